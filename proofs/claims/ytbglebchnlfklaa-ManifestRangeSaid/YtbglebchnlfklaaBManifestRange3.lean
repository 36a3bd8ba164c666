/- Ground of the statement ManifestRange, part 3: Sha12, Sha13, Sha14, ShaT, Sha17, Sha18, Man1, Bits, NumLaw, Num, Man2, Ptr, Ptr2, Ptr3, Num2, Num3, Num4, Ref01, Ptr4, Kit2, Ptr5, Ptr6, Ptr7, Man3. -/
import Derived.Laws.BitsLemmas
import Derived.Tactics
import Derived.RangeFuncFrom
import Derived.RangeFuncLeaves
import Derived.Conc.MuLone
import Derived.Deep.MidRow
import Derived.Test.YtbglebchnlfklaaBManifestRange2
namespace Go.Proofs.Ytbglebchnlfklaa
set_option maxRecDepth 100000
open Go.RowKit
set_option linter.unusedSimpArgs false
set_option linter.unusedVariables false

def lenN (n : Nat) : Nat := if n = 0 then 0 else n.log2 + 1
theorem lenN_div (n k : Nat) (h : 2 ^ k ≤ n) : lenN n = lenN (n / 2 ^ k) + k := by
  have hp : 0 < 2 ^ k := Nat.two_pow_pos k
  have hd : n / 2 ^ k ≠ 0 := by have := Nat.div_pos h hp; omega
  rw [lenN, lenN, if_neg (by omega), if_neg hd]
  have e : n.log2 = (n / 2 ^ k).log2 + k := by
    have h1 := (Nat.log2_eq_iff hd).1 rfl
    refine (Nat.log2_eq_iff (by omega)).2 ⟨?_, ?_⟩
    · rw [Nat.pow_add]; exact (Nat.le_div_iff_mul_le hp).1 h1.1
    · rw [show (n / 2 ^ k).log2 + k + 1 = ((n / 2 ^ k).log2 + 1) + k by omega, Nat.pow_add]; exact (Nat.div_lt_iff_lt_mul hp).1 h1.2
  omega
theorem lenN_le (n k : Nat) (h : n < 2 ^ k) : lenN n ≤ k := by
  rw [lenN]
  split
  · omega
  · have h2 := (Nat.log2_lt (by assumption)).2 h
    omega
theorem tab_of (t : ByteArray) (m : Nat) (h : m < t.size) (hm : m < 256) (ht : ((List.range 256).all fun i => (t.data.getD i 0).toNat == lenN i) = true) : (t[m]'h).toNat = lenN m := by
  have h1 := List.all_eq_true.1 ht m (List.mem_range.2 hm)
  have h2 := beq_iff_eq.1 h1
  rw [← h2]
  have h3 : m < t.data.size := h
  rw [Array.getD, dif_pos h3]
  rfl
set_option maxHeartbeats 1600000 in
theorem Len64_any (n : Nat) (w : World) (hn : n < 18446744073709551616) : Calls Try.prog 117 #[.int .u64 (n : Int)] w fun e w' => e = .returned (.int .i64 (lenN n : Int)) ∧ w = w' := by
  by_cases h1 : 4294967296 ≤ n
  · have i1 : (4294967296 : Int) ≤ ((n : Nat) : Int) := by omega
    have l1 := lenN_div n 32 (by omega)
    have e1 : ((n : Nat) : Int) / 4294967296 = ((n / 4294967296 : Nat) : Int) := by omega
    have b1 : n / 4294967296 < 4294967296 := by omega
    rw [show (2 : Nat) ^ 32 = 4294967296 from rfl] at l1
    generalize n / 4294967296 = m1 at *
    rw [l1]
    clear l1
    by_cases h2 : 65536 ≤ m1
    · have i2 : (65536 : Int) ≤ ((m1 : Nat) : Int) := by omega
      have l2 := lenN_div m1 16 (by omega)
      have e2 : ((m1 : Nat) : Int) / 65536 = ((m1 / 65536 : Nat) : Int) := by omega
      have b2 : m1 / 65536 < 65536 := by omega
      rw [show (2 : Nat) ^ 16 = 65536 from rfl] at l2
      generalize m1 / 65536 = m2 at *
      rw [l2]
      clear l2
      by_cases h3 : 256 ≤ m2
      · have i3 : (256 : Int) ≤ ((m2 : Nat) : Int) := by omega
        have l3 := lenN_div m2 8 (by omega)
        have e3 : ((m2 : Nat) : Int) / 256 = ((m2 / 256 : Nat) : Int) := by omega
        have b3 : m2 / 256 < 256 := by omega
        rw [show (2 : Nat) ^ 8 = 256 from rfl] at l3
        generalize m2 / 256 = m3 at *
        rw [l3]
        clear l3
        have bm : (m3 : Int) < 256 := by omega
        have b2 : (lenN m3 : Int) ≤ 8 := by have := lenN_le m3 8 (by omega); omega
        have b0 : (0 : Int) ≤ (lenN m3 : Int) := by omega
        go_enter Try.func117, Try.ntmps117
        go_wp2
        go_ret
        refine ⟨?_, rfl⟩
        rw [tab_of _ _ _ (by omega) (by decide +kernel)]
        exact congrArg (fun z => Ending.returned (.int .i64 z)) (by unfold wrap64; omega)
      · have i3 : ((256 : Int) ≤ ((m2 : Nat) : Int)) = False := eq_false (by omega)
        have bm : (m2 : Int) < 256 := by omega
        have b2 : (lenN m2 : Int) ≤ 8 := by have := lenN_le m2 8 (by omega); omega
        have b0 : (0 : Int) ≤ (lenN m2 : Int) := by omega
        go_enter Try.func117, Try.ntmps117
        go_wp2
        go_ret
        refine ⟨?_, rfl⟩
        rw [tab_of _ _ _ (by omega) (by decide +kernel)]
        exact congrArg (fun z => Ending.returned (.int .i64 z)) (by unfold wrap64; omega)
    · have i2 : ((65536 : Int) ≤ ((m1 : Nat) : Int)) = False := eq_false (by omega)
      by_cases h3 : 256 ≤ m1
      · have i3 : (256 : Int) ≤ ((m1 : Nat) : Int) := by omega
        have l3 := lenN_div m1 8 (by omega)
        have e3 : ((m1 : Nat) : Int) / 256 = ((m1 / 256 : Nat) : Int) := by omega
        have b3 : m1 / 256 < 256 := by omega
        rw [show (2 : Nat) ^ 8 = 256 from rfl] at l3
        generalize m1 / 256 = m3 at *
        rw [l3]
        clear l3
        have bm : (m3 : Int) < 256 := by omega
        have b2 : (lenN m3 : Int) ≤ 8 := by have := lenN_le m3 8 (by omega); omega
        have b0 : (0 : Int) ≤ (lenN m3 : Int) := by omega
        go_enter Try.func117, Try.ntmps117
        go_wp2
        go_ret
        refine ⟨?_, rfl⟩
        rw [tab_of _ _ _ (by omega) (by decide +kernel)]
        exact congrArg (fun z => Ending.returned (.int .i64 z)) (by unfold wrap64; omega)
      · have i3 : ((256 : Int) ≤ ((m1 : Nat) : Int)) = False := eq_false (by omega)
        have bm : (m1 : Int) < 256 := by omega
        have b2 : (lenN m1 : Int) ≤ 8 := by have := lenN_le m1 8 (by omega); omega
        have b0 : (0 : Int) ≤ (lenN m1 : Int) := by omega
        go_enter Try.func117, Try.ntmps117
        go_wp2
        go_ret
        refine ⟨?_, rfl⟩
        rw [tab_of _ _ _ (by omega) (by decide +kernel)]
        exact congrArg (fun z => Ending.returned (.int .i64 z)) (by unfold wrap64; omega)
  · have i1 : ((4294967296 : Int) ≤ ((n : Nat) : Int)) = False := eq_false (by omega)
    by_cases h2 : 65536 ≤ n
    · have i2 : (65536 : Int) ≤ ((n : Nat) : Int) := by omega
      have l2 := lenN_div n 16 (by omega)
      have e2 : ((n : Nat) : Int) / 65536 = ((n / 65536 : Nat) : Int) := by omega
      have b2 : n / 65536 < 65536 := by omega
      rw [show (2 : Nat) ^ 16 = 65536 from rfl] at l2
      generalize n / 65536 = m2 at *
      rw [l2]
      clear l2
      by_cases h3 : 256 ≤ m2
      · have i3 : (256 : Int) ≤ ((m2 : Nat) : Int) := by omega
        have l3 := lenN_div m2 8 (by omega)
        have e3 : ((m2 : Nat) : Int) / 256 = ((m2 / 256 : Nat) : Int) := by omega
        have b3 : m2 / 256 < 256 := by omega
        rw [show (2 : Nat) ^ 8 = 256 from rfl] at l3
        generalize m2 / 256 = m3 at *
        rw [l3]
        clear l3
        have bm : (m3 : Int) < 256 := by omega
        have b2 : (lenN m3 : Int) ≤ 8 := by have := lenN_le m3 8 (by omega); omega
        have b0 : (0 : Int) ≤ (lenN m3 : Int) := by omega
        go_enter Try.func117, Try.ntmps117
        go_wp2
        go_ret
        refine ⟨?_, rfl⟩
        rw [tab_of _ _ _ (by omega) (by decide +kernel)]
        exact congrArg (fun z => Ending.returned (.int .i64 z)) (by unfold wrap64; omega)
      · have i3 : ((256 : Int) ≤ ((m2 : Nat) : Int)) = False := eq_false (by omega)
        have bm : (m2 : Int) < 256 := by omega
        have b2 : (lenN m2 : Int) ≤ 8 := by have := lenN_le m2 8 (by omega); omega
        have b0 : (0 : Int) ≤ (lenN m2 : Int) := by omega
        go_enter Try.func117, Try.ntmps117
        go_wp2
        go_ret
        refine ⟨?_, rfl⟩
        rw [tab_of _ _ _ (by omega) (by decide +kernel)]
        exact congrArg (fun z => Ending.returned (.int .i64 z)) (by unfold wrap64; omega)
    · have i2 : ((65536 : Int) ≤ ((n : Nat) : Int)) = False := eq_false (by omega)
      by_cases h3 : 256 ≤ n
      · have i3 : (256 : Int) ≤ ((n : Nat) : Int) := by omega
        have l3 := lenN_div n 8 (by omega)
        have e3 : ((n : Nat) : Int) / 256 = ((n / 256 : Nat) : Int) := by omega
        have b3 : n / 256 < 256 := by omega
        rw [show (2 : Nat) ^ 8 = 256 from rfl] at l3
        generalize n / 256 = m3 at *
        rw [l3]
        clear l3
        have bm : (m3 : Int) < 256 := by omega
        have b2 : (lenN m3 : Int) ≤ 8 := by have := lenN_le m3 8 (by omega); omega
        have b0 : (0 : Int) ≤ (lenN m3 : Int) := by omega
        go_enter Try.func117, Try.ntmps117
        go_wp2
        go_ret
        refine ⟨?_, rfl⟩
        rw [tab_of _ _ _ (by omega) (by decide +kernel)]
        exact congrArg (fun z => Ending.returned (.int .i64 z)) (by unfold wrap64; omega)
      · have i3 : ((256 : Int) ≤ ((n : Nat) : Int)) = False := eq_false (by omega)
        have bm : (n : Int) < 256 := by omega
        have b2 : (lenN n : Int) ≤ 8 := by have := lenN_le n 8 (by omega); omega
        have b0 : (0 : Int) ≤ (lenN n : Int) := by omega
        go_enter Try.func117, Try.ntmps117
        go_wp2
        go_ret
        refine ⟨?_, rfl⟩
        rw [tab_of _ _ _ (by omega) (by decide +kernel)]
        exact congrArg (fun z => Ending.returned (.int .i64 z)) (by unfold wrap64; omega)
set_option maxHeartbeats 1600000 in
theorem Len_any (n : Nat) (w : World) (hn : n < 18446744073709551616) : Calls Try.prog 104 #[.int .u64 (n : Int)] w fun e w' => e = .returned (.int .i64 (lenN n : Int)) ∧ w = w' := by
  have hw : IntKind.u64.wrap (n : Int) = (n : Int) := by rw [IntKind.wrap_u64]; omega
  have HC := Lib.hid (fun W => Len64_any n W hn)
  go_enter Try.func104, Try.ntmps104
  go_wp2_with (first
    | (go_at_call 117; refine (HC.out _).mono ?_; rintro e w' ⟨rfl, rfl⟩))
  go_ret
  exact ⟨rfl, rfl⟩
end Go.Proofs.Ytbglebchnlfklaa

namespace Go.Proofs.Ytbglebchnlfklaa
set_option maxRecDepth 100000
open Go.RowKit
set_option linter.unusedSimpArgs false
set_option linter.unusedVariables false

theorem Try.info_u32w : (Try.prog.info? 24).map (fun i => (i.zero, i.size, i.bytes)) = some (some (.int .u32 0), 1, 4) := by kernel_rfl
section
variable {ops : Array Oper} {rest : List Oper} {o : Oper} {a : Act} {Q : Exit → Act → World → Prop} {F : Nat → Prop} {w0 w : World} {L : List Own}
/-- make([]uint32, n). -/
theorem exec_makeW {ρ : Operand → Value} (n : Nat) (hn : n ≤ 1000000) (l c : Operand) (ho : o.op = .makeSlice 164 l c) (hl : ρ l = .int .i64 (n : Int)) (hc : ρ c = .int .i64 (n : Int)) :
    (execOp ρ o).run Try.prog w = .ok (.value (.slice (some ⟨w.heap.size, 0, none⟩) n n)) (w.alloc (.cells ((List.replicate n (0 : UInt32)).map vw).toArray 24)) := by
  obtain ⟨i0, hi, hz0, hz1, hz2⟩ := info_parts Try.info_u32w
  have h := run_make (P := Try.prog) w 164 24 i0 (.int .u32 0) Try.underlying164 hi hz0 .i64 .i64 (n : Int) (n : Int) (by omega) (by omega) (by rw [hz2]; omega) (by omega)
  have e1 : (madeCells #[.int .u32 0] n) = ((List.replicate n (0 : UInt32)).map vw).toArray := by
    apply Array.toList_inj.mp
    rw [toList_madeCells_one]
    simp
  have e2 : ((n : Int)).toNat = n := by omega
  rw [hz1, Nat.mul_one, e2] at h
  unfold execOp
  simp only [ho, hl, hc, h, Sem.run_bind, Sem.run_pure, Result.andThen_ok]
  rw [show (Value.int IntKind.u32 0).cells = #[.int .u32 0] from rfl, e1]
theorem aMakeW (n : Nat) (hn : n ≤ 1000000) (H : SH F w0 w L) (l c : Operand) (ho : o.op = .makeSlice 164 l c) (hl : a.eval l = .int .i64 (n : Int)) (hc : a.eval c = .int .i64 (n : Int)) (hw : Region.wanted o (yielded ops a.tmps) = true)
    (h : ∀ b w', SH F w0 w' (.blk b 24 ((List.replicate n (0 : UInt32)).map vw) :: L) → wpList Try.prog ops Q rest (a.put o.dst (.slice (some ⟨b, 0, none⟩) n n)) w') : wpList Try.prog ops Q (o :: rest) a w :=
  stepV (exec_makeW n hn l c ho hl hc) hw (h _ _ (H.new _ _))
end
/-- The schedule's first t words. -/
def schW (blk : List UInt8) (t : Nat) : List UInt32 := (List.range 64).map fun i => if i < t then wT blk i else 0
theorem schW_len (blk : List UInt8) (t : Nat) : (schW blk t).length = 64 := by simp [schW]
theorem schW_zero (blk : List UInt8) : schW blk 0 = List.replicate 64 0 := by
  unfold schW
  rw [show (fun i => if i < 0 then wT blk i else 0) = fun _ => (0 : UInt32) from funext fun i => if_neg (by omega)]
  rfl
theorem schW_get (blk : List UInt8) (t i : Nat) (h : i < t) (ht : t ≤ 64) : (schW blk t)[i]? = some (wT blk i) := by
  rw [schW, List.getElem?_map, List.getElem?_range (by omega), Option.map_some, if_pos h]
theorem schW_step (blk : List UInt8) (t : Nat) (ht : t < 64) : (schW blk t).set t (wT blk t) = schW blk (t + 1) := by
  apply List.ext_getElem?
  intro j
  by_cases hj : j < 64
  · rw [schW, schW, List.getElem?_map, List.getElem?_range hj, Option.map_some]
    by_cases e : t = j
    · subst e
      rw [List.getElem?_set_self (by simpa using ht), if_pos (by omega)]
    · rw [List.getElem?_set_ne e, List.getElem?_map, List.getElem?_range hj, Option.map_some]
      by_cases e2 : j < t
      · rw [if_pos e2, if_pos (by omega)]
      · rw [if_neg e2, if_neg (by omega)]
  · rw [List.getElem?_eq_none (by simp [schW]; omega), List.getElem?_eq_none (by simp [schW]; omega)]
end Go.Proofs.Ytbglebchnlfklaa

namespace Go.Proofs.Ytbglebchnlfklaa
set_option maxRecDepth 100000
open Go.RowKit
set_option linter.unusedSimpArgs false
set_option linter.unusedVariables false

theorem shl_byte (x : UInt8) (k : Nat) (hk : k ≤ 24) : (UInt32.ofNat x.toNat <<< UInt32.ofNat k).toNat = x.toNat * 2 ^ k := by
  have hx := x.toNat_lt
  have h1 : x.toNat * 2 ^ k ≤ 255 * 2 ^ 24 := Nat.mul_le_mul (by omega) (Nat.pow_le_pow_right (by omega) hk)
  have h2 : 255 * 2 ^ 24 < 2 ^ 32 := by decide
  rw [UInt32.toNat_shiftLeft, UInt32.toNat_ofNat', UInt32.toNat_ofNat', Nat.mod_eq_of_lt (by omega : k < 2 ^ 32), Nat.mod_eq_of_lt (by omega : k < 32), Nat.mod_eq_of_lt (by omega : x.toNat < 2 ^ 32), Nat.shiftLeft_eq, Nat.mod_eq_of_lt (by omega)]
theorem orAdd (i a b : Nat) (h : a < 2 ^ i) : a ||| (b * 2 ^ i) = a + b * 2 ^ i := by
  rw [Nat.or_comm, Nat.mul_comm, ← Nat.two_pow_add_eq_or_of_lt h b, Nat.add_comm]
theorem be4_or (a b c d : UInt8) : be4 a b c d = ((UInt32.ofNat a.toNat <<< UInt32.ofNat 24 ||| UInt32.ofNat b.toNat <<< UInt32.ofNat 16) ||| UInt32.ofNat c.toNat <<< UInt32.ofNat 8) ||| UInt32.ofNat d.toNat := by
  have ha := a.toNat_lt
  have hb := b.toNat_lt
  have hc := c.toNat_lt
  have hd := d.toNat_lt
  apply UInt32.toNat_inj.1
  rw [be4, UInt32.toNat_or, UInt32.toNat_or, UInt32.toNat_or, shl_byte a 24 (by omega), shl_byte b 16 (by omega), shl_byte c 8 (by omega), UInt32.toNat_ofNat', UInt32.toNat_ofNat', Nat.mod_eq_of_lt (by omega), Nat.mod_eq_of_lt (by omega)]
  rw [Nat.or_comm (a.toNat * 2 ^ 24), orAdd 24 _ _ (by omega), show b.toNat * 2 ^ 16 + a.toNat * 2 ^ 24 = (b.toNat + a.toNat * 256) * 2 ^ 16 by omega,
    Nat.or_comm _ (c.toNat * 2 ^ 8), orAdd 16 _ _ (by omega), show c.toNat * 2 ^ 8 + (b.toNat + a.toNat * 256) * 2 ^ 16 = (c.toNat + (b.toNat + a.toNat * 256) * 256) * 2 ^ 8 by omega,
    Nat.or_comm _ d.toNat, orAdd 8 _ _ (by omega)]
  omega
end Go.Proofs.Ytbglebchnlfklaa

namespace Go.Proofs.Ytbglebchnlfklaa
set_option maxRecDepth 100000
open Go.RowKit
set_option linter.unusedSimpArgs false
set_option linter.unusedVariables false

/-- How many go to the left. -/
def halfN (n : Nat) : Nat := 2 ^ (lenN (n - 1) - 1)
theorem lenN_pos (n : Nat) (h : 0 < n) : 0 < lenN n := by rw [lenN, if_neg (by omega)]; omega
theorem lenN_low (n : Nat) (h : 0 < n) : 2 ^ (lenN n - 1) ≤ n := by
  rw [lenN, if_neg (by omega), Nat.add_sub_cancel]
  exact Nat.log2_self_le (by omega)
theorem lenN_high (n : Nat) : n < 2 ^ lenN n := by
  rw [lenN]
  split
  · subst_vars; decide
  · exact Nat.lt_log2_self
theorem lenN_is (n k : Nat) (h1 : 2 ^ k ≤ n) (h2 : n < 2 ^ (k + 1)) : lenN n = k + 1 := by
  have h0 : 0 < 2 ^ k := Nat.two_pow_pos k
  rw [lenN, if_neg (by omega), (Nat.log2_eq_iff (by omega)).2 ⟨h1, h2⟩]
theorem halfN_pos (n : Nat) : 0 < halfN n := Nat.two_pow_pos _
theorem halfN_lt (n : Nat) (h : 2 ≤ n) : halfN n < n := by have := lenN_low (n - 1) (by omega); rw [halfN]; omega
/-- The reference's way. -/
theorem halfN_is (n k : Nat) (h1 : 2 ^ k < n) (h2 : n ≤ 2 * 2 ^ k) : halfN n = 2 ^ k := by
  rw [halfN, lenN_is (n - 1) k (by omega) (by rw [Nat.pow_succ]; omega), Nat.add_sub_cancel]
def treeF : Nat → List (List UInt8) → List UInt8
  | 0, _ => List.replicate 32 0
  | f + 1, l => if l.length = 0 then List.replicate 32 0 else if l.length = 1 then l.getD 0 [] else shaL (treeF f (l.take (halfN l.length)) ++ treeF f (l.drop (halfN l.length)))
def treeL (l : List (List UInt8)) : List UInt8 := treeF l.length l
theorem treeF_eq : ∀ (f : Nat) (l : List (List UInt8)), l.length ≤ f → treeF f l = treeL l := by
  intro f
  induction f using Nat.strongRecOn with
  | ind f ih =>
    intro l hl
    rcases f with _ | f
    · have : l.length = 0 := by omega
      rw [treeL, this]
    · by_cases h0 : l.length = 0
      · rw [treeL, h0, treeF, treeF, if_pos h0]
      · obtain ⟨n, hn⟩ : ∃ n, l.length = n + 1 := ⟨l.length - 1, by omega⟩
        rw [treeL, hn, treeF, treeF, if_neg h0, if_neg h0]
        by_cases h1 : l.length = 1
        · rw [if_pos h1, if_pos h1]
        · rw [if_neg h1, if_neg h1]
          have hp := halfN_pos l.length
          have hq := halfN_lt l.length (by omega)
          have t1 : (l.take (halfN l.length)).length ≤ n := by rw [List.length_take]; omega
          have t2 : (l.drop (halfN l.length)).length ≤ n := by rw [List.length_drop]; omega
          rw [ih f (by omega) _ (by omega), ih f (by omega) _ (by omega)]
          by_cases hf : n < f + 1
          · rw [ih n hf _ t1, ih n hf _ t2]
          · have : n = f := by omega
            subst this
            rw [ih n (by omega) _ t1, ih n (by omega) _ t2]
theorem treeL_zero (l : List (List UInt8)) (h : l.length = 0) : treeL l = List.replicate 32 0 := by rw [treeL, h]; rfl
theorem treeL_one (l : List (List UInt8)) (h : l.length = 1) : treeL l = l.getD 0 [] := by rw [treeL, h, treeF, if_neg (by omega), if_pos h]
theorem treeL_many (l : List (List UInt8)) (h : 2 ≤ l.length) : treeL l = shaL (treeL (l.take (halfN l.length)) ++ treeL (l.drop (halfN l.length))) := by
  obtain ⟨n, hn⟩ : ∃ n, l.length = n + 1 := ⟨l.length - 1, by omega⟩
  have hp := halfN_pos l.length
  have hq := halfN_lt l.length (by omega)
  rw [treeL, hn, treeF, if_neg (by omega), if_neg (by omega), ← hn, treeF_eq n _ (by rw [List.length_take]; omega), treeF_eq n _ (by rw [List.length_drop]; omega)]
theorem treeL_len (l : List (List UInt8)) (h : ∀ x ∈ l, x.length = 32) : (treeL l).length = 32 := by
  by_cases h0 : l.length = 0
  · rw [treeL_zero l h0, List.length_replicate]
  · by_cases h1 : l.length = 1
    · rw [treeL_one l h1]
      match l, h1 with
      | [x], _ => exact h x (by simp)
    · rw [treeL_many l (by omega), shaL_len]
end Go.Proofs.Ytbglebchnlfklaa

namespace Go.Proofs.Ytbglebchnlfklaa
set_option maxRecDepth 100000
open Go.RowKit
set_option linter.unusedSimpArgs false
set_option linter.unusedVariables false

/-- A hash. -/
abbrev H32 := { l : List UInt8 // l.length = 32 }
theorem Try.info_h32 : (Try.prog.info? 27).map (fun i => (i.zero, i.size, i.bytes)) = some (some (.agg (List.replicate 32 (.int .u8 0)).toArray), 32, 32) := by kernel_rfl
def H32T : Ty H32 := ⟨27, 32, 32, .agg (List.replicate 32 (.int .u8 0)).toArray, fun x => x.1.map cb, fun x => by rw [List.length_map]; exact x.2, fun x u hu => by obtain ⟨y, -, rfl⟩ := List.mem_map.1 hu; rfl, by decide, by decide⟩
def hL (hs : List H32) : List (List UInt8) := hs.map (·.1)
theorem hL_len (hs : List H32) : (hL hs).length = hs.length := by rw [hL, List.length_map]
theorem hL_all (hs : List H32) : ∀ x ∈ hL hs, x.length = 32 := fun x hx => by
  obtain ⟨y, -, rfl⟩ := List.mem_map.1 hx
  exact y.2
theorem tree_hL (hs : List H32) : (treeL (hL hs)).length = 32 := treeL_len _ (hL_all hs)
theorem VA.rbn {w : World} {b : Nat} {t : TypeId} {xs : List UInt8} (h : VA w b t (xs.map cb)) (n : Nat) (hn : xs.length = n) (hm : n ≤ 1000000000) : RB w (.slice (some ⟨b, 0, none⟩) n n) xs := by
  subst hn
  exact RR.range (T := B8) (by rw [U8_all]; exact h.all) (by omega)
/-- A hash of a row that is loaded. -/
theorem RR.h32 {w : World} {ad : Addr} {n c : Nat} {hs : List H32} (h : RR H32T w (.slice (some ad) n c) hs) (i : Nat) (hi : i < hs.length) : ∀ (j : Nat) (v : Value), (hs[i].1.map cb)[j]? = some v → w.cell? ((ad.add (i * 32)).add j) = some v := by
  obtain ⟨ad', he, h1⟩ := h.at_ i hi
  injection he with he
  subst he
  intro j v hv
  have h2 := h1 j v hv
  rw [← h2]
  congr 1
  show (ad.add (i * 32)).add j = ad.add (i * 32 + j)
  unfold Addr.add
  by_cases h1 : i * 32 = 0 <;> by_cases h2 : j = 0 <;> simp [h1, h2, Nat.add_assoc]
section
variable {ops : Array Oper} {rest : List Oper} {o : Oper} {a : Act} {Q : Exit → Act → World → Prop} {w : World} {ρ : Operand → Value}
/-- A hash that is loaded from where its cells stand. -/
theorem xLoadH (y : Operand) (ho : o.op = .load 27 y) {ad : Addr} {xs : List UInt8} (hx : ρ y = .pointer (some ad)) (hl : xs.length = 32) (hc : ∀ (j : Nat) (v : Value), (xs.map cb)[j]? = some v → w.cell? (ad.add j) = some v) : (execOp ρ o).run Try.prog w = .ok (.value (.agg (xs.map cb).toArray)) w :=
  exec_loadA _ y ho ad hx _ _ hc Try.underlying27 rfl (by rw [List.length_map, hl]; kernel_rfl)
end
theorem cutH (A : Option Addr) (c n : Nat) (hs : List H32) (i : Nat) (hn : hs.length = n) (hi : i ≤ n) (hc : n ≤ c) :
    ∃ A', (∀ (kl : IntKind) (W : World), (Instr.slice 106 (.slice A n c) (some (.int kl (i : Int))) none none).run Try.prog W = .ok (.slice A' (n - i) (c - i)) W) ∧
      (∀ (kh : IntKind) (W : World), (Instr.slice 106 (.slice A n c) none (some (.int kh (i : Int))) none).run Try.prog W = .ok (.slice A i c) W) ∧
      ∀ w, RR H32T w (.slice A n c) hs → RR H32T w (.slice A' (n - i) (c - i)) (hs.drop i) ∧ RR H32T w (.slice A i c) (hs.take i) := by
  subst hn
  obtain ⟨A1, a1, a2, a3, a4⟩ := RR.cut (P := Try.prog) H32T Try.underlying106 Try.info_h32 A c hs i hs.length hi (Nat.le_refl _) hc
  obtain ⟨i0, hi0, hzz⟩ := Option.map_eq_some_iff.1 Try.info_h32
  simp only [Prod.mk.injEq] at hzz
  have ht : Try.prog.underlying 106 = some (.slice 27) := Try.underlying106
  have hel : Try.prog.elem 106 = 27 := by simp [Program.elem, ht]
  have hu : Try.prog.underlying 106 = some (.slice (Try.prog.elem 106)) := by rw [hel]; exact ht
  refine ⟨A1, fun kl W => a2 kl W rfl, fun kh W => ?_, fun w h => ⟨?_, ?_⟩⟩
  · have ha : (A.map fun x => x.add 0) = A := by cases A <;> simp [Addr.add]
    rw [run_slice_h W _ A hs.length c hu kh (i : Int) (by omega) (by omega), hel]
    simp [sizeOf, typeInfo, hi0, hzz.2.1, sliced, Result.andThen, ha]
  · have := a4 w h
    rw [List.take_length] at this
    exact this
  · obtain ⟨A2, c2, e, h1, h2, h3⟩ := h
    injection e with e1 e2 e3
    subst e1; subst e3
    have hl : (hs.take i).length = i := by rw [List.length_take]; omega
    refine ⟨A, c, by rw [hl], by omega, by omega, fun hp => ?_⟩
    obtain ⟨ad, rfl, hcell⟩ := h3 (by omega)
    refine ⟨ad, rfl, fun k u hk => hcell k u ?_⟩
    rw [← Ty.all_take, List.getElem?_take] at hk
    split at hk
    · exact hk
    · cases hk
end Go.Proofs.Ytbglebchnlfklaa

namespace Go.Proofs.Ytbglebchnlfklaa
set_option maxRecDepth 100000
open Go.RowKit
set_option linter.unusedSimpArgs false
set_option linter.unusedVariables false

/-- The hash of two hashes. -/
theorem All_two {b4 b5 : Nat} {t4 t5 : TypeId} {x1 x2 : List UInt8} (l1 : x1.length = 32) (l2 : x2.length = 32) (W : World) (h4 : VA W b4 t4 (x1.map cb)) (h5 : VA W b5 t5 (x2.map cb)) :
    Calls Try.prog 105 #[.slice (some ⟨W.heap.size, 0, none⟩) 2 2] (W.alloc (.cells #[.slice (some ⟨b4, 0, none⟩) 32 32, .slice (some ⟨b5, 0, none⟩) 32 32] 22)) fun e w' => e = .returned (.agg ((shaL (x1 ++ x2)).map cb).toArray) ∧ Below W.heap.size W w' := by
  have hr := RR.lit SVT W [(some ⟨b4, 0, none⟩, 32, 32), (some ⟨b5, 0, none⟩, 32, 32)] #[.slice (some ⟨b4, 0, none⟩) 32 32, .slice (some ⟨b5, 0, none⟩) 32 32] rfl (by simp)
  have hb := alloc_belowAt W (.cells #[.slice (some ⟨b4, 0, none⟩) 32 32, .slice (some ⟨b5, 0, none⟩) 32 32] 22)
  have hL : LB (W.alloc (.cells #[.slice (some ⟨b4, 0, none⟩) 32 32, .slice (some ⟨b5, 0, none⟩) 32 32] 22)) [(some ⟨b4, 0, none⟩, 32, 32), (some ⟨b5, 0, none⟩, 32, 32)] [x1, x2] :=
    ⟨rfl, fun i hi => by
      rcases i with _ | _ | i
      · exact (h4.rbn 32 l1 (by omega)).below hb
      · exact (h5.rbn 32 l2 (by omega)).below hb
      · exact absurd hi (by simp)⟩
  have h := All_any _ _ [x1, x2] _ hr hL (by simp [l1, l2])
  rw [show [x1, x2].flatten = x1 ++ x2 by simp] at h
  exact h.mono fun e w' ⟨h1, h2⟩ => ⟨h1, below_two hb hb.size h2⟩
set_option maxHeartbeats 3200000 in
theorem Tree_aux : ∀ (n : Nat) (hs : List H32) (v : Value) (w : World), hs.length = n → n ≤ 1000000 → RR H32T w v hs →
    Calls Try.prog 74 #[v] w fun e w' => e = .returned (.agg ((treeL (hL hs)).map cb).toArray) ∧ Below w.heap.size w w' := by
  intro n
  induction n using Nat.strongRecOn with
  | ind n ih =>
    intro hs v w hn hm hv
    have H := SH.start Nil w
    have hTL := tree_hL hs
    have hHL := hL_len hs
    obtain ⟨A, c, rfl, hc⟩ := hv.len
    rw [hn] at hv hc ⊢
    by_cases h0 : n = 0
    · subst h0
      have hz := treeL_zero (hL hs) (by omega)
      rw [hz]
      have HV := Lib.hid hv
      clear hv
      go_enter Try.func74, Try.ntmps74
      go_wp2_with (first
        | ((with_reducible refine gDst 2 ?_); refine aAlloc H rfl rfl ?_; clear H; intro b2 w2 H)
        | ((with_reducible refine gLoad ?_); first | (refine aLoad H _ rfl rfl (by first | exact part_all (by first | rfl | simp []) | (simp only [List.drop_succ_cons, List.drop_zero, List.take_succ_cons, List.take_zero]; rfl) | (simp [List.drop_append, List.take_append]; rfl)) (by first | rfl | simp []) rfl ?_))
        | ((with_reducible refine gBuild ?_); refine aZero rfl rfl ?_)
        | ((with_reducible refine gStore ?_); (first | (refine aStore H _ _ rfl rfl rfl (by (first | exact ⟨rfl, rfl⟩ | exact ⟨by decide, rfl⟩ | (simp []; done) | (constructor <;> simp [] <;> omega))) (by first | rfl | simp [List.all_append, one_all]) rfl ?_) | (refine aLay H _ _ rfl rfl rfl (by (first | exact ⟨rfl, rfl⟩ | exact ⟨by decide, rfl⟩ | (simp []; done) | (constructor <;> simp [] <;> omega))) (by first | rfl | simp [List.all_append, one_all]) (by simp only [lay, List.take_succ_cons, List.take_zero, List.drop_succ_cons, List.drop_zero, List.nil_append, List.cons_append, List.length_cons, List.length_nil, Nat.zero_add, Nat.reduceAdd]; rfl) rfl ?_)); clear H; intro w' H; try dsimp only at H))
      refine bodyPost_ret (res_cell rfl _ H.hold rfl rfl) rfl ?_
      exact ⟨rfl, H.below⟩
    · by_cases h1 : n = 1
      · subst h1
        match hs, hn with
        | [x], _ =>
          have hz : treeL (hL [x]) = x.1 := treeL_one _ rfl
          rw [hz] at hTL ⊢
          obtain ⟨ad, rfl, -⟩ := hv.at_ 0 Nat.zero_lt_one
          have hcl := hv.h32 0 Nat.zero_lt_one
          have HC := Lib.hid hcl
          have HV := Lib.hid hv
          have HTL := Lib.hid hTL
          have HTM := Lib.hid (show (x.1.map cb).length = 32 by rw [List.length_map, hTL])
          clear hv hcl hTL hHL hz
          go_enter Try.func74, Try.ntmps74
          go_wp2_with (first
            | ((with_reducible refine gDst 15 ?_); refine stepV (xLoadH _ rfl rfl HTL.out (fun j v hj => cell_below H.below (HC.out j v hj))) rfl ?_)
            | ((with_reducible refine gSto (.tmp 2) (.tmp 15) ?_); refine aStore H _ _ rfl rfl rfl ⟨by rfl, HTM.out⟩ (one_all _) rfl ?_; clear H; intro w' H; (try dsimp only at H))
            | ((with_reducible refine gDst 2 ?_); refine aAlloc H rfl rfl ?_; clear H; intro b2 w2 H)
            | ((with_reducible refine gLoad ?_); first | (refine aLoad H _ rfl rfl (by first | exact part_all (by first | rfl | simp []) | (simp only [List.drop_succ_cons, List.drop_zero, List.take_succ_cons, List.take_zero]; rfl) | (simp [List.drop_append, List.take_append]; rfl)) (by first | rfl | simp []) rfl ?_))
            | ((with_reducible refine gBuild ?_); refine aZero rfl rfl ?_)
            | ((with_reducible refine gStore ?_); (first | (refine aStore H _ _ rfl rfl rfl (by (first | exact ⟨rfl, rfl⟩ | exact ⟨by decide, rfl⟩ | (simp []; done) | (constructor <;> simp [] <;> omega))) (by first | rfl | simp [List.all_append, one_all]) rfl ?_) | (refine aLay H _ _ rfl rfl rfl (by (first | exact ⟨rfl, rfl⟩ | exact ⟨by decide, rfl⟩ | (simp []; done) | (constructor <;> simp [] <;> omega))) (by first | rfl | simp [List.all_append, one_all]) (by simp only [lay, List.take_succ_cons, List.take_zero, List.drop_succ_cons, List.drop_zero, List.nil_append, List.cons_append, List.length_cons, List.length_nil, Nat.zero_add, Nat.reduceAdd]; rfl) rfl ?_)); clear H; intro w' H; try dsimp only at H))
          refine bodyPost_ret (res_cell rfl _ H.hold rfl (by exact HTM.out)) rfl ?_
          exact ⟨rfl, H.below⟩
      · have hne0 : ((n : Int) == 0) = false := beq_eq_false_iff_ne.mpr (by omega)
        have hne1 : ((n : Int) == 1) = false := beq_eq_false_iff_ne.mpr (by omega)
        have hmany := treeL_many (hL hs) (by omega)
        rw [hHL, hn] at hmany
        obtain ⟨m, hm1⟩ : ∃ m, n = m + 1 := ⟨n - 1, by omega⟩
        have hnm : (n : Int) - 1 = (m : Int) := by omega
        have hmu : IntKind.u64.wrap (m : Int) = (m : Int) := by rw [IntKind.wrap_u64]; omega
        have hmi : IntKind.i64.wrap (m : Int) = (m : Int) := i64w _ (by omega) (by omega)
        have cL := fun W => Len_any m W (by omega)
        have hL1 := lenN_pos m (by omega)
        have hL2 := lenN_le m 20 (by omega)
        have hhp := halfN_pos n
        have hhl := halfN_lt n (by omega)
        have hhe : halfN n = 2 ^ (lenN m - 1) := by rw [halfN, hm1, Nat.add_sub_cancel]
        obtain ⟨k, hk⟩ : ∃ k, lenN m = k + 1 := ⟨lenN m - 1, by omega⟩
        rw [hk] at cL hL2 hhe
        rw [Nat.add_sub_cancel] at hhe
        have hki : ((k + 1 : Nat) : Int) - 1 = (k : Int) := by omega
        obtain ⟨L, hLk⟩ : ∃ L, L = k + 1 := ⟨_, rfl⟩
        rw [← hLk] at cL hki
        have hkw : IntKind.i64.wrap (k : Int) = (k : Int) := i64w _ (by omega) (by omega)
        generalize halfN n = h at *
        have hpw : (2 : Int) ^ k = (h : Int) := by rw [hhe]; push_cast; rfl
        have hhw : IntKind.i64.wrap (h : Int) = (h : Int) := i64w _ (by omega) (by omega)
        have hhi : (h : Int) ≤ (n : Int) := by omega
        have hkb : (k : Int) < 20 := by omega
        obtain ⟨A2, s1, s2, s3⟩ := cutH A c n hs h hn (by omega) hc
        have c1' := fun W (hr : RR H32T W (.slice A n c) hs) => ih h (by omega) (hs.take h) (.slice A h c) W (by rw [List.length_take]; omega) (by omega) (s3 W hr).2
        have c2 := fun W (hr : RR H32T W (.slice A n c) hs) => ih (n - h) (by omega) (hs.drop h) (.slice A2 (n - h) (c - h)) W (by rw [List.length_drop]; omega) (by omega) (s3 W hr).1
        have e1 : hL (hs.take h) = (hL hs).take h := List.map_take
        have e2 : hL (hs.drop h) = (hL hs).drop h := List.map_drop
        have l1 := tree_hL (hs.take h)
        have l2 := tree_hL (hs.drop h)
        rw [e1] at c1' l1
        rw [e2] at c2 l2
        have HC1 := Lib.hid c1'
        have HC2 := Lib.hid c2
        have HV := Lib.hid hv
        have HM := Lib.hid hmany
        clear c1' c2 hv hmany e1 e2 s3 hL1 hhe hLk hk hm1 hTL hHL ih
        generalize treeL ((hL hs).take h) = x1 at *
        generalize treeL ((hL hs).drop h) = x2 at *
        have HL1 := Lib.hid l1
        have HL2 := Lib.hid l2
        have HM1 := Lib.hid (show (x1.map cb).length = 32 by rw [List.length_map, l1])
        have HM2 := Lib.hid (show (x2.map cb).length = 32 by rw [List.length_map, l2])
        clear l1 l2
        go_enter Try.func74, Try.ntmps74
        go_wp2_with (first
          | (go_at_call 104; refine (cL _).mono ?_; rintro e w' ⟨rfl, rfl⟩)
          | ((with_reducible refine gDst 2 ?_); refine aAlloc H rfl rfl ?_; clear H; intro b2 w2 H)
          | ((with_reducible refine gLoad ?_); first | (refine aLoad H _ rfl rfl (by first | exact part_all (by first | rfl | simp []) | (simp only [List.drop_succ_cons, List.drop_zero, List.take_succ_cons, List.take_zero]; rfl) | (simp [List.drop_append, List.take_append]; rfl)) (by first | rfl | simp []) rfl ?_))
          | ((with_reducible refine gBuild ?_); refine aZero rfl rfl ?_)
          | ((with_reducible refine gStore ?_); (first | (refine aStore H _ _ rfl rfl rfl (by (first | exact ⟨rfl, rfl⟩ | exact ⟨by decide, rfl⟩ | (simp []; done) | (constructor <;> simp [] <;> omega))) (by first | rfl | simp [List.all_append, one_all]) rfl ?_) | (refine aLay H _ _ rfl rfl rfl (by (first | exact ⟨rfl, rfl⟩ | exact ⟨by decide, rfl⟩ | (simp []; done) | (constructor <;> simp [] <;> omega))) (by first | rfl | simp [List.all_append, one_all]) (by simp only [lay, List.take_succ_cons, List.take_zero, List.drop_succ_cons, List.drop_zero, List.nil_append, List.cons_append, List.length_cons, List.length_nil, Nat.zero_add, Nat.reduceAdd]; rfl) rfl ?_)); clear H; intro w' H; try dsimp only at H))
        refine startA (fun i => i == 10 || i == 11) (by kernel_rfl) (fun wS hS => ?_)
        replace H := H.drew
        rw [← hS] at H
        have HH := H.hold
        have HS0 : Below wS.heap.size wS wS := Below.refl _ _
        clear hS
        refine takeP 0 rfl (by kernel_rfl) (by kernel_rfl) (by kernel_rfl) (by kernel_rfl) (fun _ _ _ h => h) rfl (v := ?_) ?_ ?_
        rotate_left
        · intro w'; go_simp; (try with_reducible rfl)
        (try simp only [Act.put, List.setIfInBounds_toArray, List.set_cons_zero, List.set_cons_succ])
        refine takeP 1 rfl (by kernel_rfl) (by kernel_rfl) (by kernel_rfl) (by kernel_rfl) (fun _ _ _ h => h) rfl (v := ?_) ?_ ?_
        rotate_left
        · intro w'; go_simp; (try with_reducible rfl)
        (try simp only [Act.put, List.setIfInBounds_toArray, List.set_cons_zero, List.set_cons_succ])
        refine takeP 2 rfl (by kernel_rfl) (by kernel_rfl) (by kernel_rfl) (by kernel_rfl) (fun _ _ _ h => h) rfl (v := ?_) ?_ ?_
        rotate_left
        · intro w'; go_simp; (try with_reducible rfl)
        (try simp only [Act.put, List.setIfInBounds_toArray, List.set_cons_zero, List.set_cons_succ])
        refine takeP 4 rfl (by kernel_rfl) (by kernel_rfl) (by kernel_rfl) (by kernel_rfl) (fun _ _ _ h => h) rfl (v := ?_) ?_ ?_
        rotate_left
        · intro w'; go_simp; (try with_reducible rfl)
        (try simp only [Act.put, List.setIfInBounds_toArray, List.set_cons_zero, List.set_cons_succ])
        refine takeP 5 rfl (by kernel_rfl) (by kernel_rfl) (by kernel_rfl) (by kernel_rfl) (fun _ _ _ h => h) rfl (v := ?_) ?_ ?_
        rotate_left
        · intro w'; go_simp; (try with_reducible rfl)
        (try simp only [Act.put, List.setIfInBounds_toArray, List.set_cons_zero, List.set_cons_succ])
        refine takeP 6 rfl (by kernel_rfl) (by kernel_rfl) (by kernel_rfl) (by kernel_rfl) (fun _ _ _ h => h) rfl (v := ?_) ?_ ?_
        rotate_left
        · intro w'; go_simp; (try with_reducible rfl)
        (try simp only [Act.put, List.setIfInBounds_toArray, List.set_cons_zero, List.set_cons_succ])
        refine stepL3 3 8 9 rfl rfl rfl (by kernel_rfl) rfl rfl rfl (fun K hK => ?ord7_1_3) (fun K hK => ?ord7_1_8) (fun K hK => ?ord7_1_9)
        case' ord7_1_3 =>
          (go_simp; (with_reducible refine ((HC1.out _ (HV.out.below H.below))).mono ?_); rintro e w' ⟨rfl, hb⟩; replace H := H.step hb; replace HS0 := below_two HS0 HS0.size hb; clear hb; refine hK.out _ _ (fun _ _ => HS0) ?_; clear K hK)
          (try simp only [Act.put, List.setIfInBounds_toArray, List.set_cons_zero, List.set_cons_succ])
          refine stepL3 7 8 9 rfl rfl rfl (by kernel_rfl) rfl rfl rfl (fun K hK => ?ord7_2_7) (fun K hK => ?ord7_2_8) (fun K hK => ?ord7_2_9)
          case' ord7_2_7 =>
            (go_simp; (with_reducible refine ((HC2.out _ (HV.out.below H.below))).mono ?_); rintro e w' ⟨rfl, hb⟩; replace H := H.step hb; replace HS0 := below_two HS0 HS0.size hb; clear hb; refine hK.out _ _ (fun _ _ => HS0) ?_; clear K hK)
            (try simp only [Act.put, List.setIfInBounds_toArray, List.set_cons_zero, List.set_cons_succ])
            refine stepL2 8 9 rfl rfl (by kernel_rfl) rfl rfl (fun K hK => ?ord7_3_8) (fun K hK => ?ord7_3_9)
            case' ord7_3_8 =>
              refine oAlloc H rfl ?_; clear H; intro b4 w4 hb H; replace HS0 := below_two HS0 HS0.size hb; clear hb; refine hK.out _ _ (fun _ _ => HS0) ?_; clear K hK
              (try simp only [Act.put, List.setIfInBounds_toArray, List.set_cons_zero, List.set_cons_succ])
              refine stepL 9 rfl (by kernel_rfl) rfl (fun K hK => ?_)
              refine oAlloc H rfl ?_; clear H; intro b5 w5 hb H; replace HS0 := below_two HS0 HS0.size hb; clear hb; refine hK.out _ _ (fun _ _ => HS0) ?_; clear K hK
              (try simp only [Act.put, List.setIfInBounds_toArray, List.set_cons_zero, List.set_cons_succ])
              refine stepL 10 rfl (by kernel_rfl) rfl (fun K hK => ?_)
              (refine oStore H _ _ rfl rfl rfl ⟨by rfl, HM1.out⟩ (one_all _) ?_; clear H; intro w' H; (try dsimp only at H); refine hK.out _ _ (fun h => by cases h) ?_; clear K hK HS0)
              (try simp only [Act.put, List.setIfInBounds_toArray, List.set_cons_zero, List.set_cons_succ])
              refine stepL 11 rfl (by kernel_rfl) rfl (fun K hK => ?_)
              (refine oStore H _ _ rfl rfl rfl ⟨by rfl, HM2.out⟩ (one_all _) ?_; clear H; intro w' H; (try dsimp only at H); refine hK.out _ _ (fun h => by cases h) ?_; clear K hK)
              (try simp only [Act.put, List.setIfInBounds_toArray, List.set_cons_zero, List.set_cons_succ])
              refine doneL (by kernel_rfl) ?_
            case' ord7_3_9 =>
              refine oAlloc H rfl ?_; clear H; intro b5 w5 hb H; replace HS0 := below_two HS0 HS0.size hb; clear hb; refine hK.out _ _ (fun _ _ => HS0) ?_; clear K hK
              (try simp only [Act.put, List.setIfInBounds_toArray, List.set_cons_zero, List.set_cons_succ])
              refine stepL 8 rfl (by kernel_rfl) rfl (fun K hK => ?_)
              refine oAlloc H rfl ?_; clear H; intro b4 w4 hb H; replace HS0 := below_two HS0 HS0.size hb; clear hb; refine hK.out _ _ (fun _ _ => HS0) ?_; clear K hK
              (try simp only [Act.put, List.setIfInBounds_toArray, List.set_cons_zero, List.set_cons_succ])
              refine stepL 10 rfl (by kernel_rfl) rfl (fun K hK => ?_)
              (refine oStore H _ _ rfl rfl rfl ⟨by rfl, HM1.out⟩ (one_all _) ?_; clear H; intro w' H; (try dsimp only at H); refine hK.out _ _ (fun h => by cases h) ?_; clear K hK HS0)
              (try simp only [Act.put, List.setIfInBounds_toArray, List.set_cons_zero, List.set_cons_succ])
              refine stepL 11 rfl (by kernel_rfl) rfl (fun K hK => ?_)
              (refine oStore H _ _ rfl rfl rfl ⟨by rfl, HM2.out⟩ (one_all _) ?_; clear H; intro w' H; (try dsimp only at H); refine hK.out _ _ (fun h => by cases h) ?_; clear K hK)
              (try simp only [Act.put, List.setIfInBounds_toArray, List.set_cons_zero, List.set_cons_succ])
              refine doneL (by kernel_rfl) ?_
          case' ord7_2_8 =>
            refine oAlloc H rfl ?_; clear H; intro b4 w4 hb H; replace HS0 := below_two HS0 HS0.size hb; clear hb; refine hK.out _ _ (fun _ _ => HS0) ?_; clear K hK
            (try simp only [Act.put, List.setIfInBounds_toArray, List.set_cons_zero, List.set_cons_succ])
            refine stepL2 7 9 rfl rfl (by kernel_rfl) rfl rfl (fun K hK => ?ord7_4_7) (fun K hK => ?ord7_4_9)
            case' ord7_4_7 =>
              (go_simp; (with_reducible refine ((HC2.out _ (HV.out.below H.below))).mono ?_); rintro e w' ⟨rfl, hb⟩; replace H := H.step hb; replace HS0 := below_two HS0 HS0.size hb; clear hb; refine hK.out _ _ (fun _ _ => HS0) ?_; clear K hK)
              (try simp only [Act.put, List.setIfInBounds_toArray, List.set_cons_zero, List.set_cons_succ])
              refine stepL 9 rfl (by kernel_rfl) rfl (fun K hK => ?_)
              refine oAlloc H rfl ?_; clear H; intro b5 w5 hb H; replace HS0 := below_two HS0 HS0.size hb; clear hb; refine hK.out _ _ (fun _ _ => HS0) ?_; clear K hK
              (try simp only [Act.put, List.setIfInBounds_toArray, List.set_cons_zero, List.set_cons_succ])
              refine stepL 10 rfl (by kernel_rfl) rfl (fun K hK => ?_)
              (refine oStore H _ _ rfl rfl rfl ⟨by rfl, HM1.out⟩ (one_all _) ?_; clear H; intro w' H; (try dsimp only at H); refine hK.out _ _ (fun h => by cases h) ?_; clear K hK HS0)
              (try simp only [Act.put, List.setIfInBounds_toArray, List.set_cons_zero, List.set_cons_succ])
              refine stepL 11 rfl (by kernel_rfl) rfl (fun K hK => ?_)
              (refine oStore H _ _ rfl rfl rfl ⟨by rfl, HM2.out⟩ (one_all _) ?_; clear H; intro w' H; (try dsimp only at H); refine hK.out _ _ (fun h => by cases h) ?_; clear K hK)
              (try simp only [Act.put, List.setIfInBounds_toArray, List.set_cons_zero, List.set_cons_succ])
              refine doneL (by kernel_rfl) ?_
            case' ord7_4_9 =>
              refine oAlloc H rfl ?_; clear H; intro b5 w5 hb H; replace HS0 := below_two HS0 HS0.size hb; clear hb; refine hK.out _ _ (fun _ _ => HS0) ?_; clear K hK
              (try simp only [Act.put, List.setIfInBounds_toArray, List.set_cons_zero, List.set_cons_succ])
              refine stepL 7 rfl (by kernel_rfl) rfl (fun K hK => ?_)
              (go_simp; (with_reducible refine ((HC2.out _ (HV.out.below H.below))).mono ?_); rintro e w' ⟨rfl, hb⟩; replace H := H.step hb; replace HS0 := below_two HS0 HS0.size hb; clear hb; refine hK.out _ _ (fun _ _ => HS0) ?_; clear K hK)
              (try simp only [Act.put, List.setIfInBounds_toArray, List.set_cons_zero, List.set_cons_succ])
              refine stepL 10 rfl (by kernel_rfl) rfl (fun K hK => ?_)
              (refine oStore H _ _ rfl rfl rfl ⟨by rfl, HM1.out⟩ (one_all _) ?_; clear H; intro w' H; (try dsimp only at H); refine hK.out _ _ (fun h => by cases h) ?_; clear K hK HS0)
              (try simp only [Act.put, List.setIfInBounds_toArray, List.set_cons_zero, List.set_cons_succ])
              refine stepL 11 rfl (by kernel_rfl) rfl (fun K hK => ?_)
              (refine oStore H _ _ rfl rfl rfl ⟨by rfl, HM2.out⟩ (one_all _) ?_; clear H; intro w' H; (try dsimp only at H); refine hK.out _ _ (fun h => by cases h) ?_; clear K hK)
              (try simp only [Act.put, List.setIfInBounds_toArray, List.set_cons_zero, List.set_cons_succ])
              refine doneL (by kernel_rfl) ?_
          case' ord7_2_9 =>
            refine oAlloc H rfl ?_; clear H; intro b5 w5 hb H; replace HS0 := below_two HS0 HS0.size hb; clear hb; refine hK.out _ _ (fun _ _ => HS0) ?_; clear K hK
            (try simp only [Act.put, List.setIfInBounds_toArray, List.set_cons_zero, List.set_cons_succ])
            refine stepL2 7 8 rfl rfl (by kernel_rfl) rfl rfl (fun K hK => ?ord7_5_7) (fun K hK => ?ord7_5_8)
            case' ord7_5_7 =>
              (go_simp; (with_reducible refine ((HC2.out _ (HV.out.below H.below))).mono ?_); rintro e w' ⟨rfl, hb⟩; replace H := H.step hb; replace HS0 := below_two HS0 HS0.size hb; clear hb; refine hK.out _ _ (fun _ _ => HS0) ?_; clear K hK)
              (try simp only [Act.put, List.setIfInBounds_toArray, List.set_cons_zero, List.set_cons_succ])
              refine stepL 8 rfl (by kernel_rfl) rfl (fun K hK => ?_)
              refine oAlloc H rfl ?_; clear H; intro b4 w4 hb H; replace HS0 := below_two HS0 HS0.size hb; clear hb; refine hK.out _ _ (fun _ _ => HS0) ?_; clear K hK
              (try simp only [Act.put, List.setIfInBounds_toArray, List.set_cons_zero, List.set_cons_succ])
              refine stepL 10 rfl (by kernel_rfl) rfl (fun K hK => ?_)
              (refine oStore H _ _ rfl rfl rfl ⟨by rfl, HM1.out⟩ (one_all _) ?_; clear H; intro w' H; (try dsimp only at H); refine hK.out _ _ (fun h => by cases h) ?_; clear K hK HS0)
              (try simp only [Act.put, List.setIfInBounds_toArray, List.set_cons_zero, List.set_cons_succ])
              refine stepL 11 rfl (by kernel_rfl) rfl (fun K hK => ?_)
              (refine oStore H _ _ rfl rfl rfl ⟨by rfl, HM2.out⟩ (one_all _) ?_; clear H; intro w' H; (try dsimp only at H); refine hK.out _ _ (fun h => by cases h) ?_; clear K hK)
              (try simp only [Act.put, List.setIfInBounds_toArray, List.set_cons_zero, List.set_cons_succ])
              refine doneL (by kernel_rfl) ?_
            case' ord7_5_8 =>
              refine oAlloc H rfl ?_; clear H; intro b4 w4 hb H; replace HS0 := below_two HS0 HS0.size hb; clear hb; refine hK.out _ _ (fun _ _ => HS0) ?_; clear K hK
              (try simp only [Act.put, List.setIfInBounds_toArray, List.set_cons_zero, List.set_cons_succ])
              refine stepL 7 rfl (by kernel_rfl) rfl (fun K hK => ?_)
              (go_simp; (with_reducible refine ((HC2.out _ (HV.out.below H.below))).mono ?_); rintro e w' ⟨rfl, hb⟩; replace H := H.step hb; replace HS0 := below_two HS0 HS0.size hb; clear hb; refine hK.out _ _ (fun _ _ => HS0) ?_; clear K hK)
              (try simp only [Act.put, List.setIfInBounds_toArray, List.set_cons_zero, List.set_cons_succ])
              refine stepL 10 rfl (by kernel_rfl) rfl (fun K hK => ?_)
              (refine oStore H _ _ rfl rfl rfl ⟨by rfl, HM1.out⟩ (one_all _) ?_; clear H; intro w' H; (try dsimp only at H); refine hK.out _ _ (fun h => by cases h) ?_; clear K hK HS0)
              (try simp only [Act.put, List.setIfInBounds_toArray, List.set_cons_zero, List.set_cons_succ])
              refine stepL 11 rfl (by kernel_rfl) rfl (fun K hK => ?_)
              (refine oStore H _ _ rfl rfl rfl ⟨by rfl, HM2.out⟩ (one_all _) ?_; clear H; intro w' H; (try dsimp only at H); refine hK.out _ _ (fun h => by cases h) ?_; clear K hK)
              (try simp only [Act.put, List.setIfInBounds_toArray, List.set_cons_zero, List.set_cons_succ])
              refine doneL (by kernel_rfl) ?_
        case' ord7_1_8 =>
          refine oAlloc H rfl ?_; clear H; intro b4 w4 hb H; replace HS0 := below_two HS0 HS0.size hb; clear hb; refine hK.out _ _ (fun _ _ => HS0) ?_; clear K hK
          (try simp only [Act.put, List.setIfInBounds_toArray, List.set_cons_zero, List.set_cons_succ])
          refine stepL2 3 9 rfl rfl (by kernel_rfl) rfl rfl (fun K hK => ?ord7_6_3) (fun K hK => ?ord7_6_9)
          case' ord7_6_3 =>
            (go_simp; (with_reducible refine ((HC1.out _ (HV.out.below H.below))).mono ?_); rintro e w' ⟨rfl, hb⟩; replace H := H.step hb; replace HS0 := below_two HS0 HS0.size hb; clear hb; refine hK.out _ _ (fun _ _ => HS0) ?_; clear K hK)
            (try simp only [Act.put, List.setIfInBounds_toArray, List.set_cons_zero, List.set_cons_succ])
            refine stepL2 7 9 rfl rfl (by kernel_rfl) rfl rfl (fun K hK => ?ord7_7_7) (fun K hK => ?ord7_7_9)
            case' ord7_7_7 =>
              (go_simp; (with_reducible refine ((HC2.out _ (HV.out.below H.below))).mono ?_); rintro e w' ⟨rfl, hb⟩; replace H := H.step hb; replace HS0 := below_two HS0 HS0.size hb; clear hb; refine hK.out _ _ (fun _ _ => HS0) ?_; clear K hK)
              (try simp only [Act.put, List.setIfInBounds_toArray, List.set_cons_zero, List.set_cons_succ])
              refine stepL 9 rfl (by kernel_rfl) rfl (fun K hK => ?_)
              refine oAlloc H rfl ?_; clear H; intro b5 w5 hb H; replace HS0 := below_two HS0 HS0.size hb; clear hb; refine hK.out _ _ (fun _ _ => HS0) ?_; clear K hK
              (try simp only [Act.put, List.setIfInBounds_toArray, List.set_cons_zero, List.set_cons_succ])
              refine stepL 10 rfl (by kernel_rfl) rfl (fun K hK => ?_)
              (refine oStore H _ _ rfl rfl rfl ⟨by rfl, HM1.out⟩ (one_all _) ?_; clear H; intro w' H; (try dsimp only at H); refine hK.out _ _ (fun h => by cases h) ?_; clear K hK HS0)
              (try simp only [Act.put, List.setIfInBounds_toArray, List.set_cons_zero, List.set_cons_succ])
              refine stepL 11 rfl (by kernel_rfl) rfl (fun K hK => ?_)
              (refine oStore H _ _ rfl rfl rfl ⟨by rfl, HM2.out⟩ (one_all _) ?_; clear H; intro w' H; (try dsimp only at H); refine hK.out _ _ (fun h => by cases h) ?_; clear K hK)
              (try simp only [Act.put, List.setIfInBounds_toArray, List.set_cons_zero, List.set_cons_succ])
              refine doneL (by kernel_rfl) ?_
            case' ord7_7_9 =>
              refine oAlloc H rfl ?_; clear H; intro b5 w5 hb H; replace HS0 := below_two HS0 HS0.size hb; clear hb; refine hK.out _ _ (fun _ _ => HS0) ?_; clear K hK
              (try simp only [Act.put, List.setIfInBounds_toArray, List.set_cons_zero, List.set_cons_succ])
              refine stepL 7 rfl (by kernel_rfl) rfl (fun K hK => ?_)
              (go_simp; (with_reducible refine ((HC2.out _ (HV.out.below H.below))).mono ?_); rintro e w' ⟨rfl, hb⟩; replace H := H.step hb; replace HS0 := below_two HS0 HS0.size hb; clear hb; refine hK.out _ _ (fun _ _ => HS0) ?_; clear K hK)
              (try simp only [Act.put, List.setIfInBounds_toArray, List.set_cons_zero, List.set_cons_succ])
              refine stepL 10 rfl (by kernel_rfl) rfl (fun K hK => ?_)
              (refine oStore H _ _ rfl rfl rfl ⟨by rfl, HM1.out⟩ (one_all _) ?_; clear H; intro w' H; (try dsimp only at H); refine hK.out _ _ (fun h => by cases h) ?_; clear K hK HS0)
              (try simp only [Act.put, List.setIfInBounds_toArray, List.set_cons_zero, List.set_cons_succ])
              refine stepL 11 rfl (by kernel_rfl) rfl (fun K hK => ?_)
              (refine oStore H _ _ rfl rfl rfl ⟨by rfl, HM2.out⟩ (one_all _) ?_; clear H; intro w' H; (try dsimp only at H); refine hK.out _ _ (fun h => by cases h) ?_; clear K hK)
              (try simp only [Act.put, List.setIfInBounds_toArray, List.set_cons_zero, List.set_cons_succ])
              refine doneL (by kernel_rfl) ?_
          case' ord7_6_9 =>
            refine oAlloc H rfl ?_; clear H; intro b5 w5 hb H; replace HS0 := below_two HS0 HS0.size hb; clear hb; refine hK.out _ _ (fun _ _ => HS0) ?_; clear K hK
            (try simp only [Act.put, List.setIfInBounds_toArray, List.set_cons_zero, List.set_cons_succ])
            refine stepL 3 rfl (by kernel_rfl) rfl (fun K hK => ?_)
            (go_simp; (with_reducible refine ((HC1.out _ (HV.out.below H.below))).mono ?_); rintro e w' ⟨rfl, hb⟩; replace H := H.step hb; replace HS0 := below_two HS0 HS0.size hb; clear hb; refine hK.out _ _ (fun _ _ => HS0) ?_; clear K hK)
            (try simp only [Act.put, List.setIfInBounds_toArray, List.set_cons_zero, List.set_cons_succ])
            refine stepL 7 rfl (by kernel_rfl) rfl (fun K hK => ?_)
            (go_simp; (with_reducible refine ((HC2.out _ (HV.out.below H.below))).mono ?_); rintro e w' ⟨rfl, hb⟩; replace H := H.step hb; replace HS0 := below_two HS0 HS0.size hb; clear hb; refine hK.out _ _ (fun _ _ => HS0) ?_; clear K hK)
            (try simp only [Act.put, List.setIfInBounds_toArray, List.set_cons_zero, List.set_cons_succ])
            refine stepL 10 rfl (by kernel_rfl) rfl (fun K hK => ?_)
            (refine oStore H _ _ rfl rfl rfl ⟨by rfl, HM1.out⟩ (one_all _) ?_; clear H; intro w' H; (try dsimp only at H); refine hK.out _ _ (fun h => by cases h) ?_; clear K hK HS0)
            (try simp only [Act.put, List.setIfInBounds_toArray, List.set_cons_zero, List.set_cons_succ])
            refine stepL 11 rfl (by kernel_rfl) rfl (fun K hK => ?_)
            (refine oStore H _ _ rfl rfl rfl ⟨by rfl, HM2.out⟩ (one_all _) ?_; clear H; intro w' H; (try dsimp only at H); refine hK.out _ _ (fun h => by cases h) ?_; clear K hK)
            (try simp only [Act.put, List.setIfInBounds_toArray, List.set_cons_zero, List.set_cons_succ])
            refine doneL (by kernel_rfl) ?_
        case' ord7_1_9 =>
          refine oAlloc H rfl ?_; clear H; intro b5 w5 hb H; replace HS0 := below_two HS0 HS0.size hb; clear hb; refine hK.out _ _ (fun _ _ => HS0) ?_; clear K hK
          (try simp only [Act.put, List.setIfInBounds_toArray, List.set_cons_zero, List.set_cons_succ])
          refine stepL2 3 8 rfl rfl (by kernel_rfl) rfl rfl (fun K hK => ?ord7_8_3) (fun K hK => ?ord7_8_8)
          case' ord7_8_3 =>
            (go_simp; (with_reducible refine ((HC1.out _ (HV.out.below H.below))).mono ?_); rintro e w' ⟨rfl, hb⟩; replace H := H.step hb; replace HS0 := below_two HS0 HS0.size hb; clear hb; refine hK.out _ _ (fun _ _ => HS0) ?_; clear K hK)
            (try simp only [Act.put, List.setIfInBounds_toArray, List.set_cons_zero, List.set_cons_succ])
            refine stepL2 7 8 rfl rfl (by kernel_rfl) rfl rfl (fun K hK => ?ord7_9_7) (fun K hK => ?ord7_9_8)
            case' ord7_9_7 =>
              (go_simp; (with_reducible refine ((HC2.out _ (HV.out.below H.below))).mono ?_); rintro e w' ⟨rfl, hb⟩; replace H := H.step hb; replace HS0 := below_two HS0 HS0.size hb; clear hb; refine hK.out _ _ (fun _ _ => HS0) ?_; clear K hK)
              (try simp only [Act.put, List.setIfInBounds_toArray, List.set_cons_zero, List.set_cons_succ])
              refine stepL 8 rfl (by kernel_rfl) rfl (fun K hK => ?_)
              refine oAlloc H rfl ?_; clear H; intro b4 w4 hb H; replace HS0 := below_two HS0 HS0.size hb; clear hb; refine hK.out _ _ (fun _ _ => HS0) ?_; clear K hK
              (try simp only [Act.put, List.setIfInBounds_toArray, List.set_cons_zero, List.set_cons_succ])
              refine stepL 10 rfl (by kernel_rfl) rfl (fun K hK => ?_)
              (refine oStore H _ _ rfl rfl rfl ⟨by rfl, HM1.out⟩ (one_all _) ?_; clear H; intro w' H; (try dsimp only at H); refine hK.out _ _ (fun h => by cases h) ?_; clear K hK HS0)
              (try simp only [Act.put, List.setIfInBounds_toArray, List.set_cons_zero, List.set_cons_succ])
              refine stepL 11 rfl (by kernel_rfl) rfl (fun K hK => ?_)
              (refine oStore H _ _ rfl rfl rfl ⟨by rfl, HM2.out⟩ (one_all _) ?_; clear H; intro w' H; (try dsimp only at H); refine hK.out _ _ (fun h => by cases h) ?_; clear K hK)
              (try simp only [Act.put, List.setIfInBounds_toArray, List.set_cons_zero, List.set_cons_succ])
              refine doneL (by kernel_rfl) ?_
            case' ord7_9_8 =>
              refine oAlloc H rfl ?_; clear H; intro b4 w4 hb H; replace HS0 := below_two HS0 HS0.size hb; clear hb; refine hK.out _ _ (fun _ _ => HS0) ?_; clear K hK
              (try simp only [Act.put, List.setIfInBounds_toArray, List.set_cons_zero, List.set_cons_succ])
              refine stepL 7 rfl (by kernel_rfl) rfl (fun K hK => ?_)
              (go_simp; (with_reducible refine ((HC2.out _ (HV.out.below H.below))).mono ?_); rintro e w' ⟨rfl, hb⟩; replace H := H.step hb; replace HS0 := below_two HS0 HS0.size hb; clear hb; refine hK.out _ _ (fun _ _ => HS0) ?_; clear K hK)
              (try simp only [Act.put, List.setIfInBounds_toArray, List.set_cons_zero, List.set_cons_succ])
              refine stepL 10 rfl (by kernel_rfl) rfl (fun K hK => ?_)
              (refine oStore H _ _ rfl rfl rfl ⟨by rfl, HM1.out⟩ (one_all _) ?_; clear H; intro w' H; (try dsimp only at H); refine hK.out _ _ (fun h => by cases h) ?_; clear K hK HS0)
              (try simp only [Act.put, List.setIfInBounds_toArray, List.set_cons_zero, List.set_cons_succ])
              refine stepL 11 rfl (by kernel_rfl) rfl (fun K hK => ?_)
              (refine oStore H _ _ rfl rfl rfl ⟨by rfl, HM2.out⟩ (one_all _) ?_; clear H; intro w' H; (try dsimp only at H); refine hK.out _ _ (fun h => by cases h) ?_; clear K hK)
              (try simp only [Act.put, List.setIfInBounds_toArray, List.set_cons_zero, List.set_cons_succ])
              refine doneL (by kernel_rfl) ?_
          case' ord7_8_8 =>
            refine oAlloc H rfl ?_; clear H; intro b4 w4 hb H; replace HS0 := below_two HS0 HS0.size hb; clear hb; refine hK.out _ _ (fun _ _ => HS0) ?_; clear K hK
            (try simp only [Act.put, List.setIfInBounds_toArray, List.set_cons_zero, List.set_cons_succ])
            refine stepL 3 rfl (by kernel_rfl) rfl (fun K hK => ?_)
            (go_simp; (with_reducible refine ((HC1.out _ (HV.out.below H.below))).mono ?_); rintro e w' ⟨rfl, hb⟩; replace H := H.step hb; replace HS0 := below_two HS0 HS0.size hb; clear hb; refine hK.out _ _ (fun _ _ => HS0) ?_; clear K hK)
            (try simp only [Act.put, List.setIfInBounds_toArray, List.set_cons_zero, List.set_cons_succ])
            refine stepL 7 rfl (by kernel_rfl) rfl (fun K hK => ?_)
            (go_simp; (with_reducible refine ((HC2.out _ (HV.out.below H.below))).mono ?_); rintro e w' ⟨rfl, hb⟩; replace H := H.step hb; replace HS0 := below_two HS0 HS0.size hb; clear hb; refine hK.out _ _ (fun _ _ => HS0) ?_; clear K hK)
            (try simp only [Act.put, List.setIfInBounds_toArray, List.set_cons_zero, List.set_cons_succ])
            refine stepL 10 rfl (by kernel_rfl) rfl (fun K hK => ?_)
            (refine oStore H _ _ rfl rfl rfl ⟨by rfl, HM1.out⟩ (one_all _) ?_; clear H; intro w' H; (try dsimp only at H); refine hK.out _ _ (fun h => by cases h) ?_; clear K hK HS0)
            (try simp only [Act.put, List.setIfInBounds_toArray, List.set_cons_zero, List.set_cons_succ])
            refine stepL 11 rfl (by kernel_rfl) rfl (fun K hK => ?_)
            (refine oStore H _ _ rfl rfl rfl ⟨by rfl, HM2.out⟩ (one_all _) ?_; clear H; intro w' H; (try dsimp only at H); refine hK.out _ _ (fun h => by cases h) ?_; clear K hK)
            (try simp only [Act.put, List.setIfInBounds_toArray, List.set_cons_zero, List.set_cons_succ])
            refine doneL (by kernel_rfl) ?_
        all_goals
          go_wp2
          refine startA (fun i => i == 4) (by kernel_rfl) (fun wS hS => ?_)
          replace H := H.drew
          rw [← hS] at H
          have HH := H.hold
          have HS0 : Below wS.heap.size wS wS := Below.refl _ _
          clear hS
          refine takeP 0 rfl (by kernel_rfl) (by kernel_rfl) (by kernel_rfl) (by kernel_rfl) (fun _ _ _ h => h) rfl (v := ?_) ?_ ?_
          rotate_left
          · intro w'; go_simp; (try with_reducible rfl)
          (try simp only [Act.put, List.setIfInBounds_toArray, List.set_cons_zero, List.set_cons_succ])
          refine takeP 1 rfl (by kernel_rfl) (by kernel_rfl) (by kernel_rfl) (by kernel_rfl) (fun _ _ _ h => h) rfl (v := ?_) ?_ ?_
          rotate_left
          · intro w'; go_simp; (try with_reducible rfl)
          (try simp only [Act.put, List.setIfInBounds_toArray, List.set_cons_zero, List.set_cons_succ])
          refine stepL 2 rfl (by kernel_rfl) rfl (fun K hK => ?_)
          (go_simp; refine hK.out _ _ (fun _ _ => below_two HS0 HS0.size (alloc_belowAt _ _)) ?_; clear K hK)
          (try simp only [Act.put, List.setIfInBounds_toArray, List.set_cons_zero, List.set_cons_succ])
          refine stepL 3 rfl (by kernel_rfl) rfl (fun K hK => ?_)
          (go_simp; (with_reducible refine ((All_two HL1.out HL2.out _ (H.hold.va (b := b4)) (H.hold.va (b := b5)))).mono ?_); rintro e w' ⟨rfl, hb⟩; replace H := H.step hb; replace HS0 := below_two HS0 HS0.size hb; clear hb; refine hK.out _ _ (fun _ _ => HS0) ?_; clear K hK)
          (try simp only [Act.put, List.setIfInBounds_toArray, List.set_cons_zero, List.set_cons_succ])
          refine stepL 4 rfl (by kernel_rfl) rfl (fun K hK => ?_)
          (refine oStore H _ _ rfl rfl rfl ⟨by rfl, by rw [List.length_map, shaL_len]⟩ (one_all _) ?_; clear H; intro w' H; (try dsimp only at H); refine hK.out _ _ (fun h => by cases h) ?_; clear K hK HS0)
          (try simp only [Act.put, List.setIfInBounds_toArray, List.set_cons_zero, List.set_cons_succ])
          refine doneL (by kernel_rfl) ?_
          go_wp2
          refine bodyPost_ret (res_cell rfl _ H.hold rfl (by rw [List.length_map, shaL_len])) rfl ?_
          exact ⟨by rw [HM.out], H.below⟩
theorem Tree_any (hs : List H32) (v : Value) (w : World) (hm : hs.length ≤ 1000000) (hv : RR H32T w v hs) :
    Calls Try.prog 74 #[v] w fun e w' => e = .returned (.agg ((treeL (hL hs)).map cb).toArray) ∧ Below w.heap.size w w' := Tree_aux _ hs v w rfl hm hv
end Go.Proofs.Ytbglebchnlfklaa

namespace Go.Proofs.Ytbglebchnlfklaa
set_option maxRecDepth 100000
open Go.RowKit
set_option linter.unusedSimpArgs false
set_option linter.unusedVariables false

section
variable {ops : Array Oper} {rest : List Oper} {o : Oper} {a : Act} {Q : Exit → Act → World → Prop} {F : Nat → Prop} {w0 w : World} {L : List Own}
/-- make([]byte, n). -/
theorem exec_makeB {ρ : Operand → Value} (n : Nat) (hn : n ≤ 1000000) (l c : Operand) (ho : o.op = .makeSlice 22 l c) (hl : ρ l = .int .i64 (n : Int)) (hc : ρ c = .int .i64 (n : Int)) :
    (execOp ρ o).run Try.prog w = .ok (.value (.slice (some ⟨w.heap.size, 0, none⟩) n n)) (w.alloc (.cells ((List.replicate n (0 : UInt8)).map cb).toArray 5)) := by
  obtain ⟨i0, hi, hz0, hz1, hz2⟩ := info_parts Try.info_u8
  have h := run_make (P := Try.prog) w 22 5 i0 (.int .u8 0) Try.underlying22 hi hz0 .i64 .i64 (n : Int) (n : Int) (by omega) (by omega) (by rw [hz2]; omega) (by omega)
  have e1 : (madeCells #[.int .u8 0] n) = ((List.replicate n (0 : UInt8)).map cb).toArray := by
    apply Array.toList_inj.mp
    rw [toList_madeCells_one]
    simp [cb]
  have e2 : ((n : Int)).toNat = n := by omega
  rw [hz1, Nat.mul_one, e2] at h
  unfold execOp
  simp only [ho, hl, hc, h, Sem.run_bind, Sem.run_pure, Result.andThen_ok]
  rw [show (Value.int IntKind.u8 0).cells = #[.int .u8 0] from rfl, e1]
theorem madeB (H : SH F w0 w L) (n : Nat) (hn : n ≤ 1000000) : SH F w0 (w.alloc (.cells ((List.replicate n (0 : UInt8)).map cb).toArray 5)) (.row B8 (.slice (some ⟨w.heap.size, 0, none⟩) n n) (List.replicate n 0) :: L) :=
  H.pushRow (alloc_belowAt w _) (by
    have h := OB.ofVA (base := w.heap.size) (xs := List.replicate n 0) (VA.new w ((List.replicate n (0 : UInt8)).map cb) 5) (Nat.le_refl _) (by simp; omega)
    rw [List.length_replicate] at h
    exact h)
theorem aMakeB (n : Nat) (hn : n ≤ 1000000) (H : SH F w0 w L) (l c : Operand) (ho : o.op = .makeSlice 22 l c) (hl : a.eval l = .int .i64 (n : Int)) (hc : a.eval c = .int .i64 (n : Int)) (hw : Region.wanted o (yielded ops a.tmps) = true)
    (h : ∀ b w', SH F w0 w' (.row B8 (.slice (some ⟨b, 0, none⟩) n n) (List.replicate n 0) :: L) → wpList Try.prog ops Q rest (a.put o.dst (.slice (some ⟨b, 0, none⟩) n n)) w') : wpList Try.prog ops Q (o :: rest) a w :=
  stepV (exec_makeB n hn l c ho hl hc) hw (h _ _ (madeB H n hn))
end
/-- A disk, nothing waiting, no fuse. -/
def dC (ad : Addr) (N : Nat) : List Value := [.slice (some ad) N N, .slice none 0 0, .int .i64 (-1), .bool false]
set_option maxHeartbeats 1600000 in
theorem diskNew_any (n : Nat) (h1 : 16 ≤ n) (h2 : n ≤ 512) (w : World) : Calls Try.prog 76 #[.int .i64 (n : Int)] w fun e w' => ∃ bd bo, e = .returned (.tuple #[.pointer (some ⟨bd, 0, none⟩), .int .i64 0]) ∧ SH Nil w w' [.blk bd 146 (dC ⟨bo, 0, none⟩ (n * 256)), .row B8 (.slice (some ⟨bo, 0, none⟩) (n * 256) (n * 256)) (List.replicate (n * 256) 0)] := by
  have H := SH.start Nil w
  have i1 : ((n : Int) < 16) = False := eq_false (by omega)
  have i2 : ((512 : Int) < (n : Int)) = False := eq_false (by omega)
  obtain ⟨N, hN⟩ : ∃ N, N = n * 256 := ⟨_, rfl⟩
  have hm : (n : Int) * 256 = (N : Int) := by omega
  have hw : IntKind.i64.wrap (N : Int) = (N : Int) := i64w _ (by omega) (by omega)
  rw [← hN]
  have hNl : N ≤ 1000000 := by omega
  have HN := Lib.hid hN
  clear hN
  go_enter Try.func76, Try.ntmps76
  go_wp2_with (first
    | ((with_reducible refine gDst 12 ?_); refine aMakeB N hNl H _ _ rfl rfl rfl rfl ?_; clear H; intro b12 w12 H; (try dsimp only at H))
    | ((with_reducible refine gDst 13 ?_); refine aBuildC _ _ rfl (dC ⟨b12, 0, none⟩ N) (by rfl) rfl ?_)
    | ((with_reducible refine gDst 14 ?_); refine aBox H _ rfl rfl rfl ?_; clear H; intro b14 w14 H))
  go_ret2
  exact ⟨_, _, rfl, H⟩
set_option maxHeartbeats 1600000 in
theorem diskLen_any (bd : Nat) (ad : Addr) (n N : Nat) (hN : N = n * 256) (hn : n ≤ 512) (w : World) (hv : VA w bd 146 (dC ad N)) : Calls Try.prog 144 #[.pointer (some ⟨bd, 0, none⟩)] w fun e w' => e = .returned (.int .i64 (n : Int)) ∧ w = w' := by
  have hc := hv.cell 0
  have hq : (N : Int).tdiv 256 = (n : Int) := by rw [Int.tdiv_eq_ediv_of_nonneg (by omega)]; omega
  have hNb : (N : Int) ≤ 131072 := by omega
  have HV := Lib.hid hv
  have HN := Lib.hid hN
  clear hv hN
  change _ = some (Value.slice (some ad) N N) at hc
  go_enter Try.func144, Try.ntmps144
  go_wp2_with (first
    | ((with_reducible refine gDst 8 ?_); refine aLoadC _ rfl rfl hc rfl ?_))
  go_ret
  exact ⟨rfl, rfl⟩
set_option maxHeartbeats 1600000 in
theorem diskHas_any (bd : Nat) (ad : Addr) (n N : Nat) (hN : N = n * 256) (hn : n ≤ 512) (i : Nat) (hi : i < n) (w : World) (hv : VA w bd 146 (dC ad N)) : Calls Try.prog 141 #[.pointer (some ⟨bd, 0, none⟩), .int .i64 (i : Int)] w fun e w' => e = .returned (.bool true) ∧ w = w' := by
  have hii : (i : Int) < (n : Int) := by omega
  have HC := Lib.hid (diskLen_any bd ad n N hN hn w hv)
  clear hv hN
  go_enter Try.func141, Try.ntmps141
  go_wp2_with (first
    | (go_at_call 144; refine HC.out.mono ?_; rintro e w' ⟨rfl, rfl⟩))
  go_ret
  exact ⟨rfl, rfl⟩
set_option maxHeartbeats 1600000 in
theorem diskSector_any (bd : Nat) (ad : Addr) (n N : Nat) (hN : N = n * 256) (hn : n ≤ 512) (i : Nat) (hi : i < n) (on : List UInt8) (hon : on.length = N) (w : World) (hv : VA w bd 146 (dC ad N)) (hr : RB w (.slice (some ad) N N) on) :
    Calls Try.prog 143 #[.pointer (some ⟨bd, 0, none⟩), .int .i64 (i : Int)] w fun e w' => ∃ A c, e = .returned (.slice A 256 c) ∧ RB w (.slice A 256 c) ((on.drop (i * 256)).take 256) ∧ w = w' := by
  have hc := hv.cell 0
  change _ = some (Value.slice (some ad) N N) at hc
  obtain ⟨u, hu⟩ : ∃ u, u = i * 256 := ⟨_, rfl⟩
  obtain ⟨e, he⟩ : ∃ e, e = u + 256 := ⟨_, rfl⟩
  have heN : e ≤ N := by omega
  obtain ⟨A1, s1, -, -, s4⟩ := cutB (some ad) N on u e (by omega) (by rw [hon]; exact heN) (by omega)
  rw [hon] at s1 s4
  have heu : e - u = 256 := by omega
  have hcut : (on.take e).drop u = (on.drop (i * 256)).take 256 := by rw [List.drop_take, heu, hu]
  rw [heu] at s1 s4
  rw [hcut] at s4
  have S4 := Lib.hid (s4 w hr)
  have m1 : (i : Int) * 256 = (u : Int) := by omega
  have m2 : ((i : Int) + 1) * 256 = (e : Int) := by omega
  have k1 : IntKind.i64.wrap (u : Int) = (u : Int) := i64w _ (by omega) (by omega)
  have k2 : IntKind.i64.wrap (e : Int) = (e : Int) := i64w _ (by omega) (by omega)
  have hib : (i : Int) ≤ 512 := by omega
  clear hv hr s4 hcut heu hu he heN hN hon
  go_enter Try.func143, Try.ntmps143
  go_wp2_with (first
    | ((with_reducible refine gDst 8 ?_); refine aLoadC _ rfl rfl hc rfl ?_))
  go_ret
  exact ⟨_, _, rfl, S4.out, rfl⟩
end Go.Proofs.Ytbglebchnlfklaa

namespace Go.Proofs.Ytbglebchnlfklaa
set_option maxRecDepth 100000

theorem bits_nats (k : IntKind) (hk : k.signed = false) (a b : Nat) (ha : a < 2 ^ k.bits) (hb : b < 2 ^ k.bits) :
    bits .and k a b = ((a &&& b : Nat) : Int) ∧ bits .or k a b = ((a ||| b : Nat) : Int) ∧ bits .xor k a b = ((a ^^^ b : Nat) : Int) := by
  have ha' : a % 2 ^ k.bits = a := Nat.mod_eq_of_lt ha
  have hb' : b % 2 ^ k.bits = b := Nat.mod_eq_of_lt hb
  have hw : ∀ n : Nat, n < 2 ^ k.bits → k.wrap (n : Int) = n := fun n h => by
    unfold IntKind.wrap
    rw [hk]
    simp only [Bool.false_and, if_false, Bool.false_eq_true]
    exact Int.emod_eq_of_lt (Int.natCast_nonneg _) (by exact_mod_cast h)
  refine ⟨?_, ?_, ?_⟩
  · simp only [bits, BitVec.ofInt_natCast, BitVec.toNat_and, BitVec.toNat_ofNat, ha', hb']
    exact hw _ (Nat.and_lt_two_pow _ hb)
  · simp only [bits, BitVec.ofInt_natCast, BitVec.toNat_or, BitVec.toNat_ofNat, ha', hb']
    exact hw _ (Nat.or_lt_two_pow ha hb)
  · simp only [bits, BitVec.ofInt_natCast, BitVec.toNat_xor, BitVec.toNat_ofNat, ha', hb']
    exact hw _ (Nat.xor_lt_two_pow ha hb)

theorem xor8 (a b : UInt8) : bits .xor .u8 (a.toNat : Int) (b.toNat : Int) = ((a ^^^ b).toNat : Int) := by
  rw [(bits_nats .u8 rfl a.toNat b.toNat a.toNat_lt b.toNat_lt).2.2, UInt8.toNat_xor]
theorem and8 (a b : UInt8) : bits .and .u8 (a.toNat : Int) (b.toNat : Int) = ((a &&& b).toNat : Int) := by
  rw [(bits_nats .u8 rfl a.toNat b.toNat a.toNat_lt b.toNat_lt).1, UInt8.toNat_and]
theorem or8 (a b : UInt8) : bits .or .u8 (a.toNat : Int) (b.toNat : Int) = ((a ||| b).toNat : Int) := by
  rw [(bits_nats .u8 rfl a.toNat b.toNat a.toNat_lt b.toNat_lt).2.1, UInt8.toNat_or]

theorem or128 (m : Nat) : bits .or .u8 ((m : Int) % 256) 128 = ((UInt8.ofNat (m % 128 + 128)).toNat : Int) := by
  have h := (bits_nats .u8 rfl (m % 256) 128 (by show _ < 256; omega) (by decide)).2.1
  have e : (((m % 256 : Nat) : Int)) = (m : Int) % 256 := by omega
  rw [e] at h
  rw [show (128 : Int) = ((128 : Nat) : Int) from rfl, h]
  congr 1
  have h2 : ∀ q : Nat, q < 256 → q ||| 128 = (UInt8.ofNat (q % 128 + 128)).toNat := by decide +kernel
  rw [h2 _ (Nat.mod_lt _ (by omega))]
  congr 2
  omega
theorem or_add (i a b : Nat) (h : a < 2 ^ i) : a ||| (b * 2 ^ i) = a + b * 2 ^ i := by
  rw [Nat.or_comm, Nat.mul_comm, ← Nat.two_pow_add_eq_or_of_lt h b, Nat.add_comm]
theorem or32 (b0 b1 b2 b3 : UInt8) : bits .or .u32 (bits .or .u32 (bits .or .u32 ((b0.toNat : Int) % 4294967296) ((b1.toNat : Int) % 4294967296 * 256 % 4294967296)) ((b2.toNat : Int) % 4294967296 * 65536 % 4294967296)) ((b3.toNat : Int) % 4294967296 * 16777216 % 4294967296) =
    ((b0.toNat + b1.toNat * 256 + b2.toNat * 65536 + b3.toNat * 16777216 : Nat) : Int) := by
  have h0 := b0.toNat_lt
  have h1 := b1.toNat_lt
  have h2 := b2.toNat_lt
  have h3 := b3.toNat_lt
  rw [show (b0.toNat : Int) % 4294967296 = (b0.toNat : Int) by omega, show (b1.toNat : Int) % 4294967296 * 256 % 4294967296 = ((b1.toNat * 2 ^ 8 : Nat) : Int) by omega,
    show (b2.toNat : Int) % 4294967296 * 65536 % 4294967296 = ((b2.toNat * 2 ^ 16 : Nat) : Int) by omega, show (b3.toNat : Int) % 4294967296 * 16777216 % 4294967296 = ((b3.toNat * 2 ^ 24 : Nat) : Int) by omega]
  rw [(bits_nats .u32 rfl b0.toNat (b1.toNat * 2 ^ 8) (by show _ < 4294967296; omega) (by show _ < 4294967296; omega)).2.1, or_add 8 _ _ (by omega)]
  rw [(bits_nats .u32 rfl _ (b2.toNat * 2 ^ 16) (by show _ < 4294967296; omega) (by show _ < 4294967296; omega)).2.1, or_add 16 _ _ (by omega)]
  rw [(bits_nats .u32 rfl _ (b3.toNat * 2 ^ 24) (by show _ < 4294967296; omega) (by show _ < 4294967296; omega)).2.1, or_add 24 _ _ (by omega)]
theorem and128 (c : UInt8) : bits .and .u8 (c.toNat : Int) 128 = if c.toNat < 128 then 0 else 128 := by
  rw [show (128 : Int) = (((128 : UInt8).toNat : Nat) : Int) from rfl, and8]
  have h : ∀ q : Nat, q < 256 → (UInt8.ofNat q &&& 128).toNat = if q < 128 then 0 else 128 := by decide +kernel
  have e : c = UInt8.ofNat c.toNat := by simp
  rw [e, h _ c.toNat_lt]
  simp only [UInt8.toNat_ofNat', Nat.mod_eq_of_lt c.toNat_lt]
  split <;> rfl
theorem andNot128 (c : UInt8) : bits .andNot .u8 (c.toNat : Int) 128 = ((c.toNat % 128 : Nat) : Int) := by
  have h : ∀ q : Fin 256, bits .andNot .u8 ((q.val : Nat) : Int) 128 = ((q.val % 128 : Nat) : Int) := by decide +kernel
  exact h ⟨c.toNat, c.toNat_lt⟩
theorem or64 (acc k c : Nat) (hk : k ≤ 8 ∨ (k = 9 ∧ c % 128 ≤ 1)) (ha : acc < 128 ^ k) : bits .or .u64 (acc : Int) (IntKind.u64.wrap ((c : Int) % 128 * 2 ^ (7 * k))) = ((acc + c % 128 * 128 ^ k : Nat) : Int) := by
  have hp : (2 : Nat) ^ (7 * k) = 128 ^ k := by rw [Nat.pow_mul]
  have h8 : (128 : Nat) ^ 8 = 72057594037927936 := by decide
  have hb : c % 128 * 128 ^ k ≤ 9223372036854775808 ∧ 128 ^ k ≤ 9223372036854775808 := by
    rcases hk with hk | ⟨rfl, hc⟩
    · have h1 : (128 : Nat) ^ k ≤ 128 ^ 8 := Nat.pow_le_pow_right (by omega) hk
      have h2 : c % 128 * 128 ^ k ≤ 127 * 128 ^ 8 := Nat.mul_le_mul (by omega) h1
      omega
    · have h2 : c % 128 * 128 ^ 9 ≤ 1 * 128 ^ 9 := Nat.mul_le_mul_right _ hc
      omega
  have e1 : ((c : Int) % 128 * 2 ^ (7 * k)) = ((c % 128 * 128 ^ k : Nat) : Int) := by
    rw [← hp]; simp
  have ew : IntKind.u64.wrap ((c % 128 * 128 ^ k : Nat) : Int) = ((c % 128 * 128 ^ k : Nat) : Int) := by
    generalize c % 128 * 128 ^ k = q at hb
    simp only [IntKind.wrap, IntKind.bits, IntKind.signed, Bool.false_and, Bool.false_eq_true, if_false]
    omega
  rw [e1, ew, (bits_nats .u64 rfl acc (c % 128 * 128 ^ k) (by show _ < 18446744073709551616; omega) (by show _ < 18446744073709551616; omega)).2.1, ← hp, or_add (7 * k) _ _ (by rw [hp]; exact ha)]
theorem low8 (m : Nat) : (m : Int) % 256 = ((UInt8.ofNat m).toNat : Int) := by simp [UInt8.toNat_ofNat']
theorem low8' (m : Nat) (h : m < 256) : (m : Int) = ((UInt8.ofNat m).toNat : Int) := by
  rw [UInt8.toNat_ofNat', Nat.mod_eq_of_lt h]
theorem xor255 (x : UInt8) : bits .xor .u8 (x.toNat : Int) 255 = ((x ^^^ 255).toNat : Int) := xor8 x 255
theorem xor255' (x : UInt8) : bits .xor .u8 ((x ^^^ 255).toNat : Int) 255 = (x.toNat : Int) := by
  rw [show (255 : Int) = (((255 : UInt8).toNat : Nat) : Int) from rfl, xor8, UInt8.xor_assoc]
  simp
end Go.Proofs.Ytbglebchnlfklaa

/- Numbers written in sevens: what is put, what is taken. Plain lists. -/
namespace Go.Proofs.Ytbglebchnlfklaa
set_option maxRecDepth 100000

/-- The bytes of a short number. -/
def putL (n : Nat) : List UInt8 := if n < 128 then [UInt8.ofNat n] else UInt8.ofNat (n % 128 + 128) :: putL (n / 128)
termination_by n
def W64 (n : Nat) : Prop := n < 18446744073709551616
theorem putL_len (k : Nat) : ∀ n, n < 128 ^ (k + 1) → (putL n).length ≤ k + 1 := by
  induction k with
  | zero => intro n h; rw [putL, if_pos (by omega)]; simp
  | succ k ih =>
    intro n h
    rw [putL]
    split
    · simp
    · have := ih (n / 128) (by rw [Nat.div_lt_iff_lt_mul (by omega), ← Nat.pow_succ]; exact h)
      simp; omega
theorem putL_len64 (n : Nat) (h : W64 n) : (putL n).length ≤ 10 := putL_len 9 n (by unfold W64 at h; omega)
theorem putL_pos (n : Nat) : 0 < (putL n).length := by
  rw [putL]
  split <;> simp

/-- May the i-th byte, c, be the last one? -/
def shortB (i : Nat) (c : UInt8) : Bool := i == 0 || (c != 0 && (decide (i < 9) || c == 1))

/-- error, number, bytes taken -/
def tkGo : Nat → Nat → Nat → List UInt8 → Nat × Nat × Nat
  | 0, _, _, _ => (3, 0, 0)
  | _ + 1, _, _, [] => (2, 0, 0)
  | f + 1, i, acc, c :: r =>
    if c.toNat < 128 then (if shortB i c then (0, acc + c.toNat * 128 ^ i, i + 1) else (3, 0, 0))
    else tkGo f (i + 1) (acc + (c.toNat % 128) * 128 ^ i) r
def tk (b : List UInt8) : Nat × Nat × Nat := tkGo 10 0 0 b
def tkE (b : List UInt8) : Nat := (tk b).1
def tkN (b : List UInt8) : Nat := (tk b).2.1
def tkR (b : List UInt8) : List UInt8 := if tkE b = 0 then b.drop (tk b).2.2 else []

theorem tkGo_ok (f : Nat) : ∀ i acc b n k, tkGo f i acc b = (0, n, k) → f + i = 10 → acc < 128 ^ i →
    ∃ p r m, b = p ++ r ∧ k = i + p.length ∧ n = acc + m * 128 ^ i ∧ p = putL m ∧ W64 n ∧ (i ≠ 0 → m ≠ 0) := by
  induction f with
  | zero => intro i acc b n k h; simp [tkGo] at h
  | succ f ih =>
    intro i acc b n k h hf ha
    cases b with
    | nil => simp [tkGo] at h
    | cons c r =>
      rw [tkGo] at h
      split at h
      · rename_i hc
        split at h
        · rename_i hs
          simp only [Prod.mk.injEq, true_and] at h
          refine ⟨[c], r, c.toNat, rfl, by simp; omega, by omega, ?_, ?_, ?_⟩
          · rw [putL, if_pos hc]; simp
          · rw [← h.1]
            unfold shortB at hs
            unfold W64
            rcases Nat.lt_or_ge i 9 with h9 | h9
            · have h1 : 128 ^ i ≤ 128 ^ 8 := Nat.pow_le_pow_right (by omega) (by omega)
              have h2 : c.toNat * 128 ^ i ≤ 127 * 128 ^ i := Nat.mul_le_mul_right _ (by omega)
              omega
            · obtain rfl : i = 9 := by omega
              simp at hs
              obtain ⟨_, rfl⟩ := hs
              have : (1 : UInt8).toNat = 1 := rfl
              rw [this]
              omega
          · intro h0
            unfold shortB at hs
            simp [h0] at hs
            intro hz
            exact hs.1 (UInt8.toNat_inj.1 (by simpa using hz))
        · simp at h
      · rename_i hc
        have ha' : acc + c.toNat % 128 * 128 ^ i < 128 ^ (i + 1) := by
          rw [Nat.pow_succ]
          have h2 : c.toNat % 128 * 128 ^ i ≤ 127 * 128 ^ i := Nat.mul_le_mul_right _ (by omega)
          omega
        obtain ⟨p, r', m, rfl, hk, hn, hp, hw, hm⟩ := ih (i + 1) _ r n k h (by omega) ha'
        have hm0 := hm (by omega)
        have hc2 := c.toNat_lt
        refine ⟨c :: p, r', c.toNat % 128 + 128 * m, rfl, by simp; omega, ?_, ?_, hw, fun _ => by omega⟩
        · rw [hn, Nat.pow_succ, Nat.add_mul, Nat.mul_assoc 128 m, Nat.mul_comm 128 (m * 128 ^ i), ← Nat.mul_assoc]; omega
        · rw [putL, if_neg (by omega), hp]
          have e1 : (c.toNat % 128 + 128 * m) / 128 = m := by omega
          have e2 : (c.toNat % 128 + 128 * m) % 128 + 128 = c.toNat := by omega
          rw [e1, e2]
          simp

theorem tk_ok (b : List UInt8) (h : tkE b = 0) : b = putL (tkN b) ++ tkR b ∧ W64 (tkN b) ∧ (tk b).2.2 = (putL (tkN b)).length := by
  have hh : tkGo 10 0 0 b = (0, tkN b, (tk b).2.2) := by
    have : tk b = (tkE b, tkN b, (tk b).2.2) := rfl
    rw [h] at this
    exact this
  obtain ⟨p, r, m, hb, hk, hn, hp, hw, _⟩ := tkGo_ok 10 0 0 b _ _ hh rfl (by simp)
  simp at hn hk
  have hr : tkR b = r := by
    unfold tkR
    rw [if_pos h, hk, hb, List.drop_left]
  rw [hr, hn, ← hp]
  exact ⟨hb, by rw [← hn]; exact hw, hk⟩

theorem tkGo_put (f : Nat) : ∀ i acc m r, f + i = 10 → (i ≠ 0 → m ≠ 0) → acc < 128 ^ i → W64 (acc + m * 128 ^ i) → tkGo f i acc (putL m ++ r) = (0, acc + m * 128 ^ i, i + (putL m).length) := by
  induction f with
  | zero =>
    intro i acc m r hf hm ha hw
    obtain rfl : i = 10 := by omega
    have := hm (by omega)
    unfold W64 at hw
    have h1 : 1 * 128 ^ 10 ≤ m * 128 ^ 10 := Nat.mul_le_mul_right _ (by omega)
    omega
  | succ f ih =>
    intro i acc m r hf hm ha hw
    rw [putL]
    split
    · rename_i h
      have e : (UInt8.ofNat m).toNat = m := by rw [UInt8.toNat_ofNat', Nat.mod_eq_of_lt (by omega)]
      rw [List.cons_append, tkGo, if_pos (by omega), e, if_pos]
      · simp
      · unfold shortB
        by_cases h0 : i = 0
        · simp [h0]
        · have hm0 := hm h0
          have hne : (UInt8.ofNat m != 0) = true := by
            rw [bne_iff_ne]; intro hz; have := congrArg UInt8.toNat hz; rw [e] at this; exact hm0 (by simpa using this)
          by_cases h9 : i < 9
          · simp [h9, hne]
          · obtain rfl : i = 9 := by omega
            have : m = 1 := by
              unfold W64 at hw
              rcases Nat.lt_or_ge m 2 with h2 | h2
              · omega
              · have : 2 * 128 ^ 9 ≤ m * 128 ^ 9 := Nat.mul_le_mul_right _ h2
                omega
            subst this
            simp
    · rename_i h
      have e : (UInt8.ofNat (m % 128 + 128)).toNat = m % 128 + 128 := by rw [UInt8.toNat_ofNat', Nat.mod_eq_of_lt (by omega)]
      have e2 : (m % 128 + 128) % 128 = m % 128 := by omega
      have e3 : acc + m % 128 * 128 ^ i + m / 128 * 128 ^ (i + 1) = acc + m * 128 ^ i := by
        rw [Nat.pow_succ, Nat.mul_comm (128 ^ i) 128, ← Nat.mul_assoc, Nat.add_assoc, ← Nat.add_mul]
        congr 2
        omega
      rw [List.cons_append, tkGo, if_neg (by omega), e, e2, ih (i + 1) _ (m / 128) r (by omega) (fun _ => by omega) ?_ (by rw [e3]; exact hw), e3]
      · simp; omega
      · rw [Nat.pow_succ]
        have h2 : m % 128 * 128 ^ i ≤ 127 * 128 ^ i := Nat.mul_le_mul_right _ (by omega)
        omega

theorem tk_put (n : Nat) (r : List UInt8) (h : W64 n) : tk (putL n ++ r) = (0, n, (putL n).length) := by
  have := tkGo_put 10 0 0 n r rfl (fun h => absurd rfl h) (by simp) (by simpa using h)
  simpa [tk] using this
theorem tk_put_E (n : Nat) (r : List UInt8) (h : W64 n) : tkE (putL n ++ r) = 0 := by unfold tkE; rw [tk_put n r h]
theorem tk_put_N (n : Nat) (r : List UInt8) (h : W64 n) : tkN (putL n ++ r) = n := by unfold tkN; rw [tk_put n r h]
theorem tk_put_R (n : Nat) (r : List UInt8) (h : W64 n) : tkR (putL n ++ r) = r := by unfold tkR; rw [if_pos (tk_put_E n r h), tk_put n r h, List.drop_left]
theorem tk_bad (b : List UInt8) (h : tkE b ≠ 0) : tkN b = 0 ∧ tkR b = [] := by
  refine ⟨?_, by unfold tkR; rw [if_neg h]⟩
  have key : ∀ f i acc b, (tkGo f i acc b).1 ≠ 0 → (tkGo f i acc b).2.1 = 0 := by
    intro f
    induction f with
    | zero => intro i acc b _; rfl
    | succ f ih =>
      intro i acc b hb
      cases b with
      | nil => rfl
      | cons c r =>
        rw [tkGo] at hb ⊢
        split
        · rename_i hc
          rw [if_pos hc] at hb
          split
          · rename_i hs; rw [if_pos hs] at hb; simp at hb
          · rfl
        · rename_i hc
          rw [if_neg hc] at hb
          exact ih _ _ _ hb
  exact key 10 0 0 b h

/-- The bytes of a whole number. -/
def put32L (n : Nat) : List UInt8 := [UInt8.ofNat n, UInt8.ofNat (n / 256), UInt8.ofNat (n / 65536), UInt8.ofNat (n / 16777216)]
/-- Four bytes as a whole number. -/
def get32 (b : List UInt8) : Nat := (b.getD 0 0).toNat + (b.getD 1 0).toNat * 256 + (b.getD 2 0).toNat * 65536 + (b.getD 3 0).toNat * 16777216
theorem get32_lt (b : List UInt8) : get32 b < 4294967296 := by
  unfold get32
  have h0 := (b.getD 0 0).toNat_lt
  have h1 := (b.getD 1 0).toNat_lt
  have h2 := (b.getD 2 0).toNat_lt
  have h3 := (b.getD 3 0).toNat_lt
  omega
theorem get32_put (n : Nat) (r : List UInt8) (h : n < 4294967296) : get32 (put32L n ++ r) = n := by
  simp [get32, put32L, UInt8.toNat_ofNat']
  omega
theorem put32_get (b : List UInt8) (h : 4 ≤ b.length) : put32L (get32 b) ++ b.drop 4 = b := by
  match b, h with
  | a :: c :: d :: e :: r, _ =>
    have ha := a.toNat_lt
    have hc := c.toNat_lt
    have hd := d.toNat_lt
    have he := e.toNat_lt
    simp only [put32L, get32, List.getD_cons_zero, List.getD_cons_succ, List.drop_succ_cons, List.drop_zero, List.cons_append, List.nil_append, List.cons.injEq, and_true]
    refine ⟨?_, ?_, ?_, ?_⟩ <;> apply UInt8.toNat_inj.1 <;> rw [UInt8.toNat_ofNat'] <;> omega
/-- A string taken: the error, the string, what is left. -/
def tsE (b : List UInt8) (most : Int) : Nat := if tkE b ≠ 0 then tkE b else if most < 0 ∨ most < (tkN b : Int) then 4 else if tkN b ≤ (tkR b).length then 0 else 2
def tsS (b : List UInt8) (most : Int) : List UInt8 := if tsE b most = 0 then (tkR b).take (tkN b) else []
def tsR (b : List UInt8) (most : Int) : List UInt8 := if tsE b most = 0 then (tkR b).drop (tkN b) else []
theorem ts_ok (b : List UInt8) (most : Int) (h : tsE b most = 0) : putL (tsS b most).length ++ tsS b most ++ tsR b most = b := by
  unfold tsS tsR
  rw [if_pos h, if_pos h]
  unfold tsE at h
  by_cases h1 : tkE b = 0
  · rw [if_neg (by simp [h1])] at h
    split at h
    · cases h
    · split at h
      · rename_i h3
        rw [List.length_take, Nat.min_eq_left h3, List.append_assoc, List.take_append_drop]
        exact (tk_ok b h1).1.symm
      · cases h
  · rw [if_pos h1] at h
    exact absurd h h1
theorem ts_put (s r : List UInt8) (most : Int) (h : (s.length : Int) ≤ most) (hw : W64 s.length) : tsE (putL s.length ++ (s ++ r)) most = 0 ∧ tsS (putL s.length ++ (s ++ r)) most = s ∧ tsR (putL s.length ++ (s ++ r)) most = r := by
  have hE : tsE (putL s.length ++ (s ++ r)) most = 0 := by
    unfold tsE
    rw [tk_put_E _ _ hw, tk_put_N _ _ hw, tk_put_R _ _ hw, if_neg (by simp), if_neg (by omega), if_pos (by simp)]
  refine ⟨hE, ?_, ?_⟩
  · unfold tsS; rw [if_pos hE, tk_put_N _ _ hw, tk_put_R _ _ hw, List.take_left]
  · unfold tsR; rw [if_pos hE, tk_put_N _ _ hw, tk_put_R _ _ hw, List.drop_left]
end Go.Proofs.Ytbglebchnlfklaa

namespace Go.Proofs.Ytbglebchnlfklaa
set_option maxRecDepth 100000
open Go.RowKit

theorem hid_out {p : Prop} (h : Go.RowKit.Hid p) : p := h
set_option maxHeartbeats 400000 in
theorem grown_any (v : Value) (xs : List UInt8) (room : Nat) (w : World) (hv : RB w v xs) (hl : xs.length ≤ 16777216) (hr : room ≤ 100) :
    Calls Try.prog 114 #[v, .int .i64 (room : Int)] w fun e w' => ∃ v', e = .returned v' ∧ OB w' w.heap.size v' xs ∧ Below w.heap.size w w' := by
  obtain ⟨A, c, rfl, hc, hm, hcell⟩ := hv
  obtain ⟨i0, hi, hz0, hz1, hz2⟩ := info_parts Try.info_u8
  have hmk : (Instr.makeSlice 22 (.int .i64 (xs.length : Int)) (.int .i64 ((xs.length : Int) + (room : Int)))).run Try.prog w = .ok (.slice (some ⟨w.heap.size, 0, none⟩) xs.length (xs.length + room)) (w.alloc (.cells (madeCells #[.int .u8 0] (xs.length + room)) 5)) := by
    have h := run_make (P := Try.prog) w 22 5 i0 (.int .u8 0) Try.underlying22 hi hz0 .i64 .i64 (xs.length : Int) ((xs.length : Int) + (room : Int)) (by omega) (by omega) (by rw [hz2]; omega) (by omega)
    have e1 : ((xs.length : Int)).toNat = xs.length := by omega
    have e2 : ((xs.length : Int) + (room : Int)).toNat = xs.length + room := by omega
    rw [e1, e2, hz1, Nat.mul_one] at h
    exact h
  have hcs : ((B8).all xs).length = Nat.min xs.length xs.length := by rw [Ty.all_length]; simp [show B8.sz = 1 from rfl]
  have HK : Go.RowKit.Hid ((madeCells #[.int .u8 0] (xs.length + room)).toList = List.replicate (xs.length + room) (.int .u8 0)) := toList_madeCells_one _ _
  have HG : Go.RowKit.Hid ((w.alloc (.cells (madeCells #[.int .u8 0] (xs.length + room)) 5)).heap[w.heap.size]? = some (.cells (List.replicate (xs.length + room) (.int .u8 0)).toArray 5 (0, 0))) := by
    show _ = _
    rw [heap_alloc_new, ← toList_madeCells_one]
  have HS : Go.RowKit.Hid (0 < ((B8).all xs).length → (some ⟨w.heap.size, 0, none⟩ : Option Addr) = some ⟨w.heap.size, 0, none⟩ ∧ ∃ ad, A = some ad ∧ ∀ j v, ((B8).all xs)[j]? = some v → (w.alloc (.cells (madeCells #[.int .u8 0] (xs.length + room)) 5)).cell? (ad.add j) = some v) := by
    intro hp
    rw [Ty.all_length] at hp; simp only [show B8.sz = 1 from rfl, Nat.mul_one] at hp
    obtain ⟨ad, rfl, hcc⟩ := hcell hp
    exact ⟨rfl, ad, rfl, fun j u hu => cell_below ((Below.refl _ _).alloc (Nat.le_refl _) _) (hcc j u hu)⟩
  have HF : 0 + ((B8).all xs).length ≤ (List.replicate (xs.length + room) (Value.int .u8 0)).length := by rw [Ty.all_length]; simp [show B8.sz = 1 from rfl]
  have HO : ∀ u ∈ B8.all xs, u.oneCell' = true := Ty.all_oneCell xs
  have HL : (B8.all xs).length = xs.length := by rw [Ty.all_length]; simp [show B8.sz = 1 from rfl]
  have HL' := Lib.hid HL
  clear HL
  go_enter Try.func114, Try.ntmps114
  go_wp2_with (refine wpList_copy_splice rfl (.tmp 13) (.tmp 14) _ _ rfl 5 Try.underlying22 (by kernel_rfl) _ _ _ _ _ _ rfl rfl w.heap.size 0 (List.replicate (xs.length + room) (.int .u8 0)) 5 (by exact HG.out) ((B8).all xs) hcs (by exact HS.out) (by exact HF) (by exact HO) w.heap.size w (by exact (Below.refl _ _).alloc (Nat.le_refl _) _) (Nat.le_refl _) ?_; intro w1 hg1 hb1)
  go_ret
  refine ⟨_, rfl, ⟨?_, .inr ⟨w.heap.size, xs.length + room, _, rfl, Nat.le_refl _, hg1.out, by omega, by simp [maxLen]; omega, ?_, ?_⟩⟩, hb1⟩
  · rw [Ty.all_length]
  · rw [List.size_toArray, length_splice _ _ _ (by rw [HL'.out]; simp)]; simp [show B8.sz = 1 from rfl]
  · simp [splice, show B8.sz = 1 from rfl, HL'.out]

set_option maxHeartbeats 400000 in
set_option maxRecDepth 100000 in
theorem Put_any (v : Value) (xs : List UInt8) (n : Nat) (w : World) (hv : RB w v xs) (hl : xs.length ≤ 16777216) (hn : W64 n) :
    Calls Try.prog 96 #[v, .int .u64 (n : Int)] w fun e w' => ∃ v', e = .returned v' ∧ OB w' w.heap.size v' (xs ++ putL n) ∧ Below w.heap.size w w' := by
  go_enter Try.func96, Try.ntmps96
  go_wp2_with (go_at_call 114; refine (grown_any v xs 10 _ hv hl (by omega)).mono ?_; rintro e w1 ⟨v1, rfl, ho1, hb1⟩)
  go_loopw [5, 1] (fun v5 v1 wr => ∃ (pre : List UInt8) (m : Nat), v1 = .int .u64 (m : Int) ∧ OB wr w.heap.size v5 (xs ++ pre) ∧ Below w.heap.size w wr ∧ pre ++ putL m = putL n) (fun _ i _ => (intOf i).toNat)
  case atStart => exact ⟨[], n, rfl, by simpa using ho1, hb1, rfl⟩
  case round =>
    obtain ⟨pre, m, rfl, ho, hb, hp⟩ := hrel
    have HP := Lib.hid hp
    clear hp
    have hB : w.heap.size ≤ wr.heap.size := hb.size
    have hlen : (xs ++ pre).length ≤ 1000000000 := by have h1 := congrArg List.length HP.out; have h2 := putL_len64 n hn; simp at h1 ⊢; omega
    by_cases h128 : 128 ≤ m
    · have h128' : (128 : Int) ≤ (m : Int) := by omega
      go_wp2_with (at_builtin; refine appB w.heap.size (.tmp 12) (.tmp 16) _ _ (UInt8.ofNat (m % 128 + 128)) _ ho hb hB hlen (or128 m) rfl rfl rfl rfl ?_; intro v2 w2 ho2 hb2 hg2 hat2 hs2)
      go_roundw
      case rel => exact ⟨pre ++ [UInt8.ofNat (m % 128 + 128)], m / 128, by go_num, by rw [← List.append_assoc]; exact ho2, hb2, by rw [← HP.out, putL.eq_1 m, if_neg (by omega), List.append_assoc]; rfl⟩
      case measure => simp [intOf]; omega
    · have h128' : (m : Int) < 128 := by omega
      go_wp2_with (at_builtin; refine appB w.heap.size (.tmp 18) (.tmp 21) _ _ (UInt8.ofNat m) _ ho hb hB hlen (by first | exact low8 m | exact low8' m (by omega)) rfl rfl rfl rfl ?_; intro v2 w2 ho2 hb2 hg2 hat2 hs2)
      go_ret
      exact ⟨_, rfl, by rw [← HP.out, putL.eq_1 m, if_pos (by omega), ← List.append_assoc]; exact ho2, hb2⟩

theorem drewB {B : Nat} {w w1 : World} (h : Below B w w1) : Below B w w1.drew := h.drew
theorem RB.drew {w : World} {v : Value} {xs : List UInt8} (h : RB w v xs) : RB w.drew v xs := h.below (Below.refl _ _).drew
theorem OB.drew {w : World} {base : Nat} {v : Value} {xs : List UInt8} (h : OB w base v xs) : OB w.drew base v xs := OR.below h (Below.refl _ _).drew

set_option maxHeartbeats 400000 in
theorem Clone_any (v : Value) (xs : List UInt8) (w : World) (hv : RB w v xs) (hl : xs.length ≤ 1000000000) :
    Calls Try.prog 31 #[v] w fun e w' => ∃ v', e = .returned v' ∧ OB w' w.heap.size v' xs ∧ Below w.heap.size w w' := by
  have hq := fun (w : World) (a : Option Addr) (n c n2 c2 : Nat) => Lib.run_eql_slice_nil (P := Try.prog) w 22 5 a n c n2 c2 Try.underlying22
  obtain ⟨A, c, rfl, hc, hm, hcell⟩ := id hv
  cases A with
  | none =>
    have h0 : xs.length = 0 := by
      rcases Nat.eq_zero_or_pos xs.length with h | h
      · exact h
      · obtain ⟨ad, h, _⟩ := hcell h; cases h
    obtain rfl := List.eq_nil_of_length_eq_zero h0
    go_enter Try.func31, Try.ntmps31
    go_wp2
    go_ret
    exact ⟨_, rfl, OR.nil _ _, Below.refl _ _⟩
  | some ad =>
    clear hcell
    have hb1 : Below w.heap.size w (w.alloc (.cells #[] 5)) := (Below.refl _ _).alloc (Nat.le_refl _) _
    have ho1 : OB (w.alloc (.cells #[] 5)) w.heap.size (.slice (some ⟨w.heap.size, 0, none⟩) 0 0) [] := OB.lit w w.heap.size [] #[] rfl (Nat.le_refl _) (by simp)
    have hr1 := hv.below hb1
    go_enter Try.func31, Try.ntmps31
    go_wp2_with (at_builtin; refine appBs w.heap.size (.tmp 5) (.tmp 6) _ _ [] xs ho1 hr1 hb1 (by simp) (by simp) hl rfl rfl rfl rfl ?_; intro v2 w2 ho2 hb2 hg2 hat2 hs2)
    go_ret
    exact ⟨_, rfl, by simpa using ho2, hb2⟩

set_option maxHeartbeats 400000 in
theorem Put32_any (v : Value) (xs : List UInt8) (n : Nat) (w : World) (hv : RB w v xs) (hl : xs.length ≤ 16777216) (hn : n < 4294967296) :
    Calls Try.prog 95 #[v, .int .u32 (n : Int)] w fun e w' => ∃ v', e = .returned v' ∧ OB w' w.heap.size v' (xs ++ put32L n) ∧ Below w.heap.size w w' := by
  have hl' : xs.length ≤ 1000000000 := by omega
  go_enter Try.func95, Try.ntmps95
  go_wp2_with (first
    | (go_at_call 114; refine (grown_any v xs 4 _ hv hl (by omega)).mono ?_; rintro e w1 ⟨v1, rfl, ho1, hb1⟩)
    | (at_builtin; go_loud (refine appBs w.heap.size (.tmp 6) (.tmp 18) _ _ xs (put32L n) (OR.below ho1 ((Below.refl _ _).alloc (Nat.le_refl _) _)) (OB.lit _ 0 (put32L n) _ (by simp [put32L]; omega) (Nat.zero_le _) (by simp [put32L])).reads (hb1.alloc hb1.size _) (by simp; exact Nat.le_succ_of_le hb1.size) hl' (by simp [put32L]) rfl rfl rfl rfl ?_); intro v2 w2 ho2 hb2 hg2 hat2 hs2))
  go_ret
  exact ⟨_, rfl, ho2, hb2⟩

theorem W64_len {xs : List UInt8} (h : xs.length ≤ 16777216) : W64 xs.length := by unfold W64; omega

set_option maxHeartbeats 400000 in
theorem PutString_any (v vs : Value) (xs s : List UInt8) (w : World) (hv : RB w v xs) (hs : RB w vs s) (hl : xs.length ≤ 16777216) (hl2 : s.length ≤ 16777216) :
    Calls Try.prog 115 #[v, vs] w fun e w' => ∃ v', e = .returned v' ∧ OB w' w.heap.size v' (xs ++ putL s.length ++ s) ∧ Below w.heap.size w w' := by
  obtain ⟨A, c, rfl, hc⟩ := hs.len
  have hl3 : (xs ++ putL s.length).length ≤ 1000000000 := by have := putL_len64 _ (W64_len hl2); simp; omega
  go_enter Try.func115, Try.ntmps115
  go_wp2_with (first
    | (go_at_call 96; refine (Put_any v xs s.length _ hv hl (W64_len hl2)).mono ?_; rintro e w1 ⟨v1, rfl, ho1, hb1⟩)
    | (at_builtin; refine appBs w.heap.size (.tmp 9) (.tmp 10) _ _ (xs ++ putL s.length) s ho1 (hs.below hb1) hb1 hb1.size hl3 (by omega) rfl rfl rfl rfl ?_; intro v2 w2 ho2 hb2 hg2 hat2 hs2))
  go_ret
  exact ⟨_, rfl, ho2, hb2⟩

set_option maxHeartbeats 400000 in
theorem isShort_any (i : Nat) (c : UInt8) (w : World) :
    Calls Try.prog 112 #[.int .i64 (i : Int), .int .u8 (c.toNat : Int)] w fun e w' => e = .returned (.bool (shortB i c)) ∧ w' = w := by
  have e1 : ((i : Int) == 0) = (i == 0) := by rw [Bool.eq_iff_iff]; simp
  have e2 : ((c.toNat : Int) != 0) = (c != 0) := by rw [Bool.eq_iff_iff]; simp [← UInt8.toNat_inj]
  have e3 : ((c.toNat : Int) == 1) = (c == 1) := by rw [Bool.eq_iff_iff]; simp [← UInt8.toNat_inj]; omega
  have e4 : decide ((i : Int) < 9) = decide (i < 9) := by rw [Bool.eq_iff_iff]; simp; omega
  unfold shortB
  cases h1 : (i == 0) <;> cases h2 : (c != 0) <;> cases h3 : (c == 1) <;> cases h4 : decide (i < 9) <;>
  (rw [h1] at e1; rw [h2] at e2; rw [h3] at e3; rw [h4] at e4
   go_enter Try.func112, Try.ntmps112
   go_wp2
   go_ret
   exact ⟨rfl, rfl⟩)

set_option maxHeartbeats 400000 in
theorem TakeBytes_any (v : Value) (xs : List UInt8) (n : Int) (w : World) (hv : RB w v xs) (hl : xs.length ≤ 1000000000) :
    Calls Try.prog 111 #[v, .int .i64 n] w fun e w' => ∃ v1 v2, e = .returned (.tuple #[v1, v2, .int .i64 (if n < 0 then 1 else if n ≤ xs.length then 0 else 2)]) ∧
      OB w' w.heap.size v1 (if n < 0 then [] else if n ≤ xs.length then xs.take n.toNat else []) ∧ OB w' w.heap.size v2 (if n < 0 then [] else if n ≤ xs.length then xs.drop n.toNat else []) ∧ (v1.ownBlock = none ∨ v1.ownBlock ≠ v2.ownBlock) ∧ Below w.heap.size w w' := by
  obtain ⟨A, c, rfl, hc⟩ := hv.len
  by_cases h0 : n < 0
  · rw [if_pos h0, if_pos h0, if_pos h0]
    go_enter Try.func111, Try.ntmps111
    go_wp2
    go_ret3
    exact ⟨_, _, rfl, OR.nil _ _, OR.nil _ _, (.inl rfl), Below.refl _ _⟩
  · rw [if_neg h0, if_neg h0, if_neg h0]
    have h0' : 0 ≤ n := by omega
    by_cases h1 : n ≤ xs.length
    · rw [if_pos h1, if_pos h1, if_pos h1]
      obtain ⟨m, rfl⟩ := Int.eq_ofNat_of_zero_le h0'
      have hm : m ≤ xs.length := by omega
      obtain ⟨A1, hcut1, hcut2, hcut3, hr1⟩ := cutB A c xs 0 m (by omega) hm hc
      obtain ⟨A2, hcut4, hcut5, hcut6, hr2⟩ := cutB A c xs m xs.length hm (Nat.le_refl _) hc
      have hk1 := fun W => hcut3 .i64 W rfl
      have hk2 := fun W => hcut5 .i64 W rfl
      have hq1 := hr1 w hv
      have hq2 := hr2 w hv
      simp only [Nat.sub_zero, List.drop_zero] at hq1
      rw [List.take_of_length_le (Nat.le_refl _)] at hq2
      clear hcut1 hcut2 hcut3 hcut4 hcut5 hcut6 hr1 hr2
      go_enter Try.func111, Try.ntmps111
      go_wp2
      go_region_held3 (fun _ => True) (trivial) (first
        | (go_at_call 31; refine (Clone_any _ (xs.take m) _ (RB.drew hq1) (by simp; omega)).mono ?_; rintro e w1 ⟨v1, rfl, ho1, hb1⟩)
        | (go_at_call 31; refine (Clone_any _ (xs.drop m) _ ((RB.drew hq2).below hb1) (by simp; omega)).mono ?_; rintro e w2 ⟨v2, rfl, ho2, hb2⟩)
        | fail)
      go_wp2
      go_ret3
      exact ⟨v1, v2, rfl, OR.below ho1 hb2, OR.lower ho2 hb1.size, OR.apart ho1 ho2, below_two (drewB (Below.refl _ _) |>.trans hb1) hb1.size hb2⟩
    · rw [if_neg h1, if_neg h1, if_neg h1]
      have h1' : (xs.length : Int) < n := by omega
      go_enter Try.func111, Try.ntmps111
      go_wp2
      go_ret3
      exact ⟨_, _, rfl, OR.nil _ _, OR.nil _ _, (.inl rfl), Below.refl _ _⟩

end Go.Proofs.Ytbglebchnlfklaa

namespace Go.Proofs.Ytbglebchnlfklaa
set_option maxRecDepth 100000
open Go.RowKit
set_option linter.unusedSimpArgs false
set_option linter.unusedVariables false

theorem rangeFunc_none {P : Program} {g : Operand} {gf : Nat} {recv : Array Value} {ps : Array Tmp} {assign body : Code} {Q : Exit → Act → World → Prop} {a : Act} {w : World} (hg : a.eval g = .func (.func gf) recv #[])
    (eg : ∀ args w, (callFunc gf args).run P w = .ok (.enter gf args) w)
    (hc : ∀ (l : Nat) (W : World), Below w.heap.size w W → Calls P gf (recv ++ #[.func (.yield l) #[] #[]]) W fun e W' => (∃ v, e = .returned v) ∧ W = W')
    (hd : ∀ (D : Nat) (W : World), w.heap.size ≤ D → Below w.heap.size w W → W.heap[D]? = some (.deferred (some [])) → Q .normal { a with defers := { target := .collected D, args := #[] } :: a.defers } W) :
    (Code.rangeFunc g ps assign body).wp P Q a w := by
  refine (wpIn_wide (n := 1)).1 (wpIn_rangeFunc ?_)
  intro fn hfn
  obtain ⟨rec, hrec⟩ : ∃ rec : LoopState → Option Code → Loop, rec = fun st pe => { state := st, pending := pe, fn, tmps := a.tmps, params := ps, assign, body, defers := w.heap.size } := ⟨_, rfl⟩
  obtain ⟨W1, hW1⟩ : ∃ W1, (w.alloc (.deferred (some []))).alloc (.loop (rec .ready none)) = W1 := ⟨_, rfl⟩
  have hb1 : Below w.heap.size w W1 := by rw [← hW1]; exact ((Below.refl _ w).alloc (Nat.le_refl _) _).alloc (by simp) _
  have hL1 : W1.heap[w.heap.size + 1]? = some (.loop (rec .ready none)) := by
    rw [← hW1]; have := World.alloc_heap_new (w.alloc (.deferred (some []))) (.loop (rec .ready none)); rwa [World.size_alloc] at this
  have hK1 : W1.heap[w.heap.size]? = some (.deferred (some [])) := by
    rw [← hW1]; exact (Below.heap_alloc _ _ _ (by simp)).trans (World.alloc_heap_new w _)
  refine ⟨w.heap.size + 1, [{ target := .collected w.heap.size, args := #[] }], W1, { target := .fn (.func gf) #[], args := recv ++ #[.func (.yield (w.heap.size + 1)) #[] #[]] }, W1, gf,
    recv ++ #[.func (.yield (w.heap.size + 1)) #[] #[]], W1, ?_, ?_, ?_, ?_, fun _ => Nat.le_refl _, ?_⟩
  · rw [← hW1, hrec]; exact run_enterLoop_outer _ _ _ _ _
  · simp only [resolve, hg]
    simp [go_sem]
  · intro f' hf'; trivial
  · simp [invoke, go_sem, eg]
  · refine (callsIn_wide.2 (hc _ W1 hb1)).mono ?_
    rintro e W2 ⟨⟨v, rfl⟩, rfl⟩
    refine ⟨none, _, by have := run_endLoop (P := P) hL1 (by rw [hrec]; simp); rw [hrec] at this; exact this, hd _ _ (Nat.le_refl _) ?_ ((World.putObj_heap_other (by omega)).trans hK1)⟩
    exact hb1.trans (belowK_b (w := w) (Nat.le_refl _) _ _ _ _ (by omega) hL1 rfl rfl)
/-- An object that is no row of cells. -/
def Own.obj (D : Nat) (o : Obj) : Own where
  foot k := k = D
  holds w := w.heap[D]? = some o
  lt w k h e := by subst e; exact (Array.getElem?_eq_some_iff.1 h).1
  keep w w' h _ hk := (hk D rfl).trans h
theorem SH.setObj {F : Nat → Prop} {w0 w : World} {L : List Own} (h : SH F w0 w L) (i : Nat) {D : Nat} {o : Obj} (hi : L[i]? = some (.obj D o)) (o' : Obj) : SH F w0 (w.putObj D o') (L.set i (.obj D o')) := by
  have hl : w.heap[D]? = some o := h.at_ i hi
  refine h.change i hi (o' := .obj D o') ?_ (World.putObj_heap_same (Array.getElem?_eq_some_iff.1 hl).1) (fun k hk => .inl hk)
  have := chg_grown (grownBy_putObj' w D o')
  exact ⟨this.os, this.tape, this.output, this.size, fun k hk hn => this.block k hk (fun e => hn (by injection e with e; exact e.symm))⟩
/-- A function whose body holds a range over a function. -/
theorem calls_marks {P : Program} {f : FuncId} {fn : Func} {c : Code} {args : Array Value} {w : World} {R : Ending → World → Prop} (hf : P.funcs[f]? = some fn) (hb : fn.body = some c)
    (h : c.wp P (bodyPostM Fence.wide 1 P fn R) { tmps := args ++ Array.replicate (fn.ntmps - args.size) undef, defers := [] } w) : Calls P f args w R :=
  callsIn_wide.1 (callsIn_of_wp_marks (n := 1) hf hb trivial (wpIn_wide.2 h) rfl)
set_option maxHeartbeats 1600000 in
theorem diskNewest_none (bd : Nat) (ad : Addr) (N l : Nat) (w : World) (hv : VA w bd 146 (dC ad N)) : Calls Try.prog 142 (#[.pointer (some ⟨bd, 0, none⟩)] ++ #[.func (.yield l) #[] #[]]) w fun e w' => (∃ v, e = .returned v) ∧ w = w' := by
  have hc := hv.cell 1
  change _ = some (Value.slice none 0 0) at hc
  clear hv
  show Calls Try.prog 142 #[.pointer (some ⟨bd, 0, none⟩), .func (.yield l) #[] #[]] w _
  go_enter Try.func142, Try.ntmps142
  go_wp2_with (first
    | ((with_reducible refine gDst 8 ?_); refine aLoadC _ rfl rfl hc rfl ?_))
  go_loopw [4] (fun v4 wr => v4 = .int .i64 (-1) ∧ w = wr) (fun _ _ => 0)
  case atStart => exact ⟨rfl, rfl⟩
  case round =>
    obtain ⟨rfl, rfl⟩ := hrel
    go_wp2
    go_end0
    exact ⟨⟨_, rfl⟩, rfl⟩
theorem res_cells2 {P : Program} {fn : Func} {d e : Tmp} {t1 t2 : TypeId} (hf : fn.results = #[.cell d t1, .cell e t2]) (tmps : Array Value) {w : World} {a1 a2 : Addr} {v1 v2 z1 z2 : Value} (h1 : tmps.getD d undef = .pointer (some a1)) (h2 : tmps.getD e undef = .pointer (some a2)) [TS P t1 z1] [TS P t2 z2] (c1 : w.cell? a1 = some v1) (c2 : w.cell? a2 = some v2) :
    (results fn tmps).run P w = .ok (.tuple #[v1, v2]) w := by
  have e1 : tmps[d]?.getD undef = .pointer (some a1) := by rw [← h1]; simp
  have e2 : tmps[e]?.getD undef = .pointer (some a2) := by rw [← h2]; simp
  simp [results, hf, e1, e2, asAddr, run_loadVar1 (P := P) (t := t1) c1, run_loadVar1 (P := P) (t := t2) c2]
set_option maxHeartbeats 1600000 in
theorem diskRead_none (bd : Nat) (ad : Addr) (n N : Nat) (hN : N = n * 256) (hn : n ≤ 512) (i : Nat) (hi : i < n) (on : List UInt8) (hon : on.length = N) (w : World) (hv : VA w bd 146 (dC ad N)) (hr : RB w (.slice (some ad) N N) on) :
    Calls Try.prog 140 #[.pointer (some ⟨bd, 0, none⟩), .int .i64 (i : Int)] w fun e w' => ∃ v, e = .returned (.tuple #[v, .int .i64 0]) ∧ OB w' w.heap.size v ((on.drop (i * 256)).take 256) ∧ Below w.heap.size w w' := by
  have H := SH.start Nil w
  have c3 := hv.cell 3
  change _ = some (Value.bool false) at c3
  have HV := Lib.hid hv
  have HR := Lib.hid hr
  have HH := Lib.hid (fun W (k : VA W bd 146 (dC ad N)) => diskHas_any bd ad n N hN hn i hi W k)
  have hs := (fun W (k : VA W bd 146 (dC ad N)) (kr : RB W (.slice (some ad) N N) on) => diskSector_any bd ad n N hN hn i hi on hon W k kr)
  obtain ⟨X, hX⟩ : ∃ X, X = (on.drop (i * 256)).take 256 := ⟨_, rfl⟩
  have hXl : X.length = 256 := by rw [hX, List.length_take, List.length_drop, hon, hN]; omega
  rw [← hX] at hs ⊢
  have HS := Lib.hid hs
  have HXL := Lib.hid hXl
  clear hv hr hs hX hXl
  refine calls_marks Try.func140 rfl ?_
  simp only [Try.ntmps140, List.size_toArray, List.length_cons, List.length_nil, Nat.reduceAdd, Nat.reduceSub, Array.replicate_succ, Array.replicate_zero, List.push_toArray, List.append_toArray, List.nil_append, List.cons_append]
  go_wp2_with (first
    | ((with_reducible refine gDst 14 ?_); refine aLoadC _ rfl rfl (cell_below H.below c3) rfl ?_)
    | (go_at_call 141; refine (HH.out _ (HV.out.below H.below)).mono ?_; rintro e w' ⟨rfl, rfl⟩)
    | ((with_reducible refine gDst 3 ?_); refine aBox1 H _ rfl (by first | exact (rfl : _ = Value.int _ _) | exact (rfl : _ = Value.bool _) | exact (rfl : _ = Value.slice _ _ _) | exact (rfl : _ = Value.string _) | exact (rfl : _ = Value.pointer _) | exact (rfl : _ = Value.func _ _ _) | rfl) (by rfl) rfl ?_; clear H; intro b3 w3 H)
    | ((with_reducible refine gDst 4 ?_); refine aAlloc1 H rfl rfl ?_; clear H; intro b4 w4 H)
    | ((with_reducible refine gDst 5 ?_); refine aAlloc1 H rfl rfl ?_; clear H; intro b5 w5 H)
    | ((with_reducible refine gDst 6 ?_); refine aAlloc H rfl rfl ?_; clear H; intro b6 w6 H)
    | ((with_reducible refine gLoad ?_); first | (refine aLoad1 H _ rfl rfl (by first | exact (rfl : _ = some (Value.int _ _)) | exact (rfl : _ = some (Value.slice _ _ _)) | exact (rfl : _ = some (Value.bool _)) | exact (rfl : _ = some (Value.string _)) | exact (rfl : _ = some (Value.pointer _)) | rfl | (simp [List.getElem?_append]; done)) rfl ?_) | (refine aLoadC _ rfl rfl (by assumption) rfl ?_))
    | ((with_reducible refine gStore ?_); (first | (refine aCell H _ _ rfl rfl (by first | exact (rfl : _ = Value.int _ _) | exact (rfl : _ = Value.bool _) | exact (rfl : _ = Value.slice _ _ _) | exact (rfl : _ = Value.string _) | exact (rfl : _ = Value.pointer _) | exact (rfl : _ = Value.func _ _ _) | rfl) (by rfl) (by rfl) (by first | exact of_decide_eq_true rfl | (simp []; done) | (simp []; omega)) (by first | (simp only [List.set_cons_zero, List.set_cons_succ]; rfl) | (simp [List.set_append]; rfl)) rfl ?_) | (refine aStore H _ _ rfl rfl rfl (by (first | exact ⟨rfl, rfl⟩ | exact ⟨by decide, rfl⟩ | (simp []; done) | (constructor <;> simp [] <;> omega))) (by first | rfl | simp [List.all_append, one_all]) rfl ?_) | (refine aLay H _ _ rfl rfl rfl (by (first | exact ⟨rfl, rfl⟩ | exact ⟨by decide, rfl⟩ | (simp []; done) | (constructor <;> simp [] <;> omega))) (by first | rfl | simp [List.all_append, one_all]) (by simp only [lay, List.take_succ_cons, List.take_zero, List.drop_succ_cons, List.drop_zero, List.nil_append, List.cons_append, List.length_cons, List.length_nil, Nat.zero_add, Nat.reduceAdd]; rfl) rfl ?_)); clear H; intro w' H; try dsimp only at H))
  refine rangeFunc_none (gf := 142) (recv := #[.pointer (some ⟨bd, 0, none⟩)]) rfl (fun args W => Go.MuLone.run_callFunc_enter Try.func142 (by kernel_rfl) rfl args W) (fun l W hb => diskNewest_none bd ad N l W (HV.out.below (below_two H.below H.below.size hb))) ?_
  intro D W hD hb hK
  replace H := H.push hb (.obj D (.deferred (some []))) hK (fun k hk => by have e : k = D := hk; omega)
  clear hK
  go_wp2_with (first
    | (go_at_call 143; refine (HS.out _ (HV.out.below H.below) (HR.out.below H.below)).mono ?_; rintro e w' ⟨As, cs, rfl, hrs, rfl⟩)
    | (go_at_call 31; refine (Clone_any _ _ _ hrs (by rw [HXL.out]; decide)).mono ?_; rintro e w' ⟨v2, rfl, ho, hb2⟩; replace H := H.pushRow hb2 ho; obtain ⟨A2, c2, rfl, -⟩ := ho.reads.len; clear hb2 ho)
    | ((with_reducible refine gDst 3 ?_); refine aBox1 H _ rfl (by first | exact (rfl : _ = Value.int _ _) | exact (rfl : _ = Value.bool _) | exact (rfl : _ = Value.slice _ _ _) | exact (rfl : _ = Value.string _) | exact (rfl : _ = Value.pointer _) | exact (rfl : _ = Value.func _ _ _) | rfl) (by rfl) rfl ?_; clear H; intro b3 w3 H)
    | ((with_reducible refine gDst 4 ?_); refine aAlloc1 H rfl rfl ?_; clear H; intro b4 w4 H)
    | ((with_reducible refine gDst 5 ?_); refine aAlloc1 H rfl rfl ?_; clear H; intro b5 w5 H)
    | ((with_reducible refine gDst 6 ?_); refine aAlloc H rfl rfl ?_; clear H; intro b6 w6 H)
    | ((with_reducible refine gLoad ?_); first | (refine aLoad1 H _ rfl rfl (by first | exact (rfl : _ = some (Value.int _ _)) | exact (rfl : _ = some (Value.slice _ _ _)) | exact (rfl : _ = some (Value.bool _)) | exact (rfl : _ = some (Value.string _)) | exact (rfl : _ = some (Value.pointer _)) | rfl | (simp [List.getElem?_append]; done)) rfl ?_) | (refine aLoadC _ rfl rfl (by assumption) rfl ?_))
    | ((with_reducible refine gStore ?_); (first | (refine aCell H _ _ rfl rfl (by first | exact (rfl : _ = Value.int _ _) | exact (rfl : _ = Value.bool _) | exact (rfl : _ = Value.slice _ _ _) | exact (rfl : _ = Value.string _) | exact (rfl : _ = Value.pointer _) | exact (rfl : _ = Value.func _ _ _) | rfl) (by rfl) (by rfl) (by first | exact of_decide_eq_true rfl | (simp []; done) | (simp []; omega)) (by first | (simp only [List.set_cons_zero, List.set_cons_succ]; rfl) | (simp [List.set_append]; rfl)) rfl ?_) | (refine aStore H _ _ rfl rfl rfl (by (first | exact ⟨rfl, rfl⟩ | exact ⟨by decide, rfl⟩ | (simp []; done) | (constructor <;> simp [] <;> omega))) (by first | rfl | simp [List.all_append, one_all]) rfl ?_) | (refine aLay H _ _ rfl rfl rfl (by (first | exact ⟨rfl, rfl⟩ | exact ⟨by decide, rfl⟩ | (simp []; done) | (constructor <;> simp [] <;> omega))) (by first | rfl | simp [List.all_append, one_all]) (by simp only [lay, List.take_succ_cons, List.take_zero, List.drop_succ_cons, List.drop_zero, List.nil_append, List.cons_append, List.length_cons, List.length_nil, Nat.zero_add, Nat.reduceAdd]; rfl) rfl ?_)); clear H; intro w' H; try dsimp only at H))
  refine ⟨by simp, .inl ⟨D, _, rfl, run_takeDeferred (H.at_ 1 rfl), ?_⟩⟩
  replace H := H.setObj 1 rfl (.deferred none)
  simp only [List.set_cons_succ, List.set_cons_zero] at H
  refine ⟨_, res_cells2 rfl _ rfl rfl ((H.hold.va (b := b4)).cell 0) ((H.hold.va (b := b5)).cell 0), ?_⟩
  exact ⟨_, rfl, H.ow _, H.below⟩
end Go.Proofs.Ytbglebchnlfklaa

namespace Go.Proofs.Ytbglebchnlfklaa
set_option maxRecDepth 100000
open Go.RowKit

structure PT where
  hash : List UInt8
  hl : hash.length = 32
  birth : UInt32
  a0 : UInt32
  a1 : UInt32
  deriving DecidableEq
def u32 (n : UInt32) : Value := .int .u32 (n.toNat : Int)
def PT.cells (p : PT) : List Value := p.hash.map cb ++ [u32 p.birth, u32 p.a0, u32 p.a1]
def PT.val (p : PT) : Value := .agg p.cells.toArray
def PT.may (p : PT) : Bool := if p.a0 = 0 then p.a1 == 0 else p.a0 != p.a1
theorem PT.len (p : PT) : p.cells.length = 35 := by simp [PT.cells, p.hl]
theorem PT.take32 (p : PT) : p.cells.take 32 = p.hash.map cb := by rw [PT.cells, List.take_append_of_le_length (by simp [p.hl]), List.take_of_length_le (by simp [p.hl])]
theorem PT.drop32 (p : PT) : p.cells.drop 32 = [u32 p.birth, u32 p.a0, u32 p.a1] := by rw [PT.cells, List.drop_left' (by simp [p.hl])]
theorem PT.drop33 (p : PT) : p.cells.drop 33 = [u32 p.a0, u32 p.a1] := by rw [show 33 = 32 + 1 from rfl, ← List.drop_drop, PT.drop32]; rfl
theorem PT.c32 (p : PT) : p.cells.toArray[32]? = some (u32 p.birth) := by simp [PT.cells, p.hl]
theorem PT.c33 (p : PT) : p.cells.toArray[33]? = some (u32 p.a0) := by simp [PT.cells, p.hl]
theorem PT.c34 (p : PT) : p.cells.toArray[34]? = some (u32 p.a1) := by simp [PT.cells, p.hl]
theorem PT.ext' (p q : PT) (h1 : p.hash = q.hash) (h2 : p.birth = q.birth) (h3 : p.a0 = q.a0) (h4 : p.a1 = q.a1) : p = q := by
  cases p; cases q; simp_all
/-- The hole. -/
def PT.hole : PT := ⟨List.replicate 32 0, by simp, 0, 0, 0⟩
theorem u32_eq (a b : UInt32) : ((a.toNat : Int) == (b.toNat : Int)) = (a == b) := by
  by_cases h : a = b
  · subst h; simp
  · have : ¬ (a.toNat : Int) = (b.toNat : Int) := fun e => h (UInt32.toNat_inj.mp (by omega))
    rw [beq_eq_false_iff_ne.mpr this, beq_eq_false_iff_ne.mpr h]
theorem u8_eq (a b : UInt8) : ((a.toNat : Int) == (b.toNat : Int)) = (a == b) := by
  by_cases h : a = b
  · subst h; simp
  · have : ¬ (a.toNat : Int) = (b.toNat : Int) := fun e => h (UInt8.toNat_inj.mp (by omega))
    rw [beq_eq_false_iff_ne.mpr this, beq_eq_false_iff_ne.mpr h]

theorem sizeOf_ok {P : Program} {t : TypeId} {n : Nat} (h : (P.info? t).map (·.size) = some n) (w : World) : (sizeOf t).run P w = .ok n w := by
  cases hq : P.info? t with
  | none => simp [hq] at h
  | some i => simp [hq] at h; simp [sizeOf, typeInfo, hq, h]
theorem eqU8 : EqT Try.prog 5 1 false 1 (fun x : UInt8 => [cb x]) cb (fun x y => (x.toNat : Int) == (y.toNat : Int)) :=
  EqT.int 5 .u8 (by kernel_rfl) (sizeOf_ok (by kernel_rfl)) (fun x : UInt8 => (x.toNat : Int))
theorem eqU32 : EqT Try.prog 24 1 false 1 (fun x : UInt32 => [u32 x]) u32 (fun x y => (x.toNat : Int) == (y.toNat : Int)) :=
  EqT.int 24 .u32 (by kernel_rfl) (sizeOf_ok (by kernel_rfl)) (fun x : UInt32 => (x.toNat : Int))

theorem eqHash : EqT Try.prog 27 (32 * 1) true 2 (fun l : RowOf UInt8 32 => l.1.flatMap fun x => [cb x]) (fun l => .agg (l.1.flatMap fun x => [cb x]).toArray) (fun x y => (x.1.zip y.1).all fun p => (p.1.toNat : Int) == (p.2.toNat : Int)) :=
  eqU8.row (by kernel_rfl) (sizeOf_ok (by kernel_rfl))
theorem eqAt : EqT Try.prog 28 (2 * 1) true 2 (fun l : RowOf UInt32 2 => l.1.flatMap fun x => [u32 x]) (fun l => .agg (l.1.flatMap fun x => [u32 x]).toArray) (fun x y => (x.1.zip y.1).all fun p => (p.1.toNat : Int) == (p.2.toNat : Int)) :=
  eqU32.row (by kernel_rfl) (sizeOf_ok (by kernel_rfl))
theorem flatMap_one {α : Type} (f : α → Value) (l : List α) : (l.flatMap fun x => [f x]) = l.map f := by
  induction l with
  | nil => rfl
  | cons x l ih => simp [ih]
theorem zip_u8 : ∀ (xs ys : List UInt8), xs.length = ys.length → ((xs.zip ys).all fun p => (p.1.toNat : Int) == (p.2.toNat : Int)) = (xs == ys) := by
  intro xs ys h
  rw [← zip_all_eq xs ys h]
  congr 1
  funext p
  exact u8_eq _ _

theorem eqPT : EqT Try.prog 30 35 true 3 PT.cells PT.val (fun p q => p == q) where
  isAg w := by unfold isAgg; rw [Sem.run_bind, run_underlying (t := 30) Try.underlying30 w]; rfl
  size := sizeOf_ok (by kernel_rfl)
  len := PT.len
  vals p := rfl
  one h := by cases h
  eqs d w p q := by
    unfold PT.val
    rw [run_equalIn_struct w (d + 2) 30 _ _ (by kernel_rfl) (by kernel_rfl)]
    have hf : (Program.fieldsOf Try.prog 30).toList.map (fun f => (f.name, f.type, f.offset)) = [("Hash", 27, 0), ("Birth", 24, 32), ("At", 28, 33)] := by kernel_rfl
    rw [eqFields_eq, hf]
    have h3 := eqF_cons (P := Try.prog) "At" 28 33 [] eqAt (by decide) (d + 2) (by omega) p.cells q.cells ⟨[p.a0, p.a1], rfl⟩ ⟨[q.a0, q.a1], rfl⟩ (by rw [PT.drop33]; rfl) (by rw [PT.drop33]; rfl) (by rw [PT.len]; decide) (by rw [PT.len]; decide) w true (eqF_nil _ _ _ _)
    have h2 := eqF_cons (P := Try.prog) "Birth" 24 32 _ eqU32 (by decide) (d + 2) (by omega) p.cells q.cells p.birth q.birth (by rw [PT.drop32]; rfl) (by rw [PT.drop32]; rfl) (by rw [PT.len]; decide) (by rw [PT.len]; decide) w _ h3
    have h1 := eqF_cons (P := Try.prog) "Hash" 27 0 _ eqHash (by decide) (d + 2) (by omega) p.cells q.cells ⟨p.hash, p.hl⟩ ⟨q.hash, q.hl⟩ (by rw [List.drop_zero, flatMap_one]; exact PT.take32 p) (by rw [List.drop_zero, flatMap_one]; exact PT.take32 q) (by rw [PT.len]; decide) (by rw [PT.len]; decide) w _ h2
    rw [h1]
    congr 1
    simp only [zip_u8 p.hash q.hash (by rw [p.hl, q.hl]), u32_eq, List.zip_cons_cons, List.zip_nil_right, List.all_cons, List.all_nil, Bool.and_true]
    rw [Bool.eq_iff_iff]
    simp only [Bool.and_eq_true, beq_iff_eq]
    constructor
    · rintro ⟨h1, h2, h3, h4⟩; exact PT.ext' p q h1 h2 h3 h4
    · rintro rfl; exact ⟨rfl, rfl, rfl, rfl⟩
theorem ptr_eql (p q : PT) (w : World) : (binOp .eql 30 p.val q.val).run Try.prog w = .ok (.bool (p == q)) w := by
  unfold PT.val
  rw [run_eql_struct]
  have h := eqPT.eqs 9997 w p q
  unfold PT.val at h
  rw [h]; rfl

set_option maxRecDepth 100000 in
theorem May_any (p : PT) (w : World) : Calls Try.prog 48 #[p.val] w fun e w' => e = .returned (.bool p.may) ∧ Below w.heap.size w w' := by
  have h33 := p.c33
  have h34 := p.c34
  have hb : Below w.heap.size w (w.alloc (.cells p.cells.toArray 30)) := (Below.refl _ _).alloc (Nat.le_refl _) _
  unfold PT.val u32 at *
  generalize p.cells.toArray = C at h33 h34 hb
  have e0 := u32_eq p.a0 0
  have e1 := u32_eq p.a1 0
  have e2 : ((p.a0.toNat : Int) != (p.a1.toNat : Int)) = (p.a0 != p.a1) := by rw [bne, bne, u32_eq]
  simp only [UInt32.toNat_zero, Int.natCast_zero] at e0 e1
  by_cases h : p.a0 = 0
  · have hm : p.may = (p.a1 == 0) := by rw [PT.may, if_pos h]
    rw [hm]
    have h0 : ((p.a0.toNat : Int) == 0) = true := by rw [h]; rfl
    clear h hm e0
    go_enter Try.func48, Try.ntmps48
    go_wp2
    go_ret
    exact ⟨rfl, hb⟩
  · have hm : p.may = (p.a0 != p.a1) := by rw [PT.may, if_neg h]
    rw [hm]
    have h0 : ((p.a0.toNat : Int) == 0) = false := by
      have : ¬ (p.a0.toNat : Int) = 0 := fun e => h (UInt32.toNat_inj.mp (by simpa using e))
      simpa using this
    clear h hm e0
    go_enter Try.func48, Try.ntmps48
    go_wp2
    go_ret
    exact ⟨rfl, hb⟩
end Go.Proofs.Ytbglebchnlfklaa

namespace Go.Proofs.Ytbglebchnlfklaa
set_option maxRecDepth 100000
open Go.RowKit

theorem PT.info (p : PT) : (Try.prog.info? 30).map (·.size) = some p.cells.length := by rw [PT.len]; kernel_rfl
theorem PT.one (p : PT) : ∀ v ∈ p.cells, v.oneCell' = true := by
  intro v hv
  simp only [PT.cells, List.mem_append, List.mem_map, List.mem_cons, List.not_mem_nil, or_false] at hv
  rcases hv with ⟨x, _, rfl⟩ | rfl | rfl | rfl <;> rfl
theorem ptr_eqlA (p q : PT) (w : World) : (binOp .eql 30 (.agg p.cells.toArray) (.agg q.cells.toArray)).run Try.prog w = .ok (.bool (p == q)) w := ptr_eql p q w
theorem ptr_zero : Program.built Try.prog 30 [] = some PT.hole.cells.toArray := by kernel_rfl
theorem ptr_guard : Try.prog.eqGuardType Try.prog.depth 30 = false := by kernel_rfl

set_option maxRecDepth 100000 in
theorem IsHole_any (p : PT) (w : World) : Calls Try.prog 110 #[p.val] w fun e w' => e = .returned (.bool (p == PT.hole)) ∧ Below w.heap.size w w' := by
  unfold PT.val
  go_enter Try.func110, Try.ntmps110
  go_wp2_with (first
    | (refine wpBox 30 _ rfl p.cells rfl rfl ?_; intro w1 hv1 hb1)
    | (refine stepV (exec_load 30 _ rfl _ _ rfl p.cells _ hv1.all Try.underlying30 rfl p.info) rfl ?_)
    | (refine stepV (exec_build 30 _ rfl PT.hole.cells ptr_zero) rfl ?_)
    | (refine stepV (exec_eql 30 _ _ _ rfl _ _ rfl rfl ptr_guard _ (ptr_eqlA p PT.hole _)) rfl ?_))
  go_ret
  exact ⟨rfl, hb1⟩
end Go.Proofs.Ytbglebchnlfklaa

namespace Go.Proofs.Ytbglebchnlfklaa
set_option maxRecDepth 100000
set_option linter.unusedSimpArgs false
open Go.RowKit

/-- A pointer as it is written. -/
def encL (p : PT) : List UInt8 := p.hash ++ put32L p.birth.toNat ++ put32L p.a0.toNat ++ put32L p.a1.toNat
theorem encL_length (p : PT) : (encL p).length = 44 := by simp [encL, put32L, p.hl]
theorem PT.range_hash {w : World} {b : Nat} {t : TypeId} {p : PT} (h : VA w b t p.cells) : w.rangeAt b 0 (p.hash.map cb) := h.range 0 _ (by rw [List.drop_zero, List.length_map, p.hl]; exact p.take32)
theorem PT.rb_hash {w : World} {b : Nat} {t : TypeId} {p : PT} (h : VA w b t p.cells) : RB w (.slice (some ⟨b, 0, none⟩) 32 32) p.hash := by
  have := RR.range (T := B8) (w := w) (b := b) (o := 0) (xs := p.hash) (by rw [U8_all]; exact PT.range_hash h) (by rw [p.hl]; decide)
  rw [p.hl] at this
  exact this
theorem PT.cell32 {w : World} {b : Nat} {t : TypeId} {p : PT} (h : VA w b t p.cells) : w.cell? ⟨b, 32, none⟩ = some (.int .u32 (p.birth.toNat : Int)) := by rw [h.cell]; have := p.c32; rw [List.getElem?_toArray] at this; exact this
theorem PT.cell33 {w : World} {b : Nat} {t : TypeId} {p : PT} (h : VA w b t p.cells) : w.cell? ⟨b, 33, none⟩ = some (.int .u32 (p.a0.toNat : Int)) := by rw [h.cell]; have := p.c33; rw [List.getElem?_toArray] at this; exact this
theorem PT.cell34 {w : World} {b : Nat} {t : TypeId} {p : PT} (h : VA w b t p.cells) : w.cell? ⟨b, 34, none⟩ = some (.int .u32 (p.a1.toNat : Int)) := by rw [h.cell]; have := p.c34; rw [List.getElem?_toArray] at this; exact this
theorem one_u8 (xs : List UInt8) : ∀ v ∈ xs.map cb, v.oneCell' = true := by
  intro v hv
  obtain ⟨x, _, rfl⟩ := List.mem_map.mp hv
  rfl
theorem OB.shape {w : World} {base : Nat} {v : Value} {xs : List UInt8} {n : Nat} (h : OB w base v xs) (hn : xs.length = n) (hp : 0 < n) : ∃ g c, v = .slice (some ⟨g, 0, none⟩) n c ∧ base ≤ g ∧ w.rangeAt g 0 (xs.map cb) := by
  subst hn
  obtain ⟨A, c, rfl, _, _, hc⟩ := h.reads
  rcases h.2 with ⟨h1, _⟩ | ⟨g, cap, cur, h1, h2, _⟩
  · obtain ⟨ad, e, _⟩ := hc hp
    rw [e] at h1; cases h1
  · obtain ⟨ad, e, hcc⟩ := hc hp
    rw [e] at h1 ⊢
    cases h1
    refine ⟨g, _, rfl, h2, fun j v hv => ?_⟩
    have := hcc j v (by rw [U8_all]; exact hv)
    rw [Addr.add_mid] at this
    exact this
/-- An array of bytes, by value. -/
def bytesV (xs : List UInt8) : Value := .agg (xs.map cb).toArray

set_option maxHeartbeats 1600000 in
set_option maxRecDepth 100000 in
theorem Encode_any (p : PT) (w : World) : Calls Try.prog 99 #[p.val] w fun e w' => e = .returned (bytesV (encL p)) ∧ Below w.heap.size w w' := by
  unfold PT.val
  go_enter Try.func99, Try.ntmps99
  go_wp2_with (first
    | (refine wpBox 30 _ rfl p.cells rfl rfl ?_; intro w1 hv1 hb1)
    | (refine wpAlloc 131 rfl (bytesV (List.replicate 44 0)) ((List.replicate 44 (0 : UInt8)).map cb) (by kernel_rfl) rfl rfl ?_; intro w2 hv2 hb2; have hne := hv1.lt; replace hv1 := hv1.below hb2))
  have hb := below_two hb1 hb1.size hb2
  have hvd1 : VA w2.drew w.heap.size 30 p.cells := hv1
  have hvd2 : VA w2.drew w1.heap.size 131 ((List.replicate 44 (0 : UInt8)).map cb) := hv2
  have hbd : Below w.heap.size w w2.drew := hb.drew
  clear hv1 hv2 hb1 hb2 hb
  refine startE (none) (by kernel_rfl) ?_
  refine takeE 0 rfl (by kernel_rfl) (by kernel_rfl) (by kernel_rfl) (fun _ _ _ h => h) rfl (v := ?_) ?_ ?_
  rotate_left
  · intro w' hw'; clear hw'; go_simp; (try with_reducible rfl)
  (try simp only [Act.put, List.setIfInBounds_toArray, List.set_cons_zero, List.set_cons_succ])
  refine takeE 1 rfl (by kernel_rfl) (by kernel_rfl) (by kernel_rfl) (fun _ _ _ h => h) rfl (v := ?_) ?_ ?_
  rotate_left
  · intro w' hw'; clear hw'; go_simp; (try with_reducible rfl)
  (try simp only [Act.put, List.setIfInBounds_toArray, List.set_cons_zero, List.set_cons_succ])
  refine takeE 2 rfl (by kernel_rfl) (by kernel_rfl) (by kernel_rfl) (fun _ _ _ h => h) rfl (v := ?_) ?_ ?_
  rotate_left
  · intro w' hw'; clear hw'; go_simp; (try with_reducible rfl)
  (try simp only [Act.put, List.setIfInBounds_toArray, List.set_cons_zero, List.set_cons_succ])
  refine takeE 3 rfl (by kernel_rfl) (by kernel_rfl) (by kernel_rfl) (fun _ _ _ h => h) rfl (v := ?_) ?_ ?_
  rotate_left
  · intro w' hw'; have h := cell_below (grown_none hw') (PT.cell32 hvd1); clear hw'; go_simp; (try with_reducible rfl)
  (try simp only [Act.put, List.setIfInBounds_toArray, List.set_cons_zero, List.set_cons_succ])
  refine stepE 4 rfl (by kernel_rfl) rfl (fun K hK => ?_)
  (go_simp; (with_reducible refine (Put32_any _ p.hash p.birth.toNat _ (PT.rb_hash hvd1) (by rw [p.hl]; omega) p.birth.toNat_lt).mono ?_); rintro e w3 ⟨v3, rfl, ho3, hb3⟩; refine K_out hK hb3 ?_; clear K hK; replace hvd1 := hvd1.below hb3; replace hvd2 := hvd2.below hb3; replace hbd := below_two hbd hbd.size hb3; clear hb3)
  (try simp only [Act.put, List.setIfInBounds_toArray, List.set_cons_zero, List.set_cons_succ])
  refine takeE 5 rfl (by kernel_rfl) (by kernel_rfl) (by kernel_rfl) (fun _ _ _ h => h) rfl (v := ?_) ?_ ?_
  rotate_left
  · intro w' hw'; clear hw'; go_simp; (try with_reducible rfl)
  (try simp only [Act.put, List.setIfInBounds_toArray, List.set_cons_zero, List.set_cons_succ])
  refine doneE (by kernel_rfl) ?_
  go_wp2_with fail
  have hvd1' : VA w3.drew w.heap.size 30 p.cells := hvd1
  have hvd2' : VA w3.drew w1.heap.size 131 ((List.replicate 44 (0 : UInt8)).map cb) := hvd2
  have hbd' : Below w.heap.size w w3.drew := hbd.drew
  have ho3' := ho3.drew
  clear hvd1 hvd2 hbd ho3
  refine startE (some w1.heap.size) (by kernel_rfl) ?_
  refine takeE 0 rfl (by kernel_rfl) (by kernel_rfl) (by kernel_rfl) (fun _ _ _ h => h) rfl (v := ?_) ?_ ?_
  rotate_left
  · intro w' hw'; clear hw'; go_simp; (try with_reducible rfl)
  (try simp only [Act.put, List.setIfInBounds_toArray, List.set_cons_zero, List.set_cons_succ])
  refine takeE 1 rfl (by kernel_rfl) (by kernel_rfl) (by kernel_rfl) (fun _ _ _ h => h) rfl (v := ?_) ?_ ?_
  rotate_left
  · intro w' hw'; clear hw'; go_simp; (try with_reducible rfl)
  (try simp only [Act.put, List.setIfInBounds_toArray, List.set_cons_zero, List.set_cons_succ])
  refine takeE 2 rfl (by kernel_rfl) (by kernel_rfl) (by kernel_rfl) (fun _ _ _ h => h) rfl (v := ?_) ?_ ?_
  rotate_left
  · intro w' hw'; clear hw'; go_simp; (try with_reducible rfl)
  (try simp only [Act.put, List.setIfInBounds_toArray, List.set_cons_zero, List.set_cons_succ])
  refine takeE 3 rfl (by kernel_rfl) (by kernel_rfl) (by kernel_rfl) (fun _ _ _ h => h) rfl (v := ?_) ?_ ?_
  rotate_left
  · intro w' hw'; have h := hw'.cell (PT.cell33 hvd1') (by simp; omega); clear hw'; go_simp; (try with_reducible rfl)
  (try simp only [Act.put, List.setIfInBounds_toArray, List.set_cons_zero, List.set_cons_succ])
  refine takeE 5 rfl (by kernel_rfl) (by kernel_rfl) (by kernel_rfl) (fun _ _ _ h => h) rfl (v := ?_) ?_ ?_
  rotate_left
  · intro w' hw'; clear hw'; go_simp; (try with_reducible rfl)
  (try simp only [Act.put, List.setIfInBounds_toArray, List.set_cons_zero, List.set_cons_succ])
  refine takeE 6 rfl (by kernel_rfl) (by kernel_rfl) (by kernel_rfl) (fun _ _ _ h => h) rfl (v := ?_) ?_ ?_
  rotate_left
  · intro w' hw'; clear hw'; go_simp; (try with_reducible rfl)
  (try simp only [Act.put, List.setIfInBounds_toArray, List.set_cons_zero, List.set_cons_succ])
  refine takeE 7 rfl (by kernel_rfl) (by kernel_rfl) (by kernel_rfl) (fun _ _ _ h => h) rfl (v := ?_) ?_ ?_
  rotate_left
  · intro w' hw'; have h := hw'.cell (PT.cell34 hvd1') (by simp; omega); clear hw'; go_simp; (try with_reducible rfl)
  (try simp only [Act.put, List.setIfInBounds_toArray, List.set_cons_zero, List.set_cons_succ])
  refine stepE 4 rfl (by kernel_rfl) rfl (fun K hK => ?_)
  (go_simp; (with_reducible refine (Put32_any _ _ p.a0.toNat _ ho3'.reads (by simp [p.hl, put32L]) p.a0.toNat_lt).mono ?_); rintro e w4 ⟨v4, rfl, ho4, hb4⟩; refine K_out hK hb4 ?_; clear K hK; replace hvd1' := hvd1'.below hb4; replace hvd2' := hvd2'.below hb4; replace hbd' := below_two hbd' hbd'.size hb4; clear hb4 ho3')
  (try simp only [Act.put, List.setIfInBounds_toArray, List.set_cons_zero, List.set_cons_succ])
  refine stepE 8 rfl (by kernel_rfl) rfl (fun K hK => ?_)
  (go_simp; (with_reducible refine (Put32_any _ _ p.a1.toNat _ ho4.reads (by simp [p.hl, put32L]) p.a1.toNat_lt).mono ?_); rintro e w5 ⟨v5, rfl, ho5, hb5⟩; refine K_out hK hb5 ?_; clear K hK; obtain ⟨g, c, rfl, hg1, hg2⟩ := OB.shape ho5 (encL_length p) (by decide); have hne2 : g ≠ w1.heap.size := (by have := hvd2'.lt; omega); replace hvd1' := hvd1'.below hb5; replace hvd2' := hvd2'.below hb5; replace hbd' := below_two hbd' hbd'.size hb5; clear hb5 ho4 ho5)
  (try simp only [Act.put, List.setIfInBounds_toArray, List.set_cons_zero, List.set_cons_succ])
  refine takeE 9 rfl (by kernel_rfl) (by kernel_rfl) (by kernel_rfl) (fun _ _ _ h => h) rfl (v := ?_) ?_ ?_
  rotate_left
  · intro w' hw'; refine Eq.trans (exec_arrptr 131 _ rfl 44 _ Try.underlying131 _ 44 c rfl (Nat.le_refl _)) ?_; with_reducible rfl
  (try simp only [Act.put, List.setIfInBounds_toArray, List.set_cons_zero, List.set_cons_succ])
  refine takeE 10 rfl (by kernel_rfl) (by kernel_rfl) (by kernel_rfl) (fun _ _ _ h => h) rfl (v := ?_) ?_ ?_
  rotate_left
  · intro w' hw'; refine Eq.trans (exec_load 131 _ rfl g 0 rfl ((encL p).map cb) _ (fun j v hv => hw'.cell (hg2 j v hv) (by simpa using hne2)) Try.underlying131 rfl (by rw [List.length_map, encL_length]; kernel_rfl)) ?_; with_reducible rfl
  (try simp only [Act.put, List.setIfInBounds_toArray, List.set_cons_zero, List.set_cons_succ])
  refine stepE 11 rfl (by kernel_rfl) rfl (fun K hK => ?_)
  (refine opStore 131 _ _ rfl w1.heap.size rfl ((encL p).map cb) _ rfl _ hvd2' (by rw [List.length_map, encL_length]; kernel_rfl) (by simp [encL_length]) (one_u8 _) ?_; intro w6 hv6 hg6; refine hK.out _ _ hg6 ?_; clear K hK)
  (try simp only [Act.put, List.setIfInBounds_toArray, List.set_cons_zero, List.set_cons_succ])
  refine doneE (by kernel_rfl) ?_
  have hb6 := hbd'.grown hg6 hbd'.size (fun k hk => by cases hk; omega)
  go_wp2_with fail
  refine bodyPost_ret (results_cell rfl _ hv6 rfl _ Try.underlying131 rfl (by rw [List.length_map, encL_length]; kernel_rfl)) rfl ?_
  exact ⟨rfl, hb6⟩
end Go.Proofs.Ytbglebchnlfklaa

namespace Go.Proofs.Ytbglebchnlfklaa
set_option maxRecDepth 100000
open Go.RowKit

set_option maxHeartbeats 400000 in
theorem Take32_any (v : Value) (xs : List UInt8) (w : World) (hv : RB w v xs) (hl : xs.length ≤ 1000000000) :
    Calls Try.prog 83 #[v] w fun e w' => ∃ v', e = .returned (.tuple #[.int .u32 (if 4 ≤ xs.length then (get32 xs : Int) else 0), v', .int .i64 (if 4 ≤ xs.length then 0 else 2)]) ∧
      OB w' w.heap.size v' (if 4 ≤ xs.length then xs.drop 4 else []) ∧ Below w.heap.size w w' := by
  by_cases h4 : 4 ≤ xs.length
  · rw [if_pos h4, if_pos h4, if_pos h4]
    have h4' : (4 : Int) ≤ xs.length := by omega
    have hn : ¬ ((4 : Int) < 0) := by decide
    have hc := TakeBytes_any v xs 4 w hv hl
    rw [if_neg hn, if_neg hn, if_neg hn, if_pos h4', if_pos h4', if_pos h4'] at hc
    clear hn
    go_enter Try.func83, Try.ntmps83
    go_wp2_with ((go_at_call 111; refine hc.mono ?_; clear hc; rintro e w1 ⟨v1, v2, rfl, ho1, ho2, _, hb1⟩))
    have hlen4 : (xs.take (4 : Int).toNat).length = 4 := by simp; omega
    obtain ⟨A1, c1, rfl, hc1, _, hcell1⟩ := ho1.reads
    obtain ⟨ad, rfl, hcc⟩ := hcell1 (by omega)
    have hk : ∀ j (h : j < xs.length), j < 4 → w1.cell? (ad.add j) = some (.int .u8 (((xs.getD j 0).toNat : Nat) : Int)) := fun j h h' => by
      refine hcc j _ ?_
      rw [U8_all, List.getElem?_map, List.getElem?_take, if_pos (by simpa using h'), List.getElem?_eq_getElem h, List.getD_eq_getElem?_getD, List.getElem?_eq_getElem h]
      rfl
    have k0 := hk 0 (by omega) (by omega)
    rw [show ad.add 0 = ad from by simp [Addr.add]] at k0
    have k1 := hk 1 (by omega) (by omega)
    have k2 := hk 2 (by omega) (by omega)
    have k3 := hk 3 (by omega) (by omega)
    rw [show ad.add 1 = ⟨ad.block, ad.off + 1, none⟩ from rfl] at k1
    rw [show ad.add 2 = ⟨ad.block, ad.off + 2, none⟩ from rfl] at k2
    rw [show ad.add 3 = ⟨ad.block, ad.off + 3, none⟩ from rfl] at k3
    clear hk hcc hcell1
    rw [hlen4]
    generalize hb0 : xs.getD 0 0 = b0 at k0
    generalize hb1' : xs.getD 1 0 = b1 at k1
    generalize hb2 : xs.getD 2 0 = b2 at k2
    generalize hb3 : xs.getD 3 0 = b3 at k3
    have hg : get32 xs = b0.toNat + b1.toNat * 256 + b2.toNat * 65536 + b3.toNat * 16777216 := by unfold get32; rw [hb0, hb1', hb2, hb3]
    have HG := Lib.hid hg
    clear hb0 hb1' hb2 hb3 hg
    go_quiet (fail)
    go_wp2
    go_ret3
    exact ⟨_, by rw [HG.out, or32]; rfl, ho2.below (pw_below_drewN (Below.refl _ _) _), pw_below_drewN hb1 _⟩
  · rw [if_neg h4, if_neg h4, if_neg h4]
    have h4' : ¬ (4 : Int) ≤ xs.length := by omega
    have hn : ¬ ((4 : Int) < 0) := by decide
    have hc := TakeBytes_any v xs 4 w hv hl
    rw [if_neg hn, if_neg hn, if_neg hn, if_neg h4', if_neg h4', if_neg h4'] at hc
    clear hn h4'
    go_enter Try.func83, Try.ntmps83
    go_wp2_with ((go_at_call 111; refine hc.mono ?_; clear hc; rintro e w1 ⟨v1, v2, rfl, ho1, ho2, _, hb1⟩))
    go_ret3
    exact ⟨_, rfl, OR.nil _ _, hb1⟩

end Go.Proofs.Ytbglebchnlfklaa

namespace Go.Proofs.Ytbglebchnlfklaa
set_option maxRecDepth 100000
open Go.RowKit

set_option maxHeartbeats 800000 in
set_option maxRecDepth 100000 in
theorem Take_any (v : Value) (xs : List UInt8) (w : World) (hv : RB w v xs) (hl : xs.length ≤ 1000000000) :
    Calls Try.prog 85 #[v] w fun e w' => ∃ v', e = .returned (.tuple #[.int .u64 (tkN xs : Int), v', .int .i64 (tkE xs : Int)]) ∧ OB w' w.heap.size v' (tkR xs) ∧ Below w.heap.size w w' := by
  obtain ⟨A, c, rfl, hc, _, hcell⟩ := id hv
  obtain ⟨m, hm⟩ : ∃ m, m = min xs.length 10 := ⟨_, rfl⟩
  have hmin : (if (10 : Int) < (xs.length : Int) then (10 : Int) else (xs.length : Int)) = (m : Int) := by split <;> omega
  have hml : m ≤ xs.length := by omega
  have hm10 : m ≤ 10 := by omega
  have HM := Lib.hid hm
  clear hm
  obtain ⟨A1, hcut1, hcut2, hcut3, hr1⟩ := cutB A c xs 0 m (by omega) hml hc
  have hk1 := fun W => hcut3 .i64 W rfl
  have hq1 := hr1 w hv
  simp only [Nat.sub_zero, List.drop_zero] at hq1
  clear hcut1 hcut2 hcut3 hr1
  go_enter Try.func85, Try.ntmps85
  go_wp2
  go_loopw [5, 14] (fun v5 v14 wr => ∃ (acc k : Nat) (x : Int), v5 = .int .u64 x ∧ v14 = .int .i64 (k : Int) ∧ k ≤ m ∧ (k ≤ 9 → x = acc) ∧ acc < 128 ^ k ∧ wr = w ∧ tkGo (10 - k) k acc (xs.drop k) = tk xs) (fun _ i _ => m - (intOf i).toNat)
  case atStart => exact ⟨0, 0, 0, rfl, rfl, Nat.zero_le _, fun _ => rfl, by simp, rfl, rfl⟩
  case round =>
    obtain ⟨acc, k, x, rfl, rfl, hk, hx, ha, rfl, ht⟩ := hrel
    by_cases hkm : k < m
    · obtain rfl := hx (by omega)
      clear hx
      obtain ⟨ad, rfl, hcc⟩ := hq1.at_ k (by simp; omega)
      have hxk : k < xs.length := by omega
      have hcx := hcc 0 (cb xs[k]) (by simp [U8])
      simp only [show B8.sz = 1 from rfl, Nat.mul_one, Nat.add_zero] at hcx
      rw [List.drop_eq_getElem_cons hxk, show 10 - k = (10 - (k + 1)) + 1 by omega, tkGo] at ht
      generalize hck : xs[k] = ck at hcx ht
      clear hck hcc
      have hand := and128 ck
      have hnot := andNot128 ck
      have hkm' : (k : Int) < (m : Int) := by omega
      by_cases h128 : ck.toNat < 128
      · rw [if_pos h128] at hand ht
        obtain ⟨A2, hcut4, hcut5, hcut6, hr2⟩ := cutB A c xs (k + 1) xs.length (by omega) (Nat.le_refl _) hc
        have hk2 := fun W => hcut5 .i64 W rfl
        have hq2 := hr2 _ hv
        rw [List.take_of_length_le (Nat.le_refl _)] at hq2
        clear hcut4 hcut5 hcut6 hr2
        simp only [Int.natCast_add, Int.natCast_one] at hk2
        by_cases hsh : shortB k ck = true
        · rw [if_pos hsh] at ht
          have HSH := Lib.hid hsh
          have HT := Lib.hid ht
          clear ht
          go_wp2_with (first
            | (go_at_call 112; refine (isShort_any k ck _).mono ?_; rintro e w1 ⟨rfl, rfl⟩)
            | (go_at_call 31; refine (Clone_any _ (xs.drop (k + 1)) _ hq2 (by simp; omega)).mono ?_; rintro e w2 ⟨v2, rfl, ho2, hb2⟩))
          go_ret3
          have hE : tkE xs = 0 := by unfold tkE; rw [← HT.out]
          have hN : tkN xs = acc + ck.toNat * 128 ^ k := by unfold tkN; rw [← HT.out]
          have hR : tkR xs = xs.drop (k + 1) := by unfold tkR; rw [if_pos hE, ← HT.out]
          have hs2 := HSH.out
          unfold shortB at hs2
          simp only [Bool.or_eq_true, beq_iff_eq, Bool.and_eq_true, bne_iff_ne, decide_eq_true_eq] at hs2
          have h9 : k ≤ 8 ∨ (k = 9 ∧ ck.toNat % 128 ≤ 1) := by
            rcases hs2 with h | ⟨_, h | h⟩
            · omega
            · omega
            · subst h; have : (1 : UInt8).toNat = 1 := rfl; omega
          have hv64 := or64 acc k ck.toNat h9 ha
          rw [Nat.mod_eq_of_lt h128] at hv64
          refine ⟨v2, ?_, by rw [hR]; exact ho2, hb2⟩
          rw [hE, hN, ← hv64]
          rfl
        · rw [if_neg hsh] at ht
          have hsh' : shortB k ck = false := by simpa using hsh
          clear hsh
          have HT := Lib.hid ht
          clear ht
          go_wp2_with (first
            | (go_at_call 112; refine (isShort_any k ck _).mono ?_; rintro e w1 ⟨rfl, rfl⟩))
          go_ret3
          have hE : tkE xs = 3 := by unfold tkE; rw [← HT.out]
          have hN : tkN xs = 0 := by unfold tkN; rw [← HT.out]
          have hR : tkR xs = [] := by unfold tkR; rw [if_neg (by omega)]
          rw [hE, hN, hR]
          exact ⟨_, rfl, OR.nil _ _, Below.refl _ _⟩
      · rw [if_neg h128] at hand ht
        have HT := Lib.hid ht
        clear ht
        go_wp2
        go_roundw
        case rel =>
          have hlt := ck.toNat_lt
          refine ⟨acc + ck.toNat % 128 * 128 ^ k, k + 1, _, rfl, by go_num, by omega, fun h9 => ?_, ?_, (by first | trivial | rfl), HT.out⟩
          · exact or64 acc k ck.toNat (by omega) ha
          · rw [Nat.pow_succ]
            have h2 : ck.toNat % 128 * 128 ^ k ≤ 127 * 128 ^ k := Nat.mul_le_mul_right _ (by omega)
            omega
        case measure => simp [intOf]; omega
    · have hkm' : (m : Int) ≤ (k : Int) := by omega
      obtain rfl : k = m := by omega
      clear hx hkm ha
      have hM := HM.out
      by_cases h10 : 10 ≤ xs.length
      · obtain rfl : k = 10 := by omega
        have h10' : (10 : Int) ≤ (xs.length : Int) := by omega
        clear hM
        have HT := Lib.hid ht
        clear ht
        go_wp2
        go_ret3
        have hE : tkE xs = 3 := by unfold tkE; rw [← HT.out]; rfl
        have hN : tkN xs = 0 := by unfold tkN; rw [← HT.out]; rfl
        have hR : tkR xs = [] := by unfold tkR; rw [if_neg (by omega)]
        rw [hE, hN, hR]
        exact ⟨_, rfl, OR.nil _ _, Below.refl _ _⟩
      · have h10' : (xs.length : Int) < 10 := by omega
        rw [List.drop_of_length_le (by omega), show 10 - k = (9 - k) + 1 by omega, tkGo] at ht
        have HT := Lib.hid ht
        clear ht hM
        go_wp2
        go_ret3
        have hE : tkE xs = 2 := by unfold tkE; rw [← HT.out]
        have hN : tkN xs = 0 := by unfold tkN; rw [← HT.out]
        have hR : tkR xs = [] := by unfold tkR; rw [if_neg (by omega)]
        rw [hE, hN, hR]
        exact ⟨_, rfl, OR.nil _ _, Below.refl _ _⟩

end Go.Proofs.Ytbglebchnlfklaa

namespace Go.Proofs.Ytbglebchnlfklaa
set_option maxRecDepth 100000
open Go.RowKit

theorem tkR_le (xs : List UInt8) : (tkR xs).length ≤ xs.length := by unfold tkR; split <;> simp

end Go.Proofs.Ytbglebchnlfklaa

namespace Go.Proofs.Ytbglebchnlfklaa
set_option maxRecDepth 100000
open Go.RowKit

set_option maxHeartbeats 400000 in
set_option maxRecDepth 100000 in
theorem rPut_any (v : Value) (xs : List UInt8) (n : Nat) (w : World) (hv : RB w v xs) (hl : xs.length ≤ 16777216) (hn : W64 n) :
    Calls Try.prog 60 #[v, .int .u64 (n : Int)] w fun e w' => ∃ v', e = .returned v' ∧ OB w' w.heap.size v' (xs ++ putL n) ∧ Below w.heap.size w w' := by
  have hl' : xs.length ≤ 1000000000 := by omega
  have hb0 : Below w.heap.size w (w.alloc (.cells #[] 5)) := (Below.refl _ _).alloc (Nat.le_refl _) _
  have ho0 : OB (w.alloc (.cells #[] 5)) w.heap.size (.slice (some ⟨w.heap.size, 0, none⟩) 0 0) [] := OB.lit w w.heap.size [] #[] rfl (Nat.le_refl _) (by simp)
  have hr0 := hv.below hb0
  go_enter Try.func60, Try.ntmps60
  go_wp2_with (at_builtin; refine appBs w.heap.size (.tmp 6) (.tmp 7) _ _ [] xs ho0 hr0 hb0 (by simp) (by simp) hl' rfl rfl rfl rfl ?_; intro v1 w1 ho1 hb1 hg1 hat1 hs1)
  rw [List.nil_append] at ho1
  go_loopw [5, 1] (fun v5 v1 wr => ∃ (pre : List UInt8) (m : Nat), v1 = .int .u64 (m : Int) ∧ m ≤ n ∧ OB wr w.heap.size v5 (xs ++ pre) ∧ Below w.heap.size w wr ∧ pre ++ putL m = putL n) (fun _ i _ => (intOf i).toNat)
  case atStart => exact ⟨[], n, rfl, Nat.le_refl _, by simpa using ho1, hb1, rfl⟩
  case round =>
    obtain ⟨pre, m, rfl, hmn, ho, hb, hp⟩ := hrel
    have hwq : IntKind.u64.wrap ((m : Int) / 128) = (m : Int) / 128 := by unfold W64 at hn; simp only [IntKind.wrap, IntKind.bits, IntKind.signed, Bool.false_and, Bool.false_eq_true, if_false]; omega
    have HP := Lib.hid hp
    clear hp
    have hB : w.heap.size ≤ wr.heap.size := hb.size
    have hlen : (xs ++ pre).length ≤ 1000000000 := by have h1 := congrArg List.length HP.out; have h2 := putL_len64 n hn; simp at h1 ⊢; omega
    by_cases h128 : 128 ≤ m
    · have h128' : (128 : Int) ≤ (m : Int) := by omega
      go_wp2_with (at_builtin; go_loud (refine appB w.heap.size (.tmp 11) (.tmp 16) _ _ (UInt8.ofNat (m % 128 + 128)) _ ho hb hB hlen (by rw [UInt8.toNat_ofNat']; omega) rfl rfl rfl rfl ?_); intro v2 w2 ho2 hb2 hg2 hat2 hs2)
      go_roundw
      case rel => exact ⟨pre ++ [UInt8.ofNat (m % 128 + 128)], m / 128, by go_num, by omega, by rw [← List.append_assoc]; exact ho2, hb2, by rw [← HP.out, putL.eq_1 m, if_neg (by omega), List.append_assoc]; rfl⟩
      case measure => simp [intOf]; omega
    · have h128' : (m : Int) < 128 := by omega
      go_wp2_with (at_builtin; refine appB w.heap.size (.tmp 20) (.tmp 23) _ _ (UInt8.ofNat m) _ ho hb hB hlen (by first | exact low8 m | exact low8' m (by omega)) rfl rfl rfl rfl ?_; intro v2 w2 ho2 hb2 hg2 hat2 hs2)
      go_ret
      exact ⟨_, rfl, by rw [← HP.out, putL.eq_1 m, if_pos (by omega), ← List.append_assoc]; exact ho2, hb2⟩

set_option maxHeartbeats 400000 in
theorem rPut32_any (v : Value) (xs : List UInt8) (n : Nat) (w : World) (hv : RB w v xs) (hl : xs.length ≤ 16777216) (hn : n < 4294967296) :
    Calls Try.prog 59 #[v, .int .u32 (n : Int)] w fun e w' => ∃ v', e = .returned v' ∧ OB w' w.heap.size v' (xs ++ put32L n) ∧ Below w.heap.size w w' := by
  have hl' : xs.length ≤ 1000000000 := by omega
  have hb0 : Below w.heap.size w (w.alloc (.cells #[] 5)) := (Below.refl _ _).alloc (Nat.le_refl _) _
  have ho0 : OB (w.alloc (.cells #[] 5)) w.heap.size (.slice (some ⟨w.heap.size, 0, none⟩) 0 0) [] := OB.lit w w.heap.size [] #[] rfl (Nat.le_refl _) (by simp)
  have hr0 := hv.below hb0
  go_enter Try.func59, Try.ntmps59
  go_wp2_with (first
    | (at_builtin; refine appBs w.heap.size (.tmp 6) (.tmp 7) _ _ [] xs ho0 hr0 hb0 (by simp) (by simp) hl' rfl rfl rfl rfl ?_; clear ho0 hr0; intro v1 w1 ho1 hb1 hg1 hat1 hs1; rw [List.nil_append] at ho1)
    | (at_builtin; refine appBs w.heap.size (.tmp 9) (.tmp 21) _ _ xs (put32L n) (OR.below ho1 ((Below.refl _ _).alloc (Nat.le_refl _) _)) (OB.lit _ 0 (put32L n) _ (by simp [put32L]; omega) (Nat.zero_le _) (by simp [put32L])).reads (hb1.alloc hb1.size _) (by simp; exact Nat.le_succ_of_le hb1.size) hl' (by simp [put32L]) rfl rfl rfl rfl ?_; intro v2 w2 ho2 hb2 hg2 hat2 hs2))
  go_ret
  exact ⟨_, rfl, ho2, hb2⟩

set_option maxHeartbeats 400000 in
theorem rPutString_any (v vs : Value) (xs s : List UInt8) (w : World) (hv : RB w v xs) (hs : RB w vs s) (hl : xs.length ≤ 16777216) (hl2 : s.length ≤ 16777216) :
    Calls Try.prog 61 #[v, vs] w fun e w' => ∃ v', e = .returned v' ∧ OB w' w.heap.size v' (xs ++ putL s.length ++ s) ∧ Below w.heap.size w w' := by
  obtain ⟨A, c, rfl, hc⟩ := hs.len
  have hl3 : (xs ++ putL s.length).length ≤ 1000000000 := by have := putL_len64 _ (W64_len hl2); simp; omega
  go_enter Try.func61, Try.ntmps61
  go_wp2_with (first
    | (go_at_call 60; refine (rPut_any v xs s.length _ hv hl (W64_len hl2)).mono ?_; rintro e w1 ⟨v1, rfl, ho1, hb1⟩)
    | (at_builtin; refine appBs w.heap.size (.tmp 11) (.tmp 12) _ _ (xs ++ putL s.length) s ho1 (hs.below hb1) hb1 hb1.size hl3 (by omega) rfl rfl rfl rfl ?_; intro v2 w2 ho2 hb2 hg2 hat2 hs2))
  go_ret
  exact ⟨_, rfl, ho2, hb2⟩

/-- What reads so wherever the memory of w still stands. -/
def KB (w : World) (v : Value) (xs : List UInt8) : Prop := ∀ W, Below w.heap.size w W → RB W v xs
theorem KB.of {w : World} {v : Value} {xs : List UInt8} (h : RB w v xs) : KB w v xs := fun _ hb => h.below hb
theorem KB.nil (w : World) : KB w (.slice none 0 0) [] := fun _ _ => RR.nil _

set_option maxHeartbeats 400000 in
theorem rTakeBytes_any (v : Value) (xs : List UInt8) (n : Int) (w0 w : World) (hv : RB w0 v xs) (_h0 : Below w0.heap.size w0 w) :
    Calls Try.prog 113 #[v, .int .i64 n] w fun e w' => ∃ v1 v2, e = .returned (.tuple #[v1, v2, .int .i64 (if n < 0 then 1 else if n ≤ xs.length then 0 else 2)]) ∧
      KB w0 v1 (if n < 0 then [] else if n ≤ xs.length then xs.take n.toNat else []) ∧ KB w0 v2 (if n < 0 then [] else if n ≤ xs.length then xs.drop n.toNat else []) ∧ Below w.heap.size w w' := by
  obtain ⟨A, c, rfl, hc⟩ := hv.len
  by_cases h0 : n < 0
  · simp only [h0, ↓reduceIte]
    go_enter Try.func113, Try.ntmps113
    go_wp2
    go_ret3
    exact ⟨_, _, rfl, KB.nil _, KB.nil _, Below.refl _ _⟩
  · simp only [h0, ↓reduceIte]
    have h0' : 0 ≤ n := by omega
    by_cases h1 : n ≤ xs.length
    · simp only [h1, ↓reduceIte]
      obtain ⟨m, rfl⟩ := Int.eq_ofNat_of_zero_le h0'
      have hm : m ≤ xs.length := by omega
      obtain ⟨A1, hcut1, hcut2, hcut3, hr1⟩ := cutB A c xs 0 m (by omega) hm hc
      obtain ⟨A2, hcut4, hcut5, hcut6, hr2⟩ := cutB A c xs m xs.length hm (Nat.le_refl _) hc
      have hk1 := fun W => hcut3 .i64 W rfl
      have hk2 := fun W => hcut5 .i64 W rfl
      have hq1 := hr1 w0 hv
      have hq2 := hr2 w0 hv
      simp only [Nat.sub_zero, List.drop_zero] at hq1
      rw [List.take_of_length_le (Nat.le_refl _)] at hq2
      clear hcut1 hcut2 hcut3 hcut4 hcut5 hcut6 hr1 hr2
      go_enter Try.func113, Try.ntmps113
      go_wp2
      go_quiet (fail)
      go_wp2
      go_ret3
      exact ⟨_, _, rfl, KB.of hq1, KB.of hq2, pw_below_drewN (Below.refl _ _) _⟩
    · simp only [h1, ↓reduceIte]
      have h1' : (xs.length : Int) < n := by omega
      go_enter Try.func113, Try.ntmps113
      go_wp2
      go_ret3
      exact ⟨_, _, rfl, KB.nil _, KB.nil _, Below.refl _ _⟩

end Go.Proofs.Ytbglebchnlfklaa

namespace Go.Proofs.Ytbglebchnlfklaa
set_option maxRecDepth 100000
open Go.RowKit
set_option linter.unusedSimpArgs false

def PT.absent (p : PT) : Bool := p.may && !(p == PT.hole) && (p.a0 == 0)

set_option maxRecDepth 100000 in
theorem rMay_any (p : PT) (w : World) : Calls Try.prog 64 #[p.val] w fun e w' => e = .returned (.bool p.may) ∧ Below w.heap.size w w' := by
  have h33 := p.c33
  have h34 := p.c34
  have hb : Below w.heap.size w (w.alloc (.cells p.cells.toArray 30)) := (Below.refl _ _).alloc (Nat.le_refl _) _
  unfold PT.val u32 at *
  generalize p.cells.toArray = C at h33 h34 hb
  have e1 := u32_eq p.a1 0
  have e2 : ((p.a1.toNat : Int) != (p.a0.toNat : Int)) = (p.a0 != p.a1) := by
    rw [bne, bne, u32_eq]
    by_cases h : p.a0 = p.a1
    · rw [h]
    · rw [beq_eq_false_iff_ne.mpr h, beq_eq_false_iff_ne.mpr (fun e => h e.symm)]
  simp only [UInt32.toNat_zero, Int.natCast_zero] at e1
  by_cases h : p.a0 = 0
  · have hm : p.may = (p.a1 == 0) := by rw [PT.may, if_pos h]
    rw [hm]
    have h0 : ((p.a0.toNat : Int) == 0) = true := by rw [h]; rfl
    clear h hm
    go_enter Try.func64, Try.ntmps64
    go_wp2
    go_ret
    exact ⟨rfl, hb⟩
  · have hm : p.may = (p.a0 != p.a1) := by rw [PT.may, if_neg h]
    rw [hm]
    have h0 : ((p.a0.toNat : Int) == 0) = false := by
      have : ¬ (p.a0.toNat : Int) = 0 := fun e => h (UInt32.toNat_inj.mp (by simpa using e))
      simpa using this
    clear h hm
    go_enter Try.func64, Try.ntmps64
    go_wp2
    go_ret
    exact ⟨rfl, hb⟩

end Go.Proofs.Ytbglebchnlfklaa

namespace Go.Proofs.Ytbglebchnlfklaa
set_option maxRecDepth 100000
open Go.RowKit

theorem str_add (x y : List UInt8) : str x ++ str y = str (x ++ y) := by
  apply ByteArray.ext
  show (str x ++ str y).data = _
  rw [ByteArray.data_append]
  simp [str]
theorem str_size (x : List UInt8) : (str x).size = x.length := by simp [str, ByteArray.size]
/-- '+' of two strings. -/
theorem run_add_str {P : Program} (t : TypeId) (x y : List UInt8) (h : x.length + y.length ≤ 9223372036854775807) (w : World) : (binOp .add t (.string (str x)) (.string (str y))).run P w = .ok (.string (str (x ++ y))) w := by
  have hn : ¬ ((((str x).size + (str y).size : Nat) : Int) > IntKind.i64.max) := by rw [str_size, str_size]; simp [IntKind.max, IntKind.bits, IntKind.signed]; omega
  simp only [binOp, Op.stringOp, if_neg hn, str_add, Sem.run_pure]
theorem cat_small (x y : List UInt8) (h : x.length + y.length ≤ 9223372036854775807) : ¬ 9223372036854775807 < (str x).size + (str y).size := by rw [str_size, str_size]; omega
end Go.Proofs.Ytbglebchnlfklaa

namespace Go.Proofs.Ytbglebchnlfklaa
set_option maxRecDepth 100000
open Go.RowKit
set_option linter.unusedSimpArgs false

set_option maxHeartbeats 1600000 in
set_option maxRecDepth 100000 in
theorem rEncode_any (p : PT) (w : World) : Calls Try.prog 62 #[p.val] w fun e w' => ∃ v, e = .returned v ∧ OB w' w.heap.size v (encL p) ∧ Below w.heap.size w w' := by
  unfold PT.val
  go_enter Try.func62, Try.ntmps62
  go_wp2_with (first
    | (refine wpBox 30 _ rfl p.cells rfl rfl ?_; intro w1 hv1 hb1; have hb0 : Below w1.heap.size w1 (w1.alloc (.cells #[] 5)) := (Below.refl _ _).alloc (Nat.le_refl _) _; have ho0 : OB (w1.alloc (.cells #[] 5)) w1.heap.size (.slice (some ⟨w1.heap.size, 0, none⟩) 0 0) [] := OB.lit w1 w1.heap.size [] #[] rfl (Nat.le_refl _) (by simp); have hr0 := PT.rb_hash (hv1.below hb0))
    | (at_builtin; refine appBs w1.heap.size (.tmp 4) (.tmp 6) _ _ [] p.hash ho0 hr0 hb0 hb0.size (by simp) (by rw [p.hl]; omega) rfl rfl rfl rfl ?_; clear ho0 hr0; intro v5 w2 ho2 hb2 hg2 hat2 hs2; rw [List.nil_append] at ho2; clear hg2 hat2 hb0; have h32 := cell_below hb2 (PT.cell32 hv1); have h33 := cell_below hb2 (PT.cell33 hv1); have h34 := cell_below hb2 (PT.cell34 hv1); replace hb1 := below_two hb1 hb1.size hb2; clear hv1 hb2)
    | (go_at_call 59; (with_reducible refine (rPut32_any _ p.hash p.birth.toNat _ ho2.reads (by rw [p.hl]; omega) p.birth.toNat_lt).mono ?_); rintro e w3 ⟨v3, rfl, ho3, hb3⟩; replace h32 := cell_below hb3 h32; replace h33 := cell_below hb3 h33; replace h34 := cell_below hb3 h34; replace hb1 := below_two hb1 hb1.size hb3; clear ho2 hb3)
    | (go_at_call 59; (with_reducible refine (rPut32_any _ _ p.a0.toNat _ ho3.reads (by simp [p.hl, put32L]) p.a0.toNat_lt).mono ?_); rintro e w4 ⟨v4, rfl, ho4, hb4⟩; replace h32 := cell_below hb4 h32; replace h33 := cell_below hb4 h33; replace h34 := cell_below hb4 h34; replace hb1 := below_two hb1 hb1.size hb4; clear ho3 hb4)
    | (go_at_call 59; (with_reducible refine (rPut32_any _ _ p.a1.toNat _ ho4.reads (by simp [p.hl, put32L]) p.a1.toNat_lt).mono ?_); rintro e w5 ⟨v5, rfl, ho5, hb5⟩; have hlow := hb1.size; replace hb1 := below_two hb1 hb1.size hb5; clear ho4 hb5))
  go_ret
  exact ⟨_, rfl, ho5.lower hlow, hb1⟩
end Go.Proofs.Ytbglebchnlfklaa

namespace Go.Proofs.Ytbglebchnlfklaa
set_option maxRecDepth 100000
open Go.RowKit
set_option linter.unusedSimpArgs false

/-- Four pointers. -/
abbrev PL := RowOf PT 4
def PL.cells (l : PL) : List Value := l.1.flatMap PT.cells
def PL.val (l : PL) : Value := .agg l.cells.toArray
theorem PL.len (l : PL) : l.cells.length = 140 := by rw [PL.cells, flatMap_len PT.len, l.2]
theorem PL.info (l : PL) : (Try.prog.info? 167).map (·.size) = some l.cells.length := by rw [PL.len]; kernel_rfl
def nodeL (l : PL) : List UInt8 := l.1.flatMap encL ++ List.replicate 80 0
theorem encs_length (xs : List PT) : (xs.flatMap encL).length = xs.length * 44 := by
  induction xs with
  | nil => rfl
  | cons x xs ih => simp [ih, encL_length, Nat.succ_mul, Nat.add_comm]
theorem encs_take (xs : List PT) (k : Nat) (h : k < xs.length) : (xs.take (k + 1)).flatMap encL = (xs.take k).flatMap encL ++ encL xs[k] := by
  rw [List.take_add_one, List.getElem?_eq_getElem h, Option.toList_some, List.flatMap_append, List.flatMap_cons, List.flatMap_nil, List.append_nil]

/-- Behind k pointers. -/
def ndL (xs : List PT) (k : Nat) : List UInt8 := (xs.take k).flatMap encL ++ List.replicate (256 - 44 * k) 0
theorem ndL_length (xs : List PT) (k : Nat) (h : k ≤ xs.length) (h4 : k ≤ 4) : (ndL xs k).length = 256 := by
  rw [ndL, List.length_append, encs_length, List.length_take, List.length_replicate]; omega
theorem ndL_step (xs : List PT) (k : Nat) (h : k < xs.length) : (ndL xs k).take (44 * k) ++ encL xs[k] ++ (ndL xs k).drop (44 * k + (encL xs[k]).length) = ndL xs (k + 1) := by
  have e : ((xs.take k).flatMap encL).length = 44 * k := by rw [encs_length, List.length_take]; omega
  rw [ndL, ndL, encs_take xs k h, encL_length, List.take_append_of_le_length (by omega), List.take_of_length_le (by omega), ← List.drop_drop, List.drop_left' e, List.drop_replicate]
  congr 2

end Go.Proofs.Ytbglebchnlfklaa

namespace Go.Proofs.Ytbglebchnlfklaa
set_option maxRecDepth 100000
open Go.RowKit
set_option linter.unusedSimpArgs false

def lenV : Value → Nat
  | .slice _ n _ => n
  | _ => 0
theorem PL.range {w : World} {b : Nat} {t : TypeId} {l : PL} (h : VA w b t l.cells) (k : Nat) (hk : k < l.1.length) : w.rangeAt b (k * 35) l.1[k].cells :=
  h.range (k * 35) _ (by rw [PT.len]; exact flatMap_at PT.len l.1 k hk)

theorem eqPL : EqT Try.prog 167 (4 * 35) true 4 (fun l : PL => l.1.flatMap PT.cells) (fun l => .agg (l.1.flatMap PT.cells).toArray) (fun x y => (x.1.zip y.1).all fun p => p.1 == p.2) :=
  eqPT.row (by kernel_rfl) (sizeOf_ok (by kernel_rfl))
theorem pl_eql (l m : PL) (w : World) : (binOp .eql 167 (.agg l.cells.toArray) (.agg m.cells.toArray)).run Try.prog w = .ok (.bool (l == m)) w := by
  rw [run_eql_struct]
  have h := eqPL.eqs 9996 w l m
  rw [zip_all_eq l.1 m.1 (by rw [l.2, m.2])] at h
  unfold PL.cells
  rw [h]
  rfl
/-- Four holes. -/
def PL.none : PL := ⟨List.replicate 4 PT.hole, rfl⟩
theorem pl_zero : Program.built Try.prog 167 [] = some PL.none.cells.toArray := by kernel_rfl
theorem pl_guard : Try.prog.eqGuardType Try.prog.depth 167 = false := by kernel_rfl

end Go.Proofs.Ytbglebchnlfklaa

namespace Go.Proofs.Ytbglebchnlfklaa
set_option maxRecDepth 100000
open Go.RowKit
set_option linter.unusedSimpArgs false
set_option linter.unusedVariables false

/-- A bank over a disk on which no write waits. -/
structure DBk (w : World) (bk bd : Nat) (ad : Addr) (n : Nat) (mp : Value) (txg : Int) (on : List UInt8) : Prop where
  k : VA w bk 153 [.pointer (some ⟨bd, 0, none⟩), mp, .int .u32 txg]
  d : VA w bd 146 (dC ad (n * 256))
  r : RB w (.slice (some ad) (n * 256) (n * 256)) on
  n1 : 16 ≤ n
  n2 : n ≤ 512
  ol : on.length = n * 256
theorem DBk.below {w w' : World} {bk bd : Nat} {ad : Addr} {n : Nat} {mp : Value} {txg : Int} {on : List UInt8} (h : DBk w bk bd ad n mp txg on) (hb : Below w.heap.size w w') : DBk w' bk bd ad n mp txg on := ⟨h.k.below hb, h.d.below hb, h.r.below hb, h.n1, h.n2, h.ol⟩
section
variable {bk bd : Nat} {ad : Addr} {n : Nat} {mp : Value} {txg : Int} {on : List UInt8}
set_option maxHeartbeats 1600000 in
theorem power_any (w : World) (h : DBk w bk bd ad n mp txg on) : Calls Try.prog 139 #[.pointer (some ⟨bk, 0, none⟩)] w fun e w' => e = .returned (.int .i64 0) ∧ Below w.heap.size w w' := by
  have H := SH.start Nil w
  have c0 := h.k.cell 0
  change _ = some (Value.pointer (some ⟨bd, 0, none⟩)) at c0
  have HR := Lib.hid (fun W (k : DBk W bk bd ad n mp txg on) => diskRead_none bd ad n (n * 256) rfl k.n2 0 (by have := k.n1; omega) on k.ol W k.d k.r)
  have HD := Lib.hid h
  clear h
  go_enter Try.func139, Try.ntmps139
  go_wp2_with (first
    | ((with_reducible refine gDst 9 ?_); refine aLoadC _ rfl rfl (cell_below H.below c0) rfl ?_)
    | (go_at_call 140; refine (HR.out _ (HD.out.below H.below)).mono ?_; rintro e w' ⟨v, rfl, -, hb⟩; replace H := H.step hb; clear hb)
    | ((with_reducible refine gLoad ?_); first | (refine aLoad1 H _ rfl rfl (by first | exact (rfl : _ = some (Value.int _ _)) | exact (rfl : _ = some (Value.slice _ _ _)) | exact (rfl : _ = some (Value.bool _)) | exact (rfl : _ = some (Value.string _)) | exact (rfl : _ = some (Value.pointer _)) | rfl | (simp [List.getElem?_append]; done)) rfl ?_) | (refine aLoadC _ rfl rfl (by assumption) rfl ?_)))
  go_ret
  exact ⟨rfl, H.below⟩
set_option maxHeartbeats 1600000 in
theorem check_hole (w : World) (h : DBk w bk bd ad n mp txg on) : Calls Try.prog 137 #[.pointer (some ⟨bk, 0, none⟩), .agg PT.hole.cells.toArray] w fun e w' => e = .returned (.int .i64 0) ∧ Below w.heap.size w w' := by
  have H := SH.start Nil w
  have HP := Lib.hid (fun W (k : DBk W bk bd ad n mp txg on) => power_any W k)
  have HM : ∀ W, Calls Try.prog 48 #[.agg PT.hole.cells.toArray] W fun e w' => e = .returned (.bool true) ∧ Below W.heap.size W w' := fun W => May_any PT.hole W
  have HD := Lib.hid h
  clear h
  go_enter Try.func137, Try.ntmps137
  go_wp2_with (first
    | (go_at_call 139; refine (HP.out _ (HD.out.below H.below)).mono ?_; rintro e w' ⟨rfl, hb⟩; replace H := H.step hb; clear hb)
    | (go_at_call 48; refine (HM _).mono ?_; rintro e w' ⟨rfl, hb⟩; replace H := H.step hb; clear hb)
    | ((with_reducible refine gDst 3 ?_); refine aBox H _ rfl rfl rfl ?_; clear H; intro b3 w3 H)
    | ((with_reducible refine gLoad ?_); first | (refine aLoad H _ rfl rfl (by first | exact part_all (by first | rfl | simp []) | (simp only [List.drop_succ_cons, List.drop_zero, List.take_succ_cons, List.take_zero]; rfl) | (simp [List.drop_append, List.take_append]; rfl)) (by first | rfl | simp []) rfl ?_)))
  go_ret
  exact ⟨rfl, H.below⟩
theorem isHole_hole (W : World) : Calls Try.prog 110 #[.agg PT.hole.cells.toArray] W fun e w' => e = .returned (.bool true) ∧ Below W.heap.size W w' := (IsHole_any PT.hole W).mono fun e w' ⟨h1, h2⟩ => ⟨by rw [h1]; simp, h2⟩
set_option maxHeartbeats 1600000 in
theorem bankRead_hole (w : World) (h : DBk w bk bd ad n mp txg on) : Calls Try.prog 135 #[.pointer (some ⟨bk, 0, none⟩), .agg PT.hole.cells.toArray] w fun e w' => ∃ v, e = .returned (.tuple #[v, .int .i64 0]) ∧ OB w' w.heap.size v (List.replicate 256 0) ∧ Below w.heap.size w w' := by
  have H := SH.start Nil w
  have HP := Lib.hid (fun W (k : DBk W bk bd ad n mp txg on) => check_hole W k)
  have HD := Lib.hid h
  clear h
  go_enter Try.func135, Try.ntmps135
  go_wp2_with (first
    | (go_at_call 137; refine (HP.out _ (HD.out.below H.below)).mono ?_; rintro e w' ⟨rfl, hb⟩; replace H := H.step hb; clear hb)
    | (go_at_call 110; refine (isHole_hole _).mono ?_; rintro e w' ⟨rfl, hb⟩; replace H := H.step hb; clear hb)
    | ((with_reducible refine gDst 20 ?_); refine aMakeB 256 (by decide) H _ _ rfl rfl rfl rfl ?_; clear H; intro b20 w20 H; (try dsimp only at H))
    | ((with_reducible refine gDst 3 ?_); refine aBox H _ rfl rfl rfl ?_; clear H; intro b3 w3 H)
    | ((with_reducible refine gLoad ?_); first | (refine aLoad H _ rfl rfl (by first | exact part_all (by first | rfl | simp []) | (simp only [List.drop_succ_cons, List.drop_zero, List.take_succ_cons, List.take_zero]; rfl) | (simp [List.drop_append, List.take_append]; rfl)) (by first | rfl | simp []) rfl ?_)))
  go_ret2
  exact ⟨.slice (some ⟨b20, 0, none⟩) 256 256, rfl, H.ow _, H.below⟩
set_option maxHeartbeats 1600000 in
theorem treeRead_hole (w : World) (h : DBk w bk bd ad n mp txg on) : Calls Try.prog 130 #[.pointer (some ⟨bk, 0, none⟩), .agg PT.hole.cells.toArray] w fun e w' => e = .returned (.tuple #[.agg PL.none.cells.toArray, .int .i64 0]) ∧ Below w.heap.size w w' := by
  have H := SH.start Nil w
  have HP := Lib.hid (fun W (k : DBk W bk bd ad n mp txg on) => bankRead_hole W k)
  have HD := Lib.hid h
  clear h
  go_enter Try.func130, Try.ntmps130
  go_wp2_with (first
    | (go_at_call 135; refine (HP.out _ (HD.out.below H.below)).mono ?_; rintro e w' ⟨v, rfl, -, hb⟩; replace H := H.step hb; clear hb)
    | (go_at_call 110; refine (isHole_hole _).mono ?_; rintro e w' ⟨rfl, hb⟩; replace H := H.step hb; clear hb)
    | ((with_reducible refine gDst 3 ?_); refine aBox H _ rfl rfl rfl ?_; clear H; intro b3 w3 H)
    | ((with_reducible refine gDst 4 ?_); refine aAlloc H rfl rfl ?_; clear H; intro b4 w4 H)
    | ((with_reducible refine gDst 8 ?_); refine aAlloc H rfl rfl ?_; clear H; intro b8 w8 H)
    | ((with_reducible refine gLoad ?_); first | (refine aLoad H _ rfl rfl (by first | exact part_all (by first | rfl | simp []) | (simp only [List.drop_succ_cons, List.drop_zero, List.take_succ_cons, List.take_zero]; rfl) | (simp [List.drop_append, List.take_append]; rfl)) (by first | rfl | simp []) rfl ?_))
    | ((with_reducible refine gBuild ?_); refine aZero rfl rfl ?_)
    | ((with_reducible refine gStore ?_); (first | (refine aStore H _ _ rfl rfl rfl (by (first | exact ⟨rfl, rfl⟩ | exact ⟨by decide, rfl⟩ | (simp []; done) | (constructor <;> simp [] <;> omega))) (by first | rfl | simp [List.all_append, one_all]) rfl ?_) | (refine aLay H _ _ rfl rfl rfl (by (first | exact ⟨rfl, rfl⟩ | exact ⟨by decide, rfl⟩ | (simp []; done) | (constructor <;> simp [] <;> omega))) (by first | rfl | simp [List.all_append, one_all]) (by simp only [lay, List.take_succ_cons, List.take_zero, List.drop_succ_cons, List.drop_zero, List.nil_append, List.cons_append, List.length_cons, List.length_nil, Nat.zero_add, Nat.reduceAdd]; rfl) rfl ?_)); clear H; intro w' H; try dsimp only at H))
  refine bodyPost_ret (res_cell_tmp rfl _ H.hold rfl rfl) rfl ?_
  exact ⟨rfl, H.below⟩
theorem isCell_any (i : Nat) (hi : i < 16) (w : World) : Calls Try.prog 129 #[.int .i64 (i : Int)] w fun e w' => e = .returned (.bool true) ∧ w = w' := by
  have hii : (i : Int) < 16 := by omega
  go_enter Try.func129, Try.ntmps129
  go_wp2
  go_ret
  exact ⟨rfl, rfl⟩
/-- A path through a tree of holes. -/
def pathC (i : Nat) : List Value := PL.none.cells ++ (PL.none.cells ++ [.int .i64 (i : Int)])
theorem PL.hole_at (q : Nat) (hq : q < 4) : (PL.none.cells.drop (q * 35)).take 35 = PT.hole.cells := by
  rcases q with _ | _ | _ | _ | q
  all_goals first | rfl | omega
theorem pathC_at (i q : Nat) (hq : q < 4) : ((pathC i).drop (140 + q * 35)).take 35 = PT.hole.cells := by
  rw [pathC, ← List.drop_drop, List.drop_left' (by rw [PL.len]), List.drop_append_of_le_length (by rw [PL.len]; omega), List.take_append_of_le_length (by rw [List.length_drop, PL.len]; omega)]
  exact PL.hole_at q hq
set_option maxHeartbeats 1600000 in
theorem follow_hole (w : World) (i : Nat) (hi : i < 16) (h : DBk w bk bd ad n mp txg on) : Calls Try.prog 126 #[.pointer (some ⟨bk, 0, none⟩), .agg PT.hole.cells.toArray, .int .i64 (i : Int)] w fun e w' => e = .returned (.tuple #[.agg (pathC i).toArray, .int .i64 0]) ∧ Below w.heap.size w w' := by
  have H := SH.start Nil w
  have HP := Lib.hid (fun W (k : DBk W bk bd ad n mp txg on) => treeRead_hole W k)
  have HD := Lib.hid h
  have HC := Lib.hid (fun W => isCell_any i hi W)
  have hq : (i : Int).tdiv 4 = ((i / 4 : Nat) : Int) := by rw [Int.tdiv_eq_ediv_of_nonneg (by omega)]; push_cast; rfl
  have hql : i / 4 < 4 := by omega
  have HAT := Lib.hid (PL.hole_at (i / 4) hql)
  generalize i / 4 = q at *
  have hqi : (q : Int) < 4 := by omega
  have hqw : IntKind.i64.wrap (q : Int) = (q : Int) := i64w _ (by omega) (by omega)
  clear h
  go_enter Try.func126, Try.ntmps126
  go_wp2_with (first
    | (go_at_call 129; refine (HC.out _).mono ?_; rintro e w' ⟨rfl, rfl⟩)
    | (go_at_call 130; refine (HP.out _ (HD.out.below H.below)).mono ?_; rintro e w' ⟨rfl, hb⟩; replace H := H.step hb; clear hb)
    | ((with_reducible refine gDst 30 ?_); refine aLoad H _ rfl rfl HAT.out rfl rfl ?_)
    | ((with_reducible refine gSto (.tmp 8) (.tmp 19) ?_); refine aStore H _ _ rfl rfl rfl ⟨rfl, rfl⟩ rfl rfl ?_; clear H; intro w' H; (try dsimp only at H))
    | ((with_reducible refine gSto (.tmp 10) (.tmp 32) ?_); refine aStore H _ _ rfl rfl rfl ⟨rfl, rfl⟩ rfl rfl ?_; clear H; intro w' H; (try dsimp only at H))
    | ((with_reducible refine gDst 41 ?_); refine aBuildC _ _ rfl (pathC i) (by rfl) rfl ?_)
    | ((with_reducible refine gDst 4 ?_); refine aBox H _ rfl rfl rfl ?_; clear H; intro b4 w4 H)
    | ((with_reducible refine gDst 6 ?_); refine aAlloc H rfl rfl ?_; clear H; intro b6 w6 H)
    | ((with_reducible refine gDst 8 ?_); refine aAlloc H rfl rfl ?_; clear H; intro b8 w8 H)
    | ((with_reducible refine gDst 10 ?_); refine aAlloc H rfl rfl ?_; clear H; intro b10 w10 H)
    | ((with_reducible refine gLoad ?_); first | (refine aLoad H _ rfl rfl (by first | exact part_all (by first | rfl | simp []) | (simp only [List.drop_succ_cons, List.drop_zero, List.take_succ_cons, List.take_zero]; rfl) | (simp [List.drop_append, List.take_append]; rfl)) (by first | rfl | simp []) rfl ?_))
    | ((with_reducible refine gBuild ?_); refine aZero rfl rfl ?_)
    | ((with_reducible refine gStore ?_); (first | (refine aStore H _ _ rfl rfl rfl (by (first | exact ⟨rfl, rfl⟩ | exact ⟨by decide, rfl⟩ | (simp []; done) | (constructor <;> simp [] <;> omega))) (by first | rfl | simp [List.all_append, one_all]) rfl ?_) | (refine aLay H _ _ rfl rfl rfl (by (first | exact ⟨rfl, rfl⟩ | exact ⟨by decide, rfl⟩ | (simp []; done) | (constructor <;> simp [] <;> omega))) (by first | rfl | simp [List.all_append, one_all]) (by simp only [lay, List.take_succ_cons, List.take_zero, List.drop_succ_cons, List.drop_zero, List.nil_append, List.cons_append, List.length_cons, List.length_nil, Nat.zero_add, Nat.reduceAdd]; rfl) rfl ?_)); clear H; intro w' H; try dsimp only at H))
  refine bodyPost_ret (res_cell_tmp rfl _ H.hold rfl rfl) rfl ?_
  exact ⟨rfl, H.below⟩
set_option maxHeartbeats 1600000 in
theorem Find_hole (w : World) (i : Nat) (hi : i < 16) (h : DBk w bk bd ad n mp txg on) : Calls Try.prog 109 #[.pointer (some ⟨bk, 0, none⟩), .agg PT.hole.cells.toArray, .int .i64 (i : Int)] w fun e w' => e = .returned (.tuple #[.agg PT.hole.cells.toArray, .int .i64 0]) ∧ Below w.heap.size w w' := by
  have H := SH.start Nil w
  have HP := Lib.hid (fun W (k : DBk W bk bd ad n mp txg on) => follow_hole W i hi k)
  have HD := Lib.hid h
  have hm : (i : Int).tmod 4 = ((i % 4 : Nat) : Int) := by rw [Int.tmod_eq_emod_of_nonneg (by omega)]; push_cast; rfl
  have hql : i % 4 < 4 := by omega
  have HAT := Lib.hid (pathC_at i (i % 4) hql)
  generalize i % 4 = q at *
  have hqi : (q : Int) < 4 := by omega
  clear h
  go_enter Try.func109, Try.ntmps109
  go_wp2_with (first
    | (go_at_call 126; refine (HP.out _ (HD.out.below H.below)).mono ?_; rintro e w' ⟨rfl, hb⟩; replace H := H.step hb; clear hb)
    | ((with_reducible refine gDst 25 ?_); refine aLoad H _ rfl rfl HAT.out rfl rfl ?_)
    | ((with_reducible refine gDst 4 ?_); refine aBox H _ rfl rfl rfl ?_; clear H; intro b4 w4 H)
    | ((with_reducible refine gDst 6 ?_); refine aAlloc H rfl rfl ?_; clear H; intro b6 w6 H)
    | ((with_reducible refine gDst 8 ?_); refine aAlloc H rfl rfl ?_; clear H; intro b8 w8 H)
    | ((with_reducible refine gLoad ?_); first | (refine aLoad H _ rfl rfl (by first | exact part_all (by first | rfl | simp []) | (simp only [List.drop_succ_cons, List.drop_zero, List.take_succ_cons, List.take_zero]; rfl) | (simp [List.drop_append, List.take_append]; rfl)) (by first | rfl | simp []) rfl ?_))
    | ((with_reducible refine gBuild ?_); refine aZero rfl rfl ?_)
    | ((with_reducible refine gStore ?_); (first | (refine aStore H _ _ rfl rfl rfl (by (first | exact ⟨rfl, rfl⟩ | exact ⟨by decide, rfl⟩ | (simp []; done) | (constructor <;> simp [] <;> omega))) (by first | rfl | simp [List.all_append, one_all]) rfl ?_) | (refine aLay H _ _ rfl rfl rfl (by (first | exact ⟨rfl, rfl⟩ | exact ⟨by decide, rfl⟩ | (simp []; done) | (constructor <;> simp [] <;> omega))) (by first | rfl | simp [List.all_append, one_all]) (by simp only [lay, List.take_succ_cons, List.take_zero, List.drop_succ_cons, List.drop_zero, List.nil_append, List.cons_append, List.length_cons, List.length_nil, Nat.zero_add, Nat.reduceAdd]; rfl) rfl ?_)); clear H; intro w' H; try dsimp only at H))
  refine bodyPost_ret (res_cell_tmp rfl _ H.hold rfl rfl) rfl ?_
  exact ⟨rfl, H.below⟩
end
end Go.Proofs.Ytbglebchnlfklaa
