/- The law of layer 25 on what passes through its own places. -/
import Derived.Test.YthogefehainmdabAlive25
import Derived.Test.YthogefehainmdabField3
import Derived.Test.YthogefehainmdabFieldPass
namespace Go.Proofs.Ythogefehainmdab
open Go.RowKit

/-- The places: so many from the first one on. -/
def plc (first : UInt8) (n : Nat) : List UInt8 := (List.range n).map fun i => UInt8.ofNat (first.toNat + i)
theorem plc_length (first : UInt8) (n : Nat) : (plc first n).length = n := by simp [plc]
theorem plc_succ (first : UInt8) (n : Nat) : plc first (n + 1) = plc first n ++ [UInt8.ofNat (first.toNat + n)] := by simp [plc, List.range_succ]
theorem plc_nodup (first : UInt8) (n : Nat) (h : n ≤ 256) : (plc first n).Nodup := by
  unfold plc
  rw [List.nodup_iff_pairwise_ne, List.pairwise_map]
  refine List.Pairwise.imp_of_mem ?_ (List.nodup_range (n := n))
  intro a b ha hb hab e
  have ha := List.mem_range.mp ha
  have hb := List.mem_range.mp hb
  have := congrArg UInt8.toNat e
  rw [UInt8.toNat_ofNat', UInt8.toNat_ofNat'] at this
  exact hab (by omega)

theorem size_alloc1 (w : World) (o : Obj) : (w.alloc o).heap.size = w.heap.size + 1 := by show (w.heap.push o).size = _; exact Array.size_push ..
/-- Two rows of one's own that are not the same. -/
def Ap (v1 v2 : Value) : Prop := ∀ k, v1.ownBlock = some k → v2.ownBlock = some k → False
theorem Ap.symm {v1 v2 : Value} (h : Ap v1 v2) : Ap v2 v1 := fun k h1 h2 => h k h2 h1
theorem Ap.ne {v1 v2 : Value} (h : Ap v1 v2) : v2.ownBlock = none ∨ v2.ownBlock ≠ v1.ownBlock := by
  cases hv : v2.ownBlock with
  | none => exact .inl rfl
  | some k => exact .inr fun e => h k e.symm hv
theorem Ap.step {v1 v2 v3 : Value} {n : Nat} (h : Ap v1 v2) (hat : v3.ownBlock = v1.ownBlock ∨ ∃ b, v3.ownBlock = some b ∧ n ≤ b) (hlt : ∀ k, v2.ownBlock = some k → k < n) : Ap v3 v2 := fun k h1 h2 => by
  rcases hat with e | ⟨b, e, hb⟩
  · exact h k (e ▸ h1) h2
  · have := hlt k h2
    rw [e] at h1
    injection h1 with h1
    omega

set_option maxHeartbeats 1600000 in
set_option maxRecDepth 100000 in
theorem FieldPasses_any (vp : Value) (ps : List UInt8) (first at_ : UInt8) (w : World) (hp : RB w vp ps) : Calls Try.prog 3 #[vp, .int .u8 (first.toNat : Int), .int .u8 (at_.toNat : Int)] w fun e w' => e = .returned (.bool true) ∧ Below w.heap.size w w' := by
  obtain ⟨A, c, rfl, hc⟩ := id hp.len
  by_cases h0 : ps.length = 0
  · have h0b : ((ps.length : Int) == 0) = true := by simp [h0]
    clear h0
    go_enter Try.func3, Try.ntmps3
    go_wp2_with (first | (go_at_call 7; (with_reducible refine (alive25_any _).mono ?_); rintro e w3 ⟨rfl, rfl⟩))
    go_ret
    exact ⟨rfl, Below.refl _ _⟩
  have h0b : ((ps.length : Int) == 0) = false := by simpa using h0
  by_cases h1 : 12 < ps.length
  · have h1' : decide ((12 : Int) < (ps.length : Int)) = true := decide_eq_true (by omega)
    have h1c : (12 : Int) < (ps.length : Int) := by omega
    go_enter Try.func3, Try.ntmps3
    go_wp2_with (first | (go_at_call 7; (with_reducible refine (alive25_any _).mono ?_); rintro e w3 ⟨rfl, rfl⟩))
    go_ret
    exact ⟨rfl, Below.refl _ _⟩
  have h1' : decide ((12 : Int) < (ps.length : Int)) = false := decide_eq_false (by omega)
  have h1c : (ps.length : Int) ≤ 12 := by omega
  clear h1
  go_enter Try.func3, Try.ntmps3
  go_wp2
  go_loopw [7, 8, 9] (fun v7 v8 v9 wr => ∃ (k : Nat), v9 = .int .i64 (k : Int) ∧ k ≤ ps.length ∧ OB wr w.heap.size v7 (plc first k) ∧ OB wr w.heap.size v8 ((plc first k).map fun x => evalH x ps) ∧ Ap v7 v8 ∧ Below w.heap.size w wr) (fun _ _ i _ => ps.length - (intOf i).toNat)
  case atStart =>
    have hA : Below w.heap.size w (w.alloc (.cells #[] 5)) := (Below.refl _ _).alloc (Nat.le_refl _) _
    refine ⟨0, rfl, by omega, ?_, ?_, ?_, hA.alloc hA.size _⟩
    · exact (OB.lit w w.heap.size [] #[] rfl (Nat.le_refl _) (by simp)).below ((Below.refl _ _).alloc (Nat.le_refl _) _)
    · have h := OB.lit (w.alloc (.cells #[] 5)) w.heap.size [] #[] rfl hA.size (by simp)
      rw [size_alloc1] at h
      exact h
    · intro k h1 h2
      simp [Value.ownBlock] at h1 h2
      omega
  case round =>
    obtain ⟨k, rfl, hk, ho7, ho8, hap, hbe⟩ := hrel
    by_cases hkl : k < ps.length
    · have hki : (k : Int) < (ps.length : Int) := by omega
      obtain ⟨x, hx⟩ : ∃ x, x = UInt8.ofNat (first.toNat + k) := ⟨_, rfl⟩
      have HX := Lib.hid hx
      have hxv : ((first.toNat : Int) + (k : Int)) % 256 = (x.toNat : Int) := by rw [hx, UInt8.toNat_ofNat']; omega
      have hll : (plc first k).length ≤ 1000000000 := by rw [plc_length]; omega
      have hll2 : ((plc first k).map fun x => evalH x ps).length ≤ 1000000000 := by rw [List.length_map, plc_length]; omega
      have HAP := Lib.hid hap
      have HL := Lib.hid hll
      have HL2 := Lib.hid hll2
      have HB0 := Lib.hid hbe.size
      clear hx hap hll hll2
      go_wp2_with (first
        | (at_builtin; refine appB w.heap.size (.tmp 34) (.tmp 36) _ _ x _ ho7 hbe HB0.out HL.out (by first | rfl | exact hxv) rfl rfl rfl rfl ?_; intro v2 w2 ho7' hb7 hg7 hat7 hs7; have HAP2 := Lib.hid (HAP.out.step hat7 (fun k h => (ho8.ge k h).2)); replace ho8 := ho8.other hg7 HAP.out.ne; clear hg7 hat7 ho7)
        | (go_at_call 8; (with_reducible refine (FEval_any _ ps x _ (hp.below hb7) (by omega)).mono ?_); rintro e w3 ⟨rfl, hb3⟩; replace ho8 := ho8.below hb3; replace ho7' := ho7'.below hb3; replace hb7 := below_two hb7 hs7 hb3; clear hb3)
        | (at_builtin; refine appB w.heap.size (.tmp 38) (.tmp 42) _ _ (evalH x ps) _ ho8 hb7 hb7.size HL2.out rfl rfl rfl rfl rfl ?_; intro v4 w4 ho8' hb8 hg8 hat8 hs8; have HAP3 := Lib.hid (HAP2.out.symm.step hat8 (fun k h => (ho7'.ge k h).2)); replace ho7' := ho7'.other hg8 HAP2.out.symm.ne; clear hg8 hat8 ho8))
      go_roundw
      case rel =>
        refine ⟨k + 1, by go_num, by omega, ?_, ?_, HAP3.out.symm, hb8⟩
        · rw [plc_succ, ← HX.out]; exact ho7'
        · rw [plc_succ, ← HX.out, List.map_append]; exact ho8'
      case measure => simp [intOf] <;> omega
    · obtain rfl : k = ps.length := by omega
      have hnone : thNone (plc first ps.length) ((plc first ps.length).map fun x => evalH x ps) = false := by
        have hb0 := not_bad (plc first ps.length) (plc_nodup first _ (by omega)) ((plc first ps.length).map fun x => evalH x ps) 0 (by simp)
        rw [thNone, hb0, List.length_map, plc_length]
        have e2 : (ps.length == 0) = false := by simpa using h0
        have e3 : decide (255 < ps.length) = false := decide_eq_false (by omega)
        rw [e2, e3]; simp
      have hval := passes ps (plc first ps.length) (plc_nodup first _ (by omega)) (plc_length _ _) at_
      have cT := fun W v7 v8 h7 h8 => FThrough_any v7 v8 (plc first ps.length) ((plc first ps.length).map fun x => evalH x ps) at_ W h7 h8 (by rw [plc_length]; omega) (by rw [List.length_map, plc_length]; omega)
      unfold thV thE at cT
      rw [hnone, if_neg (by decide), if_neg (by decide), hval] at cT
      have CT := Lib.hid cT
      have cE := fun W h => FEval_any _ ps at_ W (hp.below h) (by omega)
      generalize evalH at_ ps = y at CT cE
      have CE := Lib.hid cE
      have hB := hbe.size
      clear cT cE hval hnone hap
      go_wp2_with (first
        | (go_at_call 9; (with_reducible refine (CT.out _ _ _ ho7.reads ho8.reads).mono ?_); rintro e w2 ⟨rfl, hb2⟩; replace hbe := below_two hbe hB hb2)
        | (go_at_call 7; (with_reducible refine (alive25_any _).mono ?_); rintro e w3 ⟨rfl, rfl⟩)
        | (go_at_call 8; (with_reducible refine (CE.out _ hbe).mono ?_); rintro e w4 ⟨rfl, hb4⟩; replace hbe := below_two hbe hbe.size hb4))
      go_ret
      exact ⟨rfl, hbe⟩
end Go.Proofs.Ythogefehainmdab
