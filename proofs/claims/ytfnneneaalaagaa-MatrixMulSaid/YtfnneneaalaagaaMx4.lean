/- Layer 26: rows that are written in place. -/
import Derived.Test.YtfnneneaalaagaaMx3
namespace Go.Proofs.Ytfnneneaalaagaa
open Go.RowKit
set_option linter.unusedSimpArgs false
set_option linter.unusedVariables false

theorem lay_lay1 (cs : List Value) (off : Nat) (vs : List Value) (k : Nat) (v : Value) (h : off + vs.length ≤ cs.length) (hk : k < vs.length) : lay (lay cs off vs) (off + k) [v] = lay cs off (vs.set k v) := by
  have hl : (cs.take off).length = off := by rw [List.length_take]; omega
  have e1 : (lay cs off vs).take (off + k) = cs.take off ++ vs.take k := by
    rw [lay, List.append_assoc, List.take_append, hl, List.take_of_length_le (by omega), Nat.add_sub_cancel_left, List.take_append_of_le_length (by omega)]
  have e2 : (lay cs off vs).drop (off + k + 1) = vs.drop (k + 1) ++ cs.drop (off + vs.length) := by
    rw [lay, List.append_assoc, Nat.add_assoc, ← List.drop_drop, List.drop_left' hl, List.drop_append_of_le_length (by omega)]
  have e3 : vs.set k v = vs.take k ++ (v :: vs.drop (k + 1)) := by rw [List.set_eq_take_append_cons_drop, if_pos hk]
  have e4 : lay cs off (vs.set k v) = cs.take off ++ (vs.take k ++ (v :: vs.drop (k + 1))) ++ cs.drop (off + vs.length) := by rw [lay, List.length_set, e3]
  rw [e4, lay, e1, List.length_singleton, e2]
  simp only [List.append_assoc, List.cons_append, List.nil_append]
theorem lay_same (cs : List Value) (off : Nat) (vs : List Value) (h : (cs.drop off).take vs.length = vs) : lay cs off vs = cs := by
  rw [lay]
  conv => lhs; lhs; rhs; rw [← h]
  rw [← List.drop_drop, List.append_assoc, List.take_append_drop, List.take_append_drop]
theorem lay_at (cs : List Value) (off : Nat) (vs : List Value) (k : Nat) (h : off + vs.length ≤ cs.length) (hk : k < vs.length) : (lay cs off vs)[off + k]? = vs[k]? := by
  have hl : (cs.take off).length = off := by rw [List.length_take]; omega
  rw [lay, List.append_assoc, List.getElem?_append_right (by omega), hl, Nat.add_sub_cancel_left, List.getElem?_append_left hk]
theorem lay_out (cs : List Value) (off : Nat) (vs : List Value) (j : Nat) (h : off + vs.length ≤ cs.length) (hj : j < off ∨ off + vs.length ≤ j) : (lay cs off vs)[j]? = cs[j]? := by
  have hl : (cs.take off).length = off := by rw [List.length_take]; omega
  rw [lay, List.append_assoc]
  rcases hj with hj | hj
  · rw [List.getElem?_append_left (by omega), List.getElem?_take, if_pos hj]
  · rw [List.getElem?_append_right (by omega), hl, List.getElem?_append_right (by omega), List.getElem?_drop]
    congr 1
    omega
theorem SH.block {w : World} {g : Nat} {t : TypeId} {cs : List Value} (h : VA w g t cs) : SH (fun k => k = g) w w [.blk g t cs] :=
  ⟨Chg.refl _ w, fun o ho => by rw [List.mem_singleton.mp ho]; exact h, fun o ho b hb => by rw [List.mem_singleton.mp ho] at hb; exact .inl hb, List.pairwise_singleton _ _⟩
theorem addr_add (g off k : Nat) : (⟨g, off, none⟩ : Addr).add k = ⟨g, off + k, none⟩ := Addr.add_mid g off k

/-- The first k of l are turned by h. -/
def turnK (h : UInt8 → UInt8) (l : List UInt8) (k : Nat) : List UInt8 := (l.take k).map h ++ l.drop k
theorem turnK_len (h : UInt8 → UInt8) (l : List UInt8) (k : Nat) (hk : k ≤ l.length) : (turnK h l k).length = l.length := by simp [turnK]; omega
theorem turnK_at (h : UInt8 → UInt8) (l : List UInt8) (k : Nat) (hk : k < l.length) : (turnK h l k)[k]? = some (l.getD k 0) := by
  rw [turnK, List.getElem?_append_right (by simp; omega), List.length_map, List.length_take, Nat.min_eq_left (by omega), Nat.sub_self, List.getElem?_drop, Nat.add_zero, List.getD_eq_getElem?_getD, List.getElem?_eq_getElem hk]; rfl
theorem turnK_succ (h : UInt8 → UInt8) (l : List UInt8) (k : Nat) (hk : k < l.length) : (turnK h l k).set k (h (l.getD k 0)) = turnK h l (k + 1) := by
  have e : l.drop k = l.getD k 0 :: l.drop (k + 1) := by rw [List.drop_eq_getElem_cons hk, List.getD_eq_getElem?_getD, List.getElem?_eq_getElem hk]; rfl
  have e2 : l.take (k + 1) = l.take k ++ [l.getD k 0] := by rw [List.take_succ_eq_append_getElem hk, List.getD_eq_getElem?_getD, List.getElem?_eq_getElem hk]; rfl
  have hl : ((l.take k).map h).length = k := by simp; omega
  rw [turnK, turnK, e, e2, List.set_append_right _ _ (by omega), hl, Nat.sub_self, List.set_cons_zero, List.map_append, List.append_assoc]; rfl
theorem turnK_all (h : UInt8 → UInt8) (l : List UInt8) : turnK h l l.length = l.map h := by simp [turnK]
theorem turnK_zero (h : UInt8 → UInt8) (l : List UInt8) : turnK h l 0 = l := by simp [turnK]
theorem row_fits {cs : List Value} {off : Nat} {l : List UInt8} (h : (cs.drop off).take l.length = l.map cb) (hp : 0 < l.length) : off + l.length ≤ cs.length := by
  have := congrArg List.length h
  rw [List.length_take, List.length_drop, List.length_map] at this
  omega
set_option maxHeartbeats 800000 in
set_option maxRecDepth 100000 in
theorem scale_any (g off cp : Nat) (t : TypeId) (cs : List Value) (l : List UInt8) (f : UInt8) (w : World) (hv : VA w g t cs) (hcs : (cs.drop off).take l.length = l.map cb) (hp : 0 < l.length) (hn : l.length ≤ 1000) :
    Calls Try.prog 77 #[.slice (some ⟨g, off, none⟩) l.length cp, .int .u8 (f.toNat : Int)] w fun e w' => e = .returned (.tuple #[]) ∧ SH (fun k => k = g) w w' [.blk g t (lay cs off ((l.map fun x => fmul x f).map cb))] := by
  have hlen := row_fits hcs hp
  have H := SH.block hv
  have h0 : lay cs off ((turnK (fun x => fmul x f) l 0).map cb) = cs := by rw [turnK_zero]; exact lay_same cs off _ (by rw [List.length_map]; exact hcs)
  rw [← h0] at H
  have hadd := addr_add g off
  clear h0 hcs hv
  go_enter Try.func77, Try.ntmps77
  go_wp2
  have HA := Lib.hid hadd
  clear hadd
  go_loopw [8] (fun v8 wr => ∃ k : Nat, v8 = .int .i64 (k : Int) ∧ k ≤ l.length ∧ SH (fun k => k = g) w wr [.blk g t (lay cs off ((turnK (fun x => fmul x f) l k).map cb))]) (fun v _ => l.length - (intOf v).toNat)
  case atStart => exact ⟨0, rfl, by omega, H⟩
  case round =>
    obtain ⟨k, rfl, hk, HS⟩ := hrel
    clear H
    by_cases hkn : k < l.length
    · have hki : (k : Int) < (l.length : Int) := by omega
      have hll : ((turnK (fun x => fmul x f) l k).map cb).length = l.length := by rw [List.length_map, turnK_len _ _ _ hk]
      have hcell : wr.cell? ⟨g, off + k, none⟩ = some (.int .u8 ((l.getD k 0).toNat : Int)) := by
        rw [(HS.va 0 rfl).cell, lay_at _ _ _ _ (by omega) (by omega), List.getElem?_map, turnK_at _ _ _ hkn]; rfl
      have hnew : lay (lay cs off ((turnK (fun x => fmul x f) l k).map cb)) (off + k) [cb (fmul (l.getD k 0) f)] = lay cs off ((turnK (fun x => fmul x f) l (k + 1)).map cb) := by
        rw [lay_lay1 _ _ _ _ _ (by omega) (by omega), ← turnK_succ _ _ _ hkn, List.map_set]
      have hadd := HA.out k
      have hlo : off + k + 1 ≤ (lay cs off ((turnK (fun x => fmul x f) l k).map cb)).length := by rw [lay_length _ _ _ (by omega)]; omega
      generalize l.getD k 0 = x at hcell hnew
      have cM := fun W => FMul_any x f W
      generalize fmul x f = y at cM hnew
      have HN := Lib.hid hnew
      have HLO := Lib.hid hlo
      clear hnew hlo hll
      go_wp2_with (first
        | (go_at_call 81; (with_reducible refine (cM _).mono ?_); rintro e w2 ⟨rfl, rfl⟩)
        | ((with_reducible refine gStore ?_); refine wCell 5 (cb y) (by kernel_rfl) rfl rfl HS 0 (off := off + k) rfl HLO.out _ HN.out _ _ rfl rfl rfl rfl ?_; clear HS; intro w3 H3))
      go_roundw
      case rel => exact ⟨k + 1, by go_num, by omega, H3⟩
      case measure => simp [intOf] <;> omega
    · obtain rfl : k = l.length := by omega
      rw [turnK_all] at HS
      go_wp2
      go_end0
      exact ⟨rfl, HS⟩
/-- The first k of a, each joined to that of l. -/
theorem add_step (h : UInt8 → UInt8 → UInt8) (a l : List UInt8) (k : Nat) (ha : a.length = l.length) (hk : k < l.length) :
    ((List.zipWith h (a.take k) (l.take k)) ++ a.drop k).set k (h (a.getD k 0) (l.getD k 0)) = (List.zipWith h (a.take (k + 1)) (l.take (k + 1))) ++ a.drop (k + 1) := by
  have e : a.drop k = a.getD k 0 :: a.drop (k + 1) := by rw [List.drop_eq_getElem_cons (by omega), List.getD_eq_getElem?_getD, List.getElem?_eq_getElem (by omega)]; rfl
  have e2 : ∀ (b : List UInt8), k < b.length → b.take (k + 1) = b.take k ++ [b.getD k 0] := fun b hb => by rw [List.take_succ_eq_append_getElem hb, List.getD_eq_getElem?_getD, List.getElem?_eq_getElem hb]; rfl
  have hl : (List.zipWith h (a.take k) (l.take k)).length = k := by simp; omega
  rw [e, e2 a (by omega), e2 l hk, List.set_append_right _ _ (by omega), hl, Nat.sub_self, List.set_cons_zero, List.zipWith_append (by simp; omega), List.append_assoc]; rfl
def addK (h : UInt8 → UInt8 → UInt8) (a l : List UInt8) (k : Nat) : List UInt8 := (List.zipWith h (a.take k) (l.take k)) ++ a.drop k
theorem addK_len (h : UInt8 → UInt8 → UInt8) (a l : List UInt8) (k : Nat) (ha : a.length = l.length) (hk : k ≤ l.length) : (addK h a l k).length = l.length := by simp [addK]; omega
theorem addK_at (h : UInt8 → UInt8 → UInt8) (a l : List UInt8) (k : Nat) (ha : a.length = l.length) (hk : k < l.length) : (addK h a l k)[k]? = some (a.getD k 0) := by
  have hz : (List.zipWith h (a.take k) (l.take k)).length = k := by simp; omega
  rw [addK, List.getElem?_append_right (by omega), hz, Nat.sub_self, List.getElem?_drop, Nat.add_zero, List.getD_eq_getElem?_getD, List.getElem?_eq_getElem (by omega)]; rfl
def addF (f x y : UInt8) : UInt8 := x ^^^ fmul y f
set_option maxHeartbeats 800000 in
set_option maxRecDepth 100000 in
theorem add_any (g o1 o2 c1 c2 : Nat) (t : TypeId) (cs : List Value) (a l : List UInt8) (f : UInt8) (w : World) (hv : VA w g t cs) (ha : a.length = l.length) (hc1 : (cs.drop o1).take a.length = a.map cb) (hc2 : (cs.drop o2).take l.length = l.map cb) (hp : 0 < l.length) (hn : l.length ≤ 1000) (hap : o1 + l.length ≤ o2 ∨ o2 + l.length ≤ o1) :
    Calls Try.prog 78 #[.slice (some ⟨g, o1, none⟩) l.length c1, .slice (some ⟨g, o2, none⟩) l.length c2, .int .u8 (f.toNat : Int)] w fun e w' => e = .returned (.tuple #[]) ∧ SH (fun k => k = g) w w' [.blk g t (lay cs o1 ((List.zipWith (addF f) a l).map cb))] := by
  have hlen1 := row_fits hc1 (by omega)
  have hlen2 := row_fits hc2 hp
  have H := SH.block hv
  have h0 : lay cs o1 ((addK (addF f) a l 0).map cb) = cs := by
    have e : addK (addF f) a l 0 = a := by simp [addK]
    rw [e]; exact lay_same cs o1 _ (by rw [List.length_map]; exact hc1)
  rw [← h0] at H
  have hat2 : ∀ k, k < l.length → cs[o2 + k]? = some (cb (l.getD k 0)) := fun k hk => by
    have := congrArg (fun x => x[k]?) hc2
    simp only [List.getElem?_take, if_pos hk, List.getElem?_drop, List.getElem?_map] at this
    rw [this, List.getD_eq_getElem?_getD, List.getElem?_eq_getElem hk]; rfl
  have HA := Lib.hid (addr_add g)
  have HAL := Lib.hid ha
  have H2 := Lib.hid hat2
  clear h0 hc1 hc2 hv hat2 ha
  go_enter Try.func78, Try.ntmps78
  go_wp2
  go_loopw [10] (fun v10 wr => ∃ k : Nat, v10 = .int .i64 (k : Int) ∧ k ≤ l.length ∧ SH (fun k => k = g) w wr [.blk g t (lay cs o1 ((addK (addF f) a l k).map cb))]) (fun v _ => l.length - (intOf v).toNat)
  case atStart => exact ⟨0, rfl, by omega, H⟩
  case round =>
    obtain ⟨k, rfl, hk, HS⟩ := hrel
    clear H
    by_cases hkn : k < l.length
    · have hki : (k : Int) < (l.length : Int) := by omega
      have ha := HAL.out
      have hll : ((addK (addF f) a l k).map cb).length = l.length := by rw [List.length_map, addK_len _ _ _ _ ha hk]
      have hcell : wr.cell? ⟨g, o2 + k, none⟩ = some (.int .u8 ((l.getD k 0).toNat : Int)) := by
        rw [(HS.va 0 rfl).cell, lay_out _ _ _ _ (by omega) (by omega)]; exact H2.out k hkn
      have hcell1 : wr.cell? ⟨g, o1 + k, none⟩ = some (.int .u8 ((a.getD k 0).toNat : Int)) := by
        rw [(HS.va 0 rfl).cell, lay_at _ _ _ _ (by omega) (by omega), List.getElem?_map, addK_at _ _ _ _ ha hkn]; rfl
      have hnew : lay (lay cs o1 ((addK (addF f) a l k).map cb)) (o1 + k) [cb (addF f (a.getD k 0) (l.getD k 0))] = lay cs o1 ((addK (addF f) a l (k + 1)).map cb) := by
        rw [lay_lay1 _ _ _ _ _ (by omega) (by omega), addK, addK, ← add_step _ _ _ _ ha hkn, List.map_set]
      have hadd1 := HA.out o1 k
      have hadd2 := HA.out o2 k
      have hlo : o1 + k + 1 ≤ (lay cs o1 ((addK (addF f) a l k).map cb)).length := by rw [lay_length _ _ _ (by omega)]; omega
      generalize l.getD k 0 = x at hcell hnew
      generalize a.getD k 0 = y at hcell1 hnew
      have hq : addF f y x = y ^^^ fmul x f := rfl
      rw [hq] at hnew
      have cM := fun W => FMul_any x f W
      generalize fmul x f = z at cM hnew
      have hxr := xor8 y z
      generalize y ^^^ z = q at hxr hnew
      have HN := Lib.hid hnew
      have HLO := Lib.hid hlo
      have HD := HS.drew
      have HS0 : wr.drew.cell? ⟨g, o1 + k, none⟩ = some (.int .u8 (y.toNat : Int)) := hcell1
      clear hnew hlo hll HS hcell1 ha
      go_wp2
      refine startL (fun w' => w'.cell? ⟨g, o1 + k, none⟩ = some (.int .u8 (y.toNat : Int))) (fun i => i == 9) (by kernel_rfl) ?_
      refine takeP 0 rfl (by kernel_rfl) (by kernel_rfl) (by kernel_rfl) (by kernel_rfl) (fun _ _ _ h => h) rfl (v := ?_) ?_ ?_
      rotate_left
      · intro w'; go_simp; (try with_reducible rfl)
      (try simp only [Act.put, List.setIfInBounds_toArray, List.set_cons_zero, List.set_cons_succ])
      refine takeP 1 rfl (by kernel_rfl) (by kernel_rfl) (by kernel_rfl) (by kernel_rfl) (fun _ _ _ h => h) rfl (v := ?_) ?_ ?_
      rotate_left
      · intro w'; go_simp; (try with_reducible rfl)
      (try simp only [Act.put, List.setIfInBounds_toArray, List.set_cons_zero, List.set_cons_succ])
      refine takeP 2 rfl (by kernel_rfl) (by kernel_rfl) (by kernel_rfl) (by kernel_rfl) (fun _ _ _ h => h) rfl (v := ?_) ?_ ?_
      rotate_left
      · intro w'; go_simp; (try with_reducible rfl)
      (try simp only [Act.put, List.setIfInBounds_toArray, List.set_cons_zero, List.set_cons_succ])
      refine takeL 3 HS0 rfl (by kernel_rfl) (by kernel_rfl) (by kernel_rfl) (by kernel_rfl) (by kernel_rfl) (fun _ _ _ h => h) rfl (v := ?_) ?_ ?_
      rotate_left
      · intro w' hw'; have kq := hw'; clear hw'; go_simp; (try with_reducible rfl)
      (try simp only [Act.put, List.setIfInBounds_toArray, List.set_cons_zero, List.set_cons_succ])
      refine takeP 4 rfl (by kernel_rfl) (by kernel_rfl) (by kernel_rfl) (by kernel_rfl) (fun _ _ _ h => h) rfl (v := ?_) ?_ ?_
      rotate_left
      · intro w'; go_simp; (try with_reducible rfl)
      (try simp only [Act.put, List.setIfInBounds_toArray, List.set_cons_zero, List.set_cons_succ])
      refine takeP 5 rfl (by kernel_rfl) (by kernel_rfl) (by kernel_rfl) (by kernel_rfl) (fun _ _ _ h => h) rfl (v := ?_) ?_ ?_
      rotate_left
      · intro w'; go_simp; (try with_reducible rfl)
      (try simp only [Act.put, List.setIfInBounds_toArray, List.set_cons_zero, List.set_cons_succ])
      refine stepL 6 rfl (by kernel_rfl) rfl (fun K hK => ?_)
      (go_simp; (with_reducible refine (cM _).mono ?_); rintro e w5 ⟨rfl, rfl⟩; refine hK.out _ _ (fun _ _ => HS0) ?_; clear K hK)
      (try simp only [Act.put, List.setIfInBounds_toArray, List.set_cons_zero, List.set_cons_succ])
      refine takeP 7 rfl (by kernel_rfl) (by kernel_rfl) (by kernel_rfl) (by kernel_rfl) (fun _ _ _ h => h) rfl (v := ?_) ?_ ?_
      rotate_left
      · intro w'; go_simp; (try with_reducible rfl)
      (try simp only [Act.put, List.setIfInBounds_toArray, List.set_cons_zero, List.set_cons_succ])
      refine takeP 8 rfl (by kernel_rfl) (by kernel_rfl) (by kernel_rfl) (by kernel_rfl) (fun _ _ _ h => h) rfl (v := ?_) ?_ ?_
      rotate_left
      · intro w'; go_simp; (try with_reducible rfl)
      (try simp only [Act.put, List.setIfInBounds_toArray, List.set_cons_zero, List.set_cons_succ])
      refine stepL 9 rfl (by kernel_rfl) rfl (fun K hK => ?_)
      (refine oCell 5 (cb q) (by kernel_rfl) rfl rfl HD 0 (off := o1 + k) rfl HLO.out _ HN.out _ _ rfl rfl rfl ?_; clear HD; intro w7 HD; refine hK.out _ _ (fun h => by cases h) ?_; clear K hK HS0)
      (try simp only [Act.put, List.setIfInBounds_toArray, List.set_cons_zero, List.set_cons_succ])
      refine doneL (by kernel_rfl) ?_
      go_wp2
      go_roundw
      case rel => exact ⟨k + 1, by go_num, by omega, HD⟩
      case measure => simp [intOf] <;> omega
    · obtain rfl : k = l.length := by omega
      have ha := HAL.out
      have e : addK (addF f) a l l.length = List.zipWith (addF f) a l := by rw [addK, List.take_of_length_le (by omega), List.take_of_length_le (Nat.le_refl _), List.drop_of_length_le (by omega), List.append_nil]
      rw [e] at HS
      clear e ha
      go_wp2
      go_end0
      exact ⟨rfl, HS⟩
end Go.Proofs.Ytfnneneaalaagaa
