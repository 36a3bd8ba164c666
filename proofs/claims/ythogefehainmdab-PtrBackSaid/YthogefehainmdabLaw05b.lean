/- Layer 5: what is encoded, decoded; the law on what is decoded. -/
import Derived.Test.YthogefehainmdabPtr11
import Derived.Test.YthogefehainmdabAlive05
namespace Go.Proofs.Ythogefehainmdab
open Go.RowKit
set_option linter.unusedSimpArgs false
set_option linter.unusedVariables false

theorem raw_enc (p : PT) : rawP (encL p) = p := by
  have e0 : encL p = p.hash ++ (put32L p.birth.toNat ++ (put32L p.a0.toNat ++ (put32L p.a1.toNat ++ []))) := by simp [encL]
  have d0 : (encL p).drop 32 = put32L p.birth.toNat ++ (put32L p.a0.toNat ++ (put32L p.a1.toNat ++ [])) := by rw [e0, List.drop_left' p.hl]
  have d1 : (encL p).drop 36 = put32L p.a0.toNat ++ (put32L p.a1.toNat ++ []) := by rw [show 36 = 32 + 4 from rfl, ← List.drop_drop, d0]; rfl
  have d2 : (encL p).drop 40 = put32L p.a1.toNat ++ [] := by rw [show 40 = 36 + 4 from rfl, ← List.drop_drop, d1]; rfl
  refine PT.ext' _ _ ?_ ?_ ?_ ?_
  · rw [rawP_hash _ (by rw [encL_length]; omega), e0, List.take_left' p.hl]
  · show UInt32.ofNat (get32 ((encL p).drop 32)) = _
    rw [d0, get32_put _ _ p.birth.toNat_lt]; simp
  · show UInt32.ofNat (get32 ((encL p).drop 36)) = _
    rw [d1, get32_put _ _ p.a0.toNat_lt]; simp
  · show UInt32.ofNat (get32 ((encL p).drop 40)) = _
    rw [d2, get32_put _ _ p.a1.toNat_lt]; simp
theorem dec_may (p : PT) (h : p.may = true) : decE (encL p) = 0 ∧ decP (encL p) = p := by
  have h0 : decE (encL p) = 0 := by rw [decE, encL_length, raw_enc, h]; simp
  exact ⟨h0, by rw [decP, if_pos h0, raw_enc]⟩
theorem dec_not (p : PT) (h : p.may = false) : decE (encL p) = 3 ∧ decP (encL p) = PT.hole := by
  have h0 : decE (encL p) = 3 := by rw [decE, encL_length, raw_enc, h]; simp
  exact ⟨h0, by rw [decP, h0]; rfl⟩
theorem encs_chunk : ∀ (l : List PT) (i : Nat) (h : i < l.length), ((l.flatMap encL).drop (i * 44)).take 44 = encL l[i]
  | [], i, h => by simp at h
  | p :: l, 0, _ => by rw [Nat.zero_mul, List.drop_zero, List.flatMap_cons, List.take_left' (encL_length p)]; rfl
  | p :: l, i + 1, h => by
    rw [List.flatMap_cons, Nat.succ_mul, Nat.add_comm, ← List.drop_drop, List.drop_left' (encL_length p), encs_chunk l i (by simpa using h)]
    rfl
theorem chunk_node (l : PL) (i : Nat) (h : i < l.1.length) : chunk (nodeL l) i = encL l.1[i] := by
  have hl := l.2
  rw [chunk, nodeL, List.drop_append_of_le_length (by rw [encs_length]; omega), List.take_append_of_le_length (by rw [List.length_drop, encs_length]; omega), encs_chunk l.1 i h]
theorem nodeL_length (l : PL) : (nodeL l).length = 256 := by rw [nodeL, List.length_append, encs_length, l.2]; rfl
theorem rd_node (l : PL) : rdOK (nodeL l) = l.1.all PT.may := by
  have hl := l.2
  rw [Bool.eq_iff_iff, List.all_eq_true]
  constructor
  · intro h p hp
    obtain ⟨i, hi, rfl⟩ := List.mem_iff_getElem.1 hp
    simp only [rdOK, Bool.and_eq_true, decide_eq_true_eq, List.all_eq_true, List.mem_range, beq_iff_eq] at h
    have := h.1.2 i (by omega)
    rw [chunk_node l i hi] at this
    cases hm : l.1[i].may with
    | true => rfl
    | false => rw [(dec_not _ hm).1] at this; omega
  · intro h
    refine rd_good _ (nodeL_length l) (fun i hi => ?_) (fun j hj => ?_)
    · rw [chunk_node l i (by omega)]
      exact (dec_may _ (h _ (List.getElem_mem _))).1
    · rw [nodeL, List.drop_left' (by rw [encs_length, hl]), List.getD_eq_getElem?_getD, List.getElem?_replicate, if_pos hj]
      rfl
theorem rd_node_l (l : PL) (h : l.1.all PT.may = true) : rdL (nodeL l) = l := by
  have hl := l.2
  rw [(rd_pls _ ((rd_node l).trans h)).1]
  rw [List.all_eq_true] at h
  refine Subtype.ext (List.ext_getElem (by simp [pls, hl]) fun i h1 h2 => ?_)
  simp only [pls, List.getElem_map, List.getElem_range]
  rw [chunk_node l i h2]
  exact (dec_may _ (h _ (List.getElem_mem _))).2

/-- 44 bytes. -/
abbrev enc44 (p : PT) : RowOf UInt8 44 := ⟨encL p, encL_length p⟩
def a44 : AT Try.prog (RowOf UInt8 44) := ⟨40, fun x => x.1.map cb, 44, fun x => by rw [List.length_map]; exact x.2, fun x => one_u8 x.1, _, Try.underlying40, rfl, by kernel_rfl, ⟨List.replicate 44 0, rfl⟩, by kernel_rfl, by kernel_rfl⟩
/-- A block of bytes, sliced whole. -/
theorem SH.rb {F : Nat → Prop} {w0 w : World} {L : List Own} (H : SH F w0 w L) (i : Nat) {b : Nat} {t : TypeId} {xs : List UInt8} (hi : L[i]? = some (.blk b t (xs.map cb))) (n : Nat) (hn : xs.length = n) (hm : n ≤ 1000000000) : RB w (.slice (some ⟨b, 0, none⟩) n n) xs := by
  subst hn
  exact RR.range (T := B8) (by rw [U8_all]; exact (H.va i hi).all) (by omega)

set_option maxHeartbeats 3200000 in
set_option maxRecDepth 100000 in
theorem PtrDecode_any (vb : Value) (b : List UInt8) (w : World) (hb : RB w vb b) :
    Calls Try.prog 4 #[vb] w fun e w' => e = .returned (.bool true) ∧ Below w.heap.size w w' := by
  obtain ⟨A, c, rfl, hc⟩ := hb.len
  by_cases h1 : 300 < b.length
  · have h1' : (300 : Int) < (b.length : Int) := by omega
    go_enter Try.func4, Try.ntmps4
    go_wp2_with (first | (go_at_call 10; refine (alive05_any _).mono ?_; rintro e w1 ⟨rfl, hb1⟩))
    go_ret
    exact ⟨rfl, hb1⟩
  have h1' : (b.length : Int) ≤ 300 := by omega
  have hb0 : Below w.heap.size w (w.alloc (.cells #[] 5)) := (Below.refl _ _).alloc (Nat.le_refl _) _
  have ho0 : OB (w.alloc (.cells #[] 5)) w.heap.size (.slice (some ⟨w.heap.size, 0, none⟩) 0 0) [] := OB.lit w w.heap.size [] #[] rfl (Nat.le_refl _) (by simp)
  have hr0 := hb.below hb0
  obtain ⟨p, hp⟩ : ∃ p, p = decP b := ⟨_, rfl⟩
  obtain ⟨l, hl⟩ : ∃ l, l = rdL b := ⟨_, rfl⟩
  have cD : ∀ W v, RB W v b → Calls Try.prog 11 #[v] W fun e w' => e = .returned (.tuple #[.agg (ptT.enc p).toArray, .int .i64 (decE b : Int)]) ∧ Below W.heap.size W w' := fun W v h => by rw [hp]; exact Decode_any v b W h (by omega)
  have rD : ∀ W v, RB W v b → Calls Try.prog 12 #[v] W fun e w' => e = .returned (.tuple #[.agg (ptT.enc p).toArray, .int .i64 (decE b : Int)]) ∧ Below W.heap.size W w' := fun W v h => by rw [hp]; exact rDecode_any v b W h (by omega)
  have cR : ∀ W v, RB W v b → Calls Try.prog 13 #[v] W fun e w' => e = .returned (.tuple #[.agg (plT.enc l).toArray, .int .i64 (rdE b : Int)]) ∧ Below W.heap.size W w' := fun W v h => by rw [hl]; exact Read_any v b W h (by omega)
  have rR : ∀ W v, RB W v b → Calls Try.prog 14 #[v] W fun e w' => e = .returned (.tuple #[.agg (plT.enc l).toArray, .int .i64 (rdE b : Int)]) ∧ Below W.heap.size W w' := fun W v h => by rw [hl]; exact rRead_any v b W h (by omega)
  have qp : ∀ W, (binOp .eql 33 (.agg (ptT.enc p).toArray) (.agg (ptT.enc p).toArray)).run Try.prog W = .ok (.bool true) W := fun W => by
    have := ptr_eqlA p p W
    rw [show (p == p) = true by simp] at this
    exact this
  have ql : ∀ W, (binOp .eql 36 (.agg (plT.enc l).toArray) (.agg (plT.enc l).toArray)).run Try.prog W = .ok (.bool true) W := fun W => by
    have := pl_eql l l W
    rw [show (l == l) = true by simp] at this
    exact this
  generalize (decE b : Int) = E at cD rD
  generalize (rdE b : Int) = G at cR rR
  have CD := Lib.hid cD
  have RD := Lib.hid rD
  have CR := Lib.hid cR
  have RR' := Lib.hid rR
  have QP := Lib.hid qp
  have QL := Lib.hid ql
  clear cD rD cR rR qp ql hp hl
  go_enter Try.func4, Try.ntmps4
  go_wp2_with (first
    | (at_builtin; refine appBs w.heap.size (.tmp 16) (.tmp 17) _ _ [] b ho0 hr0 hb0 (by simp) (by simp) (by omega) rfl rfl rfl rfl ?_; clear ho0 hr0; intro v5 w1 ho1 hb1 hg1 hat1 hs1; rw [List.nil_append] at ho1; have H := (SH.start Nil w).pushRow hb1 ho1; clear ho1 hb1 hg1 hat1 hs1 hb0)
    | (go_at_call 11; (with_reducible refine (CD.out _ _ (H.rr 0 rfl)).mono ?_); rintro e w2 ⟨rfl, hb2⟩; replace H := H.step hb2; clear hb2)
    | (refine wVar ptT p (H : SH Nil w _ [_]) rfl 4 _ rfl rfl rfl rfl rfl ?_; clear H; intro w3 H)
    | (go_at_call 12; (with_reducible refine (RD.out _ _ (hb.below H.below)).mono ?_); rintro e w4 ⟨rfl, hb4⟩; replace H := H.step hb4; clear hb4)
    | (refine wVar ptT p (H : SH Nil w _ [_, _]) rfl 6 _ rfl rfl rfl rfl rfl ?_; clear H; intro w5 H)
    | (go_at_call 13; (with_reducible refine (CR.out _ _ (H.rr 2 rfl)).mono ?_); rintro e w6 ⟨rfl, hb6⟩; replace H := H.step hb6; clear hb6)
    | (refine wVar plT l (H : SH Nil w _ [_, _, _]) rfl 8 _ rfl rfl rfl rfl rfl ?_; clear H; intro w7 H)
    | (go_at_call 14; (with_reducible refine (RR'.out _ _ (hb.below H.below)).mono ?_); rintro e w8 ⟨rfl, hb8⟩; replace H := H.step hb8; clear hb8)
    | (refine wVar plT l (H : SH Nil w _ [_, _, _, _]) rfl 10 _ rfl rfl rfl rfl rfl ?_; clear H; intro w9 H)
    | (go_at_call 10; refine (alive05_any _).mono ?_; rintro e w10 ⟨rfl, hb10⟩; replace H := H.step hb10; clear hb10; have s1 := strB (H.rr 4 rfl); have s2 := strB (hb.below H.below))
    | (refine wLoad ptT p H 3 rfl (List.take_of_length_le (by rw [List.drop_zero]; exact Nat.le_of_eq p.len)) _ rfl rfl rfl ?_)
    | (refine wLoad ptT p H 2 rfl (List.take_of_length_le (by rw [List.drop_zero]; exact Nat.le_of_eq p.len)) _ rfl rfl rfl ?_)
    | (refine wLoad plT l H 1 rfl (List.take_of_length_le (by rw [List.drop_zero]; exact Nat.le_of_eq l.len)) _ rfl rfl rfl ?_)
    | (refine wLoad plT l H 0 rfl (List.take_of_length_le (by rw [List.drop_zero]; exact Nat.le_of_eq l.len)) _ rfl rfl rfl ?_)
    | (refine stepV (exec_eql 33 _ _ _ rfl _ _ rfl rfl ptr_guard _ (QP.out _)) rfl ?_)
    | (refine stepV (exec_eql 36 _ _ _ rfl _ _ rfl rfl pl_guard _ (QL.out _)) rfl ?_))
  go_ret
  exact ⟨rfl, H.below⟩
end Go.Proofs.Ythogefehainmdab
