/- The package ptr: a pointer as it is written. -/
import Derived.Test.YthogefehainmdabPtr2
import Derived.Test.YthogefehainmdabNum
namespace Go.Proofs.Ythogefehainmdab
set_option linter.unusedSimpArgs false
open Go.RowKit

/-- A pointer as it is written. -/
def encL (p : PT) : List UInt8 := p.hash ++ put32L p.birth.toNat ++ put32L p.a0.toNat ++ put32L p.a1.toNat
theorem encL_length (p : PT) : (encL p).length = 44 := by simp [encL, put32L, p.hl]
theorem PT.range_hash {w : World} {b : Nat} {t : TypeId} {p : PT} (h : VA w b t p.cells) : w.rangeAt b 0 (p.hash.map cb) := h.range 0 _ (by rw [List.drop_zero, List.length_map, p.hl]; exact p.take32)
theorem PT.rb_hash {w : World} {b : Nat} {t : TypeId} {p : PT} (h : VA w b t p.cells) : RB w (.slice (some ⟨b, 0, none⟩) 32 32) p.hash := by
  have := RR.range (T := B8) (w := w) (b := b) (o := 0) (xs := p.hash) (by rw [U8_all]; exact PT.range_hash h) (by rw [p.hl]; decide)
  rw [p.hl] at this
  exact this
theorem PT.cell32 {w : World} {b : Nat} {t : TypeId} {p : PT} (h : VA w b t p.cells) : w.cell? ⟨b, 32, none⟩ = some (.int .u32 (p.birth.toNat : Int)) := by rw [h.cell]; have := p.c32; rw [List.getElem?_toArray] at this; exact this
theorem PT.cell33 {w : World} {b : Nat} {t : TypeId} {p : PT} (h : VA w b t p.cells) : w.cell? ⟨b, 33, none⟩ = some (.int .u32 (p.a0.toNat : Int)) := by rw [h.cell]; have := p.c33; rw [List.getElem?_toArray] at this; exact this
theorem PT.cell34 {w : World} {b : Nat} {t : TypeId} {p : PT} (h : VA w b t p.cells) : w.cell? ⟨b, 34, none⟩ = some (.int .u32 (p.a1.toNat : Int)) := by rw [h.cell]; have := p.c34; rw [List.getElem?_toArray] at this; exact this
theorem one_u8 (xs : List UInt8) : ∀ v ∈ xs.map cb, v.oneCell' = true := by
  intro v hv
  obtain ⟨x, _, rfl⟩ := List.mem_map.mp hv
  rfl
theorem OB.shape {w : World} {base : Nat} {v : Value} {xs : List UInt8} {n : Nat} (h : OB w base v xs) (hn : xs.length = n) (hp : 0 < n) : ∃ g c, v = .slice (some ⟨g, 0, none⟩) n c ∧ base ≤ g ∧ w.rangeAt g 0 (xs.map cb) := by
  subst hn
  obtain ⟨A, c, rfl, _, _, hc⟩ := h.reads
  rcases h.2 with ⟨h1, _⟩ | ⟨g, cap, cur, h1, h2, _⟩
  · obtain ⟨ad, e, _⟩ := hc hp
    rw [e] at h1; cases h1
  · obtain ⟨ad, e, hcc⟩ := hc hp
    rw [e] at h1 ⊢
    cases h1
    refine ⟨g, _, rfl, h2, fun j v hv => ?_⟩
    have := hcc j v (by rw [U8_all]; exact hv)
    rw [Addr.add_mid] at this
    exact this
/-- An array of bytes, by value. -/
def bytesV (xs : List UInt8) : Value := .agg (xs.map cb).toArray

set_option maxHeartbeats 1600000 in
set_option maxRecDepth 100000 in
theorem Encode_any (p : PT) (w : World) : Calls Try.prog 15 #[p.val] w fun e w' => e = .returned (bytesV (encL p)) ∧ Below w.heap.size w w' := by
  unfold PT.val
  go_enter Try.func15, Try.ntmps15
  go_wp2_with (first
    | (refine wpBox 33 _ rfl p.cells rfl rfl ?_; intro w1 hv1 hb1)
    | (refine wpAlloc 40 rfl (bytesV (List.replicate 44 0)) ((List.replicate 44 (0 : UInt8)).map cb) (by kernel_rfl) rfl rfl ?_; intro w2 hv2 hb2; have hne := hv1.lt; replace hv1 := hv1.below hb2))
  have hb := below_two hb1 hb1.size hb2
  have hvd1 : VA w2.drew w.heap.size 33 p.cells := hv1
  have hvd2 : VA w2.drew w1.heap.size 40 ((List.replicate 44 (0 : UInt8)).map cb) := hv2
  have hbd : Below w.heap.size w w2.drew := hb.drew
  clear hv1 hv2 hb1 hb2 hb
  refine startE (none) (by kernel_rfl) ?_
  refine takeE 0 rfl (by kernel_rfl) (by kernel_rfl) (by kernel_rfl) (fun _ _ _ h => h) rfl (v := ?_) ?_ ?_
  rotate_left
  · intro w' hw'; clear hw'; go_simp; (try with_reducible rfl)
  (try simp only [Act.put, List.setIfInBounds_toArray, List.set_cons_zero, List.set_cons_succ])
  refine takeE 1 rfl (by kernel_rfl) (by kernel_rfl) (by kernel_rfl) (fun _ _ _ h => h) rfl (v := ?_) ?_ ?_
  rotate_left
  · intro w' hw'; clear hw'; go_simp; (try with_reducible rfl)
  (try simp only [Act.put, List.setIfInBounds_toArray, List.set_cons_zero, List.set_cons_succ])
  refine takeE 2 rfl (by kernel_rfl) (by kernel_rfl) (by kernel_rfl) (fun _ _ _ h => h) rfl (v := ?_) ?_ ?_
  rotate_left
  · intro w' hw'; clear hw'; go_simp; (try with_reducible rfl)
  (try simp only [Act.put, List.setIfInBounds_toArray, List.set_cons_zero, List.set_cons_succ])
  refine takeE 3 rfl (by kernel_rfl) (by kernel_rfl) (by kernel_rfl) (fun _ _ _ h => h) rfl (v := ?_) ?_ ?_
  rotate_left
  · intro w' hw'; have h := cell_below (grown_none hw') (PT.cell32 hvd1); clear hw'; go_simp; (try with_reducible rfl)
  (try simp only [Act.put, List.setIfInBounds_toArray, List.set_cons_zero, List.set_cons_succ])
  refine stepE 4 rfl (by kernel_rfl) rfl (fun K hK => ?_)
  (go_simp; (with_reducible refine (Put32_any _ p.hash p.birth.toNat _ (PT.rb_hash hvd1) (by rw [p.hl]; omega) p.birth.toNat_lt).mono ?_); rintro e w3 ⟨v3, rfl, ho3, hb3⟩; refine K_out hK hb3 ?_; clear K hK; replace hvd1 := hvd1.below hb3; replace hvd2 := hvd2.below hb3; replace hbd := below_two hbd hbd.size hb3; clear hb3)
  (try simp only [Act.put, List.setIfInBounds_toArray, List.set_cons_zero, List.set_cons_succ])
  refine takeE 5 rfl (by kernel_rfl) (by kernel_rfl) (by kernel_rfl) (fun _ _ _ h => h) rfl (v := ?_) ?_ ?_
  rotate_left
  · intro w' hw'; clear hw'; go_simp; (try with_reducible rfl)
  (try simp only [Act.put, List.setIfInBounds_toArray, List.set_cons_zero, List.set_cons_succ])
  refine doneE (by kernel_rfl) ?_
  go_wp2_with fail
  have hvd1' : VA w3.drew w.heap.size 33 p.cells := hvd1
  have hvd2' : VA w3.drew w1.heap.size 40 ((List.replicate 44 (0 : UInt8)).map cb) := hvd2
  have hbd' : Below w.heap.size w w3.drew := hbd.drew
  have ho3' := ho3.drew
  clear hvd1 hvd2 hbd ho3
  refine startE (some w1.heap.size) (by kernel_rfl) ?_
  refine takeE 0 rfl (by kernel_rfl) (by kernel_rfl) (by kernel_rfl) (fun _ _ _ h => h) rfl (v := ?_) ?_ ?_
  rotate_left
  · intro w' hw'; clear hw'; go_simp; (try with_reducible rfl)
  (try simp only [Act.put, List.setIfInBounds_toArray, List.set_cons_zero, List.set_cons_succ])
  refine takeE 1 rfl (by kernel_rfl) (by kernel_rfl) (by kernel_rfl) (fun _ _ _ h => h) rfl (v := ?_) ?_ ?_
  rotate_left
  · intro w' hw'; clear hw'; go_simp; (try with_reducible rfl)
  (try simp only [Act.put, List.setIfInBounds_toArray, List.set_cons_zero, List.set_cons_succ])
  refine takeE 2 rfl (by kernel_rfl) (by kernel_rfl) (by kernel_rfl) (fun _ _ _ h => h) rfl (v := ?_) ?_ ?_
  rotate_left
  · intro w' hw'; clear hw'; go_simp; (try with_reducible rfl)
  (try simp only [Act.put, List.setIfInBounds_toArray, List.set_cons_zero, List.set_cons_succ])
  refine takeE 3 rfl (by kernel_rfl) (by kernel_rfl) (by kernel_rfl) (fun _ _ _ h => h) rfl (v := ?_) ?_ ?_
  rotate_left
  · intro w' hw'; have h := hw'.cell (PT.cell33 hvd1') (by simp; omega); clear hw'; go_simp; (try with_reducible rfl)
  (try simp only [Act.put, List.setIfInBounds_toArray, List.set_cons_zero, List.set_cons_succ])
  refine takeE 5 rfl (by kernel_rfl) (by kernel_rfl) (by kernel_rfl) (fun _ _ _ h => h) rfl (v := ?_) ?_ ?_
  rotate_left
  · intro w' hw'; clear hw'; go_simp; (try with_reducible rfl)
  (try simp only [Act.put, List.setIfInBounds_toArray, List.set_cons_zero, List.set_cons_succ])
  refine takeE 6 rfl (by kernel_rfl) (by kernel_rfl) (by kernel_rfl) (fun _ _ _ h => h) rfl (v := ?_) ?_ ?_
  rotate_left
  · intro w' hw'; clear hw'; go_simp; (try with_reducible rfl)
  (try simp only [Act.put, List.setIfInBounds_toArray, List.set_cons_zero, List.set_cons_succ])
  refine takeE 7 rfl (by kernel_rfl) (by kernel_rfl) (by kernel_rfl) (fun _ _ _ h => h) rfl (v := ?_) ?_ ?_
  rotate_left
  · intro w' hw'; have h := hw'.cell (PT.cell34 hvd1') (by simp; omega); clear hw'; go_simp; (try with_reducible rfl)
  (try simp only [Act.put, List.setIfInBounds_toArray, List.set_cons_zero, List.set_cons_succ])
  refine stepE 4 rfl (by kernel_rfl) rfl (fun K hK => ?_)
  (go_simp; (with_reducible refine (Put32_any _ _ p.a0.toNat _ ho3'.reads (by simp [p.hl, put32L]) p.a0.toNat_lt).mono ?_); rintro e w4 ⟨v4, rfl, ho4, hb4⟩; refine K_out hK hb4 ?_; clear K hK; replace hvd1' := hvd1'.below hb4; replace hvd2' := hvd2'.below hb4; replace hbd' := below_two hbd' hbd'.size hb4; clear hb4 ho3')
  (try simp only [Act.put, List.setIfInBounds_toArray, List.set_cons_zero, List.set_cons_succ])
  refine stepE 8 rfl (by kernel_rfl) rfl (fun K hK => ?_)
  (go_simp; (with_reducible refine (Put32_any _ _ p.a1.toNat _ ho4.reads (by simp [p.hl, put32L]) p.a1.toNat_lt).mono ?_); rintro e w5 ⟨v5, rfl, ho5, hb5⟩; refine K_out hK hb5 ?_; clear K hK; obtain ⟨g, c, rfl, hg1, hg2⟩ := OB.shape ho5 (encL_length p) (by decide); have hne2 : g ≠ w1.heap.size := (by have := hvd2'.lt; omega); replace hvd1' := hvd1'.below hb5; replace hvd2' := hvd2'.below hb5; replace hbd' := below_two hbd' hbd'.size hb5; clear hb5 ho4 ho5)
  (try simp only [Act.put, List.setIfInBounds_toArray, List.set_cons_zero, List.set_cons_succ])
  refine takeE 9 rfl (by kernel_rfl) (by kernel_rfl) (by kernel_rfl) (fun _ _ _ h => h) rfl (v := ?_) ?_ ?_
  rotate_left
  · intro w' hw'; refine Eq.trans (exec_arrptr 40 _ rfl 44 _ Try.underlying40 _ 44 c rfl (Nat.le_refl _)) ?_; with_reducible rfl
  (try simp only [Act.put, List.setIfInBounds_toArray, List.set_cons_zero, List.set_cons_succ])
  refine takeE 10 rfl (by kernel_rfl) (by kernel_rfl) (by kernel_rfl) (fun _ _ _ h => h) rfl (v := ?_) ?_ ?_
  rotate_left
  · intro w' hw'; refine Eq.trans (exec_load 40 _ rfl g 0 rfl ((encL p).map cb) _ (fun j v hv => hw'.cell (hg2 j v hv) (by simpa using hne2)) Try.underlying40 rfl (by rw [List.length_map, encL_length]; kernel_rfl)) ?_; with_reducible rfl
  (try simp only [Act.put, List.setIfInBounds_toArray, List.set_cons_zero, List.set_cons_succ])
  refine stepE 11 rfl (by kernel_rfl) rfl (fun K hK => ?_)
  (refine opStore 40 _ _ rfl w1.heap.size rfl ((encL p).map cb) _ rfl _ hvd2' (by rw [List.length_map, encL_length]; kernel_rfl) (by simp [encL_length]) (one_u8 _) ?_; intro w6 hv6 hg6; refine hK.out _ _ hg6 ?_; clear K hK)
  (try simp only [Act.put, List.setIfInBounds_toArray, List.set_cons_zero, List.set_cons_succ])
  refine doneE (by kernel_rfl) ?_
  have hb6 := hbd'.grown hg6 hbd'.size (fun k hk => by cases hk; omega)
  go_wp2_with fail
  refine bodyPost_ret (results_cell rfl _ hv6 rfl _ Try.underlying40 rfl (by rw [List.length_map, encL_length]; kernel_rfl)) rfl ?_
  exact ⟨rfl, hb6⟩
end Go.Proofs.Ythogefehainmdab
