/- The statement LabelBack holds: for every input the law returns true, and the input reads as it did. No condition. -/
import Derived.Test.YticfcelbnkiopaaDoorRows
import Derived.Test.YticfcelbnkiopaaDoorCards
import Derived.Test.YticfcelbnkiopaaDoorTie
import Derived.LaidMore
import Derived.Lay
import Derived.LaidLaws
import Derived.SevenTiedAt
import Derived.Stop.Joined
import Derived.Test.YticfcelbnkiopaaDoorBL6
namespace Go.Proofs.YticfcelbnkiopaaDoor.labelBack
open Go.ChangeShapes Go.WideShapes Go.ChangeAt Go.RowKit
open Go.ChangeMaps (open_string shut_string)
set_option linter.unusedVariables false
theorem own : ownKnob Tryd.prog.godebug = none := by kernel_rfl
theorem laidOut : laidOutB Tryd.prog = true := by kernel_rfl
set_option maxRecDepth 100000 in
theorem lifted (os : Os) (started : os.Started) (H : Type) (enc : TypeId × Value → H) :
    ReturnsInHanded {} Tryd.checked os 9 .any (fun w args => (Rows.labelBackSpec.pre enc Tryd.prog Tryd.f9 Rows.labelBackRow.domain false w args ∧ laidMetH Tryd.prog Rows.labelBackRow.laid w) ∧ sizedMet enc Tryd.prog Tryd.f9 (OpenSpec.ofChange Rows.labelBackSpec) false w args) (Rows.labelBackSpec.post enc Tryd.prog Tryd.f9 false true false false) := by
  refine returnsInHanded_of_change_and (C := Tryd.checked) (X := fun w _ => laidMetH Tryd.prog Rows.labelBackRow.laid w) (fun _ _ _ hh h => h.of_heap hh) own started (by kernel_rfl) Tryd.func9
    (ChangeSpec.witness_shaped (enc := enc) (C := Tryd.checked) (os := os) (X := fun w _ => laidMetH Tryd.prog Rows.labelBackRow.laid w) false (World.laidAll Tryd.prog os Rows.labelBackRow.laid) #[.agg (lbC 0 PT.hole (.slice none 0 0)).toArray, .int .i64 0, .int .u8 0] 8 (World.laidAll_os _ _ _)
      (World.shaped_of_ZipB (by kernel_rfl) (by kernel_rfl)) (by kernel_rfl) (by kernel_rfl) (by kernel_rfl)
      (by rw [MakeChecks.laidMetH_plain _ _ _ (by kernel_rfl)]; exact laidMet_laidAll _ (by kernel_rfl) (by kernel_rfl))) ?_
  intro W base args ds gs before hval0 hW hcnd hsz0 hL _
  have hval : ∀ (j : Nat) t v, Tryd.f9.params[j]? = some t → args[j]? = some v → Value.okWide Tryd.prog W .any base t v := hval0
  have hW' := hW
  obtain ⟨p, q, hA0, hV, rfl, hfz, hnd⟩ := hW
  have hA : DataW.TrodAll enc Tryd.prog W 0 (fun _ => true) true Tryd.f9.params.toList args.toList ds p := hA0
  rw [Tryd.params9] at hA hval
  obtain ⟨v0, vs0, d0, ds0, p0, q0, hargs, rfl, rfl, h0, r0⟩ := trodAll_cons hA
  obtain ⟨v1, vs1, d1, ds1, p1, q1, rfl, rfl, rfl, h1, r1⟩ := trodAll_cons r0
  obtain ⟨v2, vs2, d2, ds2, p2, q2, rfl, rfl, rfl, h2, r2⟩ := trodAll_cons r1
  obtain ⟨rfl, rfl, rfl⟩ := trodAll_nil r2
  obtain rfl : args = #[v0, v1, v2] := by cases args; simp_all
  obtain ⟨rfl, rfl⟩ := trodVars_none hV
  have lt0 : ∀ x ∈ p0, x.block < W.heap.size := by obtain ⟨m, hm⟩ := h0; exact DataW.trod_lt m _ _ _ hm
  obtain ⟨u0, g0, A0, s0, cp0, hv0, rd0⟩ := open_lab h0 (hval 0 80 v0 rfl rfl)
  obtain ⟨a1, rfl, rfl, rfl, z1⟩ := open_int Tryd.underlying3 (hval 1 3 v1 rfl rfl) h1
  obtain ⟨n1, hn1⟩ : ∃ n, n = a1 := ⟨_, rfl⟩
  subst hn1
  have w1 := wf_i64 z1
  obtain ⟨a2, rfl, rfl, rfl, z2⟩ := open_int Tryd.underlying5 (hval 2 5 v2 rfl rfl) h2
  obtain ⟨x2, hx2⟩ := wf_u8 z2
  subst hx2
  clear hA0 hval0 hsz0
  have hcall := (LabelBack_any u0 g0 A0 cp0 s0 n1 x2 W rd0)
  rw [← hv0] at hcall
  refine hcall.mono fun e W' ⟨he, bel⟩ => ?_
  subst he
  exact ⟨_, rfl, _, _, _, [], _, [], hW', trodAll_mk1 (shut_bool Tryd.underlying4 _), (trodAll_cons_mk (Below.trod laidOut (by kernel_rfl) (of_decide_eq_true (by kernel_rfl)) h0 bel lt0) (trodAll_cons_mk (shut_int Tryd.underlying3 z1) (trodAll_cons_mk (shut_int Tryd.underlying5 z2) trodAll_mk0))), rfl, bel.frame _, fun h => by cases h⟩
theorem over : Rows.labelBackRow.holds Tryd.pinned (OpenSpec.ofChange Rows.labelBackSpec) :=
  OpenClaim.holds_of_wide 9 Tryd.f9 rfl rfl rfl rfl rfl rfl rfl ⟨rfl, rfl, rfl, rfl, rfl⟩ rfl rfl rfl rfl rfl (by kernel_rfl) Tryd.func9 (by kernel_rfl)
    (of_decide_eq_true (by kernel_rfl)) (by unfold Func.isWrapper; first | (rw [if_pos (by decide +kernel)]; kernel_rfl) | (rw [if_neg (by decide +kernel)]; exact ⟨rfl, rfl⟩))
    (fun os started H enc _ => lifted os started H enc)
theorem proved : Rows.LabelBackCardSaid :=
  Claim7.holds_tied_plain_at .later [] [.data, .pinned] true (true, "06d786d11061e47345cb0c0b6bccbf52cbe688d45df15c45c3e76c93cfeea9da") false over (fun _ h => by cases h) (by kernel_rfl) (fun _ h => by cases h) labelBack_row_tie rfl ⟨rfl, rfl⟩ (by kernel_rfl) rfl
    (fun f fn hf hfn => by
      obtain rfl : f = 9 := Option.some.inj ((show Tryd.prog.funcNamed "cautery/cauterylaw07.LabelBack" = some 9 by kernel_rfl).symm.trans hf) |>.symm
      obtain rfl : fn = Tryd.f9 := (Option.some.inj (Tryd.func9.symm.trans hfn)).symm
      exact ⟨by kernel_rfl, fun j t ht => by
        rw [Tryd.params9] at ht
        have hm : t ∈ [80, 3, 5] := by simpa using Array.mem_of_getElem? ht
        have hall : ([80, 3, 5].all fun u => !Tryd.prog.wantsStandIn u) = true := by kernel_rfl
        exact (show Tryd.prog.wantsStandIn t = false by simpa using List.all_eq_true.1 hall t hm)⟩)
    (by kernel_rfl)
end Go.Proofs.YticfcelbnkiopaaDoor.labelBack
namespace Go.Proofs.YticfcelbnkiopaaDoor
/-- The row, under a short name, for the claim. -/
theorem labelBack_holds : Rows.LabelBackCardSaid := labelBack.proved
end Go.Proofs.YticfcelbnkiopaaDoor
