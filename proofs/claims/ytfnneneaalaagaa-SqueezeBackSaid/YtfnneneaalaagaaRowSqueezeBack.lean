/- The statement SqueezeBack holds: for every input the law returns true, and the input reads as it did. No condition. -/
import Derived.Test.YtfnneneaalaagaaRows
import Derived.Test.YtfnneneaalaagaaLaw28b
import Derived.Test.YtfnneneaalaagaaRowKit
namespace Go.Proofs.Ytfnneneaalaagaa.squeezeBack
open Go.ChangeShapes Go.WideShapes Go.ChangeAt Go.RowKit
open Go.ChangeMaps (open_string shut_string)
set_option linter.unusedVariables false
theorem own : ownKnob Try.prog.godebug = none := by kernel_rfl
theorem laidOut : laidOutB Try.prog = true := by kernel_rfl
set_option maxRecDepth 100000 in
theorem lifted (os : Os) (started : os.Started) (H : Type) (enc : TypeId × Value → H) :
    ReturnsInHanded {} Try.checked os 5 .any (Rows.squeezeBackSpec.pre6 enc Try.prog Try.f5 Rows.squeezeBackRow.domain false) (Rows.squeezeBackSpec.post enc Try.prog Try.f5 false true false false) := by
  refine returnsInHanded_of_change_sized (C := Try.checked) own started (by kernel_rfl) Try.func5
    (ChangeSpec.witness6 (enc := enc) (C := Try.checked) false ⟨#[], #[.slice none 0 0, .int .i64 0], []⟩ 8 (by kernel_rfl) (by kernel_rfl) (by kernel_rfl) (by kernel_rfl)) ?_
  intro W base args ds gs before hval0 hW hcnd hsz0 _
  have hval : ∀ (j : Nat) t v, Try.f5.params[j]? = some t → args[j]? = some v → Value.okWide Try.prog W .any base t v := hval0
  have hW' := hW
  obtain ⟨p, q, hA0, hV, rfl, hfz, hnd⟩ := hW
  have hA : DataW.TrodAll enc Try.prog W 0 (fun _ => true) true Try.f5.params.toList args.toList ds p := hA0
  rw [Try.params5] at hA hval
  obtain ⟨v0, vs0, d0, ds0, p0, q0, hargs, rfl, rfl, h0, r0⟩ := trodAll_cons hA
  obtain ⟨v1, vs1, d1, ds1, p1, q1, rfl, rfl, rfl, h1, r1⟩ := trodAll_cons r0
  obtain ⟨rfl, rfl, rfl⟩ := trodAll_nil r1
  obtain rfl : args = #[v0, v1] := by cases args; simp_all
  obtain ⟨rfl, rfl⟩ := trodVars_none hV
  obtain ⟨a0, len0, cap0, rfl⟩ := okWide_slice Try.underlying22 (hval 0 22 v0 rfl rfl)
  have lt0 : ∀ x ∈ p0, x.block < W.heap.size := by obtain ⟨m, hm⟩ := h0; exact DataW.trod_lt m _ _ _ hm
  obtain ⟨s0, rd0⟩ := open_bytes Try.underlying22 Try.underlying5 (by kernel_rfl) h0
  obtain ⟨v0, hv0⟩ : ∃ v, v = Value.slice a0 len0 cap0 := ⟨_, rfl⟩
  rw [← hv0] at rd0
  obtain ⟨a1, rfl, rfl, rfl, z1⟩ := open_int Try.underlying3 (hval 1 3 v1 rfl rfl) h1
  obtain ⟨n1, hn1⟩ : ∃ n, n = a1 := ⟨_, rfl⟩
  subst hn1
  have w1 := wf_i64 z1
  clear hA0 hval0 hsz0
  have hcall := (SqueezeBack_any v0 s0 n1 W rd0 w1)
  rw [hv0] at hcall
  refine hcall.mono fun e W' ⟨he, bel⟩ => ?_
  subst he
  exact ⟨_, rfl, _, _, _, [], _, [], hW', trodAll_mk1 (shut_bool Try.underlying4 _), (trodAll_cons_mk (Below.trod laidOut (by kernel_rfl) (of_decide_eq_true (by kernel_rfl)) h0 bel lt0) (trodAll_cons_mk (shut_int Try.underlying3 z1) trodAll_mk0)), rfl, bel.frame _, fun h => by cases h⟩
theorem over : Rows.squeezeBackRow.holds Try.pinned (OpenSpec.ofChange Rows.squeezeBackSpec) :=
  OpenClaim.holds_of_wide 5 Try.f5 rfl rfl rfl rfl rfl rfl rfl ⟨rfl, rfl, rfl, rfl, rfl⟩ rfl rfl rfl rfl rfl (by kernel_rfl) Try.func5 (by kernel_rfl)
    (of_decide_eq_true (by kernel_rfl)) (by unfold Func.isWrapper; first | (rw [if_pos (by decide +kernel)]; kernel_rfl) | (rw [if_neg (by decide +kernel)]; exact ⟨rfl, rfl⟩))
    (fun os started H enc _ => lifted os started H enc)
theorem proved : Rows.SqueezeBackSaid := over
end Go.Proofs.Ytfnneneaalaagaa.squeezeBack
namespace Go.Proofs.Ytfnneneaalaagaa
/-- The row, under a short name, for the claim. -/
theorem squeezeBack_holds : Rows.SqueezeBackSaid := squeezeBack.proved
end Go.Proofs.Ytfnneneaalaagaa
