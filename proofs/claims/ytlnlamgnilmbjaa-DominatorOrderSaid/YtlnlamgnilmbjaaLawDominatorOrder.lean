/- The order of a graph is the reference's order. -/
import Derived.Test.YtlnlamgnilmbjaaRows
import Derived.Test.YtlnlamgnilmbjaaARead
import Derived.Test.YtlnlamgnilmbjaaPureDominatorOrder
import Derived.WalkKit
import Derived.ProofKit
import Derived.OpenShut
import Derived.ShutString
import Derived.ChangeOld
import Derived.Below
import Derived.SizedLaws
import Derived.Lib.SmallJoins
namespace Go.Proofs.Ytlnlamgnilmbjaa.dominatorOrder
open Go.ChangeShapes Go.WideShapes Go.ChangeAt Go.RowKit Go.Joins Go.Proofs.Ytlnlamgnilmbjaa.Q Go.Proofs.YtlnlamgnilmbjaaW.PrintWords
set_option linter.unusedVariables false
theorem own : ownKnob Try.prog.godebug = none := by kernel_rfl
theorem laidOut : laidOutB Try.prog = true := by kernel_rfl
set_option maxRecDepth 100000 in
theorem lifted (os : Os) (started : os.Started) (H : Type) (enc : TypeId × Value → H) :
    ReturnsInHanded {} Try.checked os 6 .any (Rows.dominatorOrderSpec.pre6 enc Try.prog Try.f6 Rows.dominatorOrderRow.domain false) (Rows.dominatorOrderSpec.post enc Try.prog Try.f6 false true false false) := by
  refine returnsInHanded_of_change_sized (C := Try.checked) own started (by kernel_rfl) Try.func6
    (ChangeSpec.witness6 (enc := enc) (C := Try.checked) false ⟨#[], #[.agg #[.slice none 0 0, .slice none 0 0]], []⟩ 8 (by kernel_rfl) (by kernel_rfl) (by kernel_rfl) (by kernel_rfl)) ?_
  intro W base args ds gs before hval0 hW hcnd hsz0 _
  have hval : ∀ (j : Nat) t v, Try.f6.params[j]? = some t → args[j]? = some v → Value.okWide Try.prog W .any base t v := hval0
  have hW' := hW
  obtain ⟨p, q, hA0, hV, rfl, hfz, hnd⟩ := hW
  have hA : DataW.TrodAll enc Try.prog W 0 (fun _ => true) true Try.f6.params.toList args.toList ds p := hA0
  rw [Try.params6] at hA hval
  obtain ⟨v0, vs0, d0, ds0, p0, q0, hargs, rfl, rfl, h0, r0⟩ := trodAll_cons hA
  obtain ⟨rfl, rfl, rfl⟩ := trodAll_nil r0
  obtain rfl : args = #[v0] := by cases args; simp_all
  obtain ⟨rfl, rfl⟩ := trodVars_none hV
  have k0 := h0
  have lt0 : ∀ x ∈ p0, x.block < W.heap.size := by obtain ⟨m, hm⟩ := k0; exact DataW.trod_lt m _ _ _ hm
  obtain ⟨cs0, rfl, _⟩ := okWide_struct Try.underlying25 (hval 0 25 v0 rfl rfl)
  obtain ⟨g0, hK0, hg0⟩ := rdGraph W H enc _ _ _ h0.choose_spec
  obtain ⟨A00, c00, A01, c01, hcs0, l00, C00, l01, C01⟩ := k25_open hK0
  obtain rfl : cs0 = #[.slice A00 g0.f0.length c00, .slice A01 g0.f1.length c01] := by apply Array.ext'; simpa [Value.cells] using hcs0
  obtain ⟨k, hk⟩ := Pure.DominatorOrder g0.f0 g0.f1 hg0
  clear hA0 hval0 hsz0
  refine (ontimelaw25_DominatorOrder.calls k A00 c00 g0.f0 A01 c01 g0.f1 true W C00 l00 C01 l01 hk).mono fun e W' ⟨he, bel⟩ => ?_
  subst he
  exact ⟨_, rfl, _, _, _, [], _, [], hW', trodAll_mk1 (shut_bool Try.underlying4 _), (trodAll_cons_mk (Below.trod laidOut (by kernel_rfl) (of_decide_eq_true (by kernel_rfl)) k0 bel lt0) trodAll_mk0), rfl, bel.frame _, fun h => by cases h⟩
theorem over : Rows.dominatorOrderRow.holds Try.pinned (OpenSpec.ofChange Rows.dominatorOrderSpec) :=
  OpenClaim.holds_of_wide 6 Try.f6 rfl rfl rfl rfl rfl rfl rfl ⟨rfl, rfl, rfl, rfl, rfl⟩ rfl rfl rfl rfl rfl (by kernel_rfl) Try.func6 (by kernel_rfl)
    (of_decide_eq_true (by kernel_rfl)) (by unfold Func.isWrapper; first | (rw [if_pos (by decide +kernel)]; kernel_rfl) | (rw [if_neg (by decide +kernel)]; exact ⟨rfl, rfl⟩))
    (fun os started H enc _ => lifted os started H enc)
theorem proved : Rows.DominatorOrderSaid := over
#print axioms proved
end Go.Proofs.Ytlnlamgnilmbjaa.dominatorOrder
namespace Go.Proofs.Ytlnlamgnilmbjaa
/-- The row, under a short name, for the claim. -/
theorem dominatorOrder_holds : Rows.DominatorOrderSaid := dominatorOrder.proved
end Go.Proofs.Ytlnlamgnilmbjaa
