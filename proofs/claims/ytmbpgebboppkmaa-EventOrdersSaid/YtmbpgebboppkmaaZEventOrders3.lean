/- The statement EventOrders over numbers and lists: in whatever order attributes are handed in, one event is made of them. -/
import Derived.Test.YtmbpgebboppkmaaRows
import Derived.Test.YtmbpgebboppkmaaZEventOrders1
import Derived.Test.YtmbpgebboppkmaaZEventOrders2
import Derived.WalkKit
import Derived.ProofKit
import Derived.OpenShut
import Derived.ShutString
import Derived.ChangeOld
import Derived.Below
import Derived.SizedLaws
import Derived.Lib.SmallJoins
section
namespace Go.Proofs.Ytmbpgebboppkmaa.eventOrders
open Go.ChangeShapes Go.WideShapes Go.ChangeAt Go.RowKit Go.Proofs.Ytmbpgebboppkmaa Go.Proofs.Ytmbpgebboppkmaa.G Go.Proofs.YtmbpgebboppkmaaW.PrintWords Go.Proofs.YtmbpgebboppkmaaW.PrintLast Go.Proofs.YtmbpgebboppkmaaW.PrintMore
open Go.ChangeMaps (open_string shut_string)
set_option linter.unusedVariables false
set_option linter.unusedSimpArgs false
theorem own : ownKnob Try.prog.godebug = none := by kernel_rfl
theorem laidOut : laidOutB Try.prog = true := by kernel_rfl
set_option maxRecDepth 100000 in
theorem lifted (os : Os) (started : os.Started) (H : Type) (enc : TypeId × Value → H) :
    ReturnsInHanded {} Try.checked os 5 .any (Rows.eventOrdersSpec.pre6 enc Try.prog Try.f5 Rows.eventOrdersRow.domain false) (Rows.eventOrdersSpec.post enc Try.prog Try.f5 false true false false) := by
  refine returnsInHanded_of_change_sized (C := Try.checked) own started (by kernel_rfl) Try.func5
    (ChangeSpec.witness6 (enc := enc) (C := Try.checked) false ⟨#[], #[.slice none 0 0, .int .i64 0], []⟩ 8 (by kernel_rfl) (by kernel_rfl) (by kernel_rfl) (by kernel_rfl)) ?_
  intro W base args ds gs before hval0 hW hcnd hsz0 _
  have hsz : (DataW.weightsEach Try.prog (Try.f5.params.toList ++ Rows.eventOrdersSpec.plain.varTypes Try.prog) (ds ++ gs)).all (· ≤ reachBytes) = true := hsz0
  have hval : ∀ (j : Nat) t v, Try.f5.params[j]? = some t → args[j]? = some v → Value.okWide Try.prog W .any base t v := hval0
  have hW' := hW
  obtain ⟨p, q, hA0, hV, rfl, hfz, hnd⟩ := hW
  have hA : DataW.TrodAll enc Try.prog W 0 (fun _ => true) true Try.f5.params.toList args.toList ds p := hA0
  rw [Try.params5] at hA hval hsz
  obtain ⟨v0, vs0, d0, ds0, p0, q0, hargs, rfl, rfl, h0, r0⟩ := trodAll_cons hA
  obtain ⟨v1, vs1, d1, ds1, p1, q1, rfl, rfl, rfl, h1, r1⟩ := trodAll_cons r0
  obtain ⟨rfl, rfl, rfl⟩ := trodAll_nil r1
  obtain rfl : args = #[v0, v1] := by cases args; simp_all
  obtain ⟨rfl, rfl⟩ := trodVars_none hV
  have k0 := h0
  have lt0 : ∀ x ∈ p0, x.block < W.heap.size := by obtain ⟨m, hm⟩ := k0; exact DataW.trod_lt m _ _ _ hm
  obtain ⟨A0, len0, cap0, rfl⟩ := okWide_slice Try.underlying22 (hval 0 22 v0 rfl rfl)
  have q0 := Op.lite_arg hsz (j := 0) (t := 22) rfl rfl
  obtain ⟨l0, rfl, hc0, hk0, hr0, hg0⟩ := Op.open_arg Try.underlying22 (by kernel_rfl) (by kernel_rfl : _ = 48) (Op.opens_iso (fun x : S32 => (x.f0, x.f1)) (fun p => (⟨p.1, p.2⟩ : S32)) (fun _ => rfl) (Op.opens_struct Try.underlying32 (by kernel_rfl) (Op.opensF_cons rfl (by kernel_rfl) (Op.opens_str Try.underlying9) (Op.opensF_one rfl (by kernel_rfl) (Op.opens_iso (fun x : S30 => (x.f0, x.f1, x.f2)) (fun p => (⟨p.1, p.2.1, p.2.2⟩ : S30)) (fun _ => rfl) (Op.opens_struct Try.underlying30 (by kernel_rfl) (Op.opensF_cons rfl (by kernel_rfl) (Op.opens_int Try.underlying3) (Op.opensF_cons rfl (by kernel_rfl) (Op.opens_int Try.underlying3) (Op.opensF_one rfl (by kernel_rfl) (Op.opens_str Try.underlying9)))))))))) q0 h0
  obtain ⟨a1, rfl, rfl, rfl, hg1⟩ := open_int Try.underlying3 (hval 1 3 v1 rfl rfl) h1
  clear hA0 hval0 hsz0 hsz
  obtain ⟨k, h⟩ := Pure.EventOrders l0 a1 hg0 hg1
  refine (rosettelaw05_EventOrders.calls k A0 cap0 l0 a1 true W hr0 hc0 h).mono fun e W' ⟨he, bel⟩ => ?_
  subst he
  exact ⟨_, rfl, _, _, _, [], _, [], hW', trodAll_mk1 (shut_bool Try.underlying4 _), (trodAll_cons_mk (Below.trod laidOut (by kernel_rfl) (of_decide_eq_true (by kernel_rfl)) k0 bel lt0) (trodAll_cons_mk (shut_int Try.underlying3 hg1) trodAll_mk0)), rfl, bel.frame _, fun h => by cases h⟩
theorem over : Rows.eventOrdersRow.holds Try.pinned (OpenSpec.ofChange Rows.eventOrdersSpec) :=
  OpenClaim.holds_of_wide 5 Try.f5 rfl rfl rfl rfl rfl rfl rfl ⟨rfl, rfl, rfl, rfl, rfl⟩ rfl rfl rfl rfl rfl (by kernel_rfl) Try.func5 (by kernel_rfl)
    (of_decide_eq_true (by kernel_rfl)) (by unfold Func.isWrapper; first | (rw [if_pos (by decide +kernel)]; kernel_rfl) | (rw [if_neg (by decide +kernel)]; exact ⟨rfl, rfl⟩))
    (fun os started H enc _ => lifted os started H enc)
theorem proved : Rows.EventOrdersSaid := over
#print axioms proved
end Go.Proofs.Ytmbpgebboppkmaa.eventOrders
namespace Go.Proofs.Ytmbpgebboppkmaa
/-- The row, under a short name, for the claim. -/
theorem eventOrders_holds : Rows.EventOrdersSaid := eventOrders.proved
end Go.Proofs.Ytmbpgebboppkmaa
end
