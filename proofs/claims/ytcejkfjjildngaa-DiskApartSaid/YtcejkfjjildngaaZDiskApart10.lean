/- The statement DiskApart over numbers and lists: a file that was synced is as it was, whatever is done to others. -/
import Derived.Test.YtcejkfjjildngaaRows
import Derived.Test.YtcejkfjjildngaaZDiskApart8
import Derived.Test.YtcejkfjjildngaaZDiskApart9
import Derived.WalkKit
import Derived.ProofKit
import Derived.OpenShut
import Derived.ShutString
import Derived.ChangeOld
import Derived.Below
import Derived.SizedLaws
import Derived.Lib.SmallJoins
section
namespace Go.Proofs.Ytcejkfjjildngaa.diskApart
open Go.ChangeShapes Go.WideShapes Go.ChangeAt Go.RowKit Go.Proofs.Ytcejkfjjildngaa Go.Proofs.Ytcejkfjjildngaa.G Go.Proofs.YtcejkfjjildngaaW.PrintWords Go.Proofs.YtcejkfjjildngaaW.PrintLast Go.Proofs.YtcejkfjjildngaaW.PrintMore
open Go.ChangeMaps (open_string shut_string)
set_option linter.unusedVariables false
set_option linter.unusedSimpArgs false
theorem own : ownKnob Try.prog.godebug = none := by kernel_rfl
theorem laidOut : laidOutB Try.prog = true := by kernel_rfl
set_option maxRecDepth 100000 in
theorem lifted (os : Os) (started : os.Started) (H : Type) (enc : TypeId × Value → H) :
    ReturnsInHanded {} Try.checked os 3 .any (Rows.diskApartSpec.pre6 enc Try.prog Try.f3 Rows.diskApartRow.domain false) (Rows.diskApartSpec.post enc Try.prog Try.f3 false true false false) := by
  refine returnsInHanded_of_change_sized (C := Try.checked) own started (by kernel_rfl) Try.func3
    (ChangeSpec.witness6 (enc := enc) (C := Try.checked) false ⟨#[], #[.int .i64 0, .slice none 0 0, .slice none 0 0], []⟩ 8 (by kernel_rfl) (by kernel_rfl) (by kernel_rfl) (by kernel_rfl)) ?_
  intro W base args ds gs before hval0 hW hcnd hsz0 _
  have hsz : (DataW.weightsEach Try.prog (Try.f3.params.toList ++ Rows.diskApartSpec.plain.varTypes Try.prog) (ds ++ gs)).all (· ≤ reachBytes) = true := hsz0
  have hval : ∀ (j : Nat) t v, Try.f3.params[j]? = some t → args[j]? = some v → Value.okWide Try.prog W .any base t v := hval0
  have hW' := hW
  obtain ⟨p, q, hA0, hV, rfl, hfz, hnd⟩ := hW
  have hA : DataW.TrodAll enc Try.prog W 0 (fun _ => true) true Try.f3.params.toList args.toList ds p := hA0
  rw [Try.params3] at hA hval hsz
  obtain ⟨v0, vs0, d0, ds0, p0, q0, hargs, rfl, rfl, h0, r0⟩ := trodAll_cons hA
  obtain ⟨v1, vs1, d1, ds1, p1, q1, rfl, rfl, rfl, h1, r1⟩ := trodAll_cons r0
  obtain ⟨v2, vs2, d2, ds2, p2, q2, rfl, rfl, rfl, h2, r2⟩ := trodAll_cons r1
  obtain ⟨rfl, rfl, rfl⟩ := trodAll_nil r2
  obtain rfl : args = #[v0, v1, v2] := by cases args; simp_all
  obtain ⟨rfl, rfl⟩ := trodVars_none hV
  obtain ⟨a0, rfl, rfl, rfl, hg0⟩ := open_int Try.underlying3 (hval 0 3 v0 rfl rfl) h0
  have k1 := h1
  have lt1 : ∀ x ∈ p1, x.block < W.heap.size := by obtain ⟨m, hm⟩ := k1; exact DataW.trod_lt m _ _ _ hm
  obtain ⟨A1, len1, cap1, rfl⟩ := okWide_slice Try.underlying22 (hval 1 22 v1 rfl rfl)
  have q1 := Op.lite_arg hsz (j := 1) (t := 22) rfl rfl
  obtain ⟨l1, rfl, hc1, hk1, hr1, hg1⟩ := Op.open_arg Try.underlying22 (by kernel_rfl) (by kernel_rfl : _ = 1) (Op.opens_int Try.underlying5) q1 h1
  have k2 := h2
  have lt2 : ∀ x ∈ p2, x.block < W.heap.size := by obtain ⟨m, hm⟩ := k2; exact DataW.trod_lt m _ _ _ hm
  obtain ⟨A2, len2, cap2, rfl⟩ := okWide_slice Try.underlying23 (hval 2 23 v2 rfl rfl)
  have q2 := Op.lite_arg hsz (j := 2) (t := 23) rfl rfl
  obtain ⟨l2, rfl, hc2, hk2, hr2, hg2⟩ := Op.open_arg Try.underlying23 (by kernel_rfl) (by kernel_rfl : _ = 72) (Op.opens_iso (fun x : S34 => (x.f0, x.f1, x.f2, x.f3, x.f4)) (fun p => (⟨p.1, p.2.1, p.2.2.1, p.2.2.2.1, p.2.2.2.2⟩ : S34)) (fun _ => rfl) (Op.opens_struct Try.underlying34 (by kernel_rfl) (Op.opensF_cons rfl (by kernel_rfl) (Op.opens_int Try.underlying3) (Op.opensF_cons rfl (by kernel_rfl) (Op.opens_str Try.underlying9) (Op.opensF_cons rfl (by kernel_rfl) (Op.opens_str Try.underlying9) (Op.opensF_cons rfl (by kernel_rfl) (Op.opens_slice Try.underlying22 (by kernel_rfl) (by kernel_rfl : _ = 1) (Op.opens_int Try.underlying5)) (Op.opensF_one rfl (by kernel_rfl) (Op.opens_int Try.underlying3)))))))) q2 h2
  clear hA0 hval0 hsz0 hsz
  have h := Pure.DiskApart a0 l1 l2 hg0 hg1 hg2
  refine (rosettelaw19_DiskApart.calls a0 A1 cap1 l1 A2 cap2 l2 true W hr1 hc1 hr2 hc2 h).mono fun e W' ⟨he, bel⟩ => ?_
  subst he
  exact ⟨_, rfl, _, _, _, [], _, [], hW', trodAll_mk1 (shut_bool Try.underlying4 _), (trodAll_cons_mk (shut_int Try.underlying3 hg0) (trodAll_cons_mk (Below.trod laidOut (by kernel_rfl) (of_decide_eq_true (by kernel_rfl)) k1 bel lt1) (trodAll_cons_mk (Below.trod laidOut (by kernel_rfl) (of_decide_eq_true (by kernel_rfl)) k2 bel lt2) trodAll_mk0))), rfl, bel.frame _, fun h => by cases h⟩
theorem over : Rows.diskApartRow.holds Try.pinned (OpenSpec.ofChange Rows.diskApartSpec) :=
  OpenClaim.holds_of_wide 3 Try.f3 rfl rfl rfl rfl rfl rfl rfl ⟨rfl, rfl, rfl, rfl, rfl⟩ rfl rfl rfl rfl rfl (by kernel_rfl) Try.func3 (by kernel_rfl)
    (of_decide_eq_true (by kernel_rfl)) (by unfold Func.isWrapper; first | (rw [if_pos (by decide +kernel)]; kernel_rfl) | (rw [if_neg (by decide +kernel)]; exact ⟨rfl, rfl⟩))
    (fun os started H enc _ => lifted os started H enc)
theorem proved : Rows.DiskApartSaid := over
#print axioms proved
end Go.Proofs.Ytcejkfjjildngaa.diskApart
namespace Go.Proofs.Ytcejkfjjildngaa
/-- The row, under a short name, for the claim. -/
theorem diskApart_holds : Rows.DiskApartSaid := diskApart.proved
end Go.Proofs.Ytcejkfjjildngaa
end
