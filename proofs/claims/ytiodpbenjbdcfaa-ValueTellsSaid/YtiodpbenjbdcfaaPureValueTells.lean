import Derived.Test.YtiodpbenjbdcfaaRowValueTells
import Derived.Test.YtiodpbenjbdcfaaValPut
set_option linter.unusedVariables false
namespace Go.Proofs.Ytiodpbenjbdcfaa.Pure
open Go.RowKit Go.Proofs.Ytiodpbenjbdcfaa.G Go.Proofs.Ytiodpbenjbdcfaa Go.Proofs.YtiodpbenjbdcfaaW.PrintWords Go.Proofs.YtiodpbenjbdcfaaW.PrintLast Go.Proofs.YtiodpbenjbdcfaaW.PrintMore
theorem ValueTells : rosettelaw04_ValueTells.Pure := by
  intro k i t k' i' t' l hk hi ht hk' hi' ht' _ hl _
  have bi := Go.bounds_i64 hi
  have htb : ∀ K, rosettelaw04_ValueTells.j0 (K + 1) l true true k i t k' i' t' = some true := fun K => by unfold rosettelaw04_ValueTells.j0; rfl
  refine ⟨2 * t.size + 8, ?_⟩
  unfold rosettelaw04_ValueTells.f
  refine (bind_of (show rosettelaw04_small.f = some true from rfl)).trans ?_
  by_cases h1 : (t.size : Int) > 300
  · rw [if_pos h1]; exact htb _
  rw [if_neg h1]
  by_cases h2 : (t'.size : Int) > 300
  · rw [if_pos h2]; exact htb _
  rw [if_neg h2]
  by_cases h3 : (l.length : Int) > 300
  · rw [decide_eq_true h3]; exact htb _
  rw [decide_eq_false h3]
  show rosettelaw04_ValueTells.j0 (2 * t.size + 7 + 1) l true false k i t k' i' t' = some true
  rw [rosettelaw04_ValueTells.j0]
  rw [if_neg (by decide), if_pos rfl]
  refine (bind_of (right_f k i t (by omega) (by omega))).trans ?_
  refine (bind_of (rright_f k i t)).trans ?_
  rw [if_pos (by simp)]
  refine (bind_of (compare_f (2 * t.size + 7) (by omega) k i t k' i' t')).trans ?_
  refine (bind_of (rcompare_f (2 * t.size + 7) k i t k' i' t' (by omega) (by omega))).trans ?_
  rw [if_pos rfl]
  refine (bind_of (put_val l k i t (by omega) (by omega) (by omega))).trans ?_
  refine (bind_of (rput_val l k i t (by omega) (by omega) (by omega))).trans ?_
  simp
end Go.Proofs.Ytiodpbenjbdcfaa.Pure
