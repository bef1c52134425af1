import Derived.Test.YtiodpbenjbdcfaaRowValueApart
import Derived.Test.YtiodpbenjbdcfaaValPut
set_option linter.unusedVariables false
namespace Go.Proofs.Ytiodpbenjbdcfaa.Pure
open Go.RowKit Go.Proofs.Ytiodpbenjbdcfaa.G Go.Proofs.Ytiodpbenjbdcfaa Go.Proofs.YtiodpbenjbdcfaaW.PrintWords Go.Proofs.YtiodpbenjbdcfaaW.PrintLast Go.Proofs.YtiodpbenjbdcfaaW.PrintMore
theorem vbytes_u8s (k i : Int) (t : ByteArray) (h0 : -9223372036854775808 ≤ i) (h1 : i < 9223372036854775808) : u8s (vbytes k i t) := by
  unfold vbytes
  split
  · rename_i h
    rcases vright_k h with ⟨hk, ht⟩ | ⟨hk, hi, ht⟩ | ⟨hk, ht, hi, hj⟩
    · rw [if_pos hk]; exact u8s_append.2 ⟨put_u8s _ (by decide), put_u8s _ (zig_lt _ h0 h1).1⟩
    · rw [if_neg (by omega), if_pos hk]; exact u8s_append.2 ⟨u8s_append.2 ⟨put_u8s _ (by decide), put_u8s _ (by omega)⟩, bytes_u8s _⟩
    · rw [if_neg (by omega), if_neg (by omega)]; exact u8s_append.2 ⟨put_u8s _ (by decide), put_u8s _ hi⟩
  · exact u8s_nil
theorem strB {a b : List Int} (ha : u8s a) (hb : u8s b) (h : (strOfNums a).toList = (strOfNums b).toList) : a = b := by
  have e : strOfNums a = strOfNums b := by
    rw [ByteArray.toList_eq, ByteArray.toList_eq] at h
    cases h1 : strOfNums a with
    | mk x => cases h2 : strOfNums b with
      | mk y =>
        rw [h1, h2] at h
        cases x; cases y
        simp only at h
        rw [h]
  have := congrArg bytesOf e
  rwa [str_bytes a ha, str_bytes b hb] at this
theorem ValueApart : rosettelaw04_ValueApart.Pure := by
  intro k i t k' i' t' hk hi ht hk' hi' ht'
  have bi := Go.bounds_i64 hi
  have bi' := Go.bounds_i64 hi'
  have htb : ∀ K, rosettelaw04_ValueApart.j0 (K + 1) true true k i t k' i' t' = some true := fun K => by unfold rosettelaw04_ValueApart.j0; rfl
  refine ⟨1, ?_⟩
  unfold rosettelaw04_ValueApart.f
  refine (bind_of (show rosettelaw04_small.f = some true from rfl)).trans ?_
  by_cases h1 : (t.size : Int) > 300
  · rw [if_pos h1]; exact htb _
  rw [if_neg h1]
  by_cases h2 : (t'.size : Int) > 300
  · rw [if_pos h2]; exact htb _
  rw [if_neg h2]
  refine (bind_of (right_f k i t (by omega) (by omega))).trans ?_
  by_cases r1 : vright k i t = true
  · rw [if_pos r1]
    refine (bind_of (right_f k' i' t' (by omega) (by omega))).trans ?_
    by_cases r2 : vright k' i' t' = true
    · rw [r2]
      show rosettelaw04_ValueApart.j0 1 true false k i t k' i' t' = some true
      rw [rosettelaw04_ValueApart.j0]
      rw [if_neg (by decide), if_pos rfl]
      refine (bind_of (put_val [] k i t (by decide) (by omega) (by omega))).trans ?_
      refine (bind_of (put_val [] k' i' t' (by decide) (by omega) (by omega))).trans ?_
      rw [List.nil_append, List.nil_append]
      congr 1
      rw [beq_iff_eq, Bool.eq_iff_iff]
      simp only [beq_iff_eq, Bool.and_eq_true]
      constructor
      · intro h
        have he := strB (vbytes_u8s k i t (by omega) (by omega)) (vbytes_u8s k' i' t' (by omega) (by omega)) h
        have e1 := val_back k i t [] r1 (by omega) (by omega)
        have e2 := val_back k' i' t' [] r2 (by omega) (by omega)
        rw [he, e2] at e1
        simp only [Prod.mk.injEq, Vl.mk.injEq, and_true] at e1
        exact ⟨e1.1.symm, e1.2.1.symm, by rw [e1.2.2]⟩
      · rintro ⟨rfl, rfl, h⟩
        have : t = t' := by
          rw [ByteArray.toList_eq, ByteArray.toList_eq] at h
          cases t with
          | mk x => cases t' with
            | mk y => cases x; cases y; simp only at h; rw [h]
        rw [this]
    · rw [Bool.not_eq_true] at r2
      rw [r2]
      exact htb _
  · rw [if_neg r1]; exact htb _
end Go.Proofs.Ytiodpbenjbdcfaa.Pure
