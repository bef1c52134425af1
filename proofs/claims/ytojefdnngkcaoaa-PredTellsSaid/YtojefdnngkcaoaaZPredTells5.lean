/- The statement PredTells over numbers and lists: which predicates are right, of what they hold, and their bytes. -/
import Derived.Test.YtojefdnngkcaoaaZPredTells2
import Derived.Test.YtojefdnngkcaoaaZPredTells4
import Derived.Test.YtojefdnngkcaoaaZPredTells1
import Derived.Test.YtojefdnngkcaoaaZPredTells3
import Derived.Test.YtojefdnngkcaoaaZPredTells0
import Derived.Deep.Slices
import Derived.DataReads
import Derived.ChangeShapes
import Derived.WideLaws
import Derived.SizedLaws
import Derived.Test.YtojefdnngkcaoaaProg
import Derived.Test.YtojefdnngkcaoaaRows
import Derived.WalkKit
import Derived.ProofKit
import Derived.OpenShut
import Derived.ShutString
import Derived.ChangeOld
import Derived.Below
import Derived.Lib.SmallJoins
section
/- predicates over numbers and lists: which are right, of what they hold, their bytes -/
set_option linter.unusedVariables false
set_option linter.unusedSimpArgs false
set_option autoImplicit false
namespace Go.Proofs.Ytojefdnngkcaoaa
open Go.RowKit Go.Proofs.YtojefdnngkcaoaaW.PrintWords Go.Proofs.YtojefdnngkcaoaaW.PrintLast Go.Proofs.YtojefdnngkcaoaaW.PrintMore Go.Proofs.Ytojefdnngkcaoaa.G

theorem pright_at {K : Nat} (hK : 0 < K) (n : ByteArray) (o k i : Int) (t : ByteArray) (h0 : -9223372036854775808 ≤ i) (h1 : i < 9223372036854775808) : pred_Right.f K n o k i t = some (prightB n o k i t) := by
  obtain ⟨K, rfl⟩ : ∃ m, K = m + 1 := ⟨K - 1, by omega⟩
  exact pright_f K n o k i t h0 h1
theorem size_nil (n : ByteArray) : n.toList = [] ↔ n.size = 0 := by
  rw [ByteArray.toList_eq]
  constructor
  · intro h
    have := congrArg List.length h
    rw [Array.length_toList] at this
    exact this
  · intro h
    apply List.eq_nil_of_length_eq_zero
    rw [Array.length_toList]
    exact h
theorem pnamed_eq (n t : ByteArray) : pnamed n t = (decide (1 ≤ n.size ∧ n.size ≤ 16) && decide (t.size ≤ 32)) := by
  unfold pnamed
  by_cases h0 : n.toList = []
  · rw [if_pos h0, decide_eq_false (by have := (size_nil n).1 h0; omega)]; rfl
  · rw [if_neg h0]
    have hp : n.size ≠ 0 := fun h => h0 ((size_nil n).2 h)
    by_cases h1 : (n.size : Int) ≤ 16
    · rw [if_pos h1, decide_eq_true (show 1 ≤ n.size ∧ n.size ≤ 16 by omega), Bool.true_and, decide_eq_decide]; omega
    · rw [if_neg h1, decide_eq_false (show ¬ (1 ≤ n.size ∧ n.size ≤ 16) by omega)]; rfl
theorem rpright_f {K : Nat} (hK : 0 < K) (n : ByteArray) (o k i : Int) (t : ByteArray) (h0 : -9223372036854775808 ≤ i) (h1 : i < 9223372036854775808) : rosetteref06_Right.f K n o k i t = some (prightB n o k i t) := by
  obtain ⟨K, rfl⟩ : ∃ m, K = m + 1 := ⟨K - 1, by omega⟩
  have J : ∀ b, rosetteref06_Right.j0 (K + 1) b n o k i t = some (if b = true then false else if o = 8 then (k == 0 && (i == 0 && t.toList == [])) else if o = 7 ∧ k ≠ 2 then false else decide (t.size ≤ 32) && (decide (1 ≤ o) && decide (o ≤ 7) && vright k i t)) := by
    intro b
    simp only [rosetteref06_Right.j0]
    rw [rright_f]
    simp only [Option.bind_some]
    cases b with
    | true => rfl
    | false =>
      simp only [Bool.false_eq_true, if_false]
      by_cases a8 : o = 8
      · rw [if_pos a8, if_pos a8]
      rw [if_neg a8, if_neg a8]
      by_cases o1 : 1 ≤ o <;> by_cases o7 : o ≤ 7 <;> by_cases a7 : o = 7 <;> by_cases k2 : k = 2 <;> by_cases t3 : t.size ≤ 32 <;> cases vright k i t <;> simp [o1, o7, a7, k2, t3] <;> omega
  unfold rosetteref06_Right.f prightB
  rw [pnamed_eq]
  have hz : (k == 0 && (i == 0 && t.toList == [])) = true → t.size ≤ 32 := by
    intro h
    simp only [Bool.and_eq_true, beq_iff_eq] at h
    have := (size_nil t).1 h.2.2
    omega
  by_cases a1 : (n.size : Int) < 1
  · rw [if_pos a1, J, if_pos rfl, decide_eq_false (show ¬ (1 ≤ n.size ∧ n.size ≤ 16) by omega)]
    simp
  · rw [if_neg a1, J]
    by_cases a2 : (n.size : Int) > 16
    · rw [decide_eq_true a2, if_pos rfl, decide_eq_false (show ¬ (1 ≤ n.size ∧ n.size ≤ 16) by omega)]
      simp
    · rw [decide_eq_false a2, if_neg (by decide), decide_eq_true (show 1 ≤ n.size ∧ n.size ≤ 16 by omega)]
      congr 1
      by_cases a8 : o = 8
      · rw [if_pos a8, if_pos a8]
        cases hq : (k == 0 && (i == 0 && t.toList == [])) with
        | true => rw [decide_eq_true (hz hq)]; rfl
        | false => simp
      · rw [if_neg a8, if_neg a8]
        simp only [Bool.true_and]

def hasPre (s p : ByteArray) : Bool := if p.size ≤ s.size then (s.extract 0 p.size).toList == p.toList else false
theorem hasPrefix_f (s p : ByteArray) : strings_HasPrefix.f s p = some (hasPre s p) := by
  unfold strings_HasPrefix.f stringslite_HasPrefix.f hasPre
  by_cases h : p.size ≤ s.size
  · rw [if_pos (by omega), if_pos (by omega), if_pos (by omega), if_pos h]; rfl
  · rw [if_neg (by omega), if_neg h]; rfl
def askB (o c : Int) : Bool := if o = 1 then c == 0 else if o = 2 then c != 0 else if o = 3 then decide (c < 0) else if o = 4 then decide (c ≤ 0) else if o = 5 then decide (c > 0) else decide (c ≥ 0)
def holdsB (n : ByteArray) (o k i : Int) (t : ByteArray) (vk vi : Int) (vt : ByteArray) : Bool :=
  if prightB n o k i t = true then (if vright vk vi vt = true then (if o = 8 then true else if vk = k then (if o = 7 then hasPre vt t else askB o (vcmp vk vi vt k i t)) else false) else false) else false
theorem pright_op {n : ByteArray} {o k i : Int} {t : ByteArray} (h : prightB n o k i t = true) : 1 ≤ o ∧ o ≤ 8 := by
  unfold prightB at h
  by_cases a8 : o = 8
  · omega
  · rw [if_neg a8] at h
    split at h
    · cases h
    · simp only [Bool.and_eq_true, decide_eq_true_eq] at h
      omega
theorem holds_f {K : Nat} (hK : 6 ≤ K) (n : ByteArray) (o k i : Int) (t : ByteArray) (vk vi : Int) (vt : ByteArray) (h0 : -9223372036854775808 ≤ i) (h1 : i < 9223372036854775808) (g0 : -9223372036854775808 ≤ vi) (g1 : vi < 9223372036854775808) :
    pred_Holds.f K n o k i t vk vi vt = some (holdsB n o k i t vk vi vt) := by
  obtain ⟨K, rfl⟩ : ∃ m, K = m + 1 := ⟨K - 1, by omega⟩
  unfold pred_Holds.f holdsB
  rw [pright_f K n o k i t h0 h1]
  simp only [Option.bind_some]
  by_cases hp : prightB n o k i t = true
  · rw [if_pos hp, if_pos hp, right_f vk vi vt g0 g1]
    simp only [Option.bind_some, pred_Holds.j0]
    by_cases hv : vright vk vi vt = true
    · obtain ⟨o1, o8⟩ := pright_op hp
      rw [if_neg (by rw [hv]; decide), if_pos hv, compare_f K (by omega)]
      simp only [Option.bind_some]
      rw [hasPrefix_f]
      simp only [Option.bind_some]
      by_cases a8 : o = 8
      · rw [if_pos a8, if_pos a8]
      rw [if_neg a8, if_neg a8]
      by_cases ek : vk = k
      · rw [if_pos ek, if_pos ek]
        by_cases a7 : o = 7
        · rw [if_pos a7, if_pos a7]
        rw [if_neg a7, if_neg a7]
        generalize vcmp vk vi vt k i t = c
        have ho : o = 1 ∨ o = 2 ∨ o = 3 ∨ o = 4 ∨ o = 5 ∨ o = 6 := by omega
        have hc : c < 0 ∨ c = 0 ∨ c > 0 := by omega
        unfold askB
        rcases hc with hc | hc | hc
        · rcases ho with rfl | rfl | rfl | rfl | rfl | rfl <;> simp [hc, show ¬ (c > 0) by omega, show c ≠ 0 by omega, show c ≤ 0 by omega, show ¬ (0 ≤ c) by omega]
        · subst hc
          rcases ho with rfl | rfl | rfl | rfl | rfl | rfl <;> simp
        · rcases ho with rfl | rfl | rfl | rfl | rfl | rfl <;> simp [show c > 0 by omega, show ¬ (c < 0) by omega, show c ≠ 0 by omega, show ¬ (c ≤ 0) by omega, show 0 ≤ c by omega]
      · rw [if_neg ek, if_neg ek]
    · rw [if_pos (by simpa using hv), if_neg hv]
  · rw [if_neg hp, if_neg hp]
    simp only [pred_Holds.j0]
    rw [if_pos trivial]
theorem rholds_f {K : Nat} (n : ByteArray) (o k i : Int) (t : ByteArray) (vk vi : Int) (vt : ByteArray) (h0 : -9223372036854775808 ≤ i) (h1 : i < 9223372036854775808) (g0 : -9223372036854775808 ≤ vi) (g1 : vi < 9223372036854775808) (hs : vt.size < 9223372036854775807) (hK : 2 * vt.size + 5 ≤ K) :
    rosetteref06_Holds.f K n o k i t vk vi vt = some (holdsB n o k i t vk vi vt) := by
  obtain ⟨K, rfl⟩ : ∃ m, K = m + 1 := ⟨K - 1, by omega⟩
  unfold rosetteref06_Holds.f holdsB
  rw [rpright_f (by omega) n o k i t h0 h1, rright_f]
  simp only [Option.bind_some]
  by_cases hp : prightB n o k i t = true
  · rw [if_pos hp, if_pos hp]
    simp only [rosetteref06_Holds.j0]
    by_cases hv : vright vk vi vt = true
    · obtain ⟨o1, o8⟩ := pright_op hp
      rw [if_neg (by rw [hv]; decide), if_pos hv, rcompare_f K _ _ _ _ _ _ hs (by omega)]
      simp only [Option.bind_some]
      by_cases a8 : o = 8
      · rw [if_pos a8, if_pos a8]
      rw [if_neg a8, if_neg a8]
      by_cases ek : vk = k
      · rw [if_pos ek, if_pos ek]
        by_cases a7 : o = 7
        · subst a7
          simp only [show ¬ ((7 : Int) = 1) by decide, show ¬ ((7 : Int) = 2) by decide, show ¬ ((7 : Int) = 3) by decide, show ¬ ((7 : Int) = 4) by decide, show ¬ ((7 : Int) = 5) by decide, show ¬ ((7 : Int) = 6) by decide, if_false, if_true]
          unfold hasPre
          by_cases h : t.size ≤ vt.size
          · rw [if_pos (by omega), if_pos (by omega), if_pos (by omega), if_pos h]; rfl
          · rw [if_neg (by omega), if_neg h]
        rw [if_neg a7]
        generalize vcmp vk vi vt k i t = c
        have ho : o = 1 ∨ o = 2 ∨ o = 3 ∨ o = 4 ∨ o = 5 ∨ o = 6 := by omega
        unfold askB
        rcases ho with rfl | rfl | rfl | rfl | rfl | rfl <;> simp
      · rw [if_neg ek, if_neg ek]
    · rw [if_pos (by simpa using hv), if_neg hv]
  · rw [if_neg hp, if_neg hp]
    simp only [rosetteref06_Holds.j0]
    rw [if_pos trivial]
def pbytes (n : ByteArray) (o k i : Int) (t : ByteArray) : List Int := if prightB n o k i t = true then putL n.size ++ bytesOf n ++ putL o ++ vbytes k i t else []
theorem putL_small (o : Int) (h1 : 1 ≤ o) (h8 : o ≤ 8) : putL o = [o] := by
  have ho : o = 1 ∨ o = 2 ∨ o = 3 ∨ o = 4 ∨ o = 5 ∨ o = 6 ∨ o = 7 ∨ o = 8 := by omega
  rcases ho with rfl | rfl | rfl | rfl | rfl | rfl | rfl | rfl <;> decide +kernel
theorem pright_size {n : ByteArray} {o k i : Int} {t : ByteArray} (h : prightB n o k i t = true) : 1 ≤ n.size ∧ n.size ≤ 16 ∧ t.size ≤ 32 := by
  unfold prightB at h
  rw [pnamed_eq] at h
  split at h
  · simp only [Bool.and_eq_true, decide_eq_true_eq] at h; omega
  · split at h
    · cases h
    · simp only [Bool.and_eq_true, decide_eq_true_eq] at h; omega
theorem pput_f {K : Nat} (hK : 0 < K) (l : List Int) (n : ByteArray) (o k i : Int) (t : ByteArray) (hl : l.length ≤ 100000) (h0 : -9223372036854775808 ≤ i) (h1 : i < 9223372036854775808) :
    pred_Put.f K l n o k i t = some (l ++ pbytes n o k i t) := by
  unfold pred_Put.f pbytes
  refine (bind_of (pright_at hK n o k i t h0 h1)).trans ?_
  by_cases hp : prightB n o k i t = true
  · rw [if_pos hp, if_pos hp]
    obtain ⟨o1, o8⟩ := pright_op hp
    obtain ⟨n1, n16, _⟩ := pright_size hp
    have e1 := bytes_len n
    have e2 := putL_len (n.size : Int)
    have e3 := putL_len o
    refine (bind_of (putText_f l n (by omega) (by omega))).trans ?_
    rw [wrap_k o (by omega) (by omega)]
    refine (bind_of (put_f (l ++ putL n.size ++ bytesOf n) o (by omega) (by omega) (by simp only [List.length_append]; omega))).trans ?_
    refine (bind_of (put_val _ k i t (by simp only [List.length_append]; omega) h0 h1)).trans ?_
    simp only [List.append_assoc]
  · rw [if_neg hp, if_neg hp, List.append_nil]
    have : slices_Clone_byte_byte.f l = some l := by unfold slices_Clone_byte_byte.f; rw [if_pos (by omega)]
    exact (bind_of this).trans rfl
theorem rpput_f {K : Nat} (hK : 0 < K) (l : List Int) (n : ByteArray) (o k i : Int) (t : ByteArray) (hl : l.length ≤ 100000) (h0 : -9223372036854775808 ≤ i) (h1 : i < 9223372036854775808) :
    rosetteref06_Put.f K l n o k i t = some (l ++ pbytes n o k i t) := by
  unfold rosetteref06_Put.f pbytes
  simp only [Option.bind_some, List.nil_append]
  rw [if_pos (by simp; omega)]
  refine (bind_of (rpright_f hK n o k i t h0 h1)).trans ?_
  by_cases hp : prightB n o k i t = true
  · rw [if_pos hp, if_pos hp]
    obtain ⟨o1, o8⟩ := pright_op hp
    obtain ⟨n1, n16, _⟩ := pright_size hp
    have e1 := bytes_len n
    have e2 := putL_len (n.size : Int)
    refine (bind_of (rputText_f l n (by omega) (by omega))).trans ?_
    rw [if_pos (by simp only [List.length_append, List.length_cons, List.length_nil]; omega), show o % 256 = o by omega]
    refine (bind_of (rput_val _ k i t (by simp only [List.length_append, List.length_cons, List.length_nil]; omega) h0 h1)).trans ?_
    rw [putL_small o o1 o8]
    simp only [List.append_assoc]
  · rw [if_neg hp, if_neg hp, List.append_nil]
end Go.Proofs.Ytojefdnngkcaoaa
end

section
/- The statement PredTells over numbers and lists: which predicates are right, of what they hold, and their bytes. -/
set_option linter.unusedVariables false
namespace Go.Proofs.Ytojefdnngkcaoaa.Pure
open Go.RowKit Go.Proofs.Ytojefdnngkcaoaa Go.Proofs.Ytojefdnngkcaoaa.G Go.Proofs.YtojefdnngkcaoaaW.PrintWords Go.Proofs.YtojefdnngkcaoaaW.PrintLast
theorem PredTells : rosettelaw06_PredTells.Pure := by
  rintro p v l2 l3 ⟨hp0, hp1, hp2, hp3, hp4⟩ ⟨hv1, hv2, hv3⟩ ⟨⟨hl1, hl2⟩, hl3⟩ ⟨⟨hb1, hb2⟩, hb3⟩
  have bi := Go.bounds_i64 hp3
  have bv := Go.bounds_i64 hv2
  obtain ⟨K, hK⟩ : ∃ K, K = l2.length + 1000000 := ⟨_, rfl⟩
  refine ⟨K + 1, ?_⟩
  unfold rosettelaw06_PredTells.f rosettelaw06_small.f
  simp only [Option.bind_some]
  refine (bind_of (few_f l2 (by omega) (K + 1) (by omega))).trans ?_
  have J : rosettelaw06_PredTells.j0 (K + 1) l2 l3 true true p.f0 p.f1 p.f2.f0 p.f2.f1 p.f2.f2 v.f0 v.f1 v.f2 = some true := by simp only [rosettelaw06_PredTells.j0]; rw [if_pos trivial]
  by_cases hf : fewB l2 = true
  · rw [if_pos hf]
    by_cases a1 : (p.f0.size : Int) > 300
    · rw [if_pos a1]; exact J
    rw [if_neg a1]
    by_cases a2 : (p.f2.f2.size : Int) > 300
    · rw [if_pos a2]; exact J
    rw [if_neg a2]
    by_cases a3 : (v.f2.size : Int) > 300
    · rw [if_pos a3]; exact J
    rw [if_neg a3]
    by_cases a4 : (l3.length : Int) > 300
    · rw [decide_eq_true a4]; exact J
    rw [decide_eq_false a4]
    simp only [rosettelaw06_PredTells.j0]
    rw [if_neg (by decide), if_pos trivial]
    have q1 := pright_at (K := K) (by omega) p.f0 p.f1 p.f2.f0 p.f2.f1 p.f2.f2 (by omega) (by omega)
    have q2 := rpright_f (K := K) (by omega) p.f0 p.f1 p.f2.f0 p.f2.f1 p.f2.f2 (by omega) (by omega)
    have q3 := holds_f (K := K) (by omega) p.f0 p.f1 p.f2.f0 p.f2.f1 p.f2.f2 v.f0 v.f1 v.f2 (by omega) (by omega) (by omega) (by omega)
    have q4 := rholds_f (K := K) p.f0 p.f1 p.f2.f0 p.f2.f1 p.f2.f2 v.f0 v.f1 v.f2 (by omega) (by omega) (by omega) (by omega) (by omega) (by omega)
    obtain ⟨r, g1, g2, g3⟩ := get_some l2 p.f0 (fun x hx => (hl3 x hx).2.2.1)
    have hsz := get_size hf g1
    have q5 : ∃ b, pred_Meets.f K p.f0 p.f1 p.f2.f0 p.f2.f1 p.f2.f2 l2 = some b ∧ rosetteref06_Meets.f K p.f0 p.f1 p.f2.f0 p.f2.f1 p.f2.f2 l2 = some b := by
      unfold pred_Meets.f rosetteref06_Meets.f
      rw [rget_f l2 p.f0 (by omega) K (by omega), g1]
      simp only [Option.bind_some]
      split
      · rw [holds_f (K := K) (by omega) _ _ _ _ _ _ _ _ (by omega) (by omega) g2 g3, rholds_f (K := K) _ _ _ _ _ _ _ _ (by omega) (by omega) g2 g3 (by omega) (by omega)]
        exact ⟨_, rfl, rfl⟩
      · exact ⟨_, rfl, rfl⟩
    obtain ⟨b, q5, q6⟩ := q5
    have q7 := pput_f (K := K) (by omega) l3 p.f0 p.f1 p.f2.f0 p.f2.f1 p.f2.f2 (by omega) (by omega) (by omega)
    have q8 := rpput_f (K := K) (by omega) l3 p.f0 p.f1 p.f2.f0 p.f2.f1 p.f2.f2 (by omega) (by omega) (by omega)
    refine (bind_of q1).trans ((bind_of q2).trans ?_)
    rw [if_pos (by simp)]
    refine (bind_of q3).trans ((bind_of q4).trans ?_)
    rw [if_pos (by simp)]
    refine (bind_of q5).trans ((bind_of q6).trans ?_)
    rw [if_pos (by simp)]
    refine (bind_of q7).trans ((bind_of q8).trans ?_)
    simp
  · rw [if_neg hf]; exact J
end Go.Proofs.Ytojefdnngkcaoaa.Pure
end

section
/- What comes in, opened kind by kind: a datum that is read whole reads as a list, a structure, a number; and no slice and no text of it is longer than the form's reach. -/
set_option linter.unusedVariables false
set_option linter.unusedSimpArgs false
set_option autoImplicit false
namespace Go.Proofs.Ytojefdnngkcaoaa.Op
open Go.RowKit Go.Deep Go.ChangeShapes Go.WideShapes Go.Proofs.YtojefdnngkcaoaaW.PrintWords

section
variable {H α β : Type} (enc : TypeId × Value → H) (P : Program) (W : World)
/-- no part of a datum is longer than the reach -/
def Lite (P : Program) (t : TypeId) (d : DataW H) : Prop := ∀ n ∈ d.weights P t, n ≤ 140737488351232
/-- whatever is read at type t, and is no longer than the reach, is of the kind d, and good -/
def Opens (t : TypeId) (d : Kd α) (good : α → Prop) : Prop :=
  ∀ fuel (cs : List Value) x, DataW.trod enc P W 0 (fun _ => true) true fuel t cs = some x → Lite P t x.1 → ∃ a, d.K W a cs ∧ good a
def OpensF (fs : List Field) (o : Nat) (d : Kd α) (good : α → Prop) : Prop :=
  ∀ fuel (cs : List Value) xs, (fs.mapM fun f => DataW.trod enc P W 0 (fun _ => true) true fuel f.type ((cs.drop f.offset).take (P.cellsOf f.type))) = some xs → (∀ n ∈ DataW.weightsEach P (fs.map (·.type)) (xs.map (·.1)), n ≤ 140737488351232) → cs.length = o + d.sz → ∃ a, d.K W a (cs.drop o) ∧ good a
variable {enc P W}
theorem opens_int {t : TypeId} {k : IntKind} (ht : P.underlying t = some (.int k)) : Opens enc P W t (Kd.int k) (fun n => (Lit.int k n).wf = true) := by
  intro fuel cs x h _
  obtain ⟨n, h1, _, h2⟩ := DataW.trod_int ht h
  exact ⟨n, h1, h2⟩
theorem opens_bool {t : TypeId} (ht : P.underlying t = some .bool) : Opens enc P W t Kd.bool (fun _ => True) := by
  intro fuel cs x h _
  obtain ⟨n, h1, _⟩ := DataW.trod_bool ht h
  exact ⟨n, h1, trivial⟩
theorem opens_str {t : TypeId} (ht : P.underlying t = some .string) : Opens enc P W t Kd.string (fun s => s.size ≤ 140737488351232) := by
  intro fuel cs x h hl
  obtain ⟨s, h1, h2, _⟩ := DataW.trod_string ht h
  refine ⟨s, h1, ?_⟩
  rw [h2] at hl
  have := hl s.data.toList.length (by simp [DataW.weights])
  rw [Array.length_toList] at this
  exact this
theorem weightsAll_mem {e : TypeId} : ∀ {ds : List (DataW H)} {d : DataW H}, d ∈ ds → ∀ n ∈ d.weights P e, n ∈ DataW.weightsAll P e ds := by
  intro ds
  induction ds with
  | nil => intro d h; cases h
  | cons y ys ih =>
    intro d h n hn
    rw [DataW.weightsAll]
    rcases List.mem_cons.1 h with rfl | h
    · exact List.mem_append_left _ hn
    · exact List.mem_append_right _ (ih h n hn)
theorem opens_slice {t e : TypeId} {d : Kd α} {good : α → Prop} {B : Nat} (ht : P.underlying t = some (.slice e)) (hs : P.cellsOf e = d.sz) (hB : P.bytesOf e = B) (h : Opens enc P W e d good) :
    Opens enc P W t (Kd.slice e d) (fun xs => (xs.length ≤ maxLen ∧ xs.length * B ≤ 140737488351232) ∧ ∀ x ∈ xs, good x) := by
  intro fuel cs x hx hw
  rcases open_slice ht hx with ⟨rfl, _⟩ | ⟨a, len, cap, m, n, D, Pl, rfl, hb, hl, hm, hmm, rfl, hel⟩
  · exact ⟨[], ⟨none, 0, rfl, Nat.le_refl _, Kd.C_nil _ _⟩, ⟨Nat.zero_le _, by simp⟩, fun _ h => by cases h⟩
  · simp only [if_true] at hmm
    have hwt : ∀ n ∈ (len + (m - len)) * P.bytesOf e :: (DataW.weightsAll P e ((List.range len).map D) ++ DataW.weightsAll P e ((List.range (m - len)).map fun j => D (len + j))), n ≤ 140737488351232 := by
      have h1 := hw
      unfold Lite at h1
      rw [DataW.weights] at h1
      simp only [ht, List.length_map, List.length_range] at h1
      exact h1
    have hlenB : len * B ≤ 140737488351232 := by
      have h1 := hwt _ List.mem_cons_self
      rw [hB] at h1
      exact Nat.le_trans (Nat.mul_le_mul_right _ (by omega)) h1
    have hlite : ∀ i, i < len → Lite P e (D i) := fun i hi n hn => hwt n (List.mem_cons_of_mem _ (List.mem_append_left _ (weightsAll_mem (List.mem_map.2 ⟨i, List.mem_range.2 hi, rfl⟩) n hn)))
    have each : ∀ i, i < len → ∃ y : α, ∃ c, W.cells? 0 (a.add (i * P.cellsOf e)) (P.cellsOf e) = some c ∧ d.K W y c ∧ good y := by
      intro i hi
      obtain ⟨c, h1, h2⟩ := hel i (by omega)
      obtain ⟨y, h3, h4⟩ := h _ _ _ h2 (hlite i hi)
      exact ⟨y, c, h1, h3, h4⟩
    have build : ∃ xs : List α, xs.length = len ∧ ∀ i y, xs[i]? = some y → ∃ c, W.cells? 0 (a.add (i * P.cellsOf e)) (P.cellsOf e) = some c ∧ d.K W y c ∧ good y := by
      clear hx hel hm hl hb hmm hw hwt hlenB hlite
      induction len with
      | zero => exact ⟨[], rfl, fun i y h => by simp at h⟩
      | succ len ih =>
        obtain ⟨xs, h1, h2⟩ := ih (fun i hi => each i (by omega))
        obtain ⟨y, c, h3, h4, h5⟩ := each len (by omega)
        refine ⟨xs ++ [y], by simp [h1], fun i z hz => ?_⟩
        by_cases hi : i < len
        · exact h2 i z (by rw [List.getElem?_append_left (by omega)] at hz; exact hz)
        · have hi2 : i < (xs ++ [y]).length := (List.getElem?_eq_some_iff.1 hz).1
          have : i = len := by rw [List.length_append, List.length_singleton] at hi2; omega
          subst this
          rw [List.getElem?_append_right (by omega), h1, Nat.sub_self] at hz
          simp only [List.getElem?_cons_zero, Option.some.injEq] at hz
          subst hz
          exact ⟨c, h3, h4, h5⟩
    obtain ⟨xs, h1, h2⟩ := build
    refine ⟨xs, ⟨some a, cap, by rw [h1], by omega, rfl, by rw [h1]; simp only [maxLen] at hm; omega, fun h0 => ⟨a, rfl, fun j p hj => ?_⟩⟩, ⟨by omega, by rw [h1]; exact hlenB⟩, fun y hy => ?_⟩
    · obtain ⟨c, h3, h4, h5⟩ := h2 j p hj
      obtain ⟨_, hlen, hcell⟩ := World.cells?_some h3
      refine ⟨c, by rw [hlen, hs], h4, fun i u hu => ?_⟩
      have hi : i < P.cellsOf e := by rw [← hlen]; exact (List.getElem?_eq_some_iff.1 hu).1
      have := hcell i hi
      rw [hu, Go.Proofs.YtojefdnngkcaoaaW.PrintWords.add_add, hs] at this
      exact this
    · obtain ⟨i, hi⟩ := List.getElem?_of_mem hy
      obtain ⟨c, _, _, h5⟩ := h2 i y hi
      exact h5
theorem opensF_one {f : Field} {o : Nat} {d : Kd α} {good : α → Prop} (ho : f.offset = o) (hc : P.cellsOf f.type = d.sz) (h : Opens enc P W f.type d good) : OpensF enc P W [f] o d good := by
  intro fuel cs xs hx hw hl
  simp only [List.mapM_cons, List.mapM_nil, Option.pure_def, Option.bind_eq_bind, Option.bind_eq_some_iff] at hx
  obtain ⟨y, h1, z, hz, hxs⟩ := hx
  simp only [Option.some.injEq] at hz hxs
  subst hz
  subst hxs
  obtain ⟨a, h2, h3⟩ := h _ _ _ h1 (fun n hn => hw n (by simp [DataW.weightsEach, hn]))
  rw [ho, hc, List.take_of_length_le (by rw [List.length_drop]; omega)] at h2
  exact ⟨a, h2, h3⟩
theorem opensF_cons {f : Field} {fs : List Field} {o : Nat} {d : Kd α} {e : Kd β} {g1 : α → Prop} {g2 : β → Prop} (ho : f.offset = o) (hc : P.cellsOf f.type = d.sz) (h : Opens enc P W f.type d g1) (hr : OpensF enc P W fs (o + d.sz) e g2) :
    OpensF enc P W (f :: fs) o (Kd.pair d e) (fun p => g1 p.1 ∧ g2 p.2) := by
  intro fuel cs xs hx hw hl
  simp only [List.mapM_cons, Option.pure_def, Option.bind_eq_bind, Option.bind_eq_some_iff] at hx
  obtain ⟨y, h1, ys, h2, hxs⟩ := hx
  simp only [Option.some.injEq] at hxs
  subst hxs
  have hsz : (Kd.pair d e).sz = d.sz + e.sz := rfl
  obtain ⟨a, h3, h4⟩ := h _ _ _ h1 (fun n hn => hw n (by simp [DataW.weightsEach, hn]))
  obtain ⟨b, h5, h6⟩ := hr _ _ _ h2 (fun n hn => hw n (by rw [List.map_cons, List.map_cons, DataW.weightsEach]; exact List.mem_append_right _ hn)) (by omega)
  rw [ho, hc] at h3
  refine ⟨(a, b), ⟨_, _, ?_, h3, h5⟩, h4, h6⟩
  rw [← List.drop_drop, List.take_append_drop]
theorem opens_struct {t : TypeId} {fs : Array Field} {d : Kd α} {good : α → Prop} (ht : P.underlying t = some (.struct fs)) (hc : P.cellsOf t = d.sz) (h : OpensF enc P W fs.toList 0 d good) : Opens enc P W t d good := by
  intro fuel cs x hx hw
  cases fuel with
  | zero => simp [DataW.trod] at hx
  | succ fuel =>
    have key : cs.length = P.cellsOf t ∧ ∃ xs, (fs.toList.mapM fun f => DataW.trod enc P W 0 (fun _ => true) true fuel f.type ((cs.drop f.offset).take (P.cellsOf f.type))) = some xs ∧ x.1 = .agg (xs.map (·.1)) := by
      unfold DataW.trod at hx
      rw [ht] at hx
      simp only at hx
      split at hx
      · rename_i hl
        rw [Option.map_eq_some_iff] at hx
        obtain ⟨xs, h1, h2⟩ := hx
        exact ⟨hl, xs, h1, by rw [← h2]⟩
      · cases hx
    obtain ⟨h1, xs, h2, h3⟩ := key
    have hw2 : ∀ n ∈ DataW.weightsEach P (fs.toList.map (·.type)) (xs.map (·.1)), n ≤ 140737488351232 := by
      unfold Lite at hw
      rw [h3, DataW.weights] at hw
      simp only [ht] at hw
      exact hw
    obtain ⟨a, h4, h5⟩ := h _ _ _ h2 hw2 (by omega)
    exact ⟨a, by simpa using h4, h5⟩
theorem opens_iso {t : TypeId} {d : Kd α} {good : α → Prop} (f : β → α) (g : α → β) (hfg : ∀ a, f (g a) = a) (h : Opens enc P W t d good) : Opens enc P W t (Kd.iso d f) (fun x => good (f x)) := by
  intro fuel cs x hx hw
  obtain ⟨a, h1, h2⟩ := h _ _ _ hx hw
  refine ⟨g a, ?_, by show good (f (g a)); rw [hfg]; exact h2⟩
  show d.K W (f (g a)) cs
  rw [hfg]
  exact h1
/-- the weight of an argument -/
theorem lite_arg {ts : List TypeId} {ds : List (DataW H)} (hsz : (DataW.weightsEach P ts ds).all (· ≤ reachBytes) = true) {j : Nat} {t : TypeId} {d : DataW H} (ht : ts[j]? = some t) (hd : ds[j]? = some d) : Lite P t d := by
  intro n hn
  have := List.all_eq_true.1 hsz n (DataW.weights_mem_each ht hd n hn)
  have h2 : n ≤ reachBytes := by simpa using this
  exact Nat.le_trans h2 (by decide)
/-- a slice that is handed in -/
theorem open_arg {t e : TypeId} {d : Kd α} {good : α → Prop} {B : Nat} (ht : P.underlying t = some (.slice e)) (hs : P.cellsOf e = d.sz) (hB : P.bytesOf e = B) (h : Opens enc P W e d good) {A : Option Addr} {n c : Nat} {y : DataW H} {p : List MemPlace}
    (hl : Lite P t y) (hx : DataW.Trod enc P W 0 (fun _ => true) true t (.slice A n c) y p) : ∃ xs : List α, n = xs.length ∧ xs.length ≤ c ∧ c ≤ maxLen ∧ d.C W A xs.length xs ∧ (xs.length ≤ maxLen ∧ xs.length * B ≤ 140737488351232) ∧ ∀ x ∈ xs, good x := by
  obtain ⟨fuel, hf⟩ := hx
  have hcap : c ≤ maxLen := by
    rcases open_slice ht hf with ⟨hcs, _⟩ | ⟨a, len, cap, m, n, D, Pl, hcs, hb, hl, hm, hmm, _, hel⟩
    · simp only [Value.cells, List.cons.injEq, Value.slice.injEq, and_true] at hcs
      omega
    · simp only [Value.cells, List.cons.injEq, Value.slice.injEq, and_true] at hcs
      omega
  obtain ⟨xs, ⟨A', c', h1, h2, h3⟩, h4, h5⟩ := opens_slice ht hs hB h _ _ _ hf hl
  simp only [Value.cells, List.cons.injEq, Value.slice.injEq, and_true] at h1
  obtain ⟨rfl, rfl, rfl⟩ := h1
  exact ⟨xs, rfl, h2, hcap, h3, h4, h5⟩
/-- a text that is handed in -/
theorem lite_str {t : TypeId} {s : ByteArray} (hl : Lite (H := H) P t (.lit (.string s.data.toList))) : s.size ≤ 140737488351232 := by
  have := hl s.data.toList.length (by simp [DataW.weights])
  rw [Array.length_toList] at this
  exact this
end
end Go.Proofs.Ytojefdnngkcaoaa.Op
end

section
namespace Go.Proofs.Ytojefdnngkcaoaa.predTells
open Go.ChangeShapes Go.WideShapes Go.ChangeAt Go.RowKit Go.Proofs.Ytojefdnngkcaoaa Go.Proofs.Ytojefdnngkcaoaa.G Go.Proofs.YtojefdnngkcaoaaW.PrintWords Go.Proofs.YtojefdnngkcaoaaW.PrintLast Go.Proofs.YtojefdnngkcaoaaW.PrintMore
open Go.ChangeMaps (open_string shut_string)
set_option linter.unusedVariables false
set_option linter.unusedSimpArgs false
theorem own : ownKnob Try.prog.godebug = none := by kernel_rfl
theorem laidOut : laidOutB Try.prog = true := by kernel_rfl
set_option maxRecDepth 100000 in
theorem lifted (os : Os) (started : os.Started) (H : Type) (enc : TypeId × Value → H) :
    ReturnsInHanded {} Try.checked os 3 .any (Rows.predTellsSpec.pre6 enc Try.prog Try.f3 Rows.predTellsRow.domain false) (Rows.predTellsSpec.post enc Try.prog Try.f3 false true false false) := by
  refine returnsInHanded_of_change_sized (C := Try.checked) own started (by kernel_rfl) Try.func3
    (ChangeSpec.witness6 (enc := enc) (C := Try.checked) false ⟨#[], #[.agg #[.string ByteArray.empty, .int .i64 0, .int .i64 0, .int .i64 0, .string ByteArray.empty], .agg #[.int .i64 0, .int .i64 0, .string ByteArray.empty], .slice none 0 0, .slice none 0 0], []⟩ 8 (by kernel_rfl) (by kernel_rfl) (by kernel_rfl) (by kernel_rfl)) ?_
  intro W base args ds gs before hval0 hW hcnd hsz0 _
  have hsz : (DataW.weightsEach Try.prog (Try.f3.params.toList ++ Rows.predTellsSpec.plain.varTypes Try.prog) (ds ++ gs)).all (· ≤ reachBytes) = true := hsz0
  have hval : ∀ (j : Nat) t v, Try.f3.params[j]? = some t → args[j]? = some v → Value.okWide Try.prog W .any base t v := hval0
  have hW' := hW
  obtain ⟨p, q, hA0, hV, rfl, hfz, hnd⟩ := hW
  have hA : DataW.TrodAll enc Try.prog W 0 (fun _ => true) true Try.f3.params.toList args.toList ds p := hA0
  rw [Try.params3] at hA hval hsz
  obtain ⟨v0, vs0, d0, ds0, p0, q0, hargs, rfl, rfl, h0, r0⟩ := trodAll_cons hA
  obtain ⟨v1, vs1, d1, ds1, p1, q1, rfl, rfl, rfl, h1, r1⟩ := trodAll_cons r0
  obtain ⟨v2, vs2, d2, ds2, p2, q2, rfl, rfl, rfl, h2, r2⟩ := trodAll_cons r1
  obtain ⟨v3, vs3, d3, ds3, p3, q3, rfl, rfl, rfl, h3, r3⟩ := trodAll_cons r2
  obtain ⟨rfl, rfl, rfl⟩ := trodAll_nil r3
  obtain rfl : args = #[v0, v1, v2, v3] := by cases args; simp_all
  obtain ⟨rfl, rfl⟩ := trodVars_none hV
  have k0 := h0
  have lt0 : ∀ x ∈ p0, x.block < W.heap.size := by obtain ⟨m, hm⟩ := k0; exact DataW.trod_lt m _ _ _ hm
  obtain ⟨cs0, rfl, _⟩ := okWide_struct Try.underlying25 (hval 0 25 v0 rfl rfl)
  have q0 := Op.lite_arg hsz (j := 0) (t := 25) rfl rfl
  obtain ⟨fu0, hf0⟩ := h0
  obtain ⟨a0, hK0, hg0⟩ := (Op.opens_iso (fun x : S25 => (x.f0, x.f1, x.f2)) (fun p => (⟨p.1, p.2.1, p.2.2⟩ : S25)) (fun _ => rfl) (Op.opens_struct Try.underlying25 (by kernel_rfl) (Op.opensF_cons rfl (by kernel_rfl) (Op.opens_str Try.underlying9) (Op.opensF_cons rfl (by kernel_rfl) (Op.opens_int Try.underlying3) (Op.opensF_one rfl (by kernel_rfl) (Op.opens_iso (fun x : S23 => (x.f0, x.f1, x.f2)) (fun p => (⟨p.1, p.2.1, p.2.2⟩ : S23)) (fun _ => rfl) (Op.opens_struct Try.underlying23 (by kernel_rfl) (Op.opensF_cons rfl (by kernel_rfl) (Op.opens_int Try.underlying3) (Op.opensF_cons rfl (by kernel_rfl) (Op.opens_int Try.underlying3) (Op.opensF_one rfl (by kernel_rfl) (Op.opens_str Try.underlying9))))))))))) _ _ _ hf0 q0
  have e0 := k25_open hK0
  obtain rfl : cs0 = #[.string a0.f0, .int .i64 a0.f1, .int .i64 a0.f2.f0, .int .i64 a0.f2.f1, .string a0.f2.f2] := by have h_ : cs0.toList = _ := e0; rw [← Array.toArray_toList (xs := cs0), h_]
  have k1 := h1
  have lt1 : ∀ x ∈ p1, x.block < W.heap.size := by obtain ⟨m, hm⟩ := k1; exact DataW.trod_lt m _ _ _ hm
  obtain ⟨cs1, rfl, _⟩ := okWide_struct Try.underlying23 (hval 1 23 v1 rfl rfl)
  have q1 := Op.lite_arg hsz (j := 1) (t := 23) rfl rfl
  obtain ⟨fu1, hf1⟩ := h1
  obtain ⟨a1, hK1, hg1⟩ := (Op.opens_iso (fun x : S23 => (x.f0, x.f1, x.f2)) (fun p => (⟨p.1, p.2.1, p.2.2⟩ : S23)) (fun _ => rfl) (Op.opens_struct Try.underlying23 (by kernel_rfl) (Op.opensF_cons rfl (by kernel_rfl) (Op.opens_int Try.underlying3) (Op.opensF_cons rfl (by kernel_rfl) (Op.opens_int Try.underlying3) (Op.opensF_one rfl (by kernel_rfl) (Op.opens_str Try.underlying9)))))) _ _ _ hf1 q1
  have e1 := k23_open hK1
  obtain rfl : cs1 = #[.int .i64 a1.f0, .int .i64 a1.f1, .string a1.f2] := by have h_ : cs1.toList = _ := e1; rw [← Array.toArray_toList (xs := cs1), h_]
  have k2 := h2
  have lt2 : ∀ x ∈ p2, x.block < W.heap.size := by obtain ⟨m, hm⟩ := k2; exact DataW.trod_lt m _ _ _ hm
  obtain ⟨A2, len2, cap2, rfl⟩ := okWide_slice Try.underlying26 (hval 2 26 v2 rfl rfl)
  have q2 := Op.lite_arg hsz (j := 2) (t := 26) rfl rfl
  obtain ⟨l2, rfl, hc2, hk2, hr2, hg2⟩ := Op.open_arg Try.underlying26 (by kernel_rfl) (by kernel_rfl : _ = 48) (Op.opens_iso (fun x : S52 => (x.f0, x.f1)) (fun p => (⟨p.1, p.2⟩ : S52)) (fun _ => rfl) (Op.opens_struct Try.underlying52 (by kernel_rfl) (Op.opensF_cons rfl (by kernel_rfl) (Op.opens_str Try.underlying9) (Op.opensF_one rfl (by kernel_rfl) (Op.opens_iso (fun x : S23 => (x.f0, x.f1, x.f2)) (fun p => (⟨p.1, p.2.1, p.2.2⟩ : S23)) (fun _ => rfl) (Op.opens_struct Try.underlying23 (by kernel_rfl) (Op.opensF_cons rfl (by kernel_rfl) (Op.opens_int Try.underlying3) (Op.opensF_cons rfl (by kernel_rfl) (Op.opens_int Try.underlying3) (Op.opensF_one rfl (by kernel_rfl) (Op.opens_str Try.underlying9)))))))))) q2 h2
  have k3 := h3
  have lt3 : ∀ x ∈ p3, x.block < W.heap.size := by obtain ⟨m, hm⟩ := k3; exact DataW.trod_lt m _ _ _ hm
  obtain ⟨A3, len3, cap3, rfl⟩ := okWide_slice Try.underlying27 (hval 3 27 v3 rfl rfl)
  have q3 := Op.lite_arg hsz (j := 3) (t := 27) rfl rfl
  obtain ⟨l3, rfl, hc3, hk3, hr3, hg3⟩ := Op.open_arg Try.underlying27 (by kernel_rfl) (by kernel_rfl : _ = 1) (Op.opens_int Try.underlying5) q3 h3
  clear hA0 hval0 hsz0 hsz
  obtain ⟨k, h⟩ := Pure.PredTells a0 a1 l2 l3 hg0 hg1 hg2 hg3
  refine (rosettelaw06_PredTells.calls k a0.f0 a0.f1 a0.f2.f0 a0.f2.f1 a0.f2.f2 a1.f0 a1.f1 a1.f2 A2 cap2 l2 A3 cap3 l3 true W hr2 hc2 hr3 hc3 h).mono fun e W' ⟨he, bel⟩ => ?_
  subst he
  exact ⟨_, rfl, _, _, _, [], _, [], hW', trodAll_mk1 (shut_bool Try.underlying4 _), (trodAll_cons_mk (Below.trod laidOut (by kernel_rfl) (of_decide_eq_true (by kernel_rfl)) k0 bel lt0) (trodAll_cons_mk (Below.trod laidOut (by kernel_rfl) (of_decide_eq_true (by kernel_rfl)) k1 bel lt1) (trodAll_cons_mk (Below.trod laidOut (by kernel_rfl) (of_decide_eq_true (by kernel_rfl)) k2 bel lt2) (trodAll_cons_mk (Below.trod laidOut (by kernel_rfl) (of_decide_eq_true (by kernel_rfl)) k3 bel lt3) trodAll_mk0)))), rfl, bel.frame _, fun h => by cases h⟩
theorem over : Rows.predTellsRow.holds Try.pinned (OpenSpec.ofChange Rows.predTellsSpec) :=
  OpenClaim.holds_of_wide 3 Try.f3 rfl rfl rfl rfl rfl rfl rfl ⟨rfl, rfl, rfl, rfl, rfl⟩ rfl rfl rfl rfl rfl (by kernel_rfl) Try.func3 (by kernel_rfl)
    (of_decide_eq_true (by kernel_rfl)) (by unfold Func.isWrapper; first | (rw [if_pos (by decide +kernel)]; kernel_rfl) | (rw [if_neg (by decide +kernel)]; exact ⟨rfl, rfl⟩))
    (fun os started H enc _ => lifted os started H enc)
theorem proved : Rows.PredTellsSaid := over
#print axioms proved
end Go.Proofs.Ytojefdnngkcaoaa.predTells
namespace Go.Proofs.Ytojefdnngkcaoaa
/-- The row, under a short name, for the claim. -/
theorem predTells_holds : Rows.PredTellsSaid := predTells.proved
end Go.Proofs.Ytojefdnngkcaoaa
end
