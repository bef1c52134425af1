/- The statement IndexMore over numbers and lists: an event with one attribute more meets no fewer. -/
import Derived.Laws.Strings
import Derived.Lib.Strings
import Derived.Lib.Bytealg
import Derived.Test.YtbcnknmgljdmlaaZIndexMore1
import Derived.Test.YtbcnknmgljdmlaaZIndexMore0
import Derived.Test.YtbcnknmgljdmlaaZIndexMore2
import Derived.Test.YtbcnknmgljdmlaaZIndexMore3
import Derived.OpenShut
import Derived.WalkKit
import Derived.Deep.Slices
import Derived.DataReads
import Derived.ChangeShapes
import Derived.WideLaws
import Derived.SizedLaws
import Derived.Test.YtbcnknmgljdmlaaProg
import Derived.Test.YtbcnknmgljdmlaaRows
import Derived.ProofKit
import Derived.ShutString
import Derived.ChangeOld
import Derived.Below
import Derived.Lib.SmallJoins
section
/- values and predicates over numbers and lists: which are right, how they stand, of what they hold -/
set_option linter.unusedVariables false
set_option linter.unusedSimpArgs false
set_option autoImplicit false
namespace Go.Proofs.Ytbcnknmgljdmlaa
open Go.RowKit Go.Proofs.YtbcnknmgljdmlaaW.PrintWords Go.Proofs.YtbcnknmgljdmlaaW.PrintLast Go.Proofs.YtbcnknmgljdmlaaW.PrintMore Go.Proofs.Ytbcnknmgljdmlaa.G

/-! ### which are right -/
theorem andNot_one (i : Int) (h0 : -9223372036854775808 ≤ i) (h1 : i < 9223372036854775808) : (bits .andNot .i64 i 1 = 0) ↔ (0 ≤ i ∧ i ≤ 1) := by
  obtain ⟨X, hX⟩ : ∃ X, (BitVec.ofInt 64 i).toNat = X := ⟨_, rfl⟩
  have hb : bits .andNot .i64 i 1 = IntKind.i64.wrap ((X &&& 18446744073709551614 : Nat) : Int) := by
    show IntKind.i64.wrap ((BitVec.ofInt 64 i &&& ~~~BitVec.ofInt 64 1).toNat : Int) = _
    rw [BitVec.toNat_and, hX]
    rfl
  have hx : (X : Int) = i % 18446744073709551616 := by
    rw [← hX, BitVec.toNat_ofInt]
    omega
  have hd : (X &&& 18446744073709551614) / 2 = X / 2 := by
    rw [Nat.and_div_two, show 18446744073709551614 / 2 = 2 ^ 63 - 1 from rfl, Nat.and_two_pow_sub_one_eq_mod]
    omega
  have hm : (X &&& 18446744073709551614) % 2 = 0 := by
    have := Nat.and_mod_two_pow (a := X) (b := 18446744073709551614) (n := 1)
    simp only [show (2 : Nat) ^ 1 = 2 from rfl] at this
    rw [this]
    simp
  rw [hb, IntKind.wrap_i64]
  generalize X &&& 18446744073709551614 = Y at *
  omega
def vright (k i : Int) (t : ByteArray) : Bool :=
  if k = 1 then t.toList == [] else if k = 2 then (if i = 0 then decide ((t.size : Int) ≤ 64) else false) else if k = 3 then (if t.toList = [] then decide (0 ≤ i ∧ i ≤ 1) else false) else false
theorem right_f (k i : Int) (t : ByteArray) (h0 : -9223372036854775808 ≤ i) (h1 : i < 9223372036854775808) : value_Right.f k i t = some (vright k i t) := by
  unfold value_Right.f vright
  split
  · rfl
  split
  · split <;> rfl
  split
  · split
    · congr 1
      rw [Bool.eq_iff_iff]
      simp only [beq_iff_eq, decide_eq_true_eq]
      exact andNot_one i h0 h1
    · rfl
  · rfl
theorem rright_f (k i : Int) (t : ByteArray) : rosetteref04_Right.f k i t = some (vright k i t) := by
  unfold rosetteref04_Right.f vright
  split
  · rfl
  split
  · split <;> rfl
  split
  · split
    · split
      · rename_i h
        congr 1
        rw [Bool.eq_iff_iff]
        simp only [decide_eq_true_eq]
        omega
      · rename_i h
        congr 1
        rw [Bool.eq_iff_iff]
        simp only [decide_eq_true_eq, Bool.false_eq_true, false_iff]
        omega
    · rfl
  · rfl

/-! ### how they stand -/
def cmpI (a b : Int) : Int := if a < b then -1 else if a > b then 1 else 0
def or3 (x y z : Int) : Int := if x = 0 then (if y = 0 then z else y) else x
def vcmp (k i : Int) (t : ByteArray) (k' i' : Int) (t' : ByteArray) : Int := or3 (cmpI k k') (cmpI i i') (Lib.compareBytes t.data.toList t'.data.toList)
theorem cmpInt_f (a b : Int) : cmp_Compare_int.f a b = some (cmpI a b) := by
  unfold cmp_Compare_int.f cmp_isNaN_int.f cmpI
  simp only [Option.bind_some, bne_self_eq_false, Bool.false_eq_true, if_false]
  split
  · rfl
  split <;> rfl
theorem or_f (k : Nat) (hk : 4 ≤ k) (x y z : Int) : cmp_Or_int.f k [x, y, z] = some (or3 x y z) := by
  obtain ⟨m, rfl⟩ : ∃ m, k = m + 4 := ⟨k - 4, by omega⟩
  have w0 : wrap64 (0 + 1) = 1 := by unfold wrap64; omega
  have w1 : wrap64 (1 + 1) = 2 := by unfold wrap64; omega
  have w2 : wrap64 (2 + 1) = 3 := by unfold wrap64; omega
  unfold cmp_Or_int.f or3
  simp only [cmp_Or_int.l0, List.length_cons, List.length_nil, w0, w1, w2]
  by_cases hx : x = 0
  · by_cases hy : y = 0
    · by_cases hz : z = 0 <;> simp [rd, hx, hy, hz]
    · simp [rd, hx, hy]
  · simp [rd, hx]
theorem compare_f (K : Nat) (hK : 4 ≤ K) (k i : Int) (t : ByteArray) (k' i' : Int) (t' : ByteArray) : value_Compare.f K k i t k' i' t' = some (vcmp k i t k' i' t') := by
  unfold value_Compare.f vcmp
  rw [cmpInt_f, cmpInt_f]
  unfold strings_Compare.f
  simp only [Option.bind_some]
  rw [or_f K hK]
  rfl
theorem bt_list (s : ByteArray) (i : Nat) (h : i < s.data.toList.length) : bt s (i : Int) = (s.data.toList[i].toNat : Int) := by
  have hs : i < s.size := by rw [Array.length_toList] at h; exact h
  unfold bt
  rw [dif_pos (by rw [Int.toNat_natCast]; exact hs)]
  simp only [Int.toNat_natCast]
  rfl
theorem less_go (a b : ByteArray) (ha : a.size < 9223372036854775807) : ∀ (f i e : Nat), i ≤ a.size → i ≤ b.size → i + f = a.size → rosetteref04_less.l0 (2 * f + 2 + e) a b (i : Int) = some (decide (Lib.compareBytes (a.data.toList.drop i) (b.data.toList.drop i) = -1)) := by
  have hla : a.data.toList.length = a.size := by rw [Array.length_toList]; rfl
  have hlb : b.data.toList.length = b.size := by rw [Array.length_toList]; rfl
  intro f
  induction f with
  | zero =>
    intro i e hi hj h
    rw [show 2 * 0 + 2 + e = (e + 1) + 1 by omega, rosetteref04_less.l0, if_neg (by omega), rosetteref04_less.j1, if_neg (by decide)]
    rw [List.drop_of_length_le (by omega)]
    congr 1
    rw [Bool.eq_iff_iff]
    simp only [decide_eq_true_eq]
    by_cases hb : i < b.size
    · rw [List.drop_eq_getElem_cons (by omega)]
      simp only [Lib.compareBytes]
      exact ⟨fun _ => trivial, fun _ => by omega⟩
    · rw [List.drop_of_length_le (l := b.data.toList) (by omega)]
      simp only [Lib.compareBytes]
      exact ⟨fun h => by omega, fun h => absurd h (by decide)⟩
  | succ f ih =>
    intro i e hi hj h
    have hw : wrap64 ((i : Int) + 1) = ((i + 1 : Nat) : Int) := by unfold wrap64; omega
    rw [show 2 * (f + 1) + 2 + e = (2 * f + 2 + e + 1) + 1 by omega, rosetteref04_less.l0, if_pos (by omega), rosetteref04_less.j1]
    by_cases hb : i < b.size
    · rw [if_pos (by simpa using hb), if_pos (by omega), if_pos (by omega), if_pos (by omega), hw, bt_list a i (by omega), bt_list b i (by omega)]
      rw [List.drop_eq_getElem_cons (l := a.data.toList) (by omega), List.drop_eq_getElem_cons (l := b.data.toList) (by omega)]
      simp only [Lib.compareBytes, UInt8.lt_iff_toNat_lt]
      generalize ha' : (a.data.toList[i]'(by omega)).toNat = x
      generalize hb' : (b.data.toList[i]'(by omega)).toNat = y
      by_cases hxy : x = y
      · subst hxy
        rw [if_pos rfl, if_neg (by omega), if_neg (by omega)]
        exact ih (i + 1) e (by omega) (by omega) (by omega)
      · rw [if_neg (by omega)]
        congr 1
        rw [Bool.eq_iff_iff]
        simp only [decide_eq_true_eq]
        by_cases hlt : x < y
        · rw [if_pos hlt]; omega
        · rw [if_neg hlt, if_pos (by omega)]; omega
    · rw [if_neg (by simpa using hb)]
      rw [List.drop_of_length_le (l := b.data.toList) (by omega), List.drop_eq_getElem_cons (l := a.data.toList) (by omega)]
      congr 1
      rw [Bool.eq_iff_iff]
      simp [Lib.compareBytes]
      omega
theorem less_f (a b : ByteArray) (ha : a.size < 9223372036854775807) (k : Nat) (hk : 2 * a.size + 2 ≤ k) : rosetteref04_less.f k a b = some (decide (Lib.compareBytes a.data.toList b.data.toList = -1)) := by
  have := less_go a b ha a.size 0 (k - (2 * a.size + 2)) (Nat.zero_le _) (Nat.zero_le _) (by omega)
  rw [show 2 * a.size + 2 + (k - (2 * a.size + 2)) = k by omega] at this
  exact this
theorem cmpB_zero : ∀ (a b : List UInt8), Lib.compareBytes a b = 0 ↔ a = b
  | [], [] => by simp [Lib.compareBytes]
  | [], _ :: _ => by simp [Lib.compareBytes]
  | _ :: _, [] => by simp [Lib.compareBytes]
  | x :: a, y :: b => by
    have ih := cmpB_zero a b
    simp only [Lib.compareBytes, UInt8.lt_iff_toNat_lt, List.cons.injEq, ← UInt8.toNat_inj]
    by_cases h1 : x.toNat < y.toNat
    · rw [if_pos h1]; simp; omega
    · rw [if_neg h1]
      by_cases h2 : y.toNat < x.toNat
      · rw [if_pos h2]; simp; omega
      · rw [if_neg h2, ih]
        constructor
        · intro h; exact ⟨by omega, h⟩
        · exact fun h => h.2
theorem cmpB_in : ∀ (a b : List UInt8), Lib.compareBytes a b = -1 ∨ Lib.compareBytes a b = 0 ∨ Lib.compareBytes a b = 1
  | [], [] => .inr (.inl rfl)
  | [], _ :: _ => .inl rfl
  | _ :: _, [] => .inr (.inr rfl)
  | x :: a, y :: b => by
    simp only [Lib.compareBytes]
    split
    · exact .inl rfl
    split
    · exact .inr (.inr rfl)
    · exact cmpB_in a b
theorem text_f (a b : ByteArray) (ha : a.size < 9223372036854775807) (k : Nat) (hk : 2 * a.size + 2 ≤ k) : rosetteref04_Text.f k a b = some (Lib.compareBytes a.data.toList b.data.toList) := by
  unfold rosetteref04_Text.f
  have hz := cmpB_zero a.data.toList b.data.toList
  have hin := cmpB_in a.data.toList b.data.toList
  have e1 : (a.toList = b.toList) ↔ (a.data.toList = b.data.toList) := by rw [ByteArray.toList_eq, ByteArray.toList_eq]
  rw [less_f a b ha k hk]
  simp only [Option.bind_some]
  by_cases h : a.data.toList = b.data.toList
  · rw [if_pos (e1.2 h), hz.2 h]
  · rw [if_neg (fun hh => h (e1.1 hh))]
    have : Lib.compareBytes a.data.toList b.data.toList ≠ 0 := fun hh => h (hz.1 hh)
    by_cases h1 : Lib.compareBytes a.data.toList b.data.toList = -1
    · rw [if_pos (by simpa using h1), h1]
    · rw [if_neg (by simpa using h1)]
      congr 1
      omega
theorem rcompare_f (K : Nat) (k i : Int) (t : ByteArray) (k' i' : Int) (t' : ByteArray) (ht : t.size < 9223372036854775807) (hK : 2 * t.size + 3 ≤ K) : rosetteref04_Compare.f K k i t k' i' t' = some (vcmp k i t k' i' t') := by
  obtain ⟨m, rfl⟩ : ∃ m, K = m + 1 := ⟨K - 1, by omega⟩
  unfold rosetteref04_Compare.f vcmp or3 cmpI
  simp only [rosetteref04_Compare.j0]
  rw [text_f t t' ht m (by omega)]
  simp only [Option.bind_some]
  by_cases h1 : k < k'
  · rw [if_pos h1]; simp [h1]
  · rw [if_neg h1]
    by_cases h2 : k = k'
    · subst h2
      rw [if_pos rfl]
      by_cases h3 : i < i'
      · simp [h3]
      · by_cases h4 : i > i'
        · simp [h3, h4]
        · simp [h3, h4]
    · have h5 : k > k' := by omega
      rw [if_neg h2]
      simp [h1, h5]
/-- which predicates are right -/
def pnamed (n t : ByteArray) : Bool := if n.toList = [] then false else if (n.size : Int) ≤ 16 then decide ((t.size : Int) ≤ 32) else false
def prightB (n : ByteArray) (o k i : Int) (t : ByteArray) : Bool :=
  if o = 8 then pnamed n t && (k == 0 && (i == 0 && t.toList == []))
  else if o = 7 ∧ k ≠ 2 then false else pnamed n t && (decide (1 ≤ o) && decide (o ≤ 7) && vright k i t)
theorem right_j (K : Nat) (b : Bool) (n : ByteArray) (o k i : Int) (t : ByteArray) (h0 : -9223372036854775808 ≤ i) (h1 : i < 9223372036854775808) :
    pred_Right.j0 (K + 1) b n o k i t = some (if o = 8 then b && (k == 0 && (i == 0 && t.toList == [])) else if o = 7 ∧ k ≠ 2 then false else b && (decide (1 ≤ o) && decide (o ≤ 7) && vright k i t)) := by
  simp only [pred_Right.j0]
  rw [right_f k i t h0 h1]
  simp only [Option.bind_some]
  by_cases a8 : o = 8
  · subst a8; cases b <;> simp
  · by_cases a7 : o = 7
    · subst a7; by_cases k2 : k = 2 <;> cases b <;> simp [k2]
    · by_cases o1 : 1 ≤ o <;> by_cases o7 : o ≤ 7 <;> cases b <;> simp [a8, a7, o1, o7]
theorem pright_f (K : Nat) (n : ByteArray) (o k i : Int) (t : ByteArray) (h0 : -9223372036854775808 ≤ i) (h1 : i < 9223372036854775808) : pred_Right.f (K + 1) n o k i t = some (prightB n o k i t) := by
  unfold pred_Right.f prightB pnamed
  split
  · rw [right_j _ _ _ _ _ _ _ h0 h1]
  · split
    · rw [right_j _ _ _ _ _ _ _ h0 h1]
    · rw [right_j _ _ _ _ _ _ _ h0 h1]
theorem pright_at {K : Nat} (hK : 0 < K) (n : ByteArray) (o k i : Int) (t : ByteArray) (h0 : -9223372036854775808 ≤ i) (h1 : i < 9223372036854775808) : pred_Right.f K n o k i t = some (prightB n o k i t) := by
  obtain ⟨K, rfl⟩ : ∃ m, K = m + 1 := ⟨K - 1, by omega⟩
  exact pright_f K n o k i t h0 h1
theorem size_nil (n : ByteArray) : n.toList = [] ↔ n.size = 0 := by
  rw [ByteArray.toList_eq]
  constructor
  · intro h
    have := congrArg List.length h
    rw [Array.length_toList] at this
    exact this
  · intro h
    apply List.eq_nil_of_length_eq_zero
    rw [Array.length_toList]
    exact h
theorem pnamed_eq (n t : ByteArray) : pnamed n t = (decide (1 ≤ n.size ∧ n.size ≤ 16) && decide (t.size ≤ 32)) := by
  unfold pnamed
  by_cases h0 : n.toList = []
  · rw [if_pos h0, decide_eq_false (by have := (size_nil n).1 h0; omega)]; rfl
  · rw [if_neg h0]
    have hp : n.size ≠ 0 := fun h => h0 ((size_nil n).2 h)
    by_cases h1 : (n.size : Int) ≤ 16
    · rw [if_pos h1, decide_eq_true (show 1 ≤ n.size ∧ n.size ≤ 16 by omega), Bool.true_and, decide_eq_decide]; omega
    · rw [if_neg h1, decide_eq_false (show ¬ (1 ≤ n.size ∧ n.size ≤ 16) by omega)]; rfl
theorem rpright_f {K : Nat} (hK : 0 < K) (n : ByteArray) (o k i : Int) (t : ByteArray) (h0 : -9223372036854775808 ≤ i) (h1 : i < 9223372036854775808) : rosetteref06_Right.f K n o k i t = some (prightB n o k i t) := by
  obtain ⟨K, rfl⟩ : ∃ m, K = m + 1 := ⟨K - 1, by omega⟩
  have J : ∀ b, rosetteref06_Right.j0 (K + 1) b n o k i t = some (if b = true then false else if o = 8 then (k == 0 && (i == 0 && t.toList == [])) else if o = 7 ∧ k ≠ 2 then false else decide (t.size ≤ 32) && (decide (1 ≤ o) && decide (o ≤ 7) && vright k i t)) := by
    intro b
    simp only [rosetteref06_Right.j0]
    rw [rright_f]
    simp only [Option.bind_some]
    cases b with
    | true => rfl
    | false =>
      simp only [Bool.false_eq_true, if_false]
      by_cases a8 : o = 8
      · rw [if_pos a8, if_pos a8]
      rw [if_neg a8, if_neg a8]
      by_cases o1 : 1 ≤ o <;> by_cases o7 : o ≤ 7 <;> by_cases a7 : o = 7 <;> by_cases k2 : k = 2 <;> by_cases t3 : t.size ≤ 32 <;> cases vright k i t <;> simp [o1, o7, a7, k2, t3] <;> omega
  unfold rosetteref06_Right.f prightB
  rw [pnamed_eq]
  have hz : (k == 0 && (i == 0 && t.toList == [])) = true → t.size ≤ 32 := by
    intro h
    simp only [Bool.and_eq_true, beq_iff_eq] at h
    have := (size_nil t).1 h.2.2
    omega
  by_cases a1 : (n.size : Int) < 1
  · rw [if_pos a1, J, if_pos rfl, decide_eq_false (show ¬ (1 ≤ n.size ∧ n.size ≤ 16) by omega)]
    simp
  · rw [if_neg a1, J]
    by_cases a2 : (n.size : Int) > 16
    · rw [decide_eq_true a2, if_pos rfl, decide_eq_false (show ¬ (1 ≤ n.size ∧ n.size ≤ 16) by omega)]
      simp
    · rw [decide_eq_false a2, if_neg (by decide), decide_eq_true (show 1 ≤ n.size ∧ n.size ≤ 16 by omega)]
      congr 1
      by_cases a8 : o = 8
      · rw [if_pos a8, if_pos a8]
        cases hq : (k == 0 && (i == 0 && t.toList == [])) with
        | true => rw [decide_eq_true (hz hq)]; rfl
        | false => simp
      · rw [if_neg a8, if_neg a8]
        simp only [Bool.true_and]

def hasPre (s p : ByteArray) : Bool := if p.size ≤ s.size then (s.extract 0 p.size).toList == p.toList else false
theorem hasPrefix_f (s p : ByteArray) : strings_HasPrefix.f s p = some (hasPre s p) := by
  unfold strings_HasPrefix.f stringslite_HasPrefix.f hasPre
  by_cases h : p.size ≤ s.size
  · rw [if_pos (by omega), if_pos (by omega), if_pos (by omega), if_pos h]; rfl
  · rw [if_neg (by omega), if_neg h]; rfl
def askB (o c : Int) : Bool := if o = 1 then c == 0 else if o = 2 then c != 0 else if o = 3 then decide (c < 0) else if o = 4 then decide (c ≤ 0) else if o = 5 then decide (c > 0) else decide (c ≥ 0)
def holdsB (n : ByteArray) (o k i : Int) (t : ByteArray) (vk vi : Int) (vt : ByteArray) : Bool :=
  if prightB n o k i t = true then (if vright vk vi vt = true then (if o = 8 then true else if vk = k then (if o = 7 then hasPre vt t else askB o (vcmp vk vi vt k i t)) else false) else false) else false
theorem pright_op {n : ByteArray} {o k i : Int} {t : ByteArray} (h : prightB n o k i t = true) : 1 ≤ o ∧ o ≤ 8 := by
  unfold prightB at h
  by_cases a8 : o = 8
  · omega
  · rw [if_neg a8] at h
    split at h
    · cases h
    · simp only [Bool.and_eq_true, decide_eq_true_eq] at h
      omega
theorem holds_f {K : Nat} (hK : 6 ≤ K) (n : ByteArray) (o k i : Int) (t : ByteArray) (vk vi : Int) (vt : ByteArray) (h0 : -9223372036854775808 ≤ i) (h1 : i < 9223372036854775808) (g0 : -9223372036854775808 ≤ vi) (g1 : vi < 9223372036854775808) :
    pred_Holds.f K n o k i t vk vi vt = some (holdsB n o k i t vk vi vt) := by
  obtain ⟨K, rfl⟩ : ∃ m, K = m + 1 := ⟨K - 1, by omega⟩
  unfold pred_Holds.f holdsB
  rw [pright_f K n o k i t h0 h1]
  simp only [Option.bind_some]
  by_cases hp : prightB n o k i t = true
  · rw [if_pos hp, if_pos hp, right_f vk vi vt g0 g1]
    simp only [Option.bind_some, pred_Holds.j0]
    by_cases hv : vright vk vi vt = true
    · obtain ⟨o1, o8⟩ := pright_op hp
      rw [if_neg (by rw [hv]; decide), if_pos hv, compare_f K (by omega)]
      simp only [Option.bind_some]
      rw [hasPrefix_f]
      simp only [Option.bind_some]
      by_cases a8 : o = 8
      · rw [if_pos a8, if_pos a8]
      rw [if_neg a8, if_neg a8]
      by_cases ek : vk = k
      · rw [if_pos ek, if_pos ek]
        by_cases a7 : o = 7
        · rw [if_pos a7, if_pos a7]
        rw [if_neg a7, if_neg a7]
        generalize vcmp vk vi vt k i t = c
        have ho : o = 1 ∨ o = 2 ∨ o = 3 ∨ o = 4 ∨ o = 5 ∨ o = 6 := by omega
        have hc : c < 0 ∨ c = 0 ∨ c > 0 := by omega
        unfold askB
        rcases hc with hc | hc | hc
        · rcases ho with rfl | rfl | rfl | rfl | rfl | rfl <;> simp [hc, show ¬ (c > 0) by omega, show c ≠ 0 by omega, show c ≤ 0 by omega, show ¬ (0 ≤ c) by omega]
        · subst hc
          rcases ho with rfl | rfl | rfl | rfl | rfl | rfl <;> simp
        · rcases ho with rfl | rfl | rfl | rfl | rfl | rfl <;> simp [show c > 0 by omega, show ¬ (c < 0) by omega, show c ≠ 0 by omega, show ¬ (c ≤ 0) by omega, show 0 ≤ c by omega]
      · rw [if_neg ek, if_neg ek]
    · rw [if_pos (by simpa using hv), if_neg hv]
  · rw [if_neg hp, if_neg hp]
    simp only [pred_Holds.j0]
    rw [if_pos trivial]
theorem rholds_f {K : Nat} (n : ByteArray) (o k i : Int) (t : ByteArray) (vk vi : Int) (vt : ByteArray) (h0 : -9223372036854775808 ≤ i) (h1 : i < 9223372036854775808) (g0 : -9223372036854775808 ≤ vi) (g1 : vi < 9223372036854775808) (hs : vt.size < 9223372036854775807) (hK : 2 * vt.size + 5 ≤ K) :
    rosetteref06_Holds.f K n o k i t vk vi vt = some (holdsB n o k i t vk vi vt) := by
  obtain ⟨K, rfl⟩ : ∃ m, K = m + 1 := ⟨K - 1, by omega⟩
  unfold rosetteref06_Holds.f holdsB
  rw [rpright_f (by omega) n o k i t h0 h1, rright_f]
  simp only [Option.bind_some]
  by_cases hp : prightB n o k i t = true
  · rw [if_pos hp, if_pos hp]
    simp only [rosetteref06_Holds.j0]
    by_cases hv : vright vk vi vt = true
    · obtain ⟨o1, o8⟩ := pright_op hp
      rw [if_neg (by rw [hv]; decide), if_pos hv, rcompare_f K _ _ _ _ _ _ hs (by omega)]
      simp only [Option.bind_some]
      by_cases a8 : o = 8
      · rw [if_pos a8, if_pos a8]
      rw [if_neg a8, if_neg a8]
      by_cases ek : vk = k
      · rw [if_pos ek, if_pos ek]
        by_cases a7 : o = 7
        · subst a7
          simp only [show ¬ ((7 : Int) = 1) by decide, show ¬ ((7 : Int) = 2) by decide, show ¬ ((7 : Int) = 3) by decide, show ¬ ((7 : Int) = 4) by decide, show ¬ ((7 : Int) = 5) by decide, show ¬ ((7 : Int) = 6) by decide, if_false, if_true]
          unfold hasPre
          by_cases h : t.size ≤ vt.size
          · rw [if_pos (by omega), if_pos (by omega), if_pos (by omega), if_pos h]; rfl
          · rw [if_neg (by omega), if_neg h]
        rw [if_neg a7]
        generalize vcmp vk vi vt k i t = c
        have ho : o = 1 ∨ o = 2 ∨ o = 3 ∨ o = 4 ∨ o = 5 ∨ o = 6 := by omega
        unfold askB
        rcases ho with rfl | rfl | rfl | rfl | rfl | rfl <;> simp
      · rw [if_neg ek, if_neg ek]
    · rw [if_pos (by simpa using hv), if_neg hv]
  · rw [if_neg hp, if_neg hp]
    simp only [rosetteref06_Holds.j0]
    rw [if_pos trivial]
end Go.Proofs.Ytbcnknmgljdmlaa
end

section
-- Written by a program of this session (wip/tools/myprint.py), over the kit's print.
namespace Go.Proofs.Ytbcnknmgljdmlaa.G
open Go.RowKit Go.Proofs.YtbcnknmgljdmlaaW.PrintWords Go.Proofs.YtbcnknmgljdmlaaW.PrintLast Go.Proofs.YtbcnknmgljdmlaaW.PrintMore
attribute [local go_sem] max2_int min2_int max_two min_two max_three min_three max_four min_four   -- for this text's walks alone
set_option linter.unusedVariables false
set_option linter.unusedSimpArgs false

/-! ### rosetteref11_Ints: function 16 -/
def rosetteref11_Ints.l0 : Nat → List Int → List Int → Int → Option (Bool)
  | 0, _, _, _ => none
  | k + 1, x0, x1, x5 => if x5 < (x0.length : Int) then (if 0 ≤ x5 then (if x5 < (x1.length : Int) then (if (rd x0 x5) = (rd x1 x5) then (rosetteref11_Ints.l0 k x0 x1 (wrap64 (x5 + 1))) else (some false)) else (none)) else (none)) else (some true)
def rosetteref11_Ints.f (k : Nat) (l0 : List Int) (l1 : List Int) : Option (Bool) := if (l0.length : Int) = (l1.length : Int) then (rosetteref11_Ints.l0 k l0 l1 0) else (some false)
theorem rosetteref11_Ints.mono_l : ∀ k, (∀ y0 y1 y2, LeO (rosetteref11_Ints.l0 k y0 y1 y2) (rosetteref11_Ints.l0 (k + 1) y0 y1 y2))
  | 0 => fun _ _ _ r h => by simp [rosetteref11_Ints.l0] at h
  | k + 1 => by
    have ih0 := rosetteref11_Ints.mono_l k
    · intro y0 y1 y2
      unfold rosetteref11_Ints.l0
      repeat' first
      | (with_reducible exact ih0 _ _ _)
      | (with_reducible exact LeO.refl _)
      | (with_reducible exact LeO.none _)
      | (with_reducible refine LeO.ite ?_ ?_)
      | (with_reducible refine LeO.bind ?_ (fun _ => ?_))
      | exact ih0 _ _ _
      | exact LeO.none _
      | refine LeO.ite ?_ ?_
      | refine LeO.bind ?_ (fun _ => ?_)
theorem rosetteref11_Ints.mono : ∀ a0 a1 k, LeO (rosetteref11_Ints.f k a0 a1) (rosetteref11_Ints.f (k + 1) a0 a1) := by
  intro a0 a1 k
  have ih0 := rosetteref11_Ints.mono_l k
  unfold rosetteref11_Ints.f
  repeat' first
      | (with_reducible exact ih0 _ _ _)
      | (with_reducible exact LeO.refl _)
      | (with_reducible exact LeO.none _)
      | (with_reducible refine LeO.ite ?_ ?_)
      | (with_reducible refine LeO.bind ?_ (fun _ => ?_))
      | exact ih0 _ _ _
      | exact LeO.none _
      | refine LeO.ite ?_ ?_
      | refine LeO.bind ?_ (fun _ => ?_)
set_option maxHeartbeats 8000000 in
set_option maxRecDepth 100000 in
theorem rosetteref11_Ints.calls (k : Nat) (A0 : Option Addr) (c0 : Nat) (l0 : List Int) (A1 : Option Addr) (c1 : Nat) (l1 : List Int) (r : Bool) (w : World) (hr0 : Kd.C (Kd.int .i64) w A0 l0.length l0) (hc0 : l0.length ≤ c0) (hr1 : Kd.C (Kd.int .i64) w A1 l1.length l1) (hc1 : l1.length ≤ c1) (h : rosetteref11_Ints.f k l0 l1 = some r) :
    Calls Try.prog 16 #[.slice A0 l0.length c0, .slice A1 l1.length c1] w fun e w' => e = .returned (.bool r) ∧ Drawn0 w w' := by
  have HR0 := Aside0.mk hr0
  have HC0 := Aside0.mk hc0
  clear hr0 hc0
  have HR1 := Aside0.mk hr1
  have HC1 := Aside0.mk hc1
  clear hr1 hc1
  have H : (if (l0.length : Int) = (l1.length : Int) then (rosetteref11_Ints.l0 k l0 l1 0) else (some false)) = some r := h
  clear h
  by_cases c3 : (l0.length : Int) = (l1.length : Int)
  · rw [if_pos c3] at H
    have c3b0 : ((l0.length : Int) == (l1.length : Int)) = true := beq_iff_eq.mpr c3
    have c3b1 : ((l0.length : Int) != (l1.length : Int)) = false := bne_eq_false_iff_eq.mpr c3
    have c3b2 : (l0.length == l1.length) = true := by first | simpa using c3 | (simp at c3 ⊢; omega)
    clear c3
    have H' := Aside0.mk H
    clear H
    go_enter Try.func16, Try.ntmps16
    go_wp2
    repeat (go_quiet (fail); try go_wp2)
    go_loopg [5] k (fun kq v5 w' => ∃ (x5_1 : Int), v5 = .int .i64 x5_1 ∧ Aside0 (rosetteref11_Ints.l0 kq l0 l1 x5_1 = some r) ∧ Aside0 (kq ≤ k) ∧ Drawn0 w w')
    case atStart => exact ⟨(0), (by first | rfl | (simp; done) | (simp [*]; done)), H', ⟨Nat.le_refl _⟩, by repeat (first | exact Drawn0.refl _ | apply Drawn0.step)⟩
    case round =>
      clear H'
      try clear c1
      try clear p2
      try clear c3
      try clear c3b0
      try clear c3b1
      try clear c3b2
      obtain ⟨x5_1, rfl, HA, HK1, ⟨m1, rfl⟩⟩ := hrel
      cases gk with
      | zero => exact absurd HA.out (by simp [rosetteref11_Ints.l0])
      | succ k1 =>
        have H := HA.out
        clear HA
        simp only [rosetteref11_Ints.l0] at H
        by_cases c4 : x5_1 < (l0.length : Int)
        · rw [if_pos c4] at H
          have c4b0 : decide (x5_1 < (l0.length : Int)) = true := decide_eq_true c4
          clear c4
          by_cases c5 : 0 ≤ x5_1
          · rw [if_pos c5] at H
            have c5b0 : decide (0 ≤ x5_1) = true := decide_eq_true c5
            clear c5
            by_cases c6 : x5_1 < (l1.length : Int)
            · rw [if_pos c6] at H
              have c6b0 : decide (x5_1 < (l1.length : Int)) = true := decide_eq_true c6
              clear c6
              by_cases c7 : (rd l0 x5_1) = (rd l1 x5_1)
              · rw [if_pos c7] at H
                have c7b0 : ((rd l0 x5_1) == (rd l1 x5_1)) = true := beq_iff_eq.mpr c7
                have c7b1 : ((rd l0 x5_1) != (rd l1 x5_1)) = false := bne_eq_false_iff_eq.mpr c7
                clear c7
                have H' := Aside0.mk H
                clear H
                have p124 : 0 ≤ (x5_1 : Int) := of_decide_eq_true (by first | (with_reducible assumption) | assumption)
                have q124 : x5_1 < (l0.length : Int) := of_decide_eq_true (by first | (with_reducible assumption) | assumption)
                obtain ⟨ad124, e124, hx124_0⟩ := Kd.at_int HR0.out x5_1 p124 q124
                cases e124
                replace p124 := eq_true p124
                replace q124 := eq_true q124
                have p125 : 0 ≤ (x5_1 : Int) := of_decide_eq_true (by first | (with_reducible assumption) | assumption)
                have q125 : x5_1 < (l1.length : Int) := of_decide_eq_true (by first | (with_reducible assumption) | assumption)
                obtain ⟨ad125, e125, hx125_0⟩ := Kd.at_int HR1.out x5_1 p125 q125
                cases e125
                replace p125 := eq_true p125
                replace q125 := eq_true q125
                go_wp2
                repeat (go_quiet (fail); try go_wp2)
                go_roundg k1
                case measure => have := HK1.out; omega
                case rel => exact ⟨(wrap64 (x5_1 + 1)), (by first | rfl | (simp; done) | (simp [*]; done)), H', ⟨by have := HK1.out; omega⟩, by repeat (first | exact Drawn0.refl _ | apply Drawn0.step)⟩
              · rw [if_neg c7] at H
                have c7b0 : ((rd l0 x5_1) == (rd l1 x5_1)) = false := beq_eq_false_iff_ne.mpr c7
                have c7b1 : ((rd l0 x5_1) != (rd l1 x5_1)) = true := bne_iff_ne.mpr c7
                obtain rfl := Option.some.inj H
                have p124 : 0 ≤ (x5_1 : Int) := of_decide_eq_true (by first | (with_reducible assumption) | assumption)
                have q124 : x5_1 < (l0.length : Int) := of_decide_eq_true (by first | (with_reducible assumption) | assumption)
                obtain ⟨ad124, e124, hx124_0⟩ := Kd.at_int HR0.out x5_1 p124 q124
                cases e124
                replace p124 := eq_true p124
                replace q124 := eq_true q124
                have p125 : 0 ≤ (x5_1 : Int) := of_decide_eq_true (by first | (with_reducible assumption) | assumption)
                have q125 : x5_1 < (l1.length : Int) := of_decide_eq_true (by first | (with_reducible assumption) | assumption)
                obtain ⟨ad125, e125, hx125_0⟩ := Kd.at_int HR1.out x5_1 p125 q125
                cases e125
                replace p125 := eq_true p125
                replace q125 := eq_true q125
                go_wp2
                repeat (go_quiet (fail); try go_wp2)
                go_ret
                exact ⟨by first | rfl | (simp; done) | (simp [*]; done), by repeat (first | exact Drawn0.refl _ | apply Drawn0.step)⟩
            · rw [if_neg c6] at H
              exact absurd H (by simp)
          · rw [if_neg c5] at H
            exact absurd H (by simp)
        · rw [if_neg c4] at H
          have c4b0 : decide (x5_1 < (l0.length : Int)) = false := decide_eq_false c4
          clear c4
          obtain rfl := Option.some.inj H
          go_wp2
          repeat (go_quiet (fail); try go_wp2)
          go_ret
          exact ⟨by first | rfl | (simp; done) | (simp [*]; done), by repeat (first | exact Drawn0.refl _ | apply Drawn0.step)⟩
  · rw [if_neg c3] at H
    have c3b0 : ((l0.length : Int) == (l1.length : Int)) = false := beq_eq_false_iff_ne.mpr c3
    have c3b1 : ((l0.length : Int) != (l1.length : Int)) = true := bne_iff_ne.mpr c3
    have c3b2 : (l0.length == l1.length) = false := by first | simpa using c3 | (simp at c3 ⊢; omega)
    obtain rfl := Option.some.inj H
    go_enter Try.func16, Try.ntmps16
    go_wp2
    repeat (go_quiet (fail); try go_wp2)
    go_ret
    exact ⟨by first | rfl | (simp; done) | (simp [*]; done), by repeat (first | exact Drawn0.refl _ | apply Drawn0.step)⟩

end Go.Proofs.Ytbcnknmgljdmlaa.G
end

section
/- rosettelaw12.small, walked -/
set_option linter.unusedVariables false
set_option linter.unusedSimpArgs false
set_option autoImplicit false
namespace Go.Proofs.Ytbcnknmgljdmlaa
open Go Go.RowKit Go.Proofs.YtbcnknmgljdmlaaW.PrintWords Go.Proofs.YtbcnknmgljdmlaaW.PrintLast Go.Proofs.YtbcnknmgljdmlaaW.PrintMore Go.Proofs.Ytbcnknmgljdmlaa.G

/-! ### Meet, of what predicates hold -/
def hbI (p : S47) (v : S45) : Bool := holdsB p.f0 p.f1 p.f2.f0 p.f2.f1 p.f2.f2 v.f0 v.f1 v.f2
def AttrOk (a : S49) : Prop := a.f0.size ≤ maxLen ∧ (Lit.int .i64 a.f1.f1).wf = true
theorem mem_keys {q : List (Int × S47)} {p : S47} (h : p ∈ keysOf q) : ∃ x ∈ q, x.2 = p := by
  have hg : ∀ (l : List (Int × S47)) (ks : List S47), p ∈ l.foldl (fun ks x => addK ks x.2) ks → p ∈ ks ∨ ∃ x ∈ l, x.2 = p := by
    intro l
    induction l with
    | nil => intro ks h; exact .inl h
    | cons x l ih =>
      intro ks h
      rcases ih _ h with h | ⟨y, hy, e⟩
      · rcases addK_mem.1 h with h | h
        · exact .inl h
        · exact .inr ⟨x, by simp, h.symm⟩
      · exact .inr ⟨y, by simp [hy], e⟩
  rcases hg q [] h with h | h
  · cases h
  · exact h
theorem pairs_mem : ∀ (l : List S41) (i : Nat) (x : Int × S47), x ∈ pairsFrom i l → (i : Int) ≤ x.1 ∧ x.1 < (i : Int) + l.length ∧ ∃ e ∈ l, x.2 ∈ e.f2 := by
  intro l
  induction l with
  | nil => intro i x h; simp [pairsFrom] at h
  | cons e l ih =>
    intro i x h
    rw [pairsFrom, List.mem_append] at h
    rcases h with h | h
    · obtain ⟨p, hp, rfl⟩ := List.mem_map.1 h
      simp only [List.length_cons]
      exact ⟨by omega, by omega, e, by simp, hp⟩
    · obtain ⟨h1, h2, e', he, hp⟩ := ih (i + 1) x h
      simp only [List.length_cons]
      exact ⟨by omega, by omega, e', by simp [he], hp⟩
/-- what is told of entries and an event -/
def tellL (l : List S41) (e : List S49) : List Int := meetI hbI (pairsFrom 0 l) (l.map (·.f0)) (l.map fun e => (e.f2.length : Int)) e
def EntOk (l : List S41) : Prop := l.length ≤ 100000 ∧ (pairsFrom 0 l).length ≤ 100000 ∧ ∀ e ∈ l, ∀ p ∈ e.f2, KeyOk p
theorem ent_len {l : List S41} (h : EntOk l) : ∀ e ∈ l, e.f2.length ≤ 100000 := by
  have hg : ∀ (l : List S41) (i : Nat), ∀ e ∈ l, e.f2.length ≤ (pairsFrom i l).length := by
    intro l
    induction l with
    | nil => intro i e he; cases he
    | cons x l ih =>
      intro i e he
      rw [pairsFrom, List.length_append, List.length_map]
      rcases List.mem_cons.1 he with rfl | he
      · omega
      · have := ih (i + 1) e he; omega
  intro e he
  have := hg l 0 e he
  have := h.2.1
  omega
theorem wbuild2 (A0 : Option Addr) (c0 : Nat) (l : List S41) (w : World) (hr0 : Kd.C k41 w A0 l.length l) (hc0 : l.length ≤ c0) (h : EntOk l) :
    Calls Try.prog 10 #[.slice A0 l.length c0] w fun e w' => e = .returned (.pointer (some ⟨w.heap.size + 2, 0, none⟩)) ∧ IxQ w w' [] (pairsFrom 0 l) (l.map (·.f0)) (l.map fun e => (e.f2.length : Int)) :=
  wbuild A0 c0 l w hr0 hc0 (by have := h.1; omega) (by have := h.2.1; omega) (fun e he => by have := ent_len h e he; omega) h.2.2
theorem wmeet2 (l : List S41) (hl : EntOk l) {w0 : World} (A1 : Option Addr) (c1 : Nat) (e : List S49) (w : World) (h : IxQ w0 w [] (pairsFrom 0 l) (l.map (·.f0)) (l.map fun e => (e.f2.length : Int))) (hr1 : Kd.C k49 w A1 e.length e) (hc1 : e.length ≤ c1) (he : e.length ≤ 100000) (ha : ∀ a ∈ e, AttrOk a) :
    Calls Try.prog 15 #[.pointer (some ⟨w0.heap.size + 2, 0, none⟩), .slice A1 e.length c1] w fun e' w' => ∃ v, e' = .returned v ∧ (Kd.int .i64).R 3 w' w.heap.size (fun _ => True) v (tellL l e) ∧ Below w.heap.size w w' := by
  have hk : ∀ p ∈ keysOf (pairsFrom 0 l), KeyOk p := fun p hp => by
    obtain ⟨x, hx, rfl⟩ := mem_keys hp
    obtain ⟨_, _, en, hen, hp2⟩ := pairs_mem l 0 x hx
    exact hl.2.2 en hen _ hp2
  refine wmeet hbI 6 _ _ _ A1 c1 e w h hr1 hc1 (by simp) hl.2.1 he (by simpa using hl.1) (fun x hx => by have := pairs_mem l 0 x hx; simp only [List.length_map]; omega) hk (fun a ha' => (ha a ha').1) (fun p hp a ha' => ?_)
  have h1 := Go.bounds_i64 (hk p hp).2.1.2
  have h2 := Go.bounds_i64 (ha a ha').2
  exact holds_f (by decide) _ _ _ _ _ _ _ _ (by omega) (by omega) (by omega) (by omega)
theorem lmeet (l : List S41) (hl : EntOk l) {w0 : World} (A1 : Option Addr) (c1 : Nat) (e : List S49) (n : Nat) (hn : e.length = n) (res : List Int) (hres : tellL l e = res) (w : World) (h : IxQ w0 w [] (pairsFrom 0 l) (l.map (·.f0)) (l.map fun e => (e.f2.length : Int))) (hr1 : Kd.C k49 w A1 n e) (hc1 : n ≤ c1) (he : n ≤ 100000) (ha : ∀ a ∈ e, AttrOk a) :
    Calls Try.prog 15 #[.pointer (some ⟨w0.heap.size + 2, 0, none⟩), .slice A1 n c1] w fun e' w' => ∃ A c, e' = .returned (.slice A res.length c) ∧ res.length ≤ c ∧ (Kd.int .i64).C w' A res.length res ∧ Below w.heap.size w w' := by
  subst hn
  subst hres
  refine (wmeet2 l hl A1 c1 e w h hr1 hc1 he ha).mono ?_
  rintro e' w' ⟨v, rfl, hR, hB⟩
  obtain ⟨A, c, rfl, h1, h2⟩ := own_C hR
  exact ⟨A, c, rfl, h1, h2, hB⟩
/-! ### rows that are laid -/
theorem preds_lit {W : World} {b : Nat} (l : List S47) (h : W.heap[b]? = some (.cells (l.flatMap predC).toArray 47 (0, 0))) (hl : l.length ≤ 100000) : k47.C W (some ⟨b, 0, none⟩) l.length l := by
  have hf : (l.flatMap predC).length = l.length * 5 := (reps_preds l W 0 (fun _ => True)).1
  have ho : W.ownsRow 0 47 5 (.slice (some ⟨b, 0, none⟩) l.length l.length) l.length (l.flatMap predC) :=
    ⟨hf, .inr ⟨b, l.length, _, rfl, Nat.zero_le _, h, Nat.le_refl _, by simp only [maxLen]; omega, by simp [hf], by rw [List.take_of_length_le]; simp [hf]⟩⟩
  obtain ⟨A, c, he, _, hC⟩ := preds_C ho
  injection he with e1
  subst e1
  exact hC
def attrC (a : S49) : List Value := [.string a.f0, .int .i64 a.f1.f0, .int .i64 a.f1.f1, .string a.f1.f2]
theorem reps_attrs : ∀ (l : List S49) (W : World) (base : Nat) (ok : Nat → Prop), Reps (fun p cs => k49.M W base ok p cs) 4 l (l.flatMap attrC) := by
  intro l W base ok
  refine ⟨?_, fun j p hj => ?_⟩
  · induction l with
    | nil => rfl
    | cons x l ih => simp only [List.flatMap_cons, List.length_append, List.length_cons]; rw [ih]; simp [attrC]; omega
  · have : ((l.flatMap attrC).drop (j * 4)).take 4 = attrC p := by
      induction l generalizing j with
      | nil => simp at hj
      | cons x l ih =>
        cases j with
        | zero =>
          simp only [List.getElem?_cons_zero, Option.some.injEq] at hj
          subst hj
          rw [Nat.zero_mul, List.drop_zero, List.flatMap_cons, List.take_append_of_le_length (by simp [attrC])]
          rfl
        | succ j =>
          rw [List.getElem?_cons_succ] at hj
          have := ih j hj
          rw [List.flatMap_cons, show (j + 1) * 4 = (attrC x).length + j * 4 by simp [attrC]; omega, ← List.drop_drop, List.drop_left]
          exact this
    rw [this]
    exact k49_mkM W base ok p
theorem attrs_C {W : World} {base : Nat} {v : Value} {l : List S49} (h : W.ownsRow base 49 4 v l.length (l.flatMap attrC)) : ∃ A c, v = .slice A l.length c ∧ l.length ≤ c ∧ k49.C W A l.length l := by
  have hR : k49.R 49 W base (fun _ => True) v l := ⟨fun _ _ => trivial, l.flatMap attrC, h, reps_attrs l _ _ _⟩
  obtain ⟨A, c, rfl⟩ := Kd.R_slice hR
  have := Kd.R_reads' hR
  exact ⟨A, c, rfl, this.2.1, this.2.2⟩
theorem attrs_lit {W : World} {b : Nat} (l : List S49) (h : W.heap[b]? = some (.cells (l.flatMap attrC).toArray 49 (0, 0))) (hl : l.length ≤ 100000) : k49.C W (some ⟨b, 0, none⟩) l.length l := by
  have hf : (l.flatMap attrC).length = l.length * 4 := (reps_attrs l W 0 (fun _ => True)).1
  have ho : W.ownsRow 0 49 4 (.slice (some ⟨b, 0, none⟩) l.length l.length) l.length (l.flatMap attrC) :=
    ⟨hf, .inr ⟨b, l.length, _, rfl, Nat.zero_le _, h, Nat.le_refl _, by simp only [maxLen]; omega, by simp [hf], by rw [List.take_of_length_le]; simp [hf]⟩⟩
  obtain ⟨A, c, he, _, hC⟩ := attrs_C ho
  injection he with e1
  subst e1
  exact hC
/-! ### the small case -/
def P1 : S47 := ⟨{ data := #[97] }, 6, ⟨1, 5, { data := #[] }⟩⟩
def P2 : S47 := ⟨{ data := #[98] }, 8, ⟨0, 0, { data := #[] }⟩⟩
def L3 : List S41 := [⟨9, 0, [P1, P2]⟩, ⟨4, 0, []⟩, ⟨7, 0, [P1, P1]⟩]
def V5 : S45 := ⟨1, 5, { data := #[] }⟩
def E1 : List S49 := [⟨{ data := #[97] }, V5⟩]
def E2 : List S49 := [⟨{ data := #[97] }, V5⟩, ⟨{ data := #[98] }, V5⟩]
theorem L3ok : EntOk L3 := by
  refine ⟨by decide, by decide +kernel, fun e he p hp => ?_⟩
  have k1 : KeyOk P1 := ⟨⟨by decide, by decide⟩, ⟨by decide, by decide⟩, by decide⟩
  have k2 : KeyOk P2 := ⟨⟨by decide, by decide⟩, ⟨by decide, by decide⟩, by decide⟩
  simp only [L3, List.mem_cons, List.not_mem_nil, or_false] at he
  rcases he with rfl | rfl | rfl
  · simp only [List.mem_cons, List.not_mem_nil, or_false] at hp
    rcases hp with rfl | rfl <;> assumption
  · cases hp
  · simp only [List.mem_cons, List.not_mem_nil, or_false] at hp
    rcases hp with rfl | rfl <;> assumption
theorem E1ok : ∀ a ∈ E1, AttrOk a := by
  intro a ha
  simp only [E1, List.mem_cons, List.not_mem_nil, or_false] at ha
  subst ha
  exact ⟨by decide, by decide⟩
theorem E2ok : ∀ a ∈ E2, AttrOk a := by
  intro a ha
  simp only [E2, List.mem_cons, List.not_mem_nil, or_false] at ha
  rcases ha with rfl | rfl <;> exact ⟨by decide, by decide⟩
theorem tell1 : tellL L3 E1 = [4, 7] := by decide +kernel
theorem tell2 : tellL L3 E2 = [9, 4, 7] := by decide +kernel
theorem tell0 : tellL L3 [] = [4] := by decide +kernel
theorem keys3 : (keysOf (pairsFrom 0 L3)).length = 2 := by decide +kernel
theorem lay12 (w : World) : k41.C (((((w.alloc (.cells #[.string { data := #[97] }, .int .i64 6, .int .i64 1, .int .i64 5, .string { data := #[] }] 47 (0, 0))).alloc (.cells #[.string { data := #[98] }, .int .i64 8, .int .i64 0, .int .i64 0, .string { data := #[] }] 47 (0, 0))).alloc (.cells #[.string { data := #[97] }, .int .i64 6, .int .i64 1, .int .i64 5, .string { data := #[] }, .string { data := #[98] }, .int .i64 8, .int .i64 0, .int .i64 0, .string { data := #[] }] 47 (0, 0))).alloc (.cells #[.string { data := #[97] }, .int .i64 6, .int .i64 1, .int .i64 5, .string { data := #[] }, .string { data := #[97] }, .int .i64 6, .int .i64 1, .int .i64 5, .string { data := #[] }] 47 (0, 0))).alloc (.cells #[.int .i64 9, .int .i64 0, .slice (some ⟨w.heap.size + 1 + 1, 0, none⟩) 2 2, .int .i64 4, .int .i64 0, .slice none 0 0, .int .i64 7, .int .i64 0, .slice (some ⟨w.heap.size + 1 + 1 + 1, 0, none⟩) 2 2] 41 (0, 0))) (some ⟨w.heap.size + 1 + 1 + 1 + 1, 0, none⟩) 3 L3 ∧ Below w.heap.size w (((((w.alloc (.cells #[.string { data := #[97] }, .int .i64 6, .int .i64 1, .int .i64 5, .string { data := #[] }] 47 (0, 0))).alloc (.cells #[.string { data := #[98] }, .int .i64 8, .int .i64 0, .int .i64 0, .string { data := #[] }] 47 (0, 0))).alloc (.cells #[.string { data := #[97] }, .int .i64 6, .int .i64 1, .int .i64 5, .string { data := #[] }, .string { data := #[98] }, .int .i64 8, .int .i64 0, .int .i64 0, .string { data := #[] }] 47 (0, 0))).alloc (.cells #[.string { data := #[97] }, .int .i64 6, .int .i64 1, .int .i64 5, .string { data := #[] }, .string { data := #[97] }, .int .i64 6, .int .i64 1, .int .i64 5, .string { data := #[] }] 47 (0, 0))).alloc (.cells #[.int .i64 9, .int .i64 0, .slice (some ⟨w.heap.size + 1 + 1, 0, none⟩) 2 2, .int .i64 4, .int .i64 0, .slice none 0 0, .int .i64 7, .int .i64 0, .slice (some ⟨w.heap.size + 1 + 1 + 1, 0, none⟩) 2 2] 41 (0, 0))) := by
  have b1 := (Below.refl w.heap.size w).alloc (Nat.le_refl _) (.cells #[.string { data := #[97] }, .int .i64 6, .int .i64 1, .int .i64 5, .string { data := #[] }] 47 (0, 0))
  have b2 := b1.alloc b1.size (.cells #[.string { data := #[98] }, .int .i64 8, .int .i64 0, .int .i64 0, .string { data := #[] }] 47 (0, 0))
  have b3 := b2.alloc b2.size (.cells #[.string { data := #[97] }, .int .i64 6, .int .i64 1, .int .i64 5, .string { data := #[] }, .string { data := #[98] }, .int .i64 8, .int .i64 0, .int .i64 0, .string { data := #[] }] 47 (0, 0))
  have b4 := b3.alloc b3.size (.cells #[.string { data := #[97] }, .int .i64 6, .int .i64 1, .int .i64 5, .string { data := #[] }, .string { data := #[97] }, .int .i64 6, .int .i64 1, .int .i64 5, .string { data := #[] }] 47 (0, 0))
  have b5 := b4.alloc b4.size (.cells #[.int .i64 9, .int .i64 0, .slice (some ⟨w.heap.size + 1 + 1, 0, none⟩) 2 2, .int .i64 4, .int .i64 0, .slice none 0 0, .int .i64 7, .int .i64 0, .slice (some ⟨w.heap.size + 1 + 1 + 1, 0, none⟩) 2 2] 41 (0, 0))
  have h2 := heap_alloc_new ((w.alloc (.cells #[.string { data := #[97] }, .int .i64 6, .int .i64 1, .int .i64 5, .string { data := #[] }] 47 (0, 0))).alloc (.cells #[.string { data := #[98] }, .int .i64 8, .int .i64 0, .int .i64 0, .string { data := #[] }] 47 (0, 0))) (.cells #[.string { data := #[97] }, .int .i64 6, .int .i64 1, .int .i64 5, .string { data := #[] }, .string { data := #[98] }, .int .i64 8, .int .i64 0, .int .i64 0, .string { data := #[] }] 47 (0, 0))
  rw [World.size_alloc, World.size_alloc] at h2
  have h3 := heap_alloc_new (((w.alloc (.cells #[.string { data := #[97] }, .int .i64 6, .int .i64 1, .int .i64 5, .string { data := #[] }] 47 (0, 0))).alloc (.cells #[.string { data := #[98] }, .int .i64 8, .int .i64 0, .int .i64 0, .string { data := #[] }] 47 (0, 0))).alloc (.cells #[.string { data := #[97] }, .int .i64 6, .int .i64 1, .int .i64 5, .string { data := #[] }, .string { data := #[98] }, .int .i64 8, .int .i64 0, .int .i64 0, .string { data := #[] }] 47 (0, 0))) (.cells #[.string { data := #[97] }, .int .i64 6, .int .i64 1, .int .i64 5, .string { data := #[] }, .string { data := #[97] }, .int .i64 6, .int .i64 1, .int .i64 5, .string { data := #[] }] 47 (0, 0))
  rw [World.size_alloc, World.size_alloc, World.size_alloc] at h3
  have h4 := heap_alloc_new ((((w.alloc (.cells #[.string { data := #[97] }, .int .i64 6, .int .i64 1, .int .i64 5, .string { data := #[] }] 47 (0, 0))).alloc (.cells #[.string { data := #[98] }, .int .i64 8, .int .i64 0, .int .i64 0, .string { data := #[] }] 47 (0, 0))).alloc (.cells #[.string { data := #[97] }, .int .i64 6, .int .i64 1, .int .i64 5, .string { data := #[] }, .string { data := #[98] }, .int .i64 8, .int .i64 0, .int .i64 0, .string { data := #[] }] 47 (0, 0))).alloc (.cells #[.string { data := #[97] }, .int .i64 6, .int .i64 1, .int .i64 5, .string { data := #[] }, .string { data := #[97] }, .int .i64 6, .int .i64 1, .int .i64 5, .string { data := #[] }] 47 (0, 0))) (.cells #[.int .i64 9, .int .i64 0, .slice (some ⟨w.heap.size + 1 + 1, 0, none⟩) 2 2, .int .i64 4, .int .i64 0, .slice none 0 0, .int .i64 7, .int .i64 0, .slice (some ⟨w.heap.size + 1 + 1 + 1, 0, none⟩) 2 2] 41 (0, 0))
  rw [World.size_alloc, World.size_alloc, World.size_alloc, World.size_alloc] at h4
  have k2 := vkeepE (vkeepE h2 ((Below.refl _ _).alloc (Nat.le_refl _) (.cells #[.string { data := #[97] }, .int .i64 6, .int .i64 1, .int .i64 5, .string { data := #[] }, .string { data := #[97] }, .int .i64 6, .int .i64 1, .int .i64 5, .string { data := #[] }] 47 (0, 0)))) ((Below.refl _ _).alloc (Nat.le_refl _) (.cells #[.int .i64 9, .int .i64 0, .slice (some ⟨w.heap.size + 1 + 1, 0, none⟩) 2 2, .int .i64 4, .int .i64 0, .slice none 0 0, .int .i64 7, .int .i64 0, .slice (some ⟨w.heap.size + 1 + 1 + 1, 0, none⟩) 2 2] 41 (0, 0)))
  have k3 := vkeepE h3 ((Below.refl _ _).alloc (Nat.le_refl _) (.cells #[.int .i64 9, .int .i64 0, .slice (some ⟨w.heap.size + 1 + 1, 0, none⟩) 2 2, .int .i64 4, .int .i64 0, .slice none 0 0, .int .i64 7, .int .i64 0, .slice (some ⟨w.heap.size + 1 + 1 + 1, 0, none⟩) 2 2] 41 (0, 0)))
  have c2 := preds_lit [P1, P2] k2 (by decide)
  have c3 := preds_lit [P1, P1] k3 (by decide)
  clear h2 h3 k2 k3 b1 b2 b3 b4
  generalize (((((w.alloc (.cells #[.string { data := #[97] }, .int .i64 6, .int .i64 1, .int .i64 5, .string { data := #[] }] 47 (0, 0))).alloc (.cells #[.string { data := #[98] }, .int .i64 8, .int .i64 0, .int .i64 0, .string { data := #[] }] 47 (0, 0))).alloc (.cells #[.string { data := #[97] }, .int .i64 6, .int .i64 1, .int .i64 5, .string { data := #[] }, .string { data := #[98] }, .int .i64 8, .int .i64 0, .int .i64 0, .string { data := #[] }] 47 (0, 0))).alloc (.cells #[.string { data := #[97] }, .int .i64 6, .int .i64 1, .int .i64 5, .string { data := #[] }, .string { data := #[97] }, .int .i64 6, .int .i64 1, .int .i64 5, .string { data := #[] }] 47 (0, 0))).alloc (.cells #[.int .i64 9, .int .i64 0, .slice (some ⟨w.heap.size + 1 + 1, 0, none⟩) 2 2, .int .i64 4, .int .i64 0, .slice none 0 0, .int .i64 7, .int .i64 0, .slice (some ⟨w.heap.size + 1 + 1 + 1, 0, none⟩) 2 2] 41 (0, 0))) = W at h4 c2 c3 b5 ⊢
  refine ⟨⟨rfl, by decide, fun _ => ⟨_, rfl, fun j p hj => ?_⟩⟩, b5⟩
  have hj3 : j < 3 := (List.getElem?_eq_some_iff.1 hj).1
  match j, hj3 with
  | 0, _ =>
    simp only [L3, List.getElem?_cons_zero, Option.some.injEq] at hj
    subst hj
    refine ⟨[.int .i64 9, .int .i64 0, .slice (some ⟨w.heap.size + 1 + 1, 0, none⟩) 2 2], rfl, k41_mk W ⟨9, 0, [P1, P2]⟩ (c2 := 2) (Nat.le_refl _) c2, fun i u hu => ?_⟩
    rw [add_plain, cell_of_row _ _ _ _ _ _ h4]
    match i with
    | 0 => exact hu
    | 1 => exact hu
    | 2 => exact hu
    | i + 3 => simp at hu
  | 1, _ =>
    simp only [L3, List.getElem?_cons_succ, List.getElem?_cons_zero, Option.some.injEq] at hj
    subst hj
    refine ⟨[.int .i64 4, .int .i64 0, .slice none 0 0], rfl, k41_mk W ⟨4, 0, []⟩ (c2 := 0) (Nat.le_refl _) (Kd.C_nil _ _), fun i u hu => ?_⟩
    rw [add_plain, cell_of_row _ _ _ _ _ _ h4]
    match i with
    | 0 => exact hu
    | 1 => exact hu
    | 2 => exact hu
    | i + 3 => simp at hu
  | 2, _ =>
    simp only [L3, List.getElem?_cons_succ, List.getElem?_cons_zero, Option.some.injEq] at hj
    subst hj
    refine ⟨[.int .i64 7, .int .i64 0, .slice (some ⟨w.heap.size + 1 + 1 + 1, 0, none⟩) 2 2], rfl, k41_mk W ⟨7, 0, [P1, P1]⟩ (c2 := 2) (Nat.le_refl _) c3, fun i u hu => ?_⟩
    rw [add_plain, cell_of_row _ _ _ _ _ _ h4]
    match i with
    | 0 => exact hu
    | 1 => exact hu
    | 2 => exact hu
    | i + 3 => simp at hu
theorem ixq_below {w W : World} {fs : List (Nat × Obj)} {q : List (Int × S47)} {ids needs : List Int} (h : IxQ w W fs q ids needs) : Below w.heap.size w W := by
  obtain ⟨v, h⟩ := h.ex
  exact h.below
theorem drawn_belowI {w W : World} (h : Drawn0 w W) : Below w.heap.size w W := by
  obtain ⟨n, rfl⟩ := h
  exact pw_below_drewN (Below.refl _ _) n
set_option maxRecDepth 100000 in
set_option maxHeartbeats 8000000 in
theorem small_any (w : World) : Calls Try.prog 8 #[] w fun e w' => e = .returned (.bool true) ∧ Below w.heap.size w w' := by
  obtain ⟨hL, hB⟩ := lay12 w
  have HL := Aside0.mk hL
  have HB := Aside0.mk hB
  clear hL hB
  go_enter Try.func8, Try.ntmps8
  go_upto_region 4 with fail
  generalize (((((w.alloc (.cells #[.string { data := #[97] }, .int .i64 6, .int .i64 1, .int .i64 5, .string { data := #[] }] 47 (0, 0))).alloc (.cells #[.string { data := #[98] }, .int .i64 8, .int .i64 0, .int .i64 0, .string { data := #[] }] 47 (0, 0))).alloc (.cells #[.string { data := #[97] }, .int .i64 6, .int .i64 1, .int .i64 5, .string { data := #[] }, .string { data := #[98] }, .int .i64 8, .int .i64 0, .int .i64 0, .string { data := #[] }] 47 (0, 0))).alloc (.cells #[.string { data := #[97] }, .int .i64 6, .int .i64 1, .int .i64 5, .string { data := #[] }, .string { data := #[97] }, .int .i64 6, .int .i64 1, .int .i64 5, .string { data := #[] }] 47 (0, 0))).alloc (.cells #[.int .i64 9, .int .i64 0, .slice (some ⟨w.heap.size + 1 + 1, 0, none⟩) 2 2, .int .i64 4, .int .i64 0, .slice none 0 0, .int .i64 7, .int .i64 0, .slice (some ⟨w.heap.size + 1 + 1 + 1, 0, none⟩) 2 2] 41 (0, 0))) = w1 at HL HB ⊢
  go_wp2_with fail
  refine (wbuild2 (some ⟨w.heap.size + 1 + 1 + 1 + 1, 0, none⟩) 3 L3 w1 HL.out (by decide) L3ok).mono ?_
  rintro e w2 ⟨rfl, hQ⟩
  have HQ := Aside0.mk hQ
  have HB2 := Aside0.mk (HB.out.trans ((ixq_below hQ).mono HB.out.size))
  clear hQ HL HB
  go_upto_region 8 with fail
  obtain ⟨w3, hw3⟩ : ∃ x, x = w2.alloc (.cells #[.int .i64 1, .int .i64 5, .string { data := #[] }] 45 (0, 0)) := ⟨_, rfl⟩
  have HV := Aside0.mk (heap_alloc_new w2 (.cells #[.int .i64 1, .int .i64 5, .string { data := #[] }] 45 (0, 0)))
  have hX := (Below.refl w2.heap.size w2).alloc (Nat.le_refl _) (.cells #[.int .i64 1, .int .i64 5, .string { data := #[] }] 45 (0, 0))
  rw [← hw3] at HV hX ⊢
  clear hw3
  have HQ3 := Aside0.mk (HQ.out.step hX)
  have HB3 := Aside0.mk (HB2.out.trans (hX.mono HB2.out.size))
  have HV3 := HV
  clear hX HQ HB2 HV
  generalize w2.heap.size = vb at HV3 ⊢
  obtain ⟨⟨v0, v1, v2⟩, v3, v4, v5⟩ := cells3x HV3.out
  go_wp2_with fail
  clear v0 v1 v2 v3 v4 v5
  have hX := (Below.refl w3.heap.size w3).alloc (Nat.le_refl _) (.cells #[.string { data := #[97] }, .int .i64 1, .int .i64 5, .string { data := #[] }] 49 (0, 0))
  have HE := Aside0.mk (attrs_lit E1 (heap_alloc_new w3 (.cells #[.string { data := #[97] }, .int .i64 1, .int .i64 5, .string { data := #[] }] 49 (0, 0))) (by decide))
  have HQ4 := Aside0.mk (HQ3.out.step hX)
  have HV4 := Aside0.mk (vkeepE HV3.out hX)
  have HB4 := Aside0.mk (HB3.out.trans ((hX).mono HB3.out.size))
  clear HQ3 HV3 HB3
  clear hX
  refine (lmeet L3 L3ok (some ⟨w3.heap.size, 0, none⟩) 1 E1 1 rfl [4, 7] tell1 _ HQ4.out HE.out (by decide) (by decide) E1ok).mono ?_
  rintro e w5 ⟨A4, c4, rfl, hc, hC, hX⟩
  have HQ5 := Aside0.mk (HQ4.out.step hX)
  have HV5 := Aside0.mk (vkeepE HV4.out hX)
  have HB5 := Aside0.mk (HB4.out.trans ((hX).mono HB4.out.size))
  clear HQ4 HV4 HB4
  have HC := Aside0.mk hC
  have HCL := Aside0.mk hc
  clear hX hC hc
  clear HE
  have hX := (Below.refl w5.heap.size w5).alloc (Nat.le_refl _) (.cells #[.int .i64 4, .int .i64 7] 3 (0, 0))
  have HR := Aside0.mk (lit_C w5 3 .i64 [4, 7] (by decide))
  have HC2 := Aside0.mk (Kd.C_below HC.out hX)
  have HQ6 := Aside0.mk (HQ5.out.step hX)
  have HV6 := Aside0.mk (vkeepE HV5.out hX)
  have HB6 := Aside0.mk (HB5.out.trans ((hX).mono HB5.out.size))
  clear HQ5 HV5 HB5
  clear hX HC
  go_wp2_with fail
  refine (rosetteref11_Ints.calls 9 A4 c4 [4, 7] (some ⟨w5.heap.size, 0, none⟩) 2 [4, 7] true _ HC2.out HCL.out HR.out (by decide) (by decide +kernel)).mono ?_
  rintro e w7 ⟨rfl, hD⟩
  have hX := drawn_belowI hD
  have HQ7 := Aside0.mk (HQ6.out.step hX)
  have HV7 := Aside0.mk (vkeepE HV6.out hX)
  have HB7 := Aside0.mk (HB6.out.trans ((hX).mono HB6.out.size))
  clear HQ6 HV6 HB6
  clear hX hD HC2 HR HCL
  obtain ⟨⟨v0, v1, v2⟩, v3, v4, v5⟩ := cells3x HV7.out
  go_wp2_with fail
  clear v0 v1 v2 v3 v4 v5
  have hX := (Below.refl w7.heap.size w7).alloc (Nat.le_refl _) (.cells #[.string { data := #[97] }, .int .i64 1, .int .i64 5, .string { data := #[] }, .string { data := #[98] }, .int .i64 1, .int .i64 5, .string { data := #[] }] 49 (0, 0))
  have HE := Aside0.mk (attrs_lit E2 (heap_alloc_new w7 (.cells #[.string { data := #[97] }, .int .i64 1, .int .i64 5, .string { data := #[] }, .string { data := #[98] }, .int .i64 1, .int .i64 5, .string { data := #[] }] 49 (0, 0))) (by decide))
  have HQ8 := Aside0.mk (HQ7.out.step hX)
  have HV8 := Aside0.mk (vkeepE HV7.out hX)
  have HB8 := Aside0.mk (HB7.out.trans ((hX).mono HB7.out.size))
  clear HQ7 HV7 HB7
  clear hX
  refine (lmeet L3 L3ok (some ⟨w7.heap.size, 0, none⟩) 2 E2 2 rfl [9, 4, 7] tell2 _ HQ8.out HE.out (by decide) (by decide) E2ok).mono ?_
  rintro e w9 ⟨A8, c8, rfl, hc, hC, hX⟩
  have HQ9 := Aside0.mk (HQ8.out.step hX)
  have HV9 := Aside0.mk (vkeepE HV8.out hX)
  have HB9 := Aside0.mk (HB8.out.trans ((hX).mono HB8.out.size))
  clear HQ8 HV8 HB8
  have HC := Aside0.mk hC
  have HCL := Aside0.mk hc
  clear hX hC hc
  clear HE
  have hX := (Below.refl w9.heap.size w9).alloc (Nat.le_refl _) (.cells #[.int .i64 9, .int .i64 4, .int .i64 7] 3 (0, 0))
  have HR := Aside0.mk (lit_C w9 3 .i64 [9, 4, 7] (by decide))
  have HC2 := Aside0.mk (Kd.C_below HC.out hX)
  have HQ10 := Aside0.mk (HQ9.out.step hX)
  have HV10 := Aside0.mk (vkeepE HV9.out hX)
  have HB10 := Aside0.mk (HB9.out.trans ((hX).mono HB9.out.size))
  clear HQ9 HV9 HB9
  clear hX HC
  go_wp2_with fail
  refine (rosetteref11_Ints.calls 9 A8 c8 [9, 4, 7] (some ⟨w9.heap.size, 0, none⟩) 3 [9, 4, 7] true _ HC2.out HCL.out HR.out (by decide) (by decide +kernel)).mono ?_
  rintro e w11 ⟨rfl, hD⟩
  have hX := drawn_belowI hD
  have HQ11 := Aside0.mk (HQ10.out.step hX)
  have HV11 := Aside0.mk (vkeepE HV10.out hX)
  have HB11 := Aside0.mk (HB10.out.trans ((hX).mono HB10.out.size))
  clear HQ10 HV10 HB10
  clear hX hD HC2 HR HCL
  obtain ⟨⟨v0, v1, v2⟩, v3, v4, v5⟩ := cells3x HV11.out
  go_wp2_with fail
  clear v0 v1 v2 v3 v4 v5
  refine (lmeet L3 L3ok none 0 [] 0 rfl [4] tell0 w11 HQ11.out (Kd.C_nil _ _) (by decide) (by decide) (fun a ha => by cases ha)).mono ?_
  rintro e w12 ⟨A11, c11, rfl, hc, hC, hX⟩
  have HQ12 := Aside0.mk (HQ11.out.step hX)
  have HV12 := Aside0.mk (vkeepE HV11.out hX)
  have HB12 := Aside0.mk (HB11.out.trans ((hX).mono HB11.out.size))
  clear HQ11 HV11 HB11
  have HC := Aside0.mk hC
  have HCL := Aside0.mk hc
  clear hX hC hc
  have hX := (Below.refl w12.heap.size w12).alloc (Nat.le_refl _) (.cells #[.int .i64 4] 3 (0, 0))
  have HR := Aside0.mk (lit_C w12 3 .i64 [4] (by decide))
  have HC2 := Aside0.mk (Kd.C_below HC.out hX)
  have HQ13 := Aside0.mk (HQ12.out.step hX)
  have HV13 := Aside0.mk (vkeepE HV12.out hX)
  have HB13 := Aside0.mk (HB12.out.trans ((hX).mono HB12.out.size))
  clear HQ12 HV12 HB12
  clear hX HC
  go_wp2_with fail
  refine (rosetteref11_Ints.calls 9 A11 c11 [4] (some ⟨w12.heap.size, 0, none⟩) 1 [4] true _ HC2.out HCL.out HR.out (by decide) (by decide +kernel)).mono ?_
  rintro e w14 ⟨rfl, hD⟩
  have hX := drawn_belowI hD
  have HQ14 := Aside0.mk (HQ13.out.step hX)
  have HV14 := Aside0.mk (vkeepE HV13.out hX)
  have HB14 := Aside0.mk (HB13.out.trans ((hX).mono HB13.out.size))
  clear HQ13 HV13 HB13
  clear hX hD HC2 HR HCL
  go_wp2_with fail
  have hs := wsize HQ14.out
  rw [keys3] at hs
  refine hs.mono ?_
  clear hs
  rintro e w15 ⟨rfl, hw⟩
  subst hw
  go_wp2_with fail
  go_ret
  exact ⟨rfl, HB14.out⟩
end Go.Proofs.Ytbcnknmgljdmlaa
end

section
/- an index tells what is told by asking filter by filter; plain laws -/
set_option linter.unusedVariables false
set_option linter.unusedSimpArgs false
set_option autoImplicit false
namespace Go.Proofs.Ytbcnknmgljdmlaa
open Go Go.RowKit Go.Proofs.YtbcnknmgljdmlaaW.PrintWords Go.Proofs.YtbcnknmgljdmlaaW.PrintLast Go.Proofs.Ytbcnknmgljdmlaa.G

def metB (p : S47) : List S49 → Bool
  | [] => false
  | a :: e => if a.f0 = p.f0 then hbI p a.f1 else metB p e
def metF (f : List S47) (e : List S49) : Bool := f.all fun p => metB p e
def tellF (l : List S41) (e : List S49) : List Int := (l.filter fun en => metF en.f2 e).map (·.f0)

/-! ### the counts -/
theorem rd_set (c : List Int) (j i : Nat) (v : Int) (hj : j < c.length) : rd (c.set j v) (i : Int) = if j = i then v else rd c (i : Int) := by
  simp only [rd, Int.toNat_natCast, List.getD_eq_getElem?_getD, List.getElem?_set]
  by_cases h : j = i
  · subst h; simp [hj]
  · simp [h]
theorem rd_incs (ks : List Int) : ∀ (c : List Int) (i : Nat), (∀ k ∈ ks, 0 ≤ k ∧ k < (c.length : Int)) → rd (incs c ks) (i : Int) = rd c (i : Int) + (ks.count (i : Int) : Nat) := by
  induction ks with
  | nil => intro c i _; simp [incs]
  | cons k ks ih =>
    intro c i h
    have hk := h k (by simp)
    have h1 : incs c (k :: ks) = incs (c.set k.toNat (rd c k + 1)) ks := rfl
    rw [h1, ih _ i (fun x hx => by rw [List.length_set]; exact h x (by simp [hx])), rd_set _ _ _ _ (by omega), List.count_cons]
    by_cases he : k.toNat = i
    · have hki : k = (i : Int) := by omega
      rw [if_pos he, hki]
      simp
      omega
    · have hki : ¬ k = (i : Int) := by omega
      rw [if_neg he]
      simp [hki]
theorem occ_count (q : List (Int × S47)) (p : S47) (i : Int) : (occ q p).count i = q.countP fun x => decide (x.1 = i ∧ x.2 = p) := by
  induction q with
  | nil => rfl
  | cons x q ih =>
    rw [List.countP_cons, ← ih]
    unfold occ
    rw [List.filter_cons]
    by_cases h : x.2 = p
    · rw [if_pos (by simpa using h), List.map_cons, List.count_cons]
      by_cases h2 : x.1 = i <;> simp [h, h2]
    · rw [if_neg (by simpa using h)]
      simp [h]
theorem sum_one {ks : List S47} (hn : ks.Nodup) (y : S47) (hy : y ∈ ks) (g : S47 → Bool) (b : Bool) : (ks.map fun p => if g p = true then (if b = true ∧ y = p then 1 else 0) else 0).sum = if b = true ∧ g y = true then 1 else 0 := by
  induction ks with
  | nil => cases hy
  | cons a ks ih =>
    obtain ⟨h1, h2⟩ := List.nodup_cons.1 hn
    rw [List.map_cons, List.sum_cons]
    by_cases e : y = a
    · subst e
      have hz : (ks.map fun p => if g p = true then (if b = true ∧ y = p then 1 else 0) else 0).sum = 0 := by
        have : ks.map (fun p => if g p = true then (if b = true ∧ y = p then 1 else 0) else 0) = ks.map fun _ => 0 := List.map_congr_left fun p hp => by
          have : ¬ y = p := fun e => h1 (e ▸ hp)
          simp [this]
        rw [this]
        clear this ih h1 h2 hn hy
        induction ks with
        | nil => rfl
        | cons _ _ ih => simpa using ih
      rw [hz]
      cases b <;> cases g y <;> simp
    · have hm : y ∈ ks := by
        rcases List.mem_cons.1 hy with h | h
        · exact absurd h e
        · exact h
      rw [ih h2 hm]
      simp [e]
theorem sum_zero {α : Type} (ks : List α) : (ks.map fun _ => 0).sum = 0 := by
  induction ks with
  | nil => rfl
  | cons _ _ ih => simpa using ih
theorem sum_add {α : Type} (ks : List α) (f g : α → Nat) : (ks.map fun p => f p + g p).sum = (ks.map f).sum + (ks.map g).sum := by
  induction ks with
  | nil => rfl
  | cons a ks ih => simp only [List.map_cons, List.sum_cons, ih]; omega
theorem sum_keys {ks : List S47} (hn : ks.Nodup) (g : S47 → Bool) (i : Int) : ∀ (q : List (Int × S47)), (∀ x ∈ q, x.2 ∈ ks) →
    (ks.map fun p => if g p = true then q.countP (fun x => decide (x.1 = i ∧ x.2 = p)) else 0).sum = q.countP fun x => decide (x.1 = i) && g x.2 := by
  intro q
  induction q with
  | nil => intro _; simp [sum_zero]
  | cons x q ih =>
    intro h
    have h1 := sum_one hn x.2 (h x (by simp)) g (decide (x.1 = i))
    have h2 := ih fun y hy => h y (by simp [hy])
    have : (ks.map fun p => if g p = true then (x :: q).countP (fun x => decide (x.1 = i ∧ x.2 = p)) else 0) = ks.map fun p => (if g p = true then q.countP (fun x => decide (x.1 = i ∧ x.2 = p)) else 0) + (if g p = true then (if decide (x.1 = i) = true ∧ x.2 = p then 1 else 0) else 0) := by
      refine List.map_congr_left fun p _ => ?_
      rw [List.countP_cons]
      by_cases hg : g p = true
      · rw [if_pos hg, if_pos hg, if_pos hg]
        simp
      · rw [if_neg hg, if_neg hg, if_neg hg]
    rw [this, sum_add, h2, h1, List.countP_cons]
    simp
theorem rd_cntA (q : List (Int × S47)) (v : S45) (i : Nat) : ∀ (ns : List S47) (c : List Int), (∀ p ∈ ns, ∀ k ∈ occ q p, 0 ≤ k ∧ k < (c.length : Int)) →
    rd (ns.foldl (cntP hbI q v) c) (i : Int) = rd c (i : Int) + ((ns.map fun p => if hbI p v = true then q.countP (fun x => decide (x.1 = (i : Int) ∧ x.2 = p)) else 0).sum : Nat) := by
  intro ns
  induction ns with
  | nil => intro c _; simp
  | cons p ns ih =>
    intro c h
    rw [List.foldl_cons, ih _ (fun x hx => by rw [cntP_len]; exact h x (by simp [hx])), List.map_cons, List.sum_cons]
    unfold cntP
    by_cases hb : hbI p v = true
    · rw [if_pos hb, if_pos hb, rd_incs _ _ _ (h p (by simp)), occ_count]
      omega
    · rw [if_neg hb, if_neg hb]
      omega
theorem sum_filter (ks : List S47) (r : S47 → Bool) (f : S47 → Nat) : ((ks.filter r).map f).sum = (ks.map fun p => if r p = true then f p else 0).sum := by
  induction ks with
  | nil => rfl
  | cons a ks ih =>
    rw [List.filter_cons]
    by_cases h : r a = true
    · rw [if_pos h]; simp [h, ih]
    · rw [if_neg h]; simp [h, ih]
theorem keys_nodup (q : List (Int × S47)) : (keysOf q).Nodup := by
  have h : ∀ (l : List (Int × S47)) (ks : List S47), ks.Nodup → (l.foldl (fun ks x => addK ks x.2) ks).Nodup := by
    intro l
    induction l with
    | nil => intro ks h; exact h
    | cons x l ih => intro ks h; exact ih _ (addK_nodup h _)
  exact h q [] List.nodup_nil
theorem keys_mem {q : List (Int × S47)} {x : Int × S47} (h : x ∈ q) : x.2 ∈ keysOf q := by
  have hg : ∀ (l : List (Int × S47)) (ks : List S47), (x.2 ∈ ks ∨ x ∈ l) → x.2 ∈ l.foldl (fun ks x => addK ks x.2) ks := by
    intro l
    induction l with
    | nil => intro ks h; rcases h with h | h; exact h; cases h
    | cons y l ih =>
      intro ks h
      refine ih _ ?_
      rcases h with h | h
      · exact .inl (addK_mem.2 (.inl h))
      · rcases List.mem_cons.1 h with rfl | h
        · exact .inl (addK_mem.2 (.inr rfl))
        · exact .inr h
  exact hg q [] (.inr h)
theorem rd_attr (q : List (Int × S47)) (a : S49) (i : Nat) (c : List Int) (h : ∀ x ∈ q, 0 ≤ x.1 ∧ x.1 < (c.length : Int)) :
    rd (cntA hbI q c a) (i : Int) = rd c (i : Int) + (q.countP (fun x => decide (x.1 = (i : Int)) && (decide (a.f0 = x.2.f0) && hbI x.2 a.f1)) : Nat) := by
  unfold cntA
  rw [rd_cntA q a.f1 i _ c (fun p _ => occ_in h p)]
  congr 2
  unfold named
  rw [sum_filter]
  rw [← sum_keys (keys_nodup q) (fun p => decide (a.f0 = p.f0) && hbI p a.f1) (i : Int) q (fun x hx => keys_mem hx)]
  congr 1
  refine List.map_congr_left fun p _ => ?_
  by_cases h1 : p.f0 = a.f0
  · by_cases h2 : hbI p a.f1 = true <;> simp [h1, h2]
  · have h1' : ¬ a.f0 = p.f0 := fun e => h1 e.symm
    simp [h1, h1']
theorem met_none {p : S47} : ∀ {e : List S49}, p.f0 ∉ e.map (·.f0) → metB p e = false := by
  intro e
  induction e with
  | nil => intro _; rfl
  | cons a e ih =>
    intro h
    rw [List.map_cons, List.mem_cons, not_or] at h
    rw [metB, if_neg (fun hh => h.1 hh.symm)]
    exact ih h.2
theorem count_met (i : Int) (a : S49) (e : List S49) (hn : a.f0 ∉ e.map (·.f0)) : ∀ q : List (Int × S47),
    q.countP (fun x => decide (x.1 = i) && (decide (a.f0 = x.2.f0) && hbI x.2 a.f1)) + q.countP (fun x => decide (x.1 = i) && metB x.2 e) = q.countP fun x => decide (x.1 = i) && metB x.2 (a :: e) := by
  intro q
  induction q with
  | nil => rfl
  | cons x q ih =>
    rw [List.countP_cons, List.countP_cons, List.countP_cons, ← ih]
    by_cases h1 : a.f0 = x.2.f0
    · have hm : metB x.2 e = false := met_none (by rw [← h1]; exact hn)
      rw [show metB x.2 (a :: e) = hbI x.2 a.f1 by rw [metB, if_pos h1], hm]
      simp [h1]
      omega
    · rw [show metB x.2 (a :: e) = metB x.2 e by rw [metB, if_neg h1]]
      simp [h1]
      omega
theorem rd_fold (q : List (Int × S47)) (i : Nat) : ∀ (e : List S49) (c : List Int), (e.map (·.f0)).Nodup → (∀ x ∈ q, 0 ≤ x.1 ∧ x.1 < (c.length : Int)) →
    rd (e.foldl (cntA hbI q) c) (i : Int) = rd c (i : Int) + (q.countP (fun x => decide (x.1 = (i : Int)) && metB x.2 e) : Nat) := by
  intro e
  induction e with
  | nil => intro c _ _; simp [metB]
  | cons a e ih =>
    intro c hn h
    rw [List.map_cons, List.nodup_cons] at hn
    rw [List.foldl_cons, ih _ hn.2 (fun x hx => by rw [cntA_len]; exact h x hx), rd_attr q a i c h, ← count_met (i : Int) a e hn.1 q]
    omega
theorem count_pairs (m : S47 → Bool) : ∀ (l : List S41) (s i : Nat), (pairsFrom s l).countP (fun x => decide (x.1 = ((s + i : Nat) : Int)) && m x.2) = (match l[i]? with | some en => en.f2.countP m | none => 0) := by
  intro l
  induction l with
  | nil => intro s i; simp [pairsFrom]
  | cons en l ih =>
    intro s i
    rw [pairsFrom, List.countP_append, List.countP_map]
    cases i with
    | zero =>
      have h2 : (pairsFrom (s + 1) l).countP (fun x => decide (x.1 = ((s + 0 : Nat) : Int)) && m x.2) = 0 := by
        rw [List.countP_eq_zero]
        intro x hx
        have := (pairs_mem l (s + 1) x hx).1
        have : ¬ x.1 = ((s + 0 : Nat) : Int) := by omega
        simp only [this, decide_false, Bool.false_and]
        decide
      rw [h2]
      simp [Function.comp_def]
    | succ i =>
      have h1 : en.f2.countP ((fun x : Int × S47 => decide (x.1 = ((s + (i + 1) : Nat) : Int)) && m x.2) ∘ fun p => ((s : Int), p)) = 0 := by
        rw [List.countP_eq_zero]
        intro p _
        have : ¬ (s : Int) = ((s + (i + 1) : Nat) : Int) := by omega
        simp only [Function.comp_apply, this, decide_false, Bool.false_and]
        decide
      rw [h1, Nat.zero_add, show s + (i + 1) = s + 1 + i by omega, ih (s + 1) i, List.getElem?_cons_succ]
theorem pick_eq (l : List S41) (e : List S49) (c : List Int) (hc : ∀ i : Nat, ∀ en, l[i]? = some en → rd c (i : Int) = (en.f2.countP (fun p => metB p e) : Nat)) : ∀ k, k ≤ l.length →
    pickI (l.map (·.f0)) (l.map fun e => (e.f2.length : Int)) c k = tellF (l.take k) e := by
  intro k
  induction k with
  | zero => intro _; rfl
  | succ k ih =>
    intro hk
    have hlt : k < l.length := by omega
    have hg : l[k]? = some l[k] := List.getElem?_eq_getElem hlt
    rw [pickI, ih (by omega), List.take_add_one, hg]
    unfold tellF
    rw [List.filter_append, List.map_append]
    congr 1
    have h1 : rd (l.map fun e => (e.f2.length : Int)) (k : Int) = (l[k].f2.length : Int) := by simp [rd, List.getD_eq_getElem?_getD, hlt]
    have h2 : rd (l.map (·.f0)) (k : Int) = l[k].f0 := by simp [rd, List.getD_eq_getElem?_getD, hlt]
    rw [hc k _ hg, h1, h2]
    have hiff : ((l[k].f2.countP (fun p => metB p e) : Nat) : Int) = (l[k].f2.length : Int) ↔ metF l[k].f2 e = true := by
      unfold metF
      rw [List.all_eq_true]
      constructor
      · intro h; exact List.countP_eq_length.1 (by omega)
      · intro h; have := List.countP_eq_length.2 h; omega
    by_cases hm : metF l[k].f2 e = true
    · rw [if_pos (hiff.2 hm)]; simp [hm]
    · rw [if_neg (fun h => hm (hiff.1 h))]; simp [hm]
/-- an index tells what is told by asking filter by filter -/
theorem tell_eq (l : List S41) (e : List S49) (hn : (e.map (·.f0)).Nodup) : tellL l e = tellF l e := by
  unfold tellL meetI
  rw [List.length_map]
  have h := pick_eq l e (meetC hbI (pairsFrom 0 l) l.length e) (fun i en hi => ?_) l.length (Nat.le_refl _)
  · rw [List.take_of_length_le (Nat.le_refl _)] at h
    exact h
  · unfold meetC
    rw [rd_fold (pairsFrom 0 l) i e _ hn (fun x hx => by have := pairs_mem l 0 x hx; rw [List.length_replicate]; omega)]
    have h0 : rd (List.replicate l.length (0 : Int)) (i : Int) = 0 := by
      simp only [rd, Int.toNat_natCast, List.getD_eq_getElem?_getD, List.getElem?_replicate]
      split <;> rfl
    have h1 := count_pairs (fun p => metB p e) l 0 i
    rw [Nat.zero_add, hi] at h1
    rw [h0, h1]
    simp
/-! ### names of a right event are unlike -/
theorem addG_sub (ns : List ByteArray) (l : List S49) : (l.foldl (fun ns x => addG ns x.f0) ns).length ≤ ns.length + l.length := by
  induction l generalizing ns with
  | nil => simp
  | cons x l ih =>
    rw [List.foldl_cons]
    have := ih (addG ns x.f0)
    have h2 : (addG ns x.f0).length ≤ ns.length + 1 := by unfold addG; split <;> simp
    simp only [List.length_cons]
    omega
theorem names_nodup : ∀ (l : List S49) (ns : List ByteArray), ns.Nodup → (l.foldl (fun ns x => addG ns x.f0) ns).length = ns.length + l.length → (l.map (·.f0)).Nodup ∧ ∀ x ∈ l, x.f0 ∉ ns := by
  intro l
  induction l with
  | nil => intro ns _ _; exact ⟨List.nodup_nil, fun x hx => by cases hx⟩
  | cons x l ih =>
    intro ns hn h
    rw [List.foldl_cons] at h
    have h1 := addG_sub (addG ns x.f0) l
    simp only [List.length_cons] at h
    by_cases hm : x.f0 ∈ ns
    · exfalso
      have : (addG ns x.f0).length = ns.length := by unfold addG; rw [if_pos hm]
      omega
    · have hg : addG ns x.f0 = ns ++ [x.f0] := by unfold addG; rw [if_neg hm]
      rw [hg] at h h1
      obtain ⟨h2, h3⟩ := ih (ns ++ [x.f0]) (by rw [List.nodup_append]; exact ⟨hn, by simp, fun a ha b hb => by rw [List.mem_singleton] at hb; subst hb; exact fun e => hm (e ▸ ha)⟩) (by rw [h]; simp; omega)
      refine ⟨?_, fun y hy => ?_⟩
      · rw [List.map_cons, List.nodup_cons]
        refine ⟨fun hmem => ?_, h2⟩
        obtain ⟨y, hy, he⟩ := List.mem_map.1 hmem
        exact h3 y hy (by rw [he]; simp)
      · rcases List.mem_cons.1 hy with rfl | hy
        · exact hm
        · exact fun hh => h3 y hy (by simp [hh])
theorem right_nodup {e : List S49} (h : rightE e = true) : (e.map (·.f0)).Nodup := by
  unfold rightE at h
  simp only [Bool.and_eq_true, Bool.not_eq_true'] at h
  have ht : ¬ (namesD e).length < e.length := by
    intro hh
    have := h.2.2.2
    unfold twiceE at this
    rw [decide_eq_true hh] at this
    cases this
  have h1 := addG_sub [] e
  exact (names_nodup e [] List.nodup_nil (by unfold namesD at ht; simp only [List.length_nil, Nat.zero_add] at h1 ⊢; omega)).1
/-! ### how many predicates there are -/
theorem nodup_len {A : List S47} (hA : A.Nodup) : ∀ {B : List S47}, (∀ x ∈ A, x ∈ B) → A.length ≤ B.length := by
  induction A with
  | nil => intro B _; simp
  | cons a A ih =>
    intro B h
    obtain ⟨h1, h2⟩ := List.nodup_cons.1 hA
    have ha : a ∈ B := h a (by simp)
    have := ih h2 (B := B.erase a) (fun x hx => (List.mem_erase_of_ne (fun (e : x = a) => h1 (e ▸ hx))).2 (h x (by simp [hx])))
    rw [List.length_erase_of_mem ha] at this
    have : 0 < B.length := List.length_pos_of_mem ha
    simp only [List.length_cons]
    omega
def sizeL (l : List S41) : Nat := (keysOf (pairsFrom 0 l)).length
theorem keys_iff (l : List S41) (p : S47) : p ∈ keysOf (pairsFrom 0 l) ↔ ∃ en ∈ l, p ∈ en.f2 := by
  constructor
  · intro h
    obtain ⟨x, hx, rfl⟩ := mem_keys h
    obtain ⟨_, _, en, hen, hp⟩ := pairs_mem l 0 x hx
    exact ⟨en, hen, hp⟩
  · rintro ⟨en, hen, hp⟩
    have hg : ∀ (l : List S41) (s : Nat), en ∈ l → ∃ x ∈ pairsFrom s l, x.2 = p := by
      intro l
      induction l with
      | nil => intro s h; cases h
      | cons e l ih =>
        intro s h
        rw [pairsFrom]
        rcases List.mem_cons.1 h with rfl | h
        · exact ⟨((s : Int), p), List.mem_append_left _ (List.mem_map.2 ⟨p, hp, rfl⟩), rfl⟩
        · obtain ⟨x, hx, he⟩ := ih (s + 1) h
          exact ⟨x, List.mem_append_right _ hx, he⟩
    obtain ⟨x, hx, rfl⟩ := hg l 0 hen
    exact keys_mem hx
theorem size_parts (a b : List S41) : sizeL (a ++ b) ≤ sizeL a + sizeL b := by
  unfold sizeL
  rw [← List.length_append]
  refine nodup_len (keys_nodup _) fun p hp => ?_
  obtain ⟨en, hen, hp⟩ := (keys_iff _ _).1 hp
  rw [List.mem_append]
  rcases List.mem_append.1 hen with h | h
  · exact .inl ((keys_iff _ _).2 ⟨en, h, hp⟩)
  · exact .inr ((keys_iff _ _).2 ⟨en, h, hp⟩)
theorem size_rev (a : List S41) : sizeL a.reverse = sizeL a := by
  unfold sizeL
  apply Nat.le_antisymm
  · exact nodup_len (keys_nodup _) fun p hp => by
      obtain ⟨en, hen, hp⟩ := (keys_iff _ _).1 hp
      exact (keys_iff _ _).2 ⟨en, List.mem_reverse.1 hen, hp⟩
  · exact nodup_len (keys_nodup _) fun p hp => by
      obtain ⟨en, hen, hp⟩ := (keys_iff _ _).1 hp
      exact (keys_iff _ _).2 ⟨en, List.mem_reverse.2 hen, hp⟩
theorem tell_append (a b : List S41) (e : List S49) : tellF (a ++ b) e = tellF a e ++ tellF b e := by unfold tellF; rw [List.filter_append, List.map_append]
theorem tell_rev (a : List S41) (e : List S49) : tellF a.reverse e = (tellF a e).reverse := by unfold tellF; rw [List.filter_reverse, List.map_reverse]
end Go.Proofs.Ytbcnknmgljdmlaa
end

section
-- Written by a program of this session (wip/tools/myprint.py), over the kit's print.
namespace Go.Proofs.Ytbcnknmgljdmlaa.G
open Go.RowKit Go.Proofs.YtbcnknmgljdmlaaW.PrintWords Go.Proofs.YtbcnknmgljdmlaaW.PrintLast Go.Proofs.YtbcnknmgljdmlaaW.PrintMore
attribute [local go_sem] max2_int min2_int max_two min_two max_three min_three max_four min_four   -- for this text's walks alone
set_option linter.unusedVariables false
set_option linter.unusedSimpArgs false

/-! ### rosettelaw09_Few: function 9 -/
mutual
def rosettelaw09_Few.l0 : Nat → List (S41) → Int → Int → Option (Bool)
  | 0, _, _, _ => none
  | k + 1, x0, x3, x4 => if x4 < (x0.length : Int) then (if 0 ≤ x4 then (rosettelaw09_Few.l1 k x0 (wrap64 (x3 + (((rd_T41 x0 x4).f2).length : Int))) x4 0) else (none)) else (if (x0.length : Int) ≤ 80 then (some (decide (x3 ≤ 300))) else (some false))
def rosettelaw09_Few.l1 : Nat → List (S41) → Int → Int → Int → Option (Bool)
  | 0, _, _, _, _ => none
  | k + 1, x0, x3, x4, x5 => if 0 ≤ x4 then (if x4 < (x0.length : Int) then (if x5 < (((rd_T41 x0 x4).f2).length : Int) then (if 0 ≤ x5 then (if (((rd_T47 ((rd_T41 x0 x4).f2) x5).f0).size : Int) > 100 then (some false) else (if (((rd_T47 ((rd_T41 x0 x4).f2) x5).f2.f2).size : Int) > 100 then (some false) else (rosettelaw09_Few.l1 k x0 x3 x4 (wrap64 (x5 + 1))))) else (none)) else (rosettelaw09_Few.l0 k x0 x3 (wrap64 (x4 + 1)))) else (none)) else (none)
end
def rosettelaw09_Few.f (k : Nat) (l0 : List (S41)) : Option (Bool) := rosettelaw09_Few.l0 k l0 0 0
theorem rosettelaw09_Few.mono_l : ∀ k, (∀ y0 y1 y2, LeO (rosettelaw09_Few.l0 k y0 y1 y2) (rosettelaw09_Few.l0 (k + 1) y0 y1 y2)) ∧ (∀ y0 y1 y2 y3, LeO (rosettelaw09_Few.l1 k y0 y1 y2 y3) (rosettelaw09_Few.l1 (k + 1) y0 y1 y2 y3))
  | 0 => ⟨fun _ _ _ r h => by simp [rosettelaw09_Few.l0] at h, fun _ _ _ _ r h => by simp [rosettelaw09_Few.l1] at h⟩
  | k + 1 => by
    obtain ⟨ih0, ih1⟩ := rosettelaw09_Few.mono_l k
    refine ⟨?_, ?_⟩
    · intro y0 y1 y2
      unfold rosettelaw09_Few.l0
      repeat' first
      | (with_reducible exact ih0 _ _ _)
      | (with_reducible exact ih1 _ _ _ _)
      | (with_reducible exact LeO.refl _)
      | (with_reducible exact LeO.none _)
      | (with_reducible refine LeO.ite ?_ ?_)
      | (with_reducible refine LeO.bind ?_ (fun _ => ?_))
      | exact ih0 _ _ _
      | exact ih1 _ _ _ _
      | exact LeO.none _
      | refine LeO.ite ?_ ?_
      | refine LeO.bind ?_ (fun _ => ?_)
    · intro y0 y1 y2 y3
      unfold rosettelaw09_Few.l1
      repeat' first
      | (with_reducible exact ih0 _ _ _)
      | (with_reducible exact ih1 _ _ _ _)
      | (with_reducible exact LeO.refl _)
      | (with_reducible exact LeO.none _)
      | (with_reducible refine LeO.ite ?_ ?_)
      | (with_reducible refine LeO.bind ?_ (fun _ => ?_))
      | exact ih0 _ _ _
      | exact ih1 _ _ _ _
      | exact LeO.none _
      | refine LeO.ite ?_ ?_
      | refine LeO.bind ?_ (fun _ => ?_)
theorem rosettelaw09_Few.mono : ∀ a0 k, LeO (rosettelaw09_Few.f k a0) (rosettelaw09_Few.f (k + 1) a0) := by
  intro a0 k
  obtain ⟨ih0, ih1⟩ := rosettelaw09_Few.mono_l k
  unfold rosettelaw09_Few.f
  repeat' first
      | (with_reducible exact ih0 _ _ _)
      | (with_reducible exact ih1 _ _ _ _)
      | (with_reducible exact LeO.refl _)
      | (with_reducible exact LeO.none _)
      | (with_reducible refine LeO.ite ?_ ?_)
      | (with_reducible refine LeO.bind ?_ (fun _ => ?_))
      | exact ih0 _ _ _
      | exact ih1 _ _ _ _
      | exact LeO.none _
      | refine LeO.ite ?_ ?_
      | refine LeO.bind ?_ (fun _ => ?_)
set_option maxHeartbeats 8000000 in
set_option maxRecDepth 100000 in
theorem rosettelaw09_Few.calls (k : Nat) (A0 : Option Addr) (c0 : Nat) (l0 : List (S41)) (r : Bool) (w : World) (hr0 : Kd.C k41 w A0 l0.length l0) (hc0 : l0.length ≤ c0) (h : rosettelaw09_Few.f k l0 = some r) :
    Calls Try.prog 9 #[.slice A0 l0.length c0] w fun e w' => e = .returned (.bool r) ∧ Below w.heap.size w w' := by
  have hu47 := Try.underlying47
  have HR0 := Aside0.mk hr0
  have HC0 := Aside0.mk hc0
  clear hr0 hc0
  have HB := Aside0.mk (Below.refl w.heap.size w)
  have H : (rosettelaw09_Few.l0 k l0 0 0) = some r := h
  clear h
  have H' := Aside0.mk H
  clear H
  go_enter Try.func9, Try.ntmps9
  go_wp2
  go_loopg [3, 4] k (fun kq v3 v4 w' => ∃ (x3_1 : Int) (x4_1 : Int), v3 = .int .i64 x3_1 ∧ v4 = .int .i64 x4_1 ∧ Aside0 (rosettelaw09_Few.l0 kq l0 x3_1 x4_1 = some r) ∧ Aside0 (kq ≤ k) ∧ Aside0 (Below w.heap.size w w'))
  case atStart => exact ⟨(0), (0), (by first | rfl | (simp; done) | (simp [*]; done)), (by first | rfl | (simp; done) | (simp [*]; done)), H', ⟨Nat.le_refl _⟩, ⟨by repeat (first | (with_reducible first | exact HB.out | apply below_alloc | apply pw_below_drewN | apply below_drew1) | exact HB.out)⟩⟩
  case round =>
    clear H'
    obtain ⟨x3_1, x4_1, rfl, rfl, HA, HK1, HB⟩ := hrel
    cases gk with
    | zero => exact absurd HA.out (by simp [rosettelaw09_Few.l0])
    | succ k1 =>
      have H := HA.out
      clear HA
      simp only [rosettelaw09_Few.l0] at H
      by_cases c2 : x4_1 < (l0.length : Int)
      · rw [if_pos c2] at H
        have c2b0 : decide (x4_1 < (l0.length : Int)) = true := decide_eq_true c2
        clear c2
        by_cases c3 : 0 ≤ x4_1
        · rw [if_pos c3] at H
          have c3b0 : decide (0 ≤ x4_1) = true := decide_eq_true c3
          clear c3
          have H' := Aside0.mk H
          clear H
          have p137 : 0 ≤ (x4_1 : Int) := of_decide_eq_true (by first | (with_reducible assumption) | assumption)
          have q137 : x4_1 < (l0.length : Int) := of_decide_eq_true (by first | (with_reducible assumption) | assumption)
          obtain ⟨ad137, A137_2, c137_2, e137, hx137_0, hx137_1, hx137_2, hl137_2, hi137_2⟩ := at_T41 HR0.out x4_1 p137 q137
          cases e137
          replace hx137_0 := (HB.out.cell (World.block_lt_of_cell? w _ hx137_0)).trans hx137_0
          replace hx137_1 := (HB.out.cell (World.block_lt_of_cell? w _ hx137_1)).trans hx137_1
          replace hx137_2 := (HB.out.cell (World.block_lt_of_cell? w _ hx137_2)).trans hx137_2
          have HR137_2 := Aside0.mk hi137_2
          have HC137_2 := Aside0.mk hl137_2
          clear hi137_2 hl137_2
          replace p137 := eq_true p137
          replace q137 := eq_true q137
          go_wp2
          go_loopg [5] k1 (fun kq v5 w' => ∃ (x5_2 : Int), v5 = .int .i64 x5_2 ∧ Aside0 (rosettelaw09_Few.l1 kq l0 (wrap64 (x3_1 + (((rd_T41 l0 x4_1).f2).length : Int))) x4_1 x5_2 = some r) ∧ Aside0 (kq ≤ k1) ∧ Aside0 (Below w.heap.size w w'))
          case atStart => exact ⟨(0), (by first | rfl | (simp; done) | (simp [*]; done)), H', ⟨Nat.le_refl _⟩, ⟨by repeat (first | (with_reducible first | exact HB.out | apply below_alloc | apply pw_below_drewN | apply below_drew1) | exact HB.out)⟩⟩
          case round =>
            clear H'
            try clear c1
            try clear p1
            try clear q1
            try clear hx1
            try clear c2
            try clear c2b0
            try clear p2
            try clear c3
            try clear c3b0
            try clear hx137_0
            try clear hx137_1
            try clear hx137_2
            try clear p137
            try clear q137
            obtain ⟨x5_2, rfl, HA, HK2, HB⟩ := hrel
            cases gk with
            | zero => exact absurd HA.out (by simp [rosettelaw09_Few.l1])
            | succ k2 =>
              have H := HA.out
              clear HA
              simp only [rosettelaw09_Few.l1] at H
              by_cases c4 : 0 ≤ x4_1
              · rw [if_pos c4] at H
                have c4b0 : decide (0 ≤ x4_1) = true := decide_eq_true c4
                clear c4
                by_cases c5 : x4_1 < (l0.length : Int)
                · rw [if_pos c5] at H
                  have c5b0 : decide (x4_1 < (l0.length : Int)) = true := decide_eq_true c5
                  clear c5
                  by_cases c6 : x5_2 < (((rd_T41 l0 x4_1).f2).length : Int)
                  · rw [if_pos c6] at H
                    have c6b0 : decide (x5_2 < (((rd_T41 l0 x4_1).f2).length : Int)) = true := decide_eq_true c6
                    clear c6
                    by_cases c7 : 0 ≤ x5_2
                    · rw [if_pos c7] at H
                      have c7b0 : decide (0 ≤ x5_2) = true := decide_eq_true c7
                      clear c7
                      by_cases c8 : (((rd_T47 ((rd_T41 l0 x4_1).f2) x5_2).f0).size : Int) > 100
                      · rw [if_pos c8] at H
                        have c8b0 : decide (100 < (((rd_T47 ((rd_T41 l0 x4_1).f2) x5_2).f0).size : Int)) = true := decide_eq_true c8
                        have c8b1 : decide (100 < ((rd_T47 ((rd_T41 l0 x4_1).f2) x5_2).f0).size) = true := decide_eq_true (by omega)
                        clear c8
                        obtain rfl := Option.some.inj H
                        have p138 : 0 ≤ (x4_1 : Int) := of_decide_eq_true (by first | (with_reducible assumption) | assumption)
                        have q138 : x4_1 < (l0.length : Int) := of_decide_eq_true (by first | (with_reducible assumption) | assumption)
                        obtain ⟨ad138, A138_2, c138_2, e138, hx138_0, hx138_1, hx138_2, hl138_2, hi138_2⟩ := at_T41 HR0.out x4_1 p138 q138
                        obtain rfl : ad137 = ad138 := (by injection e138)
                        replace hx138_0 := (HB.out.cell (World.block_lt_of_cell? w _ hx138_0)).trans hx138_0
                        replace hx138_1 := (HB.out.cell (World.block_lt_of_cell? w _ hx138_1)).trans hx138_1
                        replace hx138_2 := (HB.out.cell (World.block_lt_of_cell? w _ hx138_2)).trans hx138_2
                        have HR138_2 := Aside0.mk hi138_2
                        have HC138_2 := Aside0.mk hl138_2
                        clear hi138_2 hl138_2
                        replace p138 := eq_true p138
                        replace q138 := eq_true q138
                        have p139 : 0 ≤ (x4_1 : Int) := of_decide_eq_true (by first | (with_reducible assumption) | assumption)
                        have q139 : x4_1 < (l0.length : Int) := of_decide_eq_true (by first | (with_reducible assumption) | assumption)
                        obtain ⟨ad139, A139_2, c139_2, e139, hx139_0, hx139_1, hx139_2, hl139_2, hi139_2⟩ := at_T41 HR0.out x4_1 p139 q139
                        obtain rfl : ad137 = ad139 := (by injection e139)
                        replace hx139_0 := (HB.out.cell (World.block_lt_of_cell? w _ hx139_0)).trans hx139_0
                        replace hx139_1 := (HB.out.cell (World.block_lt_of_cell? w _ hx139_1)).trans hx139_1
                        replace hx139_2 := (HB.out.cell (World.block_lt_of_cell? w _ hx139_2)).trans hx139_2
                        have HR139_2 := Aside0.mk hi139_2
                        have HC139_2 := Aside0.mk hl139_2
                        clear hi139_2 hl139_2
                        replace p139 := eq_true p139
                        replace q139 := eq_true q139
                        have ea_ := Option.some.inj (hx138_2.symm.trans hx139_2)
                        injection ea_ with ea_ en_ ec_
                        subst ea_
                        subst ec_
                        clear en_
                        have p140 : 0 ≤ (x5_2 : Int) := of_decide_eq_true (by first | (with_reducible assumption) | assumption)
                        have q140 : x5_2 < (((rd_T41 l0 x4_1).f2).length : Int) := of_decide_eq_true (by first | (with_reducible assumption) | assumption)
                        obtain ⟨ad140, e140, hx140_0, hx140_1, hx140_2, hx140_3, hx140_4⟩ := at_T47 HR139_2.out x5_2 p140 q140
                        cases e140
                        replace hx140_0 := (HB.out.cell (World.block_lt_of_cell? w _ hx140_0)).trans hx140_0
                        replace hx140_1 := (HB.out.cell (World.block_lt_of_cell? w _ hx140_1)).trans hx140_1
                        replace hx140_2 := (HB.out.cell (World.block_lt_of_cell? w _ hx140_2)).trans hx140_2
                        replace hx140_3 := (HB.out.cell (World.block_lt_of_cell? w _ hx140_3)).trans hx140_3
                        replace hx140_4 := (HB.out.cell (World.block_lt_of_cell? w _ hx140_4)).trans hx140_4
                        replace p140 := eq_true p140
                        replace q140 := eq_true q140
                        go_wp2_with (first | ((with_reducible refine gate_dst (N := 6) rfl ?_); (try (refine gate_guard (by rfl) ?_; dsimp only)); refine box_event ?hg (N := 6) ?hd (cs := #[.string (⟨#[]⟩ : ByteArray), .int .i64 0, .int .i64 0, .int .i64 0, .string (⟨#[]⟩ : ByteArray)]) (t := 47) ?hr ?_; (case hd => rfl); (case hg => rfl); (case hr => first | (go_simp; done) | (go_simp; rfl)); intro gb141 hg w9 hbox hb; have n0_ := Aside0.mk (below_step (by repeat (first | (with_reducible first | exact HB.out | apply below_alloc | apply pw_below_drewN | apply below_drew1) | exact HB.out)) hb); have n1_ := Aside0.mk (hbox); have n2_ := Aside0.mk ((by rw [hg]; exact (below_size (by repeat (first | (with_reducible first | exact HB.out | apply below_alloc | apply pw_below_drewN | apply below_drew1) | exact HB.out))) : w.heap.size ≤ gb141)); have n3_ := Aside0.mk ((by rw [hg]; exact (below_size (by repeat (first | (with_reducible first | exact HB.out | apply below_alloc | apply pw_below_drewN | apply below_drew1) | exact HB.out))) : w.heap.size ≤ gb141)); clear HB; have HB := n0_; have BK141 := n1_; have GW141 := n2_; have GE141 := n3_; clear n0_ n1_ n2_ n3_; clear hb hbox hg; have hcz10_0 : w9.cell? ⟨gb141, 0, none⟩ = some (.string (⟨#[]⟩ : ByteArray)) := (blk_cell BK141.out 0).trans rfl; have hcz10_1 : w9.cell? ⟨gb141, 1, none⟩ = some (.int .i64 0) := (blk_cell BK141.out 1).trans rfl; have hcz10_2 : w9.cell? ⟨gb141, 2, none⟩ = some (.int .i64 0) := (blk_cell BK141.out 2).trans rfl; have hcz10_3 : w9.cell? ⟨gb141, 3, none⟩ = some (.int .i64 0) := (blk_cell BK141.out 3).trans rfl; have hcz10_4 : w9.cell? ⟨gb141, 4, none⟩ = some (.string (⟨#[]⟩ : ByteArray)) := (blk_cell BK141.out 4).trans rfl; have hfz10_0 := blk_frozen BK141.out 0; have hfz10_1 := blk_frozen BK141.out 1; have hfz10_2 := blk_frozen BK141.out 2; have hfz10_3 := blk_frozen BK141.out 3; have hfz10_4 := blk_frozen BK141.out 4))
                        go_ret
                        exact ⟨by first | rfl | (simp [errW_none, errW_some] <;> rfl) | (simp [*, errW_none, errW_some] <;> rfl), by repeat (first | (with_reducible first | exact HB.out | apply below_alloc | apply pw_below_drewN | apply below_drew1 | refine below_set ?_ GE141.out) | exact HB.out)⟩
                      · rw [if_neg c8] at H
                        have c8b0 : decide (100 < (((rd_T47 ((rd_T41 l0 x4_1).f2) x5_2).f0).size : Int)) = false := decide_eq_false c8
                        have c8b1 : decide (100 < ((rd_T47 ((rd_T41 l0 x4_1).f2) x5_2).f0).size) = false := decide_eq_false (by omega)
                        clear c8
                        by_cases c11 : (((rd_T47 ((rd_T41 l0 x4_1).f2) x5_2).f2.f2).size : Int) > 100
                        · rw [if_pos c11] at H
                          have c11b0 : decide (100 < (((rd_T47 ((rd_T41 l0 x4_1).f2) x5_2).f2.f2).size : Int)) = true := decide_eq_true c11
                          have c11b1 : decide (100 < ((rd_T47 ((rd_T41 l0 x4_1).f2) x5_2).f2.f2).size) = true := decide_eq_true (by omega)
                          clear c11
                          obtain rfl := Option.some.inj H
                          have p138 : 0 ≤ (x4_1 : Int) := of_decide_eq_true (by first | (with_reducible assumption) | assumption)
                          have q138 : x4_1 < (l0.length : Int) := of_decide_eq_true (by first | (with_reducible assumption) | assumption)
                          obtain ⟨ad138, A138_2, c138_2, e138, hx138_0, hx138_1, hx138_2, hl138_2, hi138_2⟩ := at_T41 HR0.out x4_1 p138 q138
                          obtain rfl : ad137 = ad138 := (by injection e138)
                          replace hx138_0 := (HB.out.cell (World.block_lt_of_cell? w _ hx138_0)).trans hx138_0
                          replace hx138_1 := (HB.out.cell (World.block_lt_of_cell? w _ hx138_1)).trans hx138_1
                          replace hx138_2 := (HB.out.cell (World.block_lt_of_cell? w _ hx138_2)).trans hx138_2
                          have HR138_2 := Aside0.mk hi138_2
                          have HC138_2 := Aside0.mk hl138_2
                          clear hi138_2 hl138_2
                          replace p138 := eq_true p138
                          replace q138 := eq_true q138
                          have p139 : 0 ≤ (x4_1 : Int) := of_decide_eq_true (by first | (with_reducible assumption) | assumption)
                          have q139 : x4_1 < (l0.length : Int) := of_decide_eq_true (by first | (with_reducible assumption) | assumption)
                          obtain ⟨ad139, A139_2, c139_2, e139, hx139_0, hx139_1, hx139_2, hl139_2, hi139_2⟩ := at_T41 HR0.out x4_1 p139 q139
                          obtain rfl : ad137 = ad139 := (by injection e139)
                          replace hx139_0 := (HB.out.cell (World.block_lt_of_cell? w _ hx139_0)).trans hx139_0
                          replace hx139_1 := (HB.out.cell (World.block_lt_of_cell? w _ hx139_1)).trans hx139_1
                          replace hx139_2 := (HB.out.cell (World.block_lt_of_cell? w _ hx139_2)).trans hx139_2
                          have HR139_2 := Aside0.mk hi139_2
                          have HC139_2 := Aside0.mk hl139_2
                          clear hi139_2 hl139_2
                          replace p139 := eq_true p139
                          replace q139 := eq_true q139
                          have ea_ := Option.some.inj (hx138_2.symm.trans hx139_2)
                          injection ea_ with ea_ en_ ec_
                          subst ea_
                          subst ec_
                          clear en_
                          have p140 : 0 ≤ (x5_2 : Int) := of_decide_eq_true (by first | (with_reducible assumption) | assumption)
                          have q140 : x5_2 < (((rd_T41 l0 x4_1).f2).length : Int) := of_decide_eq_true (by first | (with_reducible assumption) | assumption)
                          obtain ⟨ad140, e140, hx140_0, hx140_1, hx140_2, hx140_3, hx140_4⟩ := at_T47 HR139_2.out x5_2 p140 q140
                          cases e140
                          replace hx140_0 := (HB.out.cell (World.block_lt_of_cell? w _ hx140_0)).trans hx140_0
                          replace hx140_1 := (HB.out.cell (World.block_lt_of_cell? w _ hx140_1)).trans hx140_1
                          replace hx140_2 := (HB.out.cell (World.block_lt_of_cell? w _ hx140_2)).trans hx140_2
                          replace hx140_3 := (HB.out.cell (World.block_lt_of_cell? w _ hx140_3)).trans hx140_3
                          replace hx140_4 := (HB.out.cell (World.block_lt_of_cell? w _ hx140_4)).trans hx140_4
                          replace p140 := eq_true p140
                          replace q140 := eq_true q140
                          go_wp2_with (first | ((with_reducible refine gate_dst (N := 6) rfl ?_); (try (refine gate_guard (by rfl) ?_; dsimp only)); refine box_event ?hg (N := 6) ?hd (cs := #[.string (⟨#[]⟩ : ByteArray), .int .i64 0, .int .i64 0, .int .i64 0, .string (⟨#[]⟩ : ByteArray)]) (t := 47) ?hr ?_; (case hd => rfl); (case hg => rfl); (case hr => first | (go_simp; done) | (go_simp; rfl)); intro gb141 hg w12 hbox hb; have n0_ := Aside0.mk (below_step (by repeat (first | (with_reducible first | exact HB.out | apply below_alloc | apply pw_below_drewN | apply below_drew1) | exact HB.out)) hb); have n1_ := Aside0.mk (hbox); have n2_ := Aside0.mk ((by rw [hg]; exact (below_size (by repeat (first | (with_reducible first | exact HB.out | apply below_alloc | apply pw_below_drewN | apply below_drew1) | exact HB.out))) : w.heap.size ≤ gb141)); have n3_ := Aside0.mk ((by rw [hg]; exact (below_size (by repeat (first | (with_reducible first | exact HB.out | apply below_alloc | apply pw_below_drewN | apply below_drew1) | exact HB.out))) : w.heap.size ≤ gb141)); clear HB; have HB := n0_; have BK141 := n1_; have GW141 := n2_; have GE141 := n3_; clear n0_ n1_ n2_ n3_; clear hb hbox hg; have hcz13_0 : w12.cell? ⟨gb141, 0, none⟩ = some (.string (⟨#[]⟩ : ByteArray)) := (blk_cell BK141.out 0).trans rfl; have hcz13_1 : w12.cell? ⟨gb141, 1, none⟩ = some (.int .i64 0) := (blk_cell BK141.out 1).trans rfl; have hcz13_2 : w12.cell? ⟨gb141, 2, none⟩ = some (.int .i64 0) := (blk_cell BK141.out 2).trans rfl; have hcz13_3 : w12.cell? ⟨gb141, 3, none⟩ = some (.int .i64 0) := (blk_cell BK141.out 3).trans rfl; have hcz13_4 : w12.cell? ⟨gb141, 4, none⟩ = some (.string (⟨#[]⟩ : ByteArray)) := (blk_cell BK141.out 4).trans rfl; have hfz13_0 := blk_frozen BK141.out 0; have hfz13_1 := blk_frozen BK141.out 1; have hfz13_2 := blk_frozen BK141.out 2; have hfz13_3 := blk_frozen BK141.out 3; have hfz13_4 := blk_frozen BK141.out 4))
                          go_ret
                          exact ⟨by first | rfl | (simp [errW_none, errW_some] <;> rfl) | (simp [*, errW_none, errW_some] <;> rfl), by repeat (first | (with_reducible first | exact HB.out | apply below_alloc | apply pw_below_drewN | apply below_drew1 | refine below_set ?_ GE141.out) | exact HB.out)⟩
                        · rw [if_neg c11] at H
                          have c11b0 : decide (100 < (((rd_T47 ((rd_T41 l0 x4_1).f2) x5_2).f2.f2).size : Int)) = false := decide_eq_false c11
                          have c11b1 : decide (100 < ((rd_T47 ((rd_T41 l0 x4_1).f2) x5_2).f2.f2).size) = false := decide_eq_false (by omega)
                          clear c11
                          have H' := Aside0.mk H
                          clear H
                          have p138 : 0 ≤ (x4_1 : Int) := of_decide_eq_true (by first | (with_reducible assumption) | assumption)
                          have q138 : x4_1 < (l0.length : Int) := of_decide_eq_true (by first | (with_reducible assumption) | assumption)
                          obtain ⟨ad138, A138_2, c138_2, e138, hx138_0, hx138_1, hx138_2, hl138_2, hi138_2⟩ := at_T41 HR0.out x4_1 p138 q138
                          obtain rfl : ad137 = ad138 := (by injection e138)
                          replace hx138_0 := (HB.out.cell (World.block_lt_of_cell? w _ hx138_0)).trans hx138_0
                          replace hx138_1 := (HB.out.cell (World.block_lt_of_cell? w _ hx138_1)).trans hx138_1
                          replace hx138_2 := (HB.out.cell (World.block_lt_of_cell? w _ hx138_2)).trans hx138_2
                          have HR138_2 := Aside0.mk hi138_2
                          have HC138_2 := Aside0.mk hl138_2
                          clear hi138_2 hl138_2
                          replace p138 := eq_true p138
                          replace q138 := eq_true q138
                          have p139 : 0 ≤ (x4_1 : Int) := of_decide_eq_true (by first | (with_reducible assumption) | assumption)
                          have q139 : x4_1 < (l0.length : Int) := of_decide_eq_true (by first | (with_reducible assumption) | assumption)
                          obtain ⟨ad139, A139_2, c139_2, e139, hx139_0, hx139_1, hx139_2, hl139_2, hi139_2⟩ := at_T41 HR0.out x4_1 p139 q139
                          obtain rfl : ad137 = ad139 := (by injection e139)
                          replace hx139_0 := (HB.out.cell (World.block_lt_of_cell? w _ hx139_0)).trans hx139_0
                          replace hx139_1 := (HB.out.cell (World.block_lt_of_cell? w _ hx139_1)).trans hx139_1
                          replace hx139_2 := (HB.out.cell (World.block_lt_of_cell? w _ hx139_2)).trans hx139_2
                          have HR139_2 := Aside0.mk hi139_2
                          have HC139_2 := Aside0.mk hl139_2
                          clear hi139_2 hl139_2
                          replace p139 := eq_true p139
                          replace q139 := eq_true q139
                          have ea_ := Option.some.inj (hx138_2.symm.trans hx139_2)
                          injection ea_ with ea_ en_ ec_
                          subst ea_
                          subst ec_
                          clear en_
                          have p140 : 0 ≤ (x5_2 : Int) := of_decide_eq_true (by first | (with_reducible assumption) | assumption)
                          have q140 : x5_2 < (((rd_T41 l0 x4_1).f2).length : Int) := of_decide_eq_true (by first | (with_reducible assumption) | assumption)
                          obtain ⟨ad140, e140, hx140_0, hx140_1, hx140_2, hx140_3, hx140_4⟩ := at_T47 HR139_2.out x5_2 p140 q140
                          cases e140
                          replace hx140_0 := (HB.out.cell (World.block_lt_of_cell? w _ hx140_0)).trans hx140_0
                          replace hx140_1 := (HB.out.cell (World.block_lt_of_cell? w _ hx140_1)).trans hx140_1
                          replace hx140_2 := (HB.out.cell (World.block_lt_of_cell? w _ hx140_2)).trans hx140_2
                          replace hx140_3 := (HB.out.cell (World.block_lt_of_cell? w _ hx140_3)).trans hx140_3
                          replace hx140_4 := (HB.out.cell (World.block_lt_of_cell? w _ hx140_4)).trans hx140_4
                          replace p140 := eq_true p140
                          replace q140 := eq_true q140
                          go_wp2_with (first | ((with_reducible refine gate_dst (N := 6) rfl ?_); (try (refine gate_guard (by rfl) ?_; dsimp only)); refine box_event ?hg (N := 6) ?hd (cs := #[.string (⟨#[]⟩ : ByteArray), .int .i64 0, .int .i64 0, .int .i64 0, .string (⟨#[]⟩ : ByteArray)]) (t := 47) ?hr ?_; (case hd => rfl); (case hg => rfl); (case hr => first | (go_simp; done) | (go_simp; rfl)); intro gb141 hg w14 hbox hb; have n0_ := Aside0.mk (below_step (by repeat (first | (with_reducible first | exact HB.out | apply below_alloc | apply pw_below_drewN | apply below_drew1) | exact HB.out)) hb); have n1_ := Aside0.mk (hbox); have n2_ := Aside0.mk ((by rw [hg]; exact (below_size (by repeat (first | (with_reducible first | exact HB.out | apply below_alloc | apply pw_below_drewN | apply below_drew1) | exact HB.out))) : w.heap.size ≤ gb141)); have n3_ := Aside0.mk ((by rw [hg]; exact (below_size (by repeat (first | (with_reducible first | exact HB.out | apply below_alloc | apply pw_below_drewN | apply below_drew1) | exact HB.out))) : w.heap.size ≤ gb141)); clear HB; have HB := n0_; have BK141 := n1_; have GW141 := n2_; have GE141 := n3_; clear n0_ n1_ n2_ n3_; clear hb hbox hg; have hcz15_0 : w14.cell? ⟨gb141, 0, none⟩ = some (.string (⟨#[]⟩ : ByteArray)) := (blk_cell BK141.out 0).trans rfl; have hcz15_1 : w14.cell? ⟨gb141, 1, none⟩ = some (.int .i64 0) := (blk_cell BK141.out 1).trans rfl; have hcz15_2 : w14.cell? ⟨gb141, 2, none⟩ = some (.int .i64 0) := (blk_cell BK141.out 2).trans rfl; have hcz15_3 : w14.cell? ⟨gb141, 3, none⟩ = some (.int .i64 0) := (blk_cell BK141.out 3).trans rfl; have hcz15_4 : w14.cell? ⟨gb141, 4, none⟩ = some (.string (⟨#[]⟩ : ByteArray)) := (blk_cell BK141.out 4).trans rfl; have hfz15_0 := blk_frozen BK141.out 0; have hfz15_1 := blk_frozen BK141.out 1; have hfz15_2 := blk_frozen BK141.out 2; have hfz15_3 := blk_frozen BK141.out 3; have hfz15_4 := blk_frozen BK141.out 4))
                          go_roundg k2
                          case measure => have := HK1.out; have := HK2.out; omega
                          case rel => exact ⟨(wrap64 (x5_2 + 1)), (by first | rfl | (simp; done) | (simp [*]; done)), H', ⟨by have := HK1.out; have := HK2.out; omega⟩, ⟨by repeat (first | (with_reducible first | exact HB.out | apply below_alloc | apply pw_below_drewN | apply below_drew1 | refine below_set ?_ GE141.out) | exact HB.out)⟩⟩
                    · rw [if_neg c7] at H
                      exact absurd H (by simp)
                  · rw [if_neg c6] at H
                    have c6b0 : decide (x5_2 < (((rd_T41 l0 x4_1).f2).length : Int)) = false := decide_eq_false c6
                    clear c6
                    have H' := Aside0.mk H
                    clear H
                    have p138 : 0 ≤ (x4_1 : Int) := of_decide_eq_true (by first | (with_reducible assumption) | assumption)
                    have q138 : x4_1 < (l0.length : Int) := of_decide_eq_true (by first | (with_reducible assumption) | assumption)
                    obtain ⟨ad138, A138_2, c138_2, e138, hx138_0, hx138_1, hx138_2, hl138_2, hi138_2⟩ := at_T41 HR0.out x4_1 p138 q138
                    obtain rfl : ad137 = ad138 := (by injection e138)
                    replace hx138_0 := (HB.out.cell (World.block_lt_of_cell? w _ hx138_0)).trans hx138_0
                    replace hx138_1 := (HB.out.cell (World.block_lt_of_cell? w _ hx138_1)).trans hx138_1
                    replace hx138_2 := (HB.out.cell (World.block_lt_of_cell? w _ hx138_2)).trans hx138_2
                    have HR138_2 := Aside0.mk hi138_2
                    have HC138_2 := Aside0.mk hl138_2
                    clear hi138_2 hl138_2
                    replace p138 := eq_true p138
                    replace q138 := eq_true q138
                    go_wp2
                    go_roundg k2
                    case measure => have := HK1.out; have := HK2.out; omega
                    case rel => exact ⟨((wrap64 (x3_1 + (((rd_T41 l0 x4_1).f2).length : Int)))), (wrap64 (x4_1 + 1)), (by first | rfl | (simp; done) | (simp [*]; done)), (by first | rfl | (simp; done) | (simp [*]; done)), H', ⟨by have := HK1.out; have := HK2.out; omega⟩, ⟨by repeat (first | (with_reducible first | exact HB.out | apply below_alloc | apply pw_below_drewN | apply below_drew1) | exact HB.out)⟩⟩
                · rw [if_neg c5] at H
                  exact absurd H (by simp)
              · rw [if_neg c4] at H
                exact absurd H (by simp)
        · rw [if_neg c3] at H
          exact absurd H (by simp)
      · rw [if_neg c2] at H
        have c2b0 : decide (x4_1 < (l0.length : Int)) = false := decide_eq_false c2
        clear c2
        by_cases c16 : (l0.length : Int) ≤ 80
        · rw [if_pos c16] at H
          have c16b0 : decide ((l0.length : Int) ≤ 80) = true := decide_eq_true c16
          have c16b1 : decide (l0.length ≤ 80) = true := decide_eq_true (by omega)
          clear c16
          obtain rfl := Option.some.inj H
          go_wp2
          go_ret
          exact ⟨by first | rfl | (simp [errW_none, errW_some] <;> rfl) | (simp [*, errW_none, errW_some] <;> rfl), by repeat (first | (with_reducible first | exact HB.out | apply below_alloc | apply pw_below_drewN | apply below_drew1) | exact HB.out)⟩
        · rw [if_neg c16] at H
          have c16b0 : decide ((l0.length : Int) ≤ 80) = false := decide_eq_false c16
          have c16b1 : decide (l0.length ≤ 80) = false := decide_eq_false (by omega)
          clear c16
          obtain rfl := Option.some.inj H
          go_wp2
          go_ret
          exact ⟨by first | rfl | (simp [errW_none, errW_some] <;> rfl) | (simp [*, errW_none, errW_some] <;> rfl), by repeat (first | (with_reducible first | exact HB.out | apply below_alloc | apply pw_below_drewN | apply below_drew1) | exact HB.out)⟩

end Go.Proofs.Ytbcnknmgljdmlaa.G
end

section
-- Written by a program of this session (wip/tools/myprint.py), over the kit's print.
namespace Go.Proofs.Ytbcnknmgljdmlaa.G
open Go.RowKit Go.Proofs.YtbcnknmgljdmlaaW.PrintWords Go.Proofs.YtbcnknmgljdmlaaW.PrintLast Go.Proofs.YtbcnknmgljdmlaaW.PrintMore
attribute [local go_sem] max2_int min2_int max_two min_two max_three min_three max_four min_four   -- for this text's walks alone
set_option linter.unusedVariables false
set_option linter.unusedSimpArgs false

/-! ### rosettelaw05_Few: function 13 -/
def rosettelaw05_Few.l0 : Nat → List (S49) → Int → Option (Bool)
  | 0, _, _ => none
  | k + 1, x0, x3 => if x3 < (x0.length : Int) then (if 0 ≤ x3 then (if (((rd_T49 x0 x3).f0).size : Int) > 100 then (some false) else (if (((rd_T49 x0 x3).f1.f2).size : Int) > 300 then (some false) else (rosettelaw05_Few.l0 k x0 (wrap64 (x3 + 1))))) else (none)) else (some (decide ((x0.length : Int) ≤ 40)))
def rosettelaw05_Few.f (k : Nat) (l0 : List (S49)) : Option (Bool) := rosettelaw05_Few.l0 k l0 0
theorem rosettelaw05_Few.mono_l : ∀ k, (∀ y0 y1, LeO (rosettelaw05_Few.l0 k y0 y1) (rosettelaw05_Few.l0 (k + 1) y0 y1))
  | 0 => fun _ _ r h => by simp [rosettelaw05_Few.l0] at h
  | k + 1 => by
    have ih0 := rosettelaw05_Few.mono_l k
    · intro y0 y1
      unfold rosettelaw05_Few.l0
      repeat' first
      | (with_reducible exact ih0 _ _)
      | (with_reducible exact LeO.refl _)
      | (with_reducible exact LeO.none _)
      | (with_reducible refine LeO.ite ?_ ?_)
      | (with_reducible refine LeO.bind ?_ (fun _ => ?_))
      | exact ih0 _ _
      | exact LeO.none _
      | refine LeO.ite ?_ ?_
      | refine LeO.bind ?_ (fun _ => ?_)
theorem rosettelaw05_Few.mono : ∀ a0 k, LeO (rosettelaw05_Few.f k a0) (rosettelaw05_Few.f (k + 1) a0) := by
  intro a0 k
  have ih0 := rosettelaw05_Few.mono_l k
  unfold rosettelaw05_Few.f
  repeat' first
      | (with_reducible exact ih0 _ _)
      | (with_reducible exact LeO.refl _)
      | (with_reducible exact LeO.none _)
      | (with_reducible refine LeO.ite ?_ ?_)
      | (with_reducible refine LeO.bind ?_ (fun _ => ?_))
      | exact ih0 _ _
      | exact LeO.none _
      | refine LeO.ite ?_ ?_
      | refine LeO.bind ?_ (fun _ => ?_)
set_option maxHeartbeats 8000000 in
set_option maxRecDepth 100000 in
theorem rosettelaw05_Few.calls (k : Nat) (A0 : Option Addr) (c0 : Nat) (l0 : List (S49)) (r : Bool) (w : World) (hr0 : Kd.C k49 w A0 l0.length l0) (hc0 : l0.length ≤ c0) (h : rosettelaw05_Few.f k l0 = some r) :
    Calls Try.prog 13 #[.slice A0 l0.length c0] w fun e w' => e = .returned (.bool r) ∧ Drawn0 w w' := by
  have HR0 := Aside0.mk hr0
  have HC0 := Aside0.mk hc0
  clear hr0 hc0
  have H : (rosettelaw05_Few.l0 k l0 0) = some r := h
  clear h
  have H' := Aside0.mk H
  clear H
  go_enter Try.func13, Try.ntmps13
  go_wp2
  go_loopg [3] k (fun kq v3 w' => ∃ (x3_1 : Int), v3 = .int .i64 x3_1 ∧ Aside0 (rosettelaw05_Few.l0 kq l0 x3_1 = some r) ∧ Aside0 (kq ≤ k) ∧ Drawn0 w w')
  case atStart => exact ⟨(0), (by first | rfl | (simp; done) | (simp [*]; done)), H', ⟨Nat.le_refl _⟩, by repeat (first | exact Drawn0.refl _ | apply Drawn0.step)⟩
  case round =>
    clear H'
    try clear c1
    obtain ⟨x3_1, rfl, HA, HK1, ⟨m1, rfl⟩⟩ := hrel
    cases gk with
    | zero => exact absurd HA.out (by simp [rosettelaw05_Few.l0])
    | succ k1 =>
      have H := HA.out
      clear HA
      simp only [rosettelaw05_Few.l0] at H
      by_cases c2 : x3_1 < (l0.length : Int)
      · rw [if_pos c2] at H
        have c2b0 : decide (x3_1 < (l0.length : Int)) = true := decide_eq_true c2
        clear c2
        by_cases c3 : 0 ≤ x3_1
        · rw [if_pos c3] at H
          have c3b0 : decide (0 ≤ x3_1) = true := decide_eq_true c3
          clear c3
          by_cases c4 : (((rd_T49 l0 x3_1).f0).size : Int) > 100
          · rw [if_pos c4] at H
            have c4b0 : decide (100 < (((rd_T49 l0 x3_1).f0).size : Int)) = true := decide_eq_true c4
            have c4b1 : decide (100 < ((rd_T49 l0 x3_1).f0).size) = true := decide_eq_true (by omega)
            clear c4
            obtain rfl := Option.some.inj H
            have p150 : 0 ≤ (x3_1 : Int) := of_decide_eq_true (by first | (with_reducible assumption) | assumption)
            have q150 : x3_1 < (l0.length : Int) := of_decide_eq_true (by first | (with_reducible assumption) | assumption)
            obtain ⟨ad150, e150, hx150_0, hx150_1, hx150_2, hx150_3⟩ := at_T49 HR0.out x3_1 p150 q150
            cases e150
            replace p150 := eq_true p150
            replace q150 := eq_true q150
            go_wp2
            go_ret
            exact ⟨by first | rfl | (simp; done) | (simp [*]; done), by repeat (first | exact Drawn0.refl _ | apply Drawn0.step)⟩
          · rw [if_neg c4] at H
            have c4b0 : decide (100 < (((rd_T49 l0 x3_1).f0).size : Int)) = false := decide_eq_false c4
            have c4b1 : decide (100 < ((rd_T49 l0 x3_1).f0).size) = false := decide_eq_false (by omega)
            clear c4
            by_cases c5 : (((rd_T49 l0 x3_1).f1.f2).size : Int) > 300
            · rw [if_pos c5] at H
              have c5b0 : decide (300 < (((rd_T49 l0 x3_1).f1.f2).size : Int)) = true := decide_eq_true c5
              have c5b1 : decide (300 < ((rd_T49 l0 x3_1).f1.f2).size) = true := decide_eq_true (by omega)
              clear c5
              obtain rfl := Option.some.inj H
              have p150 : 0 ≤ (x3_1 : Int) := of_decide_eq_true (by first | (with_reducible assumption) | assumption)
              have q150 : x3_1 < (l0.length : Int) := of_decide_eq_true (by first | (with_reducible assumption) | assumption)
              obtain ⟨ad150, e150, hx150_0, hx150_1, hx150_2, hx150_3⟩ := at_T49 HR0.out x3_1 p150 q150
              cases e150
              replace p150 := eq_true p150
              replace q150 := eq_true q150
              have p151 : 0 ≤ (x3_1 : Int) := of_decide_eq_true (by first | (with_reducible assumption) | assumption)
              have q151 : x3_1 < (l0.length : Int) := of_decide_eq_true (by first | (with_reducible assumption) | assumption)
              obtain ⟨ad151, e151, hx151_0, hx151_1, hx151_2, hx151_3⟩ := at_T49 HR0.out x3_1 p151 q151
              obtain rfl : ad150 = ad151 := (by injection e151)
              replace p151 := eq_true p151
              replace q151 := eq_true q151
              go_wp2
              go_ret
              exact ⟨by first | rfl | (simp; done) | (simp [*]; done), by repeat (first | exact Drawn0.refl _ | apply Drawn0.step)⟩
            · rw [if_neg c5] at H
              have c5b0 : decide (300 < (((rd_T49 l0 x3_1).f1.f2).size : Int)) = false := decide_eq_false c5
              have c5b1 : decide (300 < ((rd_T49 l0 x3_1).f1.f2).size) = false := decide_eq_false (by omega)
              clear c5
              have H' := Aside0.mk H
              clear H
              have p150 : 0 ≤ (x3_1 : Int) := of_decide_eq_true (by first | (with_reducible assumption) | assumption)
              have q150 : x3_1 < (l0.length : Int) := of_decide_eq_true (by first | (with_reducible assumption) | assumption)
              obtain ⟨ad150, e150, hx150_0, hx150_1, hx150_2, hx150_3⟩ := at_T49 HR0.out x3_1 p150 q150
              cases e150
              replace p150 := eq_true p150
              replace q150 := eq_true q150
              have p151 : 0 ≤ (x3_1 : Int) := of_decide_eq_true (by first | (with_reducible assumption) | assumption)
              have q151 : x3_1 < (l0.length : Int) := of_decide_eq_true (by first | (with_reducible assumption) | assumption)
              obtain ⟨ad151, e151, hx151_0, hx151_1, hx151_2, hx151_3⟩ := at_T49 HR0.out x3_1 p151 q151
              obtain rfl : ad150 = ad151 := (by injection e151)
              replace p151 := eq_true p151
              replace q151 := eq_true q151
              go_wp2
              go_roundg k1
              case measure => have := HK1.out; omega
              case rel => exact ⟨(wrap64 (x3_1 + 1)), (by first | rfl | (simp; done) | (simp [*]; done)), H', ⟨by have := HK1.out; omega⟩, by repeat (first | exact Drawn0.refl _ | apply Drawn0.step)⟩
        · rw [if_neg c3] at H
          exact absurd H (by simp)
      · rw [if_neg c2] at H
        have c2b0 : decide (x3_1 < (l0.length : Int)) = false := decide_eq_false c2
        clear c2
        obtain rfl := Option.some.inj H
        go_wp2
        go_ret
        exact ⟨by first | rfl | (simp; done) | (simp [*]; done), by repeat (first | exact Drawn0.refl _ | apply Drawn0.step)⟩

end Go.Proofs.Ytbcnknmgljdmlaa.G
end

section
/- the common form of what the laws of the index ask -/
set_option linter.unusedVariables false
set_option linter.unusedSimpArgs false
set_option autoImplicit false
namespace Go.Proofs.Ytbcnknmgljdmlaa
open Go Go.RowKit Go.Proofs.YtbcnknmgljdmlaaW.PrintWords Go.Proofs.YtbcnknmgljdmlaaW.PrintLast Go.Proofs.YtbcnknmgljdmlaaW.PrintMore Go.Proofs.Ytbcnknmgljdmlaa.G

instance (p : S47) : Decidable (KeyOk p) := by unfold KeyOk; exact inferInstance
instance (l : List S41) : Decidable (EntOk l) := by unfold EntOk; exact inferInstance
instance (a : S49) : Decidable (AttrOk a) := by unfold AttrOk; exact inferInstance
def GoodE (e : List S49) : Prop := e.length ≤ 100000 ∧ ∀ a ∈ e, AttrOk a
instance (e : List S49) : Decidable (GoodE e) := by unfold GoodE; exact inferInstance
def lawF (k : Nat) (l : List S41) (e : List S49) (C : Bool) (OK : Prop) [Decidable OK] : Option Bool :=
  (rosettelaw09_Few.f k l).bind fun f9 => (rosettelaw05_Few.f k e).bind fun f5 => if f9 = true ∧ f5 = true → EntOk l ∧ GoodE e ∧ (rightE e = true → C = true → OK) then some true else none
theorem lawF_open {k : Nat} {l : List S41} {e : List S49} {C : Bool} {OK : Prop} [Decidable OK] {r : Bool} (h : lawF k l e C OK = some r) :
    ∃ f9 f5, rosettelaw09_Few.f k l = some f9 ∧ rosettelaw05_Few.f k e = some f5 ∧ r = true ∧ (f9 = true ∧ f5 = true → EntOk l ∧ GoodE e ∧ (rightE e = true → C = true → OK)) := by
  unfold lawF at h
  obtain ⟨f9, h9, h⟩ := Option.bind_eq_some_iff.mp h
  obtain ⟨f5, h5, h⟩ := Option.bind_eq_some_iff.mp h
  split at h
  · rename_i hc
    exact ⟨f9, f5, h9, h5, (Option.some.inj h).symm, hc⟩
  · cases h
theorem lbuild (l : List S41) {m : Nat} (hm : l.length = m) (A0 : Option Addr) (c0 : Nat) (w : World) (hr0 : Kd.C k41 w A0 m l) (hc0 : m ≤ c0) (h : EntOk l) :
    Calls Try.prog 10 #[.slice A0 m c0] w fun e w' => e = .returned (.pointer (some ⟨w.heap.size + 2, 0, none⟩)) ∧ IxQ w w' [] (pairsFrom 0 l) (l.map (·.f0)) (l.map fun e => (e.f2.length : Int)) := by
  subst hm
  exact wbuild2 A0 c0 l w hr0 hc0 h
theorem emeet (l : List S41) (hl : EntOk l) {w0 : World} (A1 : Option Addr) (c1 : Nat) (e : List S49) (w : World) (h : IxQ w0 w [] (pairsFrom 0 l) (l.map (·.f0)) (l.map fun e => (e.f2.length : Int))) (hr1 : Kd.C k49 w A1 e.length e) (hc1 : e.length ≤ c1) (hg : GoodE e) :
    Calls Try.prog 15 #[.pointer (some ⟨w0.heap.size + 2, 0, none⟩), .slice A1 e.length c1] w fun e' w' => ∃ A c, e' = .returned (.slice A (tellL l e).length c) ∧ (tellL l e).length ≤ c ∧ (Kd.int .i64).C w' A (tellL l e).length (tellL l e) ∧ (Kd.int .i64).R 3 w' w.heap.size (fun _ => True) (.slice A (tellL l e).length c) (tellL l e) ∧ Below w.heap.size w w' := by
  refine (wmeet2 l hl A1 c1 e w h hr1 hc1 hg.1 hg.2).mono ?_
  rintro e' w' ⟨v, rfl, hR, hB⟩
  obtain ⟨A, c, rfl, h1, h2⟩ := own_C hR
  exact ⟨A, c, rfl, h1, h2, hR, hB⟩
theorem own_empty12 (W : World) : (Kd.int .i64).R 3 (W.alloc (.cells #[] 3)) W.heap.size (fun _ => True) (.slice (some ⟨W.heap.size, 0, none⟩) 0 0) [] := by
  have h : (W.alloc (.cells #[] 3)).ownsRow W.heap.size 3 1 (.slice (some ⟨W.heap.size, 0, none⟩) 0 0) ([] : List Int).length (nums .i64 []) :=
    ⟨by simp [nums], .inr ⟨W.heap.size, 0, #[], rfl, Nat.le_refl _, heap_alloc_new W _, by simp, by simp [maxLen], by simp, by simp [nums]⟩⟩
  exact kd_R h
theorem below_via12 {w W W' : World} (h0 : Below w.heap.size w W) (h : Below W.heap.size W W') : Below w.heap.size w W' := h0.trans (h.mono h0.size)
theorem size_le {l : List S41} (h : EntOk l) : sizeL l ≤ 100000 := Nat.le_trans (keys_len _) h.2.1
theorem tell_len (l : List S41) (e : List S49) : (tellL l e).length ≤ l.length := by
  unfold tellL meetI
  have := pickI_len (l.map (·.f0)) (l.map fun e => (e.f2.length : Int)) (meetC hbI (pairsFrom 0 l) (l.map (·.f0)).length e) (l.map (·.f0)).length
  simpa using this
end Go.Proofs.Ytbcnknmgljdmlaa
end

section
/- IndexMore, walked -/
set_option linter.unusedVariables false
set_option linter.unusedSimpArgs false
set_option autoImplicit false
namespace Go.Proofs.Ytbcnknmgljdmlaa.G
open Go Go.RowKit Go.Proofs.Ytbcnknmgljdmlaa Go.Proofs.YtbcnknmgljdmlaaW.PrintWords Go.Proofs.YtbcnknmgljdmlaaW.PrintLast Go.Proofs.YtbcnknmgljdmlaaW.PrintMore

def lessE (e : List S49) (n : Nat) : List S49 := e.take n ++ e.drop (n + 1)
def moreOK (l : List S41) (e : List S49) (n : Nat) : Prop := (tellL l (lessE e n)).Sublist (tellL l e)
instance (l : List S41) (e : List S49) (n : Nat) : Decidable (moreOK l e n) := by unfold moreOK; exact inferInstance
def rosettelaw12_IndexMore.f (k : Nat) (l0 : List S41) (l1 : List S49) (a2 : Int) : Option Bool := lawF k l0 l1 (decide (0 ≤ a2 ∧ a2 < l1.length)) (moreOK l0 l1 a2.toNat)
theorem less_sub (e : List S49) (n : Nat) : (lessE e n).Sublist e := by
  unfold lessE
  have h : e = e.take n ++ e.drop n := (List.take_append_drop n e).symm
  conv => rhs; rw [h]
  exact List.Sublist.append_left (by rw [← List.drop_drop]; exact List.drop_sublist _ _) _
theorem good_less {e : List S49} (h : GoodE e) (n : Nat) : GoodE (lessE e n) := ⟨Nat.le_trans (less_sub e n).length_le h.1, fun a ha => h.2 a ((less_sub e n).subset ha)⟩
theorem info_at : (Try.prog.info? 49).map (fun i => (i.zero, i.size, i.bytes)) = some (some (.agg #[.string ⟨#[]⟩, .int .i64 0, .int .i64 0, .string ⟨#[]⟩]), 4, 48) := by kernel_rfl
theorem nil49 (W : World) (B : Nat) (hB : B ≤ W.heap.size) : Kd.R k49 49 (W.alloc (.cells #[] 49 (0, 0))) B (fun _ => True) (.slice (some ⟨W.heap.size, 0, none⟩) 0 0) [] := by
  refine ⟨fun k hk => trivial, [], ?_, ?_⟩
  · have h2 := World.ownsRow_lit (base := B) (e := 49) (size := k49.sz) W #[] 0 hB (by decide) (by simp)
    simpa using h2
  · exact ⟨rfl, fun j y hj => by simp at hj⟩
theorem km49 {W : World} {base : Nat} {okp : Nat → Prop} (x : S49) (cs : List Value) (h : k49.K W x cs) : k49.M W base okp x cs := by
  obtain rfl := k49_open h
  exact k49_mkM _ _ _ _
theorem sub_next {a b : List Int} {n i : Nat} (h : (a.drop n).Sublist (b.drop i)) (hn : n < a.length) (hi : i < b.length) (he : rd b (i : Int) = rd a (n : Int)) : (a.drop (n + 1)).Sublist (b.drop (i + 1)) := by
  rw [List.drop_eq_getElem_cons hn, List.drop_eq_getElem_cons hi] at h
  have h1 : rd b (i : Int) = b[i] := by simp [rd, List.getD_eq_getElem?_getD, hi]
  have h2 : rd a (n : Int) = a[n] := by simp [rd, List.getD_eq_getElem?_getD, hn]
  rw [h1, h2] at he
  rw [he] at h
  exact List.cons_sublist_cons.1 h
theorem sub_skip {a b : List Int} {n i : Nat} (h : (a.drop n).Sublist (b.drop i)) (hn : n < a.length) (hi : i < b.length) (he : ¬ rd b (i : Int) = rd a (n : Int)) : (a.drop n).Sublist (b.drop (i + 1)) := by
  have h1 : rd b (i : Int) = b[i] := by simp [rd, List.getD_eq_getElem?_getD, hi]
  have h2 : rd a (n : Int) = a[n] := by simp [rd, List.getD_eq_getElem?_getD, hn]
  rw [h1, h2] at he
  rw [List.drop_eq_getElem_cons hn] at h ⊢
  rw [List.drop_eq_getElem_cons hi] at h
  rcases List.sublist_cons_iff.1 h with h | ⟨r, hr, _⟩
  · exact h
  · injection hr with h3 _
    exact absurd h3.symm he
theorem sub_end {a b : List Int} {n i : Nat} (h : (a.drop n).Sublist (b.drop i)) (hn : n ≤ a.length) (hi : b.length ≤ i) : n = a.length := by
  rw [List.drop_eq_nil_of_le hi] at h
  have := List.length_eq_zero_iff.2 (List.sublist_nil.1 h)
  rw [List.length_drop] at this
  omega
set_option maxRecDepth 100000 in
set_option maxHeartbeats 1000000 in
theorem rosettelaw12_IndexMore.calls (k : Nat) (A0 : Option Addr) (c0 : Nat) (l0 : List S41) (A1 : Option Addr) (c1 : Nat) (l1 : List S49) (a2 : Int) (r : Bool) (w : World) (hr0 : Kd.C k41 w A0 l0.length l0) (hc0 : l0.length ≤ c0) (hr1 : Kd.C k49 w A1 l1.length l1) (hc1 : l1.length ≤ c1) (h : rosettelaw12_IndexMore.f k l0 l1 a2 = some r) :
    Calls Try.prog 5 #[.slice A0 l0.length c0, .slice A1 l1.length c1, .int .i64 a2] w fun e w' => e = .returned (.bool r) ∧ Below w.heap.size w w' := by
  obtain ⟨f9, f5, h9, h5, rfl, hall⟩ := lawF_open h
  have HALL := Aside0.mk hall
  have H95 := Aside0.mk (And.intro h9 h5)
  have HC := Aside0.mk (And.intro hc0 hc1)
  have hl0 := hr0.2.1
  have hle := hr1.2.1
  have HL0 := Aside0.mk hr0
  have HE0 := Aside0.mk hr1
  have HB0 := Aside0.mk (Below.refl w.heap.size w)
  clear h hall h9 h5 hr0 hc0 hr1 hc1
  go_enter Try.func5, Try.ntmps5
  obtain ⟨w0, hw0⟩ : ∃ x, x = w := ⟨_, rfl⟩
  go_wp2_with fail
  refine (small_any w).mono ?_
  rintro e w1 ⟨rfl, hX⟩
  have HL1 := Aside0.mk (Kd.C_below HL0.out hX)
  have HE1 := Aside0.mk (Kd.C_below HE0.out hX)
  have HB1 := Aside0.mk (HB0.out.trans ((hX).mono HB0.out.size))
  clear HL0 HE0 HB0
  clear hX hw0
  go_wp2_with fail
  refine (rosettelaw09_Few.calls k A0 c0 l0 f9 w1 HL1.out HC.out.1 H95.out.1).mono ?_
  rintro e w2 ⟨rfl, hX⟩
  have HL2 := Aside0.mk (Kd.C_below HL1.out hX)
  have HE2 := Aside0.mk (Kd.C_below HE1.out hX)
  have HB2 := Aside0.mk (HB1.out.trans ((hX).mono HB1.out.size))
  clear HL1 HE1 HB1
  clear hX
  go_wp2_with fail
  refine (rosettelaw05_Few.calls k A1 c1 l1 f5 w2 HE2.out HC.out.2 H95.out.2).mono ?_
  rintro e w3 ⟨rfl, hD⟩
  have hX := drawn_belowI hD
  have HL3 := Aside0.mk (Kd.C_below HL2.out hX)
  have HE3 := Aside0.mk (Kd.C_below HE2.out hX)
  have HB3 := Aside0.mk (HB2.out.trans ((hX).mono HB2.out.size))
  clear HL2 HE2 HB2
  clear hX hD H95
  cases f9 with
  | false =>
    go_wp2_with fail
    go_ret
    exact ⟨rfl, HB3.out⟩
  | true =>
    cases f5 with
    | false =>
      go_wp2_with fail
      go_ret
      exact ⟨rfl, HB3.out⟩
    | true =>
      obtain ⟨hG1, hG2, hG3⟩ := HALL.out ⟨rfl, rfl⟩
      have HG := Aside0.mk (And.intro hG1 hG2)
      have HOK := Aside0.mk hG3
      clear hG1 hG2 hG3 HALL
      go_wp2_with fail
      refine (wrightE A1 c1 l1 w3 HE3.out (fun a ha => (HG.out.2.2 a ha).1)).mono ?_
      rintro e w4 ⟨rfl, hX⟩
      have HL4 := Aside0.mk (Kd.C_below HL3.out hX)
      have HE4 := Aside0.mk (Kd.C_below HE3.out hX)
      have HB4 := Aside0.mk (HB3.out.trans ((hX).mono HB3.out.size))
      clear HL3 HE3 HB3
      clear hX
      obtain ⟨re, hre⟩ : ∃ x, rightE l1 = x := ⟨_, rfl⟩
      rw [hre]
      have HRE := Aside0.mk hre
      clear hre
      cases re with
      | false =>
        go_wp2_with fail
        go_ret
        exact ⟨rfl, HB4.out⟩
      | true =>
        by_cases hc1 : a2 < 0
        case pos =>
          go_wp2_with fail
          go_ret
          exact ⟨rfl, HB4.out⟩
        by_cases hc2 : a2 ≥ l1.length
        case pos =>
          go_wp2_with fail
          go_ret
          exact ⟨rfl, HB4.out⟩
        have hok := HOK.out HRE.out (decide_eq_true (by omega))
        obtain ⟨n, rfl⟩ : ∃ n : Nat, a2 = (n : Int) := ⟨a2.toNat, by omega⟩
        rw [Int.toNat_natCast] at hok
        unfold moreOK at hok
        have HP := Aside0.mk hok
        have HGM := Aside0.mk (good_less HG.out.2 n)
        have hn : n + 1 ≤ l1.length := by omega
        have hnc : n + 1 ≤ c1 := by have := HC.out.2; omega
        clear hok HOK HRE
        go_wp2_with fail
        refine (lbuild (l0) (m := l0.length) rfl A0 c0 w4 HL4.out HC.out.1 HG.out.1).mono ?_
        rintro e w5 ⟨rfl, hQ⟩
        have hX := ixq_below hQ
        have HL5 := Aside0.mk (Kd.C_below HL4.out hX)
        have HE5 := Aside0.mk (Kd.C_below HE4.out hX)
        have HB5 := Aside0.mk (HB4.out.trans ((hX).mono HB4.out.size))
        clear HL4 HE4 HB4
        have HQx5 := Aside0.mk hQ
        clear hX hQ
        clear hc1 hc2
        go_wp2_with fail
        refine (emeet (l0) HG.out.1 A1 c1 (l1) w5 HQx5.out HE5.out HC.out.2 HG.out.2).mono ?_
        rintro e w6 ⟨Amx, cmx, rfl, hlc, hCm, hRm, hX⟩
        have HL6 := Aside0.mk (Kd.C_below HL5.out hX)
        have HE6 := Aside0.mk (Kd.C_below HE5.out hX)
        have HB6 := Aside0.mk (HB5.out.trans ((hX).mono HB5.out.size))
        have HQx6 := Aside0.mk (IxQ.step HQx5.out hX)
        clear HL5 HE5 HB5 HQx5
        have HCmx6 := Aside0.mk hCm
        have HRmx6 := Aside0.mk hRm
        have HLCmx := Aside0.mk hlc
        clear hCm hRm hlc hX
        clear HRmx6
        clear HL6
        have HLmx := Aside0.mk (show (tellL l0 l1).length ≤ 100000 by have := tell_len l0 l1; have := HG.out.1.1; omega)
        have HLml := Aside0.mk (show (tellL l0 (lessE l1 n)).length ≤ 100000 by have := tell_len l0 (lessE l1 n); have := HG.out.1.1; omega)
        have HEQ := Aside0.mk (show [] ++ l1.take n ++ l1.drop (n + 1) = lessE l1 n from rfl)
        have HTK := Aside0.mk (show (l1.take n).length = n by rw [List.length_take]; omega)
        have HDR := Aside0.mk (show (l1.drop (n + 1)).length = l1.length - (n + 1) by rw [List.length_drop])
        have hCt := Kd.C_take (m := n) HE6.out (by omega)
        rw [HTK.out] at hCt
        have HCT := Aside0.mk hCt
        clear hCt
        have hCd := Kd.C_drop (m := n + 1) HE6.out hn HC.out.2
        rw [HDR.out] at hCd
        have HCD := Aside0.mk hCd
        clear hCd
        generalize lessE l1 n = M at HEQ HGM HLml HP ⊢
        go_upto_region 10 with fail
        go_cut [12] from 49 to 60 (fun v wy => ∃ (Al : Option Addr) (cl : Nat), v = .slice Al (tellL l0 M).length cl ∧ Aside0 ((tellL l0 M).length ≤ cl) ∧ Aside0 ((Kd.int .i64).C wy Al (tellL l0 M).length (tellL l0 M)) ∧ Aside0 (Below w6.heap.size w6 wy))
        case first =>
          have hbd := below_drew (Below.refl w6.heap.size w6)
          have HQd := Aside0.mk (IxQ.step HQx6.out hbd)
          have HTd := Aside0.mk (Kd.C_below HCT.out hbd)
          have HDd := Aside0.mk (Kd.C_below HCD.out hbd)
          have HBD := Aside0.mk hbd
          clear hbd HCT HCD
          have hw1 : wrap64 ((n : Int) + 1) = ((n + 1 : Nat) : Int) := by unfold wrap64; omega
          have hw2 : IntKind.i64.wrap ((n : Int) + 1) = ((n + 1 : Nat) : Int) := by rw [IntKind.wrap_i64]; omega
          have hn2 : n ≤ c1 := by omega
          have hi0 : (n : Int) ≤ (n : Int) + 1 := by omega
          have hi1 : (0 : Int) ≤ (n : Int) + 1 := by omega
          have hi2 : (n : Int) + 1 ≤ (l1.length : Int) := by omega
          by_cases hcn : c1 = n + 1
          case pos =>
            rw [if_pos hcn] at HDd
            subst hcn
            refine wp_region_held_drew (S := (fun _ => True)) (by kernel_rfl) trivial (fun hHeld => ?_)
            generalize w6.drew = wz at HQd HTd HDd HBD hHeld ⊢
            refine wpAnyH_take (i := 0) (oi := { dst := some 49, op := Op.move (Operand.tmp 10), type := 26, pos := "law.go:112", after := #[], guard := none }) (v := ?_) rfl (by kernel_rfl) (by kernel_rfl) (by kernel_rfl) (fun _ _ _ h => h) (Or.inl ⟨by rfl, ?_⟩) (by assumption) ?_
            rotate_left
            · intro w hSw
              try dsimp only at hSw
              go_simp
              all_goals with_reducible rfl
            try simp only [Act.put, List.setIfInBounds_toArray, List.set_cons_zero, List.set_cons_succ]
            refine wpAnyH_take (i := 2) (oi := { dst := some 51, op := Op.move (Operand.tmp 1), type := 31, pos := "law.go:112", after := #[], guard := none }) (v := ?_) rfl (by kernel_rfl) (by kernel_rfl) (by kernel_rfl) (fun _ _ _ h => h) (Or.inl ⟨by rfl, ?_⟩) (by assumption) ?_
            rotate_left
            · intro w hSw
              try dsimp only at hSw
              go_simp
              all_goals with_reducible rfl
            try simp only [Act.put, List.setIfInBounds_toArray, List.set_cons_zero, List.set_cons_succ]
            refine wpAnyH_take (i := 3) (oi := { dst := some 52, op := Op.move (Operand.tmp 2), type := 3, pos := "law.go:112", after := #[], guard := none }) (v := ?_) rfl (by kernel_rfl) (by kernel_rfl) (by kernel_rfl) (fun _ _ _ h => h) (Or.inl ⟨by rfl, ?_⟩) (by assumption) ?_
            rotate_left
            · intro w hSw
              try dsimp only at hSw
              go_simp
              all_goals with_reducible rfl
            try simp only [Act.put, List.setIfInBounds_toArray, List.set_cons_zero, List.set_cons_succ]
            refine wpAnyH_take (i := 4) (oi := { dst := some 53, op := Op.slice 31 (Operand.tmp 51) none (some (Operand.tmp 52)) none, type := 31, pos := "law.go:112", after := #[{ on := 2, ground := Ground.data }, { on := 3, ground := Ground.data }], guard := none }) (v := ?_) rfl (by kernel_rfl) (by kernel_rfl) (by kernel_rfl) (fun _ _ _ h => h) (Or.inl ⟨by rfl, ?_⟩) (by assumption) ?_
            rotate_left
            · intro w hSw
              try dsimp only at hSw
              go_simp
              all_goals with_reducible rfl
            try simp only [Act.put, List.setIfInBounds_toArray, List.set_cons_zero, List.set_cons_succ]
            refine wpAnyH_take (i := 6) (oi := { dst := some 55, op := Op.move (Operand.tmp 1), type := 31, pos := "law.go:112", after := #[], guard := none }) (v := ?_) rfl (by kernel_rfl) (by kernel_rfl) (by kernel_rfl) (fun _ _ _ h => h) (Or.inl ⟨by rfl, ?_⟩) (by assumption) ?_
            rotate_left
            · intro w hSw
              try dsimp only at hSw
              go_simp
              all_goals with_reducible rfl
            try simp only [Act.put, List.setIfInBounds_toArray, List.set_cons_zero, List.set_cons_succ]
            refine wpAnyH_take (i := 7) (oi := { dst := some 56, op := Op.move (Operand.tmp 2), type := 3, pos := "law.go:112", after := #[], guard := none }) (v := ?_) rfl (by kernel_rfl) (by kernel_rfl) (by kernel_rfl) (fun _ _ _ h => h) (Or.inl ⟨by rfl, ?_⟩) (by assumption) ?_
            rotate_left
            · intro w hSw
              try dsimp only at hSw
              go_simp
              all_goals with_reducible rfl
            try simp only [Act.put, List.setIfInBounds_toArray, List.set_cons_zero, List.set_cons_succ]
            refine wpAnyH_take (i := 8) (oi := { dst := some 57, op := Op.binOp BinOp.add 3 (Operand.tmp 56) (Operand.const (Value.int IntKind.i64 1)) 3, type := 3, pos := "law.go:112", after := #[{ on := 7, ground := Ground.data }], guard := none }) (v := ?_) rfl (by kernel_rfl) (by kernel_rfl) (by kernel_rfl) (fun _ _ _ h => h) (Or.inl ⟨by rfl, ?_⟩) (by assumption) ?_
            rotate_left
            · intro w hSw
              try dsimp only at hSw
              go_simp
              all_goals with_reducible rfl
            try simp only [Act.put, List.setIfInBounds_toArray, List.set_cons_zero, List.set_cons_succ]
            refine wpAnyH_take (i := 9) (oi := { dst := some 58, op := Op.slice 31 (Operand.tmp 55) (some (Operand.tmp 57)) none none, type := 31, pos := "law.go:112", after := #[{ on := 6, ground := Ground.data }, { on := 8, ground := Ground.data }], guard := none }) (v := ?_) rfl (by kernel_rfl) (by kernel_rfl) (by kernel_rfl) (fun _ _ _ h => h) (Or.inl ⟨by rfl, ?_⟩) (by assumption) ?_
            rotate_left
            · intro w hSw
              try dsimp only at hSw
              go_simp
              all_goals with_reducible rfl
            try simp only [Act.put, List.setIfInBounds_toArray, List.set_cons_zero, List.set_cons_succ]
            refine wpAnyH_ready (rs := [1]) (by kernel_rfl) (by simp) ?_
            refine AllReadyH.cons (o := { dst := some 50, op := Op.buildSlice 31 0 #[], type := 31, pos := "law.go:112", after := #[], guard := none }) rfl (fun K hK => ?_) AllReadyH.nil
            go_simp
            (have HOc := Aside0.mk (nil49 wz wz.heap.size (Nat.le_refl _)); have HBBc := Aside0.mk ((Below.refl wz.heap.size wz).alloc (Nat.le_refl _) (.cells #[] 49 (0, 0))); have HSc := Aside0.mk HBBc.out.size)
            refine hK.out _ _ trivial (fun hHeld => ?_)
            clear hK K
            try simp only [Act.put, List.setIfInBounds_toArray, List.set_cons_zero, List.set_cons_succ]
            refine wpAnyH_ready (rs := [5]) (by kernel_rfl) (by simp) ?_
            refine AllReadyH.cons (o := { dst := some 54, op := Op.call { callee := Callee.builtin Builtin.append, args := #[Operand.tmp 50, Operand.tmp 53], argTypes := #[31, 31] }, type := 31, pos := "law.go:112", after := #[{ on := 1, ground := Ground.data }, { on := 4, ground := Ground.data }], guard := none }) rfl (fun K hK => ?_) AllReadyH.nil
            (refine Kd.R_append_rows_step k49 (w0 := wz) wz.heap.size (by rfl) (.tmp 50) (.tmp 53) 31 49 _ 48 rfl Try.underlying31 info_at rfl (by decide) (by decide) _ [] (l1.take n) A1 n _ (fun _ => True) (fun _ => False) rfl rfl HOc.out (Kd.C_below HTd.out HBBc.out) km49 (fun _ hk => hk.elim) (fun _ _ => trivial) HBBc.out HSc.out (by have := HG.out.2.1; simp only [List.length_nil]; omega) ?_; intro vn wn hR hBn hG hat; obtain ⟨An, cn, rfl⟩ := Kd.R_slice hR; have HOd := Aside0.mk hR; have HSd := Aside0.mk hBn.size; clear HOc HBBc HSc; have HOc := HOd; have HBBc := Aside0.mk hBn; have HSc := HSd; clear HOd HSd hR hBn hG hat)
            refine hK.out _ _ trivial (fun hHeld => ?_)
            clear hK K
            try simp only [Act.put, List.setIfInBounds_toArray, List.set_cons_zero, List.set_cons_succ]
            refine wpAnyH_ready (rs := [10]) (by kernel_rfl) (by simp) ?_
            refine AllReadyH.cons (o := { dst := some 59, op := Op.call { callee := Callee.builtin Builtin.append, args := #[Operand.tmp 54, Operand.tmp 58], argTypes := #[31, 31] }, type := 31, pos := "law.go:112", after := #[{ on := 5, ground := Ground.data }, { on := 9, ground := Ground.data }, { on := 5, ground := Ground.chain }], guard := none }) rfl (fun K hK => ?_) AllReadyH.nil
            (refine Kd.R_append_rows_step k49 (w0 := wz) wz.heap.size (by rfl) (.tmp 54) (.tmp 58) 31 49 _ 48 rfl Try.underlying31 info_at rfl (by decide) (by decide) _ ([] ++ l1.take n) (l1.drop (n + 1)) _ (l1.length - (n + 1)) _ (fun _ => True) (fun _ => False) rfl rfl HOc.out (Kd.C_below HDd.out HBBc.out) km49 (fun _ hk => hk.elim) (fun _ _ => trivial) HBBc.out HSc.out (by have := HG.out.2.1; rw [List.nil_append, HTK.out]; omega) ?_; intro vn wn hR hBn hG hat; rw [HEQ.out] at hR; obtain ⟨An, cn, rfl⟩ := Kd.R_slice hR; have HOd := Aside0.mk hR; have HSd := Aside0.mk hBn.size; clear HOc HBBc HSc; have HOc := HOd; have HBBc := Aside0.mk hBn; have HSc := HSd; clear HOd HSd hR hBn hG hat)
            refine hK.out _ _ trivial (fun hHeld => ?_)
            clear hK K
            try simp only [Act.put, List.setIfInBounds_toArray, List.set_cons_zero, List.set_cons_succ]
            refine wpAnyH_ready (rs := [11]) (by kernel_rfl) (by simp) ?_
            refine AllReadyH.cons (o := { dst := some 60, op := Op.call { callee := Callee.value (Operand.func 15), args := #[Operand.tmp 49, Operand.tmp 59], argTypes := #[26, 31] }, type := 32, pos := "law.go:112", after := #[{ on := 0, ground := Ground.data }, { on := 10, ground := Ground.data }, { on := 10, ground := Ground.chain }], guard := none }) rfl (fun K hK => ?_) AllReadyH.nil
            (have hrd := Kd.R_reads' HOc.out; have HX := Aside0.mk HBBc.out; go_simp; refine (emeet l0 HG.out.1 _ _ M _ (IxQ.step HQd.out HBBc.out) hrd.2.2 hrd.2.1 HGM.out).mono ?_; rintro e wm ⟨Am, cm, rfl, hlc, hCm, hRm, hX⟩; have HLc := Aside0.mk hlc; have HCm := Aside0.mk hCm; have HBm := Aside0.mk (HX.out.trans (hX.mono HX.out.size)); clear hlc hCm hRm hX hrd; go_wp2_with fail)
            refine hK.out _ _ trivial (fun hHeld => ?_)
            clear hK K
            try simp only [Act.put, List.setIfInBounds_toArray, List.set_cons_zero, List.set_cons_succ]
            refine wpAnyH_take (i := 12) (oi := { dst := some 12, op := Op.assign (Operand.tmp 60), type := 32, pos := "law.go:112", after := #[{ on := 11, ground := Ground.data }, { on := 11, ground := Ground.chain }, { on := 0, ground := Ground.phase }, { on := 1, ground := Ground.phase }, { on := 2, ground := Ground.phase }, { on := 3, ground := Ground.phase }, { on := 4, ground := Ground.phase }, { on := 5, ground := Ground.phase }, { on := 6, ground := Ground.phase }, { on := 7, ground := Ground.phase }, { on := 8, ground := Ground.phase }, { on := 9, ground := Ground.phase }, { on := 10, ground := Ground.phase }, { on := 11, ground := Ground.phase }], guard := none }) (v := ?_) rfl (by kernel_rfl) (by kernel_rfl) (by kernel_rfl) (fun _ _ _ h => h) (Or.inl ⟨by rfl, ?_⟩) (by assumption) ?_
            rotate_left
            · intro w hSw
              try dsimp only at hSw
              go_simp
              all_goals with_reducible rfl
            try simp only [Act.put, List.setIfInBounds_toArray, List.set_cons_zero, List.set_cons_succ]
            refine wpAnyH_done (by kernel_rfl) ?_ _
            go_wp2_with fail
            go_meet
            exact ⟨Am, cm, rfl, HLc, HCm, ⟨HBD.out.trans (HBm.out.mono HBD.out.size)⟩⟩
          case neg =>
            rw [if_neg hcn] at HDd
            refine wp_region_held_drew (S := (fun _ => True)) (by kernel_rfl) trivial (fun hHeld => ?_)
            generalize w6.drew = wz at HQd HTd HDd HBD hHeld ⊢
            refine wpAnyH_take (i := 0) (oi := { dst := some 49, op := Op.move (Operand.tmp 10), type := 26, pos := "law.go:112", after := #[], guard := none }) (v := ?_) rfl (by kernel_rfl) (by kernel_rfl) (by kernel_rfl) (fun _ _ _ h => h) (Or.inl ⟨by rfl, ?_⟩) (by assumption) ?_
            rotate_left
            · intro w hSw
              try dsimp only at hSw
              go_simp
              all_goals with_reducible rfl
            try simp only [Act.put, List.setIfInBounds_toArray, List.set_cons_zero, List.set_cons_succ]
            refine wpAnyH_take (i := 2) (oi := { dst := some 51, op := Op.move (Operand.tmp 1), type := 31, pos := "law.go:112", after := #[], guard := none }) (v := ?_) rfl (by kernel_rfl) (by kernel_rfl) (by kernel_rfl) (fun _ _ _ h => h) (Or.inl ⟨by rfl, ?_⟩) (by assumption) ?_
            rotate_left
            · intro w hSw
              try dsimp only at hSw
              go_simp
              all_goals with_reducible rfl
            try simp only [Act.put, List.setIfInBounds_toArray, List.set_cons_zero, List.set_cons_succ]
            refine wpAnyH_take (i := 3) (oi := { dst := some 52, op := Op.move (Operand.tmp 2), type := 3, pos := "law.go:112", after := #[], guard := none }) (v := ?_) rfl (by kernel_rfl) (by kernel_rfl) (by kernel_rfl) (fun _ _ _ h => h) (Or.inl ⟨by rfl, ?_⟩) (by assumption) ?_
            rotate_left
            · intro w hSw
              try dsimp only at hSw
              go_simp
              all_goals with_reducible rfl
            try simp only [Act.put, List.setIfInBounds_toArray, List.set_cons_zero, List.set_cons_succ]
            refine wpAnyH_take (i := 4) (oi := { dst := some 53, op := Op.slice 31 (Operand.tmp 51) none (some (Operand.tmp 52)) none, type := 31, pos := "law.go:112", after := #[{ on := 2, ground := Ground.data }, { on := 3, ground := Ground.data }], guard := none }) (v := ?_) rfl (by kernel_rfl) (by kernel_rfl) (by kernel_rfl) (fun _ _ _ h => h) (Or.inl ⟨by rfl, ?_⟩) (by assumption) ?_
            rotate_left
            · intro w hSw
              try dsimp only at hSw
              go_simp
              all_goals with_reducible rfl
            try simp only [Act.put, List.setIfInBounds_toArray, List.set_cons_zero, List.set_cons_succ]
            refine wpAnyH_take (i := 6) (oi := { dst := some 55, op := Op.move (Operand.tmp 1), type := 31, pos := "law.go:112", after := #[], guard := none }) (v := ?_) rfl (by kernel_rfl) (by kernel_rfl) (by kernel_rfl) (fun _ _ _ h => h) (Or.inl ⟨by rfl, ?_⟩) (by assumption) ?_
            rotate_left
            · intro w hSw
              try dsimp only at hSw
              go_simp
              all_goals with_reducible rfl
            try simp only [Act.put, List.setIfInBounds_toArray, List.set_cons_zero, List.set_cons_succ]
            refine wpAnyH_take (i := 7) (oi := { dst := some 56, op := Op.move (Operand.tmp 2), type := 3, pos := "law.go:112", after := #[], guard := none }) (v := ?_) rfl (by kernel_rfl) (by kernel_rfl) (by kernel_rfl) (fun _ _ _ h => h) (Or.inl ⟨by rfl, ?_⟩) (by assumption) ?_
            rotate_left
            · intro w hSw
              try dsimp only at hSw
              go_simp
              all_goals with_reducible rfl
            try simp only [Act.put, List.setIfInBounds_toArray, List.set_cons_zero, List.set_cons_succ]
            refine wpAnyH_take (i := 8) (oi := { dst := some 57, op := Op.binOp BinOp.add 3 (Operand.tmp 56) (Operand.const (Value.int IntKind.i64 1)) 3, type := 3, pos := "law.go:112", after := #[{ on := 7, ground := Ground.data }], guard := none }) (v := ?_) rfl (by kernel_rfl) (by kernel_rfl) (by kernel_rfl) (fun _ _ _ h => h) (Or.inl ⟨by rfl, ?_⟩) (by assumption) ?_
            rotate_left
            · intro w hSw
              try dsimp only at hSw
              go_simp
              all_goals with_reducible rfl
            try simp only [Act.put, List.setIfInBounds_toArray, List.set_cons_zero, List.set_cons_succ]
            refine wpAnyH_take (i := 9) (oi := { dst := some 58, op := Op.slice 31 (Operand.tmp 55) (some (Operand.tmp 57)) none none, type := 31, pos := "law.go:112", after := #[{ on := 6, ground := Ground.data }, { on := 8, ground := Ground.data }], guard := none }) (v := ?_) rfl (by kernel_rfl) (by kernel_rfl) (by kernel_rfl) (fun _ _ _ h => h) (Or.inl ⟨by rfl, ?_⟩) (by assumption) ?_
            rotate_left
            · intro w hSw
              try dsimp only at hSw
              go_simp
              all_goals with_reducible rfl
            try simp only [Act.put, List.setIfInBounds_toArray, List.set_cons_zero, List.set_cons_succ]
            refine wpAnyH_ready (rs := [1]) (by kernel_rfl) (by simp) ?_
            refine AllReadyH.cons (o := { dst := some 50, op := Op.buildSlice 31 0 #[], type := 31, pos := "law.go:112", after := #[], guard := none }) rfl (fun K hK => ?_) AllReadyH.nil
            go_simp
            (have HOc := Aside0.mk (nil49 wz wz.heap.size (Nat.le_refl _)); have HBBc := Aside0.mk ((Below.refl wz.heap.size wz).alloc (Nat.le_refl _) (.cells #[] 49 (0, 0))); have HSc := Aside0.mk HBBc.out.size)
            refine hK.out _ _ trivial (fun hHeld => ?_)
            clear hK K
            try simp only [Act.put, List.setIfInBounds_toArray, List.set_cons_zero, List.set_cons_succ]
            refine wpAnyH_ready (rs := [5]) (by kernel_rfl) (by simp) ?_
            refine AllReadyH.cons (o := { dst := some 54, op := Op.call { callee := Callee.builtin Builtin.append, args := #[Operand.tmp 50, Operand.tmp 53], argTypes := #[31, 31] }, type := 31, pos := "law.go:112", after := #[{ on := 1, ground := Ground.data }, { on := 4, ground := Ground.data }], guard := none }) rfl (fun K hK => ?_) AllReadyH.nil
            (refine Kd.R_append_rows_step k49 (w0 := wz) wz.heap.size (by rfl) (.tmp 50) (.tmp 53) 31 49 _ 48 rfl Try.underlying31 info_at rfl (by decide) (by decide) _ [] (l1.take n) A1 n _ (fun _ => True) (fun _ => False) rfl rfl HOc.out (Kd.C_below HTd.out HBBc.out) km49 (fun _ hk => hk.elim) (fun _ _ => trivial) HBBc.out HSc.out (by have := HG.out.2.1; simp only [List.length_nil]; omega) ?_; intro vn wn hR hBn hG hat; obtain ⟨An, cn, rfl⟩ := Kd.R_slice hR; have HOd := Aside0.mk hR; have HSd := Aside0.mk hBn.size; clear HOc HBBc HSc; have HOc := HOd; have HBBc := Aside0.mk hBn; have HSc := HSd; clear HOd HSd hR hBn hG hat)
            refine hK.out _ _ trivial (fun hHeld => ?_)
            clear hK K
            try simp only [Act.put, List.setIfInBounds_toArray, List.set_cons_zero, List.set_cons_succ]
            refine wpAnyH_ready (rs := [10]) (by kernel_rfl) (by simp) ?_
            refine AllReadyH.cons (o := { dst := some 59, op := Op.call { callee := Callee.builtin Builtin.append, args := #[Operand.tmp 54, Operand.tmp 58], argTypes := #[31, 31] }, type := 31, pos := "law.go:112", after := #[{ on := 5, ground := Ground.data }, { on := 9, ground := Ground.data }, { on := 5, ground := Ground.chain }], guard := none }) rfl (fun K hK => ?_) AllReadyH.nil
            (refine Kd.R_append_rows_step k49 (w0 := wz) wz.heap.size (by rfl) (.tmp 54) (.tmp 58) 31 49 _ 48 rfl Try.underlying31 info_at rfl (by decide) (by decide) _ ([] ++ l1.take n) (l1.drop (n + 1)) _ (l1.length - (n + 1)) _ (fun _ => True) (fun _ => False) rfl rfl HOc.out (Kd.C_below HDd.out HBBc.out) km49 (fun _ hk => hk.elim) (fun _ _ => trivial) HBBc.out HSc.out (by have := HG.out.2.1; rw [List.nil_append, HTK.out]; omega) ?_; intro vn wn hR hBn hG hat; rw [HEQ.out] at hR; obtain ⟨An, cn, rfl⟩ := Kd.R_slice hR; have HOd := Aside0.mk hR; have HSd := Aside0.mk hBn.size; clear HOc HBBc HSc; have HOc := HOd; have HBBc := Aside0.mk hBn; have HSc := HSd; clear HOd HSd hR hBn hG hat)
            refine hK.out _ _ trivial (fun hHeld => ?_)
            clear hK K
            try simp only [Act.put, List.setIfInBounds_toArray, List.set_cons_zero, List.set_cons_succ]
            refine wpAnyH_ready (rs := [11]) (by kernel_rfl) (by simp) ?_
            refine AllReadyH.cons (o := { dst := some 60, op := Op.call { callee := Callee.value (Operand.func 15), args := #[Operand.tmp 49, Operand.tmp 59], argTypes := #[26, 31] }, type := 32, pos := "law.go:112", after := #[{ on := 0, ground := Ground.data }, { on := 10, ground := Ground.data }, { on := 10, ground := Ground.chain }], guard := none }) rfl (fun K hK => ?_) AllReadyH.nil
            (have hrd := Kd.R_reads' HOc.out; have HX := Aside0.mk HBBc.out; go_simp; refine (emeet l0 HG.out.1 _ _ M _ (IxQ.step HQd.out HBBc.out) hrd.2.2 hrd.2.1 HGM.out).mono ?_; rintro e wm ⟨Am, cm, rfl, hlc, hCm, hRm, hX⟩; have HLc := Aside0.mk hlc; have HCm := Aside0.mk hCm; have HBm := Aside0.mk (HX.out.trans (hX.mono HX.out.size)); clear hlc hCm hRm hX hrd; go_wp2_with fail)
            refine hK.out _ _ trivial (fun hHeld => ?_)
            clear hK K
            try simp only [Act.put, List.setIfInBounds_toArray, List.set_cons_zero, List.set_cons_succ]
            refine wpAnyH_take (i := 12) (oi := { dst := some 12, op := Op.assign (Operand.tmp 60), type := 32, pos := "law.go:112", after := #[{ on := 11, ground := Ground.data }, { on := 11, ground := Ground.chain }, { on := 0, ground := Ground.phase }, { on := 1, ground := Ground.phase }, { on := 2, ground := Ground.phase }, { on := 3, ground := Ground.phase }, { on := 4, ground := Ground.phase }, { on := 5, ground := Ground.phase }, { on := 6, ground := Ground.phase }, { on := 7, ground := Ground.phase }, { on := 8, ground := Ground.phase }, { on := 9, ground := Ground.phase }, { on := 10, ground := Ground.phase }, { on := 11, ground := Ground.phase }], guard := none }) (v := ?_) rfl (by kernel_rfl) (by kernel_rfl) (by kernel_rfl) (fun _ _ _ h => h) (Or.inl ⟨by rfl, ?_⟩) (by assumption) ?_
            rotate_left
            · intro w hSw
              try dsimp only at hSw
              go_simp
              all_goals with_reducible rfl
            try simp only [Act.put, List.setIfInBounds_toArray, List.set_cons_zero, List.set_cons_succ]
            refine wpAnyH_done (by kernel_rfl) ?_ _
            go_wp2_with fail
            go_meet
            exact ⟨Am, cm, rfl, HLc, HCm, ⟨HBD.out.trans (HBm.out.mono HBD.out.size)⟩⟩
        case rest =>
        obtain ⟨Aml, cml, rfl, HLCml, HCml, hcut⟩ := hcut
        obtain ⟨w7, hwz⟩ : ∃ x, x = wc := ⟨_, rfl⟩
        rw [← hwz] at hcut HCml ⊢
        clear hwz HCT HCD HTK HDR HEQ HGM hn hnc
        have hX := hcut.out
        have HE7 := Aside0.mk (Kd.C_below HE6.out hX)
        have HB7 := Aside0.mk (HB6.out.trans ((hX).mono HB6.out.size))
        have HQx7 := Aside0.mk (IxQ.step HQx6.out hX)
        have HCmx7 := Aside0.mk (Kd.C_below HCmx6.out hX)
        clear HE6 HB6 HQx6 HCmx6
        have HCml7 := HCml
        clear hX hcut HCml
        generalize tellL l0 M = tl at HCml7 HLCml HLml HP ⊢
        generalize tellL l0 l1 = ta at HCmx7 HLCmx HLmx HP ⊢
        have hla := HLmx.out
        have hll := HLml.out
        go_upto_block 0 with fail
        go_cut [13] from 61 to 83 (fun v wx => v = .int .i64 tl.length ∧ Aside0 (Below w7.heap.size w7 wx))
        case first =>
          go_wp2_with fail
          go_loopw [13, 14] (fun v i wr => ∃ a b : Nat, a ≤ tl.length ∧ b ≤ ta.length ∧ v = .int .i64 a ∧ i = .int .i64 b ∧ Aside0 ((tl.drop a).Sublist (ta.drop b)) ∧ Aside0 (Below w7.heap.size w7 wr)) (fun _ i _ => ta.length - (intOf i).toNat)
          case atStart => exact ⟨0, 0, Nat.zero_le _, Nat.zero_le _, rfl, rfl, ⟨HP.out⟩, ⟨Below.refl _ _⟩⟩
          case round =>
            obtain ⟨a, b, ha, hb, rfl, rfl, HS, HW⟩ := hrel
            by_cases hbt : b < ta.length
            case neg =>
              obtain rfl := sub_end HS.out ha (by omega)
              go_wp2_with fail
              go_meet
              exact ⟨rfl, HW⟩
            by_cases hat : a < tl.length
            case neg =>
              obtain rfl : a = tl.length := by omega
              go_wp2_with fail
              go_meet
              exact ⟨rfl, HW⟩
            obtain ⟨ada, hAa, hca⟩ := Kd.at_int (Kd.C_below HCmx7.out HW.out) (b : Int) (by omega) (by omega)
            obtain ⟨adb, hAb, hcb⟩ := Kd.at_int (Kd.C_below HCml7.out HW.out) (a : Int) (by omega) (by omega)
            subst hAa hAb
            rw [Int.toNat_natCast] at hca hcb
            have HN := Aside0.mk (fun h => sub_next HS.out hat hbt h)
            have HK := Aside0.mk (fun h => sub_skip HS.out hat hbt h)
            generalize rd ta (b : Int) = av at hca HN HK
            generalize rd tl (a : Int) = bv at hcb HN HK
            obtain ⟨bq, hbq⟩ : ∃ x, (av == bv) = x := ⟨_, rfl⟩
            have hbd : decide (av = bv) = bq := by rw [← hbq]; rfl
            have hi1 : (b : Int) < (ta.length : Int) := by omega
            have hi2 : (a : Int) < (tl.length : Int) := by omega
            go_upto_region 15 with fail
            refine wp_region_held_drew (S := (fun W => W.cell? (ada.add b) = some (.int .i64 av) ∧ W.cell? (adb.add a) = some (.int .i64 bv))) (by kernel_rfl) ⟨below_cellE (below_drew (Below.refl _ _)) hca, below_cellE (below_drew (Below.refl _ _)) hcb⟩ (fun hHeld => ?_)
            refine wpAnyH_take (i := 0) (oi := { dst := some 73, op := Op.move (Operand.tmp 11), type := 32, pos := "law.go:115", after := #[], guard := none }) (v := ?_) rfl (by kernel_rfl) (by kernel_rfl) (by kernel_rfl) (fun _ _ _ h => h) (Or.inl ⟨by rfl, ?_⟩) (by assumption) ?_
            rotate_left
            · intro w hSw
              try dsimp only at hSw
              go_simp
              all_goals with_reducible rfl
            try simp only [Act.put, List.setIfInBounds_toArray, List.set_cons_zero, List.set_cons_succ]
            refine wpAnyH_take (i := 1) (oi := { dst := some 74, op := Op.move (Operand.tmp 14), type := 3, pos := "law.go:115", after := #[], guard := none }) (v := ?_) rfl (by kernel_rfl) (by kernel_rfl) (by kernel_rfl) (fun _ _ _ h => h) (Or.inl ⟨by rfl, ?_⟩) (by assumption) ?_
            rotate_left
            · intro w hSw
              try dsimp only at hSw
              go_simp
              all_goals with_reducible rfl
            try simp only [Act.put, List.setIfInBounds_toArray, List.set_cons_zero, List.set_cons_succ]
            refine wpAnyH_take (i := 2) (oi := { dst := some 75, op := Op.indexAddr 32 (Operand.tmp 73) (Operand.tmp 74), type := 0, pos := "law.go:115", after := #[{ on := 0, ground := Ground.data }, { on := 1, ground := Ground.data }], guard := none }) (v := ?_) rfl (by kernel_rfl) (by kernel_rfl) (by kernel_rfl) (fun _ _ _ h => h) (Or.inl ⟨by rfl, ?_⟩) (by assumption) ?_
            rotate_left
            · intro w hSw
              try dsimp only at hSw
              go_simp
              all_goals with_reducible rfl
            try simp only [Act.put, List.setIfInBounds_toArray, List.set_cons_zero, List.set_cons_succ]
            refine wpAnyH_take (i := 3) (oi := { dst := some 76, op := Op.load 3 (Operand.tmp 75), type := 3, pos := "law.go:115", after := #[{ on := 2, ground := Ground.data }], guard := none }) (v := ?_) rfl (by kernel_rfl) (by kernel_rfl) (by kernel_rfl) (fun _ _ _ h => h) (Or.inl ⟨by rfl, ?_⟩) (by assumption) ?_
            rotate_left
            · intro w hSw
              try dsimp only at hSw
              go_simp
              all_goals with_reducible rfl
            try simp only [Act.put, List.setIfInBounds_toArray, List.set_cons_zero, List.set_cons_succ]
            refine wpAnyH_take (i := 4) (oi := { dst := some 77, op := Op.move (Operand.tmp 12), type := 32, pos := "law.go:115", after := #[], guard := none }) (v := ?_) rfl (by kernel_rfl) (by kernel_rfl) (by kernel_rfl) (fun _ _ _ h => h) (Or.inl ⟨by rfl, ?_⟩) (by assumption) ?_
            rotate_left
            · intro w hSw
              try dsimp only at hSw
              go_simp
              all_goals with_reducible rfl
            try simp only [Act.put, List.setIfInBounds_toArray, List.set_cons_zero, List.set_cons_succ]
            refine wpAnyH_take (i := 5) (oi := { dst := some 78, op := Op.move (Operand.tmp 13), type := 3, pos := "law.go:115", after := #[], guard := none }) (v := ?_) rfl (by kernel_rfl) (by kernel_rfl) (by kernel_rfl) (fun _ _ _ h => h) (Or.inl ⟨by rfl, ?_⟩) (by assumption) ?_
            rotate_left
            · intro w hSw
              try dsimp only at hSw
              go_simp
              all_goals with_reducible rfl
            try simp only [Act.put, List.setIfInBounds_toArray, List.set_cons_zero, List.set_cons_succ]
            refine wpAnyH_take (i := 6) (oi := { dst := some 79, op := Op.indexAddr 32 (Operand.tmp 77) (Operand.tmp 78), type := 0, pos := "law.go:115", after := #[{ on := 4, ground := Ground.data }, { on := 5, ground := Ground.data }], guard := none }) (v := ?_) rfl (by kernel_rfl) (by kernel_rfl) (by kernel_rfl) (fun _ _ _ h => h) (Or.inl ⟨by rfl, ?_⟩) (by assumption) ?_
            rotate_left
            · intro w hSw
              try dsimp only at hSw
              go_simp
              all_goals with_reducible rfl
            try simp only [Act.put, List.setIfInBounds_toArray, List.set_cons_zero, List.set_cons_succ]
            refine wpAnyH_take (i := 7) (oi := { dst := some 80, op := Op.load 3 (Operand.tmp 79), type := 3, pos := "law.go:115", after := #[{ on := 6, ground := Ground.data }], guard := none }) (v := ?_) rfl (by kernel_rfl) (by kernel_rfl) (by kernel_rfl) (fun _ _ _ h => h) (Or.inl ⟨by rfl, ?_⟩) (by assumption) ?_
            rotate_left
            · intro w hSw
              try dsimp only at hSw
              go_simp
              all_goals with_reducible rfl
            try simp only [Act.put, List.setIfInBounds_toArray, List.set_cons_zero, List.set_cons_succ]
            refine wpAnyH_take (i := 8) (oi := { dst := some 81, op := Op.binOp BinOp.eql 3 (Operand.tmp 76) (Operand.tmp 80) 3, type := 4, pos := "law.go:115", after := #[{ on := 3, ground := Ground.data }, { on := 7, ground := Ground.data }], guard := none }) (v := ?_) rfl (by kernel_rfl) (by kernel_rfl) (by kernel_rfl) (fun _ _ _ h => h) (Or.inl ⟨by rfl, ?_⟩) (by assumption) ?_
            rotate_left
            · intro w hSw
              try dsimp only at hSw
              go_simp
              all_goals with_reducible rfl
            try simp only [Act.put, List.setIfInBounds_toArray, List.set_cons_zero, List.set_cons_succ]
            refine wpAnyH_done (by kernel_rfl) ?_ _
            clear hHeld
            have HW2 := Aside0.mk (below_drew HW.out)
            clear hbd
            cases bq with
            | true =>
              have HS2 := Aside0.mk (HN.out (by simpa using hbq))
              clear hbq HN HK HS
              go_wp2_with fail
              exact ⟨⟨a + 1, b + 1, by omega, by omega, by go_num, by go_num, HS2, HW2⟩, by simp [intOf]; omega⟩
            | false =>
              have HS2 := Aside0.mk (HK.out (by simpa using hbq))
              clear hbq HN HK HS
              go_wp2_with fail
              exact ⟨⟨a, b + 1, by omega, by omega, rfl, by go_num, HS2, HW2⟩, by simp [intOf]; omega⟩
        case rest =>
        obtain ⟨rfl, hcut⟩ := hcut
        obtain ⟨w8, hwz⟩ : ∃ x, x = wc := ⟨_, rfl⟩
        rw [← hwz] at hcut ⊢
        clear hwz
        have hX := hcut.out
        have HE8 := Aside0.mk (Kd.C_below HE7.out hX)
        have HB8 := Aside0.mk (HB7.out.trans ((hX).mono HB7.out.size))
        have HQx8 := Aside0.mk (IxQ.step HQx7.out hX)
        have HCmx8 := Aside0.mk (Kd.C_below HCmx7.out hX)
        have HCml8 := Aside0.mk (Kd.C_below HCml7.out hX)
        clear HE7 HB7 HQx7 HCmx7 HCml7
        clear hX hcut
        go_wp2_with fail
        go_ret
        exact ⟨rfl, HB8.out⟩
end Go.Proofs.Ytbcnknmgljdmlaa.G
end

section
namespace Go.Proofs.Ytbcnknmgljdmlaa.G
open Go.RowKit Go.Proofs.Ytbcnknmgljdmlaa Go.Proofs.Ytbcnknmgljdmlaa.G Go.Proofs.YtbcnknmgljdmlaaW.PrintWords Go.Proofs.YtbcnknmgljdmlaaW.PrintLast

/-- The pure statement of rosettelaw12_IndexMore. -/
def rosettelaw12_IndexMore.Pure : Prop := ∀ (l0 : (List S41)) (l1 : (List S49)) (a2 : Int), ((l0.length ≤ maxLen ∧ l0.length * 40 ≤ 140737488351232) ∧ ∀ x0 ∈ l0, ((Lit.int .i64 x0.f0).wf = true ∧ ((Lit.int .i64 x0.f1).wf = true ∧ ((x0.f2.length ≤ maxLen ∧ x0.f2.length * 56 ≤ 140737488351232) ∧ ∀ x1 ∈ x0.f2, (x1.f0.size ≤ 140737488351232 ∧ ((Lit.int .i64 x1.f1).wf = true ∧ ((Lit.int .i64 x1.f2.f0).wf = true ∧ ((Lit.int .i64 x1.f2.f1).wf = true ∧ x1.f2.f2.size ≤ 140737488351232)))))))) → ((l1.length ≤ maxLen ∧ l1.length * 48 ≤ 140737488351232) ∧ ∀ x0 ∈ l1, (x0.f0.size ≤ 140737488351232 ∧ ((Lit.int .i64 x0.f1.f0).wf = true ∧ ((Lit.int .i64 x0.f1.f1).wf = true ∧ x0.f1.f2.size ≤ 140737488351232)))) → (Lit.int .i64 a2).wf = true → ∃ k, rosettelaw12_IndexMore.f k l0 l1 a2 = some true
end Go.Proofs.Ytbcnknmgljdmlaa.G
end

section
/- entries are few, events are short: what the laws of the index ask holds; plain laws -/
set_option linter.unusedVariables false
set_option linter.unusedSimpArgs false
set_option autoImplicit false
namespace Go.Proofs.Ytbcnknmgljdmlaa
open Go Go.RowKit Go.Proofs.YtbcnknmgljdmlaaW.PrintWords Go.Proofs.YtbcnknmgljdmlaaW.PrintLast Go.Proofs.Ytbcnknmgljdmlaa.G

def tot (l : List S41) : Nat := (l.map fun e => e.f2.length).sum
theorem tot_pairs : ∀ (l : List S41) (s : Nat), (pairsFrom s l).length = tot l := by
  intro l
  induction l with
  | nil => intro s; rfl
  | cons e l ih => intro s; rw [pairsFrom, List.length_append, List.length_map, ih]; simp [tot]
theorem few9_in (l : List S41) (hs : l.length ≤ 4611686018427387904) (hr : ∀ x ∈ l, x.f2.length ≤ 140737488351232) (i : Nat) (hi : i < l.length) (x3 : Int) (Q : Prop)
    (h0 : ∃ k b, rosettelaw09_Few.l0 k l x3 ((i + 1 : Nat) : Int) = some b ∧ (b = true → Q)) : ∀ (d j : Nat), j + d = (rd_T41 l (i : Int)).f2.length → ∃ k b, rosettelaw09_Few.l1 k l x3 (i : Int) (j : Int) = some b ∧ (b = true → Q) := by
  have hx : (rd_T41 l (i : Int)).f2.length ≤ 140737488351232 := by
    have e : rd_T41 l (i : Int) = l[i] := by simp [rd_T41, List.getD_eq_getElem?_getD, hi]
    rw [e]
    exact hr _ (List.getElem_mem hi)
  intro d
  induction d with
  | zero =>
    intro j hj
    obtain ⟨k, b, h, hb⟩ := h0
    refine ⟨k + 1, b, ?_, hb⟩
    simp only [rosettelaw09_Few.l1]
    rw [if_pos (by omega), if_pos (by omega), if_neg (by omega), show wrap64 ((i : Int) + 1) = ((i + 1 : Nat) : Int) by unfold wrap64; omega]
    exact h
  | succ d ih =>
    intro j hj
    obtain ⟨k, b, h, hb⟩ := ih (j + 1) (by omega)
    by_cases hq : ((rd_T47 ((rd_T41 l (i : Int)).f2) (j : Int)).f0.size : Int) > 100
    · refine ⟨k + 1, false, ?_, fun hh => by cases hh⟩
      simp only [rosettelaw09_Few.l1]
      rw [if_pos (by omega), if_pos (by omega), if_pos (by omega), if_pos (by omega), if_pos hq]
    · by_cases hq2 : ((rd_T47 ((rd_T41 l (i : Int)).f2) (j : Int)).f2.f2.size : Int) > 100
      · refine ⟨k + 1, false, ?_, fun hh => by cases hh⟩
        simp only [rosettelaw09_Few.l1]
        rw [if_pos (by omega), if_pos (by omega), if_pos (by omega), if_pos (by omega), if_neg hq, if_pos hq2]
      · refine ⟨k + 1, b, ?_, hb⟩
        simp only [rosettelaw09_Few.l1]
        rw [if_pos (by omega), if_pos (by omega), if_pos (by omega), if_pos (by omega), if_neg hq, if_neg hq2, show wrap64 ((j : Int) + 1) = ((j + 1 : Nat) : Int) by unfold wrap64; omega]
        exact h
theorem tot_bound (l : List S41) (hr : ∀ x ∈ l, x.f2.length ≤ 140737488351232) : tot l ≤ l.length * 140737488351232 := by
  induction l with
  | nil => simp [tot]
  | cons e l ih =>
    have h1 := hr e (by simp)
    have h2 := ih fun x hx => hr x (by simp [hx])
    have : tot (e :: l) = e.f2.length + tot l := by simp [tot]
    rw [this, List.length_cons, Nat.add_mul]
    omega
theorem tot_snoc (l : List S41) (i : Nat) (hi : i < l.length) : tot (l.take (i + 1)) = tot (l.take i) + (rd_T41 l (i : Int)).f2.length := by
  have e : l.take (i + 1) = l.take i ++ [rd_T41 l (i : Int)] := by rw [List.take_add_one]; simp [rd_T41, List.getD_eq_getElem?_getD, hi]
  rw [e]
  simp [tot]
theorem few9_out (l : List S41) (hs : l.length ≤ 4611686018427387904) (hr : ∀ x ∈ l, x.f2.length ≤ 140737488351232) : ∀ (d i : Nat), i + d = l.length → ∀ x3 : Int, (l.length ≤ 80 → x3 = (tot (l.take i) : Int)) →
    ∃ k b, rosettelaw09_Few.l0 k l x3 (i : Int) = some b ∧ (b = true → l.length ≤ 80 ∧ tot l ≤ 300) := by
  intro d
  induction d with
  | zero =>
    intro i hi x3 hx
    by_cases h80 : l.length ≤ 80
    · refine ⟨1, decide (x3 ≤ 300), ?_, fun hb => ⟨h80, ?_⟩⟩
      · simp only [rosettelaw09_Few.l0]
        rw [if_neg (by omega), if_pos (by omega)]
      · have h1 := hx h80
        rw [List.take_of_length_le (by omega)] at h1
        have := of_decide_eq_true hb
        omega
    · refine ⟨1, false, ?_, fun hb => by cases hb⟩
      simp only [rosettelaw09_Few.l0]
      rw [if_neg (by omega), if_neg (by omega)]
  | succ d ih =>
    intro i hi x3 hx
    obtain ⟨k, b, h, hb⟩ := few9_in l hs hr i (by omega) (wrap64 (x3 + (((rd_T41 l (i : Int)).f2).length : Int))) _ (ih (i + 1) (by omega) _ (fun h80 => by
      have h1 := hx h80
      have h2 := tot_snoc l i (by omega)
      have h3 := tot_bound (l.take (i + 1)) (fun x hx => hr x (List.mem_of_mem_take hx))
      have h4 : (l.take (i + 1)).length ≤ 80 := by rw [List.length_take]; omega
      have h5 : (l.take (i + 1)).length * 140737488351232 ≤ 80 * 140737488351232 := Nat.mul_le_mul_right _ h4
      unfold wrap64
      omega)) (rd_T41 l (i : Int)).f2.length 0 (by omega)
    refine ⟨k + 1, b, ?_, hb⟩
    simp only [rosettelaw09_Few.l0]
    rw [if_pos (by omega), if_pos (by omega)]
    exact h
theorem few9_some (l : List S41) (hs : l.length ≤ 4611686018427387904) (hr : ∀ x ∈ l, x.f2.length ≤ 140737488351232) : ∃ k b, rosettelaw09_Few.f k l = some b ∧ (b = true → l.length ≤ 80 ∧ tot l ≤ 300) :=
  few9_out l hs hr l.length 0 (by omega) 0 (fun _ => by simp [tot])
theorem few5_go (e : List S49) (he : e.length ≤ 4611686018427387904) : ∀ (d k i : Nat), i + d = e.length → d < k → ∃ b, rosettelaw05_Few.l0 k e (i : Int) = some b ∧ (b = true → e.length ≤ 40) := by
  intro d
  induction d with
  | zero =>
    intro k i hi hk
    obtain ⟨k, rfl⟩ : ∃ m, k = m + 1 := ⟨k - 1, by omega⟩
    simp only [rosettelaw05_Few.l0]
    rw [if_neg (by omega)]
    exact ⟨_, rfl, fun h => by have := of_decide_eq_true h; omega⟩
  | succ d ih =>
    intro k i hi hk
    obtain ⟨k, rfl⟩ : ∃ m, k = m + 1 := ⟨k - 1, by omega⟩
    simp only [rosettelaw05_Few.l0]
    rw [if_pos (by omega), if_pos (by omega)]
    split
    · exact ⟨_, rfl, fun h => by cases h⟩
    · split
      · exact ⟨_, rfl, fun h => by cases h⟩
      · rw [show wrap64 ((i : Int) + 1) = ((i + 1 : Nat) : Int) by unfold wrap64; omega]
        exact ih k (i + 1) (by omega) (by omega)
theorem ints_self (l : List Int) (hl : l.length ≤ 4611686018427387904) : ∀ (d k i : Nat), i + d = l.length → d < k → rosetteref11_Ints.l0 k l l (i : Int) = some true := by
  intro d
  induction d with
  | zero =>
    intro k i hi hk
    obtain ⟨k, rfl⟩ : ∃ m, k = m + 1 := ⟨k - 1, by omega⟩
    simp only [rosetteref11_Ints.l0]
    rw [if_neg (by omega)]
  | succ d ih =>
    intro k i hi hk
    obtain ⟨k, rfl⟩ : ∃ m, k = m + 1 := ⟨k - 1, by omega⟩
    simp only [rosetteref11_Ints.l0]
    rw [if_pos (by omega), if_pos (by omega), if_pos (by omega), if_pos trivial, show wrap64 ((i : Int) + 1) = ((i + 1 : Nat) : Int) by unfold wrap64; omega]
    exact ih k (i + 1) (by omega) (by omega)
theorem ints_same (l : List Int) (hl : l.length ≤ 4611686018427387904) (k : Nat) (hk : l.length + 1 < k) : rosetteref11_Ints.f k l l = some true := by
  unfold rosetteref11_Ints.f
  obtain ⟨k, rfl⟩ : ∃ m, k = m + 1 := ⟨k - 1, by omega⟩
  first
    | exact ints_self l hl l.length (k + 1) 0 (by omega) (by omega)
    | (rw [if_neg (by simp)]; exact ints_self l hl l.length (k + 1) 0 (by omega) (by omega))
    | (simp only [ne_eq, not_true_eq_false, if_false, if_true]; exact ints_self l hl l.length (k + 1) 0 (by omega) (by omega))
theorem fuel_up {α : Type} {f : Nat → Option α} (h : ∀ k, LeO (f k) (f (k + 1))) {k : Nat} {b : α} (hb : f k = some b) : ∀ d, f (k + d) = some b := by
  intro d
  induction d with
  | zero => exact hb
  | succ d ih => exact h _ _ ih
/-- what comes in reads so -/
def GoodL (l : List S41) : Prop := (l.length ≤ maxLen ∧ l.length * 40 ≤ 140737488351232) ∧ ∀ x0 ∈ l, ((Lit.int .i64 x0.f0).wf = true ∧ ((Lit.int .i64 x0.f1).wf = true ∧ ((x0.f2.length ≤ maxLen ∧ x0.f2.length * 56 ≤ 140737488351232) ∧ ∀ x1 ∈ x0.f2, (x1.f0.size ≤ 140737488351232 ∧ ((Lit.int .i64 x1.f1).wf = true ∧ ((Lit.int .i64 x1.f2.f0).wf = true ∧ ((Lit.int .i64 x1.f2.f1).wf = true ∧ x1.f2.f2.size ≤ 140737488351232)))))))
def GoodA (e : List S49) : Prop := (e.length ≤ maxLen ∧ e.length * 48 ≤ 140737488351232) ∧ ∀ x0 ∈ e, (x0.f0.size ≤ 140737488351232 ∧ ((Lit.int .i64 x0.f1.f0).wf = true ∧ ((Lit.int .i64 x0.f1.f1).wf = true ∧ x0.f1.f2.size ≤ 140737488351232)))
theorem ent_of {l : List S41} (h : GoodL l) (h80 : l.length ≤ 80) (ht : tot l ≤ 300) : EntOk l := by
  refine ⟨by omega, by rw [tot_pairs]; omega, fun e he p hp => ?_⟩
  obtain ⟨h1, h2, h3, h4, h5⟩ := (h.2 e he).2.2.2 p hp
  exact ⟨⟨by simp only [maxLen]; omega, h2⟩, ⟨h3, h4⟩, by simp only [maxLen]; omega⟩
theorem ent_sub {l l' : List S41} (h : EntOk l) (hs : l'.Sublist l) : EntOk l' := by
  have ht : tot l' ≤ tot l := by
    induction hs with
    | slnil => exact Nat.le_refl _
    | cons a _ ih => have := ih ⟨by have := h.1; simp at this; omega, by have := h.2.1; rw [tot_pairs] at this ⊢; simp [tot] at this ⊢; omega, fun e he => h.2.2 e (by simp [he])⟩; simp [tot] at this ⊢; omega
    | cons_cons a _ ih => have := ih ⟨by have := h.1; simp at this; omega, by have := h.2.1; rw [tot_pairs] at this ⊢; simp [tot] at this ⊢; omega, fun e he => h.2.2 e (by simp [he])⟩; simp [tot] at this ⊢; omega
  refine ⟨Nat.le_trans hs.length_le h.1, ?_, fun e he => h.2.2 e (hs.subset he)⟩
  have := h.2.1
  rw [tot_pairs] at this ⊢
  omega
theorem good_of {e : List S49} (h : GoodA e) (h40 : e.length ≤ 40) : GoodE e :=
  ⟨by omega, fun a ha => ⟨by have := (h.2 a ha).1; simp only [maxLen]; omega, (h.2 a ha).2.2.1⟩⟩
/-- a law of the common form holds, if what it says of right inputs does -/
theorem lawF_some {l : List S41} {e : List S49} (hl : GoodL l) (he : GoodA e) (C : Bool) (OK : Nat → Prop) (D : ∀ k, Decidable (OK k)) (K : Nat)
    (h : ∀ k, K ≤ k → EntOk l → GoodE e → rightE e = true → C = true → OK k) : ∃ k, @lawF k l e C (OK k) (D k) = some true := by
  obtain ⟨k1, b1, h1, g1⟩ := few9_some l (by have := hl.1.2; omega) (fun x hx => by have := (hl.2 x hx).2.2.1.2; omega)
  obtain ⟨b2, h2, g2⟩ := few5_go e (by have := he.1.2; omega) e.length (e.length + 1) 0 (by omega) (by omega)
  refine ⟨k1 + (e.length + 1 + K), ?_⟩
  unfold lawF
  rw [fuel_up (f := fun k => rosettelaw09_Few.f k l) (fun k => rosettelaw09_Few.mono _ _) h1 (e.length + 1 + K)]
  have h3 : rosettelaw05_Few.f (k1 + (e.length + 1 + K)) e = some b2 := by
    have := fuel_up (f := fun k => rosettelaw05_Few.f k e) (fun k => rosettelaw05_Few.mono _ _) (k := e.length + 1) (b := b2) h2 (k1 + K)
    rw [show k1 + (e.length + 1 + K) = e.length + 1 + (k1 + K) by omega]
    exact this
  simp only [Option.bind_some]
  rw [h3]
  simp only [Option.bind_some]
  refine if_pos ?_
  rintro ⟨rfl, rfl⟩
  have ge := good_of he (g2 rfl)
  have gl := ent_of hl (g1 rfl).1 (g1 rfl).2
  exact ⟨gl, ge, fun hr hc => h _ (by omega) gl ge hr hc⟩
end Go.Proofs.Ytbcnknmgljdmlaa
end

section
/- The statement IndexMore over numbers and lists: an event with one attribute more meets no fewer. -/
namespace Go.Proofs.Ytbcnknmgljdmlaa.Pure
open Go.RowKit Go.Proofs.Ytbcnknmgljdmlaa Go.Proofs.Ytbcnknmgljdmlaa.G Go.Proofs.YtbcnknmgljdmlaaW.PrintWords Go.Proofs.YtbcnknmgljdmlaaW.PrintLast

theorem met_mem {p : S47} : ∀ {e : List S49}, metB p e = true → ∃ a ∈ e, a.f0 = p.f0 ∧ hbI p a.f1 = true := by
  intro e
  induction e with
  | nil => intro h; cases h
  | cons a e ih =>
    intro h
    rw [metB] at h
    by_cases ha : a.f0 = p.f0
    · rw [if_pos ha] at h; exact ⟨a, by simp, ha, h⟩
    · rw [if_neg ha] at h
      obtain ⟨b, hb, h1⟩ := ih h
      exact ⟨b, by simp [hb], h1⟩
theorem met_of {p : S47} {a : S49} (h1 : a.f0 = p.f0) (h2 : hbI p a.f1 = true) : ∀ {e : List S49}, (e.map (·.f0)).Nodup → a ∈ e → metB p e = true := by
  intro e
  induction e with
  | nil => intro _ h; cases h
  | cons b e ih =>
    intro hn h
    rw [List.map_cons, List.nodup_cons] at hn
    rw [metB]
    rcases List.mem_cons.1 h with rfl | h
    · rw [if_pos h1]; exact h2
    · by_cases hb : b.f0 = p.f0
      · exact absurd (List.mem_map.2 ⟨a, h, by rw [h1, hb]⟩) hn.1
      · rw [if_neg hb]; exact ih hn.2 h
theorem metF_mono {f : List S47} {e e' : List S49} (hn : (e.map (·.f0)).Nodup) (hs : e'.Sublist e) (h : metF f e' = true) : metF f e = true := by
  unfold metF at h ⊢
  rw [List.all_eq_true] at h ⊢
  intro p hp
  obtain ⟨a, ha, h1, h2⟩ := met_mem (h p hp)
  exact met_of h1 h2 hn (hs.subset ha)
theorem filter_mono {α : Type} {p q : α → Bool} (h : ∀ x, p x = true → q x = true) : ∀ l : List α, (l.filter p).Sublist (l.filter q) := by
  intro l
  induction l with
  | nil => exact List.Sublist.refl _
  | cons a l ih =>
    rw [List.filter_cons, List.filter_cons]
    by_cases hp : p a = true
    · rw [if_pos hp, if_pos (h a hp)]; exact ih.cons_cons a
    · rw [if_neg hp]
      by_cases hq : q a = true
      · rw [if_pos hq]; exact ih.cons a
      · rw [if_neg hq]; exact ih
theorem IndexMore : rosettelaw12_IndexMore.Pure := by
  intro l0 l1 a2 hl he _
  unfold rosettelaw12_IndexMore.f
  refine lawF_some (l := l0) (e := l1) hl he _ (fun _ => moreOK l0 l1 a2.toNat) _ (l0.length + 2) (fun k hk gl ge hr _ => ?_)
  have hn := right_nodup hr
  have hs := less_sub l1 a2.toNat
  unfold moreOK
  rw [tell_eq l0 l1 hn, tell_eq l0 (lessE l1 a2.toNat) ((hs.map _).nodup hn)]
  unfold tellF
  exact (filter_mono (fun en h => metF_mono hn hs h) l0).map _
end Go.Proofs.Ytbcnknmgljdmlaa.Pure
end

section
/- What comes in, opened kind by kind: a datum that is read whole reads as a list, a structure, a number; and no slice and no text of it is longer than the form's reach. -/
set_option linter.unusedVariables false
set_option linter.unusedSimpArgs false
set_option autoImplicit false
namespace Go.Proofs.Ytbcnknmgljdmlaa.Op
open Go.RowKit Go.Deep Go.ChangeShapes Go.WideShapes Go.Proofs.YtbcnknmgljdmlaaW.PrintWords

section
variable {H α β : Type} (enc : TypeId × Value → H) (P : Program) (W : World)
/-- no part of a datum is longer than the reach -/
def Lite (P : Program) (t : TypeId) (d : DataW H) : Prop := ∀ n ∈ d.weights P t, n ≤ 140737488351232
/-- whatever is read at type t, and is no longer than the reach, is of the kind d, and good -/
def Opens (t : TypeId) (d : Kd α) (good : α → Prop) : Prop :=
  ∀ fuel (cs : List Value) x, DataW.trod enc P W 0 (fun _ => true) true fuel t cs = some x → Lite P t x.1 → ∃ a, d.K W a cs ∧ good a
def OpensF (fs : List Field) (o : Nat) (d : Kd α) (good : α → Prop) : Prop :=
  ∀ fuel (cs : List Value) xs, (fs.mapM fun f => DataW.trod enc P W 0 (fun _ => true) true fuel f.type ((cs.drop f.offset).take (P.cellsOf f.type))) = some xs → (∀ n ∈ DataW.weightsEach P (fs.map (·.type)) (xs.map (·.1)), n ≤ 140737488351232) → cs.length = o + d.sz → ∃ a, d.K W a (cs.drop o) ∧ good a
variable {enc P W}
theorem opens_int {t : TypeId} {k : IntKind} (ht : P.underlying t = some (.int k)) : Opens enc P W t (Kd.int k) (fun n => (Lit.int k n).wf = true) := by
  intro fuel cs x h _
  obtain ⟨n, h1, _, h2⟩ := DataW.trod_int ht h
  exact ⟨n, h1, h2⟩
theorem opens_bool {t : TypeId} (ht : P.underlying t = some .bool) : Opens enc P W t Kd.bool (fun _ => True) := by
  intro fuel cs x h _
  obtain ⟨n, h1, _⟩ := DataW.trod_bool ht h
  exact ⟨n, h1, trivial⟩
theorem opens_str {t : TypeId} (ht : P.underlying t = some .string) : Opens enc P W t Kd.string (fun s => s.size ≤ 140737488351232) := by
  intro fuel cs x h hl
  obtain ⟨s, h1, h2, _⟩ := DataW.trod_string ht h
  refine ⟨s, h1, ?_⟩
  rw [h2] at hl
  have := hl s.data.toList.length (by simp [DataW.weights])
  rw [Array.length_toList] at this
  exact this
theorem weightsAll_mem {e : TypeId} : ∀ {ds : List (DataW H)} {d : DataW H}, d ∈ ds → ∀ n ∈ d.weights P e, n ∈ DataW.weightsAll P e ds := by
  intro ds
  induction ds with
  | nil => intro d h; cases h
  | cons y ys ih =>
    intro d h n hn
    rw [DataW.weightsAll]
    rcases List.mem_cons.1 h with rfl | h
    · exact List.mem_append_left _ hn
    · exact List.mem_append_right _ (ih h n hn)
theorem opens_slice {t e : TypeId} {d : Kd α} {good : α → Prop} {B : Nat} (ht : P.underlying t = some (.slice e)) (hs : P.cellsOf e = d.sz) (hB : P.bytesOf e = B) (h : Opens enc P W e d good) :
    Opens enc P W t (Kd.slice e d) (fun xs => (xs.length ≤ maxLen ∧ xs.length * B ≤ 140737488351232) ∧ ∀ x ∈ xs, good x) := by
  intro fuel cs x hx hw
  rcases open_slice ht hx with ⟨rfl, _⟩ | ⟨a, len, cap, m, n, D, Pl, rfl, hb, hl, hm, hmm, rfl, hel⟩
  · exact ⟨[], ⟨none, 0, rfl, Nat.le_refl _, Kd.C_nil _ _⟩, ⟨Nat.zero_le _, by simp⟩, fun _ h => by cases h⟩
  · simp only [if_true] at hmm
    have hwt : ∀ n ∈ (len + (m - len)) * P.bytesOf e :: (DataW.weightsAll P e ((List.range len).map D) ++ DataW.weightsAll P e ((List.range (m - len)).map fun j => D (len + j))), n ≤ 140737488351232 := by
      have h1 := hw
      unfold Lite at h1
      rw [DataW.weights] at h1
      simp only [ht, List.length_map, List.length_range] at h1
      exact h1
    have hlenB : len * B ≤ 140737488351232 := by
      have h1 := hwt _ List.mem_cons_self
      rw [hB] at h1
      exact Nat.le_trans (Nat.mul_le_mul_right _ (by omega)) h1
    have hlite : ∀ i, i < len → Lite P e (D i) := fun i hi n hn => hwt n (List.mem_cons_of_mem _ (List.mem_append_left _ (weightsAll_mem (List.mem_map.2 ⟨i, List.mem_range.2 hi, rfl⟩) n hn)))
    have each : ∀ i, i < len → ∃ y : α, ∃ c, W.cells? 0 (a.add (i * P.cellsOf e)) (P.cellsOf e) = some c ∧ d.K W y c ∧ good y := by
      intro i hi
      obtain ⟨c, h1, h2⟩ := hel i (by omega)
      obtain ⟨y, h3, h4⟩ := h _ _ _ h2 (hlite i hi)
      exact ⟨y, c, h1, h3, h4⟩
    have build : ∃ xs : List α, xs.length = len ∧ ∀ i y, xs[i]? = some y → ∃ c, W.cells? 0 (a.add (i * P.cellsOf e)) (P.cellsOf e) = some c ∧ d.K W y c ∧ good y := by
      clear hx hel hm hl hb hmm hw hwt hlenB hlite
      induction len with
      | zero => exact ⟨[], rfl, fun i y h => by simp at h⟩
      | succ len ih =>
        obtain ⟨xs, h1, h2⟩ := ih (fun i hi => each i (by omega))
        obtain ⟨y, c, h3, h4, h5⟩ := each len (by omega)
        refine ⟨xs ++ [y], by simp [h1], fun i z hz => ?_⟩
        by_cases hi : i < len
        · exact h2 i z (by rw [List.getElem?_append_left (by omega)] at hz; exact hz)
        · have hi2 : i < (xs ++ [y]).length := (List.getElem?_eq_some_iff.1 hz).1
          have : i = len := by rw [List.length_append, List.length_singleton] at hi2; omega
          subst this
          rw [List.getElem?_append_right (by omega), h1, Nat.sub_self] at hz
          simp only [List.getElem?_cons_zero, Option.some.injEq] at hz
          subst hz
          exact ⟨c, h3, h4, h5⟩
    obtain ⟨xs, h1, h2⟩ := build
    refine ⟨xs, ⟨some a, cap, by rw [h1], by omega, rfl, by rw [h1]; simp only [maxLen] at hm; omega, fun h0 => ⟨a, rfl, fun j p hj => ?_⟩⟩, ⟨by omega, by rw [h1]; exact hlenB⟩, fun y hy => ?_⟩
    · obtain ⟨c, h3, h4, h5⟩ := h2 j p hj
      obtain ⟨_, hlen, hcell⟩ := World.cells?_some h3
      refine ⟨c, by rw [hlen, hs], h4, fun i u hu => ?_⟩
      have hi : i < P.cellsOf e := by rw [← hlen]; exact (List.getElem?_eq_some_iff.1 hu).1
      have := hcell i hi
      rw [hu, Go.Proofs.YtbcnknmgljdmlaaW.PrintWords.add_add, hs] at this
      exact this
    · obtain ⟨i, hi⟩ := List.getElem?_of_mem hy
      obtain ⟨c, _, _, h5⟩ := h2 i y hi
      exact h5
theorem opensF_one {f : Field} {o : Nat} {d : Kd α} {good : α → Prop} (ho : f.offset = o) (hc : P.cellsOf f.type = d.sz) (h : Opens enc P W f.type d good) : OpensF enc P W [f] o d good := by
  intro fuel cs xs hx hw hl
  simp only [List.mapM_cons, List.mapM_nil, Option.pure_def, Option.bind_eq_bind, Option.bind_eq_some_iff] at hx
  obtain ⟨y, h1, z, hz, hxs⟩ := hx
  simp only [Option.some.injEq] at hz hxs
  subst hz
  subst hxs
  obtain ⟨a, h2, h3⟩ := h _ _ _ h1 (fun n hn => hw n (by simp [DataW.weightsEach, hn]))
  rw [ho, hc, List.take_of_length_le (by rw [List.length_drop]; omega)] at h2
  exact ⟨a, h2, h3⟩
theorem opensF_cons {f : Field} {fs : List Field} {o : Nat} {d : Kd α} {e : Kd β} {g1 : α → Prop} {g2 : β → Prop} (ho : f.offset = o) (hc : P.cellsOf f.type = d.sz) (h : Opens enc P W f.type d g1) (hr : OpensF enc P W fs (o + d.sz) e g2) :
    OpensF enc P W (f :: fs) o (Kd.pair d e) (fun p => g1 p.1 ∧ g2 p.2) := by
  intro fuel cs xs hx hw hl
  simp only [List.mapM_cons, Option.pure_def, Option.bind_eq_bind, Option.bind_eq_some_iff] at hx
  obtain ⟨y, h1, ys, h2, hxs⟩ := hx
  simp only [Option.some.injEq] at hxs
  subst hxs
  have hsz : (Kd.pair d e).sz = d.sz + e.sz := rfl
  obtain ⟨a, h3, h4⟩ := h _ _ _ h1 (fun n hn => hw n (by simp [DataW.weightsEach, hn]))
  obtain ⟨b, h5, h6⟩ := hr _ _ _ h2 (fun n hn => hw n (by rw [List.map_cons, List.map_cons, DataW.weightsEach]; exact List.mem_append_right _ hn)) (by omega)
  rw [ho, hc] at h3
  refine ⟨(a, b), ⟨_, _, ?_, h3, h5⟩, h4, h6⟩
  rw [← List.drop_drop, List.take_append_drop]
theorem opens_struct {t : TypeId} {fs : Array Field} {d : Kd α} {good : α → Prop} (ht : P.underlying t = some (.struct fs)) (hc : P.cellsOf t = d.sz) (h : OpensF enc P W fs.toList 0 d good) : Opens enc P W t d good := by
  intro fuel cs x hx hw
  cases fuel with
  | zero => simp [DataW.trod] at hx
  | succ fuel =>
    have key : cs.length = P.cellsOf t ∧ ∃ xs, (fs.toList.mapM fun f => DataW.trod enc P W 0 (fun _ => true) true fuel f.type ((cs.drop f.offset).take (P.cellsOf f.type))) = some xs ∧ x.1 = .agg (xs.map (·.1)) := by
      unfold DataW.trod at hx
      rw [ht] at hx
      simp only at hx
      split at hx
      · rename_i hl
        rw [Option.map_eq_some_iff] at hx
        obtain ⟨xs, h1, h2⟩ := hx
        exact ⟨hl, xs, h1, by rw [← h2]⟩
      · cases hx
    obtain ⟨h1, xs, h2, h3⟩ := key
    have hw2 : ∀ n ∈ DataW.weightsEach P (fs.toList.map (·.type)) (xs.map (·.1)), n ≤ 140737488351232 := by
      unfold Lite at hw
      rw [h3, DataW.weights] at hw
      simp only [ht] at hw
      exact hw
    obtain ⟨a, h4, h5⟩ := h _ _ _ h2 hw2 (by omega)
    exact ⟨a, by simpa using h4, h5⟩
theorem opens_iso {t : TypeId} {d : Kd α} {good : α → Prop} (f : β → α) (g : α → β) (hfg : ∀ a, f (g a) = a) (h : Opens enc P W t d good) : Opens enc P W t (Kd.iso d f) (fun x => good (f x)) := by
  intro fuel cs x hx hw
  obtain ⟨a, h1, h2⟩ := h _ _ _ hx hw
  refine ⟨g a, ?_, by show good (f (g a)); rw [hfg]; exact h2⟩
  show d.K W (f (g a)) cs
  rw [hfg]
  exact h1
/-- the weight of an argument -/
theorem lite_arg {ts : List TypeId} {ds : List (DataW H)} (hsz : (DataW.weightsEach P ts ds).all (· ≤ reachBytes) = true) {j : Nat} {t : TypeId} {d : DataW H} (ht : ts[j]? = some t) (hd : ds[j]? = some d) : Lite P t d := by
  intro n hn
  have := List.all_eq_true.1 hsz n (DataW.weights_mem_each ht hd n hn)
  have h2 : n ≤ reachBytes := by simpa using this
  exact Nat.le_trans h2 (by decide)
/-- a slice that is handed in -/
theorem open_arg {t e : TypeId} {d : Kd α} {good : α → Prop} {B : Nat} (ht : P.underlying t = some (.slice e)) (hs : P.cellsOf e = d.sz) (hB : P.bytesOf e = B) (h : Opens enc P W e d good) {A : Option Addr} {n c : Nat} {y : DataW H} {p : List MemPlace}
    (hl : Lite P t y) (hx : DataW.Trod enc P W 0 (fun _ => true) true t (.slice A n c) y p) : ∃ xs : List α, n = xs.length ∧ xs.length ≤ c ∧ c ≤ maxLen ∧ d.C W A xs.length xs ∧ (xs.length ≤ maxLen ∧ xs.length * B ≤ 140737488351232) ∧ ∀ x ∈ xs, good x := by
  obtain ⟨fuel, hf⟩ := hx
  have hcap : c ≤ maxLen := by
    rcases open_slice ht hf with ⟨hcs, _⟩ | ⟨a, len, cap, m, n, D, Pl, hcs, hb, hl, hm, hmm, _, hel⟩
    · simp only [Value.cells, List.cons.injEq, Value.slice.injEq, and_true] at hcs
      omega
    · simp only [Value.cells, List.cons.injEq, Value.slice.injEq, and_true] at hcs
      omega
  obtain ⟨xs, ⟨A', c', h1, h2, h3⟩, h4, h5⟩ := opens_slice ht hs hB h _ _ _ hf hl
  simp only [Value.cells, List.cons.injEq, Value.slice.injEq, and_true] at h1
  obtain ⟨rfl, rfl, rfl⟩ := h1
  exact ⟨xs, rfl, h2, hcap, h3, h4, h5⟩
/-- a text that is handed in -/
theorem lite_str {t : TypeId} {s : ByteArray} (hl : Lite (H := H) P t (.lit (.string s.data.toList))) : s.size ≤ 140737488351232 := by
  have := hl s.data.toList.length (by simp [DataW.weights])
  rw [Array.length_toList] at this
  exact this
end
end Go.Proofs.Ytbcnknmgljdmlaa.Op
end

section
namespace Go.Proofs.Ytbcnknmgljdmlaa.indexMore
open Go.ChangeShapes Go.WideShapes Go.ChangeAt Go.RowKit Go.Proofs.Ytbcnknmgljdmlaa Go.Proofs.Ytbcnknmgljdmlaa.G Go.Proofs.YtbcnknmgljdmlaaW.PrintWords Go.Proofs.YtbcnknmgljdmlaaW.PrintLast Go.Proofs.YtbcnknmgljdmlaaW.PrintMore
open Go.ChangeMaps (open_string shut_string)
set_option linter.unusedVariables false
set_option linter.unusedSimpArgs false
theorem own : ownKnob Try.prog.godebug = none := by kernel_rfl
theorem laidOut : laidOutB Try.prog = true := by kernel_rfl
set_option maxRecDepth 100000 in
theorem lifted (os : Os) (started : os.Started) (H : Type) (enc : TypeId × Value → H) :
    ReturnsInHanded {} Try.checked os 5 .any (Rows.indexMoreSpec.pre6 enc Try.prog Try.f5 Rows.indexMoreRow.domain false) (Rows.indexMoreSpec.post enc Try.prog Try.f5 false true false false) := by
  refine returnsInHanded_of_change_sized (C := Try.checked) own started (by kernel_rfl) Try.func5
    (ChangeSpec.witness6 (enc := enc) (C := Try.checked) false ⟨#[], #[.slice none 0 0, .slice none 0 0, .int .i64 0], []⟩ 8 (by kernel_rfl) (by kernel_rfl) (by kernel_rfl) (by kernel_rfl)) ?_
  intro W base args ds gs before hval0 hW hcnd hsz0 _
  have hsz : (DataW.weightsEach Try.prog (Try.f5.params.toList ++ Rows.indexMoreSpec.plain.varTypes Try.prog) (ds ++ gs)).all (· ≤ reachBytes) = true := hsz0
  have hval : ∀ (j : Nat) t v, Try.f5.params[j]? = some t → args[j]? = some v → Value.okWide Try.prog W .any base t v := hval0
  have hW' := hW
  obtain ⟨p, q, hA0, hV, rfl, hfz, hnd⟩ := hW
  have hA : DataW.TrodAll enc Try.prog W 0 (fun _ => true) true Try.f5.params.toList args.toList ds p := hA0
  rw [Try.params5] at hA hval hsz
  obtain ⟨v0, vs0, d0, ds0, p0, q0, hargs, rfl, rfl, h0, r0⟩ := trodAll_cons hA
  obtain ⟨v1, vs1, d1, ds1, p1, q1, rfl, rfl, rfl, h1, r1⟩ := trodAll_cons r0
  obtain ⟨v2, vs2, d2, ds2, p2, q2, rfl, rfl, rfl, h2, r2⟩ := trodAll_cons r1
  obtain ⟨rfl, rfl, rfl⟩ := trodAll_nil r2
  obtain rfl : args = #[v0, v1, v2] := by cases args; simp_all
  obtain ⟨rfl, rfl⟩ := trodVars_none hV
  have k0 := h0
  have lt0 : ∀ x ∈ p0, x.block < W.heap.size := by obtain ⟨m, hm⟩ := k0; exact DataW.trod_lt m _ _ _ hm
  obtain ⟨A0, len0, cap0, rfl⟩ := okWide_slice Try.underlying22 (hval 0 22 v0 rfl rfl)
  have q0 := Op.lite_arg hsz (j := 0) (t := 22) rfl rfl
  obtain ⟨l0, rfl, hc0, hk0, hr0, hg0⟩ := Op.open_arg Try.underlying22 (by kernel_rfl) (by kernel_rfl : _ = 40) (Op.opens_iso (fun x : S41 => (x.f0, x.f1, x.f2)) (fun p => (⟨p.1, p.2.1, p.2.2⟩ : S41)) (fun _ => rfl) (Op.opens_struct Try.underlying41 (by kernel_rfl) (Op.opensF_cons rfl (by kernel_rfl) (Op.opens_int Try.underlying3) (Op.opensF_cons rfl (by kernel_rfl) (Op.opens_int Try.underlying3) (Op.opensF_one rfl (by kernel_rfl) (Op.opens_slice Try.underlying39 (by kernel_rfl) (by kernel_rfl : _ = 56) (Op.opens_iso (fun x : S47 => (x.f0, x.f1, x.f2)) (fun p => (⟨p.1, p.2.1, p.2.2⟩ : S47)) (fun _ => rfl) (Op.opens_struct Try.underlying47 (by kernel_rfl) (Op.opensF_cons rfl (by kernel_rfl) (Op.opens_str Try.underlying9) (Op.opensF_cons rfl (by kernel_rfl) (Op.opens_int Try.underlying3) (Op.opensF_one rfl (by kernel_rfl) (Op.opens_iso (fun x : S45 => (x.f0, x.f1, x.f2)) (fun p => (⟨p.1, p.2.1, p.2.2⟩ : S45)) (fun _ => rfl) (Op.opens_struct Try.underlying45 (by kernel_rfl) (Op.opensF_cons rfl (by kernel_rfl) (Op.opens_int Try.underlying3) (Op.opensF_cons rfl (by kernel_rfl) (Op.opens_int Try.underlying3) (Op.opensF_one rfl (by kernel_rfl) (Op.opens_str Try.underlying9))))))))))))))))) q0 h0
  have k1 := h1
  have lt1 : ∀ x ∈ p1, x.block < W.heap.size := by obtain ⟨m, hm⟩ := k1; exact DataW.trod_lt m _ _ _ hm
  obtain ⟨A1, len1, cap1, rfl⟩ := okWide_slice Try.underlying31 (hval 1 31 v1 rfl rfl)
  have q1 := Op.lite_arg hsz (j := 1) (t := 31) rfl rfl
  obtain ⟨l1, rfl, hc1, hk1, hr1, hg1⟩ := Op.open_arg Try.underlying31 (by kernel_rfl) (by kernel_rfl : _ = 48) (Op.opens_iso (fun x : S49 => (x.f0, x.f1)) (fun p => (⟨p.1, p.2⟩ : S49)) (fun _ => rfl) (Op.opens_struct Try.underlying49 (by kernel_rfl) (Op.opensF_cons rfl (by kernel_rfl) (Op.opens_str Try.underlying9) (Op.opensF_one rfl (by kernel_rfl) (Op.opens_iso (fun x : S45 => (x.f0, x.f1, x.f2)) (fun p => (⟨p.1, p.2.1, p.2.2⟩ : S45)) (fun _ => rfl) (Op.opens_struct Try.underlying45 (by kernel_rfl) (Op.opensF_cons rfl (by kernel_rfl) (Op.opens_int Try.underlying3) (Op.opensF_cons rfl (by kernel_rfl) (Op.opens_int Try.underlying3) (Op.opensF_one rfl (by kernel_rfl) (Op.opens_str Try.underlying9)))))))))) q1 h1
  obtain ⟨a2, rfl, rfl, rfl, hg2⟩ := open_int Try.underlying3 (hval 2 3 v2 rfl rfl) h2
  clear hA0 hval0 hsz0 hsz
  obtain ⟨k, h⟩ := Pure.IndexMore l0 l1 a2 hg0 hg1 hg2
  refine (rosettelaw12_IndexMore.calls k A0 cap0 l0 A1 cap1 l1 a2 true W hr0 hc0 hr1 hc1 h).mono fun e W' ⟨he, bel⟩ => ?_
  subst he
  exact ⟨_, rfl, _, _, _, [], _, [], hW', trodAll_mk1 (shut_bool Try.underlying4 _), (trodAll_cons_mk (Below.trod laidOut (by kernel_rfl) (of_decide_eq_true (by kernel_rfl)) k0 bel lt0) (trodAll_cons_mk (Below.trod laidOut (by kernel_rfl) (of_decide_eq_true (by kernel_rfl)) k1 bel lt1) (trodAll_cons_mk (shut_int Try.underlying3 hg2) trodAll_mk0))), rfl, bel.frame _, fun h => by cases h⟩
theorem over : Rows.indexMoreRow.holds Try.pinned (OpenSpec.ofChange Rows.indexMoreSpec) :=
  OpenClaim.holds_of_wide 5 Try.f5 rfl rfl rfl rfl rfl rfl rfl ⟨rfl, rfl, rfl, rfl, rfl⟩ rfl rfl rfl rfl rfl (by kernel_rfl) Try.func5 (by kernel_rfl)
    (of_decide_eq_true (by kernel_rfl)) (by unfold Func.isWrapper; first | (rw [if_pos (by decide +kernel)]; kernel_rfl) | (rw [if_neg (by decide +kernel)]; exact ⟨rfl, rfl⟩))
    (fun os started H enc _ => lifted os started H enc)
theorem proved : Rows.IndexMoreSaid := over
#print axioms proved
end Go.Proofs.Ytbcnknmgljdmlaa.indexMore
namespace Go.Proofs.Ytbcnknmgljdmlaa
/-- The row, under a short name, for the claim. -/
theorem indexMore_holds : Rows.IndexMoreSaid := indexMore.proved
end Go.Proofs.Ytbcnknmgljdmlaa
end
