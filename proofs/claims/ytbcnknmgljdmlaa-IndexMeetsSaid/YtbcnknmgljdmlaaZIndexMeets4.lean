import Derived.Laws.Strings
import Derived.Lib.Strings
import Derived.Lib.Bytealg
import Derived.Test.YtbcnknmgljdmlaaZIndexMeets1
import Derived.Test.YtbcnknmgljdmlaaZIndexMeets0
import Derived.Test.YtbcnknmgljdmlaaZIndexMeets2
import Derived.Test.YtbcnknmgljdmlaaZIndexMeets3
import Derived.OpenShut
section
/- values and predicates over numbers and lists: which are right, how they stand, of what they hold -/
set_option linter.unusedVariables false
set_option linter.unusedSimpArgs false
set_option autoImplicit false
namespace Go.Proofs.Ytbcnknmgljdmlaa
open Go.RowKit Go.Proofs.YtbcnknmgljdmlaaW.PrintWords Go.Proofs.YtbcnknmgljdmlaaW.PrintLast Go.Proofs.YtbcnknmgljdmlaaW.PrintMore Go.Proofs.Ytbcnknmgljdmlaa.G

/-! ### which are right -/
theorem andNot_one (i : Int) (h0 : -9223372036854775808 ≤ i) (h1 : i < 9223372036854775808) : (bits .andNot .i64 i 1 = 0) ↔ (0 ≤ i ∧ i ≤ 1) := by
  obtain ⟨X, hX⟩ : ∃ X, (BitVec.ofInt 64 i).toNat = X := ⟨_, rfl⟩
  have hb : bits .andNot .i64 i 1 = IntKind.i64.wrap ((X &&& 18446744073709551614 : Nat) : Int) := by
    show IntKind.i64.wrap ((BitVec.ofInt 64 i &&& ~~~BitVec.ofInt 64 1).toNat : Int) = _
    rw [BitVec.toNat_and, hX]
    rfl
  have hx : (X : Int) = i % 18446744073709551616 := by
    rw [← hX, BitVec.toNat_ofInt]
    omega
  have hd : (X &&& 18446744073709551614) / 2 = X / 2 := by
    rw [Nat.and_div_two, show 18446744073709551614 / 2 = 2 ^ 63 - 1 from rfl, Nat.and_two_pow_sub_one_eq_mod]
    omega
  have hm : (X &&& 18446744073709551614) % 2 = 0 := by
    have := Nat.and_mod_two_pow (a := X) (b := 18446744073709551614) (n := 1)
    simp only [show (2 : Nat) ^ 1 = 2 from rfl] at this
    rw [this]
    simp
  rw [hb, IntKind.wrap_i64]
  generalize X &&& 18446744073709551614 = Y at *
  omega
def vright (k i : Int) (t : ByteArray) : Bool :=
  if k = 1 then t.toList == [] else if k = 2 then (if i = 0 then decide ((t.size : Int) ≤ 64) else false) else if k = 3 then (if t.toList = [] then decide (0 ≤ i ∧ i ≤ 1) else false) else false
theorem right_f (k i : Int) (t : ByteArray) (h0 : -9223372036854775808 ≤ i) (h1 : i < 9223372036854775808) : value_Right.f k i t = some (vright k i t) := by
  unfold value_Right.f vright
  split
  · rfl
  split
  · split <;> rfl
  split
  · split
    · congr 1
      rw [Bool.eq_iff_iff]
      simp only [beq_iff_eq, decide_eq_true_eq]
      exact andNot_one i h0 h1
    · rfl
  · rfl
theorem rright_f (k i : Int) (t : ByteArray) : rosetteref04_Right.f k i t = some (vright k i t) := by
  unfold rosetteref04_Right.f vright
  split
  · rfl
  split
  · split <;> rfl
  split
  · split
    · split
      · rename_i h
        congr 1
        rw [Bool.eq_iff_iff]
        simp only [decide_eq_true_eq]
        omega
      · rename_i h
        congr 1
        rw [Bool.eq_iff_iff]
        simp only [decide_eq_true_eq, Bool.false_eq_true, false_iff]
        omega
    · rfl
  · rfl

/-! ### how they stand -/
def cmpI (a b : Int) : Int := if a < b then -1 else if a > b then 1 else 0
def or3 (x y z : Int) : Int := if x = 0 then (if y = 0 then z else y) else x
def vcmp (k i : Int) (t : ByteArray) (k' i' : Int) (t' : ByteArray) : Int := or3 (cmpI k k') (cmpI i i') (Lib.compareBytes t.data.toList t'.data.toList)
theorem cmpInt_f (a b : Int) : cmp_Compare_int.f a b = some (cmpI a b) := by
  unfold cmp_Compare_int.f cmp_isNaN_int.f cmpI
  simp only [Option.bind_some, bne_self_eq_false, Bool.false_eq_true, if_false]
  split
  · rfl
  split <;> rfl
theorem or_f (k : Nat) (hk : 4 ≤ k) (x y z : Int) : cmp_Or_int.f k [x, y, z] = some (or3 x y z) := by
  obtain ⟨m, rfl⟩ : ∃ m, k = m + 4 := ⟨k - 4, by omega⟩
  have w0 : wrap64 (0 + 1) = 1 := by unfold wrap64; omega
  have w1 : wrap64 (1 + 1) = 2 := by unfold wrap64; omega
  have w2 : wrap64 (2 + 1) = 3 := by unfold wrap64; omega
  unfold cmp_Or_int.f or3
  simp only [cmp_Or_int.l0, List.length_cons, List.length_nil, w0, w1, w2]
  by_cases hx : x = 0
  · by_cases hy : y = 0
    · by_cases hz : z = 0 <;> simp [rd, hx, hy, hz]
    · simp [rd, hx, hy]
  · simp [rd, hx]
theorem compare_f (K : Nat) (hK : 4 ≤ K) (k i : Int) (t : ByteArray) (k' i' : Int) (t' : ByteArray) : value_Compare.f K k i t k' i' t' = some (vcmp k i t k' i' t') := by
  unfold value_Compare.f vcmp
  rw [cmpInt_f, cmpInt_f]
  unfold strings_Compare.f
  simp only [Option.bind_some]
  rw [or_f K hK]
  rfl
theorem bt_list (s : ByteArray) (i : Nat) (h : i < s.data.toList.length) : bt s (i : Int) = (s.data.toList[i].toNat : Int) := by
  have hs : i < s.size := by rw [Array.length_toList] at h; exact h
  unfold bt
  rw [dif_pos (by rw [Int.toNat_natCast]; exact hs)]
  simp only [Int.toNat_natCast]
  rfl
theorem less_go (a b : ByteArray) (ha : a.size < 9223372036854775807) : ∀ (f i e : Nat), i ≤ a.size → i ≤ b.size → i + f = a.size → rosetteref04_less.l0 (2 * f + 2 + e) a b (i : Int) = some (decide (Lib.compareBytes (a.data.toList.drop i) (b.data.toList.drop i) = -1)) := by
  have hla : a.data.toList.length = a.size := by rw [Array.length_toList]; rfl
  have hlb : b.data.toList.length = b.size := by rw [Array.length_toList]; rfl
  intro f
  induction f with
  | zero =>
    intro i e hi hj h
    rw [show 2 * 0 + 2 + e = (e + 1) + 1 by omega, rosetteref04_less.l0, if_neg (by omega), rosetteref04_less.j1, if_neg (by decide)]
    rw [List.drop_of_length_le (by omega)]
    congr 1
    rw [Bool.eq_iff_iff]
    simp only [decide_eq_true_eq]
    by_cases hb : i < b.size
    · rw [List.drop_eq_getElem_cons (by omega)]
      simp only [Lib.compareBytes]
      exact ⟨fun _ => trivial, fun _ => by omega⟩
    · rw [List.drop_of_length_le (l := b.data.toList) (by omega)]
      simp only [Lib.compareBytes]
      exact ⟨fun h => by omega, fun h => absurd h (by decide)⟩
  | succ f ih =>
    intro i e hi hj h
    have hw : wrap64 ((i : Int) + 1) = ((i + 1 : Nat) : Int) := by unfold wrap64; omega
    rw [show 2 * (f + 1) + 2 + e = (2 * f + 2 + e + 1) + 1 by omega, rosetteref04_less.l0, if_pos (by omega), rosetteref04_less.j1]
    by_cases hb : i < b.size
    · rw [if_pos (by simpa using hb), if_pos (by omega), if_pos (by omega), if_pos (by omega), hw, bt_list a i (by omega), bt_list b i (by omega)]
      rw [List.drop_eq_getElem_cons (l := a.data.toList) (by omega), List.drop_eq_getElem_cons (l := b.data.toList) (by omega)]
      simp only [Lib.compareBytes, UInt8.lt_iff_toNat_lt]
      generalize ha' : (a.data.toList[i]'(by omega)).toNat = x
      generalize hb' : (b.data.toList[i]'(by omega)).toNat = y
      by_cases hxy : x = y
      · subst hxy
        rw [if_pos rfl, if_neg (by omega), if_neg (by omega)]
        exact ih (i + 1) e (by omega) (by omega) (by omega)
      · rw [if_neg (by omega)]
        congr 1
        rw [Bool.eq_iff_iff]
        simp only [decide_eq_true_eq]
        by_cases hlt : x < y
        · rw [if_pos hlt]; omega
        · rw [if_neg hlt, if_pos (by omega)]; omega
    · rw [if_neg (by simpa using hb)]
      rw [List.drop_of_length_le (l := b.data.toList) (by omega), List.drop_eq_getElem_cons (l := a.data.toList) (by omega)]
      congr 1
      rw [Bool.eq_iff_iff]
      simp [Lib.compareBytes]
      omega
theorem less_f (a b : ByteArray) (ha : a.size < 9223372036854775807) (k : Nat) (hk : 2 * a.size + 2 ≤ k) : rosetteref04_less.f k a b = some (decide (Lib.compareBytes a.data.toList b.data.toList = -1)) := by
  have := less_go a b ha a.size 0 (k - (2 * a.size + 2)) (Nat.zero_le _) (Nat.zero_le _) (by omega)
  rw [show 2 * a.size + 2 + (k - (2 * a.size + 2)) = k by omega] at this
  exact this
theorem cmpB_zero : ∀ (a b : List UInt8), Lib.compareBytes a b = 0 ↔ a = b
  | [], [] => by simp [Lib.compareBytes]
  | [], _ :: _ => by simp [Lib.compareBytes]
  | _ :: _, [] => by simp [Lib.compareBytes]
  | x :: a, y :: b => by
    have ih := cmpB_zero a b
    simp only [Lib.compareBytes, UInt8.lt_iff_toNat_lt, List.cons.injEq, ← UInt8.toNat_inj]
    by_cases h1 : x.toNat < y.toNat
    · rw [if_pos h1]; simp; omega
    · rw [if_neg h1]
      by_cases h2 : y.toNat < x.toNat
      · rw [if_pos h2]; simp; omega
      · rw [if_neg h2, ih]
        constructor
        · intro h; exact ⟨by omega, h⟩
        · exact fun h => h.2
theorem cmpB_in : ∀ (a b : List UInt8), Lib.compareBytes a b = -1 ∨ Lib.compareBytes a b = 0 ∨ Lib.compareBytes a b = 1
  | [], [] => .inr (.inl rfl)
  | [], _ :: _ => .inl rfl
  | _ :: _, [] => .inr (.inr rfl)
  | x :: a, y :: b => by
    simp only [Lib.compareBytes]
    split
    · exact .inl rfl
    split
    · exact .inr (.inr rfl)
    · exact cmpB_in a b
theorem text_f (a b : ByteArray) (ha : a.size < 9223372036854775807) (k : Nat) (hk : 2 * a.size + 2 ≤ k) : rosetteref04_Text.f k a b = some (Lib.compareBytes a.data.toList b.data.toList) := by
  unfold rosetteref04_Text.f
  have hz := cmpB_zero a.data.toList b.data.toList
  have hin := cmpB_in a.data.toList b.data.toList
  have e1 : (a.toList = b.toList) ↔ (a.data.toList = b.data.toList) := by rw [ByteArray.toList_eq, ByteArray.toList_eq]
  rw [less_f a b ha k hk]
  simp only [Option.bind_some]
  by_cases h : a.data.toList = b.data.toList
  · rw [if_pos (e1.2 h), hz.2 h]
  · rw [if_neg (fun hh => h (e1.1 hh))]
    have : Lib.compareBytes a.data.toList b.data.toList ≠ 0 := fun hh => h (hz.1 hh)
    by_cases h1 : Lib.compareBytes a.data.toList b.data.toList = -1
    · rw [if_pos (by simpa using h1), h1]
    · rw [if_neg (by simpa using h1)]
      congr 1
      omega
theorem rcompare_f (K : Nat) (k i : Int) (t : ByteArray) (k' i' : Int) (t' : ByteArray) (ht : t.size < 9223372036854775807) (hK : 2 * t.size + 3 ≤ K) : rosetteref04_Compare.f K k i t k' i' t' = some (vcmp k i t k' i' t') := by
  obtain ⟨m, rfl⟩ : ∃ m, K = m + 1 := ⟨K - 1, by omega⟩
  unfold rosetteref04_Compare.f vcmp or3 cmpI
  simp only [rosetteref04_Compare.j0]
  rw [text_f t t' ht m (by omega)]
  simp only [Option.bind_some]
  by_cases h1 : k < k'
  · rw [if_pos h1]; simp [h1]
  · rw [if_neg h1]
    by_cases h2 : k = k'
    · subst h2
      rw [if_pos rfl]
      by_cases h3 : i < i'
      · simp [h3]
      · by_cases h4 : i > i'
        · simp [h3, h4]
        · simp [h3, h4]
    · have h5 : k > k' := by omega
      rw [if_neg h2]
      simp [h1, h5]
/-- which predicates are right -/
def pnamed (n t : ByteArray) : Bool := if n.toList = [] then false else if (n.size : Int) ≤ 16 then decide ((t.size : Int) ≤ 32) else false
def prightB (n : ByteArray) (o k i : Int) (t : ByteArray) : Bool :=
  if o = 8 then pnamed n t && (k == 0 && (i == 0 && t.toList == []))
  else if o = 7 ∧ k ≠ 2 then false else pnamed n t && (decide (1 ≤ o) && decide (o ≤ 7) && vright k i t)
theorem right_j (K : Nat) (b : Bool) (n : ByteArray) (o k i : Int) (t : ByteArray) (h0 : -9223372036854775808 ≤ i) (h1 : i < 9223372036854775808) :
    pred_Right.j0 (K + 1) b n o k i t = some (if o = 8 then b && (k == 0 && (i == 0 && t.toList == [])) else if o = 7 ∧ k ≠ 2 then false else b && (decide (1 ≤ o) && decide (o ≤ 7) && vright k i t)) := by
  simp only [pred_Right.j0]
  rw [right_f k i t h0 h1]
  simp only [Option.bind_some]
  by_cases a8 : o = 8
  · subst a8; cases b <;> simp
  · by_cases a7 : o = 7
    · subst a7; by_cases k2 : k = 2 <;> cases b <;> simp [k2]
    · by_cases o1 : 1 ≤ o <;> by_cases o7 : o ≤ 7 <;> cases b <;> simp [a8, a7, o1, o7]
theorem pright_f (K : Nat) (n : ByteArray) (o k i : Int) (t : ByteArray) (h0 : -9223372036854775808 ≤ i) (h1 : i < 9223372036854775808) : pred_Right.f (K + 1) n o k i t = some (prightB n o k i t) := by
  unfold pred_Right.f prightB pnamed
  split
  · rw [right_j _ _ _ _ _ _ _ h0 h1]
  · split
    · rw [right_j _ _ _ _ _ _ _ h0 h1]
    · rw [right_j _ _ _ _ _ _ _ h0 h1]
theorem pright_at {K : Nat} (hK : 0 < K) (n : ByteArray) (o k i : Int) (t : ByteArray) (h0 : -9223372036854775808 ≤ i) (h1 : i < 9223372036854775808) : pred_Right.f K n o k i t = some (prightB n o k i t) := by
  obtain ⟨K, rfl⟩ : ∃ m, K = m + 1 := ⟨K - 1, by omega⟩
  exact pright_f K n o k i t h0 h1
theorem size_nil (n : ByteArray) : n.toList = [] ↔ n.size = 0 := by
  rw [ByteArray.toList_eq]
  constructor
  · intro h
    have := congrArg List.length h
    rw [Array.length_toList] at this
    exact this
  · intro h
    apply List.eq_nil_of_length_eq_zero
    rw [Array.length_toList]
    exact h
theorem pnamed_eq (n t : ByteArray) : pnamed n t = (decide (1 ≤ n.size ∧ n.size ≤ 16) && decide (t.size ≤ 32)) := by
  unfold pnamed
  by_cases h0 : n.toList = []
  · rw [if_pos h0, decide_eq_false (by have := (size_nil n).1 h0; omega)]; rfl
  · rw [if_neg h0]
    have hp : n.size ≠ 0 := fun h => h0 ((size_nil n).2 h)
    by_cases h1 : (n.size : Int) ≤ 16
    · rw [if_pos h1, decide_eq_true (show 1 ≤ n.size ∧ n.size ≤ 16 by omega), Bool.true_and, decide_eq_decide]; omega
    · rw [if_neg h1, decide_eq_false (show ¬ (1 ≤ n.size ∧ n.size ≤ 16) by omega)]; rfl
theorem rpright_f {K : Nat} (hK : 0 < K) (n : ByteArray) (o k i : Int) (t : ByteArray) (h0 : -9223372036854775808 ≤ i) (h1 : i < 9223372036854775808) : rosetteref06_Right.f K n o k i t = some (prightB n o k i t) := by
  obtain ⟨K, rfl⟩ : ∃ m, K = m + 1 := ⟨K - 1, by omega⟩
  have J : ∀ b, rosetteref06_Right.j0 (K + 1) b n o k i t = some (if b = true then false else if o = 8 then (k == 0 && (i == 0 && t.toList == [])) else if o = 7 ∧ k ≠ 2 then false else decide (t.size ≤ 32) && (decide (1 ≤ o) && decide (o ≤ 7) && vright k i t)) := by
    intro b
    simp only [rosetteref06_Right.j0]
    rw [rright_f]
    simp only [Option.bind_some]
    cases b with
    | true => rfl
    | false =>
      simp only [Bool.false_eq_true, if_false]
      by_cases a8 : o = 8
      · rw [if_pos a8, if_pos a8]
      rw [if_neg a8, if_neg a8]
      by_cases o1 : 1 ≤ o <;> by_cases o7 : o ≤ 7 <;> by_cases a7 : o = 7 <;> by_cases k2 : k = 2 <;> by_cases t3 : t.size ≤ 32 <;> cases vright k i t <;> simp [o1, o7, a7, k2, t3] <;> omega
  unfold rosetteref06_Right.f prightB
  rw [pnamed_eq]
  have hz : (k == 0 && (i == 0 && t.toList == [])) = true → t.size ≤ 32 := by
    intro h
    simp only [Bool.and_eq_true, beq_iff_eq] at h
    have := (size_nil t).1 h.2.2
    omega
  by_cases a1 : (n.size : Int) < 1
  · rw [if_pos a1, J, if_pos rfl, decide_eq_false (show ¬ (1 ≤ n.size ∧ n.size ≤ 16) by omega)]
    simp
  · rw [if_neg a1, J]
    by_cases a2 : (n.size : Int) > 16
    · rw [decide_eq_true a2, if_pos rfl, decide_eq_false (show ¬ (1 ≤ n.size ∧ n.size ≤ 16) by omega)]
      simp
    · rw [decide_eq_false a2, if_neg (by decide), decide_eq_true (show 1 ≤ n.size ∧ n.size ≤ 16 by omega)]
      congr 1
      by_cases a8 : o = 8
      · rw [if_pos a8, if_pos a8]
        cases hq : (k == 0 && (i == 0 && t.toList == [])) with
        | true => rw [decide_eq_true (hz hq)]; rfl
        | false => simp
      · rw [if_neg a8, if_neg a8]
        simp only [Bool.true_and]

def hasPre (s p : ByteArray) : Bool := if p.size ≤ s.size then (s.extract 0 p.size).toList == p.toList else false
theorem hasPrefix_f (s p : ByteArray) : strings_HasPrefix.f s p = some (hasPre s p) := by
  unfold strings_HasPrefix.f stringslite_HasPrefix.f hasPre
  by_cases h : p.size ≤ s.size
  · rw [if_pos (by omega), if_pos (by omega), if_pos (by omega), if_pos h]; rfl
  · rw [if_neg (by omega), if_neg h]; rfl
def askB (o c : Int) : Bool := if o = 1 then c == 0 else if o = 2 then c != 0 else if o = 3 then decide (c < 0) else if o = 4 then decide (c ≤ 0) else if o = 5 then decide (c > 0) else decide (c ≥ 0)
def holdsB (n : ByteArray) (o k i : Int) (t : ByteArray) (vk vi : Int) (vt : ByteArray) : Bool :=
  if prightB n o k i t = true then (if vright vk vi vt = true then (if o = 8 then true else if vk = k then (if o = 7 then hasPre vt t else askB o (vcmp vk vi vt k i t)) else false) else false) else false
theorem pright_op {n : ByteArray} {o k i : Int} {t : ByteArray} (h : prightB n o k i t = true) : 1 ≤ o ∧ o ≤ 8 := by
  unfold prightB at h
  by_cases a8 : o = 8
  · omega
  · rw [if_neg a8] at h
    split at h
    · cases h
    · simp only [Bool.and_eq_true, decide_eq_true_eq] at h
      omega
theorem holds_f {K : Nat} (hK : 6 ≤ K) (n : ByteArray) (o k i : Int) (t : ByteArray) (vk vi : Int) (vt : ByteArray) (h0 : -9223372036854775808 ≤ i) (h1 : i < 9223372036854775808) (g0 : -9223372036854775808 ≤ vi) (g1 : vi < 9223372036854775808) :
    pred_Holds.f K n o k i t vk vi vt = some (holdsB n o k i t vk vi vt) := by
  obtain ⟨K, rfl⟩ : ∃ m, K = m + 1 := ⟨K - 1, by omega⟩
  unfold pred_Holds.f holdsB
  rw [pright_f K n o k i t h0 h1]
  simp only [Option.bind_some]
  by_cases hp : prightB n o k i t = true
  · rw [if_pos hp, if_pos hp, right_f vk vi vt g0 g1]
    simp only [Option.bind_some, pred_Holds.j0]
    by_cases hv : vright vk vi vt = true
    · obtain ⟨o1, o8⟩ := pright_op hp
      rw [if_neg (by rw [hv]; decide), if_pos hv, compare_f K (by omega)]
      simp only [Option.bind_some]
      rw [hasPrefix_f]
      simp only [Option.bind_some]
      by_cases a8 : o = 8
      · rw [if_pos a8, if_pos a8]
      rw [if_neg a8, if_neg a8]
      by_cases ek : vk = k
      · rw [if_pos ek, if_pos ek]
        by_cases a7 : o = 7
        · rw [if_pos a7, if_pos a7]
        rw [if_neg a7, if_neg a7]
        generalize vcmp vk vi vt k i t = c
        have ho : o = 1 ∨ o = 2 ∨ o = 3 ∨ o = 4 ∨ o = 5 ∨ o = 6 := by omega
        have hc : c < 0 ∨ c = 0 ∨ c > 0 := by omega
        unfold askB
        rcases hc with hc | hc | hc
        · rcases ho with rfl | rfl | rfl | rfl | rfl | rfl <;> simp [hc, show ¬ (c > 0) by omega, show c ≠ 0 by omega, show c ≤ 0 by omega, show ¬ (0 ≤ c) by omega]
        · subst hc
          rcases ho with rfl | rfl | rfl | rfl | rfl | rfl <;> simp
        · rcases ho with rfl | rfl | rfl | rfl | rfl | rfl <;> simp [show c > 0 by omega, show ¬ (c < 0) by omega, show c ≠ 0 by omega, show ¬ (c ≤ 0) by omega, show 0 ≤ c by omega]
      · rw [if_neg ek, if_neg ek]
    · rw [if_pos (by simpa using hv), if_neg hv]
  · rw [if_neg hp, if_neg hp]
    simp only [pred_Holds.j0]
    rw [if_pos trivial]
theorem rholds_f {K : Nat} (n : ByteArray) (o k i : Int) (t : ByteArray) (vk vi : Int) (vt : ByteArray) (h0 : -9223372036854775808 ≤ i) (h1 : i < 9223372036854775808) (g0 : -9223372036854775808 ≤ vi) (g1 : vi < 9223372036854775808) (hs : vt.size < 9223372036854775807) (hK : 2 * vt.size + 5 ≤ K) :
    rosetteref06_Holds.f K n o k i t vk vi vt = some (holdsB n o k i t vk vi vt) := by
  obtain ⟨K, rfl⟩ : ∃ m, K = m + 1 := ⟨K - 1, by omega⟩
  unfold rosetteref06_Holds.f holdsB
  rw [rpright_f (by omega) n o k i t h0 h1, rright_f]
  simp only [Option.bind_some]
  by_cases hp : prightB n o k i t = true
  · rw [if_pos hp, if_pos hp]
    simp only [rosetteref06_Holds.j0]
    by_cases hv : vright vk vi vt = true
    · obtain ⟨o1, o8⟩ := pright_op hp
      rw [if_neg (by rw [hv]; decide), if_pos hv, rcompare_f K _ _ _ _ _ _ hs (by omega)]
      simp only [Option.bind_some]
      by_cases a8 : o = 8
      · rw [if_pos a8, if_pos a8]
      rw [if_neg a8, if_neg a8]
      by_cases ek : vk = k
      · rw [if_pos ek, if_pos ek]
        by_cases a7 : o = 7
        · subst a7
          simp only [show ¬ ((7 : Int) = 1) by decide, show ¬ ((7 : Int) = 2) by decide, show ¬ ((7 : Int) = 3) by decide, show ¬ ((7 : Int) = 4) by decide, show ¬ ((7 : Int) = 5) by decide, show ¬ ((7 : Int) = 6) by decide, if_false, if_true]
          unfold hasPre
          by_cases h : t.size ≤ vt.size
          · rw [if_pos (by omega), if_pos (by omega), if_pos (by omega), if_pos h]; rfl
          · rw [if_neg (by omega), if_neg h]
        rw [if_neg a7]
        generalize vcmp vk vi vt k i t = c
        have ho : o = 1 ∨ o = 2 ∨ o = 3 ∨ o = 4 ∨ o = 5 ∨ o = 6 := by omega
        unfold askB
        rcases ho with rfl | rfl | rfl | rfl | rfl | rfl <;> simp
      · rw [if_neg ek, if_neg ek]
    · rw [if_pos (by simpa using hv), if_neg hv]
  · rw [if_neg hp, if_neg hp]
    simp only [rosetteref06_Holds.j0]
    rw [if_pos trivial]
end Go.Proofs.Ytbcnknmgljdmlaa
end

section
-- Written by a program of this session (wip/tools/myprint.py), over the kit's print.
namespace Go.Proofs.Ytbcnknmgljdmlaa.G
open Go.RowKit Go.Proofs.YtbcnknmgljdmlaaW.PrintWords Go.Proofs.YtbcnknmgljdmlaaW.PrintLast Go.Proofs.YtbcnknmgljdmlaaW.PrintMore
attribute [local go_sem] max2_int min2_int max_two min_two max_three min_three max_four min_four   -- for this text's walks alone
set_option linter.unusedVariables false
set_option linter.unusedSimpArgs false

/-! ### rosetteref11_Ints: function 16 -/
def rosetteref11_Ints.l0 : Nat → List Int → List Int → Int → Option (Bool)
  | 0, _, _, _ => none
  | k + 1, x0, x1, x5 => if x5 < (x0.length : Int) then (if 0 ≤ x5 then (if x5 < (x1.length : Int) then (if (rd x0 x5) = (rd x1 x5) then (rosetteref11_Ints.l0 k x0 x1 (wrap64 (x5 + 1))) else (some false)) else (none)) else (none)) else (some true)
def rosetteref11_Ints.f (k : Nat) (l0 : List Int) (l1 : List Int) : Option (Bool) := if (l0.length : Int) = (l1.length : Int) then (rosetteref11_Ints.l0 k l0 l1 0) else (some false)
theorem rosetteref11_Ints.mono_l : ∀ k, (∀ y0 y1 y2, LeO (rosetteref11_Ints.l0 k y0 y1 y2) (rosetteref11_Ints.l0 (k + 1) y0 y1 y2))
  | 0 => fun _ _ _ r h => by simp [rosetteref11_Ints.l0] at h
  | k + 1 => by
    have ih0 := rosetteref11_Ints.mono_l k
    · intro y0 y1 y2
      unfold rosetteref11_Ints.l0
      repeat' first
      | (with_reducible exact ih0 _ _ _)
      | (with_reducible exact LeO.refl _)
      | (with_reducible exact LeO.none _)
      | (with_reducible refine LeO.ite ?_ ?_)
      | (with_reducible refine LeO.bind ?_ (fun _ => ?_))
      | exact ih0 _ _ _
      | exact LeO.none _
      | refine LeO.ite ?_ ?_
      | refine LeO.bind ?_ (fun _ => ?_)
theorem rosetteref11_Ints.mono : ∀ a0 a1 k, LeO (rosetteref11_Ints.f k a0 a1) (rosetteref11_Ints.f (k + 1) a0 a1) := by
  intro a0 a1 k
  have ih0 := rosetteref11_Ints.mono_l k
  unfold rosetteref11_Ints.f
  repeat' first
      | (with_reducible exact ih0 _ _ _)
      | (with_reducible exact LeO.refl _)
      | (with_reducible exact LeO.none _)
      | (with_reducible refine LeO.ite ?_ ?_)
      | (with_reducible refine LeO.bind ?_ (fun _ => ?_))
      | exact ih0 _ _ _
      | exact LeO.none _
      | refine LeO.ite ?_ ?_
      | refine LeO.bind ?_ (fun _ => ?_)
set_option maxHeartbeats 8000000 in
set_option maxRecDepth 100000 in
theorem rosetteref11_Ints.calls (k : Nat) (A0 : Option Addr) (c0 : Nat) (l0 : List Int) (A1 : Option Addr) (c1 : Nat) (l1 : List Int) (r : Bool) (w : World) (hr0 : Kd.C (Kd.int .i64) w A0 l0.length l0) (hc0 : l0.length ≤ c0) (hr1 : Kd.C (Kd.int .i64) w A1 l1.length l1) (hc1 : l1.length ≤ c1) (h : rosetteref11_Ints.f k l0 l1 = some r) :
    Calls Try.prog 16 #[.slice A0 l0.length c0, .slice A1 l1.length c1] w fun e w' => e = .returned (.bool r) ∧ Drawn0 w w' := by
  have HR0 := Aside0.mk hr0
  have HC0 := Aside0.mk hc0
  clear hr0 hc0
  have HR1 := Aside0.mk hr1
  have HC1 := Aside0.mk hc1
  clear hr1 hc1
  have H : (if (l0.length : Int) = (l1.length : Int) then (rosetteref11_Ints.l0 k l0 l1 0) else (some false)) = some r := h
  clear h
  by_cases c3 : (l0.length : Int) = (l1.length : Int)
  · rw [if_pos c3] at H
    have c3b0 : ((l0.length : Int) == (l1.length : Int)) = true := beq_iff_eq.mpr c3
    have c3b1 : ((l0.length : Int) != (l1.length : Int)) = false := bne_eq_false_iff_eq.mpr c3
    have c3b2 : (l0.length == l1.length) = true := by first | simpa using c3 | (simp at c3 ⊢; omega)
    clear c3
    have H' := Aside0.mk H
    clear H
    go_enter Try.func16, Try.ntmps16
    go_wp2
    repeat (go_quiet (fail); try go_wp2)
    go_loopg [5] k (fun kq v5 w' => ∃ (x5_1 : Int), v5 = .int .i64 x5_1 ∧ Aside0 (rosetteref11_Ints.l0 kq l0 l1 x5_1 = some r) ∧ Aside0 (kq ≤ k) ∧ Drawn0 w w')
    case atStart => exact ⟨(0), (by first | rfl | (simp; done) | (simp [*]; done)), H', ⟨Nat.le_refl _⟩, by repeat (first | exact Drawn0.refl _ | apply Drawn0.step)⟩
    case round =>
      clear H'
      try clear c1
      try clear p2
      try clear c3
      try clear c3b0
      try clear c3b1
      try clear c3b2
      obtain ⟨x5_1, rfl, HA, HK1, ⟨m1, rfl⟩⟩ := hrel
      cases gk with
      | zero => exact absurd HA.out (by simp [rosetteref11_Ints.l0])
      | succ k1 =>
        have H := HA.out
        clear HA
        simp only [rosetteref11_Ints.l0] at H
        by_cases c4 : x5_1 < (l0.length : Int)
        · rw [if_pos c4] at H
          have c4b0 : decide (x5_1 < (l0.length : Int)) = true := decide_eq_true c4
          clear c4
          by_cases c5 : 0 ≤ x5_1
          · rw [if_pos c5] at H
            have c5b0 : decide (0 ≤ x5_1) = true := decide_eq_true c5
            clear c5
            by_cases c6 : x5_1 < (l1.length : Int)
            · rw [if_pos c6] at H
              have c6b0 : decide (x5_1 < (l1.length : Int)) = true := decide_eq_true c6
              clear c6
              by_cases c7 : (rd l0 x5_1) = (rd l1 x5_1)
              · rw [if_pos c7] at H
                have c7b0 : ((rd l0 x5_1) == (rd l1 x5_1)) = true := beq_iff_eq.mpr c7
                have c7b1 : ((rd l0 x5_1) != (rd l1 x5_1)) = false := bne_eq_false_iff_eq.mpr c7
                clear c7
                have H' := Aside0.mk H
                clear H
                have p124 : 0 ≤ (x5_1 : Int) := of_decide_eq_true (by first | (with_reducible assumption) | assumption)
                have q124 : x5_1 < (l0.length : Int) := of_decide_eq_true (by first | (with_reducible assumption) | assumption)
                obtain ⟨ad124, e124, hx124_0⟩ := Kd.at_int HR0.out x5_1 p124 q124
                cases e124
                replace p124 := eq_true p124
                replace q124 := eq_true q124
                have p125 : 0 ≤ (x5_1 : Int) := of_decide_eq_true (by first | (with_reducible assumption) | assumption)
                have q125 : x5_1 < (l1.length : Int) := of_decide_eq_true (by first | (with_reducible assumption) | assumption)
                obtain ⟨ad125, e125, hx125_0⟩ := Kd.at_int HR1.out x5_1 p125 q125
                cases e125
                replace p125 := eq_true p125
                replace q125 := eq_true q125
                go_wp2
                repeat (go_quiet (fail); try go_wp2)
                go_roundg k1
                case measure => have := HK1.out; omega
                case rel => exact ⟨(wrap64 (x5_1 + 1)), (by first | rfl | (simp; done) | (simp [*]; done)), H', ⟨by have := HK1.out; omega⟩, by repeat (first | exact Drawn0.refl _ | apply Drawn0.step)⟩
              · rw [if_neg c7] at H
                have c7b0 : ((rd l0 x5_1) == (rd l1 x5_1)) = false := beq_eq_false_iff_ne.mpr c7
                have c7b1 : ((rd l0 x5_1) != (rd l1 x5_1)) = true := bne_iff_ne.mpr c7
                obtain rfl := Option.some.inj H
                have p124 : 0 ≤ (x5_1 : Int) := of_decide_eq_true (by first | (with_reducible assumption) | assumption)
                have q124 : x5_1 < (l0.length : Int) := of_decide_eq_true (by first | (with_reducible assumption) | assumption)
                obtain ⟨ad124, e124, hx124_0⟩ := Kd.at_int HR0.out x5_1 p124 q124
                cases e124
                replace p124 := eq_true p124
                replace q124 := eq_true q124
                have p125 : 0 ≤ (x5_1 : Int) := of_decide_eq_true (by first | (with_reducible assumption) | assumption)
                have q125 : x5_1 < (l1.length : Int) := of_decide_eq_true (by first | (with_reducible assumption) | assumption)
                obtain ⟨ad125, e125, hx125_0⟩ := Kd.at_int HR1.out x5_1 p125 q125
                cases e125
                replace p125 := eq_true p125
                replace q125 := eq_true q125
                go_wp2
                repeat (go_quiet (fail); try go_wp2)
                go_ret
                exact ⟨by first | rfl | (simp; done) | (simp [*]; done), by repeat (first | exact Drawn0.refl _ | apply Drawn0.step)⟩
            · rw [if_neg c6] at H
              exact absurd H (by simp)
          · rw [if_neg c5] at H
            exact absurd H (by simp)
        · rw [if_neg c4] at H
          have c4b0 : decide (x5_1 < (l0.length : Int)) = false := decide_eq_false c4
          clear c4
          obtain rfl := Option.some.inj H
          go_wp2
          repeat (go_quiet (fail); try go_wp2)
          go_ret
          exact ⟨by first | rfl | (simp; done) | (simp [*]; done), by repeat (first | exact Drawn0.refl _ | apply Drawn0.step)⟩
  · rw [if_neg c3] at H
    have c3b0 : ((l0.length : Int) == (l1.length : Int)) = false := beq_eq_false_iff_ne.mpr c3
    have c3b1 : ((l0.length : Int) != (l1.length : Int)) = true := bne_iff_ne.mpr c3
    have c3b2 : (l0.length == l1.length) = false := by first | simpa using c3 | (simp at c3 ⊢; omega)
    obtain rfl := Option.some.inj H
    go_enter Try.func16, Try.ntmps16
    go_wp2
    repeat (go_quiet (fail); try go_wp2)
    go_ret
    exact ⟨by first | rfl | (simp; done) | (simp [*]; done), by repeat (first | exact Drawn0.refl _ | apply Drawn0.step)⟩

end Go.Proofs.Ytbcnknmgljdmlaa.G
end

section
/- rosettelaw12.small, walked -/
set_option linter.unusedVariables false
set_option linter.unusedSimpArgs false
set_option autoImplicit false
namespace Go.Proofs.Ytbcnknmgljdmlaa
open Go Go.RowKit Go.Proofs.YtbcnknmgljdmlaaW.PrintWords Go.Proofs.YtbcnknmgljdmlaaW.PrintLast Go.Proofs.YtbcnknmgljdmlaaW.PrintMore Go.Proofs.Ytbcnknmgljdmlaa.G

/-! ### Meet, of what predicates hold -/
def hbI (p : S47) (v : S45) : Bool := holdsB p.f0 p.f1 p.f2.f0 p.f2.f1 p.f2.f2 v.f0 v.f1 v.f2
def AttrOk (a : S49) : Prop := a.f0.size ≤ maxLen ∧ (Lit.int .i64 a.f1.f1).wf = true
theorem mem_keys {q : List (Int × S47)} {p : S47} (h : p ∈ keysOf q) : ∃ x ∈ q, x.2 = p := by
  have hg : ∀ (l : List (Int × S47)) (ks : List S47), p ∈ l.foldl (fun ks x => addK ks x.2) ks → p ∈ ks ∨ ∃ x ∈ l, x.2 = p := by
    intro l
    induction l with
    | nil => intro ks h; exact .inl h
    | cons x l ih =>
      intro ks h
      rcases ih _ h with h | ⟨y, hy, e⟩
      · rcases addK_mem.1 h with h | h
        · exact .inl h
        · exact .inr ⟨x, by simp, h.symm⟩
      · exact .inr ⟨y, by simp [hy], e⟩
  rcases hg q [] h with h | h
  · cases h
  · exact h
theorem pairs_mem : ∀ (l : List S41) (i : Nat) (x : Int × S47), x ∈ pairsFrom i l → (i : Int) ≤ x.1 ∧ x.1 < (i : Int) + l.length ∧ ∃ e ∈ l, x.2 ∈ e.f2 := by
  intro l
  induction l with
  | nil => intro i x h; simp [pairsFrom] at h
  | cons e l ih =>
    intro i x h
    rw [pairsFrom, List.mem_append] at h
    rcases h with h | h
    · obtain ⟨p, hp, rfl⟩ := List.mem_map.1 h
      simp only [List.length_cons]
      exact ⟨by omega, by omega, e, by simp, hp⟩
    · obtain ⟨h1, h2, e', he, hp⟩ := ih (i + 1) x h
      simp only [List.length_cons]
      exact ⟨by omega, by omega, e', by simp [he], hp⟩
/-- what is told of entries and an event -/
def tellL (l : List S41) (e : List S49) : List Int := meetI hbI (pairsFrom 0 l) (l.map (·.f0)) (l.map fun e => (e.f2.length : Int)) e
def EntOk (l : List S41) : Prop := l.length ≤ 100000 ∧ (pairsFrom 0 l).length ≤ 100000 ∧ ∀ e ∈ l, ∀ p ∈ e.f2, KeyOk p
theorem ent_len {l : List S41} (h : EntOk l) : ∀ e ∈ l, e.f2.length ≤ 100000 := by
  have hg : ∀ (l : List S41) (i : Nat), ∀ e ∈ l, e.f2.length ≤ (pairsFrom i l).length := by
    intro l
    induction l with
    | nil => intro i e he; cases he
    | cons x l ih =>
      intro i e he
      rw [pairsFrom, List.length_append, List.length_map]
      rcases List.mem_cons.1 he with rfl | he
      · omega
      · have := ih (i + 1) e he; omega
  intro e he
  have := hg l 0 e he
  have := h.2.1
  omega
theorem wbuild2 (A0 : Option Addr) (c0 : Nat) (l : List S41) (w : World) (hr0 : Kd.C k41 w A0 l.length l) (hc0 : l.length ≤ c0) (h : EntOk l) :
    Calls Try.prog 10 #[.slice A0 l.length c0] w fun e w' => e = .returned (.pointer (some ⟨w.heap.size + 2, 0, none⟩)) ∧ IxQ w w' [] (pairsFrom 0 l) (l.map (·.f0)) (l.map fun e => (e.f2.length : Int)) :=
  wbuild A0 c0 l w hr0 hc0 (by have := h.1; omega) (by have := h.2.1; omega) (fun e he => by have := ent_len h e he; omega) h.2.2
theorem wmeet2 (l : List S41) (hl : EntOk l) {w0 : World} (A1 : Option Addr) (c1 : Nat) (e : List S49) (w : World) (h : IxQ w0 w [] (pairsFrom 0 l) (l.map (·.f0)) (l.map fun e => (e.f2.length : Int))) (hr1 : Kd.C k49 w A1 e.length e) (hc1 : e.length ≤ c1) (he : e.length ≤ 100000) (ha : ∀ a ∈ e, AttrOk a) :
    Calls Try.prog 15 #[.pointer (some ⟨w0.heap.size + 2, 0, none⟩), .slice A1 e.length c1] w fun e' w' => ∃ v, e' = .returned v ∧ (Kd.int .i64).R 3 w' w.heap.size (fun _ => True) v (tellL l e) ∧ Below w.heap.size w w' := by
  have hk : ∀ p ∈ keysOf (pairsFrom 0 l), KeyOk p := fun p hp => by
    obtain ⟨x, hx, rfl⟩ := mem_keys hp
    obtain ⟨_, _, en, hen, hp2⟩ := pairs_mem l 0 x hx
    exact hl.2.2 en hen _ hp2
  refine wmeet hbI 6 _ _ _ A1 c1 e w h hr1 hc1 (by simp) hl.2.1 he (by simpa using hl.1) (fun x hx => by have := pairs_mem l 0 x hx; simp only [List.length_map]; omega) hk (fun a ha' => (ha a ha').1) (fun p hp a ha' => ?_)
  have h1 := Go.bounds_i64 (hk p hp).2.1.2
  have h2 := Go.bounds_i64 (ha a ha').2
  exact holds_f (by decide) _ _ _ _ _ _ _ _ (by omega) (by omega) (by omega) (by omega)
theorem lmeet (l : List S41) (hl : EntOk l) {w0 : World} (A1 : Option Addr) (c1 : Nat) (e : List S49) (n : Nat) (hn : e.length = n) (res : List Int) (hres : tellL l e = res) (w : World) (h : IxQ w0 w [] (pairsFrom 0 l) (l.map (·.f0)) (l.map fun e => (e.f2.length : Int))) (hr1 : Kd.C k49 w A1 n e) (hc1 : n ≤ c1) (he : n ≤ 100000) (ha : ∀ a ∈ e, AttrOk a) :
    Calls Try.prog 15 #[.pointer (some ⟨w0.heap.size + 2, 0, none⟩), .slice A1 n c1] w fun e' w' => ∃ A c, e' = .returned (.slice A res.length c) ∧ res.length ≤ c ∧ (Kd.int .i64).C w' A res.length res ∧ Below w.heap.size w w' := by
  subst hn
  subst hres
  refine (wmeet2 l hl A1 c1 e w h hr1 hc1 he ha).mono ?_
  rintro e' w' ⟨v, rfl, hR, hB⟩
  obtain ⟨A, c, rfl, h1, h2⟩ := own_C hR
  exact ⟨A, c, rfl, h1, h2, hB⟩
/-! ### rows that are laid -/
theorem preds_lit {W : World} {b : Nat} (l : List S47) (h : W.heap[b]? = some (.cells (l.flatMap predC).toArray 47 (0, 0))) (hl : l.length ≤ 100000) : k47.C W (some ⟨b, 0, none⟩) l.length l := by
  have hf : (l.flatMap predC).length = l.length * 5 := (reps_preds l W 0 (fun _ => True)).1
  have ho : W.ownsRow 0 47 5 (.slice (some ⟨b, 0, none⟩) l.length l.length) l.length (l.flatMap predC) :=
    ⟨hf, .inr ⟨b, l.length, _, rfl, Nat.zero_le _, h, Nat.le_refl _, by simp only [maxLen]; omega, by simp [hf], by rw [List.take_of_length_le]; simp [hf]⟩⟩
  obtain ⟨A, c, he, _, hC⟩ := preds_C ho
  injection he with e1
  subst e1
  exact hC
def attrC (a : S49) : List Value := [.string a.f0, .int .i64 a.f1.f0, .int .i64 a.f1.f1, .string a.f1.f2]
theorem reps_attrs : ∀ (l : List S49) (W : World) (base : Nat) (ok : Nat → Prop), Reps (fun p cs => k49.M W base ok p cs) 4 l (l.flatMap attrC) := by
  intro l W base ok
  refine ⟨?_, fun j p hj => ?_⟩
  · induction l with
    | nil => rfl
    | cons x l ih => simp only [List.flatMap_cons, List.length_append, List.length_cons]; rw [ih]; simp [attrC]; omega
  · have : ((l.flatMap attrC).drop (j * 4)).take 4 = attrC p := by
      induction l generalizing j with
      | nil => simp at hj
      | cons x l ih =>
        cases j with
        | zero =>
          simp only [List.getElem?_cons_zero, Option.some.injEq] at hj
          subst hj
          rw [Nat.zero_mul, List.drop_zero, List.flatMap_cons, List.take_append_of_le_length (by simp [attrC])]
          rfl
        | succ j =>
          rw [List.getElem?_cons_succ] at hj
          have := ih j hj
          rw [List.flatMap_cons, show (j + 1) * 4 = (attrC x).length + j * 4 by simp [attrC]; omega, ← List.drop_drop, List.drop_left]
          exact this
    rw [this]
    exact k49_mkM W base ok p
theorem attrs_C {W : World} {base : Nat} {v : Value} {l : List S49} (h : W.ownsRow base 49 4 v l.length (l.flatMap attrC)) : ∃ A c, v = .slice A l.length c ∧ l.length ≤ c ∧ k49.C W A l.length l := by
  have hR : k49.R 49 W base (fun _ => True) v l := ⟨fun _ _ => trivial, l.flatMap attrC, h, reps_attrs l _ _ _⟩
  obtain ⟨A, c, rfl⟩ := Kd.R_slice hR
  have := Kd.R_reads' hR
  exact ⟨A, c, rfl, this.2.1, this.2.2⟩
theorem attrs_lit {W : World} {b : Nat} (l : List S49) (h : W.heap[b]? = some (.cells (l.flatMap attrC).toArray 49 (0, 0))) (hl : l.length ≤ 100000) : k49.C W (some ⟨b, 0, none⟩) l.length l := by
  have hf : (l.flatMap attrC).length = l.length * 4 := (reps_attrs l W 0 (fun _ => True)).1
  have ho : W.ownsRow 0 49 4 (.slice (some ⟨b, 0, none⟩) l.length l.length) l.length (l.flatMap attrC) :=
    ⟨hf, .inr ⟨b, l.length, _, rfl, Nat.zero_le _, h, Nat.le_refl _, by simp only [maxLen]; omega, by simp [hf], by rw [List.take_of_length_le]; simp [hf]⟩⟩
  obtain ⟨A, c, he, _, hC⟩ := attrs_C ho
  injection he with e1
  subst e1
  exact hC
/-! ### the small case -/
def P1 : S47 := ⟨{ data := #[97] }, 6, ⟨1, 5, { data := #[] }⟩⟩
def P2 : S47 := ⟨{ data := #[98] }, 8, ⟨0, 0, { data := #[] }⟩⟩
def L3 : List S41 := [⟨9, 0, [P1, P2]⟩, ⟨4, 0, []⟩, ⟨7, 0, [P1, P1]⟩]
def V5 : S45 := ⟨1, 5, { data := #[] }⟩
def E1 : List S49 := [⟨{ data := #[97] }, V5⟩]
def E2 : List S49 := [⟨{ data := #[97] }, V5⟩, ⟨{ data := #[98] }, V5⟩]
theorem L3ok : EntOk L3 := by
  refine ⟨by decide, by decide +kernel, fun e he p hp => ?_⟩
  have k1 : KeyOk P1 := ⟨⟨by decide, by decide⟩, ⟨by decide, by decide⟩, by decide⟩
  have k2 : KeyOk P2 := ⟨⟨by decide, by decide⟩, ⟨by decide, by decide⟩, by decide⟩
  simp only [L3, List.mem_cons, List.not_mem_nil, or_false] at he
  rcases he with rfl | rfl | rfl
  · simp only [List.mem_cons, List.not_mem_nil, or_false] at hp
    rcases hp with rfl | rfl <;> assumption
  · cases hp
  · simp only [List.mem_cons, List.not_mem_nil, or_false] at hp
    rcases hp with rfl | rfl <;> assumption
theorem E1ok : ∀ a ∈ E1, AttrOk a := by
  intro a ha
  simp only [E1, List.mem_cons, List.not_mem_nil, or_false] at ha
  subst ha
  exact ⟨by decide, by decide⟩
theorem E2ok : ∀ a ∈ E2, AttrOk a := by
  intro a ha
  simp only [E2, List.mem_cons, List.not_mem_nil, or_false] at ha
  rcases ha with rfl | rfl <;> exact ⟨by decide, by decide⟩
theorem tell1 : tellL L3 E1 = [4, 7] := by decide +kernel
theorem tell2 : tellL L3 E2 = [9, 4, 7] := by decide +kernel
theorem tell0 : tellL L3 [] = [4] := by decide +kernel
theorem keys3 : (keysOf (pairsFrom 0 L3)).length = 2 := by decide +kernel
theorem lay12 (w : World) : k41.C (((((w.alloc (.cells #[.string { data := #[97] }, .int .i64 6, .int .i64 1, .int .i64 5, .string { data := #[] }] 47 (0, 0))).alloc (.cells #[.string { data := #[98] }, .int .i64 8, .int .i64 0, .int .i64 0, .string { data := #[] }] 47 (0, 0))).alloc (.cells #[.string { data := #[97] }, .int .i64 6, .int .i64 1, .int .i64 5, .string { data := #[] }, .string { data := #[98] }, .int .i64 8, .int .i64 0, .int .i64 0, .string { data := #[] }] 47 (0, 0))).alloc (.cells #[.string { data := #[97] }, .int .i64 6, .int .i64 1, .int .i64 5, .string { data := #[] }, .string { data := #[97] }, .int .i64 6, .int .i64 1, .int .i64 5, .string { data := #[] }] 47 (0, 0))).alloc (.cells #[.int .i64 9, .int .i64 0, .slice (some ⟨w.heap.size + 1 + 1, 0, none⟩) 2 2, .int .i64 4, .int .i64 0, .slice none 0 0, .int .i64 7, .int .i64 0, .slice (some ⟨w.heap.size + 1 + 1 + 1, 0, none⟩) 2 2] 41 (0, 0))) (some ⟨w.heap.size + 1 + 1 + 1 + 1, 0, none⟩) 3 L3 ∧ Below w.heap.size w (((((w.alloc (.cells #[.string { data := #[97] }, .int .i64 6, .int .i64 1, .int .i64 5, .string { data := #[] }] 47 (0, 0))).alloc (.cells #[.string { data := #[98] }, .int .i64 8, .int .i64 0, .int .i64 0, .string { data := #[] }] 47 (0, 0))).alloc (.cells #[.string { data := #[97] }, .int .i64 6, .int .i64 1, .int .i64 5, .string { data := #[] }, .string { data := #[98] }, .int .i64 8, .int .i64 0, .int .i64 0, .string { data := #[] }] 47 (0, 0))).alloc (.cells #[.string { data := #[97] }, .int .i64 6, .int .i64 1, .int .i64 5, .string { data := #[] }, .string { data := #[97] }, .int .i64 6, .int .i64 1, .int .i64 5, .string { data := #[] }] 47 (0, 0))).alloc (.cells #[.int .i64 9, .int .i64 0, .slice (some ⟨w.heap.size + 1 + 1, 0, none⟩) 2 2, .int .i64 4, .int .i64 0, .slice none 0 0, .int .i64 7, .int .i64 0, .slice (some ⟨w.heap.size + 1 + 1 + 1, 0, none⟩) 2 2] 41 (0, 0))) := by
  have b1 := (Below.refl w.heap.size w).alloc (Nat.le_refl _) (.cells #[.string { data := #[97] }, .int .i64 6, .int .i64 1, .int .i64 5, .string { data := #[] }] 47 (0, 0))
  have b2 := b1.alloc b1.size (.cells #[.string { data := #[98] }, .int .i64 8, .int .i64 0, .int .i64 0, .string { data := #[] }] 47 (0, 0))
  have b3 := b2.alloc b2.size (.cells #[.string { data := #[97] }, .int .i64 6, .int .i64 1, .int .i64 5, .string { data := #[] }, .string { data := #[98] }, .int .i64 8, .int .i64 0, .int .i64 0, .string { data := #[] }] 47 (0, 0))
  have b4 := b3.alloc b3.size (.cells #[.string { data := #[97] }, .int .i64 6, .int .i64 1, .int .i64 5, .string { data := #[] }, .string { data := #[97] }, .int .i64 6, .int .i64 1, .int .i64 5, .string { data := #[] }] 47 (0, 0))
  have b5 := b4.alloc b4.size (.cells #[.int .i64 9, .int .i64 0, .slice (some ⟨w.heap.size + 1 + 1, 0, none⟩) 2 2, .int .i64 4, .int .i64 0, .slice none 0 0, .int .i64 7, .int .i64 0, .slice (some ⟨w.heap.size + 1 + 1 + 1, 0, none⟩) 2 2] 41 (0, 0))
  have h2 := heap_alloc_new ((w.alloc (.cells #[.string { data := #[97] }, .int .i64 6, .int .i64 1, .int .i64 5, .string { data := #[] }] 47 (0, 0))).alloc (.cells #[.string { data := #[98] }, .int .i64 8, .int .i64 0, .int .i64 0, .string { data := #[] }] 47 (0, 0))) (.cells #[.string { data := #[97] }, .int .i64 6, .int .i64 1, .int .i64 5, .string { data := #[] }, .string { data := #[98] }, .int .i64 8, .int .i64 0, .int .i64 0, .string { data := #[] }] 47 (0, 0))
  rw [World.size_alloc, World.size_alloc] at h2
  have h3 := heap_alloc_new (((w.alloc (.cells #[.string { data := #[97] }, .int .i64 6, .int .i64 1, .int .i64 5, .string { data := #[] }] 47 (0, 0))).alloc (.cells #[.string { data := #[98] }, .int .i64 8, .int .i64 0, .int .i64 0, .string { data := #[] }] 47 (0, 0))).alloc (.cells #[.string { data := #[97] }, .int .i64 6, .int .i64 1, .int .i64 5, .string { data := #[] }, .string { data := #[98] }, .int .i64 8, .int .i64 0, .int .i64 0, .string { data := #[] }] 47 (0, 0))) (.cells #[.string { data := #[97] }, .int .i64 6, .int .i64 1, .int .i64 5, .string { data := #[] }, .string { data := #[97] }, .int .i64 6, .int .i64 1, .int .i64 5, .string { data := #[] }] 47 (0, 0))
  rw [World.size_alloc, World.size_alloc, World.size_alloc] at h3
  have h4 := heap_alloc_new ((((w.alloc (.cells #[.string { data := #[97] }, .int .i64 6, .int .i64 1, .int .i64 5, .string { data := #[] }] 47 (0, 0))).alloc (.cells #[.string { data := #[98] }, .int .i64 8, .int .i64 0, .int .i64 0, .string { data := #[] }] 47 (0, 0))).alloc (.cells #[.string { data := #[97] }, .int .i64 6, .int .i64 1, .int .i64 5, .string { data := #[] }, .string { data := #[98] }, .int .i64 8, .int .i64 0, .int .i64 0, .string { data := #[] }] 47 (0, 0))).alloc (.cells #[.string { data := #[97] }, .int .i64 6, .int .i64 1, .int .i64 5, .string { data := #[] }, .string { data := #[97] }, .int .i64 6, .int .i64 1, .int .i64 5, .string { data := #[] }] 47 (0, 0))) (.cells #[.int .i64 9, .int .i64 0, .slice (some ⟨w.heap.size + 1 + 1, 0, none⟩) 2 2, .int .i64 4, .int .i64 0, .slice none 0 0, .int .i64 7, .int .i64 0, .slice (some ⟨w.heap.size + 1 + 1 + 1, 0, none⟩) 2 2] 41 (0, 0))
  rw [World.size_alloc, World.size_alloc, World.size_alloc, World.size_alloc] at h4
  have k2 := vkeepE (vkeepE h2 ((Below.refl _ _).alloc (Nat.le_refl _) (.cells #[.string { data := #[97] }, .int .i64 6, .int .i64 1, .int .i64 5, .string { data := #[] }, .string { data := #[97] }, .int .i64 6, .int .i64 1, .int .i64 5, .string { data := #[] }] 47 (0, 0)))) ((Below.refl _ _).alloc (Nat.le_refl _) (.cells #[.int .i64 9, .int .i64 0, .slice (some ⟨w.heap.size + 1 + 1, 0, none⟩) 2 2, .int .i64 4, .int .i64 0, .slice none 0 0, .int .i64 7, .int .i64 0, .slice (some ⟨w.heap.size + 1 + 1 + 1, 0, none⟩) 2 2] 41 (0, 0)))
  have k3 := vkeepE h3 ((Below.refl _ _).alloc (Nat.le_refl _) (.cells #[.int .i64 9, .int .i64 0, .slice (some ⟨w.heap.size + 1 + 1, 0, none⟩) 2 2, .int .i64 4, .int .i64 0, .slice none 0 0, .int .i64 7, .int .i64 0, .slice (some ⟨w.heap.size + 1 + 1 + 1, 0, none⟩) 2 2] 41 (0, 0)))
  have c2 := preds_lit [P1, P2] k2 (by decide)
  have c3 := preds_lit [P1, P1] k3 (by decide)
  clear h2 h3 k2 k3 b1 b2 b3 b4
  generalize (((((w.alloc (.cells #[.string { data := #[97] }, .int .i64 6, .int .i64 1, .int .i64 5, .string { data := #[] }] 47 (0, 0))).alloc (.cells #[.string { data := #[98] }, .int .i64 8, .int .i64 0, .int .i64 0, .string { data := #[] }] 47 (0, 0))).alloc (.cells #[.string { data := #[97] }, .int .i64 6, .int .i64 1, .int .i64 5, .string { data := #[] }, .string { data := #[98] }, .int .i64 8, .int .i64 0, .int .i64 0, .string { data := #[] }] 47 (0, 0))).alloc (.cells #[.string { data := #[97] }, .int .i64 6, .int .i64 1, .int .i64 5, .string { data := #[] }, .string { data := #[97] }, .int .i64 6, .int .i64 1, .int .i64 5, .string { data := #[] }] 47 (0, 0))).alloc (.cells #[.int .i64 9, .int .i64 0, .slice (some ⟨w.heap.size + 1 + 1, 0, none⟩) 2 2, .int .i64 4, .int .i64 0, .slice none 0 0, .int .i64 7, .int .i64 0, .slice (some ⟨w.heap.size + 1 + 1 + 1, 0, none⟩) 2 2] 41 (0, 0))) = W at h4 c2 c3 b5 ⊢
  refine ⟨⟨rfl, by decide, fun _ => ⟨_, rfl, fun j p hj => ?_⟩⟩, b5⟩
  have hj3 : j < 3 := (List.getElem?_eq_some_iff.1 hj).1
  match j, hj3 with
  | 0, _ =>
    simp only [L3, List.getElem?_cons_zero, Option.some.injEq] at hj
    subst hj
    refine ⟨[.int .i64 9, .int .i64 0, .slice (some ⟨w.heap.size + 1 + 1, 0, none⟩) 2 2], rfl, k41_mk W ⟨9, 0, [P1, P2]⟩ (c2 := 2) (Nat.le_refl _) c2, fun i u hu => ?_⟩
    rw [add_plain, cell_of_row _ _ _ _ _ _ h4]
    match i with
    | 0 => exact hu
    | 1 => exact hu
    | 2 => exact hu
    | i + 3 => simp at hu
  | 1, _ =>
    simp only [L3, List.getElem?_cons_succ, List.getElem?_cons_zero, Option.some.injEq] at hj
    subst hj
    refine ⟨[.int .i64 4, .int .i64 0, .slice none 0 0], rfl, k41_mk W ⟨4, 0, []⟩ (c2 := 0) (Nat.le_refl _) (Kd.C_nil _ _), fun i u hu => ?_⟩
    rw [add_plain, cell_of_row _ _ _ _ _ _ h4]
    match i with
    | 0 => exact hu
    | 1 => exact hu
    | 2 => exact hu
    | i + 3 => simp at hu
  | 2, _ =>
    simp only [L3, List.getElem?_cons_succ, List.getElem?_cons_zero, Option.some.injEq] at hj
    subst hj
    refine ⟨[.int .i64 7, .int .i64 0, .slice (some ⟨w.heap.size + 1 + 1 + 1, 0, none⟩) 2 2], rfl, k41_mk W ⟨7, 0, [P1, P1]⟩ (c2 := 2) (Nat.le_refl _) c3, fun i u hu => ?_⟩
    rw [add_plain, cell_of_row _ _ _ _ _ _ h4]
    match i with
    | 0 => exact hu
    | 1 => exact hu
    | 2 => exact hu
    | i + 3 => simp at hu
theorem ixq_below {w W : World} {fs : List (Nat × Obj)} {q : List (Int × S47)} {ids needs : List Int} (h : IxQ w W fs q ids needs) : Below w.heap.size w W := by
  obtain ⟨v, h⟩ := h.ex
  exact h.below
theorem drawn_belowI {w W : World} (h : Drawn0 w W) : Below w.heap.size w W := by
  obtain ⟨n, rfl⟩ := h
  exact pw_below_drewN (Below.refl _ _) n
set_option maxRecDepth 100000 in
set_option maxHeartbeats 8000000 in
theorem small_any (w : World) : Calls Try.prog 8 #[] w fun e w' => e = .returned (.bool true) ∧ Below w.heap.size w w' := by
  obtain ⟨hL, hB⟩ := lay12 w
  have HL := Aside0.mk hL
  have HB := Aside0.mk hB
  clear hL hB
  go_enter Try.func8, Try.ntmps8
  go_upto_region 4 with fail
  generalize (((((w.alloc (.cells #[.string { data := #[97] }, .int .i64 6, .int .i64 1, .int .i64 5, .string { data := #[] }] 47 (0, 0))).alloc (.cells #[.string { data := #[98] }, .int .i64 8, .int .i64 0, .int .i64 0, .string { data := #[] }] 47 (0, 0))).alloc (.cells #[.string { data := #[97] }, .int .i64 6, .int .i64 1, .int .i64 5, .string { data := #[] }, .string { data := #[98] }, .int .i64 8, .int .i64 0, .int .i64 0, .string { data := #[] }] 47 (0, 0))).alloc (.cells #[.string { data := #[97] }, .int .i64 6, .int .i64 1, .int .i64 5, .string { data := #[] }, .string { data := #[97] }, .int .i64 6, .int .i64 1, .int .i64 5, .string { data := #[] }] 47 (0, 0))).alloc (.cells #[.int .i64 9, .int .i64 0, .slice (some ⟨w.heap.size + 1 + 1, 0, none⟩) 2 2, .int .i64 4, .int .i64 0, .slice none 0 0, .int .i64 7, .int .i64 0, .slice (some ⟨w.heap.size + 1 + 1 + 1, 0, none⟩) 2 2] 41 (0, 0))) = w1 at HL HB ⊢
  go_wp2_with fail
  refine (wbuild2 (some ⟨w.heap.size + 1 + 1 + 1 + 1, 0, none⟩) 3 L3 w1 HL.out (by decide) L3ok).mono ?_
  rintro e w2 ⟨rfl, hQ⟩
  have HQ := Aside0.mk hQ
  have HB2 := Aside0.mk (HB.out.trans ((ixq_below hQ).mono HB.out.size))
  clear hQ HL HB
  go_upto_region 8 with fail
  obtain ⟨w3, hw3⟩ : ∃ x, x = w2.alloc (.cells #[.int .i64 1, .int .i64 5, .string { data := #[] }] 45 (0, 0)) := ⟨_, rfl⟩
  have HV := Aside0.mk (heap_alloc_new w2 (.cells #[.int .i64 1, .int .i64 5, .string { data := #[] }] 45 (0, 0)))
  have hX := (Below.refl w2.heap.size w2).alloc (Nat.le_refl _) (.cells #[.int .i64 1, .int .i64 5, .string { data := #[] }] 45 (0, 0))
  rw [← hw3] at HV hX ⊢
  clear hw3
  have HQ3 := Aside0.mk (HQ.out.step hX)
  have HB3 := Aside0.mk (HB2.out.trans (hX.mono HB2.out.size))
  have HV3 := HV
  clear hX HQ HB2 HV
  generalize w2.heap.size = vb at HV3 ⊢
  obtain ⟨⟨v0, v1, v2⟩, v3, v4, v5⟩ := cells3x HV3.out
  go_wp2_with fail
  clear v0 v1 v2 v3 v4 v5
  have hX := (Below.refl w3.heap.size w3).alloc (Nat.le_refl _) (.cells #[.string { data := #[97] }, .int .i64 1, .int .i64 5, .string { data := #[] }] 49 (0, 0))
  have HE := Aside0.mk (attrs_lit E1 (heap_alloc_new w3 (.cells #[.string { data := #[97] }, .int .i64 1, .int .i64 5, .string { data := #[] }] 49 (0, 0))) (by decide))
  have HQ4 := Aside0.mk (HQ3.out.step hX)
  have HV4 := Aside0.mk (vkeepE HV3.out hX)
  have HB4 := Aside0.mk (HB3.out.trans ((hX).mono HB3.out.size))
  clear HQ3 HV3 HB3
  clear hX
  refine (lmeet L3 L3ok (some ⟨w3.heap.size, 0, none⟩) 1 E1 1 rfl [4, 7] tell1 _ HQ4.out HE.out (by decide) (by decide) E1ok).mono ?_
  rintro e w5 ⟨A4, c4, rfl, hc, hC, hX⟩
  have HQ5 := Aside0.mk (HQ4.out.step hX)
  have HV5 := Aside0.mk (vkeepE HV4.out hX)
  have HB5 := Aside0.mk (HB4.out.trans ((hX).mono HB4.out.size))
  clear HQ4 HV4 HB4
  have HC := Aside0.mk hC
  have HCL := Aside0.mk hc
  clear hX hC hc
  clear HE
  have hX := (Below.refl w5.heap.size w5).alloc (Nat.le_refl _) (.cells #[.int .i64 4, .int .i64 7] 3 (0, 0))
  have HR := Aside0.mk (lit_C w5 3 .i64 [4, 7] (by decide))
  have HC2 := Aside0.mk (Kd.C_below HC.out hX)
  have HQ6 := Aside0.mk (HQ5.out.step hX)
  have HV6 := Aside0.mk (vkeepE HV5.out hX)
  have HB6 := Aside0.mk (HB5.out.trans ((hX).mono HB5.out.size))
  clear HQ5 HV5 HB5
  clear hX HC
  go_wp2_with fail
  refine (rosetteref11_Ints.calls 9 A4 c4 [4, 7] (some ⟨w5.heap.size, 0, none⟩) 2 [4, 7] true _ HC2.out HCL.out HR.out (by decide) (by decide +kernel)).mono ?_
  rintro e w7 ⟨rfl, hD⟩
  have hX := drawn_belowI hD
  have HQ7 := Aside0.mk (HQ6.out.step hX)
  have HV7 := Aside0.mk (vkeepE HV6.out hX)
  have HB7 := Aside0.mk (HB6.out.trans ((hX).mono HB6.out.size))
  clear HQ6 HV6 HB6
  clear hX hD HC2 HR HCL
  obtain ⟨⟨v0, v1, v2⟩, v3, v4, v5⟩ := cells3x HV7.out
  go_wp2_with fail
  clear v0 v1 v2 v3 v4 v5
  have hX := (Below.refl w7.heap.size w7).alloc (Nat.le_refl _) (.cells #[.string { data := #[97] }, .int .i64 1, .int .i64 5, .string { data := #[] }, .string { data := #[98] }, .int .i64 1, .int .i64 5, .string { data := #[] }] 49 (0, 0))
  have HE := Aside0.mk (attrs_lit E2 (heap_alloc_new w7 (.cells #[.string { data := #[97] }, .int .i64 1, .int .i64 5, .string { data := #[] }, .string { data := #[98] }, .int .i64 1, .int .i64 5, .string { data := #[] }] 49 (0, 0))) (by decide))
  have HQ8 := Aside0.mk (HQ7.out.step hX)
  have HV8 := Aside0.mk (vkeepE HV7.out hX)
  have HB8 := Aside0.mk (HB7.out.trans ((hX).mono HB7.out.size))
  clear HQ7 HV7 HB7
  clear hX
  refine (lmeet L3 L3ok (some ⟨w7.heap.size, 0, none⟩) 2 E2 2 rfl [9, 4, 7] tell2 _ HQ8.out HE.out (by decide) (by decide) E2ok).mono ?_
  rintro e w9 ⟨A8, c8, rfl, hc, hC, hX⟩
  have HQ9 := Aside0.mk (HQ8.out.step hX)
  have HV9 := Aside0.mk (vkeepE HV8.out hX)
  have HB9 := Aside0.mk (HB8.out.trans ((hX).mono HB8.out.size))
  clear HQ8 HV8 HB8
  have HC := Aside0.mk hC
  have HCL := Aside0.mk hc
  clear hX hC hc
  clear HE
  have hX := (Below.refl w9.heap.size w9).alloc (Nat.le_refl _) (.cells #[.int .i64 9, .int .i64 4, .int .i64 7] 3 (0, 0))
  have HR := Aside0.mk (lit_C w9 3 .i64 [9, 4, 7] (by decide))
  have HC2 := Aside0.mk (Kd.C_below HC.out hX)
  have HQ10 := Aside0.mk (HQ9.out.step hX)
  have HV10 := Aside0.mk (vkeepE HV9.out hX)
  have HB10 := Aside0.mk (HB9.out.trans ((hX).mono HB9.out.size))
  clear HQ9 HV9 HB9
  clear hX HC
  go_wp2_with fail
  refine (rosetteref11_Ints.calls 9 A8 c8 [9, 4, 7] (some ⟨w9.heap.size, 0, none⟩) 3 [9, 4, 7] true _ HC2.out HCL.out HR.out (by decide) (by decide +kernel)).mono ?_
  rintro e w11 ⟨rfl, hD⟩
  have hX := drawn_belowI hD
  have HQ11 := Aside0.mk (HQ10.out.step hX)
  have HV11 := Aside0.mk (vkeepE HV10.out hX)
  have HB11 := Aside0.mk (HB10.out.trans ((hX).mono HB10.out.size))
  clear HQ10 HV10 HB10
  clear hX hD HC2 HR HCL
  obtain ⟨⟨v0, v1, v2⟩, v3, v4, v5⟩ := cells3x HV11.out
  go_wp2_with fail
  clear v0 v1 v2 v3 v4 v5
  refine (lmeet L3 L3ok none 0 [] 0 rfl [4] tell0 w11 HQ11.out (Kd.C_nil _ _) (by decide) (by decide) (fun a ha => by cases ha)).mono ?_
  rintro e w12 ⟨A11, c11, rfl, hc, hC, hX⟩
  have HQ12 := Aside0.mk (HQ11.out.step hX)
  have HV12 := Aside0.mk (vkeepE HV11.out hX)
  have HB12 := Aside0.mk (HB11.out.trans ((hX).mono HB11.out.size))
  clear HQ11 HV11 HB11
  have HC := Aside0.mk hC
  have HCL := Aside0.mk hc
  clear hX hC hc
  have hX := (Below.refl w12.heap.size w12).alloc (Nat.le_refl _) (.cells #[.int .i64 4] 3 (0, 0))
  have HR := Aside0.mk (lit_C w12 3 .i64 [4] (by decide))
  have HC2 := Aside0.mk (Kd.C_below HC.out hX)
  have HQ13 := Aside0.mk (HQ12.out.step hX)
  have HV13 := Aside0.mk (vkeepE HV12.out hX)
  have HB13 := Aside0.mk (HB12.out.trans ((hX).mono HB12.out.size))
  clear HQ12 HV12 HB12
  clear hX HC
  go_wp2_with fail
  refine (rosetteref11_Ints.calls 9 A11 c11 [4] (some ⟨w12.heap.size, 0, none⟩) 1 [4] true _ HC2.out HCL.out HR.out (by decide) (by decide +kernel)).mono ?_
  rintro e w14 ⟨rfl, hD⟩
  have hX := drawn_belowI hD
  have HQ14 := Aside0.mk (HQ13.out.step hX)
  have HV14 := Aside0.mk (vkeepE HV13.out hX)
  have HB14 := Aside0.mk (HB13.out.trans ((hX).mono HB13.out.size))
  clear HQ13 HV13 HB13
  clear hX hD HC2 HR HCL
  go_wp2_with fail
  have hs := wsize HQ14.out
  rw [keys3] at hs
  refine hs.mono ?_
  clear hs
  rintro e w15 ⟨rfl, hw⟩
  subst hw
  go_wp2_with fail
  go_ret
  exact ⟨rfl, HB14.out⟩
end Go.Proofs.Ytbcnknmgljdmlaa
end

section
/- an index tells what is told by asking filter by filter; plain laws -/
set_option linter.unusedVariables false
set_option linter.unusedSimpArgs false
set_option autoImplicit false
namespace Go.Proofs.Ytbcnknmgljdmlaa
open Go Go.RowKit Go.Proofs.YtbcnknmgljdmlaaW.PrintWords Go.Proofs.YtbcnknmgljdmlaaW.PrintLast Go.Proofs.Ytbcnknmgljdmlaa.G

def metB (p : S47) : List S49 → Bool
  | [] => false
  | a :: e => if a.f0 = p.f0 then hbI p a.f1 else metB p e
def metF (f : List S47) (e : List S49) : Bool := f.all fun p => metB p e
def tellF (l : List S41) (e : List S49) : List Int := (l.filter fun en => metF en.f2 e).map (·.f0)

/-! ### the counts -/
theorem rd_set (c : List Int) (j i : Nat) (v : Int) (hj : j < c.length) : rd (c.set j v) (i : Int) = if j = i then v else rd c (i : Int) := by
  simp only [rd, Int.toNat_natCast, List.getD_eq_getElem?_getD, List.getElem?_set]
  by_cases h : j = i
  · subst h; simp [hj]
  · simp [h]
theorem rd_incs (ks : List Int) : ∀ (c : List Int) (i : Nat), (∀ k ∈ ks, 0 ≤ k ∧ k < (c.length : Int)) → rd (incs c ks) (i : Int) = rd c (i : Int) + (ks.count (i : Int) : Nat) := by
  induction ks with
  | nil => intro c i _; simp [incs]
  | cons k ks ih =>
    intro c i h
    have hk := h k (by simp)
    have h1 : incs c (k :: ks) = incs (c.set k.toNat (rd c k + 1)) ks := rfl
    rw [h1, ih _ i (fun x hx => by rw [List.length_set]; exact h x (by simp [hx])), rd_set _ _ _ _ (by omega), List.count_cons]
    by_cases he : k.toNat = i
    · have hki : k = (i : Int) := by omega
      rw [if_pos he, hki]
      simp
      omega
    · have hki : ¬ k = (i : Int) := by omega
      rw [if_neg he]
      simp [hki]
theorem occ_count (q : List (Int × S47)) (p : S47) (i : Int) : (occ q p).count i = q.countP fun x => decide (x.1 = i ∧ x.2 = p) := by
  induction q with
  | nil => rfl
  | cons x q ih =>
    rw [List.countP_cons, ← ih]
    unfold occ
    rw [List.filter_cons]
    by_cases h : x.2 = p
    · rw [if_pos (by simpa using h), List.map_cons, List.count_cons]
      by_cases h2 : x.1 = i <;> simp [h, h2]
    · rw [if_neg (by simpa using h)]
      simp [h]
theorem sum_one {ks : List S47} (hn : ks.Nodup) (y : S47) (hy : y ∈ ks) (g : S47 → Bool) (b : Bool) : (ks.map fun p => if g p = true then (if b = true ∧ y = p then 1 else 0) else 0).sum = if b = true ∧ g y = true then 1 else 0 := by
  induction ks with
  | nil => cases hy
  | cons a ks ih =>
    obtain ⟨h1, h2⟩ := List.nodup_cons.1 hn
    rw [List.map_cons, List.sum_cons]
    by_cases e : y = a
    · subst e
      have hz : (ks.map fun p => if g p = true then (if b = true ∧ y = p then 1 else 0) else 0).sum = 0 := by
        have : ks.map (fun p => if g p = true then (if b = true ∧ y = p then 1 else 0) else 0) = ks.map fun _ => 0 := List.map_congr_left fun p hp => by
          have : ¬ y = p := fun e => h1 (e ▸ hp)
          simp [this]
        rw [this]
        clear this ih h1 h2 hn hy
        induction ks with
        | nil => rfl
        | cons _ _ ih => simpa using ih
      rw [hz]
      cases b <;> cases g y <;> simp
    · have hm : y ∈ ks := by
        rcases List.mem_cons.1 hy with h | h
        · exact absurd h e
        · exact h
      rw [ih h2 hm]
      simp [e]
theorem sum_zero {α : Type} (ks : List α) : (ks.map fun _ => 0).sum = 0 := by
  induction ks with
  | nil => rfl
  | cons _ _ ih => simpa using ih
theorem sum_add {α : Type} (ks : List α) (f g : α → Nat) : (ks.map fun p => f p + g p).sum = (ks.map f).sum + (ks.map g).sum := by
  induction ks with
  | nil => rfl
  | cons a ks ih => simp only [List.map_cons, List.sum_cons, ih]; omega
theorem sum_keys {ks : List S47} (hn : ks.Nodup) (g : S47 → Bool) (i : Int) : ∀ (q : List (Int × S47)), (∀ x ∈ q, x.2 ∈ ks) →
    (ks.map fun p => if g p = true then q.countP (fun x => decide (x.1 = i ∧ x.2 = p)) else 0).sum = q.countP fun x => decide (x.1 = i) && g x.2 := by
  intro q
  induction q with
  | nil => intro _; simp [sum_zero]
  | cons x q ih =>
    intro h
    have h1 := sum_one hn x.2 (h x (by simp)) g (decide (x.1 = i))
    have h2 := ih fun y hy => h y (by simp [hy])
    have : (ks.map fun p => if g p = true then (x :: q).countP (fun x => decide (x.1 = i ∧ x.2 = p)) else 0) = ks.map fun p => (if g p = true then q.countP (fun x => decide (x.1 = i ∧ x.2 = p)) else 0) + (if g p = true then (if decide (x.1 = i) = true ∧ x.2 = p then 1 else 0) else 0) := by
      refine List.map_congr_left fun p _ => ?_
      rw [List.countP_cons]
      by_cases hg : g p = true
      · rw [if_pos hg, if_pos hg, if_pos hg]
        simp
      · rw [if_neg hg, if_neg hg, if_neg hg]
    rw [this, sum_add, h2, h1, List.countP_cons]
    simp
theorem rd_cntA (q : List (Int × S47)) (v : S45) (i : Nat) : ∀ (ns : List S47) (c : List Int), (∀ p ∈ ns, ∀ k ∈ occ q p, 0 ≤ k ∧ k < (c.length : Int)) →
    rd (ns.foldl (cntP hbI q v) c) (i : Int) = rd c (i : Int) + ((ns.map fun p => if hbI p v = true then q.countP (fun x => decide (x.1 = (i : Int) ∧ x.2 = p)) else 0).sum : Nat) := by
  intro ns
  induction ns with
  | nil => intro c _; simp
  | cons p ns ih =>
    intro c h
    rw [List.foldl_cons, ih _ (fun x hx => by rw [cntP_len]; exact h x (by simp [hx])), List.map_cons, List.sum_cons]
    unfold cntP
    by_cases hb : hbI p v = true
    · rw [if_pos hb, if_pos hb, rd_incs _ _ _ (h p (by simp)), occ_count]
      omega
    · rw [if_neg hb, if_neg hb]
      omega
theorem sum_filter (ks : List S47) (r : S47 → Bool) (f : S47 → Nat) : ((ks.filter r).map f).sum = (ks.map fun p => if r p = true then f p else 0).sum := by
  induction ks with
  | nil => rfl
  | cons a ks ih =>
    rw [List.filter_cons]
    by_cases h : r a = true
    · rw [if_pos h]; simp [h, ih]
    · rw [if_neg h]; simp [h, ih]
theorem keys_nodup (q : List (Int × S47)) : (keysOf q).Nodup := by
  have h : ∀ (l : List (Int × S47)) (ks : List S47), ks.Nodup → (l.foldl (fun ks x => addK ks x.2) ks).Nodup := by
    intro l
    induction l with
    | nil => intro ks h; exact h
    | cons x l ih => intro ks h; exact ih _ (addK_nodup h _)
  exact h q [] List.nodup_nil
theorem keys_mem {q : List (Int × S47)} {x : Int × S47} (h : x ∈ q) : x.2 ∈ keysOf q := by
  have hg : ∀ (l : List (Int × S47)) (ks : List S47), (x.2 ∈ ks ∨ x ∈ l) → x.2 ∈ l.foldl (fun ks x => addK ks x.2) ks := by
    intro l
    induction l with
    | nil => intro ks h; rcases h with h | h; exact h; cases h
    | cons y l ih =>
      intro ks h
      refine ih _ ?_
      rcases h with h | h
      · exact .inl (addK_mem.2 (.inl h))
      · rcases List.mem_cons.1 h with rfl | h
        · exact .inl (addK_mem.2 (.inr rfl))
        · exact .inr h
  exact hg q [] (.inr h)
theorem rd_attr (q : List (Int × S47)) (a : S49) (i : Nat) (c : List Int) (h : ∀ x ∈ q, 0 ≤ x.1 ∧ x.1 < (c.length : Int)) :
    rd (cntA hbI q c a) (i : Int) = rd c (i : Int) + (q.countP (fun x => decide (x.1 = (i : Int)) && (decide (a.f0 = x.2.f0) && hbI x.2 a.f1)) : Nat) := by
  unfold cntA
  rw [rd_cntA q a.f1 i _ c (fun p _ => occ_in h p)]
  congr 2
  unfold named
  rw [sum_filter]
  rw [← sum_keys (keys_nodup q) (fun p => decide (a.f0 = p.f0) && hbI p a.f1) (i : Int) q (fun x hx => keys_mem hx)]
  congr 1
  refine List.map_congr_left fun p _ => ?_
  by_cases h1 : p.f0 = a.f0
  · by_cases h2 : hbI p a.f1 = true <;> simp [h1, h2]
  · have h1' : ¬ a.f0 = p.f0 := fun e => h1 e.symm
    simp [h1, h1']
theorem met_none {p : S47} : ∀ {e : List S49}, p.f0 ∉ e.map (·.f0) → metB p e = false := by
  intro e
  induction e with
  | nil => intro _; rfl
  | cons a e ih =>
    intro h
    rw [List.map_cons, List.mem_cons, not_or] at h
    rw [metB, if_neg (fun hh => h.1 hh.symm)]
    exact ih h.2
theorem count_met (i : Int) (a : S49) (e : List S49) (hn : a.f0 ∉ e.map (·.f0)) : ∀ q : List (Int × S47),
    q.countP (fun x => decide (x.1 = i) && (decide (a.f0 = x.2.f0) && hbI x.2 a.f1)) + q.countP (fun x => decide (x.1 = i) && metB x.2 e) = q.countP fun x => decide (x.1 = i) && metB x.2 (a :: e) := by
  intro q
  induction q with
  | nil => rfl
  | cons x q ih =>
    rw [List.countP_cons, List.countP_cons, List.countP_cons, ← ih]
    by_cases h1 : a.f0 = x.2.f0
    · have hm : metB x.2 e = false := met_none (by rw [← h1]; exact hn)
      rw [show metB x.2 (a :: e) = hbI x.2 a.f1 by rw [metB, if_pos h1], hm]
      simp [h1]
      omega
    · rw [show metB x.2 (a :: e) = metB x.2 e by rw [metB, if_neg h1]]
      simp [h1]
      omega
theorem rd_fold (q : List (Int × S47)) (i : Nat) : ∀ (e : List S49) (c : List Int), (e.map (·.f0)).Nodup → (∀ x ∈ q, 0 ≤ x.1 ∧ x.1 < (c.length : Int)) →
    rd (e.foldl (cntA hbI q) c) (i : Int) = rd c (i : Int) + (q.countP (fun x => decide (x.1 = (i : Int)) && metB x.2 e) : Nat) := by
  intro e
  induction e with
  | nil => intro c _ _; simp [metB]
  | cons a e ih =>
    intro c hn h
    rw [List.map_cons, List.nodup_cons] at hn
    rw [List.foldl_cons, ih _ hn.2 (fun x hx => by rw [cntA_len]; exact h x hx), rd_attr q a i c h, ← count_met (i : Int) a e hn.1 q]
    omega
theorem count_pairs (m : S47 → Bool) : ∀ (l : List S41) (s i : Nat), (pairsFrom s l).countP (fun x => decide (x.1 = ((s + i : Nat) : Int)) && m x.2) = (match l[i]? with | some en => en.f2.countP m | none => 0) := by
  intro l
  induction l with
  | nil => intro s i; simp [pairsFrom]
  | cons en l ih =>
    intro s i
    rw [pairsFrom, List.countP_append, List.countP_map]
    cases i with
    | zero =>
      have h2 : (pairsFrom (s + 1) l).countP (fun x => decide (x.1 = ((s + 0 : Nat) : Int)) && m x.2) = 0 := by
        rw [List.countP_eq_zero]
        intro x hx
        have := (pairs_mem l (s + 1) x hx).1
        have : ¬ x.1 = ((s + 0 : Nat) : Int) := by omega
        simp only [this, decide_false, Bool.false_and]
        decide
      rw [h2]
      simp [Function.comp_def]
    | succ i =>
      have h1 : en.f2.countP ((fun x : Int × S47 => decide (x.1 = ((s + (i + 1) : Nat) : Int)) && m x.2) ∘ fun p => ((s : Int), p)) = 0 := by
        rw [List.countP_eq_zero]
        intro p _
        have : ¬ (s : Int) = ((s + (i + 1) : Nat) : Int) := by omega
        simp only [Function.comp_apply, this, decide_false, Bool.false_and]
        decide
      rw [h1, Nat.zero_add, show s + (i + 1) = s + 1 + i by omega, ih (s + 1) i, List.getElem?_cons_succ]
theorem pick_eq (l : List S41) (e : List S49) (c : List Int) (hc : ∀ i : Nat, ∀ en, l[i]? = some en → rd c (i : Int) = (en.f2.countP (fun p => metB p e) : Nat)) : ∀ k, k ≤ l.length →
    pickI (l.map (·.f0)) (l.map fun e => (e.f2.length : Int)) c k = tellF (l.take k) e := by
  intro k
  induction k with
  | zero => intro _; rfl
  | succ k ih =>
    intro hk
    have hlt : k < l.length := by omega
    have hg : l[k]? = some l[k] := List.getElem?_eq_getElem hlt
    rw [pickI, ih (by omega), List.take_add_one, hg]
    unfold tellF
    rw [List.filter_append, List.map_append]
    congr 1
    have h1 : rd (l.map fun e => (e.f2.length : Int)) (k : Int) = (l[k].f2.length : Int) := by simp [rd, List.getD_eq_getElem?_getD, hlt]
    have h2 : rd (l.map (·.f0)) (k : Int) = l[k].f0 := by simp [rd, List.getD_eq_getElem?_getD, hlt]
    rw [hc k _ hg, h1, h2]
    have hiff : ((l[k].f2.countP (fun p => metB p e) : Nat) : Int) = (l[k].f2.length : Int) ↔ metF l[k].f2 e = true := by
      unfold metF
      rw [List.all_eq_true]
      constructor
      · intro h; exact List.countP_eq_length.1 (by omega)
      · intro h; have := List.countP_eq_length.2 h; omega
    by_cases hm : metF l[k].f2 e = true
    · rw [if_pos (hiff.2 hm)]; simp [hm]
    · rw [if_neg (fun h => hm (hiff.1 h))]; simp [hm]
/-- an index tells what is told by asking filter by filter -/
theorem tell_eq (l : List S41) (e : List S49) (hn : (e.map (·.f0)).Nodup) : tellL l e = tellF l e := by
  unfold tellL meetI
  rw [List.length_map]
  have h := pick_eq l e (meetC hbI (pairsFrom 0 l) l.length e) (fun i en hi => ?_) l.length (Nat.le_refl _)
  · rw [List.take_of_length_le (Nat.le_refl _)] at h
    exact h
  · unfold meetC
    rw [rd_fold (pairsFrom 0 l) i e _ hn (fun x hx => by have := pairs_mem l 0 x hx; rw [List.length_replicate]; omega)]
    have h0 : rd (List.replicate l.length (0 : Int)) (i : Int) = 0 := by
      simp only [rd, Int.toNat_natCast, List.getD_eq_getElem?_getD, List.getElem?_replicate]
      split <;> rfl
    have h1 := count_pairs (fun p => metB p e) l 0 i
    rw [Nat.zero_add, hi] at h1
    rw [h0, h1]
    simp
/-! ### names of a right event are unlike -/
theorem addG_sub (ns : List ByteArray) (l : List S49) : (l.foldl (fun ns x => addG ns x.f0) ns).length ≤ ns.length + l.length := by
  induction l generalizing ns with
  | nil => simp
  | cons x l ih =>
    rw [List.foldl_cons]
    have := ih (addG ns x.f0)
    have h2 : (addG ns x.f0).length ≤ ns.length + 1 := by unfold addG; split <;> simp
    simp only [List.length_cons]
    omega
theorem names_nodup : ∀ (l : List S49) (ns : List ByteArray), ns.Nodup → (l.foldl (fun ns x => addG ns x.f0) ns).length = ns.length + l.length → (l.map (·.f0)).Nodup ∧ ∀ x ∈ l, x.f0 ∉ ns := by
  intro l
  induction l with
  | nil => intro ns _ _; exact ⟨List.nodup_nil, fun x hx => by cases hx⟩
  | cons x l ih =>
    intro ns hn h
    rw [List.foldl_cons] at h
    have h1 := addG_sub (addG ns x.f0) l
    simp only [List.length_cons] at h
    by_cases hm : x.f0 ∈ ns
    · exfalso
      have : (addG ns x.f0).length = ns.length := by unfold addG; rw [if_pos hm]
      omega
    · have hg : addG ns x.f0 = ns ++ [x.f0] := by unfold addG; rw [if_neg hm]
      rw [hg] at h h1
      obtain ⟨h2, h3⟩ := ih (ns ++ [x.f0]) (by rw [List.nodup_append]; exact ⟨hn, by simp, fun a ha b hb => by rw [List.mem_singleton] at hb; subst hb; exact fun e => hm (e ▸ ha)⟩) (by rw [h]; simp; omega)
      refine ⟨?_, fun y hy => ?_⟩
      · rw [List.map_cons, List.nodup_cons]
        refine ⟨fun hmem => ?_, h2⟩
        obtain ⟨y, hy, he⟩ := List.mem_map.1 hmem
        exact h3 y hy (by rw [he]; simp)
      · rcases List.mem_cons.1 hy with rfl | hy
        · exact hm
        · exact fun hh => h3 y hy (by simp [hh])
theorem right_nodup {e : List S49} (h : rightE e = true) : (e.map (·.f0)).Nodup := by
  unfold rightE at h
  simp only [Bool.and_eq_true, Bool.not_eq_true'] at h
  have ht : ¬ (namesD e).length < e.length := by
    intro hh
    have := h.2.2.2
    unfold twiceE at this
    rw [decide_eq_true hh] at this
    cases this
  have h1 := addG_sub [] e
  exact (names_nodup e [] List.nodup_nil (by unfold namesD at ht; simp only [List.length_nil, Nat.zero_add] at h1 ⊢; omega)).1
/-! ### how many predicates there are -/
theorem nodup_len {A : List S47} (hA : A.Nodup) : ∀ {B : List S47}, (∀ x ∈ A, x ∈ B) → A.length ≤ B.length := by
  induction A with
  | nil => intro B _; simp
  | cons a A ih =>
    intro B h
    obtain ⟨h1, h2⟩ := List.nodup_cons.1 hA
    have ha : a ∈ B := h a (by simp)
    have := ih h2 (B := B.erase a) (fun x hx => (List.mem_erase_of_ne (fun (e : x = a) => h1 (e ▸ hx))).2 (h x (by simp [hx])))
    rw [List.length_erase_of_mem ha] at this
    have : 0 < B.length := List.length_pos_of_mem ha
    simp only [List.length_cons]
    omega
def sizeL (l : List S41) : Nat := (keysOf (pairsFrom 0 l)).length
theorem keys_iff (l : List S41) (p : S47) : p ∈ keysOf (pairsFrom 0 l) ↔ ∃ en ∈ l, p ∈ en.f2 := by
  constructor
  · intro h
    obtain ⟨x, hx, rfl⟩ := mem_keys h
    obtain ⟨_, _, en, hen, hp⟩ := pairs_mem l 0 x hx
    exact ⟨en, hen, hp⟩
  · rintro ⟨en, hen, hp⟩
    have hg : ∀ (l : List S41) (s : Nat), en ∈ l → ∃ x ∈ pairsFrom s l, x.2 = p := by
      intro l
      induction l with
      | nil => intro s h; cases h
      | cons e l ih =>
        intro s h
        rw [pairsFrom]
        rcases List.mem_cons.1 h with rfl | h
        · exact ⟨((s : Int), p), List.mem_append_left _ (List.mem_map.2 ⟨p, hp, rfl⟩), rfl⟩
        · obtain ⟨x, hx, he⟩ := ih (s + 1) h
          exact ⟨x, List.mem_append_right _ hx, he⟩
    obtain ⟨x, hx, rfl⟩ := hg l 0 hen
    exact keys_mem hx
theorem size_parts (a b : List S41) : sizeL (a ++ b) ≤ sizeL a + sizeL b := by
  unfold sizeL
  rw [← List.length_append]
  refine nodup_len (keys_nodup _) fun p hp => ?_
  obtain ⟨en, hen, hp⟩ := (keys_iff _ _).1 hp
  rw [List.mem_append]
  rcases List.mem_append.1 hen with h | h
  · exact .inl ((keys_iff _ _).2 ⟨en, h, hp⟩)
  · exact .inr ((keys_iff _ _).2 ⟨en, h, hp⟩)
theorem size_rev (a : List S41) : sizeL a.reverse = sizeL a := by
  unfold sizeL
  apply Nat.le_antisymm
  · exact nodup_len (keys_nodup _) fun p hp => by
      obtain ⟨en, hen, hp⟩ := (keys_iff _ _).1 hp
      exact (keys_iff _ _).2 ⟨en, List.mem_reverse.1 hen, hp⟩
  · exact nodup_len (keys_nodup _) fun p hp => by
      obtain ⟨en, hen, hp⟩ := (keys_iff _ _).1 hp
      exact (keys_iff _ _).2 ⟨en, List.mem_reverse.2 hen, hp⟩
theorem tell_append (a b : List S41) (e : List S49) : tellF (a ++ b) e = tellF a e ++ tellF b e := by unfold tellF; rw [List.filter_append, List.map_append]
theorem tell_rev (a : List S41) (e : List S49) : tellF a.reverse e = (tellF a e).reverse := by unfold tellF; rw [List.filter_reverse, List.map_reverse]
end Go.Proofs.Ytbcnknmgljdmlaa
end

section
-- Written by a program of this session (wip/tools/myprint.py), over the kit's print.
namespace Go.Proofs.Ytbcnknmgljdmlaa.G
open Go.RowKit Go.Proofs.YtbcnknmgljdmlaaW.PrintWords Go.Proofs.YtbcnknmgljdmlaaW.PrintLast Go.Proofs.YtbcnknmgljdmlaaW.PrintMore
attribute [local go_sem] max2_int min2_int max_two min_two max_three min_three max_four min_four   -- for this text's walks alone
set_option linter.unusedVariables false
set_option linter.unusedSimpArgs false

/-! ### rosettelaw09_Few: function 9 -/
mutual
def rosettelaw09_Few.l0 : Nat → List (S41) → Int → Int → Option (Bool)
  | 0, _, _, _ => none
  | k + 1, x0, x3, x4 => if x4 < (x0.length : Int) then (if 0 ≤ x4 then (rosettelaw09_Few.l1 k x0 (wrap64 (x3 + (((rd_T41 x0 x4).f2).length : Int))) x4 0) else (none)) else (if (x0.length : Int) ≤ 80 then (some (decide (x3 ≤ 300))) else (some false))
def rosettelaw09_Few.l1 : Nat → List (S41) → Int → Int → Int → Option (Bool)
  | 0, _, _, _, _ => none
  | k + 1, x0, x3, x4, x5 => if 0 ≤ x4 then (if x4 < (x0.length : Int) then (if x5 < (((rd_T41 x0 x4).f2).length : Int) then (if 0 ≤ x5 then (if (((rd_T47 ((rd_T41 x0 x4).f2) x5).f0).size : Int) > 100 then (some false) else (if (((rd_T47 ((rd_T41 x0 x4).f2) x5).f2.f2).size : Int) > 100 then (some false) else (rosettelaw09_Few.l1 k x0 x3 x4 (wrap64 (x5 + 1))))) else (none)) else (rosettelaw09_Few.l0 k x0 x3 (wrap64 (x4 + 1)))) else (none)) else (none)
end
def rosettelaw09_Few.f (k : Nat) (l0 : List (S41)) : Option (Bool) := rosettelaw09_Few.l0 k l0 0 0
theorem rosettelaw09_Few.mono_l : ∀ k, (∀ y0 y1 y2, LeO (rosettelaw09_Few.l0 k y0 y1 y2) (rosettelaw09_Few.l0 (k + 1) y0 y1 y2)) ∧ (∀ y0 y1 y2 y3, LeO (rosettelaw09_Few.l1 k y0 y1 y2 y3) (rosettelaw09_Few.l1 (k + 1) y0 y1 y2 y3))
  | 0 => ⟨fun _ _ _ r h => by simp [rosettelaw09_Few.l0] at h, fun _ _ _ _ r h => by simp [rosettelaw09_Few.l1] at h⟩
  | k + 1 => by
    obtain ⟨ih0, ih1⟩ := rosettelaw09_Few.mono_l k
    refine ⟨?_, ?_⟩
    · intro y0 y1 y2
      unfold rosettelaw09_Few.l0
      repeat' first
      | (with_reducible exact ih0 _ _ _)
      | (with_reducible exact ih1 _ _ _ _)
      | (with_reducible exact LeO.refl _)
      | (with_reducible exact LeO.none _)
      | (with_reducible refine LeO.ite ?_ ?_)
      | (with_reducible refine LeO.bind ?_ (fun _ => ?_))
      | exact ih0 _ _ _
      | exact ih1 _ _ _ _
      | exact LeO.none _
      | refine LeO.ite ?_ ?_
      | refine LeO.bind ?_ (fun _ => ?_)
    · intro y0 y1 y2 y3
      unfold rosettelaw09_Few.l1
      repeat' first
      | (with_reducible exact ih0 _ _ _)
      | (with_reducible exact ih1 _ _ _ _)
      | (with_reducible exact LeO.refl _)
      | (with_reducible exact LeO.none _)
      | (with_reducible refine LeO.ite ?_ ?_)
      | (with_reducible refine LeO.bind ?_ (fun _ => ?_))
      | exact ih0 _ _ _
      | exact ih1 _ _ _ _
      | exact LeO.none _
      | refine LeO.ite ?_ ?_
      | refine LeO.bind ?_ (fun _ => ?_)
theorem rosettelaw09_Few.mono : ∀ a0 k, LeO (rosettelaw09_Few.f k a0) (rosettelaw09_Few.f (k + 1) a0) := by
  intro a0 k
  obtain ⟨ih0, ih1⟩ := rosettelaw09_Few.mono_l k
  unfold rosettelaw09_Few.f
  repeat' first
      | (with_reducible exact ih0 _ _ _)
      | (with_reducible exact ih1 _ _ _ _)
      | (with_reducible exact LeO.refl _)
      | (with_reducible exact LeO.none _)
      | (with_reducible refine LeO.ite ?_ ?_)
      | (with_reducible refine LeO.bind ?_ (fun _ => ?_))
      | exact ih0 _ _ _
      | exact ih1 _ _ _ _
      | exact LeO.none _
      | refine LeO.ite ?_ ?_
      | refine LeO.bind ?_ (fun _ => ?_)
set_option maxHeartbeats 8000000 in
set_option maxRecDepth 100000 in
theorem rosettelaw09_Few.calls (k : Nat) (A0 : Option Addr) (c0 : Nat) (l0 : List (S41)) (r : Bool) (w : World) (hr0 : Kd.C k41 w A0 l0.length l0) (hc0 : l0.length ≤ c0) (h : rosettelaw09_Few.f k l0 = some r) :
    Calls Try.prog 9 #[.slice A0 l0.length c0] w fun e w' => e = .returned (.bool r) ∧ Below w.heap.size w w' := by
  have hu47 := Try.underlying47
  have HR0 := Aside0.mk hr0
  have HC0 := Aside0.mk hc0
  clear hr0 hc0
  have HB := Aside0.mk (Below.refl w.heap.size w)
  have H : (rosettelaw09_Few.l0 k l0 0 0) = some r := h
  clear h
  have H' := Aside0.mk H
  clear H
  go_enter Try.func9, Try.ntmps9
  go_wp2
  go_loopg [3, 4] k (fun kq v3 v4 w' => ∃ (x3_1 : Int) (x4_1 : Int), v3 = .int .i64 x3_1 ∧ v4 = .int .i64 x4_1 ∧ Aside0 (rosettelaw09_Few.l0 kq l0 x3_1 x4_1 = some r) ∧ Aside0 (kq ≤ k) ∧ Aside0 (Below w.heap.size w w'))
  case atStart => exact ⟨(0), (0), (by first | rfl | (simp; done) | (simp [*]; done)), (by first | rfl | (simp; done) | (simp [*]; done)), H', ⟨Nat.le_refl _⟩, ⟨by repeat (first | (with_reducible first | exact HB.out | apply below_alloc | apply pw_below_drewN | apply below_drew1) | exact HB.out)⟩⟩
  case round =>
    clear H'
    obtain ⟨x3_1, x4_1, rfl, rfl, HA, HK1, HB⟩ := hrel
    cases gk with
    | zero => exact absurd HA.out (by simp [rosettelaw09_Few.l0])
    | succ k1 =>
      have H := HA.out
      clear HA
      simp only [rosettelaw09_Few.l0] at H
      by_cases c2 : x4_1 < (l0.length : Int)
      · rw [if_pos c2] at H
        have c2b0 : decide (x4_1 < (l0.length : Int)) = true := decide_eq_true c2
        clear c2
        by_cases c3 : 0 ≤ x4_1
        · rw [if_pos c3] at H
          have c3b0 : decide (0 ≤ x4_1) = true := decide_eq_true c3
          clear c3
          have H' := Aside0.mk H
          clear H
          have p137 : 0 ≤ (x4_1 : Int) := of_decide_eq_true (by first | (with_reducible assumption) | assumption)
          have q137 : x4_1 < (l0.length : Int) := of_decide_eq_true (by first | (with_reducible assumption) | assumption)
          obtain ⟨ad137, A137_2, c137_2, e137, hx137_0, hx137_1, hx137_2, hl137_2, hi137_2⟩ := at_T41 HR0.out x4_1 p137 q137
          cases e137
          replace hx137_0 := (HB.out.cell (World.block_lt_of_cell? w _ hx137_0)).trans hx137_0
          replace hx137_1 := (HB.out.cell (World.block_lt_of_cell? w _ hx137_1)).trans hx137_1
          replace hx137_2 := (HB.out.cell (World.block_lt_of_cell? w _ hx137_2)).trans hx137_2
          have HR137_2 := Aside0.mk hi137_2
          have HC137_2 := Aside0.mk hl137_2
          clear hi137_2 hl137_2
          replace p137 := eq_true p137
          replace q137 := eq_true q137
          go_wp2
          go_loopg [5] k1 (fun kq v5 w' => ∃ (x5_2 : Int), v5 = .int .i64 x5_2 ∧ Aside0 (rosettelaw09_Few.l1 kq l0 (wrap64 (x3_1 + (((rd_T41 l0 x4_1).f2).length : Int))) x4_1 x5_2 = some r) ∧ Aside0 (kq ≤ k1) ∧ Aside0 (Below w.heap.size w w'))
          case atStart => exact ⟨(0), (by first | rfl | (simp; done) | (simp [*]; done)), H', ⟨Nat.le_refl _⟩, ⟨by repeat (first | (with_reducible first | exact HB.out | apply below_alloc | apply pw_below_drewN | apply below_drew1) | exact HB.out)⟩⟩
          case round =>
            clear H'
            try clear c1
            try clear p1
            try clear q1
            try clear hx1
            try clear c2
            try clear c2b0
            try clear p2
            try clear c3
            try clear c3b0
            try clear hx137_0
            try clear hx137_1
            try clear hx137_2
            try clear p137
            try clear q137
            obtain ⟨x5_2, rfl, HA, HK2, HB⟩ := hrel
            cases gk with
            | zero => exact absurd HA.out (by simp [rosettelaw09_Few.l1])
            | succ k2 =>
              have H := HA.out
              clear HA
              simp only [rosettelaw09_Few.l1] at H
              by_cases c4 : 0 ≤ x4_1
              · rw [if_pos c4] at H
                have c4b0 : decide (0 ≤ x4_1) = true := decide_eq_true c4
                clear c4
                by_cases c5 : x4_1 < (l0.length : Int)
                · rw [if_pos c5] at H
                  have c5b0 : decide (x4_1 < (l0.length : Int)) = true := decide_eq_true c5
                  clear c5
                  by_cases c6 : x5_2 < (((rd_T41 l0 x4_1).f2).length : Int)
                  · rw [if_pos c6] at H
                    have c6b0 : decide (x5_2 < (((rd_T41 l0 x4_1).f2).length : Int)) = true := decide_eq_true c6
                    clear c6
                    by_cases c7 : 0 ≤ x5_2
                    · rw [if_pos c7] at H
                      have c7b0 : decide (0 ≤ x5_2) = true := decide_eq_true c7
                      clear c7
                      by_cases c8 : (((rd_T47 ((rd_T41 l0 x4_1).f2) x5_2).f0).size : Int) > 100
                      · rw [if_pos c8] at H
                        have c8b0 : decide (100 < (((rd_T47 ((rd_T41 l0 x4_1).f2) x5_2).f0).size : Int)) = true := decide_eq_true c8
                        have c8b1 : decide (100 < ((rd_T47 ((rd_T41 l0 x4_1).f2) x5_2).f0).size) = true := decide_eq_true (by omega)
                        clear c8
                        obtain rfl := Option.some.inj H
                        have p138 : 0 ≤ (x4_1 : Int) := of_decide_eq_true (by first | (with_reducible assumption) | assumption)
                        have q138 : x4_1 < (l0.length : Int) := of_decide_eq_true (by first | (with_reducible assumption) | assumption)
                        obtain ⟨ad138, A138_2, c138_2, e138, hx138_0, hx138_1, hx138_2, hl138_2, hi138_2⟩ := at_T41 HR0.out x4_1 p138 q138
                        obtain rfl : ad137 = ad138 := (by injection e138)
                        replace hx138_0 := (HB.out.cell (World.block_lt_of_cell? w _ hx138_0)).trans hx138_0
                        replace hx138_1 := (HB.out.cell (World.block_lt_of_cell? w _ hx138_1)).trans hx138_1
                        replace hx138_2 := (HB.out.cell (World.block_lt_of_cell? w _ hx138_2)).trans hx138_2
                        have HR138_2 := Aside0.mk hi138_2
                        have HC138_2 := Aside0.mk hl138_2
                        clear hi138_2 hl138_2
                        replace p138 := eq_true p138
                        replace q138 := eq_true q138
                        have p139 : 0 ≤ (x4_1 : Int) := of_decide_eq_true (by first | (with_reducible assumption) | assumption)
                        have q139 : x4_1 < (l0.length : Int) := of_decide_eq_true (by first | (with_reducible assumption) | assumption)
                        obtain ⟨ad139, A139_2, c139_2, e139, hx139_0, hx139_1, hx139_2, hl139_2, hi139_2⟩ := at_T41 HR0.out x4_1 p139 q139
                        obtain rfl : ad137 = ad139 := (by injection e139)
                        replace hx139_0 := (HB.out.cell (World.block_lt_of_cell? w _ hx139_0)).trans hx139_0
                        replace hx139_1 := (HB.out.cell (World.block_lt_of_cell? w _ hx139_1)).trans hx139_1
                        replace hx139_2 := (HB.out.cell (World.block_lt_of_cell? w _ hx139_2)).trans hx139_2
                        have HR139_2 := Aside0.mk hi139_2
                        have HC139_2 := Aside0.mk hl139_2
                        clear hi139_2 hl139_2
                        replace p139 := eq_true p139
                        replace q139 := eq_true q139
                        have ea_ := Option.some.inj (hx138_2.symm.trans hx139_2)
                        injection ea_ with ea_ en_ ec_
                        subst ea_
                        subst ec_
                        clear en_
                        have p140 : 0 ≤ (x5_2 : Int) := of_decide_eq_true (by first | (with_reducible assumption) | assumption)
                        have q140 : x5_2 < (((rd_T41 l0 x4_1).f2).length : Int) := of_decide_eq_true (by first | (with_reducible assumption) | assumption)
                        obtain ⟨ad140, e140, hx140_0, hx140_1, hx140_2, hx140_3, hx140_4⟩ := at_T47 HR139_2.out x5_2 p140 q140
                        cases e140
                        replace hx140_0 := (HB.out.cell (World.block_lt_of_cell? w _ hx140_0)).trans hx140_0
                        replace hx140_1 := (HB.out.cell (World.block_lt_of_cell? w _ hx140_1)).trans hx140_1
                        replace hx140_2 := (HB.out.cell (World.block_lt_of_cell? w _ hx140_2)).trans hx140_2
                        replace hx140_3 := (HB.out.cell (World.block_lt_of_cell? w _ hx140_3)).trans hx140_3
                        replace hx140_4 := (HB.out.cell (World.block_lt_of_cell? w _ hx140_4)).trans hx140_4
                        replace p140 := eq_true p140
                        replace q140 := eq_true q140
                        go_wp2_with (first | ((with_reducible refine gate_dst (N := 6) rfl ?_); (try (refine gate_guard (by rfl) ?_; dsimp only)); refine box_event ?hg (N := 6) ?hd (cs := #[.string (⟨#[]⟩ : ByteArray), .int .i64 0, .int .i64 0, .int .i64 0, .string (⟨#[]⟩ : ByteArray)]) (t := 47) ?hr ?_; (case hd => rfl); (case hg => rfl); (case hr => first | (go_simp; done) | (go_simp; rfl)); intro gb141 hg w9 hbox hb; have n0_ := Aside0.mk (below_step (by repeat (first | (with_reducible first | exact HB.out | apply below_alloc | apply pw_below_drewN | apply below_drew1) | exact HB.out)) hb); have n1_ := Aside0.mk (hbox); have n2_ := Aside0.mk ((by rw [hg]; exact (below_size (by repeat (first | (with_reducible first | exact HB.out | apply below_alloc | apply pw_below_drewN | apply below_drew1) | exact HB.out))) : w.heap.size ≤ gb141)); have n3_ := Aside0.mk ((by rw [hg]; exact (below_size (by repeat (first | (with_reducible first | exact HB.out | apply below_alloc | apply pw_below_drewN | apply below_drew1) | exact HB.out))) : w.heap.size ≤ gb141)); clear HB; have HB := n0_; have BK141 := n1_; have GW141 := n2_; have GE141 := n3_; clear n0_ n1_ n2_ n3_; clear hb hbox hg; have hcz10_0 : w9.cell? ⟨gb141, 0, none⟩ = some (.string (⟨#[]⟩ : ByteArray)) := (blk_cell BK141.out 0).trans rfl; have hcz10_1 : w9.cell? ⟨gb141, 1, none⟩ = some (.int .i64 0) := (blk_cell BK141.out 1).trans rfl; have hcz10_2 : w9.cell? ⟨gb141, 2, none⟩ = some (.int .i64 0) := (blk_cell BK141.out 2).trans rfl; have hcz10_3 : w9.cell? ⟨gb141, 3, none⟩ = some (.int .i64 0) := (blk_cell BK141.out 3).trans rfl; have hcz10_4 : w9.cell? ⟨gb141, 4, none⟩ = some (.string (⟨#[]⟩ : ByteArray)) := (blk_cell BK141.out 4).trans rfl; have hfz10_0 := blk_frozen BK141.out 0; have hfz10_1 := blk_frozen BK141.out 1; have hfz10_2 := blk_frozen BK141.out 2; have hfz10_3 := blk_frozen BK141.out 3; have hfz10_4 := blk_frozen BK141.out 4))
                        go_ret
                        exact ⟨by first | rfl | (simp [errW_none, errW_some] <;> rfl) | (simp [*, errW_none, errW_some] <;> rfl), by repeat (first | (with_reducible first | exact HB.out | apply below_alloc | apply pw_below_drewN | apply below_drew1 | refine below_set ?_ GE141.out) | exact HB.out)⟩
                      · rw [if_neg c8] at H
                        have c8b0 : decide (100 < (((rd_T47 ((rd_T41 l0 x4_1).f2) x5_2).f0).size : Int)) = false := decide_eq_false c8
                        have c8b1 : decide (100 < ((rd_T47 ((rd_T41 l0 x4_1).f2) x5_2).f0).size) = false := decide_eq_false (by omega)
                        clear c8
                        by_cases c11 : (((rd_T47 ((rd_T41 l0 x4_1).f2) x5_2).f2.f2).size : Int) > 100
                        · rw [if_pos c11] at H
                          have c11b0 : decide (100 < (((rd_T47 ((rd_T41 l0 x4_1).f2) x5_2).f2.f2).size : Int)) = true := decide_eq_true c11
                          have c11b1 : decide (100 < ((rd_T47 ((rd_T41 l0 x4_1).f2) x5_2).f2.f2).size) = true := decide_eq_true (by omega)
                          clear c11
                          obtain rfl := Option.some.inj H
                          have p138 : 0 ≤ (x4_1 : Int) := of_decide_eq_true (by first | (with_reducible assumption) | assumption)
                          have q138 : x4_1 < (l0.length : Int) := of_decide_eq_true (by first | (with_reducible assumption) | assumption)
                          obtain ⟨ad138, A138_2, c138_2, e138, hx138_0, hx138_1, hx138_2, hl138_2, hi138_2⟩ := at_T41 HR0.out x4_1 p138 q138
                          obtain rfl : ad137 = ad138 := (by injection e138)
                          replace hx138_0 := (HB.out.cell (World.block_lt_of_cell? w _ hx138_0)).trans hx138_0
                          replace hx138_1 := (HB.out.cell (World.block_lt_of_cell? w _ hx138_1)).trans hx138_1
                          replace hx138_2 := (HB.out.cell (World.block_lt_of_cell? w _ hx138_2)).trans hx138_2
                          have HR138_2 := Aside0.mk hi138_2
                          have HC138_2 := Aside0.mk hl138_2
                          clear hi138_2 hl138_2
                          replace p138 := eq_true p138
                          replace q138 := eq_true q138
                          have p139 : 0 ≤ (x4_1 : Int) := of_decide_eq_true (by first | (with_reducible assumption) | assumption)
                          have q139 : x4_1 < (l0.length : Int) := of_decide_eq_true (by first | (with_reducible assumption) | assumption)
                          obtain ⟨ad139, A139_2, c139_2, e139, hx139_0, hx139_1, hx139_2, hl139_2, hi139_2⟩ := at_T41 HR0.out x4_1 p139 q139
                          obtain rfl : ad137 = ad139 := (by injection e139)
                          replace hx139_0 := (HB.out.cell (World.block_lt_of_cell? w _ hx139_0)).trans hx139_0
                          replace hx139_1 := (HB.out.cell (World.block_lt_of_cell? w _ hx139_1)).trans hx139_1
                          replace hx139_2 := (HB.out.cell (World.block_lt_of_cell? w _ hx139_2)).trans hx139_2
                          have HR139_2 := Aside0.mk hi139_2
                          have HC139_2 := Aside0.mk hl139_2
                          clear hi139_2 hl139_2
                          replace p139 := eq_true p139
                          replace q139 := eq_true q139
                          have ea_ := Option.some.inj (hx138_2.symm.trans hx139_2)
                          injection ea_ with ea_ en_ ec_
                          subst ea_
                          subst ec_
                          clear en_
                          have p140 : 0 ≤ (x5_2 : Int) := of_decide_eq_true (by first | (with_reducible assumption) | assumption)
                          have q140 : x5_2 < (((rd_T41 l0 x4_1).f2).length : Int) := of_decide_eq_true (by first | (with_reducible assumption) | assumption)
                          obtain ⟨ad140, e140, hx140_0, hx140_1, hx140_2, hx140_3, hx140_4⟩ := at_T47 HR139_2.out x5_2 p140 q140
                          cases e140
                          replace hx140_0 := (HB.out.cell (World.block_lt_of_cell? w _ hx140_0)).trans hx140_0
                          replace hx140_1 := (HB.out.cell (World.block_lt_of_cell? w _ hx140_1)).trans hx140_1
                          replace hx140_2 := (HB.out.cell (World.block_lt_of_cell? w _ hx140_2)).trans hx140_2
                          replace hx140_3 := (HB.out.cell (World.block_lt_of_cell? w _ hx140_3)).trans hx140_3
                          replace hx140_4 := (HB.out.cell (World.block_lt_of_cell? w _ hx140_4)).trans hx140_4
                          replace p140 := eq_true p140
                          replace q140 := eq_true q140
                          go_wp2_with (first | ((with_reducible refine gate_dst (N := 6) rfl ?_); (try (refine gate_guard (by rfl) ?_; dsimp only)); refine box_event ?hg (N := 6) ?hd (cs := #[.string (⟨#[]⟩ : ByteArray), .int .i64 0, .int .i64 0, .int .i64 0, .string (⟨#[]⟩ : ByteArray)]) (t := 47) ?hr ?_; (case hd => rfl); (case hg => rfl); (case hr => first | (go_simp; done) | (go_simp; rfl)); intro gb141 hg w12 hbox hb; have n0_ := Aside0.mk (below_step (by repeat (first | (with_reducible first | exact HB.out | apply below_alloc | apply pw_below_drewN | apply below_drew1) | exact HB.out)) hb); have n1_ := Aside0.mk (hbox); have n2_ := Aside0.mk ((by rw [hg]; exact (below_size (by repeat (first | (with_reducible first | exact HB.out | apply below_alloc | apply pw_below_drewN | apply below_drew1) | exact HB.out))) : w.heap.size ≤ gb141)); have n3_ := Aside0.mk ((by rw [hg]; exact (below_size (by repeat (first | (with_reducible first | exact HB.out | apply below_alloc | apply pw_below_drewN | apply below_drew1) | exact HB.out))) : w.heap.size ≤ gb141)); clear HB; have HB := n0_; have BK141 := n1_; have GW141 := n2_; have GE141 := n3_; clear n0_ n1_ n2_ n3_; clear hb hbox hg; have hcz13_0 : w12.cell? ⟨gb141, 0, none⟩ = some (.string (⟨#[]⟩ : ByteArray)) := (blk_cell BK141.out 0).trans rfl; have hcz13_1 : w12.cell? ⟨gb141, 1, none⟩ = some (.int .i64 0) := (blk_cell BK141.out 1).trans rfl; have hcz13_2 : w12.cell? ⟨gb141, 2, none⟩ = some (.int .i64 0) := (blk_cell BK141.out 2).trans rfl; have hcz13_3 : w12.cell? ⟨gb141, 3, none⟩ = some (.int .i64 0) := (blk_cell BK141.out 3).trans rfl; have hcz13_4 : w12.cell? ⟨gb141, 4, none⟩ = some (.string (⟨#[]⟩ : ByteArray)) := (blk_cell BK141.out 4).trans rfl; have hfz13_0 := blk_frozen BK141.out 0; have hfz13_1 := blk_frozen BK141.out 1; have hfz13_2 := blk_frozen BK141.out 2; have hfz13_3 := blk_frozen BK141.out 3; have hfz13_4 := blk_frozen BK141.out 4))
                          go_ret
                          exact ⟨by first | rfl | (simp [errW_none, errW_some] <;> rfl) | (simp [*, errW_none, errW_some] <;> rfl), by repeat (first | (with_reducible first | exact HB.out | apply below_alloc | apply pw_below_drewN | apply below_drew1 | refine below_set ?_ GE141.out) | exact HB.out)⟩
                        · rw [if_neg c11] at H
                          have c11b0 : decide (100 < (((rd_T47 ((rd_T41 l0 x4_1).f2) x5_2).f2.f2).size : Int)) = false := decide_eq_false c11
                          have c11b1 : decide (100 < ((rd_T47 ((rd_T41 l0 x4_1).f2) x5_2).f2.f2).size) = false := decide_eq_false (by omega)
                          clear c11
                          have H' := Aside0.mk H
                          clear H
                          have p138 : 0 ≤ (x4_1 : Int) := of_decide_eq_true (by first | (with_reducible assumption) | assumption)
                          have q138 : x4_1 < (l0.length : Int) := of_decide_eq_true (by first | (with_reducible assumption) | assumption)
                          obtain ⟨ad138, A138_2, c138_2, e138, hx138_0, hx138_1, hx138_2, hl138_2, hi138_2⟩ := at_T41 HR0.out x4_1 p138 q138
                          obtain rfl : ad137 = ad138 := (by injection e138)
                          replace hx138_0 := (HB.out.cell (World.block_lt_of_cell? w _ hx138_0)).trans hx138_0
                          replace hx138_1 := (HB.out.cell (World.block_lt_of_cell? w _ hx138_1)).trans hx138_1
                          replace hx138_2 := (HB.out.cell (World.block_lt_of_cell? w _ hx138_2)).trans hx138_2
                          have HR138_2 := Aside0.mk hi138_2
                          have HC138_2 := Aside0.mk hl138_2
                          clear hi138_2 hl138_2
                          replace p138 := eq_true p138
                          replace q138 := eq_true q138
                          have p139 : 0 ≤ (x4_1 : Int) := of_decide_eq_true (by first | (with_reducible assumption) | assumption)
                          have q139 : x4_1 < (l0.length : Int) := of_decide_eq_true (by first | (with_reducible assumption) | assumption)
                          obtain ⟨ad139, A139_2, c139_2, e139, hx139_0, hx139_1, hx139_2, hl139_2, hi139_2⟩ := at_T41 HR0.out x4_1 p139 q139
                          obtain rfl : ad137 = ad139 := (by injection e139)
                          replace hx139_0 := (HB.out.cell (World.block_lt_of_cell? w _ hx139_0)).trans hx139_0
                          replace hx139_1 := (HB.out.cell (World.block_lt_of_cell? w _ hx139_1)).trans hx139_1
                          replace hx139_2 := (HB.out.cell (World.block_lt_of_cell? w _ hx139_2)).trans hx139_2
                          have HR139_2 := Aside0.mk hi139_2
                          have HC139_2 := Aside0.mk hl139_2
                          clear hi139_2 hl139_2
                          replace p139 := eq_true p139
                          replace q139 := eq_true q139
                          have ea_ := Option.some.inj (hx138_2.symm.trans hx139_2)
                          injection ea_ with ea_ en_ ec_
                          subst ea_
                          subst ec_
                          clear en_
                          have p140 : 0 ≤ (x5_2 : Int) := of_decide_eq_true (by first | (with_reducible assumption) | assumption)
                          have q140 : x5_2 < (((rd_T41 l0 x4_1).f2).length : Int) := of_decide_eq_true (by first | (with_reducible assumption) | assumption)
                          obtain ⟨ad140, e140, hx140_0, hx140_1, hx140_2, hx140_3, hx140_4⟩ := at_T47 HR139_2.out x5_2 p140 q140
                          cases e140
                          replace hx140_0 := (HB.out.cell (World.block_lt_of_cell? w _ hx140_0)).trans hx140_0
                          replace hx140_1 := (HB.out.cell (World.block_lt_of_cell? w _ hx140_1)).trans hx140_1
                          replace hx140_2 := (HB.out.cell (World.block_lt_of_cell? w _ hx140_2)).trans hx140_2
                          replace hx140_3 := (HB.out.cell (World.block_lt_of_cell? w _ hx140_3)).trans hx140_3
                          replace hx140_4 := (HB.out.cell (World.block_lt_of_cell? w _ hx140_4)).trans hx140_4
                          replace p140 := eq_true p140
                          replace q140 := eq_true q140
                          go_wp2_with (first | ((with_reducible refine gate_dst (N := 6) rfl ?_); (try (refine gate_guard (by rfl) ?_; dsimp only)); refine box_event ?hg (N := 6) ?hd (cs := #[.string (⟨#[]⟩ : ByteArray), .int .i64 0, .int .i64 0, .int .i64 0, .string (⟨#[]⟩ : ByteArray)]) (t := 47) ?hr ?_; (case hd => rfl); (case hg => rfl); (case hr => first | (go_simp; done) | (go_simp; rfl)); intro gb141 hg w14 hbox hb; have n0_ := Aside0.mk (below_step (by repeat (first | (with_reducible first | exact HB.out | apply below_alloc | apply pw_below_drewN | apply below_drew1) | exact HB.out)) hb); have n1_ := Aside0.mk (hbox); have n2_ := Aside0.mk ((by rw [hg]; exact (below_size (by repeat (first | (with_reducible first | exact HB.out | apply below_alloc | apply pw_below_drewN | apply below_drew1) | exact HB.out))) : w.heap.size ≤ gb141)); have n3_ := Aside0.mk ((by rw [hg]; exact (below_size (by repeat (first | (with_reducible first | exact HB.out | apply below_alloc | apply pw_below_drewN | apply below_drew1) | exact HB.out))) : w.heap.size ≤ gb141)); clear HB; have HB := n0_; have BK141 := n1_; have GW141 := n2_; have GE141 := n3_; clear n0_ n1_ n2_ n3_; clear hb hbox hg; have hcz15_0 : w14.cell? ⟨gb141, 0, none⟩ = some (.string (⟨#[]⟩ : ByteArray)) := (blk_cell BK141.out 0).trans rfl; have hcz15_1 : w14.cell? ⟨gb141, 1, none⟩ = some (.int .i64 0) := (blk_cell BK141.out 1).trans rfl; have hcz15_2 : w14.cell? ⟨gb141, 2, none⟩ = some (.int .i64 0) := (blk_cell BK141.out 2).trans rfl; have hcz15_3 : w14.cell? ⟨gb141, 3, none⟩ = some (.int .i64 0) := (blk_cell BK141.out 3).trans rfl; have hcz15_4 : w14.cell? ⟨gb141, 4, none⟩ = some (.string (⟨#[]⟩ : ByteArray)) := (blk_cell BK141.out 4).trans rfl; have hfz15_0 := blk_frozen BK141.out 0; have hfz15_1 := blk_frozen BK141.out 1; have hfz15_2 := blk_frozen BK141.out 2; have hfz15_3 := blk_frozen BK141.out 3; have hfz15_4 := blk_frozen BK141.out 4))
                          go_roundg k2
                          case measure => have := HK1.out; have := HK2.out; omega
                          case rel => exact ⟨(wrap64 (x5_2 + 1)), (by first | rfl | (simp; done) | (simp [*]; done)), H', ⟨by have := HK1.out; have := HK2.out; omega⟩, ⟨by repeat (first | (with_reducible first | exact HB.out | apply below_alloc | apply pw_below_drewN | apply below_drew1 | refine below_set ?_ GE141.out) | exact HB.out)⟩⟩
                    · rw [if_neg c7] at H
                      exact absurd H (by simp)
                  · rw [if_neg c6] at H
                    have c6b0 : decide (x5_2 < (((rd_T41 l0 x4_1).f2).length : Int)) = false := decide_eq_false c6
                    clear c6
                    have H' := Aside0.mk H
                    clear H
                    have p138 : 0 ≤ (x4_1 : Int) := of_decide_eq_true (by first | (with_reducible assumption) | assumption)
                    have q138 : x4_1 < (l0.length : Int) := of_decide_eq_true (by first | (with_reducible assumption) | assumption)
                    obtain ⟨ad138, A138_2, c138_2, e138, hx138_0, hx138_1, hx138_2, hl138_2, hi138_2⟩ := at_T41 HR0.out x4_1 p138 q138
                    obtain rfl : ad137 = ad138 := (by injection e138)
                    replace hx138_0 := (HB.out.cell (World.block_lt_of_cell? w _ hx138_0)).trans hx138_0
                    replace hx138_1 := (HB.out.cell (World.block_lt_of_cell? w _ hx138_1)).trans hx138_1
                    replace hx138_2 := (HB.out.cell (World.block_lt_of_cell? w _ hx138_2)).trans hx138_2
                    have HR138_2 := Aside0.mk hi138_2
                    have HC138_2 := Aside0.mk hl138_2
                    clear hi138_2 hl138_2
                    replace p138 := eq_true p138
                    replace q138 := eq_true q138
                    go_wp2
                    go_roundg k2
                    case measure => have := HK1.out; have := HK2.out; omega
                    case rel => exact ⟨((wrap64 (x3_1 + (((rd_T41 l0 x4_1).f2).length : Int)))), (wrap64 (x4_1 + 1)), (by first | rfl | (simp; done) | (simp [*]; done)), (by first | rfl | (simp; done) | (simp [*]; done)), H', ⟨by have := HK1.out; have := HK2.out; omega⟩, ⟨by repeat (first | (with_reducible first | exact HB.out | apply below_alloc | apply pw_below_drewN | apply below_drew1) | exact HB.out)⟩⟩
                · rw [if_neg c5] at H
                  exact absurd H (by simp)
              · rw [if_neg c4] at H
                exact absurd H (by simp)
        · rw [if_neg c3] at H
          exact absurd H (by simp)
      · rw [if_neg c2] at H
        have c2b0 : decide (x4_1 < (l0.length : Int)) = false := decide_eq_false c2
        clear c2
        by_cases c16 : (l0.length : Int) ≤ 80
        · rw [if_pos c16] at H
          have c16b0 : decide ((l0.length : Int) ≤ 80) = true := decide_eq_true c16
          have c16b1 : decide (l0.length ≤ 80) = true := decide_eq_true (by omega)
          clear c16
          obtain rfl := Option.some.inj H
          go_wp2
          go_ret
          exact ⟨by first | rfl | (simp [errW_none, errW_some] <;> rfl) | (simp [*, errW_none, errW_some] <;> rfl), by repeat (first | (with_reducible first | exact HB.out | apply below_alloc | apply pw_below_drewN | apply below_drew1) | exact HB.out)⟩
        · rw [if_neg c16] at H
          have c16b0 : decide ((l0.length : Int) ≤ 80) = false := decide_eq_false c16
          have c16b1 : decide (l0.length ≤ 80) = false := decide_eq_false (by omega)
          clear c16
          obtain rfl := Option.some.inj H
          go_wp2
          go_ret
          exact ⟨by first | rfl | (simp [errW_none, errW_some] <;> rfl) | (simp [*, errW_none, errW_some] <;> rfl), by repeat (first | (with_reducible first | exact HB.out | apply below_alloc | apply pw_below_drewN | apply below_drew1) | exact HB.out)⟩

end Go.Proofs.Ytbcnknmgljdmlaa.G
end

section
-- Written by a program of this session (wip/tools/myprint.py), over the kit's print.
namespace Go.Proofs.Ytbcnknmgljdmlaa.G
open Go.RowKit Go.Proofs.YtbcnknmgljdmlaaW.PrintWords Go.Proofs.YtbcnknmgljdmlaaW.PrintLast Go.Proofs.YtbcnknmgljdmlaaW.PrintMore
attribute [local go_sem] max2_int min2_int max_two min_two max_three min_three max_four min_four   -- for this text's walks alone
set_option linter.unusedVariables false
set_option linter.unusedSimpArgs false

/-! ### rosettelaw05_Few: function 13 -/
def rosettelaw05_Few.l0 : Nat → List (S49) → Int → Option (Bool)
  | 0, _, _ => none
  | k + 1, x0, x3 => if x3 < (x0.length : Int) then (if 0 ≤ x3 then (if (((rd_T49 x0 x3).f0).size : Int) > 100 then (some false) else (if (((rd_T49 x0 x3).f1.f2).size : Int) > 300 then (some false) else (rosettelaw05_Few.l0 k x0 (wrap64 (x3 + 1))))) else (none)) else (some (decide ((x0.length : Int) ≤ 40)))
def rosettelaw05_Few.f (k : Nat) (l0 : List (S49)) : Option (Bool) := rosettelaw05_Few.l0 k l0 0
theorem rosettelaw05_Few.mono_l : ∀ k, (∀ y0 y1, LeO (rosettelaw05_Few.l0 k y0 y1) (rosettelaw05_Few.l0 (k + 1) y0 y1))
  | 0 => fun _ _ r h => by simp [rosettelaw05_Few.l0] at h
  | k + 1 => by
    have ih0 := rosettelaw05_Few.mono_l k
    · intro y0 y1
      unfold rosettelaw05_Few.l0
      repeat' first
      | (with_reducible exact ih0 _ _)
      | (with_reducible exact LeO.refl _)
      | (with_reducible exact LeO.none _)
      | (with_reducible refine LeO.ite ?_ ?_)
      | (with_reducible refine LeO.bind ?_ (fun _ => ?_))
      | exact ih0 _ _
      | exact LeO.none _
      | refine LeO.ite ?_ ?_
      | refine LeO.bind ?_ (fun _ => ?_)
theorem rosettelaw05_Few.mono : ∀ a0 k, LeO (rosettelaw05_Few.f k a0) (rosettelaw05_Few.f (k + 1) a0) := by
  intro a0 k
  have ih0 := rosettelaw05_Few.mono_l k
  unfold rosettelaw05_Few.f
  repeat' first
      | (with_reducible exact ih0 _ _)
      | (with_reducible exact LeO.refl _)
      | (with_reducible exact LeO.none _)
      | (with_reducible refine LeO.ite ?_ ?_)
      | (with_reducible refine LeO.bind ?_ (fun _ => ?_))
      | exact ih0 _ _
      | exact LeO.none _
      | refine LeO.ite ?_ ?_
      | refine LeO.bind ?_ (fun _ => ?_)
set_option maxHeartbeats 8000000 in
set_option maxRecDepth 100000 in
theorem rosettelaw05_Few.calls (k : Nat) (A0 : Option Addr) (c0 : Nat) (l0 : List (S49)) (r : Bool) (w : World) (hr0 : Kd.C k49 w A0 l0.length l0) (hc0 : l0.length ≤ c0) (h : rosettelaw05_Few.f k l0 = some r) :
    Calls Try.prog 13 #[.slice A0 l0.length c0] w fun e w' => e = .returned (.bool r) ∧ Drawn0 w w' := by
  have HR0 := Aside0.mk hr0
  have HC0 := Aside0.mk hc0
  clear hr0 hc0
  have H : (rosettelaw05_Few.l0 k l0 0) = some r := h
  clear h
  have H' := Aside0.mk H
  clear H
  go_enter Try.func13, Try.ntmps13
  go_wp2
  go_loopg [3] k (fun kq v3 w' => ∃ (x3_1 : Int), v3 = .int .i64 x3_1 ∧ Aside0 (rosettelaw05_Few.l0 kq l0 x3_1 = some r) ∧ Aside0 (kq ≤ k) ∧ Drawn0 w w')
  case atStart => exact ⟨(0), (by first | rfl | (simp; done) | (simp [*]; done)), H', ⟨Nat.le_refl _⟩, by repeat (first | exact Drawn0.refl _ | apply Drawn0.step)⟩
  case round =>
    clear H'
    try clear c1
    obtain ⟨x3_1, rfl, HA, HK1, ⟨m1, rfl⟩⟩ := hrel
    cases gk with
    | zero => exact absurd HA.out (by simp [rosettelaw05_Few.l0])
    | succ k1 =>
      have H := HA.out
      clear HA
      simp only [rosettelaw05_Few.l0] at H
      by_cases c2 : x3_1 < (l0.length : Int)
      · rw [if_pos c2] at H
        have c2b0 : decide (x3_1 < (l0.length : Int)) = true := decide_eq_true c2
        clear c2
        by_cases c3 : 0 ≤ x3_1
        · rw [if_pos c3] at H
          have c3b0 : decide (0 ≤ x3_1) = true := decide_eq_true c3
          clear c3
          by_cases c4 : (((rd_T49 l0 x3_1).f0).size : Int) > 100
          · rw [if_pos c4] at H
            have c4b0 : decide (100 < (((rd_T49 l0 x3_1).f0).size : Int)) = true := decide_eq_true c4
            have c4b1 : decide (100 < ((rd_T49 l0 x3_1).f0).size) = true := decide_eq_true (by omega)
            clear c4
            obtain rfl := Option.some.inj H
            have p150 : 0 ≤ (x3_1 : Int) := of_decide_eq_true (by first | (with_reducible assumption) | assumption)
            have q150 : x3_1 < (l0.length : Int) := of_decide_eq_true (by first | (with_reducible assumption) | assumption)
            obtain ⟨ad150, e150, hx150_0, hx150_1, hx150_2, hx150_3⟩ := at_T49 HR0.out x3_1 p150 q150
            cases e150
            replace p150 := eq_true p150
            replace q150 := eq_true q150
            go_wp2
            go_ret
            exact ⟨by first | rfl | (simp; done) | (simp [*]; done), by repeat (first | exact Drawn0.refl _ | apply Drawn0.step)⟩
          · rw [if_neg c4] at H
            have c4b0 : decide (100 < (((rd_T49 l0 x3_1).f0).size : Int)) = false := decide_eq_false c4
            have c4b1 : decide (100 < ((rd_T49 l0 x3_1).f0).size) = false := decide_eq_false (by omega)
            clear c4
            by_cases c5 : (((rd_T49 l0 x3_1).f1.f2).size : Int) > 300
            · rw [if_pos c5] at H
              have c5b0 : decide (300 < (((rd_T49 l0 x3_1).f1.f2).size : Int)) = true := decide_eq_true c5
              have c5b1 : decide (300 < ((rd_T49 l0 x3_1).f1.f2).size) = true := decide_eq_true (by omega)
              clear c5
              obtain rfl := Option.some.inj H
              have p150 : 0 ≤ (x3_1 : Int) := of_decide_eq_true (by first | (with_reducible assumption) | assumption)
              have q150 : x3_1 < (l0.length : Int) := of_decide_eq_true (by first | (with_reducible assumption) | assumption)
              obtain ⟨ad150, e150, hx150_0, hx150_1, hx150_2, hx150_3⟩ := at_T49 HR0.out x3_1 p150 q150
              cases e150
              replace p150 := eq_true p150
              replace q150 := eq_true q150
              have p151 : 0 ≤ (x3_1 : Int) := of_decide_eq_true (by first | (with_reducible assumption) | assumption)
              have q151 : x3_1 < (l0.length : Int) := of_decide_eq_true (by first | (with_reducible assumption) | assumption)
              obtain ⟨ad151, e151, hx151_0, hx151_1, hx151_2, hx151_3⟩ := at_T49 HR0.out x3_1 p151 q151
              obtain rfl : ad150 = ad151 := (by injection e151)
              replace p151 := eq_true p151
              replace q151 := eq_true q151
              go_wp2
              go_ret
              exact ⟨by first | rfl | (simp; done) | (simp [*]; done), by repeat (first | exact Drawn0.refl _ | apply Drawn0.step)⟩
            · rw [if_neg c5] at H
              have c5b0 : decide (300 < (((rd_T49 l0 x3_1).f1.f2).size : Int)) = false := decide_eq_false c5
              have c5b1 : decide (300 < ((rd_T49 l0 x3_1).f1.f2).size) = false := decide_eq_false (by omega)
              clear c5
              have H' := Aside0.mk H
              clear H
              have p150 : 0 ≤ (x3_1 : Int) := of_decide_eq_true (by first | (with_reducible assumption) | assumption)
              have q150 : x3_1 < (l0.length : Int) := of_decide_eq_true (by first | (with_reducible assumption) | assumption)
              obtain ⟨ad150, e150, hx150_0, hx150_1, hx150_2, hx150_3⟩ := at_T49 HR0.out x3_1 p150 q150
              cases e150
              replace p150 := eq_true p150
              replace q150 := eq_true q150
              have p151 : 0 ≤ (x3_1 : Int) := of_decide_eq_true (by first | (with_reducible assumption) | assumption)
              have q151 : x3_1 < (l0.length : Int) := of_decide_eq_true (by first | (with_reducible assumption) | assumption)
              obtain ⟨ad151, e151, hx151_0, hx151_1, hx151_2, hx151_3⟩ := at_T49 HR0.out x3_1 p151 q151
              obtain rfl : ad150 = ad151 := (by injection e151)
              replace p151 := eq_true p151
              replace q151 := eq_true q151
              go_wp2
              go_roundg k1
              case measure => have := HK1.out; omega
              case rel => exact ⟨(wrap64 (x3_1 + 1)), (by first | rfl | (simp; done) | (simp [*]; done)), H', ⟨by have := HK1.out; omega⟩, by repeat (first | exact Drawn0.refl _ | apply Drawn0.step)⟩
        · rw [if_neg c3] at H
          exact absurd H (by simp)
      · rw [if_neg c2] at H
        have c2b0 : decide (x3_1 < (l0.length : Int)) = false := decide_eq_false c2
        clear c2
        obtain rfl := Option.some.inj H
        go_wp2
        go_ret
        exact ⟨by first | rfl | (simp; done) | (simp [*]; done), by repeat (first | exact Drawn0.refl _ | apply Drawn0.step)⟩

end Go.Proofs.Ytbcnknmgljdmlaa.G
end

section
/- the common form of what the laws of the index ask -/
set_option linter.unusedVariables false
set_option linter.unusedSimpArgs false
set_option autoImplicit false
namespace Go.Proofs.Ytbcnknmgljdmlaa
open Go Go.RowKit Go.Proofs.YtbcnknmgljdmlaaW.PrintWords Go.Proofs.YtbcnknmgljdmlaaW.PrintLast Go.Proofs.YtbcnknmgljdmlaaW.PrintMore Go.Proofs.Ytbcnknmgljdmlaa.G

instance (p : S47) : Decidable (KeyOk p) := by unfold KeyOk; exact inferInstance
instance (l : List S41) : Decidable (EntOk l) := by unfold EntOk; exact inferInstance
instance (a : S49) : Decidable (AttrOk a) := by unfold AttrOk; exact inferInstance
def GoodE (e : List S49) : Prop := e.length ≤ 100000 ∧ ∀ a ∈ e, AttrOk a
instance (e : List S49) : Decidable (GoodE e) := by unfold GoodE; exact inferInstance
def lawF (k : Nat) (l : List S41) (e : List S49) (C : Bool) (OK : Prop) [Decidable OK] : Option Bool :=
  (rosettelaw09_Few.f k l).bind fun f9 => (rosettelaw05_Few.f k e).bind fun f5 => if f9 = true ∧ f5 = true → EntOk l ∧ GoodE e ∧ (rightE e = true → C = true → OK) then some true else none
theorem lawF_open {k : Nat} {l : List S41} {e : List S49} {C : Bool} {OK : Prop} [Decidable OK] {r : Bool} (h : lawF k l e C OK = some r) :
    ∃ f9 f5, rosettelaw09_Few.f k l = some f9 ∧ rosettelaw05_Few.f k e = some f5 ∧ r = true ∧ (f9 = true ∧ f5 = true → EntOk l ∧ GoodE e ∧ (rightE e = true → C = true → OK)) := by
  unfold lawF at h
  obtain ⟨f9, h9, h⟩ := Option.bind_eq_some_iff.mp h
  obtain ⟨f5, h5, h⟩ := Option.bind_eq_some_iff.mp h
  split at h
  · rename_i hc
    exact ⟨f9, f5, h9, h5, (Option.some.inj h).symm, hc⟩
  · cases h
theorem lbuild (l : List S41) {m : Nat} (hm : l.length = m) (A0 : Option Addr) (c0 : Nat) (w : World) (hr0 : Kd.C k41 w A0 m l) (hc0 : m ≤ c0) (h : EntOk l) :
    Calls Try.prog 10 #[.slice A0 m c0] w fun e w' => e = .returned (.pointer (some ⟨w.heap.size + 2, 0, none⟩)) ∧ IxQ w w' [] (pairsFrom 0 l) (l.map (·.f0)) (l.map fun e => (e.f2.length : Int)) := by
  subst hm
  exact wbuild2 A0 c0 l w hr0 hc0 h
theorem emeet (l : List S41) (hl : EntOk l) {w0 : World} (A1 : Option Addr) (c1 : Nat) (e : List S49) (w : World) (h : IxQ w0 w [] (pairsFrom 0 l) (l.map (·.f0)) (l.map fun e => (e.f2.length : Int))) (hr1 : Kd.C k49 w A1 e.length e) (hc1 : e.length ≤ c1) (hg : GoodE e) :
    Calls Try.prog 15 #[.pointer (some ⟨w0.heap.size + 2, 0, none⟩), .slice A1 e.length c1] w fun e' w' => ∃ A c, e' = .returned (.slice A (tellL l e).length c) ∧ (tellL l e).length ≤ c ∧ (Kd.int .i64).C w' A (tellL l e).length (tellL l e) ∧ (Kd.int .i64).R 3 w' w.heap.size (fun _ => True) (.slice A (tellL l e).length c) (tellL l e) ∧ Below w.heap.size w w' := by
  refine (wmeet2 l hl A1 c1 e w h hr1 hc1 hg.1 hg.2).mono ?_
  rintro e' w' ⟨v, rfl, hR, hB⟩
  obtain ⟨A, c, rfl, h1, h2⟩ := own_C hR
  exact ⟨A, c, rfl, h1, h2, hR, hB⟩
theorem own_empty12 (W : World) : (Kd.int .i64).R 3 (W.alloc (.cells #[] 3)) W.heap.size (fun _ => True) (.slice (some ⟨W.heap.size, 0, none⟩) 0 0) [] := by
  have h : (W.alloc (.cells #[] 3)).ownsRow W.heap.size 3 1 (.slice (some ⟨W.heap.size, 0, none⟩) 0 0) ([] : List Int).length (nums .i64 []) :=
    ⟨by simp [nums], .inr ⟨W.heap.size, 0, #[], rfl, Nat.le_refl _, heap_alloc_new W _, by simp, by simp [maxLen], by simp, by simp [nums]⟩⟩
  exact kd_R h
theorem below_via12 {w W W' : World} (h0 : Below w.heap.size w W) (h : Below W.heap.size W W') : Below w.heap.size w W' := h0.trans (h.mono h0.size)
theorem size_le {l : List S41} (h : EntOk l) : sizeL l ≤ 100000 := Nat.le_trans (keys_len _) h.2.1
theorem tell_len (l : List S41) (e : List S49) : (tellL l e).length ≤ l.length := by
  unfold tellL meetI
  have := pickI_len (l.map (·.f0)) (l.map fun e => (e.f2.length : Int)) (meetC hbI (pairsFrom 0 l) (l.map (·.f0)).length e) (l.map (·.f0)).length
  simpa using this
end Go.Proofs.Ytbcnknmgljdmlaa
end

section
-- Written by a program of this session (wip/tools/myprint.py), over the kit's print.
namespace Go.Proofs.Ytbcnknmgljdmlaa.G
open Go.RowKit Go.Proofs.YtbcnknmgljdmlaaW.PrintWords Go.Proofs.YtbcnknmgljdmlaaW.PrintLast Go.Proofs.YtbcnknmgljdmlaaW.PrintMore
attribute [local go_sem] max2_int min2_int max_two min_two max_three min_three max_four min_four   -- for this text's walks alone
set_option linter.unusedVariables false
set_option linter.unusedSimpArgs false

/-! ### rosetteref05_Get: function 42 -/
def rosetteref05_Get.l0 : Nat → List (S49) → ByteArray → Int → Option (Int × Int × ByteArray × Bool)
  | 0, _, _, _ => none
  | k + 1, x0, x1, x6 => if x6 < (x0.length : Int) then (if 0 ≤ x6 then (if ((rd_T49 x0 x6).f0).toList = x1.toList then (some ((rd_T49 x0 x6).f1.f0, (rd_T49 x0 x6).f1.f1, (rd_T49 x0 x6).f1.f2, true)) else (rosetteref05_Get.l0 k x0 x1 (wrap64 (x6 + 1)))) else (none)) else (some (0, 0, (⟨#[]⟩ : ByteArray), false))
def rosetteref05_Get.f (k : Nat) (l0 : List (S49)) (a1 : ByteArray) : Option (Int × Int × ByteArray × Bool) := rosetteref05_Get.l0 k l0 a1 0
theorem rosetteref05_Get.mono_l : ∀ k, (∀ y0 y1 y2, LeO (rosetteref05_Get.l0 k y0 y1 y2) (rosetteref05_Get.l0 (k + 1) y0 y1 y2))
  | 0 => fun _ _ _ r h => by simp [rosetteref05_Get.l0] at h
  | k + 1 => by
    have ih0 := rosetteref05_Get.mono_l k
    · intro y0 y1 y2
      unfold rosetteref05_Get.l0
      repeat' first
      | (with_reducible exact ih0 _ _ _)
      | (with_reducible exact LeO.refl _)
      | (with_reducible exact LeO.none _)
      | (with_reducible refine LeO.ite ?_ ?_)
      | (with_reducible refine LeO.bind ?_ (fun _ => ?_))
      | exact ih0 _ _ _
      | exact LeO.none _
      | refine LeO.ite ?_ ?_
      | refine LeO.bind ?_ (fun _ => ?_)
theorem rosetteref05_Get.mono : ∀ a0 a1 k, LeO (rosetteref05_Get.f k a0 a1) (rosetteref05_Get.f (k + 1) a0 a1) := by
  intro a0 a1 k
  have ih0 := rosetteref05_Get.mono_l k
  unfold rosetteref05_Get.f
  repeat' first
      | (with_reducible exact ih0 _ _ _)
      | (with_reducible exact LeO.refl _)
      | (with_reducible exact LeO.none _)
      | (with_reducible refine LeO.ite ?_ ?_)
      | (with_reducible refine LeO.bind ?_ (fun _ => ?_))
      | exact ih0 _ _ _
      | exact LeO.none _
      | refine LeO.ite ?_ ?_
      | refine LeO.bind ?_ (fun _ => ?_)
set_option maxHeartbeats 8000000 in
set_option maxRecDepth 100000 in
theorem rosetteref05_Get.calls (k : Nat) (A0 : Option Addr) (c0 : Nat) (l0 : List (S49)) (a1 : ByteArray) (r1 : Int) (r2 : Int) (r3 : ByteArray) (r4 : Bool) (w : World) (hr0 : Kd.C k49 w A0 l0.length l0) (hc0 : l0.length ≤ c0) (h : rosetteref05_Get.f k l0 a1 = some (r1, r2, r3, r4)) :
    Calls Try.prog 42 #[.slice A0 l0.length c0, .string a1] w fun e w' => e = .returned (.tuple #[.agg #[.int .i64 r1, .int .i64 r2, .string r3], .bool r4]) ∧ Below w.heap.size w w' := by
  have hu45 := Try.underlying45
  have HR0 := Aside0.mk hr0
  have HC0 := Aside0.mk hc0
  clear hr0 hc0
  have HB := Aside0.mk (Below.refl w.heap.size w)
  have H : (rosetteref05_Get.l0 k l0 a1 0) = some (r1, r2, r3, r4) := h
  clear h
  have H' := Aside0.mk H
  clear H
  go_enter Try.func42, Try.ntmps42
  go_wp2_with (first | ((with_reducible refine gate_dst (N := 4) rfl ?_); refine box_event ?hg (N := 4) ?hd (cs := #[.int .i64 0, .int .i64 0, .string (⟨#[]⟩ : ByteArray)]) (t := 45) ?hr ?_; (case hd => rfl); (case hg => rfl); (case hr => first | (go_simp; done) | (go_simp; rfl)); intro gb157 hg w3 hbox hb; have n0_ := Aside0.mk (below_step (by repeat (first | (with_reducible first | exact HB.out | apply below_alloc | apply pw_below_drewN | apply below_drew1) | exact HB.out)) hb); have n1_ := Aside0.mk (hbox); have n2_ := Aside0.mk ((by rw [hg]; exact (below_size (by repeat (first | (with_reducible first | exact HB.out | apply below_alloc | apply pw_below_drewN | apply below_drew1) | exact HB.out))) : w.heap.size ≤ gb157)); have n3_ := Aside0.mk ((by rw [hg]; exact (below_size (by repeat (first | (with_reducible first | exact HB.out | apply below_alloc | apply pw_below_drewN | apply below_drew1) | exact HB.out))) : w.heap.size ≤ gb157)); clear HB; have HB := n0_; have BK157 := n1_; have GW157 := n2_; have GE157 := n3_; clear n0_ n1_ n2_ n3_; clear hb hbox hg))
  go_loopg [6] k (fun kq v6 w' => ∃ (x6_1 : Int) (x158000_1 : Int) (x158001_1 : Int) (x158002_1 : ByteArray), v6 = .int .i64 x6_1 ∧ Aside0 (rosetteref05_Get.l0 kq l0 a1 x6_1 = some (r1, r2, r3, r4)) ∧ Aside0 (kq ≤ k) ∧ Aside0 (w'.heap[gb157]? = some (.cells #[.int .i64 x158000_1, .int .i64 x158001_1, .string x158002_1] 45 (0, 0))) ∧ Aside0 (Below w.heap.size w w'))
  case atStart => exact ⟨(0), (0), (0), ((⟨#[]⟩ : ByteArray)), (by first | rfl | (simp; done) | (simp [*]; done)), H', ⟨Nat.le_refl _⟩, ⟨by (with_reducible repeat (first | refine blk_drewN ?_ _ | refine blk_drew ?_ | refine blk_alloc ?_ _)); exact BK157.out⟩, ⟨by repeat (first | (with_reducible first | exact HB.out | apply below_alloc | apply pw_below_drewN | apply below_drew1 | refine below_set ?_ GE157.out) | exact HB.out)⟩⟩
  case round =>
    clear H'
    try clear p2
    obtain ⟨x6_1, x158000_1, x158001_1, x158002_1, rfl, HA, HK1, BK157, HB⟩ := hrel
    cases gk with
    | zero => exact absurd HA.out (by simp [rosetteref05_Get.l0])
    | succ k1 =>
      have H := HA.out
      clear HA
      simp only [rosetteref05_Get.l0] at H
      by_cases c4 : x6_1 < (l0.length : Int)
      · rw [if_pos c4] at H
        have c4b0 : decide (x6_1 < (l0.length : Int)) = true := decide_eq_true c4
        clear c4
        by_cases c5 : 0 ≤ x6_1
        · rw [if_pos c5] at H
          have c5b0 : decide (0 ≤ x6_1) = true := decide_eq_true c5
          clear c5
          by_cases c6 : ((rd_T49 l0 x6_1).f0).toList = a1.toList
          · rw [if_pos c6] at H
            have c6b0 : (((rd_T49 l0 x6_1).f0).toList == a1.toList) = true := beq_iff_eq.mpr c6
            have c6b1 : (((rd_T49 l0 x6_1).f0).toList != a1.toList) = false := bne_eq_false_iff_eq.mpr c6
            clear c6
            simp only [Option.some.injEq, Prod.mk.injEq] at H
            obtain ⟨rfl, rfl, rfl, rfl⟩ := H
            have p158 : 0 ≤ (x6_1 : Int) := of_decide_eq_true (by first | (with_reducible assumption) | assumption)
            have q158 : x6_1 < (l0.length : Int) := of_decide_eq_true (by first | (with_reducible assumption) | assumption)
            obtain ⟨ad158, e158, hx158_0, hx158_1, hx158_2, hx158_3⟩ := at_T49 HR0.out x6_1 p158 q158
            cases e158
            replace hx158_0 := (HB.out.cell (World.block_lt_of_cell? w _ hx158_0)).trans hx158_0
            replace hx158_1 := (HB.out.cell (World.block_lt_of_cell? w _ hx158_1)).trans hx158_1
            replace hx158_2 := (HB.out.cell (World.block_lt_of_cell? w _ hx158_2)).trans hx158_2
            replace hx158_3 := (HB.out.cell (World.block_lt_of_cell? w _ hx158_3)).trans hx158_3
            replace p158 := eq_true p158
            replace q158 := eq_true q158
            have p159 : 0 ≤ (x6_1 : Int) := of_decide_eq_true (by first | (with_reducible assumption) | assumption)
            have q159 : x6_1 < (l0.length : Int) := of_decide_eq_true (by first | (with_reducible assumption) | assumption)
            obtain ⟨ad159, e159, hx159_0, hx159_1, hx159_2, hx159_3⟩ := at_T49 HR0.out x6_1 p159 q159
            obtain rfl : ad158 = ad159 := (by injection e159)
            replace hx159_0 := (HB.out.cell (World.block_lt_of_cell? w _ hx159_0)).trans hx159_0
            replace hx159_1 := (HB.out.cell (World.block_lt_of_cell? w _ hx159_1)).trans hx159_1
            replace hx159_2 := (HB.out.cell (World.block_lt_of_cell? w _ hx159_2)).trans hx159_2
            replace hx159_3 := (HB.out.cell (World.block_lt_of_cell? w _ hx159_3)).trans hx159_3
            replace p159 := eq_true p159
            replace q159 := eq_true q159
            have hcz7_0 : wr.cell? ⟨gb157, 0, none⟩ = some (.int .i64 x158000_1) := (blk_cell BK157.out 0).trans rfl
            have hcz7_1 : wr.cell? ⟨gb157, 1, none⟩ = some (.int .i64 x158001_1) := (blk_cell BK157.out 1).trans rfl
            have hcz7_2 : wr.cell? ⟨gb157, 2, none⟩ = some (.string x158002_1) := (blk_cell BK157.out 2).trans rfl
            have hfz7_0 := blk_frozen BK157.out 0
            have hfz7_1 := blk_frozen BK157.out 1
            have hfz7_2 := blk_frozen BK157.out 2
            go_wp2
            refine bodyPost_ret (results_ct rfl _ _ gb157 45 #[.int .i64 ((rd_T49 l0 x6_1).f1.f0), .int .i64 ((rd_T49 l0 x6_1).f1.f1), .string ((rd_T49 l0 x6_1).f1.f2)] (0, 0) _ rfl (by (with_reducible repeat (first | refine blk_drewN ?_ _ | refine blk_drew ?_ | refine blk_alloc ?_ _)); refine blk_put (cs := #[.int .i64 ((rd_T49 l0 x6_1).f1.f0), .int .i64 ((rd_T49 l0 x6_1).f1.f1), .string x158002_1]) ?_ 2 _ rfl; (with_reducible repeat (first | refine blk_drewN ?_ _ | refine blk_drew ?_ | refine blk_alloc ?_ _)); refine blk_put (cs := #[.int .i64 ((rd_T49 l0 x6_1).f1.f0), .int .i64 x158001_1, .string x158002_1]) ?_ 1 _ rfl; (with_reducible repeat (first | refine blk_drewN ?_ _ | refine blk_drew ?_ | refine blk_alloc ?_ _)); refine blk_put (cs := #[.int .i64 x158000_1, .int .i64 x158001_1, .string x158002_1]) ?_ 0 _ rfl; (with_reducible repeat (first | refine blk_drewN ?_ _ | refine blk_drew ?_ | refine blk_alloc ?_ _)); exact BK157.out) Try.underlying45 rfl (by kernel_rfl)) rfl ?_
            exact ⟨by first | rfl | (simp [errW_none, errW_some] <;> rfl) | (simp [*, errW_none, errW_some] <;> rfl), by repeat (first | (with_reducible first | exact HB.out | apply below_alloc | apply pw_below_drewN | apply below_drew1 | refine below_set ?_ GE157.out) | exact HB.out)⟩
          · rw [if_neg c6] at H
            have c6b0 : (((rd_T49 l0 x6_1).f0).toList == a1.toList) = false := beq_eq_false_iff_ne.mpr c6
            have c6b1 : (((rd_T49 l0 x6_1).f0).toList != a1.toList) = true := bne_iff_ne.mpr c6
            have H' := Aside0.mk H
            clear H
            have p158 : 0 ≤ (x6_1 : Int) := of_decide_eq_true (by first | (with_reducible assumption) | assumption)
            have q158 : x6_1 < (l0.length : Int) := of_decide_eq_true (by first | (with_reducible assumption) | assumption)
            obtain ⟨ad158, e158, hx158_0, hx158_1, hx158_2, hx158_3⟩ := at_T49 HR0.out x6_1 p158 q158
            cases e158
            replace hx158_0 := (HB.out.cell (World.block_lt_of_cell? w _ hx158_0)).trans hx158_0
            replace hx158_1 := (HB.out.cell (World.block_lt_of_cell? w _ hx158_1)).trans hx158_1
            replace hx158_2 := (HB.out.cell (World.block_lt_of_cell? w _ hx158_2)).trans hx158_2
            replace hx158_3 := (HB.out.cell (World.block_lt_of_cell? w _ hx158_3)).trans hx158_3
            replace p158 := eq_true p158
            replace q158 := eq_true q158
            go_wp2
            go_roundg k1
            case measure => have := HK1.out; omega
            case rel => exact ⟨(wrap64 (x6_1 + 1)), (x158000_1), (x158001_1), (x158002_1), (by first | rfl | (simp; done) | (simp [*]; done)), H', ⟨by have := HK1.out; omega⟩, ⟨by (with_reducible repeat (first | refine blk_drewN ?_ _ | refine blk_drew ?_ | refine blk_alloc ?_ _)); exact BK157.out⟩, ⟨by repeat (first | (with_reducible first | exact HB.out | apply below_alloc | apply pw_below_drewN | apply below_drew1 | refine below_set ?_ GE157.out) | exact HB.out)⟩⟩
        · rw [if_neg c5] at H
          exact absurd H (by simp)
      · rw [if_neg c4] at H
        have c4b0 : decide (x6_1 < (l0.length : Int)) = false := decide_eq_false c4
        clear c4
        simp only [Option.some.injEq, Prod.mk.injEq] at H
        obtain ⟨rfl, rfl, rfl, rfl⟩ := H
        have hcz8_0 : wr.cell? ⟨gb157, 0, none⟩ = some (.int .i64 x158000_1) := (blk_cell BK157.out 0).trans rfl
        have hcz8_1 : wr.cell? ⟨gb157, 1, none⟩ = some (.int .i64 x158001_1) := (blk_cell BK157.out 1).trans rfl
        have hcz8_2 : wr.cell? ⟨gb157, 2, none⟩ = some (.string x158002_1) := (blk_cell BK157.out 2).trans rfl
        have hfz8_0 := blk_frozen BK157.out 0
        have hfz8_1 := blk_frozen BK157.out 1
        have hfz8_2 := blk_frozen BK157.out 2
        go_wp2
        refine bodyPost_ret (results_ct rfl _ _ gb157 45 #[.int .i64 0, .int .i64 0, .string (⟨#[]⟩ : ByteArray)] (0, 0) _ rfl (by (with_reducible repeat (first | refine blk_drewN ?_ _ | refine blk_drew ?_ | refine blk_alloc ?_ _)); refine blk_put (cs := #[.int .i64 0, .int .i64 0, .string x158002_1]) ?_ 2 _ rfl; (with_reducible repeat (first | refine blk_drewN ?_ _ | refine blk_drew ?_ | refine blk_alloc ?_ _)); refine blk_put (cs := #[.int .i64 0, .int .i64 x158001_1, .string x158002_1]) ?_ 1 _ rfl; (with_reducible repeat (first | refine blk_drewN ?_ _ | refine blk_drew ?_ | refine blk_alloc ?_ _)); refine blk_put (cs := #[.int .i64 x158000_1, .int .i64 x158001_1, .string x158002_1]) ?_ 0 _ rfl; (with_reducible repeat (first | refine blk_drewN ?_ _ | refine blk_drew ?_ | refine blk_alloc ?_ _)); exact BK157.out) Try.underlying45 rfl (by kernel_rfl)) rfl ?_
        exact ⟨by first | rfl | (simp [errW_none, errW_some] <;> rfl) | (simp [*, errW_none, errW_some] <;> rfl), by repeat (first | (with_reducible first | exact HB.out | apply below_alloc | apply pw_below_drewN | apply below_drew1 | refine below_set ?_ GE157.out) | exact HB.out)⟩

end Go.Proofs.Ytbcnknmgljdmlaa.G
end

section
-- Written by a program of this session (wip/tools/myprint.py), over the kit's print.
namespace Go.Proofs.Ytbcnknmgljdmlaa.G
open Go.RowKit Go.Proofs.YtbcnknmgljdmlaaW.PrintWords Go.Proofs.YtbcnknmgljdmlaaW.PrintLast Go.Proofs.YtbcnknmgljdmlaaW.PrintMore
attribute [local go_sem] max2_int min2_int max_two min_two max_three min_three max_four min_four   -- for this text's walks alone
set_option linter.unusedVariables false
set_option linter.unusedSimpArgs false

/-! ### rosetteref06_Meets: function 35 -/
def rosetteref06_Meets.f (k : Nat) (a0_0 : ByteArray) (a0_1 : Int) (a0_2 : Int) (a0_3 : Int) (a0_4 : ByteArray) (l1 : List (S49)) : Option (Bool) := (rosetteref05_Get.f k l1 a0_0).bind fun bt174 => (if bt174.2.2.2 = true then ((rosetteref06_Holds.f k a0_0 a0_1 a0_2 a0_3 a0_4 bt174.1 bt174.2.1 bt174.2.2.1).bind fun t179 => (some t179)) else (some false))
theorem rosetteref06_Meets.mono : ∀ a0 a1 a2 a3 a4 a5 k, LeO (rosetteref06_Meets.f k a0 a1 a2 a3 a4 a5) (rosetteref06_Meets.f (k + 1) a0 a1 a2 a3 a4 a5) := by
  intro a0 a1 a2 a3 a4 a5 k
  unfold rosetteref06_Meets.f
  repeat' first
      | (with_reducible exact rosetteref05_Get.mono _ _ _)
      | (with_reducible exact rosetteref06_Holds.mono _ _ _ _ _ _ _ _ _)
      | (with_reducible exact LeO.refl _)
      | (with_reducible exact LeO.none _)
      | (with_reducible refine LeO.ite ?_ ?_)
      | (with_reducible refine LeO.bind ?_ (fun _ => ?_))
      | exact rosetteref05_Get.mono _ _ _
      | exact rosetteref06_Holds.mono _ _ _ _ _ _ _ _ _
      | exact LeO.none _
      | refine LeO.ite ?_ ?_
      | refine LeO.bind ?_ (fun _ => ?_)
set_option maxHeartbeats 8000000 in
set_option maxRecDepth 100000 in
theorem rosetteref06_Meets.calls (k : Nat) (a0_0 : ByteArray) (a0_1 : Int) (a0_2 : Int) (a0_3 : Int) (a0_4 : ByteArray) (A1 : Option Addr) (c1 : Nat) (l1 : List (S49)) (r : Bool) (w : World) (hr1 : Kd.C k49 w A1 l1.length l1) (hc1 : l1.length ≤ c1) (h : rosetteref06_Meets.f k a0_0 a0_1 a0_2 a0_3 a0_4 l1 = some r) :
    Calls Try.prog 35 #[.agg #[.string a0_0, .int .i64 a0_1, .int .i64 a0_2, .int .i64 a0_3, .string a0_4], .slice A1 l1.length c1] w fun e w' => e = .returned (.bool r) ∧ Below w.heap.size w w' := by
  have hu47 := Try.underlying47
  have hu45 := Try.underlying45
  have HR1 := Aside0.mk hr1
  have HC1 := Aside0.mk hc1
  clear hr1 hc1
  have HB := Aside0.mk (Below.refl w.heap.size w)
  have H : ((rosetteref05_Get.f k l1 a0_0).bind fun bt174 => (if bt174.2.2.2 = true then ((rosetteref06_Holds.f k a0_0 a0_1 a0_2 a0_3 a0_4 bt174.1 bt174.2.1 bt174.2.2.1).bind fun t179 => (some t179)) else (some false))) = some r := h
  clear h
  replace H := Option.bind_eq_some_iff.mp H
  obtain ⟨⟨t174, t175, t176, t177⟩, A30, H⟩ := H
  replace H : (if t177 = true then ((rosetteref06_Holds.f k a0_0 a0_1 a0_2 a0_3 a0_4 t174 t175 t176).bind fun t179 => (some t179)) else (some false)) = some r := H
  have A3 := Aside0.mk A30
  clear A30
  by_cases c4 : t177 = true
  · subst c4
    have H1 : ((rosetteref06_Holds.f k a0_0 a0_1 a0_2 a0_3 a0_4 t174 t175 t176).bind fun t179 => (some t179)) = some r := by rw [if_pos rfl] at H; exact H
    clear H
    have H := H1
    clear H1
    replace H := Option.bind_eq_some_iff.mp H
    obtain ⟨t179, A50, H⟩ := H
    replace H : (some t179) = some r := H
    have A5 := Aside0.mk A50
    clear A50
    obtain rfl := Option.some.inj H
    go_enter Try.func35, Try.ntmps35
    go_wp2_with (first | ((with_reducible refine gate_dst (N := 2) rfl ?_); refine box_event ?hg (N := 2) ?hd (cs := #[.string a0_0, .int .i64 a0_1, .int .i64 a0_2, .int .i64 a0_3, .string a0_4]) (t := 47) ?hr ?_; (case hd => rfl); (case hg => rfl); (case hr => first | (go_simp; done) | (go_simp; rfl)); intro gb173 hg w6 hbox hb; have n0_ := Aside0.mk (below_step (by repeat (first | (with_reducible first | exact HB.out | apply below_alloc | apply pw_below_drewN | apply below_drew1) | exact HB.out)) hb); have n1_ := Aside0.mk (hbox); have n2_ := Aside0.mk ((by rw [hg]; exact (below_size (by repeat (first | (with_reducible first | exact HB.out | apply below_alloc | apply pw_below_drewN | apply below_drew1) | exact HB.out))) : w.heap.size ≤ gb173)); have n3_ := Aside0.mk ((by rw [hg]; exact (below_size (by repeat (first | (with_reducible first | exact HB.out | apply below_alloc | apply pw_below_drewN | apply below_drew1) | exact HB.out))) : w.heap.size ≤ gb173)); clear HB; have HB := n0_; have BK173 := n1_; have GW173 := n2_; have GE173 := n3_; clear n0_ n1_ n2_ n3_; clear hb hbox hg; have hcz7_0 : w6.cell? ⟨gb173, 0, none⟩ = some (.string a0_0) := (blk_cell BK173.out 0).trans rfl; have hcz7_1 : w6.cell? ⟨gb173, 1, none⟩ = some (.int .i64 a0_1) := (blk_cell BK173.out 1).trans rfl; have hcz7_2 : w6.cell? ⟨gb173, 2, none⟩ = some (.int .i64 a0_2) := (blk_cell BK173.out 2).trans rfl; have hcz7_3 : w6.cell? ⟨gb173, 3, none⟩ = some (.int .i64 a0_3) := (blk_cell BK173.out 3).trans rfl; have hcz7_4 : w6.cell? ⟨gb173, 4, none⟩ = some (.string a0_4) := (blk_cell BK173.out 4).trans rfl; have hfz7_0 := blk_frozen BK173.out 0; have hfz7_1 := blk_frozen BK173.out 1; have hfz7_2 := blk_frozen BK173.out 2; have hfz7_3 := blk_frozen BK173.out 3; have hfz7_4 := blk_frozen BK173.out 4) | ((with_reducible refine gate_callee (f := 42) rfl ?_); refine goesL_ (some 11) rfl rfl Try.func42 (by kernel_rfl) rfl #[.slice A1 l1.length c1, .string a0_0] rfl (by (try simp only [List.map_toArray, List.map_cons, List.map_nil]); first | done | rfl | (simp only [List.length_drop, List.length_take]; rfl)) ?_; (with_reducible refine (rosetteref05_Get.calls k _ _ l1 a0_0 t174 t175 t176 true _ ?side1 ?side2 A3.out).mono ?_); (case side1 => repeat (first | exact (Kd.C_below HR1.out HB.out) | (with_reducible refine Kd.C_alloc ?_ _) | (with_reducible refine Kd.C_drewN ?_ _) | (with_reducible refine Kd.C_drew ?_))); (case side2 => exact HC1.out); rintro e w8 ⟨rfl, hb⟩; refine ⟨_, rfl, ?_⟩; have n0_ := Aside0.mk (blk_below (g := gb173) (o := .cells #[.string a0_0, .int .i64 a0_1, .int .i64 a0_2, .int .i64 a0_3, .string a0_4] 47 (0, 0)) (by (with_reducible repeat (first | refine blk_drewN ?_ _ | refine blk_drew ?_ | refine blk_alloc ?_ _)); exact BK173.out) hb); have n1_ := Aside0.mk (below_step (by repeat (first | (with_reducible first | exact HB.out | apply below_alloc | apply pw_below_drewN | apply below_drew1 | refine below_set ?_ GE173.out) | exact HB.out)) hb); clear BK173; clear HB; have BK173 := n0_; have HB := n1_; clear n0_ n1_; (try clear hb); (try clear hb2); (try clear hk); (try clear hi)) | ((with_reducible refine gate_dst (N := 5) rfl ?_); refine box_event ?hg (N := 5) ?hd (cs := #[.int .i64 0, .int .i64 0, .string (⟨#[]⟩ : ByteArray)]) (t := 45) ?hr ?_; (case hd => rfl); (case hg => rfl); (case hr => first | (go_simp; done) | (go_simp; rfl)); intro gb178 hg w9 hbox hb; have n0_ := Aside0.mk (blk_below (g := gb173) (o := .cells #[.string a0_0, .int .i64 a0_1, .int .i64 a0_2, .int .i64 a0_3, .string a0_4] 47 (0, 0)) (by (with_reducible repeat (first | refine blk_drewN ?_ _ | refine blk_drew ?_ | refine blk_alloc ?_ _)); exact BK173.out) hb); have n1_ := Aside0.mk (below_step (by repeat (first | (with_reducible first | exact HB.out | apply below_alloc | apply pw_below_drewN | apply below_drew1 | refine below_set ?_ GE173.out) | exact HB.out)) hb); have n2_ := Aside0.mk (hbox); have n3_ := Aside0.mk ((by rw [hg]; exact (below_size (by repeat (first | (with_reducible first | exact HB.out | apply below_alloc | apply pw_below_drewN | apply below_drew1 | refine below_set ?_ GE173.out) | exact HB.out))) : w.heap.size ≤ gb178)); have n4_ := Aside0.mk ((by rw [hg]; exact (below_size (by repeat (first | (with_reducible first | exact HB.out | apply below_alloc | apply pw_below_drewN | apply below_drew1 | refine below_set ?_ GE173.out) | exact HB.out))) : w.heap.size ≤ gb178)); have n5_ := Aside0.mk ((by rw [hg]; exact Nat.ne_of_lt (blk_lt (g := gb173) (o := .cells #[.string a0_0, .int .i64 a0_1, .int .i64 a0_2, .int .i64 a0_3, .string a0_4] 47 (0, 0)) (by (with_reducible repeat (first | refine blk_drewN ?_ _ | refine blk_drew ?_ | refine blk_alloc ?_ _)); exact BK173.out)) : gb173 ≠ gb178)); have n6_ := Aside0.mk ((by rw [hg]; exact Nat.ne_of_gt (blk_lt (g := gb173) (o := .cells #[.string a0_0, .int .i64 a0_1, .int .i64 a0_2, .int .i64 a0_3, .string a0_4] 47 (0, 0)) (by (with_reducible repeat (first | refine blk_drewN ?_ _ | refine blk_drew ?_ | refine blk_alloc ?_ _)); exact BK173.out)) : gb178 ≠ gb173)); clear BK173; clear HB; have BK173 := n0_; have HB := n1_; have BK178 := n2_; have GW178 := n3_; have GE178 := n4_; have NB173_178 := n5_; have NB178_173 := n6_; clear n0_ n1_ n2_ n3_ n4_ n5_ n6_; clear hb hbox hg; have hnb10 := NB178_173.out; have hnc10 := NB173_178.out; have hcz11_0 : w9.cell? ⟨gb178, 0, none⟩ = some (.int .i64 0) := (blk_cell BK178.out 0).trans rfl; have hcz11_1 : w9.cell? ⟨gb178, 1, none⟩ = some (.int .i64 0) := (blk_cell BK178.out 1).trans rfl; have hcz11_2 : w9.cell? ⟨gb178, 2, none⟩ = some (.string (⟨#[]⟩ : ByteArray)) := (blk_cell BK178.out 2).trans rfl; have hfz11_0 := blk_frozen BK178.out 0; have hfz11_1 := blk_frozen BK178.out 1; have hfz11_2 := blk_frozen BK178.out 2; have hcz12_0 : w9.cell? ⟨gb173, 0, none⟩ = some (.string a0_0) := (blk_cell BK173.out 0).trans rfl; have hcz12_1 : w9.cell? ⟨gb173, 1, none⟩ = some (.int .i64 a0_1) := (blk_cell BK173.out 1).trans rfl; have hcz12_2 : w9.cell? ⟨gb173, 2, none⟩ = some (.int .i64 a0_2) := (blk_cell BK173.out 2).trans rfl; have hcz12_3 : w9.cell? ⟨gb173, 3, none⟩ = some (.int .i64 a0_3) := (blk_cell BK173.out 3).trans rfl; have hcz12_4 : w9.cell? ⟨gb173, 4, none⟩ = some (.string a0_4) := (blk_cell BK173.out 4).trans rfl; have hfz12_0 := blk_frozen BK173.out 0; have hfz12_1 := blk_frozen BK173.out 1; have hfz12_2 := blk_frozen BK173.out 2; have hfz12_3 := blk_frozen BK173.out 3; have hfz12_4 := blk_frozen BK173.out 4) | (go_at_call 43; (with_reducible refine (rosetteref06_Holds.calls k a0_0 a0_1 a0_2 a0_3 a0_4 t174 t175 t176 t179 _ A5.out).mono ?_); rintro e w13 ⟨rfl, hb⟩; have n0_ := Aside0.mk (blk_below (g := gb173) (o := .cells #[.string a0_0, .int .i64 a0_1, .int .i64 a0_2, .int .i64 a0_3, .string a0_4] 47 (0, 0)) (by (with_reducible repeat (first | refine blk_drewN ?_ _ | refine blk_drew ?_ | refine blk_alloc ?_ _)); refine blk_far ?_ NB173_178.out _; (with_reducible repeat (first | refine blk_drewN ?_ _ | refine blk_drew ?_ | refine blk_alloc ?_ _)); refine blk_far ?_ NB173_178.out _; (with_reducible repeat (first | refine blk_drewN ?_ _ | refine blk_drew ?_ | refine blk_alloc ?_ _)); refine blk_far ?_ NB173_178.out _; (with_reducible repeat (first | refine blk_drewN ?_ _ | refine blk_drew ?_ | refine blk_alloc ?_ _)); exact BK173.out) hb); have n1_ := Aside0.mk (blk_below (g := gb178) (o := .cells #[.int .i64 t174, .int .i64 t175, .string t176] 45 (0, 0)) (by (with_reducible repeat (first | refine blk_drewN ?_ _ | refine blk_drew ?_ | refine blk_alloc ?_ _)); refine blk_put (cs := #[.int .i64 t174, .int .i64 t175, .string (⟨#[]⟩ : ByteArray)]) ?_ 2 _ rfl; (with_reducible repeat (first | refine blk_drewN ?_ _ | refine blk_drew ?_ | refine blk_alloc ?_ _)); refine blk_put (cs := #[.int .i64 t174, .int .i64 0, .string (⟨#[]⟩ : ByteArray)]) ?_ 1 _ rfl; (with_reducible repeat (first | refine blk_drewN ?_ _ | refine blk_drew ?_ | refine blk_alloc ?_ _)); refine blk_put (cs := #[.int .i64 0, .int .i64 0, .string (⟨#[]⟩ : ByteArray)]) ?_ 0 _ rfl; (with_reducible repeat (first | refine blk_drewN ?_ _ | refine blk_drew ?_ | refine blk_alloc ?_ _)); exact BK178.out) hb); have n2_ := Aside0.mk (below_step (by repeat (first | (with_reducible first | exact HB.out | apply below_alloc | apply pw_below_drewN | apply below_drew1 | refine below_set ?_ GE173.out | refine below_set ?_ GE178.out) | exact HB.out)) hb); clear BK173; clear BK178; clear HB; have BK173 := n0_; have BK178 := n1_; have HB := n2_; clear n0_ n1_ n2_; (try clear hb); (try clear hb2); (try clear hk); (try clear hi)))
    go_ret
    exact ⟨by first | rfl | (simp [errW_none, errW_some] <;> rfl) | (simp [*, errW_none, errW_some] <;> rfl), by repeat (first | (with_reducible first | exact HB.out | apply below_alloc | apply pw_below_drewN | apply below_drew1 | refine below_set ?_ GE173.out | refine below_set ?_ GE178.out) | exact HB.out)⟩
  · replace c4 := Bool.eq_false_iff.mpr c4
    subst c4
    have H1 : (some false) = some r := by rw [if_neg (show ¬ (false = true) by decide)] at H; exact H
    clear H
    have H := H1
    clear H1
    obtain rfl := Option.some.inj H
    go_enter Try.func35, Try.ntmps35
    go_wp2_with (first | ((with_reducible refine gate_dst (N := 2) rfl ?_); refine box_event ?hg (N := 2) ?hd (cs := #[.string a0_0, .int .i64 a0_1, .int .i64 a0_2, .int .i64 a0_3, .string a0_4]) (t := 47) ?hr ?_; (case hd => rfl); (case hg => rfl); (case hr => first | (go_simp; done) | (go_simp; rfl)); intro gb173 hg w14 hbox hb; have n0_ := Aside0.mk (below_step (by repeat (first | (with_reducible first | exact HB.out | apply below_alloc | apply pw_below_drewN | apply below_drew1) | exact HB.out)) hb); have n1_ := Aside0.mk (hbox); have n2_ := Aside0.mk ((by rw [hg]; exact (below_size (by repeat (first | (with_reducible first | exact HB.out | apply below_alloc | apply pw_below_drewN | apply below_drew1) | exact HB.out))) : w.heap.size ≤ gb173)); have n3_ := Aside0.mk ((by rw [hg]; exact (below_size (by repeat (first | (with_reducible first | exact HB.out | apply below_alloc | apply pw_below_drewN | apply below_drew1) | exact HB.out))) : w.heap.size ≤ gb173)); clear HB; have HB := n0_; have BK173 := n1_; have GW173 := n2_; have GE173 := n3_; clear n0_ n1_ n2_ n3_; clear hb hbox hg; have hcz15_0 : w14.cell? ⟨gb173, 0, none⟩ = some (.string a0_0) := (blk_cell BK173.out 0).trans rfl; have hcz15_1 : w14.cell? ⟨gb173, 1, none⟩ = some (.int .i64 a0_1) := (blk_cell BK173.out 1).trans rfl; have hcz15_2 : w14.cell? ⟨gb173, 2, none⟩ = some (.int .i64 a0_2) := (blk_cell BK173.out 2).trans rfl; have hcz15_3 : w14.cell? ⟨gb173, 3, none⟩ = some (.int .i64 a0_3) := (blk_cell BK173.out 3).trans rfl; have hcz15_4 : w14.cell? ⟨gb173, 4, none⟩ = some (.string a0_4) := (blk_cell BK173.out 4).trans rfl; have hfz15_0 := blk_frozen BK173.out 0; have hfz15_1 := blk_frozen BK173.out 1; have hfz15_2 := blk_frozen BK173.out 2; have hfz15_3 := blk_frozen BK173.out 3; have hfz15_4 := blk_frozen BK173.out 4) | ((with_reducible refine gate_callee (f := 42) rfl ?_); refine goesL_ (some 11) rfl rfl Try.func42 (by kernel_rfl) rfl #[.slice A1 l1.length c1, .string a0_0] rfl (by (try simp only [List.map_toArray, List.map_cons, List.map_nil]); first | done | rfl | (simp only [List.length_drop, List.length_take]; rfl)) ?_; (with_reducible refine (rosetteref05_Get.calls k _ _ l1 a0_0 t174 t175 t176 false _ ?side1 ?side2 A3.out).mono ?_); (case side1 => repeat (first | exact (Kd.C_below HR1.out HB.out) | (with_reducible refine Kd.C_alloc ?_ _) | (with_reducible refine Kd.C_drewN ?_ _) | (with_reducible refine Kd.C_drew ?_))); (case side2 => exact HC1.out); rintro e w16 ⟨rfl, hb⟩; refine ⟨_, rfl, ?_⟩; have n0_ := Aside0.mk (blk_below (g := gb173) (o := .cells #[.string a0_0, .int .i64 a0_1, .int .i64 a0_2, .int .i64 a0_3, .string a0_4] 47 (0, 0)) (by (with_reducible repeat (first | refine blk_drewN ?_ _ | refine blk_drew ?_ | refine blk_alloc ?_ _)); exact BK173.out) hb); have n1_ := Aside0.mk (below_step (by repeat (first | (with_reducible first | exact HB.out | apply below_alloc | apply pw_below_drewN | apply below_drew1 | refine below_set ?_ GE173.out) | exact HB.out)) hb); clear BK173; clear HB; have BK173 := n0_; have HB := n1_; clear n0_ n1_; (try clear hb); (try clear hb2); (try clear hk); (try clear hi)) | ((with_reducible refine gate_dst (N := 5) rfl ?_); refine box_event ?hg (N := 5) ?hd (cs := #[.int .i64 0, .int .i64 0, .string (⟨#[]⟩ : ByteArray)]) (t := 45) ?hr ?_; (case hd => rfl); (case hg => rfl); (case hr => first | (go_simp; done) | (go_simp; rfl)); intro gb178 hg w17 hbox hb; have n0_ := Aside0.mk (blk_below (g := gb173) (o := .cells #[.string a0_0, .int .i64 a0_1, .int .i64 a0_2, .int .i64 a0_3, .string a0_4] 47 (0, 0)) (by (with_reducible repeat (first | refine blk_drewN ?_ _ | refine blk_drew ?_ | refine blk_alloc ?_ _)); exact BK173.out) hb); have n1_ := Aside0.mk (below_step (by repeat (first | (with_reducible first | exact HB.out | apply below_alloc | apply pw_below_drewN | apply below_drew1 | refine below_set ?_ GE173.out) | exact HB.out)) hb); have n2_ := Aside0.mk (hbox); have n3_ := Aside0.mk ((by rw [hg]; exact (below_size (by repeat (first | (with_reducible first | exact HB.out | apply below_alloc | apply pw_below_drewN | apply below_drew1 | refine below_set ?_ GE173.out) | exact HB.out))) : w.heap.size ≤ gb178)); have n4_ := Aside0.mk ((by rw [hg]; exact (below_size (by repeat (first | (with_reducible first | exact HB.out | apply below_alloc | apply pw_below_drewN | apply below_drew1 | refine below_set ?_ GE173.out) | exact HB.out))) : w.heap.size ≤ gb178)); have n5_ := Aside0.mk ((by rw [hg]; exact Nat.ne_of_lt (blk_lt (g := gb173) (o := .cells #[.string a0_0, .int .i64 a0_1, .int .i64 a0_2, .int .i64 a0_3, .string a0_4] 47 (0, 0)) (by (with_reducible repeat (first | refine blk_drewN ?_ _ | refine blk_drew ?_ | refine blk_alloc ?_ _)); exact BK173.out)) : gb173 ≠ gb178)); have n6_ := Aside0.mk ((by rw [hg]; exact Nat.ne_of_gt (blk_lt (g := gb173) (o := .cells #[.string a0_0, .int .i64 a0_1, .int .i64 a0_2, .int .i64 a0_3, .string a0_4] 47 (0, 0)) (by (with_reducible repeat (first | refine blk_drewN ?_ _ | refine blk_drew ?_ | refine blk_alloc ?_ _)); exact BK173.out)) : gb178 ≠ gb173)); clear BK173; clear HB; have BK173 := n0_; have HB := n1_; have BK178 := n2_; have GW178 := n3_; have GE178 := n4_; have NB173_178 := n5_; have NB178_173 := n6_; clear n0_ n1_ n2_ n3_ n4_ n5_ n6_; clear hb hbox hg; have hnb18 := NB178_173.out; have hnc18 := NB173_178.out; have hcz19_0 : w17.cell? ⟨gb178, 0, none⟩ = some (.int .i64 0) := (blk_cell BK178.out 0).trans rfl; have hcz19_1 : w17.cell? ⟨gb178, 1, none⟩ = some (.int .i64 0) := (blk_cell BK178.out 1).trans rfl; have hcz19_2 : w17.cell? ⟨gb178, 2, none⟩ = some (.string (⟨#[]⟩ : ByteArray)) := (blk_cell BK178.out 2).trans rfl; have hfz19_0 := blk_frozen BK178.out 0; have hfz19_1 := blk_frozen BK178.out 1; have hfz19_2 := blk_frozen BK178.out 2))
    go_ret
    exact ⟨by first | rfl | (simp [errW_none, errW_some] <;> rfl) | (simp [*, errW_none, errW_some] <;> rfl), by repeat (first | (with_reducible first | exact HB.out | apply below_alloc | apply pw_below_drewN | apply below_drew1 | refine below_set ?_ GE173.out | refine below_set ?_ GE178.out) | exact HB.out)⟩

end Go.Proofs.Ytbcnknmgljdmlaa.G
end

section
-- Written by a program of this session (wip/tools/myprint.py), over the kit's print.
namespace Go.Proofs.Ytbcnknmgljdmlaa.G
open Go.RowKit Go.Proofs.YtbcnknmgljdmlaaW.PrintWords Go.Proofs.YtbcnknmgljdmlaaW.PrintLast Go.Proofs.YtbcnknmgljdmlaaW.PrintMore
attribute [local go_sem] max2_int min2_int max_two min_two max_three min_three max_four min_four   -- for this text's walks alone
set_option linter.unusedVariables false
set_option linter.unusedSimpArgs false

/-! ### rosetteref08_Meets: function 25 -/
def rosetteref08_Meets.l0 : Nat → List (S47) → List (S49) → Int → Option (Bool)
  | 0, _, _, _ => none
  | k + 1, x0, x1, x5 => if x5 < (x0.length : Int) then (if 0 ≤ x5 then ((rosetteref06_Meets.f k ((rd_T47 x0 x5).f0) ((rd_T47 x0 x5).f1) ((rd_T47 x0 x5).f2.f0) ((rd_T47 x0 x5).f2.f1) ((rd_T47 x0 x5).f2.f2) x1).bind fun t181 => (if t181 = true then (rosetteref08_Meets.l0 k x0 x1 (wrap64 (x5 + 1))) else (some false))) else (none)) else (some true)
def rosetteref08_Meets.f (k : Nat) (l0 : List (S47)) (l1 : List (S49)) : Option (Bool) := rosetteref08_Meets.l0 k l0 l1 0
theorem rosetteref08_Meets.mono_l : ∀ k, (∀ y0 y1 y2, LeO (rosetteref08_Meets.l0 k y0 y1 y2) (rosetteref08_Meets.l0 (k + 1) y0 y1 y2))
  | 0 => fun _ _ _ r h => by simp [rosetteref08_Meets.l0] at h
  | k + 1 => by
    have ih0 := rosetteref08_Meets.mono_l k
    · intro y0 y1 y2
      unfold rosetteref08_Meets.l0
      repeat' first
      | (with_reducible exact ih0 _ _ _)
      | (with_reducible exact rosetteref06_Meets.mono _ _ _ _ _ _ _)
      | (with_reducible exact LeO.refl _)
      | (with_reducible exact LeO.none _)
      | (with_reducible refine LeO.ite ?_ ?_)
      | (with_reducible refine LeO.bind ?_ (fun _ => ?_))
      | exact ih0 _ _ _
      | exact rosetteref06_Meets.mono _ _ _ _ _ _ _
      | exact LeO.none _
      | refine LeO.ite ?_ ?_
      | refine LeO.bind ?_ (fun _ => ?_)
theorem rosetteref08_Meets.mono : ∀ a0 a1 k, LeO (rosetteref08_Meets.f k a0 a1) (rosetteref08_Meets.f (k + 1) a0 a1) := by
  intro a0 a1 k
  have ih0 := rosetteref08_Meets.mono_l k
  unfold rosetteref08_Meets.f
  repeat' first
      | (with_reducible exact ih0 _ _ _)
      | (with_reducible exact rosetteref06_Meets.mono _ _ _ _ _ _ _)
      | (with_reducible exact LeO.refl _)
      | (with_reducible exact LeO.none _)
      | (with_reducible refine LeO.ite ?_ ?_)
      | (with_reducible refine LeO.bind ?_ (fun _ => ?_))
      | exact ih0 _ _ _
      | exact rosetteref06_Meets.mono _ _ _ _ _ _ _
      | exact LeO.none _
      | refine LeO.ite ?_ ?_
      | refine LeO.bind ?_ (fun _ => ?_)
set_option maxHeartbeats 8000000 in
set_option maxRecDepth 100000 in
theorem rosetteref08_Meets.calls (k : Nat) (A0 : Option Addr) (c0 : Nat) (l0 : List (S47)) (A1 : Option Addr) (c1 : Nat) (l1 : List (S49)) (r : Bool) (w : World) (hr0 : Kd.C k47 w A0 l0.length l0) (hc0 : l0.length ≤ c0) (hr1 : Kd.C k49 w A1 l1.length l1) (hc1 : l1.length ≤ c1) (h : rosetteref08_Meets.f k l0 l1 = some r) :
    Calls Try.prog 25 #[.slice A0 l0.length c0, .slice A1 l1.length c1] w fun e w' => e = .returned (.bool r) ∧ Below w.heap.size w w' := by
  have hu47 := Try.underlying47
  have HR0 := Aside0.mk hr0
  have HC0 := Aside0.mk hc0
  clear hr0 hc0
  have HR1 := Aside0.mk hr1
  have HC1 := Aside0.mk hc1
  clear hr1 hc1
  have HB := Aside0.mk (Below.refl w.heap.size w)
  have H : (rosetteref08_Meets.l0 k l0 l1 0) = some r := h
  clear h
  have H' := Aside0.mk H
  clear H
  go_enter Try.func25, Try.ntmps25
  go_wp2
  go_loopg [5] k (fun kq v5 w' => ∃ (x5_1 : Int), v5 = .int .i64 x5_1 ∧ Aside0 (rosetteref08_Meets.l0 kq l0 l1 x5_1 = some r) ∧ Aside0 (kq ≤ k) ∧ Aside0 (Below w.heap.size w w'))
  case atStart => exact ⟨(0), (by first | rfl | (simp; done) | (simp [*]; done)), H', ⟨Nat.le_refl _⟩, ⟨by repeat (first | (with_reducible first | exact HB.out | apply below_alloc | apply pw_below_drewN | apply below_drew1) | exact HB.out)⟩⟩
  case round =>
    clear H'
    try clear c1
    try clear c2
    try clear p2
    obtain ⟨x5_1, rfl, HA, HK1, HB⟩ := hrel
    cases gk with
    | zero => exact absurd HA.out (by simp [rosetteref08_Meets.l0])
    | succ k1 =>
      have H := HA.out
      clear HA
      simp only [rosetteref08_Meets.l0] at H
      by_cases c3 : x5_1 < (l0.length : Int)
      · rw [if_pos c3] at H
        have c3b0 : decide (x5_1 < (l0.length : Int)) = true := decide_eq_true c3
        clear c3
        by_cases c4 : 0 ≤ x5_1
        · rw [if_pos c4] at H
          have c4b0 : decide (0 ≤ x5_1) = true := decide_eq_true c4
          clear c4
          replace H := Option.bind_eq_some_iff.mp H
          obtain ⟨t181, A50, H⟩ := H
          replace H : (if t181 = true then (rosetteref08_Meets.l0 k1 l0 l1 (wrap64 (x5_1 + 1))) else (some false)) = some r := H
          have A5 := Aside0.mk A50
          clear A50
          by_cases c6 : t181 = true
          · subst c6
            have H1 : (rosetteref08_Meets.l0 k1 l0 l1 (wrap64 (x5_1 + 1))) = some r := by rw [if_pos rfl] at H; exact H
            clear H
            have H := H1
            clear H1
            have H' := Aside0.mk H
            clear H
            have p180 : 0 ≤ (x5_1 : Int) := of_decide_eq_true (by first | (with_reducible assumption) | assumption)
            have q180 : x5_1 < (l0.length : Int) := of_decide_eq_true (by first | (with_reducible assumption) | assumption)
            obtain ⟨ad180, e180, hx180_0, hx180_1, hx180_2, hx180_3, hx180_4⟩ := at_T47 HR0.out x5_1 p180 q180
            cases e180
            replace hx180_0 := (HB.out.cell (World.block_lt_of_cell? w _ hx180_0)).trans hx180_0
            replace hx180_1 := (HB.out.cell (World.block_lt_of_cell? w _ hx180_1)).trans hx180_1
            replace hx180_2 := (HB.out.cell (World.block_lt_of_cell? w _ hx180_2)).trans hx180_2
            replace hx180_3 := (HB.out.cell (World.block_lt_of_cell? w _ hx180_3)).trans hx180_3
            replace hx180_4 := (HB.out.cell (World.block_lt_of_cell? w _ hx180_4)).trans hx180_4
            replace p180 := eq_true p180
            replace q180 := eq_true q180
            go_wp2_with (first | ((with_reducible refine gate_callee (f := 35) rfl ?_); refine goesL_ (some 17) rfl rfl Try.func35 (by kernel_rfl) rfl #[.agg #[.string ((rd_T47 l0 x5_1).f0), .int .i64 ((rd_T47 l0 x5_1).f1), .int .i64 ((rd_T47 l0 x5_1).f2.f0), .int .i64 ((rd_T47 l0 x5_1).f2.f1), .string ((rd_T47 l0 x5_1).f2.f2)], .slice A1 l1.length c1] rfl (by (try simp only [List.map_toArray, List.map_cons, List.map_nil]); first | done | rfl | (simp only [List.length_drop, List.length_take]; rfl)) ?_; (with_reducible refine (rosetteref06_Meets.calls k1 ((rd_T47 l0 x5_1).f0) ((rd_T47 l0 x5_1).f1) ((rd_T47 l0 x5_1).f2.f0) ((rd_T47 l0 x5_1).f2.f1) ((rd_T47 l0 x5_1).f2.f2) _ _ l1 true _ ?side1 ?side2 A5.out).mono ?_); (case side1 => repeat (first | exact (Kd.C_below HR1.out HB.out) | (with_reducible refine Kd.C_alloc ?_ _) | (with_reducible refine Kd.C_drewN ?_ _) | (with_reducible refine Kd.C_drew ?_))); (case side2 => exact HC1.out); rintro e w7 ⟨rfl, hb⟩; refine ⟨_, rfl, ?_⟩; have n0_ := Aside0.mk (below_step (by repeat (first | (with_reducible first | exact HB.out | apply below_alloc | apply pw_below_drewN | apply below_drew1) | exact HB.out)) hb); clear HB; have HB := n0_; clear n0_; (try clear hb); (try clear hb2); (try clear hk); (try clear hi)))
            go_roundg k1
            case measure => have := HK1.out; omega
            case rel => exact ⟨(wrap64 (x5_1 + 1)), (by first | rfl | (simp; done) | (simp [*]; done)), H', ⟨by have := HK1.out; omega⟩, ⟨by repeat (first | (with_reducible first | exact HB.out | apply below_alloc | apply pw_below_drewN | apply below_drew1) | exact HB.out)⟩⟩
          · replace c6 := Bool.eq_false_iff.mpr c6
            subst c6
            have H1 : (some false) = some r := by rw [if_neg (show ¬ (false = true) by decide)] at H; exact H
            clear H
            have H := H1
            clear H1
            obtain rfl := Option.some.inj H
            have p180 : 0 ≤ (x5_1 : Int) := of_decide_eq_true (by first | (with_reducible assumption) | assumption)
            have q180 : x5_1 < (l0.length : Int) := of_decide_eq_true (by first | (with_reducible assumption) | assumption)
            obtain ⟨ad180, e180, hx180_0, hx180_1, hx180_2, hx180_3, hx180_4⟩ := at_T47 HR0.out x5_1 p180 q180
            cases e180
            replace hx180_0 := (HB.out.cell (World.block_lt_of_cell? w _ hx180_0)).trans hx180_0
            replace hx180_1 := (HB.out.cell (World.block_lt_of_cell? w _ hx180_1)).trans hx180_1
            replace hx180_2 := (HB.out.cell (World.block_lt_of_cell? w _ hx180_2)).trans hx180_2
            replace hx180_3 := (HB.out.cell (World.block_lt_of_cell? w _ hx180_3)).trans hx180_3
            replace hx180_4 := (HB.out.cell (World.block_lt_of_cell? w _ hx180_4)).trans hx180_4
            replace p180 := eq_true p180
            replace q180 := eq_true q180
            go_wp2_with (first | ((with_reducible refine gate_callee (f := 35) rfl ?_); refine goesL_ (some 17) rfl rfl Try.func35 (by kernel_rfl) rfl #[.agg #[.string ((rd_T47 l0 x5_1).f0), .int .i64 ((rd_T47 l0 x5_1).f1), .int .i64 ((rd_T47 l0 x5_1).f2.f0), .int .i64 ((rd_T47 l0 x5_1).f2.f1), .string ((rd_T47 l0 x5_1).f2.f2)], .slice A1 l1.length c1] rfl (by (try simp only [List.map_toArray, List.map_cons, List.map_nil]); first | done | rfl | (simp only [List.length_drop, List.length_take]; rfl)) ?_; (with_reducible refine (rosetteref06_Meets.calls k1 ((rd_T47 l0 x5_1).f0) ((rd_T47 l0 x5_1).f1) ((rd_T47 l0 x5_1).f2.f0) ((rd_T47 l0 x5_1).f2.f1) ((rd_T47 l0 x5_1).f2.f2) _ _ l1 false _ ?side1 ?side2 A5.out).mono ?_); (case side1 => repeat (first | exact (Kd.C_below HR1.out HB.out) | (with_reducible refine Kd.C_alloc ?_ _) | (with_reducible refine Kd.C_drewN ?_ _) | (with_reducible refine Kd.C_drew ?_))); (case side2 => exact HC1.out); rintro e w8 ⟨rfl, hb⟩; refine ⟨_, rfl, ?_⟩; have n0_ := Aside0.mk (below_step (by repeat (first | (with_reducible first | exact HB.out | apply below_alloc | apply pw_below_drewN | apply below_drew1) | exact HB.out)) hb); clear HB; have HB := n0_; clear n0_; (try clear hb); (try clear hb2); (try clear hk); (try clear hi)))
            go_ret
            exact ⟨by first | rfl | (simp [errW_none, errW_some] <;> rfl) | (simp [*, errW_none, errW_some] <;> rfl), by repeat (first | (with_reducible first | exact HB.out | apply below_alloc | apply pw_below_drewN | apply below_drew1) | exact HB.out)⟩
        · rw [if_neg c4] at H
          exact absurd H (by simp)
      · rw [if_neg c3] at H
        have c3b0 : decide (x5_1 < (l0.length : Int)) = false := decide_eq_false c3
        clear c3
        obtain rfl := Option.some.inj H
        go_wp2
        go_ret
        exact ⟨by first | rfl | (simp [errW_none, errW_some] <;> rfl) | (simp [*, errW_none, errW_some] <;> rfl), by repeat (first | (with_reducible first | exact HB.out | apply below_alloc | apply pw_below_drewN | apply below_drew1) | exact HB.out)⟩

end Go.Proofs.Ytbcnknmgljdmlaa.G
end

section
-- Written by a program of this session (wip/tools/myprint.py), over the kit's print.
namespace Go.Proofs.Ytbcnknmgljdmlaa.G
open Go.RowKit Go.Proofs.YtbcnknmgljdmlaaW.PrintWords Go.Proofs.YtbcnknmgljdmlaaW.PrintLast Go.Proofs.YtbcnknmgljdmlaaW.PrintMore
attribute [local go_sem] max2_int min2_int max_two min_two max_three min_three max_four min_four   -- for this text's walks alone
set_option linter.unusedVariables false
set_option linter.unusedSimpArgs false

/-! ### rosetteref12_Meet: function 17 -/
def rosetteref12_Meet.l0 : Nat → List (S41) → List (S49) → List Int → Int → Option (List Int)
  | 0, _, _, _, _ => none
  | k + 1, x0, x1, x5, x6 => if x6 < (x0.length : Int) then (if 0 ≤ x6 then ((rosetteref08_Meets.f k ((rd_T41 x0 x6).f2) x1).bind fun t183 => (if t183 = true then (if x5.length < 17592186044416 then (rosetteref12_Meet.l0 k x0 x1 (x5 ++ [(rd_T41 x0 x6).f0]) (wrap64 (x6 + 1))) else (none)) else (rosetteref12_Meet.l0 k x0 x1 x5 (wrap64 (x6 + 1))))) else (none)) else (some x5)
def rosetteref12_Meet.f (k : Nat) (l0 : List (S41)) (l1 : List (S49)) : Option (List Int) := rosetteref12_Meet.l0 k l0 l1 ([] : List Int) 0
theorem rosetteref12_Meet.mono_l : ∀ k, (∀ y0 y1 y2 y3, LeO (rosetteref12_Meet.l0 k y0 y1 y2 y3) (rosetteref12_Meet.l0 (k + 1) y0 y1 y2 y3))
  | 0 => fun _ _ _ _ r h => by simp [rosetteref12_Meet.l0] at h
  | k + 1 => by
    have ih0 := rosetteref12_Meet.mono_l k
    · intro y0 y1 y2 y3
      unfold rosetteref12_Meet.l0
      repeat' first
      | (with_reducible exact ih0 _ _ _ _)
      | (with_reducible exact rosetteref08_Meets.mono _ _ _)
      | (with_reducible exact LeO.refl _)
      | (with_reducible exact LeO.none _)
      | (with_reducible refine LeO.ite ?_ ?_)
      | (with_reducible refine LeO.bind ?_ (fun _ => ?_))
      | exact ih0 _ _ _ _
      | exact rosetteref08_Meets.mono _ _ _
      | exact LeO.none _
      | refine LeO.ite ?_ ?_
      | refine LeO.bind ?_ (fun _ => ?_)
theorem rosetteref12_Meet.mono : ∀ a0 a1 k, LeO (rosetteref12_Meet.f k a0 a1) (rosetteref12_Meet.f (k + 1) a0 a1) := by
  intro a0 a1 k
  have ih0 := rosetteref12_Meet.mono_l k
  unfold rosetteref12_Meet.f
  repeat' first
      | (with_reducible exact ih0 _ _ _ _)
      | (with_reducible exact rosetteref08_Meets.mono _ _ _)
      | (with_reducible exact LeO.refl _)
      | (with_reducible exact LeO.none _)
      | (with_reducible refine LeO.ite ?_ ?_)
      | (with_reducible refine LeO.bind ?_ (fun _ => ?_))
      | exact ih0 _ _ _ _
      | exact rosetteref08_Meets.mono _ _ _
      | exact LeO.none _
      | refine LeO.ite ?_ ?_
      | refine LeO.bind ?_ (fun _ => ?_)
set_option maxHeartbeats 8000000 in
set_option maxRecDepth 100000 in
theorem rosetteref12_Meet.calls (k : Nat) (A0 : Option Addr) (c0 : Nat) (l0 : List (S41)) (A1 : Option Addr) (c1 : Nat) (l1 : List (S49)) (r : List Int) (w : World) (hr0 : Kd.C k41 w A0 l0.length l0) (hc0 : l0.length ≤ c0) (hr1 : Kd.C k49 w A1 l1.length l1) (hc1 : l1.length ≤ c1) (h : rosetteref12_Meet.f k l0 l1 = some r) :
    Calls Try.prog 17 #[.slice A0 l0.length c0, .slice A1 l1.length c1] w fun e w' => ∃ v0_ : Value, e = .returned (v0_) ∧ Kd.R (Kd.int .i64) 3 w' w.heap.size (fun _ => True) v0_ r ∧ Below w.heap.size w w' := by
  have HR0 := Aside0.mk hr0
  have HC0 := Aside0.mk hc0
  clear hr0 hc0
  have HR1 := Aside0.mk hr1
  have HC1 := Aside0.mk hc1
  clear hr1 hc1
  have HB := Aside0.mk (Below.refl w.heap.size w)
  have H : (rosetteref12_Meet.l0 k l0 l1 ([] : List Int) 0) = some r := h
  clear h
  have H' := Aside0.mk H
  clear H
  go_enter Try.func17, Try.ntmps17
  go_wp2
  go_loopg [5, 6] k (fun kq v5 v6 w' => ∃ (x5_1 : List Int) (x6_1 : Int), v6 = .int .i64 x6_1 ∧ Aside0 (rosetteref12_Meet.l0 kq l0 l1 x5_1 x6_1 = some r) ∧ Aside0 (kq ≤ k) ∧ Aside0 (Kd.R (Kd.int .i64) 3 w' w.heap.size (fun _ => True) v5 x5_1) ∧ Aside0 (Below w.heap.size w w'))
  case atStart => exact ⟨(([] : List Int)), (0), (by first | rfl | (simp; done) | (simp [*]; done)), H', ⟨Nat.le_refl _⟩, ⟨by first | exact Kd.R_nil _ _ _ _ _ | exact Kd.N_nil _ _ _ _ _ | exact Kd.V_nil _ _ _ _ _ | exact Kd.Q_nil _ _ _ _ _ | exact Kd.S_nil _ _ _ _ _⟩, ⟨by repeat (first | (with_reducible first | exact HB.out | apply below_alloc | apply pw_below_drewN | apply below_drew1) | exact HB.out)⟩⟩
  case round =>
    clear H'
    try clear c1
    try clear p2
    obtain ⟨x5_1, x6_1, rfl, HA, HK1, HO_5, HB⟩ := hrel
    cases gk with
    | zero => exact absurd HA.out (by simp [rosetteref12_Meet.l0])
    | succ k1 =>
      have H := HA.out
      clear HA
      simp only [rosetteref12_Meet.l0] at H
      by_cases c3 : x6_1 < (l0.length : Int)
      · rw [if_pos c3] at H
        have c3b0 : decide (x6_1 < (l0.length : Int)) = true := decide_eq_true c3
        clear c3
        by_cases c4 : 0 ≤ x6_1
        · rw [if_pos c4] at H
          have c4b0 : decide (0 ≤ x6_1) = true := decide_eq_true c4
          clear c4
          replace H := Option.bind_eq_some_iff.mp H
          obtain ⟨t183, A50, H⟩ := H
          replace H : (if t183 = true then (if x5_1.length < 17592186044416 then (rosetteref12_Meet.l0 k1 l0 l1 (x5_1 ++ [(rd_T41 l0 x6_1).f0]) (wrap64 (x6_1 + 1))) else (none)) else (rosetteref12_Meet.l0 k1 l0 l1 x5_1 (wrap64 (x6_1 + 1)))) = some r := H
          have A5 := Aside0.mk A50
          clear A50
          by_cases c6 : t183 = true
          · subst c6
            have H1 : (if x5_1.length < 17592186044416 then (rosetteref12_Meet.l0 k1 l0 l1 (x5_1 ++ [(rd_T41 l0 x6_1).f0]) (wrap64 (x6_1 + 1))) else (none)) = some r := by rw [if_pos rfl] at H; exact H
            clear H
            have H := H1
            clear H1
            by_cases c7 : x5_1.length < 17592186044416
            · rw [if_pos c7] at H
              have LMc7 := Aside0.mk c7
              clear c7
              obtain ⟨y185, hy185⟩ : ∃ y_ : List Int, y_ = (x5_1 ++ [(rd_T41 l0 x6_1).f0]) := ⟨_, rfl⟩
              replace H : (rosetteref12_Meet.l0 k1 l0 l1 y185 (wrap64 (x6_1 + 1))) = some r := by first | (rw [hy185]; with_reducible exact H) | (have H2_ := (Option.bind_some _ _).symm.trans H; rw [hy185]; with_reducible exact H2_) | (have H2_ := (Option.bind_some _ _).symm.trans H; with_reducible exact H2_) | with_reducible exact H | (rw [hy185]; exact H) | exact H
              have Ny185 := Aside0.mk hy185
              clear hy185
              have H' := Aside0.mk H
              clear H
              have p182 : 0 ≤ (x6_1 : Int) := of_decide_eq_true (by first | (with_reducible assumption) | assumption)
              have q182 : x6_1 < (l0.length : Int) := of_decide_eq_true (by first | (with_reducible assumption) | assumption)
              obtain ⟨ad182, A182_2, c182_2, e182, hx182_0, hx182_1, hx182_2, hl182_2, hi182_2⟩ := at_T41 HR0.out x6_1 p182 q182
              cases e182
              replace hx182_0 := (HB.out.cell (World.block_lt_of_cell? w _ hx182_0)).trans hx182_0
              replace hx182_1 := (HB.out.cell (World.block_lt_of_cell? w _ hx182_1)).trans hx182_1
              replace hx182_2 := (HB.out.cell (World.block_lt_of_cell? w _ hx182_2)).trans hx182_2
              have HR182_2 := Aside0.mk hi182_2
              have HC182_2 := Aside0.mk hl182_2
              clear hi182_2 hl182_2
              replace p182 := eq_true p182
              replace q182 := eq_true q182
              go_wp2_with (first | ((with_reducible refine gate_callee (f := 25) rfl ?_); refine goesL_ (some 19) rfl rfl Try.func25 (by kernel_rfl) rfl #[.slice A182_2 ((rd_T41 l0 x6_1).f2).length c182_2, .slice A1 l1.length c1] rfl (by (try simp only [List.map_toArray, List.map_cons, List.map_nil]); first | done | rfl | (simp only [List.length_drop, List.length_take]; rfl)) ?_; (with_reducible refine (rosetteref08_Meets.calls k1 _ _ ((rd_T41 l0 x6_1).f2) _ _ l1 true _ ?side1 ?side2 ?side3 ?side4 A5.out).mono ?_); (case side1 => repeat (first | exact (Kd.C_below HR182_2.out HB.out) | (with_reducible refine Kd.C_alloc ?_ _) | (with_reducible refine Kd.C_drewN ?_ _) | (with_reducible refine Kd.C_drew ?_))); (case side2 => exact HC182_2.out); (case side3 => repeat (first | exact (Kd.C_below HR1.out HB.out) | (with_reducible refine Kd.C_alloc ?_ _) | (with_reducible refine Kd.C_drewN ?_ _) | (with_reducible refine Kd.C_drew ?_))); (case side4 => exact HC1.out); rintro e w8 ⟨rfl, hb⟩; refine ⟨_, rfl, ?_⟩; have n0_ := Aside0.mk (Kd.R_below (by (with_reducible repeat (first | apply Kd.R_alloc | apply Kd.R_drewN | apply Kd.R_drew)); exact HO_5.out) hb); have n1_ := Aside0.mk (below_step (by repeat (first | (with_reducible first | exact HB.out | apply below_alloc | apply pw_below_drewN | apply below_drew1) | exact HB.out)) hb); clear HO_5; clear HB; have HO_5 := n0_; have HB := n1_; clear n0_ n1_; (try clear hb); (try clear hb2); (try clear hk); (try clear hi); have p184 : 0 ≤ (x6_1 : Int) := of_decide_eq_true (by first | (with_reducible assumption) | assumption); have q184 : x6_1 < (l0.length : Int) := of_decide_eq_true (by first | (with_reducible assumption) | assumption); obtain ⟨ad184, A184_2, c184_2, e184, hx184_0, hx184_1, hx184_2, hl184_2, hi184_2⟩ := at_T41 HR0.out x6_1 p184 q184; obtain rfl : ad182 = ad184 := (by injection e184); replace hx184_0 := (HB.out.cell (World.block_lt_of_cell? w _ hx184_0)).trans hx184_0; replace hx184_1 := (HB.out.cell (World.block_lt_of_cell? w _ hx184_1)).trans hx184_1; replace hx184_2 := (HB.out.cell (World.block_lt_of_cell? w _ hx184_2)).trans hx184_2; have HR184_2 := Aside0.mk hi184_2; have HC184_2 := Aside0.mk hl184_2; clear hi184_2 hl184_2; replace p184 := eq_true p184; replace q184 := eq_true q184) | ((with_reducible refine gate_builtin (b := .append) (xs := #[.tmp 20, .tmp 26]) rfl ?_); at_builtin; refine Kd.R_append (Kd.int .i64) (w0 := w) w.heap.size rfl (.tmp 20) (.tmp 26) 32 3 (.int .i64 0) 8 rfl Try.underlying32 info3 rfl (by decide) (by decide) u5 x5_1 ((rd_T41 l0 x6_1).f0) [.int .i64 ((rd_T41 l0 x6_1).f0)] (fun _ => True) (fun _ => False) rfl rfl ?aP (fun _ hk => hk.elim) ?aF ?aO ?aB ?aS ?aL ?_; (case aP => exact rfl); (case aB => exact (by repeat (first | (with_reducible first | exact HB.out | apply below_alloc | apply pw_below_drewN | apply below_drew1) | exact HB.out))); (case aF => exact (fun _ _ => trivial)); (case aO => exact (by (with_reducible repeat (first | apply Kd.R_alloc | apply Kd.R_drewN | apply Kd.R_drew)); exact HO_5.out)); (case aS => exact (below_size (by repeat (first | (with_reducible first | exact HB.out | apply below_alloc | apply pw_below_drewN | apply below_drew1) | exact HB.out)))); (case aL => have := LMc7.out; omega); intro v186 w9 ho hb hg hat; rw [← Ny185.out] at ho; have n0_ := Aside0.mk (hb); have n1_ := Aside0.mk (ho); clear HB; clear HO_5; have HB := n0_; have HO187 := n1_; clear n0_ n1_; clear ho hb hg hat))
              go_roundg k1
              case measure => have := HK1.out; omega
              case rel => exact ⟨(y185), (wrap64 (x6_1 + 1)), (by first | rfl | (simp; done) | (simp [*]; done)), H', ⟨by have := HK1.out; omega⟩, ⟨by (with_reducible repeat (first | apply Kd.R_alloc | apply Kd.R_drewN | apply Kd.R_drew)); exact HO187.out⟩, ⟨by repeat (first | (with_reducible first | exact HB.out | apply below_alloc | apply pw_below_drewN | apply below_drew1) | exact HB.out)⟩⟩
            · rw [if_neg c7] at H
              exact absurd H (by simp)
          · replace c6 := Bool.eq_false_iff.mpr c6
            subst c6
            have H1 : (rosetteref12_Meet.l0 k1 l0 l1 x5_1 (wrap64 (x6_1 + 1))) = some r := by rw [if_neg (show ¬ (false = true) by decide)] at H; exact H
            clear H
            have H := H1
            clear H1
            have H' := Aside0.mk H
            clear H
            have p182 : 0 ≤ (x6_1 : Int) := of_decide_eq_true (by first | (with_reducible assumption) | assumption)
            have q182 : x6_1 < (l0.length : Int) := of_decide_eq_true (by first | (with_reducible assumption) | assumption)
            obtain ⟨ad182, A182_2, c182_2, e182, hx182_0, hx182_1, hx182_2, hl182_2, hi182_2⟩ := at_T41 HR0.out x6_1 p182 q182
            cases e182
            replace hx182_0 := (HB.out.cell (World.block_lt_of_cell? w _ hx182_0)).trans hx182_0
            replace hx182_1 := (HB.out.cell (World.block_lt_of_cell? w _ hx182_1)).trans hx182_1
            replace hx182_2 := (HB.out.cell (World.block_lt_of_cell? w _ hx182_2)).trans hx182_2
            have HR182_2 := Aside0.mk hi182_2
            have HC182_2 := Aside0.mk hl182_2
            clear hi182_2 hl182_2
            replace p182 := eq_true p182
            replace q182 := eq_true q182
            go_wp2_with (first | ((with_reducible refine gate_callee (f := 25) rfl ?_); refine goesL_ (some 19) rfl rfl Try.func25 (by kernel_rfl) rfl #[.slice A182_2 ((rd_T41 l0 x6_1).f2).length c182_2, .slice A1 l1.length c1] rfl (by (try simp only [List.map_toArray, List.map_cons, List.map_nil]); first | done | rfl | (simp only [List.length_drop, List.length_take]; rfl)) ?_; (with_reducible refine (rosetteref08_Meets.calls k1 _ _ ((rd_T41 l0 x6_1).f2) _ _ l1 false _ ?side1 ?side2 ?side3 ?side4 A5.out).mono ?_); (case side1 => repeat (first | exact (Kd.C_below HR182_2.out HB.out) | (with_reducible refine Kd.C_alloc ?_ _) | (with_reducible refine Kd.C_drewN ?_ _) | (with_reducible refine Kd.C_drew ?_))); (case side2 => exact HC182_2.out); (case side3 => repeat (first | exact (Kd.C_below HR1.out HB.out) | (with_reducible refine Kd.C_alloc ?_ _) | (with_reducible refine Kd.C_drewN ?_ _) | (with_reducible refine Kd.C_drew ?_))); (case side4 => exact HC1.out); rintro e w10 ⟨rfl, hb⟩; refine ⟨_, rfl, ?_⟩; have n0_ := Aside0.mk (Kd.R_below (by (with_reducible repeat (first | apply Kd.R_alloc | apply Kd.R_drewN | apply Kd.R_drew)); exact HO_5.out) hb); have n1_ := Aside0.mk (below_step (by repeat (first | (with_reducible first | exact HB.out | apply below_alloc | apply pw_below_drewN | apply below_drew1) | exact HB.out)) hb); clear HO_5; clear HB; have HO_5 := n0_; have HB := n1_; clear n0_ n1_; (try clear hb); (try clear hb2); (try clear hk); (try clear hi)))
            go_roundg k1
            case measure => have := HK1.out; omega
            case rel => exact ⟨(x5_1), (wrap64 (x6_1 + 1)), (by first | rfl | (simp; done) | (simp [*]; done)), H', ⟨by have := HK1.out; omega⟩, ⟨by (with_reducible repeat (first | apply Kd.R_alloc | apply Kd.R_drewN | apply Kd.R_drew)); exact HO_5.out⟩, ⟨by repeat (first | (with_reducible first | exact HB.out | apply below_alloc | apply pw_below_drewN | apply below_drew1) | exact HB.out)⟩⟩
        · rw [if_neg c4] at H
          exact absurd H (by simp)
      · rw [if_neg c3] at H
        have c3b0 : decide (x6_1 < (l0.length : Int)) = false := decide_eq_false c3
        clear c3
        obtain rfl := Option.some.inj H
        go_wp2
        go_ret
        exact ⟨_, by first | rfl | (simp [errW_none, errW_some] <;> rfl) | (simp [*, errW_none, errW_some] <;> rfl), by (with_reducible repeat (first | apply Kd.R_alloc | apply Kd.R_drewN | apply Kd.R_drew)); exact HO_5.out, by repeat (first | (with_reducible first | exact HB.out | apply below_alloc | apply pw_below_drewN | apply below_drew1) | exact HB.out)⟩

end Go.Proofs.Ytbcnknmgljdmlaa.G
end

section
-- Written by a program of this session (wip/tools/myprint.py), over the kit's print.
namespace Go.Proofs.Ytbcnknmgljdmlaa.G
open Go.RowKit Go.Proofs.YtbcnknmgljdmlaaW.PrintWords Go.Proofs.YtbcnknmgljdmlaaW.PrintLast Go.Proofs.YtbcnknmgljdmlaaW.PrintMore
attribute [local go_sem] max2_int min2_int max_two min_two max_three min_three max_four min_four   -- for this text's walks alone
set_option linter.unusedVariables false
set_option linter.unusedSimpArgs false

theorem eqA47 (d : Nat) (w : World) (x0 y0 : ByteArray) (x1 y1 : Int) (x2 y2 : Int) (x3 y3 : Int) (x4 y4 : ByteArray) :
    (Op.equalIn (d + 3) 47 (.agg #[.string x0, .int .i64 x1, .int .i64 x2, .int .i64 x3, .string x4]) (.agg #[.string y0, .int .i64 y1, .int .i64 y2, .int .i64 y3, .string y4])).run Try.prog w = .ok (x0.toList == y0.toList && (x1 == y1 && ((x2 == y2 && (x3 == y3 && (x4.toList == y4.toList)))))) w := by
  refine eqA_of Try.underlying47 (by kernel_rfl) ?_
  refine eqf_cons (by rfl) (by go_simp; rfl) (by go_simp; rfl) (by go_simp) ?_
  refine eqf_cons (by rfl) (by go_simp; rfl) (by go_simp; rfl) (by go_simp) ?_
  exact eqf_last (by rfl) (by go_simp) (by go_simp) (eqA45 (d + 0) w _ _ _ _ _ _)
end Go.Proofs.Ytbcnknmgljdmlaa.G
end

section
-- Written by a program of this session (wip/tools/myprint.py), over the kit's print.
namespace Go.Proofs.Ytbcnknmgljdmlaa.G
open Go.RowKit Go.Proofs.YtbcnknmgljdmlaaW.PrintWords Go.Proofs.YtbcnknmgljdmlaaW.PrintLast Go.Proofs.YtbcnknmgljdmlaaW.PrintMore
attribute [local go_sem] max2_int min2_int max_two min_two max_three min_three max_four min_four   -- for this text's walks alone
set_option linter.unusedVariables false
set_option linter.unusedSimpArgs false

attribute [local go_sem high] eqA47
/-! ### rosetteref12_Size: function 12 -/
mutual
def rosetteref12_Size.l0 : Nat → List (S41) → List (S47) → Int → Option (Int)
  | 0, _, _, _ => none
  | k + 1, x0, x3, x4 => if x4 < (x0.length : Int) then (rosetteref12_Size.l1 k x0 x3 x4 0) else (some (x3.length : Int))
def rosetteref12_Size.l1 : Nat → List (S41) → List (S47) → Int → Int → Option (Int)
  | 0, _, _, _, _ => none
  | k + 1, x0, x3, x4, x5 => if 0 ≤ x4 then (if x4 < (x0.length : Int) then (if x5 < (((rd_T41 x0 x4).f2).length : Int) then (if 0 ≤ x5 then (rosetteref12_Size.l2 k x0 x3 x4 x5 false 0 ((rd_T47 ((rd_T41 x0 x4).f2) x5).f0) ((rd_T47 ((rd_T41 x0 x4).f2) x5).f1) ((rd_T47 ((rd_T41 x0 x4).f2) x5).f2.f0) ((rd_T47 ((rd_T41 x0 x4).f2) x5).f2.f1) ((rd_T47 ((rd_T41 x0 x4).f2) x5).f2.f2)) else (none)) else (rosetteref12_Size.l0 k x0 x3 (wrap64 (x4 + 1)))) else (none)) else (none)
def rosetteref12_Size.l2 : Nat → List (S41) → List (S47) → Int → Int → Bool → Int → ByteArray → Int → Int → Int → ByteArray → Option (Int)
  | 0, _, _, _, _, _, _, _, _, _, _, _ => none
  | k + 1, x0, x3, x4, x5, x7, x8, x146000, x146001, x146002, x146003, x146004 => if x8 < (x3.length : Int) then (if x7 = true then (rosetteref12_Size.l2 k x0 x3 x4 x5 true (wrap64 (x8 + 1)) x146000 x146001 x146002 x146003 x146004) else (if 0 ≤ x8 then (rosetteref12_Size.l2 k x0 x3 x4 x5 ((((rd_T47 x3 x8).f0).toList) == x146000.toList && (((rd_T47 x3 x8).f1) == x146001 && ((((rd_T47 x3 x8).f2.f0) == x146002 && (((rd_T47 x3 x8).f2.f1) == x146003 && ((((rd_T47 x3 x8).f2.f2).toList) == x146004.toList)))))) (wrap64 (x8 + 1)) x146000 x146001 x146002 x146003 x146004) else (none))) else (if x7 = true then (rosetteref12_Size.l1 k x0 x3 x4 (wrap64 (x5 + 1))) else (if x3.length < 2513169434916 then (rosetteref12_Size.l1 k x0 (x3 ++ [(⟨x146000, x146001, (⟨x146002, x146003, x146004⟩ : S45)⟩ : S47)]) x4 (wrap64 (x5 + 1))) else (none)))
end
def rosetteref12_Size.f (k : Nat) (l0 : List (S41)) : Option (Int) := rosetteref12_Size.l0 k l0 ([] : List (S47)) 0
theorem rosetteref12_Size.mono_l : ∀ k, (∀ y0 y1 y2, LeO (rosetteref12_Size.l0 k y0 y1 y2) (rosetteref12_Size.l0 (k + 1) y0 y1 y2)) ∧ (∀ y0 y1 y2 y3, LeO (rosetteref12_Size.l1 k y0 y1 y2 y3) (rosetteref12_Size.l1 (k + 1) y0 y1 y2 y3)) ∧ (∀ y0 y1 y2 y3 y4 y5 y6 y7 y8 y9 y10, LeO (rosetteref12_Size.l2 k y0 y1 y2 y3 y4 y5 y6 y7 y8 y9 y10) (rosetteref12_Size.l2 (k + 1) y0 y1 y2 y3 y4 y5 y6 y7 y8 y9 y10))
  | 0 => ⟨fun _ _ _ r h => by simp [rosetteref12_Size.l0] at h, fun _ _ _ _ r h => by simp [rosetteref12_Size.l1] at h, fun _ _ _ _ _ _ _ _ _ _ _ r h => by simp [rosetteref12_Size.l2] at h⟩
  | k + 1 => by
    obtain ⟨ih0, ih1, ih2⟩ := rosetteref12_Size.mono_l k
    refine ⟨?_, ?_, ?_⟩
    · intro y0 y1 y2
      unfold rosetteref12_Size.l0
      repeat' first
      | (with_reducible exact ih0 _ _ _)
      | (with_reducible exact ih1 _ _ _ _)
      | (with_reducible exact ih2 _ _ _ _ _ _ _ _ _ _ _)
      | (with_reducible exact LeO.refl _)
      | (with_reducible exact LeO.none _)
      | (with_reducible refine LeO.ite ?_ ?_)
      | (with_reducible refine LeO.bind ?_ (fun _ => ?_))
      | exact ih0 _ _ _
      | exact ih1 _ _ _ _
      | exact ih2 _ _ _ _ _ _ _ _ _ _ _
      | exact LeO.none _
      | refine LeO.ite ?_ ?_
      | refine LeO.bind ?_ (fun _ => ?_)
    · intro y0 y1 y2 y3
      unfold rosetteref12_Size.l1
      repeat' first
      | (with_reducible exact ih0 _ _ _)
      | (with_reducible exact ih1 _ _ _ _)
      | (with_reducible exact ih2 _ _ _ _ _ _ _ _ _ _ _)
      | (with_reducible exact LeO.refl _)
      | (with_reducible exact LeO.none _)
      | (with_reducible refine LeO.ite ?_ ?_)
      | (with_reducible refine LeO.bind ?_ (fun _ => ?_))
      | exact ih0 _ _ _
      | exact ih1 _ _ _ _
      | exact ih2 _ _ _ _ _ _ _ _ _ _ _
      | exact LeO.none _
      | refine LeO.ite ?_ ?_
      | refine LeO.bind ?_ (fun _ => ?_)
    · intro y0 y1 y2 y3 y4 y5 y6 y7 y8 y9 y10
      unfold rosetteref12_Size.l2
      repeat' first
      | (with_reducible exact ih0 _ _ _)
      | (with_reducible exact ih1 _ _ _ _)
      | (with_reducible exact ih2 _ _ _ _ _ _ _ _ _ _ _)
      | (with_reducible exact LeO.refl _)
      | (with_reducible exact LeO.none _)
      | (with_reducible refine LeO.ite ?_ ?_)
      | (with_reducible refine LeO.bind ?_ (fun _ => ?_))
      | exact ih0 _ _ _
      | exact ih1 _ _ _ _
      | exact ih2 _ _ _ _ _ _ _ _ _ _ _
      | exact LeO.none _
      | refine LeO.ite ?_ ?_
      | refine LeO.bind ?_ (fun _ => ?_)
theorem rosetteref12_Size.mono : ∀ a0 k, LeO (rosetteref12_Size.f k a0) (rosetteref12_Size.f (k + 1) a0) := by
  intro a0 k
  obtain ⟨ih0, ih1, ih2⟩ := rosetteref12_Size.mono_l k
  unfold rosetteref12_Size.f
  repeat' first
      | (with_reducible exact ih0 _ _ _)
      | (with_reducible exact ih1 _ _ _ _)
      | (with_reducible exact ih2 _ _ _ _ _ _ _ _ _ _ _)
      | (with_reducible exact LeO.refl _)
      | (with_reducible exact LeO.none _)
      | (with_reducible refine LeO.ite ?_ ?_)
      | (with_reducible refine LeO.bind ?_ (fun _ => ?_))
      | exact ih0 _ _ _
      | exact ih1 _ _ _ _
      | exact ih2 _ _ _ _ _ _ _ _ _ _ _
      | exact LeO.none _
      | refine LeO.ite ?_ ?_
      | refine LeO.bind ?_ (fun _ => ?_)
set_option maxHeartbeats 8000000 in
set_option maxRecDepth 100000 in
theorem rosetteref12_Size.calls (k : Nat) (A0 : Option Addr) (c0 : Nat) (l0 : List (S41)) (r : Int) (w : World) (hr0 : Kd.C k41 w A0 l0.length l0) (hc0 : l0.length ≤ c0) (h : rosetteref12_Size.f k l0 = some r) :
    Calls Try.prog 12 #[.slice A0 l0.length c0] w fun e w' => e = .returned (.int .i64 r) ∧ Below w.heap.size w w' := by
  have hu47 := Try.underlying47
  have HR0 := Aside0.mk hr0
  have HC0 := Aside0.mk hc0
  clear hr0 hc0
  have HB := Aside0.mk (Below.refl w.heap.size w)
  have H : (rosetteref12_Size.l0 k l0 ([] : List (S47)) 0) = some r := h
  clear h
  have H' := Aside0.mk H
  clear H
  go_enter Try.func12, Try.ntmps12
  go_wp2
  repeat (go_quiet (fail); try go_wp2)
  go_loopg [3, 4] k (fun kq v3 v4 w' => ∃ (x3_1 : List (S47)) (x4_1 : Int), v4 = .int .i64 x4_1 ∧ Aside0 (rosetteref12_Size.l0 kq l0 x3_1 x4_1 = some r) ∧ Aside0 (kq ≤ k) ∧ Aside0 (Kd.R k47 47 w' w.heap.size (fun _ => True) v3 x3_1) ∧ Aside0 (Below w.heap.size w w'))
  case atStart => exact ⟨(([] : List (S47))), (0), (by first | rfl | (simp; done) | (simp [*]; done)), H', ⟨Nat.le_refl _⟩, ⟨by first | exact Kd.R_nil _ _ _ _ _ | exact Kd.N_nil _ _ _ _ _ | exact Kd.V_nil _ _ _ _ _ | exact Kd.Q_nil _ _ _ _ _ | exact Kd.S_nil _ _ _ _ _⟩, ⟨by repeat (first | (with_reducible first | exact HB.out | apply below_alloc | apply pw_below_drewN | apply below_drew1) | exact HB.out)⟩⟩
  case round =>
    clear H'
    try clear c1
    obtain ⟨x3_1, x4_1, rfl, HA, HK1, HO_3, HB⟩ := hrel
    cases gk with
    | zero => exact absurd HA.out (by simp [rosetteref12_Size.l0])
    | succ k1 =>
      have H := HA.out
      clear HA
      simp only [rosetteref12_Size.l0] at H
      by_cases c2 : x4_1 < (l0.length : Int)
      · rw [if_pos c2] at H
        have c2b0 : decide (x4_1 < (l0.length : Int)) = true := decide_eq_true c2
        clear c2
        have H' := Aside0.mk H
        clear H
        go_wp2
        repeat (go_quiet (fail); try go_wp2)
        go_loopg [3, 5] k1 (fun kq v3 v5 w' => ∃ (x3_2 : List (S47)) (x5_2 : Int), v5 = .int .i64 x5_2 ∧ Aside0 (rosetteref12_Size.l1 kq l0 x3_2 x4_1 x5_2 = some r) ∧ Aside0 (kq ≤ k1) ∧ Aside0 (Kd.R k47 47 w' w.heap.size (fun _ => True) v3 x3_2) ∧ Aside0 (Below w.heap.size w w'))
        case atStart => exact ⟨(x3_1), (0), (by first | rfl | (simp; done) | (simp [*]; done)), H', ⟨Nat.le_refl _⟩, ⟨by (with_reducible repeat (first | apply Kd.R_alloc | apply Kd.R_drewN | apply Kd.R_drew)); exact HO_3.out⟩, ⟨by repeat (first | (with_reducible first | exact HB.out | apply below_alloc | apply pw_below_drewN | apply below_drew1) | exact HB.out)⟩⟩
        case round =>
          clear H'
          try clear c1
          try clear c2
          try clear c2b0
          try clear p2
          obtain ⟨x3_2, x5_2, rfl, HA, HK2, HO_3, HB⟩ := hrel
          cases gk with
          | zero => exact absurd HA.out (by simp [rosetteref12_Size.l1])
          | succ k2 =>
            have H := HA.out
            clear HA
            simp only [rosetteref12_Size.l1] at H
            by_cases c3 : 0 ≤ x4_1
            · rw [if_pos c3] at H
              have c3b0 : decide (0 ≤ x4_1) = true := decide_eq_true c3
              clear c3
              by_cases c4 : x4_1 < (l0.length : Int)
              · rw [if_pos c4] at H
                have c4b0 : decide (x4_1 < (l0.length : Int)) = true := decide_eq_true c4
                clear c4
                by_cases c5 : x5_2 < (((rd_T41 l0 x4_1).f2).length : Int)
                · rw [if_pos c5] at H
                  have c5b0 : decide (x5_2 < (((rd_T41 l0 x4_1).f2).length : Int)) = true := decide_eq_true c5
                  clear c5
                  by_cases c6 : 0 ≤ x5_2
                  · rw [if_pos c6] at H
                    have c6b0 : decide (0 ≤ x5_2) = true := decide_eq_true c6
                    clear c6
                    have H' := Aside0.mk H
                    clear H
                    have p142 : 0 ≤ (x4_1 : Int) := of_decide_eq_true (by first | (with_reducible assumption) | assumption)
                    have q142 : x4_1 < (l0.length : Int) := of_decide_eq_true (by first | (with_reducible assumption) | assumption)
                    obtain ⟨ad142, A142_2, c142_2, e142, hx142_0, hx142_1, hx142_2, hl142_2, hi142_2⟩ := at_T41 HR0.out x4_1 p142 q142
                    cases e142
                    replace hx142_0 := (HB.out.cell (World.block_lt_of_cell? w _ hx142_0)).trans hx142_0
                    replace hx142_1 := (HB.out.cell (World.block_lt_of_cell? w _ hx142_1)).trans hx142_1
                    replace hx142_2 := (HB.out.cell (World.block_lt_of_cell? w _ hx142_2)).trans hx142_2
                    have HR142_2 := Aside0.mk hi142_2
                    have HC142_2 := Aside0.mk hl142_2
                    clear hi142_2 hl142_2
                    replace p142 := eq_true p142
                    replace q142 := eq_true q142
                    have p143 : 0 ≤ (x4_1 : Int) := of_decide_eq_true (by first | (with_reducible assumption) | assumption)
                    have q143 : x4_1 < (l0.length : Int) := of_decide_eq_true (by first | (with_reducible assumption) | assumption)
                    obtain ⟨ad143, A143_2, c143_2, e143, hx143_0, hx143_1, hx143_2, hl143_2, hi143_2⟩ := at_T41 HR0.out x4_1 p143 q143
                    obtain rfl : ad142 = ad143 := (by injection e143)
                    replace hx143_0 := (HB.out.cell (World.block_lt_of_cell? w _ hx143_0)).trans hx143_0
                    replace hx143_1 := (HB.out.cell (World.block_lt_of_cell? w _ hx143_1)).trans hx143_1
                    replace hx143_2 := (HB.out.cell (World.block_lt_of_cell? w _ hx143_2)).trans hx143_2
                    have HR143_2 := Aside0.mk hi143_2
                    have HC143_2 := Aside0.mk hl143_2
                    clear hi143_2 hl143_2
                    replace p143 := eq_true p143
                    replace q143 := eq_true q143
                    have ea_ := Option.some.inj (hx142_2.symm.trans hx143_2)
                    injection ea_ with ea_ en_ ec_
                    subst ea_
                    subst ec_
                    clear en_
                    have p144 : 0 ≤ (x5_2 : Int) := of_decide_eq_true (by first | (with_reducible assumption) | assumption)
                    have q144 : x5_2 < (((rd_T41 l0 x4_1).f2).length : Int) := of_decide_eq_true (by first | (with_reducible assumption) | assumption)
                    obtain ⟨ad144, e144, hx144_0, hx144_1, hx144_2, hx144_3, hx144_4⟩ := at_T47 HR143_2.out x5_2 p144 q144
                    cases e144
                    replace hx144_0 := (HB.out.cell (World.block_lt_of_cell? w _ hx144_0)).trans hx144_0
                    replace hx144_1 := (HB.out.cell (World.block_lt_of_cell? w _ hx144_1)).trans hx144_1
                    replace hx144_2 := (HB.out.cell (World.block_lt_of_cell? w _ hx144_2)).trans hx144_2
                    replace hx144_3 := (HB.out.cell (World.block_lt_of_cell? w _ hx144_3)).trans hx144_3
                    replace hx144_4 := (HB.out.cell (World.block_lt_of_cell? w _ hx144_4)).trans hx144_4
                    replace p144 := eq_true p144
                    replace q144 := eq_true q144
                    go_wp2_with (first | ((with_reducible refine gate_dst (N := 6) rfl ?_); refine box_event ?hg (N := 6) ?hd (cs := #[.string (⟨#[]⟩ : ByteArray), .int .i64 0, .int .i64 0, .int .i64 0, .string (⟨#[]⟩ : ByteArray)]) (t := 47) ?hr ?_; (case hd => rfl); (case hg => rfl); (case hr => first | (go_simp; done) | (go_simp; rfl)); intro gb145 hg w7 hbox hb; have n0_ := Aside0.mk (Kd.R_below (Kd.R_elderB (by (with_reducible repeat (first | apply Kd.R_alloc | apply Kd.R_drewN | apply Kd.R_drew)); exact HO_3.out) gb145 (Nat.le_of_eq hg.symm)) hb); have n1_ := Aside0.mk (below_step (by repeat (first | (with_reducible first | exact HB.out | apply below_alloc | apply pw_below_drewN | apply below_drew1) | exact HB.out)) hb); have n2_ := Aside0.mk (hbox); have n3_ := Aside0.mk ((by rw [hg]; exact (below_size (by repeat (first | (with_reducible first | exact HB.out | apply below_alloc | apply pw_below_drewN | apply below_drew1) | exact HB.out))) : w.heap.size ≤ gb145)); have n4_ := Aside0.mk ((by rw [hg]; exact (below_size (by repeat (first | (with_reducible first | exact HB.out | apply below_alloc | apply pw_below_drewN | apply below_drew1) | exact HB.out))) : w.heap.size ≤ gb145)); clear HO_3; clear HB; have HO_3 := n0_; have HB := n1_; have BK145 := n2_; have GW145 := n3_; have GE145 := n4_; clear n0_ n1_ n2_ n3_ n4_; clear hb hbox hg; have hcz8_0 : w7.cell? ⟨gb145, 0, none⟩ = some (.string (⟨#[]⟩ : ByteArray)) := (blk_cell BK145.out 0).trans rfl; have hcz8_1 : w7.cell? ⟨gb145, 1, none⟩ = some (.int .i64 0) := (blk_cell BK145.out 1).trans rfl; have hcz8_2 : w7.cell? ⟨gb145, 2, none⟩ = some (.int .i64 0) := (blk_cell BK145.out 2).trans rfl; have hcz8_3 : w7.cell? ⟨gb145, 3, none⟩ = some (.int .i64 0) := (blk_cell BK145.out 3).trans rfl; have hcz8_4 : w7.cell? ⟨gb145, 4, none⟩ = some (.string (⟨#[]⟩ : ByteArray)) := (blk_cell BK145.out 4).trans rfl; have hfz8_0 := blk_frozen BK145.out 0; have hfz8_1 := blk_frozen BK145.out 1; have hfz8_2 := blk_frozen BK145.out 2; have hfz8_3 := blk_frozen BK145.out 3; have hfz8_4 := blk_frozen BK145.out 4))
                    repeat (go_quiet (first | ((with_reducible refine gate_dst (N := 6) rfl ?_); refine box_event ?hg (N := 6) ?hd (cs := #[.string (⟨#[]⟩ : ByteArray), .int .i64 0, .int .i64 0, .int .i64 0, .string (⟨#[]⟩ : ByteArray)]) (t := 47) ?hr ?_; (case hd => rfl); (case hg => rfl); (case hr => first | (go_simp; done) | (go_simp; rfl)); intro gb145 hg w7 hbox hb; have n0_ := Aside0.mk (Kd.R_below (Kd.R_elderB (by (with_reducible repeat (first | apply Kd.R_alloc | apply Kd.R_drewN | apply Kd.R_drew)); exact HO_3.out) gb145 (Nat.le_of_eq hg.symm)) hb); have n1_ := Aside0.mk (below_step (by repeat (first | (with_reducible first | exact HB.out | apply below_alloc | apply pw_below_drewN | apply below_drew1) | exact HB.out)) hb); have n2_ := Aside0.mk (hbox); have n3_ := Aside0.mk ((by rw [hg]; exact (below_size (by repeat (first | (with_reducible first | exact HB.out | apply below_alloc | apply pw_below_drewN | apply below_drew1) | exact HB.out))) : w.heap.size ≤ gb145)); have n4_ := Aside0.mk ((by rw [hg]; exact (below_size (by repeat (first | (with_reducible first | exact HB.out | apply below_alloc | apply pw_below_drewN | apply below_drew1) | exact HB.out))) : w.heap.size ≤ gb145)); clear HO_3; clear HB; have HO_3 := n0_; have HB := n1_; have BK145 := n2_; have GW145 := n3_; have GE145 := n4_; clear n0_ n1_ n2_ n3_ n4_; clear hb hbox hg; have hcz8_0 : w7.cell? ⟨gb145, 0, none⟩ = some (.string (⟨#[]⟩ : ByteArray)) := (blk_cell BK145.out 0).trans rfl; have hcz8_1 : w7.cell? ⟨gb145, 1, none⟩ = some (.int .i64 0) := (blk_cell BK145.out 1).trans rfl; have hcz8_2 : w7.cell? ⟨gb145, 2, none⟩ = some (.int .i64 0) := (blk_cell BK145.out 2).trans rfl; have hcz8_3 : w7.cell? ⟨gb145, 3, none⟩ = some (.int .i64 0) := (blk_cell BK145.out 3).trans rfl; have hcz8_4 : w7.cell? ⟨gb145, 4, none⟩ = some (.string (⟨#[]⟩ : ByteArray)) := (blk_cell BK145.out 4).trans rfl; have hfz8_0 := blk_frozen BK145.out 0; have hfz8_1 := blk_frozen BK145.out 1; have hfz8_2 := blk_frozen BK145.out 2; have hfz8_3 := blk_frozen BK145.out 3; have hfz8_4 := blk_frozen BK145.out 4)); try go_wp2_with (first | ((with_reducible refine gate_dst (N := 6) rfl ?_); refine box_event ?hg (N := 6) ?hd (cs := #[.string (⟨#[]⟩ : ByteArray), .int .i64 0, .int .i64 0, .int .i64 0, .string (⟨#[]⟩ : ByteArray)]) (t := 47) ?hr ?_; (case hd => rfl); (case hg => rfl); (case hr => first | (go_simp; done) | (go_simp; rfl)); intro gb145 hg w7 hbox hb; have n0_ := Aside0.mk (Kd.R_below (Kd.R_elderB (by (with_reducible repeat (first | apply Kd.R_alloc | apply Kd.R_drewN | apply Kd.R_drew)); exact HO_3.out) gb145 (Nat.le_of_eq hg.symm)) hb); have n1_ := Aside0.mk (below_step (by repeat (first | (with_reducible first | exact HB.out | apply below_alloc | apply pw_below_drewN | apply below_drew1) | exact HB.out)) hb); have n2_ := Aside0.mk (hbox); have n3_ := Aside0.mk ((by rw [hg]; exact (below_size (by repeat (first | (with_reducible first | exact HB.out | apply below_alloc | apply pw_below_drewN | apply below_drew1) | exact HB.out))) : w.heap.size ≤ gb145)); have n4_ := Aside0.mk ((by rw [hg]; exact (below_size (by repeat (first | (with_reducible first | exact HB.out | apply below_alloc | apply pw_below_drewN | apply below_drew1) | exact HB.out))) : w.heap.size ≤ gb145)); clear HO_3; clear HB; have HO_3 := n0_; have HB := n1_; have BK145 := n2_; have GW145 := n3_; have GE145 := n4_; clear n0_ n1_ n2_ n3_ n4_; clear hb hbox hg; have hcz8_0 : w7.cell? ⟨gb145, 0, none⟩ = some (.string (⟨#[]⟩ : ByteArray)) := (blk_cell BK145.out 0).trans rfl; have hcz8_1 : w7.cell? ⟨gb145, 1, none⟩ = some (.int .i64 0) := (blk_cell BK145.out 1).trans rfl; have hcz8_2 : w7.cell? ⟨gb145, 2, none⟩ = some (.int .i64 0) := (blk_cell BK145.out 2).trans rfl; have hcz8_3 : w7.cell? ⟨gb145, 3, none⟩ = some (.int .i64 0) := (blk_cell BK145.out 3).trans rfl; have hcz8_4 : w7.cell? ⟨gb145, 4, none⟩ = some (.string (⟨#[]⟩ : ByteArray)) := (blk_cell BK145.out 4).trans rfl; have hfz8_0 := blk_frozen BK145.out 0; have hfz8_1 := blk_frozen BK145.out 1; have hfz8_2 := blk_frozen BK145.out 2; have hfz8_3 := blk_frozen BK145.out 3; have hfz8_4 := blk_frozen BK145.out 4)))
                    go_loopg [7, 8] k2 (fun kq v7 v8 w' => ∃ (x7_3 : Bool) (x8_3 : Int), v7 = .bool x7_3 ∧ v8 = .int .i64 x8_3 ∧ Aside0 (rosetteref12_Size.l2 kq l0 x3_2 x4_1 x5_2 x7_3 x8_3 ((rd_T47 ((rd_T41 l0 x4_1).f2) x5_2).f0) ((rd_T47 ((rd_T41 l0 x4_1).f2) x5_2).f1) ((rd_T47 ((rd_T41 l0 x4_1).f2) x5_2).f2.f0) ((rd_T47 ((rd_T41 l0 x4_1).f2) x5_2).f2.f1) ((rd_T47 ((rd_T41 l0 x4_1).f2) x5_2).f2.f2) = some r) ∧ Aside0 (kq ≤ k2) ∧ Aside0 (Kd.R k47 47 w' w.heap.size (fun k_ => k_ ≠ gb145) u3 x3_2) ∧ Aside0 (w'.heap[gb145]? = some (.cells #[.string ((rd_T47 ((rd_T41 l0 x4_1).f2) x5_2).f0), .int .i64 ((rd_T47 ((rd_T41 l0 x4_1).f2) x5_2).f1), .int .i64 ((rd_T47 ((rd_T41 l0 x4_1).f2) x5_2).f2.f0), .int .i64 ((rd_T47 ((rd_T41 l0 x4_1).f2) x5_2).f2.f1), .string ((rd_T47 ((rd_T41 l0 x4_1).f2) x5_2).f2.f2)] 47 (0, 0))) ∧ Aside0 (Below w.heap.size w w'))
                    case atStart => exact ⟨(false), (0), (by first | rfl | (simp; done) | (simp [*]; done)), (by first | rfl | (simp; done) | (simp [*]; done)), H', ⟨Nat.le_refl _⟩, ⟨by (with_reducible repeat (first | apply Kd.R_alloc | apply Kd.R_drewN | apply Kd.R_drew)); exact Kd.R_mono (Kd.R_far (p := ⟨gb145, 4, none⟩) (Kd.R_far (p := ⟨gb145, 3, none⟩) (Kd.R_far (p := ⟨gb145, 2, none⟩) (Kd.R_far (p := ⟨gb145, 1, none⟩) (Kd.R_far (p := ⟨gb145, 0, none⟩) (Kd.R_mono HO_3.out (fun k_ hk => (⟨hk, hk.2⟩ : _ ∧ k_ ≠ gb145))) (fun _ hk => hk.2) (.string ((rd_T47 ((rd_T41 l0 x4_1).f2) x5_2).f0))) (fun _ hk => hk.2) (.int .i64 ((rd_T47 ((rd_T41 l0 x4_1).f2) x5_2).f1))) (fun _ hk => hk.2) (.int .i64 ((rd_T47 ((rd_T41 l0 x4_1).f2) x5_2).f2.f0))) (fun _ hk => hk.2) (.int .i64 ((rd_T47 ((rd_T41 l0 x4_1).f2) x5_2).f2.f1))) (fun _ hk => hk.2) (.string ((rd_T47 ((rd_T41 l0 x4_1).f2) x5_2).f2.f2))) (fun _ hk => hk.1.2)⟩, ⟨by (with_reducible repeat (first | refine blk_drewN ?_ _ | refine blk_drew ?_ | refine blk_alloc ?_ _)); refine blk_put (cs := #[.string ((rd_T47 ((rd_T41 l0 x4_1).f2) x5_2).f0), .int .i64 ((rd_T47 ((rd_T41 l0 x4_1).f2) x5_2).f1), .int .i64 ((rd_T47 ((rd_T41 l0 x4_1).f2) x5_2).f2.f0), .int .i64 ((rd_T47 ((rd_T41 l0 x4_1).f2) x5_2).f2.f1), .string (⟨#[]⟩ : ByteArray)]) ?_ 4 _ rfl; (with_reducible repeat (first | refine blk_drewN ?_ _ | refine blk_drew ?_ | refine blk_alloc ?_ _)); refine blk_put (cs := #[.string ((rd_T47 ((rd_T41 l0 x4_1).f2) x5_2).f0), .int .i64 ((rd_T47 ((rd_T41 l0 x4_1).f2) x5_2).f1), .int .i64 ((rd_T47 ((rd_T41 l0 x4_1).f2) x5_2).f2.f0), .int .i64 0, .string (⟨#[]⟩ : ByteArray)]) ?_ 3 _ rfl; (with_reducible repeat (first | refine blk_drewN ?_ _ | refine blk_drew ?_ | refine blk_alloc ?_ _)); refine blk_put (cs := #[.string ((rd_T47 ((rd_T41 l0 x4_1).f2) x5_2).f0), .int .i64 ((rd_T47 ((rd_T41 l0 x4_1).f2) x5_2).f1), .int .i64 0, .int .i64 0, .string (⟨#[]⟩ : ByteArray)]) ?_ 2 _ rfl; (with_reducible repeat (first | refine blk_drewN ?_ _ | refine blk_drew ?_ | refine blk_alloc ?_ _)); refine blk_put (cs := #[.string ((rd_T47 ((rd_T41 l0 x4_1).f2) x5_2).f0), .int .i64 0, .int .i64 0, .int .i64 0, .string (⟨#[]⟩ : ByteArray)]) ?_ 1 _ rfl; (with_reducible repeat (first | refine blk_drewN ?_ _ | refine blk_drew ?_ | refine blk_alloc ?_ _)); refine blk_put (cs := #[.string (⟨#[]⟩ : ByteArray), .int .i64 0, .int .i64 0, .int .i64 0, .string (⟨#[]⟩ : ByteArray)]) ?_ 0 _ rfl; (with_reducible repeat (first | refine blk_drewN ?_ _ | refine blk_drew ?_ | refine blk_alloc ?_ _)); exact BK145.out⟩, ⟨by repeat (first | (with_reducible first | exact HB.out | apply below_alloc | apply pw_below_drewN | apply below_drew1 | refine below_set ?_ GE145.out) | exact HB.out)⟩⟩
                    case round =>
                      clear H'
                      try clear c1
                      try clear p1
                      try clear q1
                      try clear hx1
                      try clear c2
                      try clear c2b0
                      try clear p2
                      try clear c3
                      try clear c3b0
                      try clear c4
                      try clear c4b0
                      try clear c5
                      try clear c5b0
                      try clear c6
                      try clear c6b0
                      try clear hcz8_0
                      try clear hcz8_1
                      try clear hcz8_2
                      try clear hcz8_3
                      try clear hcz8_4
                      try clear hfz8_0
                      try clear hfz8_1
                      try clear hfz8_2
                      try clear hfz8_3
                      try clear hfz8_4
                      try clear hx142_0
                      try clear hx142_1
                      try clear hx142_2
                      try clear hx143_0
                      try clear hx143_1
                      try clear hx143_2
                      try clear hx144_0
                      try clear hx144_1
                      try clear hx144_2
                      try clear hx144_3
                      try clear hx144_4
                      try clear p142
                      try clear p143
                      try clear p144
                      try clear p2
                      try clear q142
                      try clear q143
                      try clear q144
                      obtain ⟨x7_3, x8_3, rfl, rfl, HA, HK3, HO_3, BK145, HB⟩ := hrel
                      cases gk with
                      | zero => exact absurd HA.out (by simp [rosetteref12_Size.l2])
                      | succ k3 =>
                        have H := HA.out
                        clear HA
                        simp only [rosetteref12_Size.l2] at H
                        by_cases c9 : x8_3 < (x3_2.length : Int)
                        · rw [if_pos c9] at H
                          have c9b0 : decide (x8_3 < (x3_2.length : Int)) = true := decide_eq_true c9
                          clear c9
                          by_cases c10 : x7_3 = true
                          · subst c10
                            have H1 : (rosetteref12_Size.l2 k3 l0 x3_2 x4_1 x5_2 true (wrap64 (x8_3 + 1)) ((rd_T47 ((rd_T41 l0 x4_1).f2) x5_2).f0) ((rd_T47 ((rd_T41 l0 x4_1).f2) x5_2).f1) ((rd_T47 ((rd_T41 l0 x4_1).f2) x5_2).f2.f0) ((rd_T47 ((rd_T41 l0 x4_1).f2) x5_2).f2.f1) ((rd_T47 ((rd_T41 l0 x4_1).f2) x5_2).f2.f2)) = some r := by rw [if_pos rfl] at H; exact H
                            clear H
                            have H := H1
                            clear H1
                            have H' := Aside0.mk H
                            clear H
                            obtain ⟨Ao11, co11, eo11⟩ := Kd.R_slice HO_3.out
                            subst eo11
                            go_wp2
                            repeat (go_quiet (fail); try go_wp2)
                            go_roundg k3
                            case measure => have := HK1.out; have := HK2.out; have := HK3.out; omega
                            case rel => exact ⟨(true), (wrap64 (x8_3 + 1)), (by first | rfl | (simp; done) | (simp [*]; done)), (by first | rfl | (simp; done) | (simp [*]; done)), H', ⟨by have := HK1.out; have := HK2.out; have := HK3.out; omega⟩, ⟨by (with_reducible repeat (first | apply Kd.R_alloc | apply Kd.R_drewN | apply Kd.R_drew)); exact HO_3.out⟩, ⟨by (with_reducible repeat (first | refine blk_drewN ?_ _ | refine blk_drew ?_ | refine blk_alloc ?_ _)); exact BK145.out⟩, ⟨by repeat (first | (with_reducible first | exact HB.out | apply below_alloc | apply pw_below_drewN | apply below_drew1 | refine below_set ?_ GE145.out) | exact HB.out)⟩⟩
                          · replace c10 := Bool.eq_false_iff.mpr c10
                            subst c10
                            have H1 : (if 0 ≤ x8_3 then (rosetteref12_Size.l2 k3 l0 x3_2 x4_1 x5_2 ((((rd_T47 x3_2 x8_3).f0).toList) == ((rd_T47 ((rd_T41 l0 x4_1).f2) x5_2).f0).toList && (((rd_T47 x3_2 x8_3).f1) == ((rd_T47 ((rd_T41 l0 x4_1).f2) x5_2).f1) && ((((rd_T47 x3_2 x8_3).f2.f0) == ((rd_T47 ((rd_T41 l0 x4_1).f2) x5_2).f2.f0) && (((rd_T47 x3_2 x8_3).f2.f1) == ((rd_T47 ((rd_T41 l0 x4_1).f2) x5_2).f2.f1) && ((((rd_T47 x3_2 x8_3).f2.f2).toList) == ((rd_T47 ((rd_T41 l0 x4_1).f2) x5_2).f2.f2).toList)))))) (wrap64 (x8_3 + 1)) ((rd_T47 ((rd_T41 l0 x4_1).f2) x5_2).f0) ((rd_T47 ((rd_T41 l0 x4_1).f2) x5_2).f1) ((rd_T47 ((rd_T41 l0 x4_1).f2) x5_2).f2.f0) ((rd_T47 ((rd_T41 l0 x4_1).f2) x5_2).f2.f1) ((rd_T47 ((rd_T41 l0 x4_1).f2) x5_2).f2.f2)) else (none)) = some r := by rw [if_neg (show ¬ (false = true) by decide)] at H; exact H
                            clear H
                            have H := H1
                            clear H1
                            by_cases c12 : 0 ≤ x8_3
                            · rw [if_pos c12] at H
                              have c12b0 : decide (0 ≤ x8_3) = true := decide_eq_true c12
                              clear c12
                              have H' := Aside0.mk H
                              clear H
                              obtain ⟨Ao13, co13, eo13⟩ := Kd.R_slice HO_3.out
                              subst eo13
                              have p146 : 0 ≤ (x8_3 : Int) := of_decide_eq_true (by first | (with_reducible assumption) | assumption)
                              have q146 : x8_3 < (x3_2.length : Int) := of_decide_eq_true (by first | (with_reducible assumption) | assumption)
                              obtain ⟨ad146, e146, hx146_0, hx146_1, hx146_2, hx146_3, hx146_4⟩ := at_T47 (Kd.R_reads' HO_3.out).2.2 x8_3 p146 q146
                              cases e146
                              replace p146 := eq_true p146
                              replace q146 := eq_true q146
                              have hcz14_0 : wr.cell? ⟨gb145, 0, none⟩ = some (.string ((rd_T47 ((rd_T41 l0 x4_1).f2) x5_2).f0)) := (blk_cell BK145.out 0).trans rfl
                              have hcz14_1 : wr.cell? ⟨gb145, 1, none⟩ = some (.int .i64 ((rd_T47 ((rd_T41 l0 x4_1).f2) x5_2).f1)) := (blk_cell BK145.out 1).trans rfl
                              have hcz14_2 : wr.cell? ⟨gb145, 2, none⟩ = some (.int .i64 ((rd_T47 ((rd_T41 l0 x4_1).f2) x5_2).f2.f0)) := (blk_cell BK145.out 2).trans rfl
                              have hcz14_3 : wr.cell? ⟨gb145, 3, none⟩ = some (.int .i64 ((rd_T47 ((rd_T41 l0 x4_1).f2) x5_2).f2.f1)) := (blk_cell BK145.out 3).trans rfl
                              have hcz14_4 : wr.cell? ⟨gb145, 4, none⟩ = some (.string ((rd_T47 ((rd_T41 l0 x4_1).f2) x5_2).f2.f2)) := (blk_cell BK145.out 4).trans rfl
                              have hfz14_0 := blk_frozen BK145.out 0
                              have hfz14_1 := blk_frozen BK145.out 1
                              have hfz14_2 := blk_frozen BK145.out 2
                              have hfz14_3 := blk_frozen BK145.out 3
                              have hfz14_4 := blk_frozen BK145.out 4
                              go_wp2
                              repeat (go_quiet (fail); try go_wp2)
                              go_roundg k3
                              case measure => have := HK1.out; have := HK2.out; have := HK3.out; omega
                              case rel => exact ⟨(((((rd_T47 x3_2 x8_3).f0).toList) == ((rd_T47 ((rd_T41 l0 x4_1).f2) x5_2).f0).toList && (((rd_T47 x3_2 x8_3).f1) == ((rd_T47 ((rd_T41 l0 x4_1).f2) x5_2).f1) && ((((rd_T47 x3_2 x8_3).f2.f0) == ((rd_T47 ((rd_T41 l0 x4_1).f2) x5_2).f2.f0) && (((rd_T47 x3_2 x8_3).f2.f1) == ((rd_T47 ((rd_T41 l0 x4_1).f2) x5_2).f2.f1) && ((((rd_T47 x3_2 x8_3).f2.f2).toList) == ((rd_T47 ((rd_T41 l0 x4_1).f2) x5_2).f2.f2).toList))))))), (wrap64 (x8_3 + 1)), (by first | rfl | (simp; done) | (simp [*]; done)), (by first | rfl | (simp; done) | (simp [*]; done)), H', ⟨by have := HK1.out; have := HK2.out; have := HK3.out; omega⟩, ⟨by (with_reducible repeat (first | apply Kd.R_alloc | apply Kd.R_drewN | apply Kd.R_drew)); exact HO_3.out⟩, ⟨by (with_reducible repeat (first | refine blk_drewN ?_ _ | refine blk_drew ?_ | refine blk_alloc ?_ _)); exact BK145.out⟩, ⟨by repeat (first | (with_reducible first | exact HB.out | apply below_alloc | apply pw_below_drewN | apply below_drew1 | refine below_set ?_ GE145.out) | exact HB.out)⟩⟩
                            · rw [if_neg c12] at H
                              exact absurd H (by simp)
                        · rw [if_neg c9] at H
                          have c9b0 : decide (x8_3 < (x3_2.length : Int)) = false := decide_eq_false c9
                          clear c9
                          by_cases c15 : x7_3 = true
                          · subst c15
                            have H1 : (rosetteref12_Size.l1 k3 l0 x3_2 x4_1 (wrap64 (x5_2 + 1))) = some r := by rw [if_pos rfl] at H; exact H
                            clear H
                            have H := H1
                            clear H1
                            have H' := Aside0.mk H
                            clear H
                            obtain ⟨Ao16, co16, eo16⟩ := Kd.R_slice HO_3.out
                            subst eo16
                            go_wp2
                            repeat (go_quiet (fail); try go_wp2)
                            go_roundg k3
                            case measure => have := HK1.out; have := HK2.out; have := HK3.out; omega
                            case rel => exact ⟨(x3_2), (wrap64 (x5_2 + 1)), (by first | rfl | (simp; done) | (simp [*]; done)), H', ⟨by have := HK1.out; have := HK2.out; have := HK3.out; omega⟩, ⟨by (with_reducible repeat (first | apply Kd.R_alloc | apply Kd.R_drewN | apply Kd.R_drew)); exact Kd.R_mono HO_3.out (fun _ hk => trivial)⟩, ⟨by repeat (first | (with_reducible first | exact HB.out | apply below_alloc | apply pw_below_drewN | apply below_drew1 | refine below_set ?_ GE145.out) | exact HB.out)⟩⟩
                          · replace c15 := Bool.eq_false_iff.mpr c15
                            subst c15
                            have H1 : (if x3_2.length < 2513169434916 then (rosetteref12_Size.l1 k3 l0 (x3_2 ++ [(⟨((rd_T47 ((rd_T41 l0 x4_1).f2) x5_2).f0), ((rd_T47 ((rd_T41 l0 x4_1).f2) x5_2).f1), (⟨((rd_T47 ((rd_T41 l0 x4_1).f2) x5_2).f2.f0), ((rd_T47 ((rd_T41 l0 x4_1).f2) x5_2).f2.f1), ((rd_T47 ((rd_T41 l0 x4_1).f2) x5_2).f2.f2)⟩ : S45)⟩ : S47)]) x4_1 (wrap64 (x5_2 + 1))) else (none)) = some r := by rw [if_neg (show ¬ (false = true) by decide)] at H; exact H
                            clear H
                            have H := H1
                            clear H1
                            by_cases c17 : x3_2.length < 2513169434916
                            · rw [if_pos c17] at H
                              have LMc17 := Aside0.mk c17
                              clear c17
                              obtain ⟨y147, hy147⟩ : ∃ y_ : List (S47), y_ = (x3_2 ++ [(⟨((rd_T47 ((rd_T41 l0 x4_1).f2) x5_2).f0), ((rd_T47 ((rd_T41 l0 x4_1).f2) x5_2).f1), (⟨((rd_T47 ((rd_T41 l0 x4_1).f2) x5_2).f2.f0), ((rd_T47 ((rd_T41 l0 x4_1).f2) x5_2).f2.f1), ((rd_T47 ((rd_T41 l0 x4_1).f2) x5_2).f2.f2)⟩ : S45)⟩ : S47)]) := ⟨_, rfl⟩
                              replace H : (rosetteref12_Size.l1 k3 l0 y147 x4_1 (wrap64 (x5_2 + 1))) = some r := by first | (rw [hy147]; with_reducible exact H) | (have H2_ := (Option.bind_some _ _).symm.trans H; rw [hy147]; with_reducible exact H2_) | (have H2_ := (Option.bind_some _ _).symm.trans H; with_reducible exact H2_) | with_reducible exact H | (rw [hy147]; exact H) | exact H
                              have Ny147 := Aside0.mk hy147
                              clear hy147
                              have H' := Aside0.mk H
                              clear H
                              obtain ⟨Ao18, co18, eo18⟩ := Kd.R_slice HO_3.out
                              subst eo18
                              have hcz19_0 : wr.cell? ⟨gb145, 0, none⟩ = some (.string ((rd_T47 ((rd_T41 l0 x4_1).f2) x5_2).f0)) := (blk_cell BK145.out 0).trans rfl
                              have hcz19_1 : wr.cell? ⟨gb145, 1, none⟩ = some (.int .i64 ((rd_T47 ((rd_T41 l0 x4_1).f2) x5_2).f1)) := (blk_cell BK145.out 1).trans rfl
                              have hcz19_2 : wr.cell? ⟨gb145, 2, none⟩ = some (.int .i64 ((rd_T47 ((rd_T41 l0 x4_1).f2) x5_2).f2.f0)) := (blk_cell BK145.out 2).trans rfl
                              have hcz19_3 : wr.cell? ⟨gb145, 3, none⟩ = some (.int .i64 ((rd_T47 ((rd_T41 l0 x4_1).f2) x5_2).f2.f1)) := (blk_cell BK145.out 3).trans rfl
                              have hcz19_4 : wr.cell? ⟨gb145, 4, none⟩ = some (.string ((rd_T47 ((rd_T41 l0 x4_1).f2) x5_2).f2.f2)) := (blk_cell BK145.out 4).trans rfl
                              have hfz19_0 := blk_frozen BK145.out 0
                              have hfz19_1 := blk_frozen BK145.out 1
                              have hfz19_2 := blk_frozen BK145.out 2
                              have hfz19_3 := blk_frozen BK145.out 3
                              have hfz19_4 := blk_frozen BK145.out 4
                              go_wp2_with (first | ((with_reducible refine gate_builtin (b := .append) (xs := #[.tmp 50, .tmp 52]) rfl ?_); at_builtin; refine Kd.R_append k47 (w0 := w) w.heap.size rfl (.tmp 50) (.tmp 52) 39 47 (.agg #[(.string ⟨#[]⟩), (.int .i64 0), (.int .i64 0), (.int .i64 0), (.string ⟨#[]⟩)]) 56 rfl Try.underlying39 info47 rfl (by decide) (by decide) (.slice Ao18 x3_2.length co18) x3_2 (⟨((rd_T47 ((rd_T41 l0 x4_1).f2) x5_2).f0), ((rd_T47 ((rd_T41 l0 x4_1).f2) x5_2).f1), (⟨((rd_T47 ((rd_T41 l0 x4_1).f2) x5_2).f2.f0), ((rd_T47 ((rd_T41 l0 x4_1).f2) x5_2).f2.f1), ((rd_T47 ((rd_T41 l0 x4_1).f2) x5_2).f2.f2)⟩ : S45)⟩ : S47) [.string ((rd_T47 ((rd_T41 l0 x4_1).f2) x5_2).f0), .int .i64 ((rd_T47 ((rd_T41 l0 x4_1).f2) x5_2).f1), .int .i64 ((rd_T47 ((rd_T41 l0 x4_1).f2) x5_2).f2.f0), .int .i64 ((rd_T47 ((rd_T41 l0 x4_1).f2) x5_2).f2.f1), .string ((rd_T47 ((rd_T41 l0 x4_1).f2) x5_2).f2.f2)] (fun k_ => k_ ≠ gb145) (fun _ => False) rfl rfl ?aP (fun _ hk => hk.elim) ?aF ?aO ?aB ?aS ?aL ?_; (case aP => exact k47_mkM _ _ _ (⟨((rd_T47 ((rd_T41 l0 x4_1).f2) x5_2).f0), ((rd_T47 ((rd_T41 l0 x4_1).f2) x5_2).f1), (⟨((rd_T47 ((rd_T41 l0 x4_1).f2) x5_2).f2.f0), ((rd_T47 ((rd_T41 l0 x4_1).f2) x5_2).f2.f1), ((rd_T47 ((rd_T41 l0 x4_1).f2) x5_2).f2.f2)⟩ : S45)⟩ : S47)); (case aB => exact (by repeat (first | (with_reducible first | exact HB.out | apply below_alloc | apply pw_below_drewN | apply below_drew1 | refine below_set ?_ GE145.out) | exact HB.out))); (case aF => exact (fun k_ hk => Kd.freshB (g := gb145) (o := .cells #[.string ((rd_T47 ((rd_T41 l0 x4_1).f2) x5_2).f0), .int .i64 ((rd_T47 ((rd_T41 l0 x4_1).f2) x5_2).f1), .int .i64 ((rd_T47 ((rd_T41 l0 x4_1).f2) x5_2).f2.f0), .int .i64 ((rd_T47 ((rd_T41 l0 x4_1).f2) x5_2).f2.f1), .string ((rd_T47 ((rd_T41 l0 x4_1).f2) x5_2).f2.f2)] 47 (0, 0)) (by (with_reducible repeat (first | refine blk_drewN ?_ _ | refine blk_drew ?_ | refine blk_alloc ?_ _)); exact BK145.out) k_ hk)); (case aO => exact (by (with_reducible repeat (first | apply Kd.R_alloc | apply Kd.R_drewN | apply Kd.R_drew)); exact HO_3.out)); (case aS => exact (below_size (by repeat (first | (with_reducible first | exact HB.out | apply below_alloc | apply pw_below_drewN | apply below_drew1 | refine below_set ?_ GE145.out) | exact HB.out)))); (case aL => have := LMc17.out; omega); intro v148 w20 ho hb hg hat; rw [← Ny147.out] at ho; have n0_ := Aside0.mk (blk_grown (g := gb145) (o := .cells #[.string ((rd_T47 ((rd_T41 l0 x4_1).f2) x5_2).f0), .int .i64 ((rd_T47 ((rd_T41 l0 x4_1).f2) x5_2).f1), .int .i64 ((rd_T47 ((rd_T41 l0 x4_1).f2) x5_2).f2.f0), .int .i64 ((rd_T47 ((rd_T41 l0 x4_1).f2) x5_2).f2.f1), .string ((rd_T47 ((rd_T41 l0 x4_1).f2) x5_2).f2.f2)] 47 (0, 0)) (by (with_reducible repeat (first | refine blk_drewN ?_ _ | refine blk_drew ?_ | refine blk_alloc ?_ _)); exact BK145.out) hg (Kd.R_away HO_3.out (fun _ hk => hk))); have n1_ := Aside0.mk (hb); have n2_ := Aside0.mk (ho); clear BK145; clear HB; clear HO_3; have BK145 := n0_; have HB := n1_; have HO149 := n2_; clear n0_ n1_ n2_; clear ho hb hg hat))
                              repeat (go_quiet (first | ((with_reducible refine gate_builtin (b := .append) (xs := #[.tmp 50, .tmp 52]) rfl ?_); at_builtin; refine Kd.R_append k47 (w0 := w) w.heap.size rfl (.tmp 50) (.tmp 52) 39 47 (.agg #[(.string ⟨#[]⟩), (.int .i64 0), (.int .i64 0), (.int .i64 0), (.string ⟨#[]⟩)]) 56 rfl Try.underlying39 info47 rfl (by decide) (by decide) (.slice Ao18 x3_2.length co18) x3_2 (⟨((rd_T47 ((rd_T41 l0 x4_1).f2) x5_2).f0), ((rd_T47 ((rd_T41 l0 x4_1).f2) x5_2).f1), (⟨((rd_T47 ((rd_T41 l0 x4_1).f2) x5_2).f2.f0), ((rd_T47 ((rd_T41 l0 x4_1).f2) x5_2).f2.f1), ((rd_T47 ((rd_T41 l0 x4_1).f2) x5_2).f2.f2)⟩ : S45)⟩ : S47) [.string ((rd_T47 ((rd_T41 l0 x4_1).f2) x5_2).f0), .int .i64 ((rd_T47 ((rd_T41 l0 x4_1).f2) x5_2).f1), .int .i64 ((rd_T47 ((rd_T41 l0 x4_1).f2) x5_2).f2.f0), .int .i64 ((rd_T47 ((rd_T41 l0 x4_1).f2) x5_2).f2.f1), .string ((rd_T47 ((rd_T41 l0 x4_1).f2) x5_2).f2.f2)] (fun k_ => k_ ≠ gb145) (fun _ => False) rfl rfl ?aP (fun _ hk => hk.elim) ?aF ?aO ?aB ?aS ?aL ?_; (case aP => exact k47_mkM _ _ _ (⟨((rd_T47 ((rd_T41 l0 x4_1).f2) x5_2).f0), ((rd_T47 ((rd_T41 l0 x4_1).f2) x5_2).f1), (⟨((rd_T47 ((rd_T41 l0 x4_1).f2) x5_2).f2.f0), ((rd_T47 ((rd_T41 l0 x4_1).f2) x5_2).f2.f1), ((rd_T47 ((rd_T41 l0 x4_1).f2) x5_2).f2.f2)⟩ : S45)⟩ : S47)); (case aB => exact (by repeat (first | (with_reducible first | exact HB.out | apply below_alloc | apply pw_below_drewN | apply below_drew1 | refine below_set ?_ GE145.out) | exact HB.out))); (case aF => exact (fun k_ hk => Kd.freshB (g := gb145) (o := .cells #[.string ((rd_T47 ((rd_T41 l0 x4_1).f2) x5_2).f0), .int .i64 ((rd_T47 ((rd_T41 l0 x4_1).f2) x5_2).f1), .int .i64 ((rd_T47 ((rd_T41 l0 x4_1).f2) x5_2).f2.f0), .int .i64 ((rd_T47 ((rd_T41 l0 x4_1).f2) x5_2).f2.f1), .string ((rd_T47 ((rd_T41 l0 x4_1).f2) x5_2).f2.f2)] 47 (0, 0)) (by (with_reducible repeat (first | refine blk_drewN ?_ _ | refine blk_drew ?_ | refine blk_alloc ?_ _)); exact BK145.out) k_ hk)); (case aO => exact (by (with_reducible repeat (first | apply Kd.R_alloc | apply Kd.R_drewN | apply Kd.R_drew)); exact HO_3.out)); (case aS => exact (below_size (by repeat (first | (with_reducible first | exact HB.out | apply below_alloc | apply pw_below_drewN | apply below_drew1 | refine below_set ?_ GE145.out) | exact HB.out)))); (case aL => have := LMc17.out; omega); intro v148 w20 ho hb hg hat; rw [← Ny147.out] at ho; have n0_ := Aside0.mk (blk_grown (g := gb145) (o := .cells #[.string ((rd_T47 ((rd_T41 l0 x4_1).f2) x5_2).f0), .int .i64 ((rd_T47 ((rd_T41 l0 x4_1).f2) x5_2).f1), .int .i64 ((rd_T47 ((rd_T41 l0 x4_1).f2) x5_2).f2.f0), .int .i64 ((rd_T47 ((rd_T41 l0 x4_1).f2) x5_2).f2.f1), .string ((rd_T47 ((rd_T41 l0 x4_1).f2) x5_2).f2.f2)] 47 (0, 0)) (by (with_reducible repeat (first | refine blk_drewN ?_ _ | refine blk_drew ?_ | refine blk_alloc ?_ _)); exact BK145.out) hg (Kd.R_away HO_3.out (fun _ hk => hk))); have n1_ := Aside0.mk (hb); have n2_ := Aside0.mk (ho); clear BK145; clear HB; clear HO_3; have BK145 := n0_; have HB := n1_; have HO149 := n2_; clear n0_ n1_ n2_; clear ho hb hg hat)); try go_wp2_with (first | ((with_reducible refine gate_builtin (b := .append) (xs := #[.tmp 50, .tmp 52]) rfl ?_); at_builtin; refine Kd.R_append k47 (w0 := w) w.heap.size rfl (.tmp 50) (.tmp 52) 39 47 (.agg #[(.string ⟨#[]⟩), (.int .i64 0), (.int .i64 0), (.int .i64 0), (.string ⟨#[]⟩)]) 56 rfl Try.underlying39 info47 rfl (by decide) (by decide) (.slice Ao18 x3_2.length co18) x3_2 (⟨((rd_T47 ((rd_T41 l0 x4_1).f2) x5_2).f0), ((rd_T47 ((rd_T41 l0 x4_1).f2) x5_2).f1), (⟨((rd_T47 ((rd_T41 l0 x4_1).f2) x5_2).f2.f0), ((rd_T47 ((rd_T41 l0 x4_1).f2) x5_2).f2.f1), ((rd_T47 ((rd_T41 l0 x4_1).f2) x5_2).f2.f2)⟩ : S45)⟩ : S47) [.string ((rd_T47 ((rd_T41 l0 x4_1).f2) x5_2).f0), .int .i64 ((rd_T47 ((rd_T41 l0 x4_1).f2) x5_2).f1), .int .i64 ((rd_T47 ((rd_T41 l0 x4_1).f2) x5_2).f2.f0), .int .i64 ((rd_T47 ((rd_T41 l0 x4_1).f2) x5_2).f2.f1), .string ((rd_T47 ((rd_T41 l0 x4_1).f2) x5_2).f2.f2)] (fun k_ => k_ ≠ gb145) (fun _ => False) rfl rfl ?aP (fun _ hk => hk.elim) ?aF ?aO ?aB ?aS ?aL ?_; (case aP => exact k47_mkM _ _ _ (⟨((rd_T47 ((rd_T41 l0 x4_1).f2) x5_2).f0), ((rd_T47 ((rd_T41 l0 x4_1).f2) x5_2).f1), (⟨((rd_T47 ((rd_T41 l0 x4_1).f2) x5_2).f2.f0), ((rd_T47 ((rd_T41 l0 x4_1).f2) x5_2).f2.f1), ((rd_T47 ((rd_T41 l0 x4_1).f2) x5_2).f2.f2)⟩ : S45)⟩ : S47)); (case aB => exact (by repeat (first | (with_reducible first | exact HB.out | apply below_alloc | apply pw_below_drewN | apply below_drew1 | refine below_set ?_ GE145.out) | exact HB.out))); (case aF => exact (fun k_ hk => Kd.freshB (g := gb145) (o := .cells #[.string ((rd_T47 ((rd_T41 l0 x4_1).f2) x5_2).f0), .int .i64 ((rd_T47 ((rd_T41 l0 x4_1).f2) x5_2).f1), .int .i64 ((rd_T47 ((rd_T41 l0 x4_1).f2) x5_2).f2.f0), .int .i64 ((rd_T47 ((rd_T41 l0 x4_1).f2) x5_2).f2.f1), .string ((rd_T47 ((rd_T41 l0 x4_1).f2) x5_2).f2.f2)] 47 (0, 0)) (by (with_reducible repeat (first | refine blk_drewN ?_ _ | refine blk_drew ?_ | refine blk_alloc ?_ _)); exact BK145.out) k_ hk)); (case aO => exact (by (with_reducible repeat (first | apply Kd.R_alloc | apply Kd.R_drewN | apply Kd.R_drew)); exact HO_3.out)); (case aS => exact (below_size (by repeat (first | (with_reducible first | exact HB.out | apply below_alloc | apply pw_below_drewN | apply below_drew1 | refine below_set ?_ GE145.out) | exact HB.out)))); (case aL => have := LMc17.out; omega); intro v148 w20 ho hb hg hat; rw [← Ny147.out] at ho; have n0_ := Aside0.mk (blk_grown (g := gb145) (o := .cells #[.string ((rd_T47 ((rd_T41 l0 x4_1).f2) x5_2).f0), .int .i64 ((rd_T47 ((rd_T41 l0 x4_1).f2) x5_2).f1), .int .i64 ((rd_T47 ((rd_T41 l0 x4_1).f2) x5_2).f2.f0), .int .i64 ((rd_T47 ((rd_T41 l0 x4_1).f2) x5_2).f2.f1), .string ((rd_T47 ((rd_T41 l0 x4_1).f2) x5_2).f2.f2)] 47 (0, 0)) (by (with_reducible repeat (first | refine blk_drewN ?_ _ | refine blk_drew ?_ | refine blk_alloc ?_ _)); exact BK145.out) hg (Kd.R_away HO_3.out (fun _ hk => hk))); have n1_ := Aside0.mk (hb); have n2_ := Aside0.mk (ho); clear BK145; clear HB; clear HO_3; have BK145 := n0_; have HB := n1_; have HO149 := n2_; clear n0_ n1_ n2_; clear ho hb hg hat)))
                              go_roundg k3
                              case measure => have := HK1.out; have := HK2.out; have := HK3.out; omega
                              case rel => exact ⟨(y147), (wrap64 (x5_2 + 1)), (by first | rfl | (simp; done) | (simp [*]; done)), H', ⟨by have := HK1.out; have := HK2.out; have := HK3.out; omega⟩, ⟨by (with_reducible repeat (first | apply Kd.R_alloc | apply Kd.R_drewN | apply Kd.R_drew)); exact Kd.R_mono HO149.out (fun _ hk => trivial)⟩, ⟨by repeat (first | (with_reducible first | exact HB.out | apply below_alloc | apply pw_below_drewN | apply below_drew1 | refine below_set ?_ GE145.out) | exact HB.out)⟩⟩
                            · rw [if_neg c17] at H
                              exact absurd H (by simp)
                  · rw [if_neg c6] at H
                    exact absurd H (by simp)
                · rw [if_neg c5] at H
                  have c5b0 : decide (x5_2 < (((rd_T41 l0 x4_1).f2).length : Int)) = false := decide_eq_false c5
                  clear c5
                  have H' := Aside0.mk H
                  clear H
                  have p142 : 0 ≤ (x4_1 : Int) := of_decide_eq_true (by first | (with_reducible assumption) | assumption)
                  have q142 : x4_1 < (l0.length : Int) := of_decide_eq_true (by first | (with_reducible assumption) | assumption)
                  obtain ⟨ad142, A142_2, c142_2, e142, hx142_0, hx142_1, hx142_2, hl142_2, hi142_2⟩ := at_T41 HR0.out x4_1 p142 q142
                  cases e142
                  replace hx142_0 := (HB.out.cell (World.block_lt_of_cell? w _ hx142_0)).trans hx142_0
                  replace hx142_1 := (HB.out.cell (World.block_lt_of_cell? w _ hx142_1)).trans hx142_1
                  replace hx142_2 := (HB.out.cell (World.block_lt_of_cell? w _ hx142_2)).trans hx142_2
                  have HR142_2 := Aside0.mk hi142_2
                  have HC142_2 := Aside0.mk hl142_2
                  clear hi142_2 hl142_2
                  replace p142 := eq_true p142
                  replace q142 := eq_true q142
                  go_wp2
                  repeat (go_quiet (fail); try go_wp2)
                  go_roundg k2
                  case measure => have := HK1.out; have := HK2.out; omega
                  case rel => exact ⟨(x3_2), (wrap64 (x4_1 + 1)), (by first | rfl | (simp; done) | (simp [*]; done)), H', ⟨by have := HK1.out; have := HK2.out; omega⟩, ⟨by (with_reducible repeat (first | apply Kd.R_alloc | apply Kd.R_drewN | apply Kd.R_drew)); exact HO_3.out⟩, ⟨by repeat (first | (with_reducible first | exact HB.out | apply below_alloc | apply pw_below_drewN | apply below_drew1) | exact HB.out)⟩⟩
              · rw [if_neg c4] at H
                exact absurd H (by simp)
            · rw [if_neg c3] at H
              exact absurd H (by simp)
      · rw [if_neg c2] at H
        have c2b0 : decide (x4_1 < (l0.length : Int)) = false := decide_eq_false c2
        clear c2
        obtain rfl := Option.some.inj H
        obtain ⟨Ao21, co21, eo21⟩ := Kd.R_slice HO_3.out
        subst eo21
        go_wp2
        repeat (go_quiet (fail); try go_wp2)
        go_ret
        exact ⟨by first | rfl | (simp [errW_none, errW_some] <;> rfl) | (simp [*, errW_none, errW_some] <;> rfl), by repeat (first | (with_reducible first | exact HB.out | apply below_alloc | apply pw_below_drewN | apply below_drew1) | exact HB.out)⟩

end Go.Proofs.Ytbcnknmgljdmlaa.G
end
