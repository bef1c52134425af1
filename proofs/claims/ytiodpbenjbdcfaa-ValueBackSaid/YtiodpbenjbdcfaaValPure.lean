/- values over numbers and lists: which are right, how they stand, their bytes -/
import Derived.Test.YtiodpbenjbdcfaaRefPut
import Derived.Test.YtiodpbenjbdcfaaValGet
import Derived.Laws.Strings
import Derived.Test.YtiodpbenjbdcfaaGM0
import Derived.Test.YtiodpbenjbdcfaaGM1
set_option linter.unusedVariables false
set_option linter.unusedSimpArgs false
set_option autoImplicit false
namespace Go.Proofs.Ytiodpbenjbdcfaa
open Go.RowKit Go.Proofs.YtiodpbenjbdcfaaW.PrintWords Go.Proofs.YtiodpbenjbdcfaaW.PrintLast Go.Proofs.YtiodpbenjbdcfaaW.PrintMore Go.Proofs.Ytiodpbenjbdcfaa.G

/-! ### which are right -/
theorem andNot_one (i : Int) (h0 : -9223372036854775808 ≤ i) (h1 : i < 9223372036854775808) : (bits .andNot .i64 i 1 = 0) ↔ (0 ≤ i ∧ i ≤ 1) := by
  obtain ⟨X, hX⟩ : ∃ X, (BitVec.ofInt 64 i).toNat = X := ⟨_, rfl⟩
  have hb : bits .andNot .i64 i 1 = IntKind.i64.wrap ((X &&& 18446744073709551614 : Nat) : Int) := by
    show IntKind.i64.wrap ((BitVec.ofInt 64 i &&& ~~~BitVec.ofInt 64 1).toNat : Int) = _
    rw [BitVec.toNat_and, hX]
    rfl
  have hx : (X : Int) = i % 18446744073709551616 := by
    rw [← hX, BitVec.toNat_ofInt]
    omega
  have hd : (X &&& 18446744073709551614) / 2 = X / 2 := by
    rw [Nat.and_div_two, show 18446744073709551614 / 2 = 2 ^ 63 - 1 from rfl, Nat.and_two_pow_sub_one_eq_mod]
    omega
  have hm : (X &&& 18446744073709551614) % 2 = 0 := by
    have := Nat.and_mod_two_pow (a := X) (b := 18446744073709551614) (n := 1)
    simp only [show (2 : Nat) ^ 1 = 2 from rfl] at this
    rw [this]
    simp
  rw [hb, IntKind.wrap_i64]
  generalize X &&& 18446744073709551614 = Y at *
  omega
def vright (k i : Int) (t : ByteArray) : Bool :=
  if k = 1 then t.toList == [] else if k = 2 then (if i = 0 then decide ((t.size : Int) ≤ 64) else false) else if k = 3 then (if t.toList = [] then decide (0 ≤ i ∧ i ≤ 1) else false) else false
theorem right_f (k i : Int) (t : ByteArray) (h0 : -9223372036854775808 ≤ i) (h1 : i < 9223372036854775808) : value_Right.f k i t = some (vright k i t) := by
  unfold value_Right.f vright
  split
  · rfl
  split
  · split <;> rfl
  split
  · split
    · congr 1
      rw [Bool.eq_iff_iff]
      simp only [beq_iff_eq, decide_eq_true_eq]
      exact andNot_one i h0 h1
    · rfl
  · rfl
theorem rright_f (k i : Int) (t : ByteArray) : rosetteref04_Right.f k i t = some (vright k i t) := by
  unfold rosetteref04_Right.f vright
  split
  · rfl
  split
  · split <;> rfl
  split
  · split
    · split
      · rename_i h
        congr 1
        rw [Bool.eq_iff_iff]
        simp only [decide_eq_true_eq]
        omega
      · rename_i h
        congr 1
        rw [Bool.eq_iff_iff]
        simp only [decide_eq_true_eq, Bool.false_eq_true, false_iff]
        omega
    · rfl
  · rfl

/-! ### how they stand -/
def cmpI (a b : Int) : Int := if a < b then -1 else if a > b then 1 else 0
def or3 (x y z : Int) : Int := if x = 0 then (if y = 0 then z else y) else x
def vcmp (k i : Int) (t : ByteArray) (k' i' : Int) (t' : ByteArray) : Int := or3 (cmpI k k') (cmpI i i') (Lib.compareBytes t.data.toList t'.data.toList)
theorem cmpInt_f (a b : Int) : cmp_Compare_int.f a b = some (cmpI a b) := by
  unfold cmp_Compare_int.f cmp_isNaN_int.f cmpI
  simp only [Option.bind_some, bne_self_eq_false, Bool.false_eq_true, if_false]
  split
  · rfl
  split <;> rfl
theorem or_f (k : Nat) (hk : 4 ≤ k) (x y z : Int) : cmp_Or_int.f k [x, y, z] = some (or3 x y z) := by
  obtain ⟨m, rfl⟩ : ∃ m, k = m + 4 := ⟨k - 4, by omega⟩
  have w0 : wrap64 (0 + 1) = 1 := by unfold wrap64; omega
  have w1 : wrap64 (1 + 1) = 2 := by unfold wrap64; omega
  have w2 : wrap64 (2 + 1) = 3 := by unfold wrap64; omega
  unfold cmp_Or_int.f or3
  simp only [cmp_Or_int.l0, List.length_cons, List.length_nil, w0, w1, w2]
  by_cases hx : x = 0
  · by_cases hy : y = 0
    · by_cases hz : z = 0 <;> simp [rd, hx, hy, hz]
    · simp [rd, hx, hy]
  · simp [rd, hx]
theorem compare_f (K : Nat) (hK : 4 ≤ K) (k i : Int) (t : ByteArray) (k' i' : Int) (t' : ByteArray) : value_Compare.f K k i t k' i' t' = some (vcmp k i t k' i' t') := by
  unfold value_Compare.f vcmp
  rw [cmpInt_f, cmpInt_f]
  unfold strings_Compare.f
  simp only [Option.bind_some]
  rw [or_f K hK]
  rfl
theorem bt_list (s : ByteArray) (i : Nat) (h : i < s.data.toList.length) : bt s (i : Int) = (s.data.toList[i].toNat : Int) := by
  have hs : i < s.size := by rw [Array.length_toList] at h; exact h
  unfold bt
  rw [dif_pos (by rw [Int.toNat_natCast]; exact hs)]
  simp only [Int.toNat_natCast]
  rfl
theorem less_go (a b : ByteArray) (ha : a.size < 9223372036854775807) : ∀ (f i e : Nat), i ≤ a.size → i ≤ b.size → i + f = a.size → rosetteref04_less.l0 (2 * f + 2 + e) a b (i : Int) = some (decide (Lib.compareBytes (a.data.toList.drop i) (b.data.toList.drop i) = -1)) := by
  have hla : a.data.toList.length = a.size := by rw [Array.length_toList]; rfl
  have hlb : b.data.toList.length = b.size := by rw [Array.length_toList]; rfl
  intro f
  induction f with
  | zero =>
    intro i e hi hj h
    rw [show 2 * 0 + 2 + e = (e + 1) + 1 by omega, rosetteref04_less.l0, if_neg (by omega), rosetteref04_less.j1, if_neg (by decide)]
    rw [List.drop_of_length_le (by omega)]
    congr 1
    rw [Bool.eq_iff_iff]
    simp only [decide_eq_true_eq]
    by_cases hb : i < b.size
    · rw [List.drop_eq_getElem_cons (by omega)]
      simp only [Lib.compareBytes]
      exact ⟨fun _ => trivial, fun _ => by omega⟩
    · rw [List.drop_of_length_le (l := b.data.toList) (by omega)]
      simp only [Lib.compareBytes]
      exact ⟨fun h => by omega, fun h => absurd h (by decide)⟩
  | succ f ih =>
    intro i e hi hj h
    have hw : wrap64 ((i : Int) + 1) = ((i + 1 : Nat) : Int) := by unfold wrap64; omega
    rw [show 2 * (f + 1) + 2 + e = (2 * f + 2 + e + 1) + 1 by omega, rosetteref04_less.l0, if_pos (by omega), rosetteref04_less.j1]
    by_cases hb : i < b.size
    · rw [if_pos (by simpa using hb), if_pos (by omega), if_pos (by omega), if_pos (by omega), hw, bt_list a i (by omega), bt_list b i (by omega)]
      rw [List.drop_eq_getElem_cons (l := a.data.toList) (by omega), List.drop_eq_getElem_cons (l := b.data.toList) (by omega)]
      simp only [Lib.compareBytes, UInt8.lt_iff_toNat_lt]
      generalize ha' : (a.data.toList[i]'(by omega)).toNat = x
      generalize hb' : (b.data.toList[i]'(by omega)).toNat = y
      by_cases hxy : x = y
      · subst hxy
        rw [if_pos rfl, if_neg (by omega), if_neg (by omega)]
        exact ih (i + 1) e (by omega) (by omega) (by omega)
      · rw [if_neg (by omega)]
        congr 1
        rw [Bool.eq_iff_iff]
        simp only [decide_eq_true_eq]
        by_cases hlt : x < y
        · rw [if_pos hlt]; omega
        · rw [if_neg hlt, if_pos (by omega)]; omega
    · rw [if_neg (by simpa using hb)]
      rw [List.drop_of_length_le (l := b.data.toList) (by omega), List.drop_eq_getElem_cons (l := a.data.toList) (by omega)]
      congr 1
      rw [Bool.eq_iff_iff]
      simp [Lib.compareBytes]
      omega
theorem less_f (a b : ByteArray) (ha : a.size < 9223372036854775807) (k : Nat) (hk : 2 * a.size + 2 ≤ k) : rosetteref04_less.f k a b = some (decide (Lib.compareBytes a.data.toList b.data.toList = -1)) := by
  have := less_go a b ha a.size 0 (k - (2 * a.size + 2)) (Nat.zero_le _) (Nat.zero_le _) (by omega)
  rw [show 2 * a.size + 2 + (k - (2 * a.size + 2)) = k by omega] at this
  exact this
theorem cmpB_zero : ∀ (a b : List UInt8), Lib.compareBytes a b = 0 ↔ a = b
  | [], [] => by simp [Lib.compareBytes]
  | [], _ :: _ => by simp [Lib.compareBytes]
  | _ :: _, [] => by simp [Lib.compareBytes]
  | x :: a, y :: b => by
    have ih := cmpB_zero a b
    simp only [Lib.compareBytes, UInt8.lt_iff_toNat_lt, List.cons.injEq, ← UInt8.toNat_inj]
    by_cases h1 : x.toNat < y.toNat
    · rw [if_pos h1]; simp; omega
    · rw [if_neg h1]
      by_cases h2 : y.toNat < x.toNat
      · rw [if_pos h2]; simp; omega
      · rw [if_neg h2, ih]
        constructor
        · intro h; exact ⟨by omega, h⟩
        · exact fun h => h.2
theorem cmpB_in : ∀ (a b : List UInt8), Lib.compareBytes a b = -1 ∨ Lib.compareBytes a b = 0 ∨ Lib.compareBytes a b = 1
  | [], [] => .inr (.inl rfl)
  | [], _ :: _ => .inl rfl
  | _ :: _, [] => .inr (.inr rfl)
  | x :: a, y :: b => by
    simp only [Lib.compareBytes]
    split
    · exact .inl rfl
    split
    · exact .inr (.inr rfl)
    · exact cmpB_in a b
theorem text_f (a b : ByteArray) (ha : a.size < 9223372036854775807) (k : Nat) (hk : 2 * a.size + 2 ≤ k) : rosetteref04_Text.f k a b = some (Lib.compareBytes a.data.toList b.data.toList) := by
  unfold rosetteref04_Text.f
  have hz := cmpB_zero a.data.toList b.data.toList
  have hin := cmpB_in a.data.toList b.data.toList
  have e1 : (a.toList = b.toList) ↔ (a.data.toList = b.data.toList) := by rw [ByteArray.toList_eq, ByteArray.toList_eq]
  rw [less_f a b ha k hk]
  simp only [Option.bind_some]
  by_cases h : a.data.toList = b.data.toList
  · rw [if_pos (e1.2 h), hz.2 h]
  · rw [if_neg (fun hh => h (e1.1 hh))]
    have : Lib.compareBytes a.data.toList b.data.toList ≠ 0 := fun hh => h (hz.1 hh)
    by_cases h1 : Lib.compareBytes a.data.toList b.data.toList = -1
    · rw [if_pos (by simpa using h1), h1]
    · rw [if_neg (by simpa using h1)]
      congr 1
      omega
theorem rcompare_f (K : Nat) (k i : Int) (t : ByteArray) (k' i' : Int) (t' : ByteArray) (ht : t.size < 9223372036854775807) (hK : 2 * t.size + 3 ≤ K) : rosetteref04_Compare.f K k i t k' i' t' = some (vcmp k i t k' i' t') := by
  obtain ⟨m, rfl⟩ : ∃ m, K = m + 1 := ⟨K - 1, by omega⟩
  unfold rosetteref04_Compare.f vcmp or3 cmpI
  simp only [rosetteref04_Compare.j0]
  rw [text_f t t' ht m (by omega)]
  simp only [Option.bind_some]
  by_cases h1 : k < k'
  · rw [if_pos h1]; simp [h1]
  · rw [if_neg h1]
    by_cases h2 : k = k'
    · subst h2
      rw [if_pos rfl]
      by_cases h3 : i < i'
      · simp [h3]
      · by_cases h4 : i > i'
        · simp [h3, h4]
        · simp [h3, h4]
    · have h5 : k > k' := by omega
      rw [if_neg h2]
      simp [h1, h5]
end Go.Proofs.Ytiodpbenjbdcfaa
