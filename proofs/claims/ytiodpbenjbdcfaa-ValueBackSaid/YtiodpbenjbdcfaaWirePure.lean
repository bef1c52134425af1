/- numbers as bytes and back, over lists alone -/
import Derived.Test.YtiodpbenjbdcfaaScan
import Derived.Test.YtiodpbenjbdcfaaGM0
import Derived.Lib.Zigzag
import Derived.OpenShut
set_option linter.unusedVariables false
set_option linter.unusedSimpArgs false
set_option autoImplicit false
namespace Go.Proofs.Ytiodpbenjbdcfaa
open Go.RowKit Go.Proofs.YtiodpbenjbdcfaaW.PrintWords Go.Proofs.YtiodpbenjbdcfaaW.PrintLast Go.Proofs.YtiodpbenjbdcfaaW.PrintMore Go.Proofs.Ytiodpbenjbdcfaa.G

theorem u8s_wf {l : List Int} (h : ∀ x ∈ l, (Lit.int .u8 x).wf = true) : u8s l := fun x hx => by
  have := Go.bounds_u8 (h x hx)
  omega
theorem drop_rd (l : List Int) (k : Nat) (hk : k < l.length) : l.drop k = rd l k :: l.drop (k + 1) := by
  rw [List.drop_eq_getElem_cons hk]
  simp [rd, List.getD_eq_getElem?_getD, hk]
theorem putGo_len (f : Nat) : ∀ n, (putGo f n).length ≤ f + 1 := by
  induction f with
  | zero => intro n; simp [putGo]
  | succ f ih => intro n; rw [putGo]; split <;> simp; exact ih _
theorem putL_len (n : Int) : (putL n).length ≤ 10 := putGo_len 9 n
theorem putGo_u8s (f : Nat) : ∀ n, 0 ≤ n → u8s (putGo f n) := by
  induction f with
  | zero => intro n h x hx; simp [putGo] at hx; omega
  | succ f ih =>
    intro n h x hx
    rw [putGo] at hx
    split at hx
    · simp at hx; omega
    · rcases List.mem_cons.1 hx with rfl | hx
      · omega
      · exact ih _ (by omega) x hx
theorem put_u8s (n : Int) (h : 0 ≤ n) : u8s (putL n) := putGo_u8s 9 n h
theorem put_f (l : List Int) (n : Int) (h0 : 0 ≤ n) (h1 : n < 18446744073709551616) (hl : l.length ≤ 140737488355300) : wire_Put.f l n = some (l ++ putL n) := by
  unfold wire_Put.f
  rw [if_pos ⟨h0, h1, hl⟩]

/-- what is read was laid just so -/
theorem numGo_once (l : List Int) (hu : u8s l) : ∀ (f k : Nat) (acc n : Int) (s' : Sc), f + k = 9 → k ≤ l.length → numGo ⟨l, 0⟩ (f + 1) k acc = (n, s') → s'.e = 0 →
    ∃ m : Int, 0 ≤ m ∧ (0 < k → 0 < m) ∧ n = acc + m * 128 ^ k ∧ l.drop k = putGo f m ++ s'.l := by
  intro f
  induction f with
  | zero =>
    intro k acc n s' hk hle h he
    rw [numGo] at h
    obtain rfl : k = 9 := by omega
    split at h
    · cases h; simp [Sc.fail] at he
    · split at h
      · cases h; simp [Sc.fail] at he
      · rename_i h1 h2
        have hc : rd l 9 = 1 := Classical.byContradiction fun hc => h2 (.inl ⟨rfl, hc⟩)
        have hkl : 9 < l.length := by simp only at h1; omega
        simp only [Int.cast_ofNat_Int] at h
        rw [if_pos (by simp only [hc]; omega)] at h
        cases h
        refine ⟨1, by omega, by omega, ?_, ?_⟩
        · simp only [hc]; omega
        · have hd := drop_rd l 9 hkl
          rw [hd]
          simp only [Int.cast_ofNat_Int, hc]
          rfl
  | succ f ih =>
    intro k acc n s' hk hle h he
    rw [numGo] at h
    split at h
    · cases h; simp [Sc.fail] at he
    · split at h
      · cases h; simp [Sc.fail] at he
      · rename_i h1 h2
        have hkl : k < l.length := by simp only at h1; omega
        have hc := rd_u8 hu k hkl
        have hnz : 0 < k → rd l k ≠ 0 := fun h0 hz => h2 (.inr ⟨h0, hz⟩)
        have hd := drop_rd l k hkl
        split at h
        · rename_i hlt
          simp only at hlt
          cases h
          refine ⟨rd l k, hc.1, fun h0 => by have := hnz h0; omega, ?_, ?_⟩
          · simp only; rw [Int.emod_eq_of_lt hc.1 hlt]
          · rw [hd, putGo, if_pos hlt, Int.emod_eq_of_lt hc.1 hc.2]; rfl
        · rename_i hlt
          simp only at hlt
          obtain ⟨m, hm0, hm1, hn, hdr⟩ := ih (k + 1) _ n s' (by omega) hkl h he
          have := hm1 (by omega)
          refine ⟨rd l k % 128 + 128 * m, by omega, fun _ => by omega, ?_, ?_⟩
          · rw [hn, Int.pow_succ, Int.add_mul, Int.add_assoc]
            congr 1; congr 1
            simp only [Int.mul_comm, Int.mul_left_comm, Int.mul_assoc]
          · rw [hd, hdr, putGo, if_neg (by omega)]
            rw [show (rd l k % 128 + 128 * m) % 128 + 128 = rd l k by omega, show (rd l k % 128 + 128 * m) / 128 = m by omega]
            rfl
theorem num_once (l : List Int) (hu : u8s l) (he : (Sc.num ⟨l, 0⟩).2.e = 0) : l = putL (Sc.num ⟨l, 0⟩).1 ++ (Sc.num ⟨l, 0⟩).2.l := by
  have hq : Sc.num ⟨l, 0⟩ = numGo ⟨l, 0⟩ 10 0 0 := rfl
  obtain ⟨m, _, _, hn, hd⟩ := numGo_once l hu 9 0 0 _ _ rfl (by omega) (show numGo ⟨l, 0⟩ (9 + 1) 0 0 = ((Sc.num ⟨l, 0⟩).1, (Sc.num ⟨l, 0⟩).2) by rw [hq]) he
  rw [show m = (Sc.num ⟨l, 0⟩).1 by rw [hn]; simp] at hd
  exact hd
/-- what was laid is read as it was -/
theorem numGo_back (l : List Int) : ∀ (f k : Nat) (acc m : Int) (rest : List Int), f + k = 9 → 0 ≤ m → (0 < k → 0 < m) → m * 128 ^ k < 18446744073709551616 → l.drop k = putGo f m ++ rest →
    numGo ⟨l, 0⟩ (f + 1) k acc = (acc + m * 128 ^ k, ⟨rest, 0⟩) := by
  intro f
  induction f with
  | zero =>
    intro k acc m rest hk h0 h1 hb hd
    obtain rfl : k = 9 := by omega
    have hm := h1 (by omega)
    obtain rfl : m = 1 := by omega
    have hkl : 9 < l.length := by
      apply Classical.byContradiction; intro hn
      rw [List.drop_eq_nil_of_le (by omega)] at hd
      simp [putGo] at hd
    have hd2 := drop_rd l 9 hkl
    rw [hd, putGo] at hd2
    simp only [List.singleton_append, List.cons.injEq] at hd2
    obtain ⟨hc, hr⟩ := hd2
    rw [numGo, if_neg (by simp only; omega), if_neg (by rintro (⟨_, h⟩ | ⟨_, h⟩) <;> simp only at h <;> omega), if_pos (by simp only; omega)]
    simp only
    rw [← hr, ← hc]
    rfl
  | succ f ih =>
    intro k acc m rest hk h0 h1 hb hd
    have hkl : k < l.length := by
      apply Classical.byContradiction; intro hn
      rw [List.drop_eq_nil_of_le (by omega), putGo] at hd
      split at hd <;> simp at hd
    have hd2 := drop_rd l k hkl
    rw [hd, putGo] at hd2
    have hk9 : k ≠ 9 := by omega
    by_cases hlt : m < 128
    · rw [if_pos hlt] at hd2
      simp only [List.singleton_append, List.cons.injEq] at hd2
      obtain ⟨hc, hr⟩ := hd2
      rw [numGo, if_neg (by simp only; omega), if_neg (by rintro (⟨h, _⟩ | ⟨h, hz⟩) <;> first | exact hk9 h | (have := h1 h; simp only at hz; omega)), if_pos (by simp only; omega)]
      simp only
      rw [← hr, ← hc, Int.emod_eq_of_lt h0 (by omega : m < 256), Int.emod_eq_of_lt h0 hlt]
    · rw [if_neg hlt] at hd2
      simp only [List.cons_append, List.cons.injEq] at hd2
      obtain ⟨hc, hr⟩ := hd2
      rw [numGo, if_neg (by simp only; omega), if_neg (by rintro (⟨h, _⟩ | ⟨_, hz⟩) <;> first | exact hk9 h | (simp only at hz; omega)), if_neg (by simp only; omega)]
      have hsplit : m * 128 ^ k = m % 128 * 128 ^ k + m / 128 * 128 ^ (k + 1) := by
        rw [Int.pow_succ, ← Int.mul_assoc, Int.mul_right_comm, ← Int.add_mul]
        congr 1; omega
      have hp : (0 : Int) < 128 ^ k := Int.pow_pos (by decide)
      have hnn : 0 ≤ m % 128 * 128 ^ k := Int.mul_nonneg (by omega) (by omega)
      rw [ih (k + 1) _ (m / 128) rest (by omega) (by omega) (fun _ => by omega) (by omega) hr.symm]
      simp only
      rw [← hc, show (m % 128 + 128) % 128 = m % 128 by omega, hsplit, Int.add_assoc]
theorem num_back (n : Int) (rest : List Int) (h0 : 0 ≤ n) (h1 : n < 18446744073709551616) : Sc.num ⟨putL n ++ rest, 0⟩ = (n, ⟨rest, 0⟩) := by
  have := numGo_back (putL n ++ rest) 9 0 0 n rest rfl h0 (by omega) (by simpa using h1) rfl
  rw [show Sc.num ⟨putL n ++ rest, 0⟩ = numGo ⟨putL n ++ rest, 0⟩ (9 + 1) 0 0 from rfl, this]
  simp

/-! ### ints -/
def zig (a : Int) : Int := if 0 ≤ a then 2 * a else -2 * a - 1
theorem zig_f (a : Int) (h0 : -9223372036854775808 ≤ a) (h1 : a < 9223372036854775808) : wire_zig.f a = some (zig a) := by
  unfold wire_zig.f zig
  congr 1
  by_cases h : 0 ≤ a
  · rw [if_pos h, show a / 9223372036854775808 = 0 by omega, show IntKind.u64.wrap 0 = ((0 : Nat) : Int) by rfl]
    obtain ⟨n, rfl⟩ := Int.eq_ofNat_of_zero_le h
    rw [show IntKind.u64.wrap (wrap64 ((n : Int) * 2)) = ((2 * n : Nat) : Int) by rw [IntKind.wrap_u64]; unfold wrap64; omega, u64_xor_nat _ _ (by omega) (by decide), Nat.xor_zero]
    omega
  · rw [if_neg h, show a / 9223372036854775808 = -1 by omega, show IntKind.u64.wrap (-1) = ((2 ^ 64 - 1 : Nat) : Int) by rfl]
    rw [show IntKind.u64.wrap (wrap64 (a * 2)) = (((2 * a + 18446744073709551616).toNat : Nat) : Int) by rw [IntKind.wrap_u64]; unfold wrap64; omega, u64_xor_nat _ _ (by omega) (by decide), Nat.xor_comm, Lib.xor_ones64 _ (by omega)]
    omega
theorem zig_lt (a : Int) (h0 : -9223372036854775808 ≤ a) (h1 : a < 9223372036854775808) : 0 ≤ zig a ∧ zig a < 18446744073709551616 := by unfold zig; split <;> omega
theorem zag_lt (n : Int) (h0 : 0 ≤ n) (h1 : n < 18446744073709551616) : -9223372036854775808 ≤ zag n ∧ zag n < 9223372036854775808 := by unfold zag; split <;> omega
theorem zag_zig (a : Int) : zag (zig a) = a := by unfold zag zig; split <;> split <;> omega
theorem zig_zag (n : Int) (h0 : 0 ≤ n) : zig (zag n) = n := by unfold zag zig; split <;> split <;> omega
theorem putInt_f (l : List Int) (a : Int) (h0 : -9223372036854775808 ≤ a) (h1 : a < 9223372036854775808) (hl : l.length ≤ 140737488355300) : wire_PutInt.f l a = some (l ++ putL (zig a)) := by
  unfold wire_PutInt.f
  rw [zig_f a h0 h1]
  have := zig_lt a h0 h1
  simp only [Option.bind_some]
  rw [put_f l _ this.1 this.2 hl]
  rfl

/-! ### texts -/
theorem wrap_size (n : Nat) (h : n < 18446744073709551616) : IntKind.u64.wrap (n : Int) = n := by rw [IntKind.wrap_u64]; omega
theorem putText_f (l : List Int) (s : ByteArray) (hl : l.length ≤ 140737488350000) (hs : s.size ≤ 4000) : wire_PutText.f l s = some (l ++ putL s.size ++ bytesOf s) := by
  unfold wire_PutText.f
  rw [wrap_size _ (by omega), put_f l _ (by omega) (by omega) (by omega)]
  have := putL_len (s.size : Int)
  simp only [Option.bind_some]
  rw [if_pos (by simp only [List.length_append]; omega)]
theorem fail_ne (s : Sc) (e : Int) (h : e ≠ 0) : (s.fail e).e ≠ 0 := by
  unfold Sc.fail
  rw [if_neg h]
  split
  · exact h
  · assumption
theorem text_none (s : Sc) (most : Int) (h : (s.text most).2.e ≠ 0) : (s.text most).1 = [] := by
  unfold Sc.text at h ⊢
  split at h
  · rename_i h1
    rw [if_pos h1]
    split at h
    · rename_i h2; rw [if_pos h2]
    · simp at h
  · rename_i h1; rw [if_neg h1]
theorem text_once (l : List Int) (hu : u8s l) (most : Int) (hm : 0 ≤ most ∧ most ≤ 4000) (he : (Sc.text ⟨l, 0⟩ most).2.e = 0) :
    l = putL (Sc.text ⟨l, 0⟩ most).1.length ++ (Sc.text ⟨l, 0⟩ most).1 ++ (Sc.text ⟨l, 0⟩ most).2.l ∧ ((Sc.text ⟨l, 0⟩ most).1.length : Int) ≤ most := by
  have hn := Sc.num_lt ⟨l, 0⟩ hu
  have ho := num_once l hu
  unfold Sc.text at he ⊢
  split at he
  · rename_i h1
    rw [if_pos h1]
    split at he
    · rename_i h2
      exact absurd he (fail_ne _ 2 (by decide))
    · rename_i h2
      rw [if_neg h2]
      unfold Sc.upto at h1 h2 ⊢
      split at h1
      · exact absurd h1 (fail_ne _ 4 (by decide))
      · rename_i h3
        simp only at h1
        rw [if_neg h3] at h2 ⊢
        have h4 : ¬ (most < 0 ∨ most < (Sc.num ⟨l, 0⟩).1) := fun h => h3 ⟨h1, h⟩
        generalize Sc.num ⟨l, 0⟩ = p at *
        obtain ⟨n, s⟩ := p
        simp only at *
        have hw : wrap64 n = n := by unfold wrap64; omega
        rw [hw] at h2 ⊢
        have hlen : ((s.l.take n.toNat).length : Int) = n := by rw [List.length_take]; omega
        rw [hlen, List.append_assoc, List.take_append_drop]
        exact ⟨ho h1, by omega⟩
  · exact absurd he (by assumption)
theorem text_back (x rest : List Int) (most : Int) (hm : (x.length : Int) ≤ most) (hl : x.length < 9223372036854775808) : Sc.text ⟨putL x.length ++ (x ++ rest), 0⟩ most = (x, ⟨rest, 0⟩) := by
  have hn := num_back x.length (x ++ rest) (by omega) (by omega)
  have hu : Sc.upto ⟨putL x.length ++ (x ++ rest), 0⟩ most = ((x.length : Int), ⟨x ++ rest, 0⟩) := by
    unfold Sc.upto
    rw [hn, if_neg (by simp only; omega)]
    simp only
    rw [show wrap64 (x.length : Int) = x.length by unfold wrap64; omega]
  unfold Sc.text
  rw [hu]
  simp only
  rw [if_pos trivial, if_neg (by simp only [List.length_append]; omega)]
  simp
theorem int_back (a : Int) (rest : List Int) (h0 : -9223372036854775808 ≤ a) (h1 : a < 9223372036854775808) : Sc.int ⟨putL (zig a) ++ rest, 0⟩ = (a, ⟨rest, 0⟩) := by
  have hz := zig_lt a h0 h1
  unfold Sc.int
  rw [num_back _ rest hz.1 hz.2, zag_zig]
theorem str_size (x : List Int) : (strOfNums x).size = x.length := by simp [strOfNums, ByteArray.size]
theorem str_bytes (x : List Int) (hu : u8s x) : bytesOf (strOfNums x) = x := by
  unfold bytesOf strOfNums
  simp only [List.map_map]
  apply List.ext_getElem (by simp)
  intro i h1 h2
  simp only [List.getElem_map, Function.comp]
  have := hu x[i] (List.getElem_mem h2)
  rw [UInt8.toNat_ofNat']
  omega
theorem u8s_left {a b : List Int} (h : u8s (a ++ b)) : u8s a := (u8s_append.1 h).1
theorem u8s_right {a b : List Int} (h : u8s (a ++ b)) : u8s b := (u8s_append.1 h).2
end Go.Proofs.Ytiodpbenjbdcfaa
