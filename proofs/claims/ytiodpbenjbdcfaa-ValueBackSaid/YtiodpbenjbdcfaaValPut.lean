/- a value's bytes, and back -/
import Derived.Test.YtiodpbenjbdcfaaValPure
set_option linter.unusedVariables false
set_option linter.unusedSimpArgs false
set_option autoImplicit false
namespace Go.Proofs.Ytiodpbenjbdcfaa
open Go.RowKit Go.Proofs.YtiodpbenjbdcfaaW.PrintWords Go.Proofs.YtiodpbenjbdcfaaW.PrintLast Go.Proofs.YtiodpbenjbdcfaaW.PrintMore Go.Proofs.Ytiodpbenjbdcfaa.G

theorem bytes_u8s (s : ByteArray) : u8s (bytesOf s) := by
  intro x hx
  simp only [bytesOf, List.mem_map] at hx
  obtain ⟨b, _, rfl⟩ := hx
  have := b.toNat_lt
  omega
theorem bytes_len (s : ByteArray) : (bytesOf s).length = s.size := by unfold bytesOf; rw [List.length_map, Array.length_toList]; rfl
theorem str_of_bytes (s : ByteArray) : strOfNums (bytesOf s) = s := by
  cases s with
  | mk d =>
    have h : (d.toList.map fun b => UInt8.ofNat ((b.toNat : Int)).toNat) = d.toList := by
      have : (fun b : UInt8 => UInt8.ofNat ((b.toNat : Int)).toNat) = id := funext fun b => by rw [Int.toNat_natCast]; exact UInt8.ofNat_toNat
      rw [this, List.map_id]
    unfold strOfNums bytesOf
    rw [List.map_map]
    show ByteArray.mk (d.toList.map fun b => UInt8.ofNat ((b.toNat : Int)).toNat).toArray = _
    rw [h]

def vbytes (k i : Int) (t : ByteArray) : List Int :=
  if vright k i t = true then (if k = 1 then putL 1 ++ putL (zig i) else if k = 2 then putL 2 ++ putL (t.size : Int) ++ bytesOf t else putL 3 ++ putL i) else []
theorem vright_k {k i : Int} {t : ByteArray} (h : vright k i t = true) : k = 1 ∧ t.toList = [] ∨ k = 2 ∧ i = 0 ∧ t.size ≤ 64 ∨ k = 3 ∧ t.toList = [] ∧ 0 ≤ i ∧ i ≤ 1 := by
  unfold vright at h
  by_cases h1 : k = 1
  · rw [if_pos h1] at h; exact .inl ⟨h1, by simpa using h⟩
  rw [if_neg h1] at h
  by_cases h2 : k = 2
  · rw [if_pos h2] at h
    by_cases h3 : i = 0
    · rw [if_pos h3] at h; simp only [decide_eq_true_eq] at h; exact .inr (.inl ⟨h2, h3, by omega⟩)
    · rw [if_neg h3] at h; cases h
  rw [if_neg h2] at h
  by_cases h3 : k = 3
  · rw [if_pos h3] at h
    by_cases h4 : t.toList = []
    · rw [if_pos h4] at h; simp only [decide_eq_true_eq] at h; exact .inr (.inr ⟨h3, h4, h⟩)
    · rw [if_neg h4] at h; cases h
  · rw [if_neg h3] at h; cases h
theorem putL1 : putL 1 = [1] := by decide +kernel
theorem putL2 : putL 2 = [2] := by decide +kernel
theorem putL3 : putL 3 = [3] := by decide +kernel
theorem putL0 : putL 0 = [0] := by decide +kernel
theorem bind_of {α β : Type} {o : Option α} {f : α → Option β} {a : α} (h : o = some a) : o.bind f = f a := by rw [h]; rfl
theorem wrap_k (k : Int) (h0 : 0 ≤ k) (h1 : k < 18446744073709551616) : IntKind.u64.wrap k = k := by rw [IntKind.wrap_u64]; omega
theorem put_val (l : List Int) (k i : Int) (t : ByteArray) (hl : l.length ≤ 140737488340000) (h0 : -9223372036854775808 ≤ i) (h1 : i < 9223372036854775808) : value_Put.f l k i t = some (l ++ vbytes k i t) := by
  unfold value_Put.f vbytes
  refine (bind_of (right_f k i t h0 h1)).trans ?_
  by_cases hr : vright k i t = true
  · rw [if_pos hr, if_pos hr]
    have hk : 0 ≤ k ∧ k ≤ 3 := by rcases vright_k hr with h | h | h <;> omega
    have hlen := putL_len k
    have hput := put_f l k hk.1 (by omega) (by omega)
    rw [wrap_k k hk.1 (by omega)]
    refine (bind_of hput).trans ?_
    rcases vright_k hr with ⟨hk1, ht⟩ | ⟨hk2, hi, ht⟩ | ⟨hk3, ht, hi, hj⟩
    · rw [if_pos hk1, if_pos hk1]
      refine (bind_of (putInt_f _ _ h0 h1 (by rw [List.length_append]; omega))).trans ?_
      rw [hk1, List.append_assoc]
    · have n1 : ¬ k = 1 := by omega
      rw [if_neg n1, if_neg n1, if_pos hk2, if_pos hk2]
      refine (bind_of (putText_f _ _ (by rw [List.length_append]; omega) (by omega))).trans ?_
      rw [hk2]
      simp only [List.append_assoc]
    · have n1 : ¬ k = 1 := by omega
      have n2 : ¬ k = 2 := by omega
      rw [if_neg n1, if_neg n1, if_neg n2, if_neg n2, wrap_k i hi (by omega)]
      refine (bind_of (put_f _ _ hi (by omega) (by rw [List.length_append]; omega))).trans ?_
      rw [hk3, List.append_assoc]
  · rw [if_neg hr, if_neg hr]
    refine (bind_of (show slices_Clone_byte_byte.f l = some l by unfold slices_Clone_byte_byte.f; rw [if_pos (by omega)])).trans ?_
    rw [List.append_nil]
theorem rput_val (l : List Int) (k i : Int) (t : ByteArray) (hl : l.length ≤ 140737488340000) (h0 : -9223372036854775808 ≤ i) (h1 : i < 9223372036854775808) : rosetteref04_Put.f l k i t = some (l ++ vbytes k i t) := by
  unfold rosetteref04_Put.f vbytes
  refine (bind_of rfl).trans ?_
  rw [if_pos (by simp only [List.length_nil]; omega), List.nil_append]
  refine (bind_of rfl).trans ?_
  refine (bind_of (rright_f k i t)).trans ?_
  by_cases hr : vright k i t = true
  · rw [if_pos hr, if_pos hr, if_pos (by omega)]
    refine (bind_of rfl).trans ?_
    have hlen : (l ++ [k % 256]).length = l.length + 1 := by rw [List.length_append]; rfl
    rcases vright_k hr with ⟨hk1, ht⟩ | ⟨hk2, hi, ht⟩ | ⟨hk3, ht, hi, hj⟩
    · rw [if_pos hk1, if_pos hk1]
      refine (bind_of (rputInt_f _ _ h0 h1 (by omega))).trans ?_
      rw [hk1, putL1, List.append_assoc]
      rfl
    · have n1 : ¬ k = 1 := by omega
      rw [if_neg n1, if_neg n1, if_pos hk2, if_pos hk2]
      refine (bind_of (rputText_f _ _ (by omega) (by omega))).trans ?_
      rw [hk2, putL2]
      simp only [List.append_assoc]
      rfl
    · have n1 : ¬ k = 1 := by omega
      have n2 : ¬ k = 2 := by omega
      rw [if_neg n1, if_neg n1, if_neg n2, if_neg n2, if_pos (by omega), hk3, putL3, List.append_assoc]
      have hp : putL i = [i % 256] := by
        have : i = 0 ∨ i = 1 := by omega
        rcases this with rfl | rfl
        · rw [putL0]; rfl
        · rw [putL1]; rfl
      rw [hp]
      rfl
  · rw [if_neg hr, if_neg hr, List.append_nil]
theorem empty_of {t : ByteArray} (h : t.toList = []) : t = ByteArray.empty := by
  rw [ByteArray.toList_eq] at h
  have : t.data = #[] := by cases hd : t.data; rw [hd] at h; simp at h; rw [h]
  cases t
  simp only at this
  rw [this]
  rfl
theorem val_back (k i : Int) (t : ByteArray) (more : List Int) (h : vright k i t = true) (h0 : -9223372036854775808 ≤ i) (h1 : i < 9223372036854775808) : Sc.val ⟨vbytes k i t ++ more, 0⟩ = (⟨k, i, t⟩, ⟨more, 0⟩) := by
  have hu : ∀ (n : Int) (rest : List Int), 0 ≤ n → n ≤ 3 → Sc.upto ⟨putL n ++ rest, 0⟩ 3 = (n, ⟨rest, 0⟩) := fun n rest a b => by
    unfold Sc.upto
    rw [num_back n rest a (by omega)]
    rw [if_neg (fun hh => by rcases hh.2 with hh | hh <;> simp at hh; omega)]
    simp only [Prod.mk.injEq, and_true]
    unfold wrap64
    omega
  have hu1 : ∀ (n : Int) (rest : List Int), 0 ≤ n → n ≤ 1 → Sc.upto ⟨putL n ++ rest, 0⟩ 1 = (n, ⟨rest, 0⟩) := fun n rest a b => by
    unfold Sc.upto
    rw [num_back n rest a (by omega)]
    rw [if_neg (fun hh => by rcases hh.2 with hh | hh <;> simp at hh; omega)]
    simp only [Prod.mk.injEq, and_true]
    unfold wrap64
    omega
  have key : Sc.val0 ⟨vbytes k i t ++ more, 0⟩ = (⟨k, i, t⟩, ⟨more, 0⟩) := by
    unfold Sc.val0 vbytes
    rw [if_pos h]
    rcases vright_k h with ⟨hk, ht⟩ | ⟨hk, hi, ht⟩ | ⟨hk, ht, hi, hj⟩
    · rw [if_pos hk, List.append_assoc, hu 1 _ (by omega) (by omega)]
      unfold Sc.val0k
      rw [if_pos rfl, int_back i more h0 h1, empty_of ht, hk]
    · have n1 : ¬ k = 1 := by omega
      rw [if_neg n1, if_pos hk, List.append_assoc, List.append_assoc, hu 2 _ (by omega) (by omega)]
      have hb := text_back (bytesOf t) more 64 (by rw [bytes_len]; omega) (by rw [bytes_len]; omega)
      rw [bytes_len] at hb
      unfold Sc.val0k
      simp only
      rw [if_neg (by decide), if_pos trivial]
      rw [hb, str_of_bytes, hk, hi]
    · have n1 : ¬ k = 1 := by omega
      have n2 : ¬ k = 2 := by omega
      rw [if_neg n1, if_neg n2, List.append_assoc, hu 3 _ (by omega) (by omega)]
      unfold Sc.val0k
      simp only
      rw [if_neg (by decide), if_neg (by decide), if_pos trivial]
      rw [hu1 i more hi hj, empty_of ht, hk]
  unfold Sc.val
  rw [key, if_pos rfl]
end Go.Proofs.Ytiodpbenjbdcfaa
