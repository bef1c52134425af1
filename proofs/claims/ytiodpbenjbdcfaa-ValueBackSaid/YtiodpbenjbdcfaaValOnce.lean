/- what is read as a value was laid just so -/
import Derived.Test.YtiodpbenjbdcfaaValPut
set_option linter.unusedVariables false
set_option linter.unusedSimpArgs false
set_option autoImplicit false
namespace Go.Proofs.Ytiodpbenjbdcfaa
open Go.RowKit Go.Proofs.YtiodpbenjbdcfaaW.PrintWords Go.Proofs.YtiodpbenjbdcfaaW.PrintLast Go.Proofs.YtiodpbenjbdcfaaW.PrintMore Go.Proofs.Ytiodpbenjbdcfaa.G

theorem num_err (s : Sc) (h : s.e ≠ 0) : s.num.2.e ≠ 0 := by unfold Sc.num; rw [if_neg h]; exact h
theorem upto_err (s : Sc) (m : Int) (h : s.e ≠ 0) : (s.upto m).2.e ≠ 0 := by
  have := num_err s h
  unfold Sc.upto
  rw [if_neg (fun hh => this hh.1)]
  exact this
theorem text_err (s : Sc) (m : Int) (h : s.e ≠ 0) : (s.text m).2.e ≠ 0 := by
  have := upto_err s m h
  unfold Sc.text
  rw [if_neg this]
  exact this
theorem upto_once (l : List Int) (hu : u8s l) (m : Int) (hm : 0 ≤ m ∧ m ≤ 4000) (he : (Sc.upto ⟨l, 0⟩ m).2.e = 0) :
    l = putL (Sc.upto ⟨l, 0⟩ m).1 ++ (Sc.upto ⟨l, 0⟩ m).2.l ∧ 0 ≤ (Sc.upto ⟨l, 0⟩ m).1 ∧ (Sc.upto ⟨l, 0⟩ m).1 ≤ m := by
  have hn := Sc.num_lt ⟨l, 0⟩ hu
  have ho := num_once l hu
  unfold Sc.upto at he ⊢
  split at he
  · exact absurd he (fail_ne _ 4 (by decide))
  · rename_i h3
    rw [if_neg h3]
    simp only at he
    have h4 : ¬ (m < 0 ∨ m < (Sc.num ⟨l, 0⟩).1) := fun h => h3 ⟨he, h⟩
    have hw : wrap64 (Sc.num ⟨l, 0⟩).1 = (Sc.num ⟨l, 0⟩).1 := by unfold wrap64; omega
    simp only
    rw [hw]
    exact ⟨ho he, by omega, by omega⟩
theorem eta0 (s : Sc) (h : s.e = 0) : s = ⟨s.l, 0⟩ := by cases s; simp only at h; rw [h]
theorem empty_toList : ByteArray.empty.toList = [] := by rw [ByteArray.toList_eq]; rfl
theorem val_once (l : List Int) (hu : u8s l) (he : (Sc.val ⟨l, 0⟩).2.e = 0) :
    vright (Sc.val ⟨l, 0⟩).1.k (Sc.val ⟨l, 0⟩).1.i (Sc.val ⟨l, 0⟩).1.t = true ∧
    l = vbytes (Sc.val ⟨l, 0⟩).1.k (Sc.val ⟨l, 0⟩).1.i (Sc.val ⟨l, 0⟩).1.t ++ (Sc.val ⟨l, 0⟩).2.l ∧ -9223372036854775808 ≤ (Sc.val ⟨l, 0⟩).1.i ∧ (Sc.val ⟨l, 0⟩).1.i < 9223372036854775808 := by
  have h0 : (Sc.val0 ⟨l, 0⟩).2.e = 0 := by
    unfold Sc.val at he
    split at he <;> assumption
  have hv : Sc.val ⟨l, 0⟩ = Sc.val0 ⟨l, 0⟩ := by unfold Sc.val; rw [if_pos h0]
  rw [hv]
  have ho := upto_once l hu 3 (by decide)
  have hV : Sc.val0 ⟨l, 0⟩ = Sc.val0k (Sc.upto ⟨l, 0⟩ 3).1 (Sc.upto ⟨l, 0⟩ 3).2 := rfl
  rw [hV] at h0 ⊢
  generalize Sc.upto ⟨l, 0⟩ 3 = p at *
  obtain ⟨k, s⟩ := p
  simp only at *
  unfold Sc.val0k at h0 ⊢
  by_cases k1 : k = 1
  · rw [if_pos k1] at h0 ⊢
    simp only at h0 ⊢
    have hs : s.e = 0 := Classical.byContradiction fun h => num_err s h h0
    obtain ⟨hl, _, _⟩ := ho hs
    have hsu : u8s s.l := by rw [hl] at hu; exact u8s_right hu
    have hn := Sc.num_lt s hsu
    have e := eta0 s hs
    have hb := num_once s.l hsu (by rw [← e]; exact h0)
    rw [← e] at hb
    have hz := zag_lt s.num.1 hn.1 hn.2
    have hr : vright 1 (zag s.num.1) ByteArray.empty = true := by unfold vright; rw [if_pos rfl, empty_toList]; rfl
    refine ⟨hr, ?_, hz⟩
    show l = vbytes 1 (zag s.num.1) ByteArray.empty ++ s.num.2.l
    unfold vbytes
    rw [if_pos hr, if_pos rfl]
    rw [zig_zag _ hn.1, List.append_assoc, ← hb, ← k1]
    exact hl
  rw [if_neg k1] at h0 ⊢
  by_cases k2 : k = 2
  · rw [if_pos k2] at h0 ⊢
    simp only at h0 ⊢
    have hs : s.e = 0 := Classical.byContradiction fun h => text_err s 64 h h0
    obtain ⟨hl, _, _⟩ := ho hs
    have hsu : u8s s.l := by rw [hl] at hu; exact u8s_right hu
    have e := eta0 s hs
    have hb := text_once s.l hsu 64 (by decide) (by rw [← e]; exact h0)
    rw [← e] at hb
    have hx : u8s (s.text 64).1 := by
      have h2 := hb.1
      rw [h2] at hsu
      exact u8s_right (u8s_left hsu)
    have hr : vright 2 0 (strOfNums (s.text 64).1) = true := by
      unfold vright
      rw [if_neg (by decide), if_pos rfl, if_pos rfl, str_size]
      simpa using hb.2
    refine ⟨hr, ?_, by decide, by decide⟩
    unfold vbytes
    rw [if_pos hr, if_neg (by decide), if_pos rfl, str_size, str_bytes _ hx, List.append_assoc, List.append_assoc, ← List.append_assoc (putL ((s.text 64).1.length : Int)), ← hb.1, ← k2]
    exact hl
  rw [if_neg k2] at h0 ⊢
  by_cases k3 : k = 3
  · rw [if_pos k3] at h0 ⊢
    simp only at h0 ⊢
    have hs : s.e = 0 := Classical.byContradiction fun h => upto_err s 1 h h0
    obtain ⟨hl, _, _⟩ := ho hs
    have hsu : u8s s.l := by rw [hl] at hu; exact u8s_right hu
    have e := eta0 s hs
    have hb := upto_once s.l hsu 1 (by decide) (by rw [← e]; exact h0)
    rw [← e] at hb
    have hr : vright 3 (s.upto 1).1 ByteArray.empty = true := by
      unfold vright
      rw [if_neg (by decide), if_neg (by decide), if_pos rfl, if_pos empty_toList]
      simpa using hb.2
    refine ⟨hr, ?_, by omega, by omega⟩
    unfold vbytes
    rw [if_pos hr, if_neg (by decide), if_neg (by decide), List.append_assoc, ← hb.1, ← k3]
    exact hl
  · rw [if_neg k3] at h0
    exact absurd h0 (fail_ne _ 3 (by decide))
theorem val_zero (s : Sc) (h : s.val.2.e ≠ 0) : s.val.1 = ⟨0, 0, ByteArray.empty⟩ := by
  unfold Sc.val at h ⊢
  split
  · rename_i h1; rw [if_pos h1] at h; exact absurd h1 h
  · rfl
theorem vbytes_len (k i : Int) (t : ByteArray) : (vbytes k i t).length ≤ 100 := by
  unfold vbytes
  split
  · rename_i h
    have a := putL_len 1
    have b := putL_len (zig i)
    have c := putL_len 2
    have d := putL_len (t.size : Int)
    have e := putL_len 3
    have f := putL_len i
    rcases vright_k h with ⟨hk, ht⟩ | ⟨hk, hi, ht⟩ | ⟨hk, ht, hi, hj⟩
    · rw [if_pos hk, List.length_append]; omega
    · rw [if_neg (by omega), if_pos hk, List.length_append, List.length_append, bytes_len]; omega
    · rw [if_neg (by omega), if_neg (by omega), List.length_append]; omega
  · simp
theorem vbytes_pos (k i : Int) (t : ByteArray) : (0 < (vbytes k i t).length) ↔ vright k i t = true := by
  unfold vbytes
  split
  · rename_i h
    simp only [h, iff_true]
    rcases vright_k h with ⟨hk, ht⟩ | ⟨hk, hi, ht⟩ | ⟨hk, ht, hi, hj⟩
    · rw [if_pos hk, putL1]; simp
    · rw [if_neg (by omega), if_pos hk, putL2]; simp
    · rw [if_neg (by omega), if_neg (by omega), putL3]; simp
  · rename_i h
    simp [h]
end Go.Proofs.Ytiodpbenjbdcfaa
