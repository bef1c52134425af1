/- bytes laid behind a sealed length: bits turned in them -/
import Derived.Test.YtckjmbpagippkaaDist
set_option autoImplicit false
namespace CrcM

/-- a frame -/
def fr (b : List Nat) : List Nat := sealB [b.length % 256, b.length / 256] ++ sealB b
theorem fr_length (b : List Nat) : (fr b).length = b.length + 10 := by
  unfold fr; rw [List.length_append, sealB_length, sealB_length]; simp; omega
theorem fr_bytes (b : List Nat) (hb : Bytes b) (hl : b.length < 65536) : Bytes (fr b) := by
  intro c hc
  rcases List.mem_append.1 hc with h | h
  · refine sealB_bytes _ ?_ c h
    intro d hd
    simp only [List.mem_cons, List.not_mem_nil, or_false] at hd
    rcases hd with rfl | rfl <;> omega
  · exact sealB_bytes _ hb c h

theorem flip_left (A B : List Nat) (p : Nat) (hp : p < 8 * A.length) : flip (A ++ B) p = flip A p ++ B := by
  unfold flip
  have h : p / 8 < A.length := by omega
  rw [List.set_append_left _ _ h, List.getD_eq_getElem?_getD, List.getD_eq_getElem?_getD, List.getElem?_append_left h]
theorem flip_right (A B : List Nat) (p : Nat) (hp : 8 * A.length ≤ p) : flip (A ++ B) p = A ++ flip B (p - 8 * A.length) := by
  unfold flip
  have h : A.length ≤ p / 8 := by omega
  have e1 : (p - 8 * A.length) / 8 = p / 8 - A.length := by omega
  have e2 : (p - 8 * A.length) % 8 = p % 8 := by omega
  rw [List.set_append_right _ _ h, List.getD_eq_getElem?_getD, List.getD_eq_getElem?_getD, List.getElem?_append_right h, e1, e2]
def lows (n : Nat) (ps : List Nat) : List Nat := ps.filter fun p => decide (p < n)
def highs (n : Nat) (ps : List Nat) : List Nat := (ps.filter fun p => !decide (p < n)).map (· - n)
theorem flips_append (ps A B : List Nat) : flips (A ++ B) ps = flips A (lows (8 * A.length) ps) ++ flips B (highs (8 * A.length) ps) := by
  induction ps generalizing A B with
  | nil => rfl
  | cons p ps ih =>
    show flips (flip (A ++ B) p) ps = _
    unfold lows highs
    by_cases hp : p < 8 * A.length
    · rw [flip_left A B p hp, ih, flip_length, List.filter_cons_of_pos (by simpa using hp), List.filter_cons_of_neg (by simpa using hp)]
      rfl
    · rw [flip_right A B p (by omega), ih, List.filter_cons_of_neg (by simpa using hp), List.filter_cons_of_pos (by simpa using hp)]
      rfl
theorem lows_lt (n : Nat) (ps : List Nat) : ∀ p ∈ lows n ps, p < n := fun p hp => by simpa using (List.mem_filter.1 hp).2
theorem highs_lt (n m : Nat) (ps : List Nat) (h : ∀ p ∈ ps, p < n + m) : ∀ p ∈ highs n ps, p < m := by
  intro p hp
  obtain ⟨q, hq, rfl⟩ := List.mem_map.1 hp
  obtain ⟨h1, h2⟩ := List.mem_filter.1 hq
  have := h q h1
  simp at h2
  omega
def Tells (n : Nat) (ps : List Nat) : Prop := ps = [] ∨ wt n ps ≠ 0

theorem nodup_tells {N : Nat} (hd : ∀ i j, i < j → j < N → tk i 1 / 2 ≠ tk j 1 / 2) (n : Nat) (hn : n ≤ N) (ps : List Nat) (hnd : ps.Nodup) (hl : ps.length ≤ 3) (hp : ∀ p ∈ ps, p < n) : Tells n ps := by
  match ps, hnd, hl, hp with
  | [], _, _, _ => exact .inl rfl
  | [a], _, _, _ => exact .inr (by rw [wt_one]; exact one_ne' n a)
  | [a, b], h, _, hp => exact .inr (by rw [wt_two]; exact two_ne' hd n a b hn (hp a (by simp)) (hp b (by simp)) (by simpa using h))
  | [a, b, c], h, _, hp =>
    simp at h
    exact .inr (by rw [wt_three]; exact three_ne' hd n a b c hn (hp a (by simp)) (hp b (by simp)) (hp c (by simp)) h.1.1 h.1.2 h.2)
  | _ :: _ :: _ :: _ :: _, _, hl, _ => simp at hl
theorem lows_nodup (n : Nat) (ps : List Nat) (h : ps.Nodup) : (lows n ps).Nodup := h.filter _
theorem highs_nodup (n : Nat) (ps : List Nat) (h : ps.Nodup) : (highs n ps).Nodup := by
  have h2 := h.filter (fun p => !decide (p < n))
  unfold highs
  have h3 : ∀ p ∈ ps.filter (fun p => !decide (p < n)), n ≤ p := fun p hp => by simpa using (List.mem_filter.1 hp).2
  generalize ps.filter (fun p => !decide (p < n)) = qs at h2 h3
  show List.Pairwise _ _
  rw [List.pairwise_map]
  exact List.Pairwise.imp_of_mem (fun ha hb hne => by have := h3 _ ha; have := h3 _ hb; omega) h2
theorem places_nodup (p q r : Nat) : (places p q r).Nodup := by
  unfold places
  by_cases h1 : q ≠ p
  · by_cases h2 : r ≠ p ∧ r ≠ q
    · rw [if_pos h1, if_pos h2]; simp; exact ⟨⟨Ne.symm h1, Ne.symm h2.1⟩, Ne.symm h2.2⟩
    · rw [if_pos h1, if_neg h2]; simp; exact Ne.symm h1
  · by_cases h2 : r ≠ p ∧ r ≠ q
    · rw [if_neg h1, if_pos h2]; simp; exact Ne.symm h2.1
    · rw [if_neg h1, if_neg h2]; simp
theorem places_length (p q r : Nat) : (places p q r).length ≤ 3 := by
  unfold places
  split <;> split <;> simp
theorem places_in (n p q r : Nat) (hp : p < n) (hq : q < n) (hr : r < n) : ∀ z ∈ places p q r, z < n := by
  intro z hz
  unfold places at hz
  rcases List.mem_cons.1 hz with rfl | hz
  · exact hp
  · rcases List.mem_append.1 hz with hz | hz
    · split at hz
      · simp at hz; omega
      · simp at hz
    · split at hz
      · simp at hz; omega
      · simp at hz
theorem lows_few (n : Nat) (ps : List Nat) : (lows n ps).length ≤ ps.length := List.length_filter_le _ _
theorem highs_few (n : Nat) (ps : List Nat) : (highs n ps).length ≤ ps.length := by unfold highs; rw [List.length_map]; exact List.length_filter_le _ _
theorem split_ne (n : Nat) (ps : List Nat) (h : ps ≠ []) (h1 : lows n ps = []) : highs n ps ≠ [] := by
  intro h2
  apply h
  match ps, h1, h2 with
  | [], _, _ => rfl
  | p :: ps, h1, h2 =>
    unfold lows at h1; unfold highs at h2
    have h2' := List.map_eq_nil_iff.1 h2
    by_cases hp : p < n
    · rw [List.filter_cons_of_pos (by simpa using hp)] at h1; cases h1
    · rw [List.filter_cons_of_pos (by simpa using hp)] at h2'; cases h2'

/-- a burst, cut at a place -/
theorem burst_succ' (i at_ mask : Nat) : burst (i + 1) at_ mask = burst i at_ mask ++ (if mask / 2 ^ i % 2 = 1 then [at_ + i] else []) := by
  unfold burst
  rw [List.range_succ, List.filter_append, List.map_append]
  congr 1
  by_cases hb : mask / 2 ^ i % 2 = 1 <;> simp [hb]
theorem burst_lows (n at_ mask i : Nat) : lows n (burst i at_ mask) = burst (min i (n - at_)) at_ mask := by
  induction i with
  | zero => rw [Nat.zero_min]; rfl
  | succ i ih =>
    rw [burst_succ']
    unfold lows at ih ⊢
    rw [List.filter_append, ih]
    by_cases h : at_ + i < n
    · rw [show min (i + 1) (n - at_) = min i (n - at_) + 1 by omega, burst_succ', show min i (n - at_) = i by omega]
      by_cases hb : mask / 2 ^ i % 2 = 1 <;> simp [hb, h]
    · rw [show min (i + 1) (n - at_) = min i (n - at_) by omega]
      by_cases hb : mask / 2 ^ i % 2 = 1 <;> simp [hb, h]
theorem burst_highs (n at_ mask i : Nat) : highs n (burst i at_ mask) = burst (i - (n - at_)) (at_ - n) (mask / 2 ^ (n - at_)) := by
  induction i with
  | zero => rw [Nat.zero_sub]; rfl
  | succ i ih =>
    rw [burst_succ']
    unfold highs at ih ⊢
    rw [List.filter_append, List.map_append, ih]
    by_cases h : at_ + i < n
    · rw [show i + 1 - (n - at_) = i - (n - at_) by omega]
      by_cases hb : mask / 2 ^ i % 2 = 1 <;> simp [hb, h]
    · rw [show i + 1 - (n - at_) = i - (n - at_) + 1 by omega, burst_succ', Nat.div_div_eq_div_mul, ← Nat.pow_add, show n - at_ + (i - (n - at_)) = i by omega]
      by_cases hb : mask / 2 ^ i % 2 = 1
      · simp [hb, h]; omega
      · simp [hb]
theorem burst_none (i at_ mask : Nat) (h : mask % 2 ^ i = 0) : burst i at_ mask = [] := by
  induction i with
  | zero => rfl
  | succ i ih =>
    have h1 : mask % 2 ^ i = 0 := by
      have := Nat.mod_mod_of_dvd mask (Nat.pow_dvd_pow 2 (Nat.le_succ i))
      rw [h, Nat.zero_mod] at this
      exact this.symm
    rw [burst_succ', ih h1]
    have h2 := Nat.mod_pow_succ (x := mask) (b := 2) (k := i)
    rw [h, h1] at h2
    have h3 : mask / 2 ^ i % 2 = 0 := by
      rcases Nat.eq_zero_or_pos (mask / 2 ^ i % 2) with h | h
      · exact h
      · have : 0 < 2 ^ i * (mask / 2 ^ i % 2) := Nat.mul_pos (Nat.pow_pos (by decide)) h
        omega
    rw [if_neg (by omega)]; rfl
theorem burst_tells (n i at_ mask : Nat) (h : at_ + i ≤ n) (hi : i ≤ 32) : Tells n (burst i at_ mask) := by
  by_cases h0 : mask % 2 ^ i = 0
  · exact .inl (burst_none i at_ mask h0)
  · refine .inr ?_
    rw [wt_burst n at_ mask i h]
    refine tk_ne_zero _ _ ?_ h0
    have h1 : mask % 2 ^ i < 2 ^ i := Nat.mod_lt _ (Nat.pow_pos (by decide))
    have h2 : (2 : Nat) ^ i ≤ 2 ^ 32 := Nat.pow_le_pow_right (by decide) hi
    have h3 : (2 : Nat) ^ 32 = 4294967296 := by decide
    omega
theorem burst_some (at_ mask : Nat) (hm : mask < 4294967296) (h0 : mask ≠ 0) : burst 32 at_ mask ≠ [] := by
  intro h
  have := wt_burst (at_ + 32) at_ mask 32 (Nat.le_refl _)
  rw [h, Nat.mod_eq_of_lt hm] at this
  exact tk_ne_zero _ _ hm h0 this.symm
theorem burst_in' (at_ mask i p : Nat) (h : p ∈ burst i at_ mask) : p < at_ + i := by
  unfold burst at h
  obtain ⟨j, hj, rfl⟩ := List.mem_map.1 h
  have := List.mem_range.1 (List.mem_filter.1 hj).1
  omega
end CrcM
