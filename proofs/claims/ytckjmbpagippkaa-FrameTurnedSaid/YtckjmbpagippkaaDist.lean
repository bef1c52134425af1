import Derived.Test.YtckjmbpagippkaaM
namespace CrcM
def hA (x : Nat) : Nat := x % 65536
def hB (x : Nat) : Nat := x / 2048
def hD (x : Nat) : Nat := x * 40503 / 4096 % 65536
/-- the values behind the first bit, of one class, told apart by three rows of bits -/
def ck (m c : Nat) : Nat → Nat → Nat → Nat → Nat → Bool
  | 0, _, _, _, _ => true
  | k + 1, v, A, B, D =>
    bif Nat.beq (v / 2 % m) c then
      bif (A.testBit (hA (v / 2 / m)) && (B.testBit (hB (v / 2 / m)) && D.testBit (hD (v / 2 / m)))) then false
      else ck m c k (t1 v) (A ||| 1 <<< hA (v / 2 / m)) (B ||| 1 <<< hB (v / 2 / m)) (D ||| 1 <<< hD (v / 2 / m))
    else ck m c k (t1 v) A B D
def cks (m n : Nat) : Nat → Bool
  | 0 => true
  | c + 1 => ck m c n 1 0 0 0 && cks m n c

theorem tk_succ (s n : Nat) : tk (s + 1) n = t1 (tk s n) := by rw [tk_add]; rfl

theorem put_bit (A h i : Nat) : (A ||| 1 <<< h).testBit i = (A.testBit i || decide (h = i)) := by
  rw [Nat.testBit_or, Nat.one_shiftLeft, Nat.testBit_two_pow]

theorem ck_sound (m c k : Nat) : ∀ (s A B D : Nat), ck m c k (tk s 1) A B D = true →
    (∀ i, i < s → tk i 1 / 2 % m = c → A.testBit (hA (tk i 1 / 2 / m)) = true ∧ B.testBit (hB (tk i 1 / 2 / m)) = true ∧ D.testBit (hD (tk i 1 / 2 / m)) = true) →
    ∀ j, s ≤ j → j < s + k → tk j 1 / 2 % m = c → ∀ i, i < j → tk i 1 / 2 ≠ tk j 1 / 2 := by
  induction k with
  | zero => intro s A B D _ _ j h1 h2; omega
  | succ k ih =>
    intro s A B D h hP j h1 h2 hjc i hij
    rw [ck] at h
    by_cases hc : tk s 1 / 2 % m = c
    · rw [show Nat.beq (tk s 1 / 2 % m) c = true from by rw [hc]; exact Nat.beq_refl c, cond_true] at h
      by_cases hb : (A.testBit (hA (tk s 1 / 2 / m)) && (B.testBit (hB (tk s 1 / 2 / m)) && D.testBit (hD (tk s 1 / 2 / m)))) = true
      · rw [hb, cond_true] at h; cases h
      · rw [Bool.not_eq_true] at hb
        rw [hb, cond_false, ← tk_succ] at h
        by_cases hj : j = s
        · subst hj
          intro e
          have hi := hP i hij (by rw [e]; exact hc)
          rw [e] at hi
          rw [hi.1, hi.2.1, hi.2.2] at hb
          cases hb
        · refine ih (s + 1) _ _ _ h ?_ j (by omega) (by omega) hjc i hij
          intro i' hi' hic
          simp only [put_bit]
          by_cases e : i' = s
          · subst e; simp
          · obtain ⟨p, q, r⟩ := hP i' (by omega) hic
            rw [p, q, r]; simp
    · have hbq : Nat.beq (tk s 1 / 2 % m) c = false := by
        cases hq : Nat.beq (tk s 1 / 2 % m) c
        · rfl
        · exact absurd (Nat.eq_of_beq_eq_true hq) hc
      rw [hbq, cond_false, ← tk_succ] at h
      have hjs : j ≠ s := fun e => hc (e ▸ hjc)
      refine ih (s + 1) _ _ _ h ?_ j (by omega) (by omega) hjc i hij
      intro i' hi' hic
      have : i' ≠ s := fun e => hc (e ▸ hic)
      exact hP i' (by omega) hic

theorem cks_class (m n : Nat) : ∀ c, cks m n c = true → ∀ d, d < c → ck m d n 1 0 0 0 = true := by
  intro c
  induction c with
  | zero => intro _ d hd; omega
  | succ c ih =>
    intro h d hd
    rw [cks, Bool.and_eq_true] at h
    by_cases e : d = c
    · subst e; exact h.1
    · exact ih h.2 d (by omega)

theorem dist (m n : Nat) (hm : 0 < m) (h : cks m n m = true) : ∀ i j, i < j → j < n → tk i 1 / 2 ≠ tk j 1 / 2 := by
  intro i j hij hj
  exact ck_sound m (tk j 1 / 2 % m) n 0 0 0 0 (cks_class m n m h _ (Nat.mod_lt _ hm)) (fun i hi => by omega) j (Nat.zero_le _) (by omega) rfl i hij

set_option maxRecDepth 1000000
theorem cks_8032 : cks 2 8032 2 = true := by decide +kernel

/-- one, two or three places, each told once -/
def places (p q r : Nat) : List Nat := p :: ((if q ≠ p then [q] else []) ++ (if r ≠ p ∧ r ≠ q then [r] else []))

theorem wt_one (n p : Nat) : wt n [p] = tk (n - p) 1 := by simp [wt]
theorem wt_two (n p q : Nat) : wt n [p, q] = tk (n - p) 1 ^^^ tk (n - q) 1 := by simp [wt]
theorem wt_three (n p q r : Nat) : wt n [p, q, r] = tk (n - p) 1 ^^^ tk (n - q) 1 ^^^ tk (n - r) 1 := by simp [wt]

theorem one_ne' (n p : Nat) : tk (n - p) 1 ≠ 0 := tk_ne_zero _ _ (by omega) (by omega)

section
variable {N : Nat} (hd : ∀ i j, i < j → j < N → tk i 1 / 2 ≠ tk j 1 / 2)
include hd
theorem two_ne' (n p q : Nat) (hn : n ≤ N) (hp : p < n) (hq : q < n) (h : p ≠ q) : tk (n - p) 1 ^^^ tk (n - q) 1 ≠ 0 := by
  have hz : ∀ i, 0 < i → i < n → tk i 1 / 2 ≠ 0 := fun i hi h2 => by
    have := hd 0 i hi (by omega)
    rw [show tk 0 1 / 2 = 0 from rfl] at this
    exact fun e => this e.symm
  rcases Nat.lt_or_gt_of_ne h with h | h
  · exact two_ne n p q hz h hq
  · rw [Nat.xor_comm]; exact two_ne n q p hz h hp

theorem three_ne' (n p q r : Nat) (hn : n ≤ N) (hp : p < n) (hq : q < n) (hr : r < n) (h1 : p ≠ q) (h2 : p ≠ r) (h3 : q ≠ r) :
    tk (n - p) 1 ^^^ tk (n - q) 1 ^^^ tk (n - r) 1 ≠ 0 := by
  have hz : ∀ i j, i < j → j < n → tk i 1 / 2 ≠ tk j 1 / 2 := fun i j hi hj => hd i j hi (by omega)
  have X : ∀ a b c : Nat, a ^^^ b ^^^ c = a ^^^ c ^^^ b := fun a b c => by rw [Nat.xor_assoc, Nat.xor_comm b, ← Nat.xor_assoc]
  rcases Nat.lt_or_gt_of_ne h1 with h1 | h1 <;> rcases Nat.lt_or_gt_of_ne h2 with h2 | h2 <;> rcases Nat.lt_or_gt_of_ne h3 with h3 | h3
  · exact three_ne n p q r hz h1 h3 hr
  · rw [X]; exact three_ne n p r q hz h2 h3 hq
  · omega
  · rw [Nat.xor_comm, ← Nat.xor_assoc]; exact three_ne n r p q hz h2 h1 hq
  · rw [Nat.xor_comm (tk (n - p) 1)]; exact three_ne n q p r hz h1 h2 hr
  · omega
  · rw [Nat.xor_comm (tk (n - p) 1), X]; exact three_ne n q r p hz h3 h2 hp
  · rw [Nat.xor_comm, Nat.xor_comm (tk (n - p) 1), ← Nat.xor_assoc]; exact three_ne n r q p hz h3 h1 hp

theorem few_ne (n p q r : Nat) (hn : n ≤ N) (hp : p < n) (hq : q < n) (hr : r < n) : wt n (places p q r) ≠ 0 := by
  unfold places
  by_cases h1 : q ≠ p
  · by_cases h2 : r ≠ p ∧ r ≠ q
    · rw [if_pos h1, if_pos h2]
      show wt n [p, q, r] ≠ 0
      rw [wt_three]; exact three_ne' hd n p q r hn hp hq hr (Ne.symm h1) (Ne.symm h2.1) (Ne.symm h2.2)
    · rw [if_pos h1, if_neg h2]
      show wt n [p, q] ≠ 0
      rw [wt_two]; exact two_ne' hd n p q hn hp hq (Ne.symm h1)
  · by_cases h2 : r ≠ p ∧ r ≠ q
    · rw [if_neg h1, if_pos h2]
      show wt n [p, r] ≠ 0
      rw [wt_two]; exact two_ne' hd n p r hn hp hr (Ne.symm h2.1)
    · rw [if_neg h1, if_neg h2]
      show wt n [p] ≠ 0
      rw [wt_one]; exact one_ne' n p
end

theorem dist_8032 : ∀ i j, i < j → j < 8032 → tk i 1 / 2 ≠ tk j 1 / 2 := dist 2 8032 (by decide) cks_8032
end CrcM
