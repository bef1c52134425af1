namespace CrcM

/-- one bit's step -/
def t1 (n : Nat) : Nat := if n % 2 = 1 then (n / 2) ^^^ 3988292384 else n / 2
def tk : Nat → Nat → Nat
  | 0, n => n
  | k + 1, n => tk k (t1 n)
/-- a byte's step -/
def upd (s c : Nat) : Nat := tk 8 ((s ^^^ c) % 256) ^^^ s / 256
def run (s : Nat) (l : List Nat) : Nat := l.foldl upd s
def M : Nat := 4294967295
def add (s : Nat) (l : List Nat) : Nat := run (s ^^^ M) l ^^^ M
def sum (l : List Nat) : Nat := add 0 l
def low (n : Nat) : List Nat := [n % 256, n / 256 % 256, n / 65536 % 256, n / 16777216 % 256]
def sealB (l : List Nat) : List Nat := l ++ low (sum l)
def openB (l : List Nat) : Option (List Nat) :=
  if l.length < 4 then none
  else if low (sum (l.take (l.length - 4))) = l.drop (l.length - 4) then some (l.take (l.length - 4)) else none

theorem xor_div (a b k : Nat) : (a ^^^ b) / 2 ^ k = a / 2 ^ k ^^^ b / 2 ^ k := by
  apply Nat.eq_of_testBit_eq
  intro i
  simp [Nat.testBit_div_two_pow, Nat.testBit_xor]

theorem xor_mod (a b k : Nat) : (a ^^^ b) % 2 ^ k = a % 2 ^ k ^^^ b % 2 ^ k := by
  apply Nat.eq_of_testBit_eq
  intro i
  simp only [Nat.testBit_mod_two_pow, Nat.testBit_xor]
  cases decide (i < k) <;> simp

theorem t1_xor (a b : Nat) : t1 (a ^^^ b) = t1 a ^^^ t1 b := by
  have hd := xor_div a b 1
  have hm := xor_mod a b 1
  simp only [Nat.pow_one] at hd hm
  unfold t1
  rw [hd, hm]
  rcases Nat.mod_two_eq_zero_or_one a with ha | ha <;> rcases Nat.mod_two_eq_zero_or_one b with hb | hb <;> simp only [ha, hb, Nat.xor_zero, Nat.zero_xor, Nat.xor_self, if_true, if_false, Nat.one_ne_zero, Nat.zero_ne_one]
  · rw [Nat.xor_assoc]
  · rw [Nat.xor_assoc, Nat.xor_assoc, Nat.xor_comm 3988292384]
  · rw [Nat.xor_assoc, ← Nat.xor_assoc 3988292384, Nat.xor_comm 3988292384, Nat.xor_assoc, Nat.xor_self, Nat.xor_zero]

theorem tk_xor (k a b : Nat) : tk k (a ^^^ b) = tk k a ^^^ tk k b := by
  induction k generalizing a b with
  | zero => rfl
  | succ k ih => simp only [tk]; rw [t1_xor, ih]

theorem tk_add (j k n : Nat) : tk (j + k) n = tk k (tk j n) := by
  induction j generalizing n with
  | zero => simp [tk]
  | succ j ih => rw [Nat.succ_add]; simp only [tk]; exact ih _

theorem tk_zero (k : Nat) : tk k 0 = 0 := by
  induction k with
  | zero => rfl
  | succ k ih => simp only [tk]; exact ih

theorem t1_even (n : Nat) : t1 (2 * n) = n := by
  unfold t1
  rw [if_neg (by omega)]; omega

theorem tk_shift (k n : Nat) : tk k (n * 2 ^ k) = n := by
  induction k generalizing n with
  | zero => simp [tk]
  | succ k ih =>
    simp only [tk]
    rw [show n * 2 ^ (k + 1) = 2 * (n * 2 ^ k) by rw [Nat.pow_succ]; ac_rfl, t1_even, ih]

theorem t1_lt (n : Nat) (h : n < 4294967296) : t1 n < 4294967296 := by
  unfold t1
  split
  · exact Nat.xor_lt_two_pow (n := 32) (by omega) (by omega)
  · omega

theorem tk_lt (k n : Nat) (h : n < 4294967296) : tk k n < 4294967296 := by
  induction k generalizing n with
  | zero => exact h
  | succ k ih => exact ih _ (t1_lt n h)

theorem xor_eq_zero {a b : Nat} (h : a ^^^ b = 0) : a = b := by
  have : a ^^^ (a ^^^ b) = a ^^^ 0 := by rw [h]
  rw [← Nat.xor_assoc, Nat.xor_self, Nat.zero_xor, Nat.xor_zero] at this
  exact this.symm

theorem t1_ne_zero (n : Nat) (h : n < 4294967296) (h0 : n ≠ 0) : t1 n ≠ 0 := by
  unfold t1
  split
  · intro e
    have := xor_eq_zero e
    omega
  · omega

theorem tk_ne_zero (k n : Nat) (h : n < 4294967296) (h0 : n ≠ 0) : tk k n ≠ 0 := by
  induction k generalizing n with
  | zero => exact h0
  | succ k ih => exact ih _ (t1_lt n h) (t1_ne_zero n h h0)

theorem tk_inj (k a b : Nat) (ha : a < 4294967296) (hb : b < 4294967296) (h : tk k a = tk k b) : a = b := by
  apply xor_eq_zero
  apply Classical.byContradiction
  intro hne
  exact tk_ne_zero k (a ^^^ b) (Nat.xor_lt_two_pow (n := 32) ha hb) hne (by rw [tk_xor, h, Nat.xor_self])

/-- a byte's step, as eight bits' -/
theorem split_byte (s : Nat) : s = (s % 256) ^^^ (s / 256 * 256) := by
  apply Nat.eq_of_testBit_eq
  intro i
  rw [Nat.testBit_xor, show (256 : Nat) = 2 ^ 8 from rfl, Nat.testBit_mod_two_pow, Nat.mul_comm, Nat.testBit_two_pow_mul, Nat.testBit_div_two_pow]
  by_cases h : i < 8
  · simp [h, Nat.not_le.2 h]
  · have h8 : 8 ≤ i := by omega
    simp [h, h8, show 8 + (i - 8) = i by omega]

theorem upd_eq (s c : Nat) (hc : c < 256) : upd s c = tk 8 (s ^^^ c) := by
  have h := split_byte (s ^^^ c)
  have hd : (s ^^^ c) / 256 = s / 256 := by
    have := xor_div s c 8
    rw [show (2 : Nat) ^ 8 = 256 from rfl] at this
    rw [this, Nat.div_eq_of_lt hc, Nat.xor_zero]
  rw [hd] at h
  unfold upd
  rw [h, tk_xor]
  have e := tk_shift 8 (s / 256)
  rw [show (2 : Nat) ^ 8 = 256 from rfl] at e
  rw [e, ← h]

def Bytes (l : List Nat) : Prop := ∀ c ∈ l, c < 256

theorem upd_lt (s c : Nat) (hs : s < 4294967296) (hc : c < 256) : upd s c < 4294967296 := by
  rw [upd_eq s c hc]; exact tk_lt _ _ (Nat.xor_lt_two_pow (n := 32) hs (by omega))

theorem run_lt (l : List Nat) (hl : Bytes l) (s : Nat) (hs : s < 4294967296) : run s l < 4294967296 := by
  induction l generalizing s with
  | nil => exact hs
  | cons c l ih => exact ih (fun x hx => hl x (List.mem_cons_of_mem _ hx)) _ (upd_lt s c hs (hl c (List.mem_cons_self)))

theorem run_append (s : Nat) (a b : List Nat) : run s (a ++ b) = run (run s a) b := by simp [run]

/-- what a state's change comes to -/
theorem run_xor (l : List Nat) (hl : Bytes l) (s d : Nat) : run (s ^^^ d) l = run s l ^^^ tk (8 * l.length) d := by
  induction l generalizing s d with
  | nil => rfl
  | cons c l ih =>
    have hc := hl c (List.mem_cons_self)
    show run (upd (s ^^^ d) c) l = run (upd s c) l ^^^ _
    rw [upd_eq _ _ hc, upd_eq _ _ hc, show s ^^^ d ^^^ c = (s ^^^ c) ^^^ d by rw [Nat.xor_assoc, Nat.xor_comm d, ← Nat.xor_assoc], tk_xor, ih (fun x hx => hl x (List.mem_cons_of_mem _ hx)), ← tk_add]
    congr 2
    simp only [List.length_cons]; omega

/-- one bit turned -/
def flip (l : List Nat) (p : Nat) : List Nat := l.set (p / 8) (l.getD (p / 8) 0 ^^^ 2 ^ (p % 8))

theorem flip_length (l : List Nat) (p : Nat) : (flip l p).length = l.length := by simp [flip]

theorem pow_lt (p : Nat) : 2 ^ (p % 8) < 256 := by
  have h := Nat.pow_lt_pow_right (a := 2) (by omega) (show p % 8 < 8 by omega)
  simpa using h

theorem flip_bytes (l : List Nat) (p : Nat) (hl : Bytes l) : Bytes (flip l p) := by
  intro c hc
  rcases List.mem_or_eq_of_mem_set hc with h | h
  · exact hl c h
  · rw [h]
    refine Nat.xor_lt_two_pow (n := 8) ?_ (pow_lt p)
    by_cases hp : p / 8 < l.length
    · simp [List.getD_eq_getElem?_getD, hp]; exact hl _ (List.getElem_mem hp)
    · simp [List.getD_eq_getElem?_getD, Nat.le_of_not_lt hp]

theorem run_flip (l : List Nat) (hl : Bytes l) (s p : Nat) (hp : p < 8 * l.length) :
    run s (flip l p) = run s l ^^^ tk (8 * l.length - p) 1 := by
  induction l generalizing s p with
  | nil => simp at hp
  | cons c l ih =>
    have hc := hl c (List.mem_cons_self)
    have hl' : Bytes l := fun x hx => hl x (List.mem_cons_of_mem _ hx)
    by_cases h8 : p < 8
    · have e : p / 8 = 0 := by omega
      have em : p % 8 = p := by omega
      simp only [flip, e, em, List.set_cons_zero, List.getD_cons_zero]
      show run (upd s (c ^^^ 2 ^ p)) l = run (upd s c) l ^^^ _
      have hx : c ^^^ 2 ^ p < 256 := Nat.xor_lt_two_pow (n := 8) hc (by have := pow_lt p; rwa [em] at this)
      rw [upd_eq _ _ hx, upd_eq _ _ hc, ← Nat.xor_assoc, tk_xor, run_xor l hl', ← tk_add]
      congr 1
      have h2 := tk_shift p 1
      rw [Nat.one_mul] at h2
      rw [show 8 + 8 * l.length = p + (8 * (c :: l).length - p) by simp only [List.length_cons]; omega, tk_add, h2]
    · have e : flip (c :: l) p = c :: flip l (p - 8) := by
        obtain ⟨q, rfl⟩ : ∃ q, p = q + 8 := ⟨p - 8, by omega⟩
        simp only [flip, show (q + 8) / 8 = q / 8 + 1 by omega, show (q + 8) % 8 = q % 8 by omega, List.set_cons_succ, List.getD_cons_succ, Nat.add_sub_cancel]
      rw [e]
      show run (upd s c) (flip l (p - 8)) = run (upd s c) l ^^^ _
      rw [ih hl' _ _ (by simp only [List.length_cons] at hp; omega)]
      congr 2
      simp only [List.length_cons] at hp ⊢; omega

/-- the four bytes of a number, read behind a state -/
theorem low_bytes (y : Nat) : Bytes (low y) := by
  intro c hc
  simp only [low, List.mem_cons, List.not_mem_nil, or_false] at hc
  omega

theorem run_low (x y : Nat) (hy : y < 4294967296) : run x (low y) = tk 32 (x ^^^ y) := by
  have h0 : y = (y % 256) ^^^ (y / 256 * 256) := split_byte y
  have h1 : y / 256 = (y / 256 % 256) ^^^ (y / 256 / 256 * 256) := split_byte _
  have h2 : y / 256 / 256 = (y / 256 / 256 % 256) ^^^ (y / 256 / 256 / 256 * 256) := split_byte _
  have e2 : y / 65536 = y / 256 / 256 := by omega
  have e3 : y / 16777216 = y / 256 / 256 / 256 := by omega
  have e4 : y / 256 / 256 / 256 % 256 = y / 256 / 256 / 256 := by omega
  have key : ∀ s a q, a < 256 → tk 8 (s ^^^ (a ^^^ q * 256)) = upd s a ^^^ q := by
    intro s a q ha
    rw [← Nat.xor_assoc, tk_xor, upd_eq _ _ ha]
    have := tk_shift 8 q
    rw [show (2 : Nat) ^ 8 = 256 from rfl] at this
    rw [this]
  simp only [run, low, List.foldl]
  rw [e2, e3, e4]
  rw [show (32 : Nat) = 8 + (8 + (8 + 8)) from rfl, tk_add, tk_add, tk_add]
  conv => rhs; rw [h0]
  rw [key _ _ _ (by omega)]
  conv => rhs; rw [h1]
  rw [key _ _ _ (by omega)]
  conv => rhs; rw [h2]
  rw [key _ _ _ (by omega), upd_eq _ (y / 256 / 256 / 256) (by omega)]

theorem low_inj (x y : Nat) (hx : x < 4294967296) (hy : y < 4294967296) (h : low x = low y) : x = y := by
  simp only [low, List.cons.injEq, and_true] at h
  omega

theorem low_of (l : List Nat) (hl : Bytes l) (h : l.length = 4) : ∃ y, y < 4294967296 ∧ l = low y := by
  match l, h with
  | [a, b, c, d], _ =>
    have ha := hl a (by simp)
    have hb := hl b (by simp)
    have hc := hl c (by simp)
    have hd := hl d (by simp)
    refine ⟨a + 256 * b + 65536 * c + 16777216 * d, by omega, ?_⟩
    simp only [low, List.cons.injEq, and_true]
    omega

/-- the state that what is sealed comes to -/
def K : Nat := tk 32 M

theorem M_lt : M < 4294967296 := by decide

theorem sum_lt (l : List Nat) (hl : Bytes l) : sum l < 4294967296 := by
  unfold sum add
  exact Nat.xor_lt_two_pow (n := 32) (run_lt l hl _ (by decide)) M_lt

theorem run_sum (l : List Nat) (hl : Bytes l) (y : Nat) (hy : y < 4294967296) : run M (l ++ low y) = K ↔ y = sum l := by
  have hr := run_lt l hl M M_lt
  rw [run_append, run_low _ _ hy]
  unfold K sum add
  rw [Nat.zero_xor]
  constructor
  · intro h
    have := tk_inj 32 _ _ (Nat.xor_lt_two_pow (n := 32) hr hy) M_lt h
    have e : run M l ^^^ (run M l ^^^ y) = run M l ^^^ M := by rw [this]
    rwa [← Nat.xor_assoc, Nat.xor_self, Nat.zero_xor] at e
  · intro h
    rw [h, ← Nat.xor_assoc, Nat.xor_self, Nat.zero_xor]

theorem sealB_bytes (l : List Nat) (hl : Bytes l) : Bytes (sealB l) := by
  intro c hc
  rcases List.mem_append.1 hc with h | h
  · exact hl c h
  · exact low_bytes _ c h

theorem sealB_length (l : List Nat) : (sealB l).length = l.length + 4 := by simp [sealB, low]

theorem sealB_run (l : List Nat) (hl : Bytes l) : run M (sealB l) = K := (run_sum l hl _ (sum_lt l hl)).2 rfl

theorem open_sealB (l : List Nat) : openB (sealB l) = some l := by
  unfold openB
  have h := sealB_length l
  rw [if_neg (by omega), h, show l.length + 4 - 4 = l.length by omega]
  simp [sealB]

theorem open_some (c y : List Nat) (h : openB c = some y) : sealB y = c := by
  unfold openB at h
  split at h
  · cases h
  · split at h
    · rename_i h4 he
      cases h
      unfold sealB
      rw [he]
      exact List.take_append_drop _ _
    · cases h

/-- what is opened comes to K -/
theorem open_iff (c : List Nat) (hc : Bytes c) : openB c ≠ none ↔ 4 ≤ c.length ∧ run M c = K := by
  unfold openB
  by_cases h4 : c.length < 4
  · rw [if_pos h4]; simp; omega
  · rw [if_neg h4]
    have ht : Bytes (c.take (c.length - 4)) := fun x hx => hc x (List.mem_of_mem_take hx)
    have hd : Bytes (c.drop (c.length - 4)) := fun x hx => hc x (List.mem_of_mem_drop hx)
    obtain ⟨y, hy, hdy⟩ := low_of _ hd (by simp; omega)
    have hs := sum_lt _ ht
    have e : run M c = run M (c.take (c.length - 4) ++ low y) := by rw [← hdy, List.take_append_drop]
    rw [hdy, e, run_sum _ ht y hy]
    constructor
    · intro h
      refine ⟨by omega, ?_⟩
      split at h
      · rename_i he; exact (low_inj _ _ hs hy he).symm
      · exact absurd rfl h
    · rintro ⟨_, rfl⟩
      simp

/-- places turned, one behind the other -/
def flips (l : List Nat) (ps : List Nat) : List Nat := ps.foldl flip l

theorem flips_length (ps l : List Nat) : (flips l ps).length = l.length := by
  induction ps generalizing l with
  | nil => rfl
  | cons p ps ih => show (flips (flip l p) ps).length = _; rw [ih, flip_length]

theorem flips_bytes (ps l : List Nat) (hl : Bytes l) : Bytes (flips l ps) := by
  induction ps generalizing l with
  | nil => exact hl
  | cons p ps ih => exact ih _ (flip_bytes l p hl)

def wt (n : Nat) (ps : List Nat) : Nat := ps.foldl (fun a p => a ^^^ tk (n - p) 1) 0

theorem foldl_xor (n a : Nat) (ps : List Nat) : ps.foldl (fun a p => a ^^^ tk (n - p) 1) a = a ^^^ wt n ps := by
  induction ps generalizing a with
  | nil => simp [wt]
  | cons p ps ih => simp only [List.foldl, wt]; rw [ih, ih (0 ^^^ _), Nat.zero_xor, Nat.xor_assoc]

theorem run_flips (ps l : List Nat) (hl : Bytes l) (s : Nat) (hp : ∀ p ∈ ps, p < 8 * l.length) :
    run s (flips l ps) = run s l ^^^ wt (8 * l.length) ps := by
  induction ps generalizing l with
  | nil => simp [flips, wt]
  | cons p ps ih =>
    show run s (flips (flip l p) ps) = _
    rw [ih _ (flip_bytes l p hl) (fun q hq => by rw [flip_length]; exact hp q (List.mem_cons_of_mem _ hq)), flip_length, run_flip l hl s p (hp p (List.mem_cons_self))]
    show _ = _ ^^^ List.foldl _ (0 ^^^ _) ps
    rw [foldl_xor, Nat.zero_xor, Nat.xor_assoc]

theorem refused (l ps : List Nat) (hl : Bytes l) (hp : ∀ p ∈ ps, p < 8 * (l.length + 4)) (hw : wt (8 * (l.length + 4)) ps ≠ 0) :
    openB (flips (sealB l) ps) = none := by
  apply Classical.byContradiction
  intro h
  have h2 := ((open_iff _ (flips_bytes ps _ (sealB_bytes l hl))).1 h).2
  rw [run_flips ps _ (sealB_bytes l hl) M (by rw [sealB_length]; exact hp), sealB_length, sealB_run l hl] at h2
  apply hw
  have : K ^^^ (K ^^^ wt (8 * (l.length + 4)) ps) = K ^^^ K := by rw [h2]
  rwa [← Nat.xor_assoc, Nat.xor_self, Nat.zero_xor] at this

/-- the bits of a mask, from 'at' on -/
def burst (i : Nat) (at_ mask : Nat) : List Nat := ((List.range i).filter fun j => mask / 2 ^ j % 2 = 1).map (at_ + ·)

theorem mod_succ (m i : Nat) : m % 2 ^ (i + 1) = (m % 2 ^ i) ^^^ (m / 2 ^ i % 2 * 2 ^ i) := by
  apply Nat.eq_of_testBit_eq
  intro j
  rw [Nat.testBit_xor, Nat.testBit_mod_two_pow, Nat.testBit_mod_two_pow, Nat.mul_comm, Nat.testBit_two_pow_mul]
  have h2 : m / 2 ^ i % 2 = (m / 2 ^ i) % 2 ^ 1 := by simp
  rw [h2, Nat.testBit_mod_two_pow, Nat.testBit_div_two_pow]
  by_cases h : j < i
  · simp [h, show j < i + 1 by omega, Nat.not_le.2 h]
  · by_cases h' : j = i
    · subst h'; simp
    · simp [h, show ¬ j < i + 1 by omega, show ¬ j - i < 1 by omega]

theorem wt_append (n : Nat) (a b : List Nat) : wt n (a ++ b) = wt n a ^^^ wt n b := by
  show List.foldl _ 0 (a ++ b) = _
  rw [List.foldl_append, foldl_xor]; rfl

theorem wt_burst (n at_ mask i : Nat) (h : at_ + i ≤ n) : wt n (burst i at_ mask) = tk (n - at_) (mask % 2 ^ i) := by
  induction i with
  | zero => simp [burst, wt, Nat.mod_one, tk_zero]
  | succ i ih =>
    have e : burst (i + 1) at_ mask = burst i at_ mask ++ (if mask / 2 ^ i % 2 = 1 then [at_ + i] else []) := by
      unfold burst
      rw [List.range_succ, List.filter_append, List.map_append]
      congr 1
      by_cases hb : mask / 2 ^ i % 2 = 1 <;> simp [hb]
    rw [e, wt_append, ih (by omega), mod_succ, tk_xor]
    congr 1
    by_cases hb : mask / 2 ^ i % 2 = 1
    · rw [if_pos hb, hb, Nat.one_mul]
      have h1 := tk_shift i 1
      rw [Nat.one_mul] at h1
      rw [show n - at_ = i + (n - (at_ + i)) by omega, tk_add, h1]
      simp [wt]
    · have h0 : mask / 2 ^ i % 2 = 0 := by omega
      rw [if_neg hb, h0, Nat.zero_mul, tk_zero]; rfl

theorem burst_ne (n at_ mask : Nat) (h : at_ + 32 ≤ n) (h0 : mask ≠ 0) (hm : mask < 4294967296) : wt n (burst 32 at_ mask) ≠ 0 := by
  rw [wt_burst n at_ mask 32 h, Nat.mod_eq_of_lt hm]
  exact tk_ne_zero _ _ hm h0

/-- two or three places -/
theorem two_ne (n p q : Nat) (hd : ∀ i, 0 < i → i < n → tk i 1 / 2 ≠ 0) (hp : p < q) (hq : q < n) : tk (n - p) 1 ^^^ tk (n - q) 1 ≠ 0 := by
  intro h
  have h1 := xor_eq_zero h
  rw [show n - p = (q - p) + (n - q) by omega, tk_add] at h1
  have h2 := tk_inj (n - q) _ _ (tk_lt _ _ (by omega)) (by omega) h1
  have := hd (q - p) (by omega) (by omega)
  rw [h2] at this
  exact this rfl

theorem three_ne (n p q r : Nat) (hd : ∀ i j, i < j → j < n → tk i 1 / 2 ≠ tk j 1 / 2) (hp : p < q) (hq : q < r) (hr : r < n) :
    tk (n - p) 1 ^^^ tk (n - q) 1 ^^^ tk (n - r) 1 ≠ 0 := by
  intro h
  rw [show n - p = (r - p) + (n - r) by omega, show n - q = (r - q) + (n - r) by omega, tk_add, tk_add, ← tk_xor, ← tk_xor] at h
  have hz : tk (r - p) 1 ^^^ tk (r - q) 1 ^^^ 1 = 0 := by
    apply Classical.byContradiction
    intro hne
    exact tk_ne_zero (n - r) _ (Nat.xor_lt_two_pow (n := 32) (Nat.xor_lt_two_pow (n := 32) (tk_lt _ _ (by omega)) (tk_lt _ _ (by omega))) (by omega)) hne h
  have he := xor_eq_zero hz
  have hx := xor_div (tk (r - p) 1) (tk (r - q) 1) 1
  rw [he] at hx
  simp only [Nat.pow_one] at hx
  have := hd (r - q) (r - p) (by omega) (by omega)
  exact this (xor_eq_zero hx.symm).symm

end CrcM
