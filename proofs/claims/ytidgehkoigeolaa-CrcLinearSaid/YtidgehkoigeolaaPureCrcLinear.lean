/- The statement CrcLinear over numbers and lists: three rows of as many bytes, xored, have the xored sums. -/
import Derived.Test.YtidgehkoigeolaaG21
import Derived.Test.YtidgehkoigeolaaCrcPure
namespace Go.Proofs.Ytidgehkoigeolaa.Pure
open Go.RowKit Go.Proofs.Ytidgehkoigeolaa.G Go.Proofs.YtidgehkoigeolaaW.PrintWords Go.Proofs.YtidgehkoigeolaaW.PrintLast

def x3 (a b c : List Int) : List Int := (List.range a.length).map fun i => (((a.getD i 0).toNat ^^^ (b.getD i 0).toNat ^^^ (c.getD i 0).toNat : Nat) : Int)
def x3n (a b c : List Nat) : List Nat := List.zipWith (fun p q => p ^^^ q) (List.zipWith (fun p q => p ^^^ q) a b) c

theorem upd_xor (s t c d : Nat) (hc : c < 256) (hd : d < 256) : CrcM.upd (s ^^^ t) (c ^^^ d) = CrcM.upd s c ^^^ CrcM.upd t d := by
  rw [CrcM.upd_eq _ _ (Nat.xor_lt_two_pow (n := 8) hc hd), CrcM.upd_eq _ _ hc, CrcM.upd_eq _ _ hd, ← CrcM.tk_xor]
  congr 1
  rw [Nat.xor_assoc, Nat.xor_assoc]
  congr 1
  rw [← Nat.xor_assoc, Nat.xor_comm t c, Nat.xor_assoc]
theorem run_zip (a : List Nat) : ∀ (b : List Nat), a.length = b.length → CrcM.Bytes a → CrcM.Bytes b → ∀ s t, CrcM.run (s ^^^ t) (List.zipWith (fun p q => p ^^^ q) a b) = CrcM.run s a ^^^ CrcM.run t b := by
  induction a with
  | nil => intro b h _ _ s t; cases b with
    | nil => rfl
    | cons => simp at h
  | cons x a ih =>
    intro b h ha hb s t
    cases b with
    | nil => simp at h
    | cons y b =>
      show CrcM.run (CrcM.upd (s ^^^ t) (x ^^^ y)) _ = CrcM.run (CrcM.upd s x) a ^^^ CrcM.run (CrcM.upd t y) b
      rw [upd_xor _ _ _ _ (ha x List.mem_cons_self) (hb y List.mem_cons_self)]
      exact ih b (by simpa using h) (fun z hz => ha z (List.mem_cons_of_mem _ hz)) (fun z hz => hb z (List.mem_cons_of_mem _ hz)) _ _
theorem bytes_zip {a b : List Nat} (ha : CrcM.Bytes a) (hb : CrcM.Bytes b) : CrcM.Bytes (List.zipWith (fun p q => p ^^^ q) a b) := by
  induction a generalizing b with
  | nil => intro c hc; simp at hc
  | cons x a ih =>
    cases b with
    | nil => intro c hc; simp at hc
    | cons y b =>
      intro c hc
      rcases List.mem_cons.1 hc with rfl | h
      · exact Nat.xor_lt_two_pow (n := 8) (ha x List.mem_cons_self) (hb y List.mem_cons_self)
      · exact ih (fun z hz => ha z (List.mem_cons_of_mem _ hz)) (fun z hz => hb z (List.mem_cons_of_mem _ hz)) c h
theorem sum_x3 (a b c : List Nat) (h1 : a.length = b.length) (h2 : a.length = c.length) (ha : CrcM.Bytes a) (hb : CrcM.Bytes b) (hc : CrcM.Bytes c) :
    CrcM.sum (x3n a b c) = CrcM.sum a ^^^ CrcM.sum b ^^^ CrcM.sum c := by
  unfold CrcM.sum CrcM.add x3n
  simp only [Nat.zero_xor]
  have e := run_zip (List.zipWith (fun p q => p ^^^ q) a b) c (by simp; omega) (bytes_zip ha hb) hc (CrcM.M ^^^ CrcM.M) CrcM.M
  rw [Nat.xor_self, Nat.zero_xor] at e
  rw [e, ← Nat.xor_self CrcM.M, run_zip a b h1 ha hb]
  generalize CrcM.run CrcM.M a = p
  generalize CrcM.run CrcM.M b = q
  generalize CrcM.run CrcM.M c = r
  generalize CrcM.M = m
  simp only [Nat.xor_assoc]
  congr 1
  rw [← Nat.xor_assoc m q, Nat.xor_comm m q, Nat.xor_assoc]
  congr 1
  rw [← Nat.xor_assoc m m, Nat.xor_self, Nat.zero_xor]
theorem x3_nats (a b c : List Int) (h1 : a.length = b.length) (h2 : a.length = c.length) : nats (x3 a b c) = x3n (nats a) (nats b) (nats c) := by
  apply List.ext_getElem
  · simp [x3, x3n, nats, ← h1, ← h2]
  · intro i hi1 hi2
    have hi : i < a.length := by simpa [x3, nats] using hi1
    simp [x3, x3n, nats, List.getD_eq_getElem?_getD, hi, ← h1, ← h2]

theorem lin_loop (a b c : List Int) (ha : u8s a) (hb : u8s b) (hc : u8s c) (h1 : a.length = b.length) (h2 : a.length = c.length) (hl : a.length ≤ 1000) (d : Nat) :
    ∀ (k i : Nat) (x : List Int), i + d = a.length → d < k → x.length = a.length → x.take i = (x3 a b c).take i → rosettelaw01_CrcLinear.l0 k a b c true x (i : Int) = some true := by
  induction d with
  | zero =>
    intro k i x hi hk hx ht
    obtain ⟨k, rfl⟩ : ∃ m, k = m + 1 := ⟨k - 1, by omega⟩
    have hx3 : (x3 a b c).length = a.length := by simp [x3]
    have e : x = x3 a b c := by rwa [List.take_of_length_le (by omega), List.take_of_length_le (by omega)] at ht
    have hu : u8s (x3 a b c) := by
      intro z hz
      obtain ⟨j, _, rfl⟩ := List.mem_map.1 hz
      have q : ∀ l : List Int, u8s l → (l.getD j 0).toNat < 256 := fun l hl => by
        by_cases hj : j < l.length
        · have := hl l[j] (List.getElem_mem hj); rw [List.getD_eq_getElem?_getD, List.getElem?_eq_getElem hj]; simp; omega
        · rw [List.getD_eq_getElem?_getD, List.getElem?_eq_none (by omega)]; simp
      have := Nat.xor_lt_two_pow (n := 8) (Nat.xor_lt_two_pow (n := 8) (q a ha) (q b hb)) (q c hc)
      omega
    simp only [rosettelaw01_CrcLinear.l0]
    rw [if_neg (by omega), if_pos trivial, e, sum_some hu, sum_some ha, sum_some hb, sum_some hc]
    simp only [Option.bind_some]
    rw [x3_nats a b c h1 h2, sum_x3 _ _ _ (by simp [nats, h1]) (by simp [nats, ← h2]) (u8s_nats ha) (u8s_nats hb) (u8s_nats hc)]
    rw [u32_xor_nat _ _ (CrcM.sum_lt _ (u8s_nats ha)) (CrcM.sum_lt _ (u8s_nats hb)), u32_xor_nat _ _ (Nat.xor_lt_two_pow (n := 32) (CrcM.sum_lt _ (u8s_nats ha)) (CrcM.sum_lt _ (u8s_nats hb))) (CrcM.sum_lt _ (u8s_nats hc))]
    simp
  | succ d ih =>
    intro k i x hi hk hx ht
    obtain ⟨k, rfl⟩ : ∃ m, k = m + 1 := ⟨k - 1, by omega⟩
    have hia : i < a.length := by omega
    have ra := rd_u8 ha i hia
    have rb := rd_u8 hb i (by omega)
    have rc := rd_u8 hc i (by omega)
    simp only [rosettelaw01_CrcLinear.l0]
    rw [if_pos (by omega), if_pos (by omega), if_pos (by omega), if_pos (by omega), if_pos (by omega), wrap_small _ (by omega) (by omega), show (i : Int) + 1 = ((i + 1 : Nat) : Int) by omega]
    apply ih k (i + 1) _ (by omega) (by omega) (by simp [hx])
    rw [Int.toNat_natCast]
    have hx3 : (x3 a b c).length = a.length := by simp [x3]
    have e : Go.bits .xor .u8 (Go.bits .xor .u8 (rd a i) (rd b i)) (rd c i) = (x3 a b c)[i]'(by omega) := by
      obtain ⟨p, hp⟩ := Int.eq_ofNat_of_zero_le ra.1
      obtain ⟨q, hq⟩ := Int.eq_ofNat_of_zero_le rb.1
      obtain ⟨r, hr⟩ := Int.eq_ofNat_of_zero_le rc.1
      have hp' : a.getD i 0 = (p : Int) := by rw [← hp]; simp [rd]
      have hq' : b.getD i 0 = (q : Int) := by rw [← hq]; simp [rd]
      have hr' : c.getD i 0 = (r : Int) := by rw [← hr]; simp [rd]
      simp only [x3, List.getElem_map, List.getElem_range, hp', hq', hr', Int.toNat_natCast]
      rw [hp, hq, hr, u8_xor_nat _ _ (by omega) (by omega), u8_xor_nat _ _ (Nat.xor_lt_two_pow (n := 8) (by omega) (by omega)) (by omega)]
    rw [List.take_succ_eq_append_getElem (by simp; omega), List.take_succ_eq_append_getElem (by omega : i < (x3 a b c).length), ← ht]
    congr 1
    · rw [List.take_set_of_le (by omega)]
    · simp [e]

theorem CrcLinear : rosettelaw01_CrcLinear.Pure := by
  intro l0 l1 l2 _ hl0 hw0 _ hl1 hw1 _ hl2 hw2
  have J : ∀ k, rosettelaw01_CrcLinear.j0 (k + 1) l0 l1 l2 true true = some true := fun k => by simp [rosettelaw01_CrcLinear.j0]
  refine ⟨l0.length + 2, ?_⟩
  unfold rosettelaw01_CrcLinear.f rosettelaw01_small.f
  simp only [Option.bind_some]
  by_cases h1 : (l0.length : Int) > 1000
  · rw [if_pos h1]; exact J _
  rw [if_neg h1]
  by_cases h2 : (l0.length : Int) = (l1.length : Int)
  · rw [if_pos h2]
    by_cases h3 : (l0.length : Int) = (l2.length : Int)
    · rw [show ((l0.length : Int) != (l2.length : Int)) = false from by simp [h3]]
      simp only [rosettelaw01_CrcLinear.j0]
      rw [if_neg (by decide), if_pos (by omega), if_pos (by omega), Int.toNat_natCast]
      exact lin_loop l0 l1 l2 (u8s_wf hw0) (u8s_wf hw1) (u8s_wf hw2) (by omega) (by omega) (by omega) l0.length _ 0 _ (by omega) (by omega) (by simp) (by simp)
    · rw [show ((l0.length : Int) != (l2.length : Int)) = true from by simp [h3]]; exact J _
  · rw [if_neg h2]; exact J _
end Go.Proofs.Ytidgehkoigeolaa.Pure
