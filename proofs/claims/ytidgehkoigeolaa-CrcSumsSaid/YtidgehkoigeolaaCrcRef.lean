/- The document's own sums are the sums: pure laws. -/
import Derived.Test.YtidgehkoigeolaaCrcPure
import Derived.Test.YtidgehkoigeolaaG14
import Derived.Test.YtidgehkoigeolaaG13
set_option linter.unusedVariables false
set_option linter.unusedSimpArgs false
namespace Go.Proofs.Ytidgehkoigeolaa.Pure
open Go.RowKit Go.Proofs.Ytidgehkoigeolaa.G Go.Proofs.YtidgehkoigeolaaW.PrintWords Go.Proofs.YtidgehkoigeolaaW.PrintLast

theorem turned_go : ∀ (f e : Nat) (j : Nat) (n : Nat), n < 4294967296 → j + f = 8 → rosetteref01_turned.l0 (f + 1 + e) (n : Int) (j : Int) = some ((CrcM.tk f n : Nat) : Int) := by
  intro f
  induction f with
  | zero =>
    intro e j n _ h
    rw [show 0 + 1 + e = e + 1 by omega, rosetteref01_turned.l0, if_neg (by omega)]
    rfl
  | succ f ih =>
    intro e j n hn h
    have h1 : CrcM.tk (f + 1) n = CrcM.tk f (CrcM.t1 n) := rfl
    have hj : wrap64 ((j : Int) + 1) = ((j + 1 : Nat) : Int) := by rw [wrap_small _ (by omega) (by omega)]; omega
    have hd : (Int.tdiv (n : Int) 2) % 4294967296 = ((n / 2 : Nat) : Int) := by rw [Int.tdiv_eq_ediv_of_nonneg (by omega)]; omega
    have hm : Int.tmod (n : Int) 2 = ((n % 2 : Nat) : Int) := by rw [Int.tmod_eq_emod_of_nonneg (by omega)]; omega
    rw [show f + 1 + 1 + e = (f + 1 + e) + 1 by omega, rosetteref01_turned.l0, if_pos (by omega), hj, hd, hm, h1]
    have ht : CrcM.t1 n < 4294967296 := CrcM.t1_lt n hn
    rcases Nat.mod_two_eq_zero_or_one n with e2 | e2
    · rw [if_neg (by omega)]
      have : CrcM.t1 n = n / 2 := by unfold CrcM.t1; rw [if_neg (by omega)]
      rw [this]
      exact ih e (j + 1) _ (by omega) (by omega)
    · rw [if_pos (by omega)]
      have : CrcM.t1 n = (n / 2) ^^^ 3988292384 := by unfold CrcM.t1; rw [if_pos e2]
      rw [show (3988292384 : Int) = ((3988292384 : Nat) : Int) from rfl, u32_xor_nat _ _ (by omega) (by decide), ← this]
      exact ih e (j + 1) _ ht (by omega)
theorem turned_some (k n : Nat) (hn : n < 4294967296) (hk : 9 ≤ k) : rosetteref01_turned.f k (n : Int) = some ((CrcM.tk 8 n : Nat) : Int) := by
  have := turned_go 8 (k - 9) 0 n hn rfl
  rw [show 8 + 1 + (k - 9) = k by omega] at this
  exact this

theorem add_go (l : List Int) (hu : u8s l) (hl : l.length ≤ 140737488351232) : ∀ (f e i s : Nat), s < 4294967296 → i + f = l.length → rosetteref01_Add.l0 (f + 10 + e) l (s : Int) (i : Int) = some ((CrcM.run s (nats (l.drop i)) ^^^ CrcM.M : Nat) : Int) := by
  intro f
  induction f with
  | zero =>
    intro e i s hs h
    rw [show 0 + 10 + e = (9 + e) + 1 by omega, rosetteref01_Add.l0, if_neg (by omega), List.drop_of_length_le (by omega)]
    rw [show (4294967295 : Int) = ((CrcM.M : Nat) : Int) from rfl, u32_xor_nat _ _ hs (by decide)]
    rfl
  | succ f ih =>
    intro e i s hs h
    have hlt : i < l.length := by omega
    obtain ⟨c0, c1⟩ := rd_u8 hu i hlt
    obtain ⟨c, hc⟩ := Int.eq_ofNat_of_zero_le c0
    have hc256 : c < 256 := by omega
    have hj : wrap64 ((i : Int) + 1) = ((i + 1 : Nat) : Int) := by rw [wrap_small _ (by omega) (by omega)]; omega
    have hd : (Int.tdiv (s : Int) 256) % 4294967296 = ((s / 256 : Nat) : Int) := by rw [Int.tdiv_eq_ediv_of_nonneg (by omega)]; omega
    have ha : Go.bits .and .u32 (s : Int) 255 = ((s % 256 : Nat) : Int) := by
      rw [show (255 : Int) = ((255 : Nat) : Int) from rfl, u32_and_nat _ _ hs (by decide)]
      exact congrArg _ (Nat.and_two_pow_sub_one_eq_mod s 8)
    rw [show f + 1 + 10 + e = (f + 10 + e) + 1 by omega, rosetteref01_Add.l0, if_pos (by omega), if_pos (by omega), hj, hd, ha, hc]
    rw [show (c : Int) % 4294967296 = (c : Int) by omega, u32_xor_nat _ _ (by omega) (by omega)]
    have hx : (s % 256) ^^^ c < 256 := Nat.xor_lt_two_pow (n := 8) (by omega) (by omega)
    rw [turned_some _ _ (by omega) (by omega)]
    simp only [Option.bind_some]
    rw [u32_xor_nat _ _ (CrcM.tk_lt _ _ (by omega)) (by omega)]
    have hup : CrcM.tk 8 ((s % 256) ^^^ c) ^^^ s / 256 = CrcM.upd s c := by
      unfold CrcM.upd
      have e := CrcM.xor_mod s c 8
      simp only [show (2 : Nat) ^ 8 = 256 from rfl, Nat.mod_eq_of_lt (show c < 256 by omega)] at e
      rw [e]
    rw [hup, ih e (i + 1) _ (CrcM.upd_lt s c hs hc256) (by omega)]
    have hcons : nats (l.drop i) = c :: nats (l.drop (i + 1)) := by
      have hg : l[i] = (c : Int) := by rw [← hc]; simp [rd, List.getD_eq_getElem?_getD, hlt]
      rw [List.drop_eq_getElem_cons hlt, nats, List.map_cons, hg]
      rfl
    rw [hcons]
    rfl
theorem refadd_some {l : List Int} (hu : u8s l) (hl : l.length ≤ 140737488351232) (k n : Nat) (hn : n < 4294967296) (hk : l.length + 10 ≤ k) : rosetteref01_Add.f k (n : Int) l = some ((CrcM.add n (nats l) : Nat) : Int) := by
  unfold rosetteref01_Add.f
  rw [show (4294967295 : Int) = ((CrcM.M : Nat) : Int) from rfl, u32_xor_nat _ _ hn (by decide)]
  have := add_go l hu hl l.length (k - (l.length + 10)) 0 (n ^^^ CrcM.M) (Nat.xor_lt_two_pow (n := 32) hn CrcM.M_lt) (by omega)
  rw [show l.length + 10 + (k - (l.length + 10)) = k by omega] at this
  rw [show ((0 : Nat) : Int) = 0 from rfl] at this
  rw [this, List.drop_zero]
  rfl
theorem refsum_some {l : List Int} (hu : u8s l) (hl : l.length ≤ 140737488351232) (k : Nat) (hk : l.length + 10 ≤ k) : rosetteref01_Sum.f k l = some ((CrcM.sum (nats l) : Nat) : Int) := by
  unfold rosetteref01_Sum.f
  have := refadd_some hu hl k 0 (by decide) hk
  rw [show ((0 : Nat) : Int) = 0 from rfl] at this
  rw [this]
  rfl
theorem reflow_some (n : Nat) (hn : n < 4294967296) : rosetteref01_Low.f (n : Int) = some (zof (CrcM.low n)) := by
  unfold rosetteref01_Low.f
  rw [Int.tdiv_eq_ediv_of_nonneg (by omega), Int.tdiv_eq_ediv_of_nonneg (by omega), Int.tdiv_eq_ediv_of_nonneg (by omega)]
  simp only [zof, CrcM.low, List.map_cons, List.map_nil, Option.some.injEq, List.cons.injEq, and_true]
  refine ⟨?_, ?_, ?_, ?_⟩ <;> omega
theorem refseal_some {l : List Int} (hu : u8s l) (hl : l.length ≤ 140737488351232) (k : Nat) (hk : l.length + 10 ≤ k) : rosetteref01_Seal.f k l = some (zof (CrcM.sealB (nats l))) := by
  unfold rosetteref01_Seal.f
  simp only [Option.bind_some, List.nil_append]
  rw [if_pos (by simp; omega)]
  rw [refsum_some hu hl k hk]
  simp only [Option.bind_some]
  rw [reflow_some _ (CrcM.sum_lt _ (u8s_nats hu))]
  simp only [Option.bind_some]
  rw [if_pos (by rw [zof_length]; simp [CrcM.low]; omega), CrcM.sealB, zof_append, zof_nats hu]
theorem refopen_some {l : List Int} (h : u8s l) (hl : l.length ≤ 140737488351232) (k : Nat) (hk : l.length + 10 ≤ k) : rosetteref01_Open.f k l = some (opened (CrcM.openB (nats l))) := by
  unfold rosetteref01_Open.f CrcM.openB
  rw [nats_length, wrap_small _ (by omega) (by omega)]
  by_cases h4 : l.length < 4
  · rw [if_pos (by omega), if_pos h4]; rfl
  · rw [if_neg (by omega), if_pos (by omega), if_pos (by omega), if_neg h4]
    rw [show ((l.length : Int) - 4).toNat = l.length - 4 by omega]
    have ht := u8s_take h (l.length - 4)
    rw [refsum_some ht (by simp; omega) k (by simp; omega)]
    simp only [Option.bind_some]
    rw [reflow_some _ (CrcM.sum_lt _ (u8s_nats ht))]
    simp only [Option.bind_some]
    rw [← nats_take, ← nats_drop]
    have hiff : (zof (CrcM.low (CrcM.sum (nats (l.take (l.length - 4))))) = l.drop (l.length - 4)) ↔ (CrcM.low (CrcM.sum (nats (l.take (l.length - 4)))) = nats (l.drop (l.length - 4))) := by
      constructor
      · intro hh; rw [← hh, nats_zof]
      · intro hh; rw [hh, zof_nats (u8s_drop h _)]
    have hs := str_eq (u8s_zof (CrcM.low_bytes (CrcM.sum (nats (l.take (l.length - 4)))))) (u8s_drop h (l.length - 4))
    by_cases he : CrcM.low (CrcM.sum (nats (l.take (l.length - 4)))) = nats (l.drop (l.length - 4))
    · rw [if_pos he, if_pos (hs.2 (hiff.2 he))]
      rw [if_pos (by simp; omega)]
      simp [opened, zof_nats ht]
    · rw [if_neg he, if_neg (fun hh => he (hiff.1 (hs.1 hh)))]
      rfl
end Go.Proofs.Ytidgehkoigeolaa.Pure
