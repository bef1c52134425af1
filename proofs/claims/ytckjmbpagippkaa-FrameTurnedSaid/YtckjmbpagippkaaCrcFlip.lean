import Derived.Test.YtckjmbpagippkaaCrcPure
import Derived.Test.YtckjmbpagippkaaDist
namespace Go.Proofs.Ytckjmbpagippkaa.Pure
open Go.RowKit Go.Proofs.Ytckjmbpagippkaa.G Go.Proofs.YtckjmbpagippkaaW.PrintWords Go.Proofs.YtckjmbpagippkaaW.PrintLast

/-- one bit of one byte turned, as the code does it -/
theorem flip_step {x : List Int} (hx : u8s x) (p : Nat) (hp : p < 8 * x.length) (h63 : p < 9223372036854775808) :
    x.set (wrap64 (Int.tdiv (p : Int) 8)).toNat (Go.bits .xor .u8 (rd x (wrap64 (Int.tdiv (p : Int) 8))) (shl .u8 1 (IntKind.u64.wrap (Int.tmod (p : Int) 8)))) = zof (CrcM.flip (nats x) p) := by
  have e1 : wrap64 (Int.tdiv (p : Int) 8) = ((p / 8 : Nat) : Int) := by
    rw [Int.tdiv_eq_ediv_of_nonneg (by omega)]
    rw [wrap_small _ (by omega) (by omega)]
    omega
  have e2 : IntKind.u64.wrap (Int.tmod (p : Int) 8) = ((p % 8 : Nat) : Int) := by
    rw [Int.tmod_eq_emod_of_nonneg (by omega), IntKind.wrap_u64]
    omega
  have e3 : shl .u8 1 ((p % 8 : Nat) : Int) = ((2 ^ (p % 8) : Nat) : Int) := by
    have h8 : p % 8 < 8 := by omega
    generalize p % 8 = j at h8
    show IntKind.u8.wrap (1 * 2 ^ min (j : Int).toNat 8) = _
    rw [IntKind.wrap_u8, Int.toNat_natCast, Nat.min_eq_left (by omega), Int.one_mul]
    match j, h8 with
    | 0, _ => rfl
    | 1, _ => rfl
    | 2, _ => rfl
    | 3, _ => rfl
    | 4, _ => rfl
    | 5, _ => rfl
    | 6, _ => rfl
    | 7, _ => rfl
  have hlt : p / 8 < x.length := by omega
  obtain ⟨h0, h1⟩ := rd_u8 hx (p / 8) hlt
  obtain ⟨c, hc⟩ := Int.eq_ofNat_of_zero_le h0
  have hc' : x[p / 8] = (c : Int) := by rw [← hc]; simp only [rd, Int.toNat_natCast, List.getD_eq_getElem?_getD, List.getElem?_eq_getElem hlt, Option.getD_some]
  rw [e1, e2, e3, Int.toNat_natCast, hc, u8_xor_nat _ _ (by omega) (CrcM.pow_lt p)]
  unfold CrcM.flip
  have e4 : (nats x).getD (p / 8) 0 = c := by simp [nats, List.getD_eq_getElem?_getD, hlt, hc']
  rw [e4]
  apply List.ext_getElem
  · simp [zof, nats]
  · intro i hi1 hi2
    have hi : i < x.length := by simpa using hi1
    simp only [zof, nats, List.getElem_map, List.getElem_set]
    split
    · rfl
    · have := hx x[i] (List.getElem_mem hi)
      omega
theorem flip_u8s {x : List Int} (hx : u8s x) (p : Nat) : u8s (zof (CrcM.flip (nats x) p)) := u8s_zof (CrcM.flip_bytes _ _ (u8s_nats hx))
theorem flip_len (x : List Int) (p : Nat) : (zof (CrcM.flip (nats x) p)).length = x.length := by rw [zof_length, CrcM.flip_length, nats_length]
/-- the place of the byte lies in the row -/
theorem flip_at (p n : Nat) (hp : p < 8 * n) (h63 : p < 9223372036854775808) : 0 ≤ wrap64 (Int.tdiv (p : Int) 8) ∧ wrap64 (Int.tdiv (p : Int) 8) < (n : Int) := by
  rw [Int.tdiv_eq_ediv_of_nonneg (by omega), wrap_small _ (by omega) (by omega)]
  omega
theorem flip_by (p : Nat) (_h63 : p < 9223372036854775808) : 0 ≤ IntKind.u64.wrap (Int.tmod (p : Int) 8) := by
  rw [IntKind.wrap_u64]; omega
end Go.Proofs.Ytckjmbpagippkaa.Pure
