/- The statement CrcBursts over numbers and lists: of sealed bytes of which some bits are turned, all within thirty-two that stand one behind the other, nothing is opened. -/
import Derived.Test.YtidgehkoigeolaaG19
import Derived.Test.YtidgehkoigeolaaCrcFlip
namespace Go.Proofs.Ytidgehkoigeolaa.Pure
open Go.RowKit Go.Proofs.Ytidgehkoigeolaa.G Go.Proofs.YtidgehkoigeolaaW.PrintWords Go.Proofs.YtidgehkoigeolaaW.PrintLast

theorem shr_bit (m i : Nat) (_hm : m < 4294967296) (hi : i < 32) : (Int.tmod (shr .u32 (m : Int) ((i : Nat) : Int)) 2 = 1) ↔ m / 2 ^ i % 2 = 1 := by
  have e : shr .u32 (m : Int) ((i : Nat) : Int) = ((m / 2 ^ i : Nat) : Int) := by
    unfold shr
    rw [Int.toNat_natCast, show IntKind.u32.bits = 32 from rfl, Nat.min_eq_left (by omega)]
    simp
  rw [e]
  generalize m / 2 ^ i = z
  rw [Int.tmod_eq_emod_of_nonneg (by omega)]
  omega
theorem bind_of {α β : Type} {o : Option α} {f : α → Option β} {x : α} (h : o = some x) : o.bind f = f x := by rw [h]; rfl
theorem burst_succ (i at_ mask : Nat) : CrcM.burst (i + 1) at_ mask = CrcM.burst i at_ mask ++ (if mask / 2 ^ i % 2 = 1 then [at_ + i] else []) := by
  unfold CrcM.burst
  rw [List.range_succ, List.filter_append, List.map_append]
  congr 1
  by_cases hb : mask / 2 ^ i % 2 = 1 <;> simp [hb]
theorem burst_in (at_ mask i p : Nat) (h : p ∈ CrcM.burst i at_ mask) : p < at_ + i := by
  unfold CrcM.burst at h
  obtain ⟨j, hj, rfl⟩ := List.mem_map.1 h
  have := List.mem_range.1 (List.mem_filter.1 hj).1
  omega

theorem bursts_loop (l : List Int) (hl : u8s l) (hlen : l.length ≤ 1000) (at_ mask : Nat) (hat : at_ ≤ 8 * l.length) (hm : mask < 4294967296) (h0 : mask ≠ 0) (d : Nat) :
    ∀ (k i : Nat) (x : List Int), i + d = 32 → d < k → x = zof (CrcM.flips (CrcM.sealB (nats l)) (CrcM.burst i at_ mask)) →
      rosettelaw01_CrcBursts.l0 k (at_ : Int) (mask : Int) true x (i : Int) = some true := by
  have hxs : ∀ i, u8s (zof (CrcM.flips (CrcM.sealB (nats l)) (CrcM.burst i at_ mask))) := fun i => u8s_zof (CrcM.flips_bytes _ _ (CrcM.sealB_bytes _ (u8s_nats hl)))
  have hxl : ∀ i, (zof (CrcM.flips (CrcM.sealB (nats l)) (CrcM.burst i at_ mask))).length = l.length + 4 := fun i => by rw [zof_length, CrcM.flips_length, CrcM.sealB_length, nats_length]
  induction d with
  | zero =>
    intro k i x hi hk hx
    obtain ⟨k, rfl⟩ : ∃ m, k = m + 1 := ⟨k - 1, by omega⟩
    obtain rfl : i = 32 := by omega
    simp only [rosettelaw01_CrcBursts.l0]
    rw [if_neg (by omega), hx]
    refine (bind_of (open_some' (hxs _) (by rw [hxl]; omega))).trans ?_
    rw [nats_zof, CrcM.refused _ _ (u8s_nats hl) (fun p hp => by have := burst_in _ _ _ _ hp; rw [nats_length]; omega) (CrcM.burst_ne _ _ _ (by rw [nats_length]; omega) h0 hm)]
    simp [opened]
  | succ d ih =>
    intro k i x hi hk hx
    obtain ⟨k, rfl⟩ : ∃ m, k = m + 1 := ⟨k - 1, by omega⟩
    have hw : IntKind.u64.wrap (i : Int) = ((i : Nat) : Int) := by rw [IntKind.wrap_u64]; omega
    have hxlen : x.length = l.length + 4 := by rw [hx]; exact hxl i
    simp only [rosettelaw01_CrcBursts.l0]
    rw [if_pos (by omega), hw, if_pos (by omega), wrap_small ((at_ : Int) + (i : Int)) (by omega) (by omega), wrap_small ((i : Int) + 1) (by omega) (by omega), show (i : Int) + 1 = ((i + 1 : Nat) : Int) by omega, show (at_ : Int) + (i : Int) = ((at_ + i : Nat) : Int) by omega]
    have hp : at_ + i < 8 * x.length := by omega
    by_cases hb : mask / 2 ^ i % 2 = 1
    · obtain ⟨q0, q1⟩ := flip_at (at_ + i) x.length hp (by omega)
      rw [if_pos ((shr_bit mask i hm (by omega)).2 hb), if_pos q0, if_pos q1, if_pos (flip_by _ (by omega)), flip_step (by rw [hx]; exact hxs i) _ hp (by omega)]
      refine ih k (i + 1) _ (by omega) (by omega) ?_
      rw [hx, nats_zof, burst_succ, if_pos hb]
      unfold CrcM.flips
      rw [List.foldl_append]; rfl
    · rw [if_neg (fun h => hb ((shr_bit mask i hm (by omega)).1 h))]
      refine ih k (i + 1) _ (by omega) (by omega) ?_
      rw [hx, burst_succ, if_neg hb, List.append_nil]

theorem CrcBursts : rosettelaw01_CrcBursts.Pure := by
  intro l0 a1 a2 _ hl hw h1w h2w
  have hu := u8s_wf hw
  have hb2 := Go.bounds_u32 h2w
  obtain ⟨mask, rfl⟩ := Int.eq_ofNat_of_zero_le hb2.1
  have J : ∀ k, rosettelaw01_CrcBursts.j0 (k + 1) l0 a1 (mask : Int) true true = some true := fun k => by simp [rosettelaw01_CrcBursts.j0]
  obtain ⟨K, hK⟩ : ∃ K : Nat, 33 ≤ K := ⟨33, Nat.le_refl _⟩
  refine ⟨K + 1, ?_⟩
  unfold rosettelaw01_CrcBursts.f rosettelaw01_small.f
  simp only [Option.bind_some]
  by_cases h1 : (l0.length : Int) > 1000
  · rw [if_pos h1]; exact J _
  rw [if_neg h1]
  by_cases h2 : a1 < 0
  · rw [if_pos h2]; exact J _
  rw [if_neg h2, wrap_small _ (by omega) (by omega)]
  by_cases h3 : a1 > 8 * (l0.length : Int)
  · rw [if_pos h3]; exact J _
  rw [if_neg h3]
  by_cases h4 : (mask : Int) = 0
  · rw [show ((mask : Int) == 0) = true from by simp [h4]]; exact J _
  rw [show ((mask : Int) == 0) = false from by simpa using h4]
  simp only [rosettelaw01_CrcBursts.j0]
  rw [if_neg (by decide)]
  refine (bind_of (seal_some hu (by omega))).trans ?_
  rw [if_pos (by rw [zof_length, CrcM.sealB_length, nats_length, wrap_small _ (by omega) (by omega)]; omega)]
  obtain ⟨at_, rfl⟩ := Int.eq_ofNat_of_zero_le (show 0 ≤ a1 by omega)
  have h := bursts_loop l0 hu (by omega) at_ mask (by omega) (by omega) (by omega) 32 K 0 _ rfl (by omega) rfl
  simpa only [Int.natCast_zero, show CrcM.burst 0 at_ mask = [] from rfl, CrcM.flips, List.foldl] using h
end Go.Proofs.Ytidgehkoigeolaa.Pure
