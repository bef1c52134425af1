/- The statement FrameBursts over numbers and lists: a frame of which some bits are turned, all within thirty-two that stand one behind the other, tells an error. -/
import Derived.Test.YtckjmbpagippkaaG28
import Derived.Test.YtckjmbpagippkaaCrcFlip
import Derived.Test.YtckjmbpagippkaaFrameFlip
namespace Go.Proofs.Ytckjmbpagippkaa.Pure
open Go.RowKit Go.Proofs.Ytckjmbpagippkaa.G Go.Proofs.YtckjmbpagippkaaW.PrintWords Go.Proofs.YtckjmbpagippkaaW.PrintLast

theorem shr_bit (m i : Nat) (_hm : m < 4294967296) (hi : i < 32) : (Int.tmod (shr .u32 (m : Int) ((i : Nat) : Int)) 2 = 1) ↔ m / 2 ^ i % 2 = 1 := by
  have e : shr .u32 (m : Int) ((i : Nat) : Int) = ((m / 2 ^ i : Nat) : Int) := by
    unfold shr
    rw [Int.toNat_natCast, show IntKind.u32.bits = 32 from rfl, Nat.min_eq_left (by omega)]
    simp
  rw [e]
  generalize m / 2 ^ i = z
  rw [Int.tmod_eq_emod_of_nonneg (by omega)]
  omega
theorem bind_of {α β : Type} {o : Option α} {f : α → Option β} {x : α} (h : o = some x) : o.bind f = f x := by rw [h]; rfl
theorem burst_succ (i at_ mask : Nat) : CrcM.burst (i + 1) at_ mask = CrcM.burst i at_ mask ++ (if mask / 2 ^ i % 2 = 1 then [at_ + i] else []) := by
  unfold CrcM.burst
  rw [List.range_succ, List.filter_append, List.map_append]
  congr 1
  by_cases hb : mask / 2 ^ i % 2 = 1 <;> simp [hb]
theorem burst_in (at_ mask i p : Nat) (h : p ∈ CrcM.burst i at_ mask) : p < at_ + i := by
  unfold CrcM.burst at h
  obtain ⟨j, hj, rfl⟩ := List.mem_map.1 h
  have := List.mem_range.1 (List.mem_filter.1 hj).1
  omega

theorem bursts_loop (l : List Int) (hl : u8s l) (hlen : l.length ≤ 1000) (at_ mask : Nat) (hat : at_ + 32 ≤ 8 * (l.length + 10)) (hm : mask < 4294967296) (h0 : mask ≠ 0) (d : Nat) :
    ∀ (k i : Nat) (x : List Int), i + d = 32 → d < k → x = zof (CrcM.flips (nats (frz l)) (CrcM.burst i at_ mask)) →
      rosettelaw03_FrameBursts.l0 k (at_ : Int) (mask : Int) true x (i : Int) = some true := by
  have hxs : ∀ i, u8s (zof (CrcM.flips (nats (frz l)) (CrcM.burst i at_ mask))) := fun i => u8s_zof (CrcM.flips_bytes _ _ (u8s_nats (frz_u8s hl (by omega))))
  have hxl : ∀ i, (zof (CrcM.flips (nats (frz l)) (CrcM.burst i at_ mask))).length = l.length + 10 := fun i => by rw [zof_length, CrcM.flips_length, nats_length, frz_length]
  induction d with
  | zero =>
    intro k i x hi hk hx
    obtain ⟨k, rfl⟩ : ∃ m, k = m + 1 := ⟨k - 1, by omega⟩
    obtain rfl : i = 32 := by omega
    simp only [rosettelaw03_FrameBursts.l0]
    rw [if_neg (by omega), hx]
    refine (bind_of (next_burst hl (by omega) at_ mask hat hm h0)).trans ?_
    rfl
  | succ d ih =>
    intro k i x hi hk hx
    obtain ⟨k, rfl⟩ : ∃ m, k = m + 1 := ⟨k - 1, by omega⟩
    have hw : IntKind.u64.wrap (i : Int) = ((i : Nat) : Int) := by rw [IntKind.wrap_u64]; omega
    have hxlen : x.length = l.length + 10 := by rw [hx]; exact hxl i
    simp only [rosettelaw03_FrameBursts.l0]
    rw [if_pos (by omega), hw, if_pos (by omega), wrap_small ((at_ : Int) + (i : Int)) (by omega) (by omega), wrap_small ((i : Int) + 1) (by omega) (by omega), show (i : Int) + 1 = ((i + 1 : Nat) : Int) by omega, show (at_ : Int) + (i : Int) = ((at_ + i : Nat) : Int) by omega]
    have hp : at_ + i < 8 * x.length := by omega
    by_cases hb : mask / 2 ^ i % 2 = 1
    · obtain ⟨q0, q1⟩ := flip_at (at_ + i) x.length hp (by omega)
      rw [if_pos ((shr_bit mask i hm (by omega)).2 hb), if_pos q0, if_pos q1, if_pos (flip_by _ (by omega)), flip_step (by rw [hx]; exact hxs i) _ hp (by omega)]
      refine ih k (i + 1) _ (by omega) (by omega) ?_
      rw [hx, nats_zof, burst_succ, if_pos hb]
      unfold CrcM.flips
      rw [List.foldl_append]; rfl
    · rw [if_neg (fun h => hb ((shr_bit mask i hm (by omega)).1 h))]
      refine ih k (i + 1) _ (by omega) (by omega) ?_
      rw [hx, burst_succ, if_neg hb, List.append_nil]

theorem bursts_start (l : List Int) (hl : u8s l) (hlen : l.length ≤ 1000) (at_ mask : Nat) (hat : at_ + 32 ≤ 8 * (l.length + 10)) (hm : mask < 4294967296) (h0 : mask ≠ 0) (K : Nat) (hK : 33 ≤ K) :
    rosettelaw03_FrameBursts.l0 K (at_ : Int) (mask : Int) true (frz l) 0 = some true := by
  have h := bursts_loop l hl hlen at_ mask hat hm h0 32 K 0 (frz l) (by omega) (by omega) (by
    have e : CrcM.burst 0 at_ mask = [] := rfl
    rw [e]
    show frz l = zof (nats (frz l))
    rw [zof_nats (frz_u8s hl (by omega))])
  rw [Int.natCast_zero] at h
  exact h
theorem FrameBursts : rosettelaw03_FrameBursts.Pure := by
  intro l0 a1 a2 _ hl hw h1w h2w
  have hu := u8s_wf hw
  have hb2 := Go.bounds_u32 h2w
  obtain ⟨mask, rfl⟩ := Int.eq_ofNat_of_zero_le hb2.1
  obtain ⟨K, hK⟩ : ∃ K : Nat, 33 ≤ K := ⟨33, Nat.le_refl _⟩
  refine ⟨K + 1 + 1, ?_⟩
  unfold rosettelaw03_FrameBursts.f rosettelaw03_small.f
  by_cases hbig : 8192 < l0.length
  · rw [make_big hbig]
    simp only [Option.bind_some]
    rw [if_neg (by decide)]
    simp only [rosettelaw03_FrameBursts.j0]
    rw [if_neg (by decide), if_pos (by omega)]
    simp only [rosettelaw03_FrameBursts.j1]
    rw [if_pos trivial, if_pos trivial, if_neg (by decide), decide_eq_true (by omega)]
  refine (bind_of rfl).trans ?_
  refine (bind_of (make_some hu (by omega))).trans ?_
  refine (if_pos rfl).trans ?_
  show rosettelaw03_FrameBursts.j0 (K + 1 + 1) l0 a1 (mask : Int) true (frz l0) 0 (((frz l0).length : Int) != wrap64 ((l0.length : Int) + 10)) = some true
  have hsl : (frz l0).length = l0.length + 10 := frz_length l0
  have J : ∀ t, rosettelaw03_FrameBursts.j1 (K + 1) l0 a1 (mask : Int) true t 0 true = some true := fun t => by simp [rosettelaw03_FrameBursts.j1]
  rw [hsl, wrap_small _ (by omega) (by omega)]
  rw [show (((l0.length + 10 : Nat) : Int) != ((l0.length : Int) + 10)) = false by simp]
  simp only [rosettelaw03_FrameBursts.j0]
  rw [if_neg (by decide)]
  by_cases h1 : (l0.length : Int) > 1000
  · rw [if_pos h1]; exact J _
  rw [if_neg h1, if_pos trivial]
  by_cases h4 : (mask : Int) = 0
  · rw [if_pos h4]; exact J _
  rw [if_neg h4]
  by_cases h2 : a1 < 0
  · rw [if_pos h2]; exact J _
  rw [if_neg h2, hsl, wrap_small _ (by rw [wrap_small _ (by omega) (by omega)]; omega) (by rw [wrap_small _ (by omega) (by omega)]; omega), wrap_small _ (by omega) (by omega)]
  by_cases h3 : a1 > 8 * ((l0.length + 10 : Nat) : Int) - 32
  · rw [decide_eq_true h3]; exact J _
  rw [decide_eq_false h3]
  simp only [rosettelaw03_FrameBursts.j1]
  rw [if_neg (by decide)]
  obtain ⟨at_, rfl⟩ := Int.eq_ofNat_of_zero_le (show 0 ≤ a1 by omega)
  exact bursts_start l0 hu (by omega) at_ mask (by omega) (by omega) (by omega) K hK
end Go.Proofs.Ytckjmbpagippkaa.Pure
