/- a frame over lists: what is made; what is found when bits are turned; when it is cut; when bytes follow -/
import Derived.Test.YtckjmbpagippkaaG11
import Derived.Test.YtckjmbpagippkaaG7
import Derived.Test.YtckjmbpagippkaaCrcPure
import Derived.Test.YtckjmbpagippkaaCrcFrame
set_option linter.unusedVariables false
set_option linter.unusedSimpArgs false
set_option autoImplicit false
namespace Go.Proofs.Ytckjmbpagippkaa.Pure
open Go.RowKit Go.Proofs.Ytckjmbpagippkaa.G Go.Proofs.YtckjmbpagippkaaW.PrintWords Go.Proofs.YtckjmbpagippkaaW.PrintLast

def frz (l : List Int) : List Int := zof (CrcM.fr (nats l))
theorem frz_length (l : List Int) : (frz l).length = l.length + 10 := by unfold frz; rw [zof_length, CrcM.fr_length, nats_length]
theorem frz_u8s {l : List Int} (hu : u8s l) (hl : l.length ≤ 8192) : u8s (frz l) := u8s_zof (CrcM.fr_bytes _ (u8s_nats hu) (by rw [nats_length]; omega))
theorem zof_append (a b : List Nat) : zof (a ++ b) = zof a ++ zof b := by simp [zof]
theorem zof_nats {l : List Int} (h : u8s l) : zof (nats l) = l := by
  induction l with
  | nil => rfl
  | cons x l ih =>
    have := h x List.mem_cons_self
    show ((x.toNat : Nat) : Int) :: zof (nats l) = _
    rw [ih (fun y hy => h y (List.mem_cons_of_mem _ hy))]
    congr 1
    omega
def head_ (n : Nat) : List Nat := [n % 256, n / 256]
theorem head_bytes (n : Nat) (hn : n < 65536) : CrcM.Bytes (head_ n) := by
  intro d hd
  simp only [head_, List.mem_cons, List.not_mem_nil, or_false] at hd
  rcases hd with rfl | rfl <;> omega
theorem make_some {l : List Int} (hu : u8s l) (hl : l.length ≤ 8192) : frame_Make.f l = some (frz l, 0) := by
  unfold frame_Make.f
  rw [if_neg (by omega)]
  have e : ([(l.length : Int) % 256, (l.length : Int) / 256] : List Int) = zof (head_ l.length) := by
    simp [zof, head_]
  rw [e, seal_some (u8s_zof (head_bytes _ (by omega))) (by simp [zof, head_]), seal_some hu (by omega)]
  simp only [Option.bind_some]
  rw [if_pos ⟨by rw [zof_length, CrcM.sealB_length, nats_length, zof_length]; simp [head_], by rw [zof_length, CrcM.sealB_length, nats_length]; omega⟩, nats_zof]
  unfold frz CrcM.fr
  rw [zof_append, nats_length]
  rfl
theorem make_big {l : List Int} (hl : 8192 < l.length) : frame_Make.f l = some ([], 4) := by
  unfold frame_Make.f
  rw [if_pos hl]

/-- what is found in six bytes and more bytes -/
theorem next_head {A B : List Int} (hA : u8s A) (hl : A.length = 6) : frame_Next.f (A ++ B) = (some (opened (CrcM.openB (nats A)))).bind fun p => if p.2 = false then some ([], 0, 6) else if p.1.length = 2 ∧ u8s p.1 then
    (if rd p.1 0 + 256 * rd p.1 1 > 8192 then some ([], 0, 4) else if ((A ++ B).length : Int) < rd p.1 0 + 256 * rd p.1 1 + 10 then some ([], 0, 2) else
      (crc_Open.f (((A ++ B).take (rd p.1 0 + 256 * rd p.1 1 + 10).toNat).drop 6)).bind fun q => if q.2 = false then some ([], 0, 6) else some (q.1, rd p.1 0 + 256 * rd p.1 1 + 10, 0)) else none := by
  unfold frame_Next.f
  rw [if_neg (by rw [List.length_append]; omega), show (A ++ B).take 6 = A by rw [← hl]; exact List.take_left, open_some' hA (by omega)]
theorem next_head_bad {A B : List Int} (hA : u8s A) (hl : A.length = 6) (h : CrcM.openB (nats A) = none) : frame_Next.f (A ++ B) = some ([], 0, 6) := by
  rw [next_head hA hl, h]; rfl
theorem next_head_good {n : Nat} {B : List Int} (hn : n ≤ 8192) : frame_Next.f (zof (CrcM.sealB (head_ n)) ++ B) = if (6 + B.length : Nat) < n + 10 then some ([], 0, 2) else (crc_Open.f (B.take (n + 4))).bind fun q => if q.2 = false then some ([], 0, 6) else some (q.1, ((n + 10 : Nat) : Int), 0) := by
  have hA : u8s (zof (CrcM.sealB (head_ n))) := u8s_zof (CrcM.sealB_bytes _ (head_bytes _ (by omega)))
  have hl : (zof (CrcM.sealB (head_ n))).length = 6 := by rw [zof_length, CrcM.sealB_length]; rfl
  rw [next_head hA hl, nats_zof, CrcM.open_sealB]
  simp only [opened, Option.bind_some]
  have e0 : rd (zof (head_ n)) 0 = ((n % 256 : Nat) : Int) := rfl
  have e1 : rd (zof (head_ n)) 1 = ((n / 256 : Nat) : Int) := rfl
  have e2 : rd (zof (head_ n)) 0 + 256 * rd (zof (head_ n)) 1 = (n : Int) := by rw [e0, e1]; omega
  rw [if_neg (by decide), if_pos ⟨rfl, u8s_zof (head_bytes _ (by omega))⟩, e2, if_neg (by omega), List.length_append, hl]
  by_cases h : 6 + B.length < n + 10
  · rw [if_pos (by omega), if_pos h]
  · rw [if_neg (by omega), if_neg h, show ((n : Int) + 10).toNat = 6 + (n + 4) by omega]
    congr 2
    rw [← hl, List.take_length_add_append, List.drop_left]
theorem next_frame {l : List Int} (hu : u8s l) (hl : l.length ≤ 8192) (B : List Int) : frame_Next.f (frz l ++ B) = some (l, ((l.length + 10 : Nat) : Int), 0) := by
  unfold frz CrcM.fr
  rw [zof_append, List.append_assoc, nats_length]
  show frame_Next.f (zof (CrcM.sealB (head_ l.length)) ++ _) = _
  rw [next_head_good hl, if_neg (by rw [List.length_append, zof_length, CrcM.sealB_length, nats_length]; omega)]
  have e : (zof (CrcM.sealB (nats l)) ++ B).take (l.length + 4) = zof (CrcM.sealB (nats l)) := by
    have h : (zof (CrcM.sealB (nats l))).length = l.length + 4 := by rw [zof_length, CrcM.sealB_length, nats_length]
    rw [← h, List.take_left]
  rw [e, open_some' (u8s_zof (CrcM.sealB_bytes _ (u8s_nats hu))) (by rw [zof_length, CrcM.sealB_length, nats_length]; omega), nats_zof, CrcM.open_sealB]
  simp only [opened, Option.bind_some]
  rw [if_neg (by decide), zof_nats hu]
theorem next_cut {l : List Int} (hl : l.length ≤ 8192) (cut : Nat) (hc : cut < l.length + 10) : frame_Next.f ((frz l).take cut) = some ([], 0, 2) := by
  by_cases h6 : cut < 6
  · unfold frame_Next.f
    rw [if_pos (by rw [List.length_take]; omega)]
  unfold frz CrcM.fr
  rw [zof_append, nats_length]
  have hh : (zof (CrcM.sealB (head_ l.length))).length = 6 := by rw [zof_length, CrcM.sealB_length]; rfl
  obtain ⟨k, rfl⟩ : ∃ k, cut = 6 + k := ⟨cut - 6, by omega⟩
  have e : (zof (CrcM.sealB [l.length % 256, l.length / 256]) ++ zof (CrcM.sealB (nats l))).take (6 + k) = zof (CrcM.sealB (head_ l.length)) ++ (zof (CrcM.sealB (nats l))).take k := by
    rw [← hh]; exact List.take_length_add_append k
  rw [e, next_head_good hl, if_pos (by rw [List.length_take]; omega)]
/-- bits turned: an error -/
theorem next_turned {l : List Int} (hu : u8s l) (hl : l.length ≤ 8192) (ps : List Nat) (hp : ∀ p ∈ ps, p < 8 * (l.length + 10)) (h0 : ps ≠ [])
    (h1 : CrcM.Tells 48 (CrcM.lows 48 ps)) (h2 : CrcM.Tells (8 * (l.length + 4)) (CrcM.highs 48 ps)) : frame_Next.f (zof (CrcM.flips (nats (frz l)) ps)) = some ([], 0, 6) := by
  have hh : (CrcM.sealB (head_ l.length)).length = 6 := by rw [CrcM.sealB_length]; rfl
  unfold frz CrcM.fr
  rw [nats_zof, nats_length]
  show frame_Next.f (zof (CrcM.flips (CrcM.sealB (head_ l.length) ++ CrcM.sealB (nats l)) ps)) = _
  rw [CrcM.flips_append, hh, show 8 * 6 = 48 from rfl, zof_append]
  rcases h1 with h1 | h1
  · have h3 := CrcM.split_ne 48 ps h0 h1
    rcases h2 with h2 | h2
    · exact absurd h2 h3
    rw [h1]
    show frame_Next.f (zof (CrcM.sealB (head_ l.length)) ++ _) = _
    have hlen : (zof (CrcM.flips (CrcM.sealB (nats l)) (CrcM.highs 48 ps))).length = l.length + 4 := by rw [zof_length, CrcM.flips_length, CrcM.sealB_length, nats_length]
    rw [next_head_good hl, if_neg (by rw [hlen]; omega), List.take_of_length_le (by rw [hlen]; exact Nat.le_refl _),
      open_some' (u8s_zof (CrcM.flips_bytes _ _ (CrcM.sealB_bytes _ (u8s_nats hu)))) (by rw [hlen]; omega), nats_zof,
      CrcM.refused _ _ (u8s_nats hu) (by rw [nats_length]; exact CrcM.highs_lt 48 _ ps (fun p h => by have := hp p h; omega)) (by rw [nats_length]; exact h2)]
    rfl
  · refine next_head_bad (u8s_zof (CrcM.flips_bytes _ _ (CrcM.sealB_bytes _ (head_bytes _ (by omega))))) (by rw [zof_length, CrcM.flips_length, hh]) ?_
    rw [nats_zof]
    exact CrcM.refused _ _ (head_bytes _ (by omega)) (CrcM.lows_lt 48 ps) h1
theorem next_few {l : List Int} (hu : u8s l) (hl : l.length ≤ 1000) (p q r : Nat) (hp : p < 8 * (l.length + 10)) (hq : q < 8 * (l.length + 10)) (hr : r < 8 * (l.length + 10)) :
    frame_Next.f (zof (CrcM.flips (nats (frz l)) (CrcM.places p q r))) = some ([], 0, 6) := by
  have hin := CrcM.places_in _ p q r hp hq hr
  have hnd := CrcM.places_nodup p q r
  have hln := CrcM.places_length p q r
  refine next_turned hu (by omega) _ hin (by unfold CrcM.places; simp) ?_ ?_
  · exact CrcM.nodup_tells CrcM.dist_8032 48 (by decide) _ (CrcM.lows_nodup _ _ hnd) (Nat.le_trans (CrcM.lows_few _ _) hln) (CrcM.lows_lt _ _)
  · exact CrcM.nodup_tells CrcM.dist_8032 _ (by omega) _ (CrcM.highs_nodup _ _ hnd) (Nat.le_trans (CrcM.highs_few _ _) hln) (CrcM.highs_lt 48 _ _ (fun z hz => by have := hin z hz; omega))
theorem next_burst {l : List Int} (hu : u8s l) (hl : l.length ≤ 8192) (at_ mask : Nat) (ha : at_ + 32 ≤ 8 * (l.length + 10)) (hm : mask < 4294967296) (h0 : mask ≠ 0) :
    frame_Next.f (zof (CrcM.flips (nats (frz l)) (CrcM.burst 32 at_ mask))) = some ([], 0, 6) := by
  refine next_turned hu hl _ (fun p h => by have := CrcM.burst_in' _ _ _ _ h; omega) (CrcM.burst_some at_ mask hm h0) ?_ ?_
  · rw [CrcM.burst_lows]
    by_cases h : at_ ≤ 48
    · exact CrcM.burst_tells _ _ _ _ (by omega) (by omega)
    · rw [show min 32 (48 - at_) = 0 by omega]; exact .inl rfl
  · rw [CrcM.burst_highs]
    exact CrcM.burst_tells _ _ _ _ (by omega) (by omega)
end Go.Proofs.Ytckjmbpagippkaa.Pure
