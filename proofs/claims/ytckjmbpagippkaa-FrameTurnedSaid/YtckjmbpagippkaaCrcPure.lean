import Derived.Test.YtckjmbpagippkaaG10
import Derived.OpenShut
import Derived.Lib.Bytes
namespace Go.Proofs.Ytckjmbpagippkaa.Pure
open Go.RowKit Go.Proofs.Ytckjmbpagippkaa.G Go.Proofs.YtckjmbpagippkaaW.PrintWords Go.Proofs.YtckjmbpagippkaaW.PrintLast

theorem u8s_wf {l : List Int} (h : ∀ x ∈ l, (Lit.int .u8 x).wf = true) : u8s l := fun x hx => by
  have := Go.bounds_u8 (h x hx)
  omega
theorem u8s_append {a b : List Int} : u8s (a ++ b) ↔ u8s a ∧ u8s b := by
  unfold u8s
  constructor
  · intro h; exact ⟨fun x hx => h x (List.mem_append_left _ hx), fun x hx => h x (List.mem_append_right _ hx)⟩
  · rintro ⟨h1, h2⟩ x hx
    rcases List.mem_append.1 hx with h | h
    · exact h1 x h
    · exact h2 x h
theorem u8s_take {l : List Int} (h : u8s l) (n : Nat) : u8s (l.take n) := fun x hx => h x (List.mem_of_mem_take hx)
theorem u8s_drop {l : List Int} (h : u8s l) (n : Nat) : u8s (l.drop n) := fun x hx => h x (List.mem_of_mem_drop hx)
theorem u8s_zof {l : List Nat} (h : CrcM.Bytes l) : u8s (zof l) := by
  intro x hx
  obtain ⟨c, hc, rfl⟩ := List.mem_map.1 hx
  have := h c hc
  omega
theorem nats_zof (l : List Nat) : nats (zof l) = l := by
  unfold nats zof
  rw [List.map_map]
  exact (List.map_congr_left (fun x _ => by simp)).trans (List.map_id l)
theorem nats_append (a b : List Int) : nats (a ++ b) = nats a ++ nats b := by simp [nats]
theorem nats_length (l : List Int) : (nats l).length = l.length := by simp [nats]
theorem zof_length (l : List Nat) : (zof l).length = l.length := by simp [zof]
theorem nats_take (l : List Int) (n : Nat) : nats (l.take n) = (nats l).take n := by simp [nats, List.map_take]
theorem nats_drop (l : List Int) (n : Nat) : nats (l.drop n) = (nats l).drop n := by simp [nats, List.map_drop]
theorem zof_take (l : List Nat) (n : Nat) : zof (l.take n) = (zof l).take n := by simp [zof, List.map_take]
theorem zof_drop (l : List Nat) (n : Nat) : zof (l.drop n) = (zof l).drop n := by simp [zof, List.map_drop]
theorem zof_inj {a b : List Nat} (h : zof a = zof b) : a = b := by
  have := congrArg nats h
  rwa [nats_zof, nats_zof] at this
theorem nats_inj {a b : List Int} (ha : u8s a) (hb : u8s b) (h : nats a = nats b) : a = b := by
  rw [← zof_nats ha, ← zof_nats hb, h]

/-- two rows of bytes are one text just if they are one row -/
theorem str_eq {a b : List Int} (ha : u8s a) (hb : u8s b) : ((strOfNums a).toList = (strOfNums b).toList) ↔ a = b := by
  constructor
  · intro h
    have h3 := h
    rw [Lib.strOfNums_toList, Lib.strOfNums_toList] at h3
    unfold Lib.bytesOf at h3
    apply nats_inj ha hb
    unfold nats
    have h4 := congrArg (List.map UInt8.toNat) h3
    simp only [List.map_map] at h4
    have e : ∀ l : List Int, u8s l → l.map (UInt8.toNat ∘ fun n => UInt8.ofNat n.toNat) = l.map Int.toNat := fun l hl => List.map_congr_left fun x hx => by
      have := hl x hx
      simp only [Function.comp, UInt8.toNat_ofNat']
      omega
    rwa [e a ha, e b hb] at h4
  · rintro rfl; rfl
theorem str_beq {a b : List Int} (ha : u8s a) (hb : u8s b) : ((strOfNums a).toList == (strOfNums b).toList) = decide (a = b) := by
  rw [Bool.eq_iff_iff]
  simp [str_eq ha hb]

theorem seal_some {l : List Int} (h : u8s l) (hl : l.length ≤ 140737488351232) : crc_Seal.f l = some (zof (CrcM.sealB (nats l))) := by
  unfold crc_Seal.f
  rw [if_pos ⟨h, hl⟩]
theorem add_some {l : List Int} (h : u8s l) (n : Nat) (hn : n < 4294967296) : crc_Add.f (n : Int) l = some ((CrcM.add n (nats l) : Nat) : Int) := by
  unfold crc_Add.f
  rw [if_pos ⟨by omega, by omega, h⟩, Int.toNat_natCast]

theorem wrap_small (x : Int) (h0 : -9223372036854775808 ≤ x) (h1 : x < 9223372036854775808) : wrap64 x = x := by unfold wrap64; omega

def opened (o : Option (List Nat)) : List Int × Bool := match o with
  | some y => (zof y, true)
  | none => ([], false)
theorem open_some' {l : List Int} (h : u8s l) (hl : l.length ≤ 140737488351232) : crc_Open.f l = some (opened (CrcM.openB (nats l))) := by
  unfold crc_Open.f CrcM.openB
  rw [nats_length, wrap_small _ (by omega) (by omega)]
  by_cases h4 : l.length < 4
  · rw [if_pos (by omega), if_pos h4]; rfl
  · rw [if_neg (by omega), if_pos (by omega), if_pos (by omega), if_neg h4]
    rw [show ((l.length : Int) - 4).toNat = l.length - 4 by omega]
    have ht := u8s_take h (l.length - 4)
    rw [seal_some ht (by simp; omega)]
    simp only [Option.bind_some]
    rw [if_pos (by rw [zof_length, CrcM.sealB_length, nats_length, List.length_take]; omega)]
    have e : (zof (CrcM.sealB (nats (l.take (l.length - 4))))).drop (l.length - 4) = zof (CrcM.low (CrcM.sum (nats (l.take (l.length - 4))))) := by
      unfold CrcM.sealB
      rw [zof_append, List.drop_append_of_le_length (by rw [zof_length, nats_length, List.length_take]; omega), List.drop_of_length_le (by rw [zof_length, nats_length, List.length_take]; omega), List.nil_append]
    rw [e, ← nats_take, ← nats_drop]
    unfold bytes_Equal.f
    rw [str_beq (u8s_zof (CrcM.low_bytes _)) (u8s_drop h _)]
    simp only [Option.bind_some]
    have hiff : (zof (CrcM.low (CrcM.sum (nats (l.take (l.length - 4))))) = l.drop (l.length - 4)) ↔ (CrcM.low (CrcM.sum (nats (l.take (l.length - 4)))) = nats (l.drop (l.length - 4))) := by
      constructor
      · intro hh; rw [← hh, nats_zof]
      · intro hh; rw [hh, zof_nats (u8s_drop h _)]
    by_cases he : CrcM.low (CrcM.sum (nats (l.take (l.length - 4)))) = nats (l.drop (l.length - 4))
    · rw [if_pos he, if_pos (by simpa using hiff.2 he)]
      unfold bytes_Clone.f
      rw [if_pos (by simp; omega)]
      simp [opened, zof_nats ht]
    · rw [if_neg he, if_neg (by simpa using fun hh => he (hiff.1 hh))]
      rfl
end Go.Proofs.Ytckjmbpagippkaa.Pure
