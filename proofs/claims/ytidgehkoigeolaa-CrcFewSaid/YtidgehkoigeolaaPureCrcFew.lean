/- The statement CrcFew over numbers and lists: of sealed bytes of which one, two or three bits are turned nothing is opened; any three places, some of which may be one. -/
import Derived.Test.YtidgehkoigeolaaG20
import Derived.Test.YtidgehkoigeolaaCrcFlip
namespace Go.Proofs.Ytidgehkoigeolaa.Pure
open Go.RowKit Go.Proofs.Ytidgehkoigeolaa.G Go.Proofs.YtidgehkoigeolaaW.PrintWords Go.Proofs.YtidgehkoigeolaaW.PrintLast

theorem few_refused (l : List Int) (hu : u8s l) (hl : l.length ≤ 1000) (p q r : Nat) (hp : p < 8 * (l.length + 4)) (hq : q < 8 * (l.length + 4)) (hr : r < 8 * (l.length + 4)) :
    crc_Open.f (zof (CrcM.flips (CrcM.sealB (nats l)) (CrcM.places p q r))) = some ([], false) := by
  have hin : ∀ z ∈ CrcM.places p q r, z < 8 * (l.length + 4) := by
    intro z hz
    unfold CrcM.places at hz
    rcases List.mem_cons.1 hz with rfl | hz
    · exact hp
    · rcases List.mem_append.1 hz with hz | hz
      · split at hz
        · simp at hz; omega
        · simp at hz
      · split at hz
        · simp at hz; omega
        · simp at hz
  rw [open_some' (u8s_zof (CrcM.flips_bytes _ _ (CrcM.sealB_bytes _ (u8s_nats hu)))) (by rw [zof_length, CrcM.flips_length, CrcM.sealB_length, nats_length]; omega), nats_zof,
    CrcM.refused _ _ (u8s_nats hu) (by rw [nats_length]; exact hin) (by rw [nats_length]; exact CrcM.few_ne CrcM.dist_8032 _ p q r (by omega) hp hq hr)]
  rfl

theorem CrcFew : rosettelaw01_CrcFew.Pure := by
  intro l0 a1 a2 a3 _ hl hw _ _ _
  have hu := u8s_wf hw
  have J : ∀ t k, rosettelaw01_CrcFew.j0 (k + 1) l0 a1 a2 a3 true t true = some true := fun t k => by simp [rosettelaw01_CrcFew.j0]
  refine ⟨1, ?_⟩
  unfold rosettelaw01_CrcFew.f rosettelaw01_small.f
  rw [seal_some hu (by omega)]
  simp only [Option.bind_some]
  have hs : u8s (zof (CrcM.sealB (nats l0))) := u8s_zof (CrcM.sealB_bytes _ (u8s_nats hu))
  have hsl : (zof (CrcM.sealB (nats l0))).length = l0.length + 4 := by rw [zof_length, CrcM.sealB_length, nats_length]
  rw [hsl]
  by_cases h0 : (l0.length : Int) > 1000
  · rw [if_pos h0]; exact J _ _
  rw [if_neg h0, wrap_small _ (by omega) (by omega)]
  by_cases h1 : a1 < 0
  · rw [if_pos h1]; exact J _ _
  rw [if_neg h1]
  by_cases h2 : a1 ≥ 8 * ((l0.length + 4 : Nat) : Int)
  · rw [if_pos h2]; exact J _ _
  rw [if_neg h2]
  by_cases h3 : a2 < 0
  · rw [if_pos h3]; exact J _ _
  rw [if_neg h3]
  by_cases h4 : a2 ≥ 8 * ((l0.length + 4 : Nat) : Int)
  · rw [if_pos h4]; exact J _ _
  rw [if_neg h4]
  by_cases h5 : a3 < 0
  · rw [if_pos h5]; exact J _ _
  rw [if_neg h5]
  by_cases h6 : a3 ≥ 8 * ((l0.length + 4 : Nat) : Int)
  · rw [decide_eq_true h6]; exact J _ _
  rw [decide_eq_false h6]
  obtain ⟨p, rfl⟩ := Int.eq_ofNat_of_zero_le (show 0 ≤ a1 by omega)
  obtain ⟨q, rfl⟩ := Int.eq_ofNat_of_zero_le (show 0 ≤ a2 by omega)
  obtain ⟨r, rfl⟩ := Int.eq_ofNat_of_zero_le (show 0 ≤ a3 by omega)
  have hp : p < 8 * (l0.length + 4) := by omega
  have hq : q < 8 * (l0.length + 4) := by omega
  have hr : r < 8 * (l0.length + 4) := by omega
  have H := few_refused l0 hu (by omega) p q r hp hq hr
  have A := fun z (hz : z < 8 * (l0.length + 4)) => flip_at z (l0.length + 4) hz (by omega)
  have B := fun z (hz : z < 8 * (l0.length + 4)) => flip_by z (by omega)
  have F := fun (x : List Int) (hx : u8s x) (hxl : x.length = l0.length + 4) z (hz : z < 8 * (l0.length + 4)) => flip_step hx z (by omega) (by omega)
  have L := fun (x : List Int) (hxl : x.length = l0.length + 4) z => (flip_len x z).trans hxl
  simp only [rosettelaw01_CrcFew.j0]
  rw [if_neg (by decide), hsl, if_pos (by rw [wrap_small _ (by omega) (by omega)]; omega), if_pos (A p hp).1, if_pos (A p hp).2, if_pos (B p hp), F _ hs hsl p hp]
  simp only [Option.bind_some]
  have s1 := flip_u8s hs p
  have l1 := L _ hsl p
  rw [nats_zof] at s1 l1 ⊢
  unfold CrcM.places CrcM.flips at H
  by_cases e1 : (q : Int) = (p : Int)
  · have e1' : q = p := by omega
    subst e1'
    rw [if_pos rfl]
    by_cases e2 : (r : Int) = (q : Int)
    · have e2' : r = q := by omega
      subst e2'
      rw [if_pos rfl]
      simp only [ne_eq, not_true_eq_false, if_false, false_and, List.append_nil, List.foldl] at H
      rw [H]; rfl
    · have e2' : r ≠ q := by omega
      rw [if_neg e2, if_neg e2, if_pos (A r hr).1, if_pos (A r hr).2, if_pos (B r hr), F _ s1 l1 r hr, nats_zof]
      simp only [ne_eq, not_true_eq_false, if_false, e2', not_false_eq_true, and_self, if_true, List.nil_append, List.foldl] at H
      rw [H]; rfl
  · have e1' : q ≠ p := by omega
    rw [if_neg e1, if_pos (A q hq).1, if_pos (A q hq).2, if_pos (B q hq), F _ s1 l1 q hq, nats_zof]
    have s2 := flip_u8s s1 q
    have l2 := L _ l1 q
    rw [nats_zof] at s2 l2
    by_cases e2 : (r : Int) = (p : Int)
    · have e2' : r = p := by omega
      subst e2'
      rw [if_pos rfl]
      simp only [ne_eq, e1', not_false_eq_true, if_true, not_true_eq_false, false_and, if_false, List.append_nil, List.foldl] at H
      rw [H]; rfl
    · rw [if_neg e2]
      have e2' : r ≠ p := by omega
      by_cases e3 : (r : Int) = (q : Int)
      · have e3' : r = q := by omega
        subst e3'
        rw [if_pos rfl]
        simp only [ne_eq, e1', not_false_eq_true, if_true, not_true_eq_false, and_false, if_false, List.append_nil, List.foldl] at H
        rw [H]; rfl
      · have e3' : r ≠ q := by omega
        rw [if_neg e3, if_pos (A r hr).1, if_pos (A r hr).2, if_pos (B r hr), F _ s2 l2 r hr, nats_zof]
        simp only [ne_eq, e1', e2', e3', not_false_eq_true, if_true, and_self, List.cons_append, List.nil_append, List.foldl] at H
        rw [H]; rfl
end Go.Proofs.Ytidgehkoigeolaa.Pure
