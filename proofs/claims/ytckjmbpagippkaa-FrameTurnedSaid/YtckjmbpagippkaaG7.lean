-- Written by a program of this session (wip/tools/myprint.py), over the kit's print.
import Derived.Test.YtckjmbpagippkaaG0
import Derived.Test.YtckjmbpagippkaaG6
import Derived.Test.YtckjmbpagippkaaConcat
namespace Go.Proofs.Ytckjmbpagippkaa.G
open Go.RowKit Go.Proofs.YtckjmbpagippkaaW.PrintWords Go.Proofs.YtckjmbpagippkaaW.PrintLast Go.Proofs.YtckjmbpagippkaaW.PrintMore
attribute [local go_sem] max2_int min2_int max_two min_two max_three min_three max_four min_four   -- for this text's walks alone
set_option linter.unusedVariables false
set_option linter.unusedSimpArgs false

-- BY HAND
-- IMPORT YtckjmbpagippkaaConcat
-- over: crc_Seal.f
def frame_Make.f (l0 : List Int) : Option (List Int × Int) := if 8192 < l0.length then some ([], 4) else (crc_Seal.f [(l0.length : Int) % 256, (l0.length : Int) / 256]).bind fun h => (crc_Seal.f l0).bind fun t => if h.length ≤ 40000 ∧ t.length ≤ 40000 then some (h ++ t, 0) else none
set_option maxRecDepth 100000 in
set_option maxHeartbeats 2000000 in
theorem frame_Make.calls (A0 : Option Addr) (c0 : Nat) (l0 : List Int) (r1 : List Int) (r2 : Int) (w : World) (hr0 : Kd.C (Kd.int .u8) w A0 l0.length l0) (hc0 : l0.length ≤ c0) (h : frame_Make.f l0 = some (r1, r2)) :
    Calls Try.prog 9 #[.slice A0 l0.length c0] w fun e w' => ∃ v0_ : Value, e = .returned (.tuple #[v0_, .int .i64 r2]) ∧ Kd.R (Kd.int .u8) 5 w' w.heap.size (fun _ => True) v0_ r1 ∧ Below w.heap.size w w' := by
  unfold frame_Make.f at h
  by_cases hbig : 8192 < l0.length
  · rw [if_pos hbig] at h
    obtain ⟨rfl, rfl⟩ := Prod.mk.inj (Option.some.inj h)
    clear h
    go_enter Try.func9, Try.ntmps9
    go_wp2
    go_ret2
    exact ⟨_, rfl, Kd.R_nil _ _ _ _ _, Below.refl _ _⟩
  · rw [if_neg hbig] at h
    obtain ⟨hd, h1, h⟩ := Option.bind_eq_some_iff.mp h
    obtain ⟨tl, h2, h⟩ := Option.bind_eq_some_iff.mp h
    split at h
    · rename_i hlen
      obtain ⟨rfl, rfl⟩ := Prod.mk.inj (Option.some.inj h)
      clear h
      have HR := Aside0.mk (HeldB.low hr0)
      have E1 := Aside0.mk h1
      have E2 := Aside0.mk h2
      have HL := Aside0.mk hlen
      clear hr0 h1 h2 hlen
      have hsmall : l0.length ≤ 8192 := by omega
      go_enter Try.func9, Try.ntmps9
      go_wp2_with fail
      refine (crc_Seal.calls _ _ [(l0.length : Int) % 256, (l0.length : Int) / 256] hd _ (lit_C w 5 .u8 [(l0.length : Int) % 256, (l0.length : Int) / 256] (by simp)) (Nat.le_refl _) E1.out).mono ?_
      rintro e w2 ⟨v2, rfl, hRr, hB⟩
      obtain ⟨Ah, ch, rfl, hch, _, hH, _⟩ := held_own hRr
      have HB2 : Aside0 (Below w.heap.size w w2) := ⟨((Below.refl _ _).alloc (Nat.le_refl _) _).trans (hB.mono (by simp))⟩
      have HR2 := Aside0.mk ((HR.out.below ((Below.refl _ _).alloc (Nat.le_refl _) _)).below hB)
      have HH2 := Aside0.mk (hH.mono (S' := fun k => k < w2.heap.size) (fun k hk => hk.2))
      clear hRr hB hH HR
      go_wp2_with fail
      refine (crc_Seal.calls _ _ l0 tl _ (HR2.out.C (by omega)) hc0 E2.out).mono ?_
      rintro e w3 ⟨v3, rfl, hRr, hB⟩
      obtain ⟨At, ct, rfl, hct, _, hH, _⟩ := held_own hRr
      have HB3 : Aside0 (Below w.heap.size w w3) := ⟨HB2.out.trans (hB.mono HB2.out.size)⟩
      have hs3 := hB.size
      have HH3 := Aside0.mk ((HH2.out.below hB).mono (S' := fun k => k < w3.heap.size) (fun k hk => by omega))
      have HT3 := Aside0.mk (hH.mono (S' := fun k => k < w3.heap.size) (fun k hk => hk.2))
      clear hRr hB hH HR2 HB2 HH2 hs3
      go_wp2_with fail
      have hba := (Below.refl w3.heap.size w3).alloc (Nat.le_refl _) (.cells #[.slice Ah hd.length ch, .slice At tl.length ct] 22)
      have hcell := heap_alloc_new w3 (.cells #[.slice Ah hd.length ch, .slice At tl.length ct] 22)
      refine (concat_two w3.heap.size 2 Ah ch hd At ct tl _ hcell ((HH3.out.below hba).mono (fun k hk => by simp; omega)) ((HT3.out.below hba).mono (fun k hk => by simp; omega)) HL.out.1 HL.out.2).mono ?_
      rintro e w4 ⟨v4, rfl, hRr, hB⟩
      have HB4 : Aside0 (Below w.heap.size w w4) := ⟨(HB3.out.alloc HB3.out.size _).trans (hB.mono (by have := HB3.out.size; simp; omega))⟩
      have hRl := Kd.R_lower hRr (base' := w.heap.size) (by have := HB3.out.size; simp; omega)
      clear hRr hB hba hcell
      go_wp2
      go_ret2
      exact ⟨_, rfl, hRl, HB4.out⟩
    · cases h

end Go.Proofs.Ytckjmbpagippkaa.G
