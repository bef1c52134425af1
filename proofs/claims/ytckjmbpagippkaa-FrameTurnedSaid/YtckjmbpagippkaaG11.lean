-- Written by a program of this session (wip/tools/myprint.py), over the kit's print.
import Derived.Test.YtckjmbpagippkaaG0
import Derived.Test.YtckjmbpagippkaaG4
import Derived.Test.YtckjmbpagippkaaG10
import Derived.Test.YtckjmbpagippkaaConcat
import Derived.BigQuiet
import Derived.Deep.QuietTactic
import Derived.Laws.BitsAllLaws
namespace Go.Proofs.Ytckjmbpagippkaa.G
open Go.RowKit Go.Proofs.YtckjmbpagippkaaW.PrintWords Go.Proofs.YtckjmbpagippkaaW.PrintLast Go.Proofs.YtckjmbpagippkaaW.PrintMore
attribute [local go_sem] max2_int min2_int max_two min_two max_three min_three max_four min_four   -- for this text's walks alone
set_option linter.unusedVariables false
set_option linter.unusedSimpArgs false

-- BY HAND
-- IMPORT YtckjmbpagippkaaConcat
-- LIB Derived.BigQuiet
-- LIB Derived.Deep.QuietTactic
-- LIB Derived.Laws.BitsAllLaws
-- over: crc_Open.f
def frame_Next.f (l0 : List Int) : Option (List Int × Int × Int) :=
  if l0.length < 6 then some ([], 0, 2) else (crc_Open.f (l0.take 6)).bind fun p => if p.2 = false then some ([], 0, 6) else if p.1.length = 2 ∧ u8s p.1 then
    (if rd p.1 0 + 256 * rd p.1 1 > 8192 then some ([], 0, 4) else if (l0.length : Int) < rd p.1 0 + 256 * rd p.1 1 + 10 then some ([], 0, 2) else
      (crc_Open.f ((l0.take (rd p.1 0 + 256 * rd p.1 1 + 10).toNat).drop 6)).bind fun q => if q.2 = false then some ([], 0, 6) else some (q.1, rd p.1 0 + 256 * rd p.1 1 + 10, 0)) else none
theorem held_mid {w : World} {S : Nat → Prop} {ad : Addr} {l : List Int} (h : HeldB w S (some ad) l) (a b : Nat) (ha : 0 < a) (hb : b ≤ l.length) : HeldB w S (some ⟨ad.block, ad.off + a, none⟩) ((l.take b).drop a) := by
  intro h0
  rw [List.length_drop, List.length_take] at h0
  obtain ⟨ad', e1, e2, e3⟩ := h (by omega)
  cases e1
  refine ⟨_, rfl, e2, fun j hj => ?_⟩
  rw [List.length_drop, List.length_take] at hj
  have e4 := e3 (a + j) (by omega)
  rw [← add_add] at e4
  have e5 : ad.add a = ⟨ad.block, ad.off + a, none⟩ := by unfold Addr.add; rw [if_neg (by omega)]
  rw [e5] at e4
  rw [e4]
  congr 2
  have e6 : ((a + j : Nat) : Int).toNat = a + j := by omega
  have e7 : ((j : Nat) : Int).toNat = j := by omega
  simp only [rd, List.getD_eq_getElem?_getD, e6, e7, List.getElem?_drop]
  rw [List.getElem?_take_of_lt (by omega)]
theorem or_two (x y : Int) (hx : 0 ≤ x ∧ x < 256) (hy : 0 ≤ y ∧ y < 256) : bits .or .i64 x (y * 256) = x + 256 * y := by
  obtain ⟨X, rfl⟩ := Int.eq_ofNat_of_zero_le hx.1
  obtain ⟨Y, rfl⟩ := Int.eq_ofNat_of_zero_le hy.1
  have hX : X < 256 := by omega
  have hY : Y < 256 := by omega
  have e1 : (BitVec.ofInt 64 (X : Int)).toNat = X := by rw [BitVec.toNat_ofInt]; omega
  have e2 : (BitVec.ofInt 64 ((Y : Int) * 256)).toNat = Y * 256 := by rw [BitVec.toNat_ofInt]; omega
  show IntKind.i64.wrap ((BitVec.ofInt 64 (X : Int) ||| BitVec.ofInt 64 ((Y : Int) * 256)).toNat : Int) = _
  rw [BitVec.toNat_or, e1, e2, Nat.or_comm, Nat.mul_comm Y 256]
  have := Nat.two_pow_add_eq_or_of_lt (i := 8) (b := X) (by omega) Y
  rw [show (256 : Nat) = 2 ^ 8 from rfl, ← this, IntKind.wrap_i64]
  omega
set_option maxRecDepth 100000 in
set_option maxHeartbeats 2000000 in
theorem frame_Next.calls (A0 : Option Addr) (c0 : Nat) (l0 : List Int) (r1 : List Int) (r2 r3 : Int) (w : World) (hr0 : Kd.C (Kd.int .u8) w A0 l0.length l0) (hc0 : l0.length ≤ c0) (h : frame_Next.f l0 = some (r1, r2, r3)) :
    Calls Try.prog 11 #[.slice A0 l0.length c0] w fun e w' => ∃ v0_ : Value, e = .returned (.tuple #[v0_, .int .i64 r2, .int .i64 r3]) ∧ Kd.R (Kd.int .u8) 5 w' w.heap.size (fun _ => True) v0_ r1 ∧ Below w.heap.size w w' := by
  unfold frame_Next.f at h
  by_cases hlt : l0.length < 6
  · rw [if_pos hlt] at h
    simp only [Option.some.injEq, Prod.mk.injEq] at h
    obtain ⟨rfl, rfl, rfl⟩ := h
    go_enter Try.func11, Try.ntmps11
    go_wp2
    go_ret3
    exact ⟨_, rfl, Kd.R_nil _ _ _ _ _, Below.refl _ _⟩
  · rw [if_neg hlt] at h
    obtain ⟨⟨hd, ok⟩, h1, h⟩ := Option.bind_eq_some_iff.mp h
    simp only at h
    obtain ⟨T6, hT⟩ : ∃ T, T = l0.take 6 := ⟨_, rfl⟩
    have hl6 : T6.length = 6 := by rw [hT, List.length_take]; omega
    have hsplit : l0 = T6 ++ l0.drop 6 := by rw [hT, List.take_append_drop]
    rw [← hT] at h1
    have HR := Aside0.mk (HeldB.low hr0)
    have hR6 : HeldB w (fun k => k < w.heap.size) A0 T6 := by
      have hh := HR.out
      rw [hsplit] at hh
      intro h0
      obtain ⟨ad, e1, e2, e3⟩ := hh (by rw [List.length_append]; omega)
      refine ⟨ad, e1, e2, fun j hj => ?_⟩
      rw [e3 j (by rw [List.length_append]; omega)]
      simp [rd, List.getD_eq_getElem?_getD, List.getElem?_append_left hj]
    have hop := crc_Open.calls A0 c0 T6 hd ok w (hR6.C (by omega)) (by omega) h1
    rw [hl6] at hop
    have HOP := Aside0.mk hop
    have HH := Aside0.mk h
    have HS := Aside0.mk hsplit
    clear hop h h1 hR6 hsplit hT hr0
    go_enter Try.func11, Try.ntmps11
    go_wp2_with fail
    refine HOP.out.mono ?_
    rintro e w2 ⟨v2, rfl, hRr, hB⟩
    have HB2 := Aside0.mk hB
    have HR2 := Aside0.mk (HR.out.below hB)
    have HO2 := Aside0.mk hRr
    clear hRr hB HR HOP
    have h := HH.out
    cases ok with
    | false =>
      rw [if_pos rfl] at h
      simp only [Option.some.injEq, Prod.mk.injEq] at h
      obtain ⟨rfl, rfl, rfl⟩ := h
      go_wp2
      go_ret3
      exact ⟨_, rfl, Kd.R_nil _ _ _ _ _, HB2.out⟩
    | true =>
      rw [if_neg (by decide)] at h
      split at h
      · rename_i hcond
        obtain ⟨hl2, hu2⟩ := hcond
        clear HH
        obtain ⟨Ah, ch, rfl, hch, _, hH, _⟩ := held_own HO2.out
        obtain ⟨gh, rfl⟩ : ∃ g, Ah = some ⟨g, 0, none⟩ := by
          obtain ⟨_, ho⟩ := kd_own HO2.out
          rcases ho with ⟨h1, h2⟩ | ⟨g, cap, cur, h1, h2, h3, h4, h5, h6, h7⟩
          · omega
          · simp only [Value.slice.injEq] at h1
            exact ⟨g, h1.1⟩
        have hI := HO2.out
        obtain ⟨q0, _⟩ := Kd.R_cell (d := (0 : Int)) hI (0 : Int) (by omega) (by omega)
        obtain ⟨q1, _⟩ := Kd.R_cell (d := (0 : Int)) hI (1 : Int) (by omega) (by omega)
        have H := Aside0.mk h
        have HU := Aside0.mk hu2
        clear hI hH h hu2
        have u0 := rd_u8 HU.out 0 (by omega)
        have u1 := rd_u8 HU.out 1 (by omega)
        have q0' : w2.cell? ⟨gh, 0, none⟩ = some (.int .u8 (rd hd 0)) := q0
        have q1' : w2.cell? ⟨gh, 1, none⟩ = some (.int .u8 (rd hd 1)) := q1
        clear q0 q1 HU
        rw [show ((0 : Nat) : Int) = 0 from rfl] at u0
        rw [show ((1 : Nat) : Int) = 1 from rfl] at u1
        generalize rd hd 0 = x at *
        generalize rd hd 1 = y at *
        rw [hl2]
        go_wp2_with fail
        go_quiet (fail)
        rw [or_two x y u0 u1]
        have hn0 : 0 ≤ x + 256 * y := by omega
        generalize x + 256 * y = n at *
        obtain ⟨m, rfl⟩ := Int.eq_ofNat_of_zero_le hn0
        clear u0 u1 q0' q1' hn0
        have HB3 : Aside0 (Below w.heap.size w (w2.drewN nq)) := ⟨pw_below_drewN HB2.out _⟩
        have HR3 : Aside0 (HeldB (w2.drewN nq) (fun k => k < w.heap.size) A0 l0) := ⟨HR2.out.below (pw_below_drewN (Below.refl _ _) _)⟩
        clear HB2 HR2 HO2
        generalize w2.drewN nq = w3 at HB3 HR3 ⊢
        have h := H.out
        clear H
        by_cases hm : 8192 < m
        · rw [if_pos (by omega)] at h
          simp only [Option.some.injEq, Prod.mk.injEq] at h
          obtain ⟨rfl, rfl, rfl⟩ := h
          go_wp2
          go_ret3
          exact ⟨_, rfl, Kd.R_nil _ _ _ _ _, HB3.out⟩
        · rw [if_neg (by omega)] at h
          by_cases hs : l0.length < m + 10
          · rw [if_pos (by omega)] at h
            simp only [Option.some.injEq, Prod.mk.injEq] at h
            obtain ⟨rfl, rfl, rfl⟩ := h
            go_wp2
            go_ret3
            exact ⟨_, rfl, Kd.R_nil _ _ _ _ _, HB3.out⟩
          · rw [if_neg (by omega)] at h
            obtain ⟨⟨x2, ok2⟩, h2, h⟩ := Option.bind_eq_some_iff.mp h
            have H2 := Aside0.mk h2
            have H := Aside0.mk h
            clear h2 h
            obtain ⟨ad, rfl⟩ : ∃ ad, A0 = some ad := by
              obtain ⟨ad, e, _, _⟩ := HR3.out (by omega)
              exact ⟨ad, e⟩
            have hT := held_mid HR3.out 6 (m + 10) (by decide) (by omega)
            have hlT : ((l0.take (m + 10)).drop 6).length = 6 + m - 2 := by rw [List.length_drop, List.length_take]; omega
            have h2 := H2.out
            rw [show ((m : Int) + 10).toNat = m + 10 by omega] at h2
            have hop := crc_Open.calls _ (c0 - 6) _ x2 ok2 w3 (hT.C (by rw [hlT]; omega)) (by rw [hlT]; omega) h2
            rw [hlT] at hop
            have HOP := Aside0.mk hop
            clear hop h2 hlT hT H2
            go_wp2_with fail
            refine HOP.out.mono ?_
            rintro e w4 ⟨v4, rfl, hRr, hB⟩
            have HB4 : Aside0 (Below w.heap.size w w4) := ⟨HB3.out.trans (hB.mono HB3.out.size)⟩
            have hRl := Kd.R_lower hRr (base' := w.heap.size) HB3.out.size
            have h := H.out
            clear H HOP HB3 hB hRr
            cases ok2 with
            | false =>
              rw [if_pos rfl] at h
              simp only [Option.some.injEq, Prod.mk.injEq] at h
              obtain ⟨rfl, rfl, rfl⟩ := h
              go_wp2
              go_ret3
              exact ⟨_, rfl, Kd.R_nil _ _ _ _ _, HB4.out⟩
            | true =>
              rw [if_neg (by decide)] at h
              simp only [Option.some.injEq, Prod.mk.injEq] at h
              obtain ⟨rfl, rfl, rfl⟩ := h
              have HRl := Aside0.mk hRl
              clear hRl
              go_wp2
              go_ret3
              exact ⟨v4, (by show Ending.returned (Value.tuple #[v4, .int .i64 (6 + (m : Int) + 4), .int .i64 0]) = _; rw [show 6 + (m : Int) + 4 = (m : Int) + 10 by omega]), HRl.out, HB4.out⟩
      · cases h

end Go.Proofs.Ytckjmbpagippkaa.G
