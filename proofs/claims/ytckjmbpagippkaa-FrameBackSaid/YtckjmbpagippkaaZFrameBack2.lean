/- The statement FrameBack over numbers and lists: what was framed is found as it was, one behind the other, and what follows is not touched. -/
import Derived.Test.YtckjmbpagippkaaZFrameBack0
import Derived.Test.YtckjmbpagippkaaZFrameBack1
import Derived.BigQuiet
import Derived.Deep.QuietTactic
import Derived.Laws.BitsAllLaws
import Derived.WalkKit
import Derived.Test.YtckjmbpagippkaaWMore
import Derived.Deep.Slices
import Derived.DataReads
import Derived.ChangeShapes
import Derived.WideLaws
import Derived.Test.YtckjmbpagippkaaProg
import Derived.Test.YtckjmbpagippkaaRows
import Derived.ProofKit
import Derived.OpenShut
import Derived.ShutString
import Derived.ChangeOld
import Derived.Below
import Derived.SizedLaws
import Derived.Lib.SmallJoins
section
-- Written by a program of this session (wip/tools/myprint.py), over the kit's print.
namespace Go.Proofs.Ytckjmbpagippkaa.G
open Go.RowKit Go.Proofs.YtckjmbpagippkaaW.PrintWords Go.Proofs.YtckjmbpagippkaaW.PrintLast Go.Proofs.YtckjmbpagippkaaW.PrintMore
attribute [local go_sem] max2_int min2_int max_two min_two max_three min_three max_four min_four   -- for this text's walks alone
set_option linter.unusedVariables false
set_option linter.unusedSimpArgs false

-- BY HAND
-- IMPORT YtckjmbpagippkaaConcat
-- over: frame_Next.f
-- LIB Derived.BigQuiet
-- LIB Derived.Deep.QuietTactic
-- LIB Derived.Laws.BitsAllLaws
-- over: rosetteref01_Open.f frame_Next.f
def rosetteref03_Next.f (k : Nat) (l0 : List Int) : Option (List Int × Int × Int) :=
  if l0.length < 6 then some ([], 0, 2) else (rosetteref01_Open.f k (l0.take 6)).bind fun p => if p.2 = false then some ([], 0, 6) else if p.1.length = 2 ∧ u8s p.1 then
    (if rd p.1 0 + 256 * rd p.1 1 > 8192 then some ([], 0, 4) else if (l0.length : Int) < rd p.1 0 + 256 * rd p.1 1 + 10 then some ([], 0, 2) else
      (rosetteref01_Open.f k ((l0.take (rd p.1 0 + 256 * rd p.1 1 + 10).toNat).drop 6)).bind fun q => if q.2 = false then some ([], 0, 6) else some (q.1, rd p.1 0 + 256 * rd p.1 1 + 10, 0)) else none
theorem rosetteref03_Next.mono : ∀ a0 k, LeO (rosetteref03_Next.f k a0) (rosetteref03_Next.f (k + 1) a0) := by
  intro a0 k
  unfold rosetteref03_Next.f
  repeat' first
      | (with_reducible exact LeO.refl _)
      | (with_reducible refine LeO.ite ?_ ?_)
      | (with_reducible refine LeO.bind ?_ (fun _ => ?_))
      | exact rosetteref01_Open.mono _ _
set_option maxRecDepth 100000 in
set_option maxHeartbeats 2000000 in
theorem rosetteref03_Next.calls (k : Nat) (A0 : Option Addr) (c0 : Nat) (l0 : List Int) (r1 : List Int) (r2 r3 : Int) (w : World) (hr0 : Kd.C (Kd.int .u8) w A0 l0.length l0) (hc0 : l0.length ≤ c0) (h : rosetteref03_Next.f k l0 = some (r1, r2, r3)) :
    Calls Try.prog 12 #[.slice A0 l0.length c0] w fun e w' => ∃ v0_ : Value, e = .returned (.tuple #[v0_, .int .i64 r2, .int .i64 r3]) ∧ Kd.R (Kd.int .u8) 5 w' w.heap.size (fun _ => True) v0_ r1 ∧ Below w.heap.size w w' := by
  unfold rosetteref03_Next.f at h
  by_cases hlt : l0.length < 6
  · rw [if_pos hlt] at h
    simp only [Option.some.injEq, Prod.mk.injEq] at h
    obtain ⟨rfl, rfl, rfl⟩ := h
    go_enter Try.func12, Try.ntmps12
    go_wp2
    go_ret3
    exact ⟨_, rfl, Kd.R_nil _ _ _ _ _, Below.refl _ _⟩
  · rw [if_neg hlt] at h
    obtain ⟨⟨hd, ok⟩, h1, h⟩ := Option.bind_eq_some_iff.mp h
    simp only at h
    obtain ⟨T6, hT⟩ : ∃ T, T = l0.take 6 := ⟨_, rfl⟩
    have hl6 : T6.length = 6 := by rw [hT, List.length_take]; omega
    have hsplit : l0 = T6 ++ l0.drop 6 := by rw [hT, List.take_append_drop]
    rw [← hT] at h1
    have HR := Aside0.mk (HeldB.low hr0)
    have hR6 : HeldB w (fun k => k < w.heap.size) A0 T6 := by
      have hh := HR.out
      rw [hsplit] at hh
      intro h0
      obtain ⟨ad, e1, e2, e3⟩ := hh (by rw [List.length_append]; omega)
      refine ⟨ad, e1, e2, fun j hj => ?_⟩
      rw [e3 j (by rw [List.length_append]; omega)]
      simp [rd, List.getD_eq_getElem?_getD, List.getElem?_append_left hj]
    have hop := rosetteref01_Open.calls k A0 c0 T6 hd ok w (hR6.C (by omega)) (by omega) h1
    rw [hl6] at hop
    have HOP := Aside0.mk hop
    have HH := Aside0.mk h
    have HS := Aside0.mk hsplit
    clear hop h h1 hR6 hsplit hT hr0
    go_enter Try.func12, Try.ntmps12
    go_wp2_with fail
    refine HOP.out.mono ?_
    rintro e w2 ⟨v2, rfl, hRr, hB⟩
    have HB2 := Aside0.mk hB
    have HR2 := Aside0.mk (HR.out.below hB)
    have HO2 := Aside0.mk hRr
    clear hRr hB HR HOP
    have h := HH.out
    cases ok with
    | false =>
      rw [if_pos rfl] at h
      simp only [Option.some.injEq, Prod.mk.injEq] at h
      obtain ⟨rfl, rfl, rfl⟩ := h
      go_wp2
      go_ret3
      exact ⟨_, rfl, Kd.R_nil _ _ _ _ _, HB2.out⟩
    | true =>
      rw [if_neg (by decide)] at h
      split at h
      · rename_i hcond
        obtain ⟨hl2, hu2⟩ := hcond
        clear HH
        obtain ⟨Ah, ch, rfl, hch, _, hH, _⟩ := held_own HO2.out
        obtain ⟨gh, rfl⟩ : ∃ g, Ah = some ⟨g, 0, none⟩ := by
          obtain ⟨_, ho⟩ := kd_own HO2.out
          rcases ho with ⟨h1, h2⟩ | ⟨g, cap, cur, h1, h2, h3, h4, h5, h6, h7⟩
          · omega
          · simp only [Value.slice.injEq] at h1
            exact ⟨g, h1.1⟩
        have hI := HO2.out
        obtain ⟨q0, _⟩ := Kd.R_cell (d := (0 : Int)) hI (0 : Int) (by omega) (by omega)
        obtain ⟨q1, _⟩ := Kd.R_cell (d := (0 : Int)) hI (1 : Int) (by omega) (by omega)
        have H := Aside0.mk h
        have HU := Aside0.mk hu2
        clear hI hH h hu2
        have u0 := rd_u8 HU.out 0 (by omega)
        have u1 := rd_u8 HU.out 1 (by omega)
        have q0' : w2.cell? ⟨gh, 0, none⟩ = some (.int .u8 (rd hd 0)) := q0
        have q1' : w2.cell? ⟨gh, 1, none⟩ = some (.int .u8 (rd hd 1)) := q1
        clear q0 q1 HU
        rw [show ((0 : Nat) : Int) = 0 from rfl] at u0
        rw [show ((1 : Nat) : Int) = 1 from rfl] at u1
        generalize rd hd 0 = x at *
        generalize rd hd 1 = y at *
        rw [hl2]
        go_wp2_with fail
        go_quiet (fail)
        have hn0 : 0 ≤ x + 256 * y := by omega
        generalize x + 256 * y = n at *
        obtain ⟨m, rfl⟩ := Int.eq_ofNat_of_zero_le hn0
        clear u0 u1 q0' q1' hn0
        have HB3 : Aside0 (Below w.heap.size w (w2.drewN nq)) := ⟨pw_below_drewN HB2.out _⟩
        have HR3 : Aside0 (HeldB (w2.drewN nq) (fun k => k < w.heap.size) A0 l0) := ⟨HR2.out.below (pw_below_drewN (Below.refl _ _) _)⟩
        clear HB2 HR2 HO2
        generalize w2.drewN nq = w3 at HB3 HR3 ⊢
        have h := H.out
        clear H
        by_cases hm : 8192 < m
        · rw [if_pos (by omega)] at h
          simp only [Option.some.injEq, Prod.mk.injEq] at h
          obtain ⟨rfl, rfl, rfl⟩ := h
          go_wp2
          go_ret3
          exact ⟨_, rfl, Kd.R_nil _ _ _ _ _, HB3.out⟩
        · rw [if_neg (by omega)] at h
          by_cases hs : l0.length < m + 10
          · rw [if_pos (by omega)] at h
            simp only [Option.some.injEq, Prod.mk.injEq] at h
            obtain ⟨rfl, rfl, rfl⟩ := h
            go_wp2
            go_ret3
            exact ⟨_, rfl, Kd.R_nil _ _ _ _ _, HB3.out⟩
          · rw [if_neg (by omega)] at h
            obtain ⟨⟨x2, ok2⟩, h2, h⟩ := Option.bind_eq_some_iff.mp h
            have H2 := Aside0.mk h2
            have H := Aside0.mk h
            clear h2 h
            obtain ⟨ad, rfl⟩ : ∃ ad, A0 = some ad := by
              obtain ⟨ad, e, _, _⟩ := HR3.out (by omega)
              exact ⟨ad, e⟩
            have hT := held_mid HR3.out 6 (m + 10) (by decide) (by omega)
            have hlT : ((l0.take (m + 10)).drop 6).length = 10 + m - 6 := by rw [List.length_drop, List.length_take]; omega
            have h2 := H2.out
            rw [show ((m : Int) + 10).toNat = m + 10 by omega] at h2
            have hop := rosetteref01_Open.calls k _ (c0 - 6) _ x2 ok2 w3 (hT.C (by rw [hlT]; omega)) (by rw [hlT]; omega) h2
            rw [hlT] at hop
            have HOP := Aside0.mk hop
            clear hop h2 hlT hT H2
            go_wp2_with fail
            refine HOP.out.mono ?_
            rintro e w4 ⟨v4, rfl, hRr, hB⟩
            have HB4 : Aside0 (Below w.heap.size w w4) := ⟨HB3.out.trans (hB.mono HB3.out.size)⟩
            have hRl := Kd.R_lower hRr (base' := w.heap.size) HB3.out.size
            have h := H.out
            clear H HOP HB3 hB hRr
            cases ok2 with
            | false =>
              rw [if_pos rfl] at h
              simp only [Option.some.injEq, Prod.mk.injEq] at h
              obtain ⟨rfl, rfl, rfl⟩ := h
              go_wp2
              go_ret3
              exact ⟨_, rfl, Kd.R_nil _ _ _ _ _, HB4.out⟩
            | true =>
              rw [if_neg (by decide)] at h
              simp only [Option.some.injEq, Prod.mk.injEq] at h
              obtain ⟨rfl, rfl, rfl⟩ := h
              have HRl := Aside0.mk hRl
              clear hRl
              go_wp2
              go_ret3
              exact ⟨v4, (by show Ending.returned (Value.tuple #[v4, .int .i64 (10 + (m : Int)), .int .i64 0]) = _; rw [show 10 + (m : Int) = (m : Int) + 10 by omega]), HRl.out, HB4.out⟩
      · cases h

end Go.Proofs.Ytckjmbpagippkaa.G
end

section
-- Written by a program of this session (wip/tools/myprint.py), over the kit's print.
namespace Go.Proofs.Ytckjmbpagippkaa.G
open Go.RowKit Go.Proofs.YtckjmbpagippkaaW.PrintWords Go.Proofs.YtckjmbpagippkaaW.PrintLast Go.Proofs.YtckjmbpagippkaaW.PrintMore
attribute [local go_sem] max2_int min2_int max_two min_two max_three min_three max_four min_four   -- for this text's walks alone
set_option linter.unusedVariables false
set_option linter.unusedSimpArgs false

/-! ### rosetteref03_All: function 14 -/
def rosetteref03_All.l0 : Nat → List Int → List (List Int) → Int → Option ((List (List Int)) × Int × Int)
  | 0, _, _, _ => none
  | k + 1, x0, x5, x6 => if x6 < (x0.length : Int) then (if 0 ≤ x6 then (if x6 ≤ (x0.length : Int) then ((rosetteref03_Next.f k (x0.drop (x6 : Int).toNat)).bind fun bt164 => (if bt164.2.2 = 0 then (if x5.length < 5864062014805 then (rosetteref03_All.l0 k x0 (x5 ++ [bt164.1]) (wrap64 (x6 + bt164.2.1))) else (none)) else (some (x5, x6, bt164.2.2)))) else (none)) else (none)) else (some (x5, x6, 0))
def rosetteref03_All.f (k : Nat) (l0 : List Int) : Option ((List (List Int)) × Int × Int) := rosetteref03_All.l0 k l0 ([] : List (List Int)) 0
theorem rosetteref03_All.mono_l : ∀ k, (∀ y0 y1 y2, LeO (rosetteref03_All.l0 k y0 y1 y2) (rosetteref03_All.l0 (k + 1) y0 y1 y2))
  | 0 => fun _ _ _ r h => by simp [rosetteref03_All.l0] at h
  | k + 1 => by
    have ih0 := rosetteref03_All.mono_l k
    · intro y0 y1 y2
      unfold rosetteref03_All.l0
      repeat' first
      | (with_reducible exact ih0 _ _ _)
      | (with_reducible exact rosetteref03_Next.mono _ _)
      | (with_reducible exact LeO.refl _)
      | (with_reducible exact LeO.none _)
      | (with_reducible refine LeO.ite ?_ ?_)
      | (with_reducible refine LeO.bind ?_ (fun _ => ?_))
      | exact ih0 _ _ _
      | exact rosetteref03_Next.mono _ _
      | exact LeO.none _
      | refine LeO.ite ?_ ?_
      | refine LeO.bind ?_ (fun _ => ?_)
theorem rosetteref03_All.mono : ∀ a0 k, LeO (rosetteref03_All.f k a0) (rosetteref03_All.f (k + 1) a0) := by
  intro a0 k
  have ih0 := rosetteref03_All.mono_l k
  unfold rosetteref03_All.f
  repeat' first
      | (with_reducible exact ih0 _ _ _)
      | (with_reducible exact rosetteref03_Next.mono _ _)
      | (with_reducible exact LeO.refl _)
      | (with_reducible exact LeO.none _)
      | (with_reducible refine LeO.ite ?_ ?_)
      | (with_reducible refine LeO.bind ?_ (fun _ => ?_))
      | exact ih0 _ _ _
      | exact rosetteref03_Next.mono _ _
      | exact LeO.none _
      | refine LeO.ite ?_ ?_
      | refine LeO.bind ?_ (fun _ => ?_)
set_option maxHeartbeats 8000000 in
set_option maxRecDepth 100000 in
theorem rosetteref03_All.calls (k : Nat) (A0 : Option Addr) (c0 : Nat) (l0 : List Int) (r1 : List (List Int)) (r2 : Int) (r3 : Int) (w : World) (hr0 : Kd.C (Kd.int .u8) w A0 l0.length l0) (hc0 : l0.length ≤ c0) (h : rosetteref03_All.f k l0 = some (r1, r2, r3)) :
    Calls Try.prog 14 #[.slice A0 l0.length c0] w fun e w' => ∃ v0_ : Value, e = .returned (.tuple #[v0_, .int .i64 r2, .int .i64 r3]) ∧ Kd.S (Kd.slice 5 (Kd.int .u8)) 22 w' w.heap.size (fun _ => True) v0_ r1 ∧ Below w.heap.size w w' := by
  have HR0 := Aside0.mk hr0
  have HC0 := Aside0.mk hc0
  clear hr0 hc0
  have HB := Aside0.mk (Below.refl w.heap.size w)
  have H : (rosetteref03_All.l0 k l0 ([] : List (List Int)) 0) = some (r1, r2, r3) := h
  clear h
  have H' := Aside0.mk H
  clear H
  go_enter Try.func14, Try.ntmps14
  go_wp2
  go_loopg [5, 6] k (fun kq v5 v6 w' => ∃ (x5_1 : List (List Int)) (x6_1 : Int), v6 = .int .i64 x6_1 ∧ Aside0 (rosetteref03_All.l0 kq l0 x5_1 x6_1 = some (r1, r2, r3)) ∧ Aside0 (kq ≤ k) ∧ Aside0 (Kd.S (Kd.slice 5 (Kd.int .u8)) 22 w' w.heap.size (fun _ => True) v5 x5_1) ∧ Aside0 (Below w.heap.size w w'))
  case atStart => exact ⟨(([] : List (List Int))), (0), (by first | rfl | (simp; done) | (simp [*]; done)), H', ⟨Nat.le_refl _⟩, ⟨by first | exact Kd.S_nil _ _ _ _ _ | exact Kd.N_nil _ _ _ _ _ | exact Kd.V_nil _ _ _ _ _ | exact Kd.Q_nil _ _ _ _ _ | exact Kd.R_nil _ _ _ _ _⟩, ⟨by repeat (first | (with_reducible first | exact HB.out | apply below_alloc | apply pw_below_drewN | apply below_drew1) | exact HB.out)⟩⟩
  case round =>
    clear H'
    try clear c1
    obtain ⟨x5_1, x6_1, rfl, HA, HK1, HO_5, HB⟩ := hrel
    cases gk with
    | zero => exact absurd HA.out (by simp [rosetteref03_All.l0])
    | succ k1 =>
      have H := HA.out
      clear HA
      simp only [rosetteref03_All.l0] at H
      by_cases c2 : x6_1 < (l0.length : Int)
      · rw [if_pos c2] at H
        have c2b0 : decide (x6_1 < (l0.length : Int)) = true := decide_eq_true c2
        clear c2
        by_cases c3 : 0 ≤ x6_1
        · rw [if_pos c3] at H
          have c3b0 := eq_true c3
          have c3b1 : decide (0 ≤ x6_1) = true := decide_eq_true c3
          clear c3
          by_cases c4 : x6_1 ≤ (l0.length : Int)
          · rw [if_pos c4] at H
            have c4b0 := eq_true c4
            have c4b1 : decide (x6_1 ≤ (l0.length : Int)) = true := decide_eq_true c4
            clear c4
            replace H := Option.bind_eq_some_iff.mp H
            obtain ⟨⟨t164, t165, t166⟩, A50, H⟩ := H
            replace H : (if t166 = 0 then (if x5_1.length < 5864062014805 then (rosetteref03_All.l0 k1 l0 (x5_1 ++ [t164]) (wrap64 (x6_1 + t165))) else (none)) else (some (x5_1, x6_1, t166))) = some (r1, r2, r3) := H
            have A5 := Aside0.mk A50
            clear A50
            by_cases c6 : t166 = 0
            · rw [if_pos c6] at H
              have c6b0 : (t166 == 0) = true := beq_iff_eq.mpr c6
              have c6b1 : (t166 != 0) = false := bne_eq_false_iff_eq.mpr c6
              clear c6
              by_cases c7 : x5_1.length < 5864062014805
              · rw [if_pos c7] at H
                have LMc7 := Aside0.mk c7
                clear c7
                obtain ⟨y169, hy169⟩ : ∃ y_ : List (List Int), y_ = (x5_1 ++ [t164]) := ⟨_, rfl⟩
                replace H : (rosetteref03_All.l0 k1 l0 y169 (wrap64 (x6_1 + t165))) = some (r1, r2, r3) := by first | (rw [hy169]; with_reducible exact H) | (have H2_ := (Option.bind_some _ _).symm.trans H; rw [hy169]; with_reducible exact H2_) | (have H2_ := (Option.bind_some _ _).symm.trans H; with_reducible exact H2_) | with_reducible exact H | (rw [hy169]; exact H) | exact H
                have Ny169 := Aside0.mk hy169
                clear hy169
                have H' := Aside0.mk H
                clear H
                obtain ⟨i08, hi08, _, hsz8, _⟩ := info_parts info5
                obtain ⟨A8, hcut8, hA8, hC8⟩ := print_drop_of (P := Try.prog) (Value.int .u8) 0 22 5 .i64 Try.underlying22 hi08 hsz8 A0 c0 l0 x6_1 (of_decide_eq_true (by first | (with_reducible assumption) | assumption)) (of_decide_eq_true (by first | (with_reducible assumption) | assumption)) HC0.out
                have HR163 := Aside0.mk (Kd.C_of_reads (h1 := fun _ => rfl) (hA8 _ (Kd.reads_of_C HR0.out)))
                have HC163 := Aside0.mk hC8
                clear hA8 hC8 hi08 hsz8
                go_wp2_with (first | ((with_reducible refine gate_callee (f := 12) rfl ?_); refine goesL_ (some 18) rfl rfl Try.func12 (by kernel_rfl) rfl #[.slice A8 (l0.drop (x6_1 : Int).toNat).length (c0 - x6_1.toNat)] rfl (by (try simp only [List.map_toArray, List.map_cons, List.map_nil]); first | done | (rw [show (l0.drop (x6_1 : Int).toNat).length = (l0.length - x6_1.toNat) from List.length_drop] <;> rfl) | rfl | (simp only [List.length_drop, List.length_take]; rfl)) ?_; (with_reducible refine (rosetteref03_Next.calls k1 _ _ (l0.drop (x6_1 : Int).toNat) t164 t165 t166 _ ?side1 ?side2 A5.out).mono ?_); (case side1 => repeat (first | exact (Kd.C_below HR163.out HB.out) | (with_reducible refine Kd.C_alloc ?_ _) | (with_reducible refine Kd.C_drewN ?_ _) | (with_reducible refine Kd.C_drew ?_))); (case side2 => exact HC163.out); rintro e w9 ⟨v167, rfl, ho0, hb⟩; refine ⟨_, rfl, ?_⟩; have n0_ := Aside0.mk (Kd.S_elder' (by (with_reducible repeat (first | apply Kd.S_alloc | apply Kd.S_drewN | apply Kd.S_drew)); exact HO_5.out) (Kd.R_base ho0) hb); have n1_ := Aside0.mk (Kd.R_lower ho0 (below_size (by repeat (first | (with_reducible first | exact HB.out | apply below_alloc | apply pw_below_drewN | apply below_drew1) | exact HB.out)))); have n2_ := Aside0.mk (below_step (by repeat (first | (with_reducible first | exact HB.out | apply below_alloc | apply pw_below_drewN | apply below_drew1) | exact HB.out)) hb); clear HO_5; clear HB; have HO_5 := n0_; have HO168 := n1_; have HB := n2_; clear n0_ n1_ n2_; (try clear hb); (try clear hb2); (try clear hk); (try clear hi); (try clear ho0); obtain ⟨Ao11, co11, eo11⟩ := Kd.R_slice HO168.out; subst eo11) | ((with_reducible refine gate_builtin (b := .append) (xs := #[.tmp 27, .tmp 29]) rfl ?_); at_builtin; refine Kd.S_append (Kd.slice 5 (Kd.int .u8)) (w0 := w) w.heap.size rfl (.tmp 27) (.tmp 29) 29 22 (.slice none 0 0) 24 rfl Try.underlying29 info22 rfl (by decide) (by decide) u5 x5_1 t164 [.slice Ao11 t164.length co11] (fun _ => True) (fun k_ => some k_ = (.slice Ao11 t164.length co11 : Value).ownBlock) rfl rfl ?aP (fun k_ hk_ => ((Kd.R_mono (ok' := fun k_ => ((fun _ => True)) k_ ∧ some k_ ≠ (u5 : Value).ownBlock) (Kd.R_apart' (HO168.out) (Kd.S_typed HO_5.out) (by decide)) (fun k_ hk => ⟨trivial, hk.2⟩))).1 k_ hk_.symm) ?aF ?aO ?aB ?aS ?aL ?_; (case aP => exact Kd.M_row (Kd.R_mono (Kd.R_tight rfl (Kd.R_mono (ok' := fun k_ => ((fun _ => True)) k_ ∧ some k_ ≠ (u5 : Value).ownBlock) (Kd.R_apart' (HO168.out) (Kd.S_typed HO_5.out) (by decide)) (fun k_ hk => ⟨trivial, hk.2⟩))) (fun _ h_ => h_))); (case aB => exact (by repeat (first | (with_reducible first | exact HB.out | apply below_alloc | apply pw_below_drewN | apply below_drew1) | exact HB.out))); (case aF => exact (fun _ _ => trivial)); (case aO => exact (by (with_reducible repeat (first | apply Kd.S_alloc | apply Kd.S_drewN | apply Kd.S_drew)); exact Kd.S_mono HO_5.out (fun k_ hk => ⟨trivial, fun e_ => hk.2 e_⟩))); (case aS => exact (below_size (by repeat (first | (with_reducible first | exact HB.out | apply below_alloc | apply pw_below_drewN | apply below_drew1) | exact HB.out)))); (case aL => have := LMc7.out; omega); intro v170 w10 ho hb hg hat; rw [← Ny169.out] at ho; have n0_ := Aside0.mk (hb); have n1_ := Aside0.mk (ho); clear HB; clear HO_5; clear HO168; have HB := n0_; have HO171 := n1_; clear n0_ n1_; clear ho hb hg hat))
                go_roundg k1
                case measure => have := HK1.out; omega
                case rel => exact ⟨(y169), (wrap64 (x6_1 + t165)), (by first | rfl | (simp; done) | (simp [*]; done)), H', ⟨by have := HK1.out; omega⟩, ⟨by (with_reducible repeat (first | apply Kd.S_alloc | apply Kd.S_drewN | apply Kd.S_drew)); exact HO171.out⟩, ⟨by repeat (first | (with_reducible first | exact HB.out | apply below_alloc | apply pw_below_drewN | apply below_drew1) | exact HB.out)⟩⟩
              · rw [if_neg c7] at H
                exact absurd H (by simp)
            · rw [if_neg c6] at H
              have c6b0 : (t166 == 0) = false := beq_eq_false_iff_ne.mpr c6
              have c6b1 : (t166 != 0) = true := bne_iff_ne.mpr c6
              simp only [Option.some.injEq, Prod.mk.injEq] at H
              obtain ⟨rfl, rfl, rfl⟩ := H
              obtain ⟨i012, hi012, _, hsz12, _⟩ := info_parts info5
              obtain ⟨A12, hcut12, hA12, hC12⟩ := print_drop_of (P := Try.prog) (Value.int .u8) 0 22 5 .i64 Try.underlying22 hi012 hsz12 A0 c0 l0 x6_1 (of_decide_eq_true (by first | (with_reducible assumption) | assumption)) (of_decide_eq_true (by first | (with_reducible assumption) | assumption)) HC0.out
              have HR163 := Aside0.mk (Kd.C_of_reads (h1 := fun _ => rfl) (hA12 _ (Kd.reads_of_C HR0.out)))
              have HC163 := Aside0.mk hC12
              clear hA12 hC12 hi012 hsz12
              go_wp2_with (first | ((with_reducible refine gate_callee (f := 12) rfl ?_); refine goesL_ (some 18) rfl rfl Try.func12 (by kernel_rfl) rfl #[.slice A12 (l0.drop (x6_1 : Int).toNat).length (c0 - x6_1.toNat)] rfl (by (try simp only [List.map_toArray, List.map_cons, List.map_nil]); first | done | (rw [show (l0.drop (x6_1 : Int).toNat).length = (l0.length - x6_1.toNat) from List.length_drop] <;> rfl) | rfl | (simp only [List.length_drop, List.length_take]; rfl)) ?_; (with_reducible refine (rosetteref03_Next.calls k1 _ _ (l0.drop (x6_1 : Int).toNat) t164 t165 t166 _ ?side1 ?side2 A5.out).mono ?_); (case side1 => repeat (first | exact (Kd.C_below HR163.out HB.out) | (with_reducible refine Kd.C_alloc ?_ _) | (with_reducible refine Kd.C_drewN ?_ _) | (with_reducible refine Kd.C_drew ?_))); (case side2 => exact HC163.out); rintro e w13 ⟨v167, rfl, ho0, hb⟩; refine ⟨_, rfl, ?_⟩; have n0_ := Aside0.mk (Kd.S_elder' (by (with_reducible repeat (first | apply Kd.S_alloc | apply Kd.S_drewN | apply Kd.S_drew)); exact HO_5.out) (Kd.R_base ho0) hb); have n1_ := Aside0.mk (Kd.R_lower ho0 (below_size (by repeat (first | (with_reducible first | exact HB.out | apply below_alloc | apply pw_below_drewN | apply below_drew1) | exact HB.out)))); have n2_ := Aside0.mk (below_step (by repeat (first | (with_reducible first | exact HB.out | apply below_alloc | apply pw_below_drewN | apply below_drew1) | exact HB.out)) hb); clear HO_5; clear HB; have HO_5 := n0_; have HO168 := n1_; have HB := n2_; clear n0_ n1_ n2_; (try clear hb); (try clear hb2); (try clear hk); (try clear hi); (try clear ho0)))
              go_ret3
              exact ⟨_, by first | rfl | (simp [errW_none, errW_some] <;> rfl) | (simp [*, errW_none, errW_some] <;> rfl), by (with_reducible repeat (first | apply Kd.S_alloc | apply Kd.S_drewN | apply Kd.S_drew)); exact Kd.S_mono HO_5.out (fun _ hk => trivial), by repeat (first | (with_reducible first | exact HB.out | apply below_alloc | apply pw_below_drewN | apply below_drew1) | exact HB.out)⟩
          · rw [if_neg c4] at H
            exact absurd H (by simp)
        · rw [if_neg c3] at H
          exact absurd H (by simp)
      · rw [if_neg c2] at H
        have c2b0 : decide (x6_1 < (l0.length : Int)) = false := decide_eq_false c2
        clear c2
        simp only [Option.some.injEq, Prod.mk.injEq] at H
        obtain ⟨rfl, rfl, rfl⟩ := H
        go_wp2
        go_ret3
        exact ⟨_, by first | rfl | (simp [errW_none, errW_some] <;> rfl) | (simp [*, errW_none, errW_some] <;> rfl), by (with_reducible repeat (first | apply Kd.S_alloc | apply Kd.S_drewN | apply Kd.S_drew)); exact HO_5.out, by repeat (first | (with_reducible first | exact HB.out | apply below_alloc | apply pw_below_drewN | apply below_drew1) | exact HB.out)⟩

end Go.Proofs.Ytckjmbpagippkaa.G
end

section
/- frames by the document are the program's frames: pure laws -/
set_option linter.unusedVariables false
set_option linter.unusedSimpArgs false
set_option autoImplicit false
namespace Go.Proofs.Ytckjmbpagippkaa.Pure
open Go.RowKit Go.Proofs.Ytckjmbpagippkaa Go.Proofs.Ytckjmbpagippkaa.G Go.Proofs.YtckjmbpagippkaaW.PrintWords Go.Proofs.YtckjmbpagippkaaW.PrintLast

theorem refmake_some {l : List Int} (hu : u8s l) (hl : l.length ≤ 8192) (k : Nat) (hk : l.length + 12 ≤ k) : rosetteref03_Make.f k l = some (frz l, 0) := by
  unfold rosetteref03_Make.f
  have hw : wrap64 ((l.length : Int) / 256) = (l.length : Int) / 256 := wrap_small _ (by omega) (by omega)
  have hz : ([(l.length : Int) % 256, (wrap64 ((l.length : Int) / 256)) % 256] : List Int) = zof (head_ l.length) := by
    rw [hw]
    simp only [zof, head_, List.map_cons, List.map_nil, List.cons.injEq, and_true]
    constructor <;> omega
  have hhb := head_bytes l.length (by omega)
  rw [if_neg (by omega), hz, refseal_some (u8s_zof hhb) (by simp [zof, head_]) k (by simp [zof, head_]; omega)]
  simp only [Option.bind_some]
  rw [refseal_some hu (by omega) k (by omega)]
  simp only [Option.bind_some]
  rw [if_pos (by simp only [zof_length, CrcM.sealB_length, nats_length, show (head_ l.length).length = 2 from rfl]; omega)]
  unfold frz CrcM.fr
  rw [zof_append, nats_zof, nats_length]
  rfl
theorem refmake_big {l : List Int} (hl : 8192 < l.length) (k : Nat) : rosetteref03_Make.f k l = some ([], 4) := by
  unfold rosetteref03_Make.f
  rw [if_pos (by omega)]
theorem refnext_eq {l : List Int} (hu : u8s l) (hl : l.length ≤ 1000000) (k : Nat) (hk : l.length + 12 ≤ k) : rosetteref03_Next.f k l = frame_Next.f l := by
  have h : ∀ x : List Int, u8s x → x.length ≤ l.length → rosetteref01_Open.f k x = crc_Open.f x := fun x hx hxl => by
    rw [open_some' hx (by omega), refopen_some hx (by omega) k (by omega)]
  unfold rosetteref03_Next.f frame_Next.f
  rw [h _ (u8s_take hu 6) (by simp; omega)]
  congr 1
  congr 1
  funext p
  rw [h _ (u8s_drop (u8s_take hu _) 6) (by simp; omega)]
theorem all_both {l : List Int} (hu : u8s l) (hl : l.length ≤ 1000000) : ∀ (d at_ : Nat) (acc : List (List Int)), l.length - at_ ≤ d → acc.length ≤ at_ → at_ ≤ l.length →
    ∃ r : List (List Int) × Int × Int, (∀ k, d < k → frame_All.l0 k l acc at_ (at_ : Int) = some r) ∧ ∀ k, d + l.length + 12 < k → rosetteref03_All.l0 k l acc (at_ : Int) = some r := by
  intro d
  induction d with
  | zero =>
    intro at_ acc h1 h2 h3
    refine ⟨(acc, (at_ : Int), 0), fun k hk => ?_, fun k hk => ?_⟩
    · obtain ⟨k, rfl⟩ : ∃ m, k = m + 1 := ⟨k - 1, by omega⟩
      simp only [frame_All.l0]
      rw [if_pos (by omega)]
    · obtain ⟨k, rfl⟩ : ∃ m, k = m + 1 := ⟨k - 1, by omega⟩
      simp only [rosetteref03_All.l0]
      rw [if_neg (by omega)]
  | succ d ih =>
    intro at_ acc h1 h2 h3
    by_cases hlt : at_ < l.length
    · obtain ⟨x, n, er, hn, hpos⟩ := next_from l hu hl at_
      by_cases he : er = 0
      · obtain ⟨p1, p2⟩ := hpos he
        obtain ⟨r, q1, q2⟩ := ih (at_ + n.toNat) (acc ++ [x]) (by omega) (by rw [List.length_append, List.length_singleton]; omega) (by omega)
        have hat : ((at_ + n.toNat : Nat) : Int) = (at_ : Int) + n := by omega
        rw [hat] at q1 q2
        refine ⟨r, fun k hk => ?_, fun k hk => ?_⟩
        · obtain ⟨k, rfl⟩ : ∃ m, k = m + 1 := ⟨k - 1, by omega⟩
          simp only [frame_All.l0]
          rw [if_neg (by omega), hn]
          simp only [Option.bind_some]
          rw [if_pos he]
          exact q1 k (by omega)
        · obtain ⟨k, rfl⟩ : ∃ m, k = m + 1 := ⟨k - 1, by omega⟩
          simp only [rosetteref03_All.l0]
          rw [if_pos (by omega), if_pos (by omega), if_pos (by omega), Int.toNat_natCast, refnext_eq (u8s_drop hu _) (by simp; omega) k (by simp; omega), hn]
          simp only [Option.bind_some]
          rw [if_pos he, if_pos (by omega), wrap_small _ (by omega) (by omega)]
          exact q2 k (by omega)
      · refine ⟨(acc, (at_ : Int), er), fun k hk => ?_, fun k hk => ?_⟩
        · obtain ⟨k, rfl⟩ : ∃ m, k = m + 1 := ⟨k - 1, by omega⟩
          simp only [frame_All.l0]
          rw [if_neg (by omega), hn]
          simp only [Option.bind_some]
          rw [if_neg he]
        · obtain ⟨k, rfl⟩ : ∃ m, k = m + 1 := ⟨k - 1, by omega⟩
          simp only [rosetteref03_All.l0]
          rw [if_pos (by omega), if_pos (by omega), if_pos (by omega), Int.toNat_natCast, refnext_eq (u8s_drop hu _) (by simp; omega) k (by simp; omega), hn]
          simp only [Option.bind_some]
          rw [if_neg he]
    · refine ⟨(acc, (at_ : Int), 0), fun k hk => ?_, fun k hk => ?_⟩
      · obtain ⟨k, rfl⟩ : ∃ m, k = m + 1 := ⟨k - 1, by omega⟩
        simp only [frame_All.l0]
        rw [if_pos (by omega)]
      · obtain ⟨k, rfl⟩ : ∃ m, k = m + 1 := ⟨k - 1, by omega⟩
        simp only [rosetteref03_All.l0]
        rw [if_neg (by omega)]
theorem all_len {l : List Int} : ∀ (k : Nat) (acc : List (List Int)) (at_ : Nat) (e : Int) (r : List (List Int) × Int × Int), frame_All.l0 k l acc at_ e = some r → r.1.length ≤ acc.length + k := by
  intro k
  induction k with
  | zero => intro acc at_ e r h; simp [frame_All.l0] at h
  | succ k ih =>
    intro acc at_ e r h
    simp only [frame_All.l0] at h
    split at h
    · cases h; simp
    · obtain ⟨q, _, h⟩ := Option.bind_eq_some_iff.mp h
      split at h
      · have := ih _ _ _ _ h
        rw [List.length_append, List.length_singleton] at this
        omega
      · cases h; simp
theorem same_go (L : List (List Int)) (hl : L.length ≤ 9223372036854775806) : ∀ (d k i : Nat), i + d = L.length → d < k → rosetteref03_Same.l0 k L L (i : Int) = some true := by
  intro d
  induction d with
  | zero =>
    intro k i h1 h2
    obtain ⟨k, rfl⟩ : ∃ m, k = m + 1 := ⟨k - 1, by omega⟩
    simp only [rosetteref03_Same.l0]
    rw [if_neg (by omega)]
  | succ d ih =>
    intro k i h1 h2
    obtain ⟨k, rfl⟩ : ∃ m, k = m + 1 := ⟨k - 1, by omega⟩
    simp only [rosetteref03_Same.l0]
    rw [if_pos (by omega), if_pos (by omega), if_pos (by omega), if_pos trivial, wrap_small _ (by omega) (by omega), show (i : Int) + 1 = ((i + 1 : Nat) : Int) by omega]
    exact ih k (i + 1) (by omega) (by omega)
theorem same_refl (L : List (List Int)) (hl : L.length ≤ 9223372036854775806) (k : Nat) (hk : L.length < k) : rosetteref03_Same.f k L L = some true := by
  unfold rosetteref03_Same.f
  rw [if_pos rfl]
  exact same_go L hl L.length k 0 (by omega) hk
end Go.Proofs.Ytckjmbpagippkaa.Pure
end

section
/- frames one behind the other: what is found in all; rows of rows by their headers -/
set_option linter.unusedVariables false
set_option linter.unusedSimpArgs false
set_option autoImplicit false
namespace Go.Proofs.Ytckjmbpagippkaa
open Go.RowKit Go.Proofs.YtckjmbpagippkaaW.PrintWords Go.Proofs.YtckjmbpagippkaaW.PrintLast Go.Proofs.YtckjmbpagippkaaW.PrintMore Go.Proofs.Ytckjmbpagippkaa.G Go.Proofs.Ytckjmbpagippkaa.Pure

/-- a slice's header -/
structure Hd where
  a : Option Addr
  n : Nat
  c : Nat
def Hd.v (h : Hd) : Value := .slice h.a h.n h.c
def hd0 : Hd := ⟨none, 0, 0⟩
def frs (L : List (List Int)) : List Int := L.flatMap frz
theorem frs_snoc (L : List (List Int)) (x : List Int) : frs (L ++ [x]) = frs L ++ frz x := by simp [frs]
theorem frs_cons (L : List (List Int)) (x : List Int) : frs (x :: L) = frz x ++ frs L := rfl
theorem frs_u8s {L : List (List Int)} (h : ∀ x ∈ L, u8s x ∧ x.length ≤ 300) : u8s (frs L) := by
  induction L with
  | nil => intro x hx; cases hx
  | cons x L ih =>
    rw [frs_cons]
    exact u8s_append.2 ⟨frz_u8s (h x List.mem_cons_self).1 (by have := (h x List.mem_cons_self).2; omega), ih fun y hy => h y (List.mem_cons_of_mem _ hy)⟩
theorem frs_length {L : List (List Int)} (h : ∀ x ∈ L, x.length ≤ 300) : (frs L).length ≤ 310 * L.length := by
  induction L with
  | nil => simp [frs]
  | cons x L ih =>
    rw [frs_cons, List.length_append, frz_length, List.length_cons]
    have := h x List.mem_cons_self
    have := ih fun y hy => h y (List.mem_cons_of_mem _ hy)
    omega
theorem all_shift (A M : List Int) : ∀ (k : Nat) (accM acc : List (List Int)) (at_ : Nat) (e : Int) (r : List (List Int) × Int × Int), frame_All.l0 k M accM at_ e = some r →
    frame_All.l0 k (A ++ M) (acc ++ accM) (A.length + at_) ((A.length : Int) + e) = some (acc ++ r.1, (A.length : Int) + r.2.1, r.2.2) := by
  intro k
  induction k with
  | zero => intro accM acc at_ e r h; simp [frame_All.l0] at h
  | succ k ih =>
    intro accM acc at_ e r h
    simp only [frame_All.l0] at h ⊢
    have hd : (A ++ M).drop (A.length + at_) = M.drop at_ := by rw [List.drop_append, List.drop_of_length_le (by omega), List.nil_append]; congr 1; omega
    by_cases hl : M.length ≤ at_
    · rw [if_pos hl] at h
      rw [if_pos (by rw [List.length_append]; omega)]
      cases h
      rfl
    · rw [if_neg hl] at h
      rw [if_neg (by rw [List.length_append]; omega), hd]
      obtain ⟨q, h1, h⟩ := Option.bind_eq_some_iff.mp h
      rw [h1]
      simp only [Option.bind_some]
      by_cases h0 : q.2.2 = 0
      · rw [if_pos h0] at h ⊢
        have := ih (accM ++ [q.1]) acc _ _ _ h
        rw [List.append_assoc]
        rw [← this]
        congr 1 <;> omega
      · rw [if_neg h0] at h ⊢
        cases h
        rfl
theorem all_prefix (M : List Int) : ∀ (L : List (List Int)) (P : List Int) (k : Nat) (acc : List (List Int)), (∀ x ∈ L, u8s x ∧ x.length ≤ 300) →
    frame_All.l0 (k + L.length) (P ++ (frs L ++ M)) acc P.length (P.length : Int) = frame_All.l0 k (P ++ (frs L ++ M)) (acc ++ L) (P ++ frs L).length ((P ++ frs L).length : Int) := by
  intro L
  induction L with
  | nil => intro P k acc h; simp [frs]
  | cons x L ih =>
    intro P k acc h
    obtain ⟨hu, hl⟩ := h x List.mem_cons_self
    have hf : frame_Next.f ((P ++ (frs (x :: L) ++ M)).drop P.length) = some (x, ((x.length + 10 : Nat) : Int), 0) := by
      rw [List.drop_left, frs_cons, List.append_assoc]
      exact next_frame hu (by omega) _
    have hfl := frz_length x
    rw [List.length_cons, ← Nat.add_assoc, frame_All.l0, if_neg (by rw [frs_cons]; simp only [List.length_append]; omega), hf]
    simp only [Option.bind_some]
    rw [if_pos trivial]
    have := ih (P ++ frz x) k (acc ++ [x]) (fun y hy => h y (List.mem_cons_of_mem _ hy))
    have e1 : P ++ frz x ++ (frs L ++ M) = P ++ (frs (x :: L) ++ M) := by rw [frs_cons]; simp only [List.append_assoc]
    have e2 : (P ++ frz x).length = P.length + ((x.length + 10 : Nat) : Int).toNat := by rw [List.length_append, hfl]; omega
    have e3 : ((P ++ frz x).length : Int) = (P.length : Int) + ((x.length + 10 : Nat) : Int) := by rw [List.length_append, hfl]; omega
    have e4 : P ++ frz x ++ frs L = P ++ frs (x :: L) := by rw [frs_cons]; simp only [List.append_assoc]
    rw [e1, e4, e2] at this
    have e5 : (P.length : Int) + ((x.length + 10 : Nat) : Int) = ((P.length + ((x.length + 10 : Nat) : Int).toNat : Nat) : Int) := by omega
    rw [e5, this, List.append_assoc]
    rfl
theorem all_end {l : List Int} (hu : u8s l) (hl : l.length ≤ 1000000) : ∀ (k : Nat) (acc : List (List Int)) (at_ : Nat) (e : Int) (r : List (List Int) × Int × Int), 0 ≤ e → e ≤ l.length → frame_All.l0 k l acc at_ e = some r → 0 ≤ r.2.1 ∧ r.2.1 ≤ l.length := by
  intro k
  induction k with
  | zero => intro acc at_ e r _ _ h; simp [frame_All.l0] at h
  | succ k ih =>
    intro acc at_ e r h1 h2 h
    simp only [frame_All.l0] at h
    obtain ⟨x, n, er, hn, hpos⟩ := next_from l hu hl at_
    split at h
    · cases h; exact ⟨h1, h2⟩
    · rw [hn] at h
      simp only [Option.bind_some] at h
      split at h
      · rename_i h0
        have := hpos h0
        exact ih _ _ _ _ (by omega) (by omega) h
      · cases h; exact ⟨h1, h2⟩
theorem heads_append {W : World} {xs ys : List (List Int)} {hs gs : List Hd} (hl : hs.length = xs.length)
    (h : ∀ i, i < xs.length → (hs.getD i hd0).n = (xs.getD i []).length ∧ (xs.getD i []).length ≤ (hs.getD i hd0).c ∧ (Kd.int .u8).C W (hs.getD i hd0).a (xs.getD i []).length (xs.getD i []))
    (g : ∀ i, i < ys.length → (gs.getD i hd0).n = (ys.getD i []).length ∧ (ys.getD i []).length ≤ (gs.getD i hd0).c ∧ (Kd.int .u8).C W (gs.getD i hd0).a (ys.getD i []).length (ys.getD i [])) :
    ∀ i, i < (xs ++ ys).length → ((hs ++ gs).getD i hd0).n = ((xs ++ ys).getD i []).length ∧ ((xs ++ ys).getD i []).length ≤ ((hs ++ gs).getD i hd0).c ∧ (Kd.int .u8).C W ((hs ++ gs).getD i hd0).a ((xs ++ ys).getD i []).length ((xs ++ ys).getD i []) := by
  intro i hi
  by_cases h0 : i < xs.length
  · have e1 : (hs ++ gs).getD i hd0 = hs.getD i hd0 := by simp [List.getD_eq_getElem?_getD, List.getElem?_append_left (show i < hs.length by omega)]
    have e2 : (xs ++ ys).getD i [] = xs.getD i [] := by simp [List.getD_eq_getElem?_getD, List.getElem?_append_left h0]
    rw [e1, e2]
    exact h i h0
  · have e1 : (hs ++ gs).getD i hd0 = gs.getD (i - xs.length) hd0 := by simp [List.getD_eq_getElem?_getD, List.getElem?_append_right (show hs.length ≤ i by omega), hl]
    have e2 : (xs ++ ys).getD i [] = ys.getD (i - xs.length) [] := by simp [List.getD_eq_getElem?_getD, List.getElem?_append_right (show xs.length ≤ i by omega)]
    rw [e1, e2]
    exact g _ (by rw [List.length_append] at hi; omega)
theorem all_s (k : Nat) (A : Option Addr) (n c : Nat) (l : List Int) (r1 : List (List Int)) (r2 r3 : Int) (w : World) (hn : n = l.length) (hr : Kd.C (Kd.int .u8) w A l.length l) (hc : l.length ≤ c) (h : frame_All.f k l = some (r1, r2, r3)) :
    Calls Try.prog 13 #[.slice A n c] w fun e w' => ∃ (B : Option Addr) (d : Nat), e = .returned (.tuple #[.slice B r1.length d, .int .i64 r2, .int .i64 r3]) ∧ r1.length ≤ d ∧ Kd.C (Kd.slice 5 (Kd.int .u8)) w' B r1.length r1 ∧ Below w.heap.size w w' := by
  subst hn
  refine (frame_All.calls k A c l r1 r2 r3 w hr hc h).mono ?_
  rintro e w' ⟨v, rfl, hS, hB⟩
  obtain ⟨B, d, rfl, h1, h2⟩ := Kd.R_reads (Kd.S_R hS)
  exact ⟨B, d, rfl, h1, h2, hB⟩
theorem same_s (k : Nat) (A : Option Addr) (n c : Nat) (B : Option Addr) (m d : Nat) (l : List (List Int)) (w : World) (hn : n = l.length) (hm : m = l.length) (hA : Kd.C (Kd.slice 5 (Kd.int .u8)) w A l.length l) (hc : l.length ≤ c) (hB : Kd.C (Kd.slice 5 (Kd.int .u8)) w B l.length l) (hd : l.length ≤ d) (h : rosetteref03_Same.f k l l = some true) :
    Calls Try.prog 15 #[.slice A n c, .slice B m d] w fun e w' => e = .returned (.bool true) ∧ Below w.heap.size w w' := by
  subst hn; subst hm
  refine (rosetteref03_Same.calls k A c l B d l true w hA hc hB hd h).mono ?_
  rintro e w' ⟨rfl, hD⟩
  exact ⟨rfl, hD.below⟩
theorem all_back {L : List (List Int)} (hL : ∀ x ∈ L, u8s x ∧ x.length ≤ 300) (hn : L.length ≤ 20) {M : List Int} (hM : u8s M) (hm : M.length ≤ 300) :
    ∃ r : List (List Int) × Int × Int, frame_All.f 1000 M = some r ∧ frame_All.f 1000 (frs L ++ M) = some (L ++ r.1, ((frs L).length : Int) + r.2.1, r.2.2) ∧ r.1.length ≤ 1000 ∧ 0 ≤ r.2.1 ∧ r.2.1 ≤ M.length := by
  obtain ⟨r, h1, _⟩ := all_both hM (by omega) M.length 0 [] (by omega) (by simp) (by omega)
  have hlen := frs_length (L := L) (fun x hx => (hL x hx).2)
  refine ⟨r, ?_, ?_, ?_, all_end hM (by omega) 1000 [] 0 0 r (by omega) (by omega) (h1 1000 (by omega))⟩
  · unfold frame_All.f
    rw [if_pos ⟨by omega, hM⟩]
    exact h1 1000 (by omega)
  · unfold frame_All.f
    rw [if_pos ⟨by rw [List.length_append]; omega, u8s_append.2 ⟨frs_u8s hL, hM⟩⟩]
    have h2 := all_prefix M L [] (1000 - L.length) [] hL
    rw [show 1000 - L.length + L.length = 1000 by omega] at h2
    simp only [List.nil_append, List.length_nil] at h2
    have h3 := all_shift (frs L) M (1000 - L.length) [] L 0 0 r (h1 _ (by omega))
    simp only [List.append_nil, Nat.add_zero, Int.add_zero] at h3
    rw [h3] at h2
    exact h2
  · have := all_len _ _ _ _ _ (h1 1000 (by omega))
    simpa using this
theorem heads {e : Nat} {W : World} {A : Option Addr} {n : Nat} {xs : List (List Int)} (h : Kd.C (Kd.slice e (Kd.int .u8)) W A n xs) :
    ∃ hs : List Hd, ReadsOf Hd.v hd0 W A n hs ∧ hs.length = xs.length ∧ ∀ i, i < xs.length → (hs.getD i hd0).n = (xs.getD i []).length ∧ (xs.getD i []).length ≤ (hs.getD i hd0).c ∧ (Kd.int .u8).C W (hs.getD i hd0).a (xs.getD i []).length (xs.getD i []) := by
  obtain ⟨h1, h2, h3⟩ := h
  rcases Nat.eq_zero_or_pos n with h0 | h0
  · have : xs = [] := List.eq_nil_of_length_eq_zero (by omega)
    subst this
    exact ⟨[], ⟨by simp [h0], h2, fun h => by omega⟩, rfl, fun i hi => by simp at hi⟩
  · obtain ⟨ad, rfl, hc⟩ := h3 h0
    have each : ∀ i, i < n → ∃ q : Hd, W.cell? (ad.add i) = some q.v ∧ q.n = (xs.getD i []).length ∧ (xs.getD i []).length ≤ q.c ∧ (Kd.int .u8).C W q.a (xs.getD i []).length (xs.getD i []) := by
      intro i hi
      have hi' : i < xs.length := by omega
      obtain ⟨c, e1, ⟨A', c', rfl, e3, e4⟩, e5⟩ := hc i xs[i] (List.getElem?_eq_getElem hi')
      have e6 := e5 0 _ rfl
      have hg : xs.getD i [] = xs[i] := by simp [List.getD_eq_getElem?_getD, hi']
      refine ⟨⟨A', xs[i].length, c'⟩, ?_, by rw [hg], by rw [hg]; exact e3, by rw [hg]; exact e4⟩
      have e7 : (Kd.slice e (Kd.int .u8)).sz = 1 := rfl
      rw [e7, Nat.mul_one, Nat.add_zero] at e6
      exact e6
    have build : ∀ m, m ≤ n → ∃ hs : List Hd, hs.length = m ∧ ∀ i, i < m → W.cell? (ad.add i) = some (hs.getD i hd0).v ∧ (hs.getD i hd0).n = (xs.getD i []).length ∧ (xs.getD i []).length ≤ (hs.getD i hd0).c ∧ (Kd.int .u8).C W (hs.getD i hd0).a (xs.getD i []).length (xs.getD i []) := by
      intro m
      induction m with
      | zero => intro _; exact ⟨[], rfl, fun i hi => by omega⟩
      | succ m ih =>
        intro hm
        obtain ⟨hs, e1, e2⟩ := ih (by omega)
        obtain ⟨q, e3⟩ := each m (by omega)
        refine ⟨hs ++ [q], by simp [e1], fun i hi => ?_⟩
        by_cases him : i < m
        · have : (hs ++ [q]).getD i hd0 = hs.getD i hd0 := by simp [List.getD_eq_getElem?_getD, List.getElem?_append_left (show i < hs.length by omega)]
          rw [this]
          exact e2 i him
        · obtain rfl : i = m := by omega
          have : (hs ++ [q]).getD i hd0 = q := by simp [List.getD_eq_getElem?_getD, List.getElem?_append_right (show hs.length ≤ i by omega), e1]
          rw [this]
          exact e3
    obtain ⟨hs, e1, e2⟩ := build n (Nat.le_refl _)
    exact ⟨hs, ⟨e1, h2, fun _ => ⟨ad, rfl, fun j hj => (e2 j hj).1⟩⟩, by omega, fun i hi => (e2 i (by omega)).2⟩
theorem of_heads {e : Nat} {W : World} {A : Option Addr} {n : Nat} {hs : List Hd} {xs : List (List Int)} (h : ReadsOf Hd.v hd0 W A n hs) (hl : xs.length = n)
    (he : ∀ i, i < xs.length → (hs.getD i hd0).n = (xs.getD i []).length ∧ (xs.getD i []).length ≤ (hs.getD i hd0).c ∧ (Kd.int .u8).C W (hs.getD i hd0).a (xs.getD i []).length (xs.getD i [])) :
    Kd.C (Kd.slice e (Kd.int .u8)) W A n xs := by
  obtain ⟨h1, h2, h3⟩ := h
  refine ⟨hl, h2, fun h0 => ?_⟩
  obtain ⟨ad, rfl, hc⟩ := h3 h0
  refine ⟨ad, rfl, fun j p hj => ?_⟩
  have hj' : j < xs.length := (List.getElem?_eq_some_iff.1 hj).1
  have hp : xs.getD j [] = p := by simp [List.getD_eq_getElem?_getD, hj]
  obtain ⟨e1, e2, e3⟩ := he j hj'
  rw [hp] at e1 e2 e3
  refine ⟨[(hs.getD j hd0).v], rfl, ⟨_, _, by rw [Hd.v, e1], e2, e3⟩, fun i u hu => ?_⟩
  have e7 : (Kd.slice e (Kd.int .u8)).sz = 1 := rfl
  cases i with
  | zero =>
    simp only [List.getElem?_cons_zero, Option.some.injEq] at hu
    rw [e7, Nat.mul_one, Nat.add_zero, ← hu]
    exact hc j (by omega)
  | succ i => simp at hu
end Go.Proofs.Ytckjmbpagippkaa
end

section
set_option linter.unusedVariables false
set_option linter.unusedSimpArgs false
set_option autoImplicit false
namespace Go.Proofs.Ytckjmbpagippkaa
open Go.RowKit Go.Proofs.YtckjmbpagippkaaW.PrintWords Go.Proofs.YtckjmbpagippkaaW.PrintLast Go.Proofs.YtckjmbpagippkaaW.PrintMore

/-- append(v, ys...), whole numbers, v of the call's own: what the builtin does -/
theorem run_append_ints {P : Program} {W : World} (base : Nat) (t rt e : TypeId) (k : IntKind) (bytes : Nat)
    (ht : P.underlying t = some (.slice e)) (hinfo : (P.info? e).map (fun i => (i.zero, i.size, i.bytes)) = some (some (.int k 0), 1, bytes)) (hb0 : 0 < bytes)
    (v : Value) (xs ys : List Int) (A : Option Addr) (m c : Nat) (HO : W.ownsRow base e 1 v xs.length (nums k xs)) (HR : ReadsInt W k A m ys) (hbase : base ≤ W.heap.size) (hl : (xs.length + m) * bytes ≤ 140737488355328) :
    ∃ v1 w1, (Builtin.append_ #[t, t] rt #[v, .slice A m c]).run P W = .ok v1 w1 ∧ w1.ownsRow base e 1 v1 (xs ++ ys).length (nums k (xs ++ ys)) ∧ W.grownBy w1 v.ownBlock ∧ (v1.ownBlock = v.ownBlock ∨ v1.ownBlock = some W.heap.size) := by
  obtain ⟨i0, hi, hzz⟩ := Option.map_eq_some_iff.1 hinfo
  simp only [Prod.mk.injEq] at hzz
  obtain ⟨hz0, hz1, hz2⟩ := hzz
  have hm : ys.length = m := HR.1
  have hlen : xs.length + m ≤ 140737488355328 := Nat.le_trans (Nat.le_mul_of_pos_right _ hb0) hl
  rcases A with _ | ad
  · have h0 : m = 0 := by
      rcases Nat.eq_zero_or_pos m with h0 | h0
      · exact h0
      · obtain ⟨ad, h, _⟩ := HR.2.2 h0
        cases h
    subst h0
    obtain rfl : ys = [] := List.eq_nil_of_length_eq_zero hm
    refine ⟨v, W, ?_, by simpa using HO, World.grownBy.refl W _, .inl rfl⟩
    rcases HO.2 with ⟨rfl, hn⟩ | ⟨g, cap, cur, rfl, _, _, hnc, _⟩
    · simp [Builtin.append_, run_underlying ht, sizeOf, typeInfo, hi, Builtin.lenOf, Builtin.firstCells]
    · simp [Builtin.append_, run_underlying ht, sizeOf, typeInfo, hi, Builtin.lenOf, Builtin.firstCells, hnc, storeCells]
  · have hcells : ∀ j u, (nums k ys)[j]? = some u → W.cell? (ad.add j) = some u := by
      intro j u hu
      have hj : j < ys.length := by
        rcases Nat.lt_or_ge j ys.length with h | h
        · exact h
        · simp [nums, List.getElem?_eq_none h] at hu
      obtain ⟨ad', h', hc⟩ := HR.2.2 (by omega)
      injection h' with h'
      subst h'
      have := hc j (by omega)
      simp [nums, List.getElem?_eq_getElem hj] at hu
      subst hu
      rw [this]
      simp [List.getD_eq_getElem?_getD, List.getElem?_eq_getElem hj]
    obtain ⟨v1, w1, hr, h2, h3, _, h5⟩ := run_append_own_at (P := P) W base t rt e i0 (.int k 0) 1 bytes ht hi hz0 hz1 hz2 rfl (by omega) v xs.length (nums k xs) HO ad m c (nums k ys) (by simp [nums, hm]) hcells
      (by intro u hu; simp only [nums, List.mem_map] at hu; obtain ⟨q, _, rfl⟩ := hu; rfl) (by simp only [maxLen]; omega) hl hbase
    exact ⟨v1, w1, hr, by simpa [nums, hm] using h2, h3, h5⟩
/-- .. in a region that draws its order -/
theorem step_append_row {P : Program} {ops : Array Oper} {o : Oper} {a : Act} {w0 W : World} {K : Act → World → Prop} {Q : Exit → Act → World → Prop} {E : Prop} (base : Nat) (hgd : o.guard = none) (s x : Operand) (t e : TypeId) (k : IntKind) (bytes : Nat)
    (ho : o.op = .call { callee := .builtin .append, args := #[s, x], argTypes := #[t, t] })
    (ht : P.underlying t = some (.slice e)) (hinfo : (P.info? e).map (fun i => (i.zero, i.size, i.bytes)) = some (some (.int k 0), 1, bytes)) (hb0 : 0 < bytes)
    (v : Value) (xs ys : List Int) (A : Option Addr) (m c : Nat) (hs : a.eval s = v) (hx : a.eval x = .slice A m c)
    (HO : W.ownsRow base e 1 v xs.length (nums k xs)) (HR : ReadsInt W k A m ys) (HB : Below base w0 W) (hbase : base ≤ W.heap.size) (hl : (xs.length + m) * bytes ≤ 140737488355328)
    (h : ∀ v1 w1, w1.ownsRow base e 1 v1 (xs ++ ys).length (nums k (xs ++ ys)) → Below base w0 w1 → W.grownBy w1 v.ownBlock → K (a.put o.dst v1) w1) :
    if Region.wanted o (yielded ops a.tmps) = true then Oper.wp P o a W K Q else E := by
  rw [if_pos (by simp [Region.wanted, hgd])]
  obtain ⟨v1, w1, hr, hown, hg, _⟩ := run_append_ints (P := P) base t o.type e k bytes ht hinfo hb0 v xs ys A m c HO HR hbase hl
  unfold Oper.wp execOp
  simp only [ho, resolve, invoke, builtin, Sem.run_bind, Sem.run_pure, Result.andThen_ok, List.map_toArray, List.map_cons, List.map_nil, hs, hx, hr]
  exact h v1 w1 hown (HB.grown hg hbase (own_base HO)) hg
/-- append(v, ys...), elements of one cell, v of the call's own: what the builtin does -/
theorem run_append_enc {α : Type} {P : Program} {W : World} (enc : α → Value) (d : α) (base : Nat) (t rt e : TypeId) (z : Value) (bytes : Nat)
    (ht : P.underlying t = some (.slice e)) (hinfo : (P.info? e).map (fun i => (i.zero, i.size, i.bytes)) = some (some z, 1, bytes)) (hz : z.cells.size = 1) (hb0 : 0 < bytes) (h1 : ∀ x : α, (enc x).oneCell' = true)
    (v : Value) (xs ys : List α) (A : Option Addr) (m c : Nat) (HO : W.ownsRow base e 1 v xs.length (encs enc xs)) (HR : ReadsOf enc d W A m ys) (hbase : base ≤ W.heap.size) (hl : (xs.length + m) * bytes ≤ 140737488355328) :
    ∃ v1 w1, (Builtin.append_ #[t, t] rt #[v, .slice A m c]).run P W = .ok v1 w1 ∧ w1.ownsRow base e 1 v1 (xs ++ ys).length (encs enc (xs ++ ys)) ∧ W.grownBy w1 v.ownBlock := by
  obtain ⟨i0, hi, hzz⟩ := Option.map_eq_some_iff.1 hinfo
  simp only [Prod.mk.injEq] at hzz
  obtain ⟨hz0, hz1, hz2⟩ := hzz
  have hm : ys.length = m := HR.1
  have hlen : xs.length + m ≤ 140737488355328 := Nat.le_trans (Nat.le_mul_of_pos_right _ hb0) hl
  rcases A with _ | ad
  · have h0 : m = 0 := by
      rcases Nat.eq_zero_or_pos m with h0 | h0
      · exact h0
      · obtain ⟨ad, h, _⟩ := HR.2.2 h0
        cases h
    subst h0
    obtain rfl : ys = [] := List.eq_nil_of_length_eq_zero hm
    refine ⟨v, W, ?_, by simpa using HO, World.grownBy.refl W _⟩
    rcases HO.2 with ⟨rfl, hn⟩ | ⟨g, cap, cur, rfl, _, _, hnc, _⟩
    · simp [Builtin.append_, run_underlying ht, sizeOf, typeInfo, hi, Builtin.lenOf, Builtin.firstCells]
    · simp [Builtin.append_, run_underlying ht, sizeOf, typeInfo, hi, Builtin.lenOf, Builtin.firstCells, hnc, storeCells]
  · have hcells : ∀ j u, (encs enc ys)[j]? = some u → W.cell? (ad.add j) = some u := by
      intro j u hu
      have hj : j < ys.length := by
        rcases Nat.lt_or_ge j ys.length with h | h
        · exact h
        · simp [encs, List.getElem?_eq_none h] at hu
      obtain ⟨ad', h', hc⟩ := HR.2.2 (by omega)
      injection h' with h'
      subst h'
      rw [encs_get (d := d) ys j hj] at hu
      rw [← hu]
      exact hc j (by omega)
    obtain ⟨v1, w1, hr, h2, h3, _, h5⟩ := run_append_own_at (P := P) W base t rt e i0 z 1 bytes ht hi hz0 hz1 hz2 hz (by omega) v xs.length (encs enc xs) HO ad m c (encs enc ys) (by simp [encs, hm]) hcells
      (by intro u hu; simp only [encs, List.mem_map] at hu; obtain ⟨q, _, rfl⟩ := hu; exact h1 q) (by simp only [maxLen]; omega) hl hbase
    exact ⟨v1, w1, hr, by simpa [encs, hm] using h2, h3⟩
/-- .. where the operation is guarded, and the guard is open -/
theorem guarded_append {α : Type} {P : Program} {ops : Array Oper} {rest : List Oper} {o : Oper} {a : Act} {Q : Exit → Act → World → Prop} {w0 W : World} (enc : α → Value) (d : α) (base : Nat) (hw : Region.wanted o (yielded ops a.tmps) = true) (s x : Operand) (t e : TypeId) (z : Value) (bytes : Nat)
    (ho : o.op = .call { callee := .builtin .append, args := #[s, x], argTypes := #[t, t] })
    (ht : P.underlying t = some (.slice e)) (hinfo : (P.info? e).map (fun i => (i.zero, i.size, i.bytes)) = some (some z, 1, bytes)) (hz : z.cells.size = 1) (hb0 : 0 < bytes) (h1 : ∀ x : α, (enc x).oneCell' = true)
    (v : Value) (xs ys : List α) (A : Option Addr) (m c : Nat) (hs : a.eval s = v) (hx : a.eval x = .slice A m c)
    (HO : W.ownsRow base e 1 v xs.length (encs enc xs)) (HR : ReadsOf enc d W A m ys) (HB : Below base w0 W) (hbase : base ≤ W.heap.size) (hl : (xs.length + m) * bytes ≤ 140737488355328)
    (h : ∀ v1 w1, w1.ownsRow base e 1 v1 (xs ++ ys).length (encs enc (xs ++ ys)) → Below base w0 w1 → W.grownBy w1 v.ownBlock → wpList P ops Q rest (a.put o.dst v1) w1) :
    wpList P ops Q (o :: rest) a W := by
  unfold wpList
  rw [if_pos hw]
  refine .inl ?_
  obtain ⟨v1, w1, hr, hown, hg⟩ := run_append_enc (P := P) enc d base t o.type e z bytes ht hinfo hz hb0 h1 v xs ys A m c HO HR hbase hl
  unfold Oper.wp execOp
  simp only [ho, resolve, invoke, builtin, Sem.run_bind, Sem.run_pure, Result.andThen_ok, List.map_toArray, List.map_cons, List.map_nil, hs, hx, hr]
  exact h v1 w1 hown (HB.grown hg hbase (own_base HO)) hg
end Go.Proofs.Ytckjmbpagippkaa
end

section
-- Written by a program of this session (wip/tools/myprint.py), over the kit's print.
namespace Go.Proofs.Ytckjmbpagippkaa.G
open Go.RowKit Go.Proofs.YtckjmbpagippkaaW.PrintWords Go.Proofs.YtckjmbpagippkaaW.PrintLast Go.Proofs.YtckjmbpagippkaaW.PrintMore
attribute [local go_sem] max2_int min2_int max_two min_two max_three min_three max_four min_four   -- for this text's walks alone
set_option linter.unusedVariables false
set_option linter.unusedSimpArgs false

-- BY HAND
-- IMPORT YtckjmbpagippkaaFrameBackP
-- IMPORT YtckjmbpagippkaaSmall03
-- IMPORT YtckjmbpagippkaaStep
-- LIB Derived.BigQuiet
-- LIB Derived.Deep.QuietTactic
-- over: frame_Make.f frame_Next.f frame_All.f rosettelaw03_small.f rosetteref03_Same.f
def rosettelaw03_FrameBack.f (l0 : List (List Int)) (l1 : List Int) : Option Bool := if (∀ x ∈ l0, u8s x) ∧ u8s l1 ∧ l0.length ≤ 9223372036854775807 ∧ l1.length ≤ 9223372036854775807 then some true else none
theorem row_at {e : Nat} {W : World} {A : Option Addr} {n : Nat} {xs : List (List Int)} (h : Kd.C (Kd.slice e (Kd.int .u8)) W A n xs) (k : Nat) (hk : k < xs.length) :
    ∃ ad P c, A = some ad ∧ W.cell? (ad.add k) = some (.slice P (xs.getD k []).length c) ∧ (xs.getD k []).length ≤ c ∧ (Kd.int .u8).C W P (xs.getD k []).length (xs.getD k []) := by
  obtain ⟨hs, h1, h2, h3⟩ := heads h
  have hn := h.1
  obtain ⟨ad, rfl, hc⟩ := h1.2.2 (by omega)
  obtain ⟨e1, e2, e3⟩ := h3 k hk
  have := hc k (by omega)
  rw [Hd.v, e1] at this
  exact ⟨ad, _, _, rfl, this, e2, e3⟩
theorem own_empty2 (W : World) : (W.alloc (.cells #[] 22)).ownsRow W.heap.size 22 1 (.slice (some ⟨W.heap.size, 0, none⟩) 0 0) ([] : List Hd).length (encs Hd.v []) :=
  ⟨by simp [encs], .inr ⟨W.heap.size, 0, #[], rfl, Nat.le_refl _, heap_alloc_new W _, by simp, by simp [maxLen], by simp, by simp [encs]⟩⟩
theorem info_b22 : (Try.prog.info? 22).map (fun i => (i.zero, i.size, i.bytes)) = some (some (.slice none 0 0), 1, 24) := by kernel_rfl
theorem S_C {W : World} {b : Nat} {v : Value} {L : List (List Int)} (h : Kd.S (Kd.slice 5 (Kd.int .u8)) 22 W b (fun _ => True) v L) : ∃ A c, v = .slice A L.length c ∧ L.length ≤ c ∧ Kd.C (Kd.slice 5 (Kd.int .u8)) W A L.length L := Kd.R_reads (Kd.S_R h)
theorem take_all {α : Type} {l : List α} {P : α → Prop} {k : Nat} (hk : k < l.length) {x : α} (hx : l[k]? = some x) (h : ∀ y ∈ l.take k, P y) (hp : P x) : ∀ y ∈ l.take (k + 1), P y := by
  intro y hy
  rw [List.take_succ_eq_append_getElem hk] at hy
  rcases List.mem_append.1 hy with h1 | h1
  · exact h y h1
  · simp only [List.mem_singleton] at h1
    rw [List.getElem?_eq_getElem hk] at hx
    cases hx
    rw [h1]
    exact hp
set_option maxRecDepth 100000 in
set_option maxHeartbeats 4000000 in
theorem rosettelaw03_FrameBack.calls (A0 : Option Addr) (c0 : Nat) (l0 : List (List Int)) (A1 : Option Addr) (c1 : Nat) (l1 : List Int) (r : Bool) (w : World) (hr0 : Kd.C (Kd.slice 5 (Kd.int .u8)) w A0 l0.length l0) (hc0 : l0.length ≤ c0) (hr1 : Kd.C (Kd.int .u8) w A1 l1.length l1) (hc1 : l1.length ≤ c1) (h : rosettelaw03_FrameBack.f l0 l1 = some r) :
    Calls Try.prog 4 #[.slice A0 l0.length c0, .slice A1 l1.length c1] w fun e w' => e = .returned (.bool r) ∧ Below w.heap.size w w' := by
  unfold rosettelaw03_FrameBack.f at h
  split at h
  · rename_i hcond
    obtain rfl : true = r := Option.some.inj h
    clear h
    obtain ⟨hu0, hu1, hs0, hs1⟩ := hcond
    have U0 := Aside0.mk hu0
    have U1 := Aside0.mk hu1
    have HR0 := Aside0.mk hr0
    have HQ0 := Aside0.mk hr1
    clear hu0 hu1 hr0 hr1
    go_enter Try.func4, Try.ntmps4
    go_wp2_with fail
    refine (rosettelaw03_small.calls true _ rfl).mono ?_
    rintro e w1 ⟨rfl, hB⟩
    have HB1 : Aside0 (Below w.heap.size w w1) := ⟨hB⟩
    clear hB
    by_cases g0 : 20 < l0.length
    · go_wp2_with fail
      go_ret
      exact ⟨rfl, HB1.out⟩
    by_cases g1 : 300 < l1.length
    · go_wp2_with fail
      go_ret
      exact ⟨rfl, HB1.out⟩
    have k0 : l0.length ≤ 20 := by omega
    have k1 : l1.length ≤ 300 := by omega
    clear g0 g1
    go_wp2_with fail
    go_loopw [6, 7] (fun b i wr => ∃ (k : Nat) (B : List Int), k ≤ l0.length ∧ i = .int .i64 k ∧ Aside0 (B = frs (l0.take k)) ∧ Aside0 (∀ x ∈ l0.take k, u8s x ∧ x.length ≤ 300) ∧ Aside0 ((Kd.int .u8).R 5 wr w.heap.size (fun _ => True) b B) ∧ Below w.heap.size w wr) (fun _ i _ => l0.length - (intOf i).toNat)
    case atStart => exact ⟨0, [], Nat.zero_le _, rfl, ⟨rfl⟩, ⟨fun x hx => by simp at hx⟩, ⟨Kd.R_nil _ _ _ _ _⟩, HB1.out⟩
    case round =>
      clear HB1
      obtain ⟨k, B, hk, rfl, EB, HL, HO, hBr⟩ := hrel
      have HB := Aside0.mk hBr
      clear hBr
      obtain ⟨Ab, cb, rfl, hcb, _⟩ := own_C HO.out
      have hbl : B.length ≤ 310 * 20 := by
        rw [EB.out]
        have := frs_length (L := l0.take k) (fun x hx => (HL.out x hx).2)
        have h2 : (l0.take k).length ≤ 20 := by rw [List.length_take]; omega
        omega
      by_cases hlt : k < l0.length
      · obtain ⟨ad, P, cp, rfl, hcell, hcp, hP⟩ := row_at (Kd.C_below HR0.out HB.out) k hlt
        obtain ⟨x, hx⟩ : ∃ x, l0.getD k [] = x := ⟨_, rfl⟩
        have hxk : l0[k]? = some x := by rw [← hx]; simp [List.getD_eq_getElem?_getD, hlt]
        have hxu : u8s x := U0.out x (List.mem_of_getElem? hxk)
        rw [hx] at hcell hcp hP
        have HXK := Aside0.mk hxk
        have HXU := Aside0.mk hxu
        have HP := Aside0.mk (HeldB.low hP)
        have hxl := hP.2.1
        clear hx hxk hxu hP
        by_cases hx3 : 300 < x.length
        · go_wp2_with fail
          go_ret
          exact ⟨rfl, HB.out⟩
        · obtain ⟨X, hX⟩ : ∃ X, X = Pure.frz x := ⟨_, rfl⟩
          have XL : Aside0 (X.length = x.length + 10) := ⟨by rw [hX]; exact Pure.frz_length x⟩
          have EX : Aside0 (frame_Make.f x = some (X, 0)) := ⟨by rw [hX]; exact Pure.make_some HXU.out (by omega)⟩
          have EXZ := Aside0.mk hX
          have hx4 : x.length ≤ 300 := by omega
          clear hX hx3
          go_wp2_with fail
          refine (frame_Make.calls P cp x X 0 wr (HP.out.C (by omega)) hcp EX.out).mono ?_
          rintro e w2 ⟨v2, rfl, hR, hB⟩
          obtain ⟨Ax, nx, rfl, hnx, _, hH, _⟩ := held_own hR
          have HB2 : Aside0 (Below w.heap.size w w2) := ⟨HB.out.trans (hB.mono HB.out.size)⟩
          have HX2 := Aside0.mk (hH.mono (S' := fun _ => True) (fun _ _ => trivial))
          have HO2 := Aside0.mk (Kd.R_below HO.out hB)
          have hcell2 := pw_cell_below hB hcell
          have b1 : ((X.length : Int) != (10 + (x.length : Int))) = false := by rw [XL.out]; simp; omega
          clear hR hB hH HB HO hcell
          have hxl2 : X.length ≤ 310 := by rw [XL.out]; omega
          go_wp2_with (at_builtin; refine print_append_row (w0 := w) w.heap.size rfl (.tmp 60) (.tmp 61) 22 5 .u8 1 rfl Try.underlying22 info_b8 (by decide) (.slice Ab B.length cb) B X Ax X.length nx rfl rfl (kd_own HO2.out) (Kd.reads_of_C (d := (0 : Int)) (HX2.out.C (by omega))) HB2.out HB2.out.size (by omega) ?_; intro v3 w3 ho3 hB3 _ _)
          exact ⟨⟨k + 1, B ++ X, by omega, by simp, ⟨by rw [EB.out, EXZ.out, ← frs_snoc]; congr 1; have h_ := HXK.out; rw [List.getElem?_eq_getElem hlt] at h_; cases h_; exact (List.take_succ_eq_append_getElem hlt).symm⟩, ⟨take_all hlt HXK.out HL.out ⟨HXU.out, hx4⟩⟩, ⟨kd_R ho3⟩, hB3⟩, by simp [intOf]; omega⟩
      · obtain rfl : k = l0.length := by omega
        have EB' : Aside0 (B = frs l0) := ⟨by rw [EB.out, List.take_length]⟩
        have HL' : Aside0 (∀ x ∈ l0, u8s x ∧ x.length ≤ 300) := ⟨by have h_ := HL.out; rwa [List.take_length] at h_⟩
        clear EB HL hlt
        obtain ⟨r0, q1, q2, -, -, -⟩ := all_back HL'.out k0 (M := []) (fun x hx => by cases hx) (by simp)
        obtain ⟨r1, p1, p2, p3, p4, p5⟩ := all_back HL'.out k0 U1.out k1
        have hr0 : r0 = ([], 0, 0) := by
          have h_ : frame_All.f 1000 [] = some ([], 0, 0) := by decide +kernel
          rw [h_] at q1
          exact (Option.some.inj q1).symm
        rw [hr0, List.append_nil, List.append_nil, ← EB'.out] at q2
        rw [← EB'.out] at p2
        simp only [Int.add_zero] at q2
        obtain ⟨R1, E1, X1⟩ := r1
        simp only at p1 p2 p3 p4 p5
        obtain ⟨LL, hLL⟩ : ∃ LL, LL = l0 ++ R1 := ⟨_, rfl⟩
        obtain ⟨BB, hBB⟩ : ∃ BB, BB = B ++ l1 := ⟨_, rfl⟩
        rw [← hLL, ← hBB] at p2
        have Q2 := Aside0.mk q2
        have P1 := Aside0.mk p1
        have P2 := Aside0.mk p2
        have ELL := Aside0.mk hLL
        have EBB := Aside0.mk hBB
        have LLL : Aside0 (LL.length ≤ 1020) := ⟨by rw [hLL, List.length_append]; omega⟩
        have BBL : Aside0 (BB.length = B.length + l1.length) := ⟨by rw [hBB, List.length_append]⟩
        clear q1 q2 hr0 p1 p2 r0 hLL hBB
        go_wp2_with fail
        refine (all_s 1000 Ab B.length cb B l0 B.length 0 wr rfl (own_C HO.out |> fun ⟨A_, c_, e_, _, h_⟩ => by cases e_; exact h_) hcb Q2.out).mono ?_
        rintro e w2 ⟨Al, cl, rfl, hcl, hCl, hB⟩
        have HB2 : Aside0 (Below w.heap.size w w2) := ⟨HB.out.trans (hB.mono HB.out.size)⟩
        have HO2 := Aside0.mk (Kd.R_below HO.out hB)
        have HC2 := Aside0.mk hCl
        clear hB hCl HB HO
        go_wp2_with (first
          | (go_at_call 15; (with_reducible refine (same_s 1000 Al l0.length cl A0 l0.length c0 l0 w2 rfl rfl HC2.out hcl (Kd.C_below HR0.out HB2.out) hc0 (Pure.same_refl l0 (by omega) 1000 (by omega))).mono ?_); rintro e w3 ⟨rfl, hB⟩; have HB3 : Aside0 (Below w.heap.size w w3) := ⟨HB2.out.trans (hB.mono HB2.out.size)⟩; have HO3 := Aside0.mk (Kd.R_below HO2.out hB); clear hB HB2 HO2 HC2)
          | (at_builtin; refine print_append_row (w0 := w) w.heap.size rfl (.tmp 83) (.tmp 84) 22 5 .u8 1 rfl Try.underlying22 info_b8 (by decide) (.slice Ab B.length cb) B l1 A1 l1.length c1 rfl rfl (kd_own HO3.out) (Kd.reads_of_C (d := (0 : Int)) (Kd.C_below HQ0.out HB3.out)) HB3.out HB3.out.size (by omega) ?_; intro v4 w4 ho4 hB4 _ _; rw [← EBB.out] at ho4; have HO4 := Aside0.mk (kd_R ho4); have HB4 := Aside0.mk hB4; clear ho4 hB4 HB3 HO3; obtain ⟨A4, c4, rfl, hc4, hC4⟩ := own_C HO4.out))
        refine (all_s 1000 A4 BB.length c4 BB LL ((B.length : Int) + E1) X1 w4 rfl hC4 hc4 P2.out).mono ?_
        rintro e w5 ⟨Am, cm, rfl, hcm, hCm, hB⟩
        have HB5 : Aside0 (Below w.heap.size w w5) := ⟨HB4.out.trans (hB.mono HB4.out.size)⟩
        have HM5 := Aside0.mk hCm
        clear hB hCm hC4 HB4 HO4
        go_wp2_with fail
        refine (all_s 1000 A1 l1.length c1 l1 R1 E1 X1 w5 rfl (Kd.C_below HQ0.out HB5.out) hc1 P1.out).mono ?_
        rintro e w6 ⟨An, cn, rfl, hcn, hCn, hB⟩
        have HB6 : Aside0 (Below w.heap.size w w6) := ⟨HB5.out.trans (hB.mono HB5.out.size)⟩
        have HM6 := Aside0.mk (Kd.C_below HM5.out hB)
        have HN6 := Aside0.mk hCn
        clear hB hCn HB5 HM5
        obtain ⟨hs0, f1, f2, f3⟩ := heads (Kd.C_below HR0.out HB6.out)
        obtain ⟨hs1, g1, g2, g3⟩ := heads HN6.out
        have F1 := Aside0.mk f1
        have G1 := Aside0.mk g1
        have F2 := Aside0.mk f2
        have G2 := Aside0.mk g2
        have HH3 := Aside0.mk (heads_append f2 f3 g3)
        rw [← ELL.out] at HH3
        obtain ⟨HH, hHH⟩ : ∃ HH, HH = hs0 ++ hs1 := ⟨_, rfl⟩
        rw [← hHH] at HH3
        have EHH := Aside0.mk hHH
        have HHL : Aside0 (HH.length = LL.length) := ⟨by rw [hHH, ELL.out, List.length_append, List.length_append, f2, g2]⟩
        have hs0l : hs0.length ≤ 20 := by omega
        have b6 := Aside0.mk ((Below.refl w6.heap.size w6).alloc (Nat.le_refl _) (.cells #[] 22))
        clear f1 f2 f3 g1 g2 g3 hHH
        have x1 : ((B.length : Int) + E1 == ((BB.length : Int) - (l1.length : Int) + E1)) = true := by rw [BBL.out]; simp
        have x2 : IntKind.i64.wrap ((BB.length : Int) - (l1.length : Int)) = (BB.length : Int) - (l1.length : Int) := by rw [IntKind.wrap_i64, BBL.out]; omega
        have x3 := LLL.out
        have x4 := BBL.out
        go_wp2_with (first
          | (at_builtin; refine guarded_append (w0 := w6) Hd.v hd0 w6.heap.size rfl (.tmp 101) (.tmp 102) 29 22 (.slice none 0 0) 24 rfl Try.underlying29 info_b22 rfl (by decide) (fun _ => rfl) (.slice (some ⟨w6.heap.size, 0, none⟩) 0 0) [] hs0 A0 l0.length c0 rfl rfl (own_empty2 w6) (F1.out.below b6.out) b6.out (by simp) (by simp; omega) ?_; intro v7 w7 ho7 hB7 _; rw [List.nil_append] at ho7; have HO7 := Aside0.mk ho7; have HB7 := Aside0.mk hB7; obtain ⟨A7, c7, rfl, hc7, _⟩ := own_reads_of_le (d := hd0) ho7; clear ho7 hB7)
          | (at_builtin; refine guarded_append (w0 := w6) Hd.v hd0 w6.heap.size rfl (.tmp 103) (.tmp 104) 29 22 (.slice none 0 0) 24 rfl Try.underlying29 info_b22 rfl (by decide) (fun _ => rfl) (.slice A7 hs0.length c7) hs0 hs1 An R1.length cn rfl rfl HO7.out (G1.out.below HB7.out) HB7.out (by have := HB7.out.size; omega) (by omega) ?_; intro v8 w8 ho8 hB8 _; rw [← EHH.out] at ho8; have HB8 := Aside0.mk hB8; obtain ⟨A8, c8, rfl, hc8, hr8⟩ := own_reads_of_le (d := hd0) ho8; have HR8 := Aside0.mk hr8; clear ho8 hB8 hr8)
          | (go_at_call 15; (with_reducible refine (same_s 2000 Am LL.length cm A8 HH.length c8 LL w8 rfl HHL.out (Kd.C_below HM6.out HB8.out) hcm (of_heads (by have h_ := HR8.out; rw [HHL.out] at h_; exact h_) rfl (fun i hi => by obtain ⟨e1, e2, e3⟩ := HH3.out i hi; exact ⟨e1, e2, Kd.C_below e3 HB8.out⟩)) (by have := HHL.out; omega) (Pure.same_refl LL (by omega) 2000 (by omega))).mono ?_); rintro e w9 ⟨rfl, hB⟩; have HB9 : Aside0 (Below w6.heap.size w6 w9) := ⟨HB8.out.trans (hB.mono HB8.out.size)⟩; clear hB))
        go_ret
        exact ⟨rfl, HB6.out.trans (HB9.out.mono HB6.out.size)⟩
  · cases h

end Go.Proofs.Ytckjmbpagippkaa.G
end

section
namespace Go.Proofs.Ytckjmbpagippkaa.G
open Go.RowKit Go.Proofs.Ytckjmbpagippkaa Go.Proofs.Ytckjmbpagippkaa.G Go.Proofs.YtckjmbpagippkaaW.PrintWords Go.Proofs.YtckjmbpagippkaaW.PrintLast
/-- The pure statement of rosettelaw03_FrameBack. -/
def rosettelaw03_FrameBack.Pure : Prop := ∀ (l0 : (List (List Int))) (l1 : (List Int)), (l0.length ≤ maxLen ∧ ∀ x0 ∈ l0, (x0.length ≤ maxLen ∧ ∀ x1 ∈ x0, (Lit.int .u8 x1).wf = true)) → (l1.length ≤ maxLen ∧ ∀ x0 ∈ l1, (Lit.int .u8 x0).wf = true) → rosettelaw03_FrameBack.f l0 l1 = some true
end Go.Proofs.Ytckjmbpagippkaa.G
end

section
/- The statement FrameBack over numbers and lists: what was framed is found as it was, one behind the other, and what follows is not touched. -/
namespace Go.Proofs.Ytckjmbpagippkaa.Pure
open Go.RowKit Go.Proofs.Ytckjmbpagippkaa.G Go.Proofs.YtckjmbpagippkaaW.PrintWords Go.Proofs.YtckjmbpagippkaaW.PrintLast
theorem FrameBack : rosettelaw03_FrameBack.Pure := by
  rintro l0 l1 ⟨h1, h2⟩ ⟨h3, h4⟩
  unfold rosettelaw03_FrameBack.f
  simp only [maxLen] at h1 h3
  rw [if_pos ⟨fun x hx => u8s_wf (h2 x hx).2, u8s_wf h4, by omega, by omega⟩]
end Go.Proofs.Ytckjmbpagippkaa.Pure
end

section
/- What comes in, opened kind by kind: a datum that is read whole reads as a list, a structure, a number. -/
set_option linter.unusedVariables false
set_option linter.unusedSimpArgs false
set_option autoImplicit false
namespace Go.Proofs.Ytckjmbpagippkaa.Op
open Go.RowKit Go.Deep Go.ChangeShapes Go.WideShapes Go.Proofs.YtckjmbpagippkaaW.PrintWords

section
variable {H α β : Type} (enc : TypeId × Value → H) (P : Program) (W : World)
/-- whatever is read at type t is of the kind d, and good -/
def Opens (t : TypeId) (d : Kd α) (good : α → Prop) : Prop :=
  ∀ fuel (cs : List Value) x, DataW.trod enc P W 0 (fun _ => true) true fuel t cs = some x → ∃ a, d.K W a cs ∧ good a
def OpensF (fs : List Field) (o : Nat) (d : Kd α) (good : α → Prop) : Prop :=
  ∀ fuel (cs : List Value) xs, (fs.mapM fun f => DataW.trod enc P W 0 (fun _ => true) true fuel f.type ((cs.drop f.offset).take (P.cellsOf f.type))) = some xs → cs.length = o + d.sz → ∃ a, d.K W a (cs.drop o) ∧ good a
variable {enc P W}
theorem opens_int {t : TypeId} {k : IntKind} (ht : P.underlying t = some (.int k)) : Opens enc P W t (Kd.int k) (fun n => (Lit.int k n).wf = true) := by
  intro fuel cs x h
  obtain ⟨n, h1, _, h2⟩ := DataW.trod_int ht h
  exact ⟨n, h1, h2⟩
theorem opens_str {t : TypeId} (ht : P.underlying t = some .string) : Opens enc P W t Kd.string (fun s => s.size ≤ maxLen) := by
  intro fuel cs x h
  obtain ⟨n, h1, _, h2⟩ := DataW.trod_string ht h
  exact ⟨n, h1, h2⟩
theorem opens_slice {t e : TypeId} {d : Kd α} {good : α → Prop} (ht : P.underlying t = some (.slice e)) (hs : P.cellsOf e = d.sz) (h : Opens enc P W e d good) :
    Opens enc P W t (Kd.slice e d) (fun xs => xs.length ≤ maxLen ∧ ∀ x ∈ xs, good x) := by
  intro fuel cs x hx
  rcases open_slice ht hx with ⟨rfl, _⟩ | ⟨a, len, cap, m, n, D, Pl, rfl, hb, hl, hm, hmm, rfl, hel⟩
  · exact ⟨[], ⟨none, 0, rfl, Nat.le_refl _, Kd.C_nil _ _⟩, Nat.zero_le _, fun _ h => by cases h⟩
  · simp only [if_true] at hmm
    have each : ∀ i, i < len → ∃ y : α, ∃ c, W.cells? 0 (a.add (i * P.cellsOf e)) (P.cellsOf e) = some c ∧ d.K W y c ∧ good y := by
      intro i hi
      obtain ⟨c, h1, h2⟩ := hel i (by omega)
      obtain ⟨y, h3, h4⟩ := h _ _ _ h2
      exact ⟨y, c, h1, h3, h4⟩
    have build : ∃ xs : List α, xs.length = len ∧ ∀ i y, xs[i]? = some y → ∃ c, W.cells? 0 (a.add (i * P.cellsOf e)) (P.cellsOf e) = some c ∧ d.K W y c ∧ good y := by
      clear hx hel hm hl hb hmm
      induction len with
      | zero => exact ⟨[], rfl, fun i y h => by simp at h⟩
      | succ len ih =>
        obtain ⟨xs, h1, h2⟩ := ih (fun i hi => each i (by omega))
        obtain ⟨y, c, h3, h4, h5⟩ := each len (by omega)
        refine ⟨xs ++ [y], by simp [h1], fun i z hz => ?_⟩
        by_cases hi : i < len
        · exact h2 i z (by rw [List.getElem?_append_left (by omega)] at hz; exact hz)
        · have hi2 : i < (xs ++ [y]).length := (List.getElem?_eq_some_iff.1 hz).1
          have : i = len := by rw [List.length_append, List.length_singleton] at hi2; omega
          subst this
          rw [List.getElem?_append_right (by omega), h1, Nat.sub_self] at hz
          simp only [List.getElem?_cons_zero, Option.some.injEq] at hz
          subst hz
          exact ⟨c, h3, h4, h5⟩
    obtain ⟨xs, h1, h2⟩ := build
    refine ⟨xs, ⟨some a, cap, by rw [h1], by omega, rfl, by rw [h1]; simp only [maxLen] at hm; omega, fun h0 => ⟨a, rfl, fun j p hj => ?_⟩⟩, by omega, fun y hy => ?_⟩
    · obtain ⟨c, h3, h4, h5⟩ := h2 j p hj
      obtain ⟨_, hlen, hcell⟩ := World.cells?_some h3
      refine ⟨c, by rw [hlen, hs], h4, fun i u hu => ?_⟩
      have hi : i < P.cellsOf e := by rw [← hlen]; exact (List.getElem?_eq_some_iff.1 hu).1
      have := hcell i hi
      rw [hu, Go.Proofs.YtckjmbpagippkaaW.PrintWords.add_add, hs] at this
      exact this
    · obtain ⟨i, hi⟩ := List.getElem?_of_mem hy
      obtain ⟨c, _, _, h5⟩ := h2 i y hi
      exact h5
theorem opensF_one {f : Field} {o : Nat} {d : Kd α} {good : α → Prop} (ho : f.offset = o) (hc : P.cellsOf f.type = d.sz) (h : Opens enc P W f.type d good) : OpensF enc P W [f] o d good := by
  intro fuel cs xs hx hl
  simp only [List.mapM_cons, List.mapM_nil, Option.pure_def, Option.bind_eq_bind, Option.bind_eq_some_iff] at hx
  obtain ⟨y, h1, _⟩ := hx
  obtain ⟨a, h2, h3⟩ := h _ _ _ h1
  rw [ho, hc, List.take_of_length_le (by rw [List.length_drop]; omega)] at h2
  exact ⟨a, h2, h3⟩
theorem opensF_cons {f : Field} {fs : List Field} {o : Nat} {d : Kd α} {e : Kd β} {g1 : α → Prop} {g2 : β → Prop} (ho : f.offset = o) (hc : P.cellsOf f.type = d.sz) (h : Opens enc P W f.type d g1) (hr : OpensF enc P W fs (o + d.sz) e g2) :
    OpensF enc P W (f :: fs) o (Kd.pair d e) (fun p => g1 p.1 ∧ g2 p.2) := by
  intro fuel cs xs hx hl
  simp only [List.mapM_cons, Option.pure_def, Option.bind_eq_bind, Option.bind_eq_some_iff] at hx
  obtain ⟨y, h1, ys, h2, _⟩ := hx
  have hsz : (Kd.pair d e).sz = d.sz + e.sz := rfl
  obtain ⟨a, h3, h4⟩ := h _ _ _ h1
  obtain ⟨b, h5, h6⟩ := hr _ _ _ h2 (by omega)
  rw [ho, hc] at h3
  refine ⟨(a, b), ⟨_, _, ?_, h3, h5⟩, h4, h6⟩
  rw [← List.drop_drop, List.take_append_drop]
theorem opens_struct {t : TypeId} {fs : Array Field} {d : Kd α} {good : α → Prop} (ht : P.underlying t = some (.struct fs)) (hc : P.cellsOf t = d.sz) (h : OpensF enc P W fs.toList 0 d good) : Opens enc P W t d good := by
  intro fuel cs x hx
  cases fuel with
  | zero => simp [DataW.trod] at hx
  | succ fuel =>
    have key : cs.length = P.cellsOf t ∧ ∃ xs, (fs.toList.mapM fun f => DataW.trod enc P W 0 (fun _ => true) true fuel f.type ((cs.drop f.offset).take (P.cellsOf f.type))) = some xs := by
      unfold DataW.trod at hx
      rw [ht] at hx
      simp only at hx
      split at hx
      · rename_i hl
        rw [Option.map_eq_some_iff] at hx
        obtain ⟨xs, h1, _⟩ := hx
        exact ⟨hl, xs, h1⟩
      · cases hx
    obtain ⟨h1, xs, h2⟩ := key
    obtain ⟨a, h3, h4⟩ := h _ _ _ h2 (by omega)
    exact ⟨a, by simpa using h3, h4⟩
theorem opens_iso {t : TypeId} {d : Kd α} {good : α → Prop} (f : β → α) (g : α → β) (hfg : ∀ a, f (g a) = a) (h : Opens enc P W t d good) : Opens enc P W t (Kd.iso d f) (fun x => good (f x)) := by
  intro fuel cs x hx
  obtain ⟨a, h1, h2⟩ := h _ _ _ hx
  refine ⟨g a, ?_, by show good (f (g a)); rw [hfg]; exact h2⟩
  show d.K W (f (g a)) cs
  rw [hfg]
  exact h1
theorem opens_mono {t : TypeId} {d : Kd α} {g1 g2 : α → Prop} (h : Opens enc P W t d g1) (hg : ∀ a, g1 a → g2 a) : Opens enc P W t d g2 := fun fuel cs x hx => by
  obtain ⟨a, h1, h2⟩ := h fuel cs x hx
  exact ⟨a, h1, hg a h2⟩
/-- a slice that is handed in -/
theorem open_arg {t e : TypeId} {d : Kd α} {good : α → Prop} (ht : P.underlying t = some (.slice e)) (hs : P.cellsOf e = d.sz) (h : Opens enc P W e d good) {A : Option Addr} {n c : Nat} {y : DataW H} {p : List MemPlace}
    (hx : DataW.Trod enc P W 0 (fun _ => true) true t (.slice A n c) y p) : ∃ xs : List α, n = xs.length ∧ xs.length ≤ c ∧ c ≤ maxLen ∧ d.C W A xs.length xs ∧ xs.length ≤ maxLen ∧ ∀ x ∈ xs, good x := by
  obtain ⟨fuel, hf⟩ := hx
  have hcap : c ≤ maxLen := by
    rcases open_slice ht hf with ⟨hcs, _⟩ | ⟨a, len, cap, m, n, D, Pl, hcs, hb, hl, hm, hmm, _, hel⟩
    · simp only [Value.cells, List.cons.injEq, Value.slice.injEq, and_true] at hcs
      omega
    · simp only [Value.cells, List.cons.injEq, Value.slice.injEq, and_true] at hcs
      omega
  obtain ⟨xs, ⟨A', c', h1, h2, h3⟩, h4, h5⟩ := opens_slice ht hs h _ _ _ hf
  simp only [Value.cells, List.cons.injEq, Value.slice.injEq, and_true] at h1
  obtain ⟨rfl, rfl, rfl⟩ := h1
  exact ⟨xs, rfl, h2, hcap, h3, h4, h5⟩
end
end Go.Proofs.Ytckjmbpagippkaa.Op
end

section
namespace Go.Proofs.Ytckjmbpagippkaa.frameBack
open Go.ChangeShapes Go.WideShapes Go.ChangeAt Go.RowKit Go.Proofs.Ytckjmbpagippkaa Go.Proofs.Ytckjmbpagippkaa.G Go.Proofs.YtckjmbpagippkaaW.PrintWords Go.Proofs.YtckjmbpagippkaaW.PrintLast Go.Proofs.YtckjmbpagippkaaW.PrintMore
open Go.ChangeMaps (open_string shut_string)
set_option linter.unusedVariables false
set_option linter.unusedSimpArgs false
theorem own : ownKnob Try.prog.godebug = none := by kernel_rfl
theorem laidOut : laidOutB Try.prog = true := by kernel_rfl
set_option maxRecDepth 100000 in
theorem lifted (os : Os) (started : os.Started) (H : Type) (enc : TypeId × Value → H) :
    ReturnsInHanded {} Try.checked os 4 .any (Rows.frameBackSpec.pre6 enc Try.prog Try.f4 Rows.frameBackRow.domain false) (Rows.frameBackSpec.post enc Try.prog Try.f4 false true false false) := by
  refine returnsInHanded_of_change_sized (C := Try.checked) own started (by kernel_rfl) Try.func4
    (ChangeSpec.witness6 (enc := enc) (C := Try.checked) false ⟨#[], #[.slice none 0 0, .slice none 0 0], []⟩ 8 (by kernel_rfl) (by kernel_rfl) (by kernel_rfl) (by kernel_rfl)) ?_
  intro W base args ds gs before hval0 hW hcnd hsz0 _
  have hval : ∀ (j : Nat) t v, Try.f4.params[j]? = some t → args[j]? = some v → Value.okWide Try.prog W .any base t v := hval0
  have hW' := hW
  obtain ⟨p, q, hA0, hV, rfl, hfz, hnd⟩ := hW
  have hA : DataW.TrodAll enc Try.prog W 0 (fun _ => true) true Try.f4.params.toList args.toList ds p := hA0
  rw [Try.params4] at hA hval
  obtain ⟨v0, vs0, d0, ds0, p0, q0, hargs, rfl, rfl, h0, r0⟩ := trodAll_cons hA
  obtain ⟨v1, vs1, d1, ds1, p1, q1, rfl, rfl, rfl, h1, r1⟩ := trodAll_cons r0
  obtain ⟨rfl, rfl, rfl⟩ := trodAll_nil r1
  obtain rfl : args = #[v0, v1] := by cases args; simp_all
  obtain ⟨rfl, rfl⟩ := trodVars_none hV
  have k0 := h0
  have lt0 : ∀ x ∈ p0, x.block < W.heap.size := by obtain ⟨m, hm⟩ := k0; exact DataW.trod_lt m _ _ _ hm
  obtain ⟨A0, len0, cap0, rfl⟩ := okWide_slice Try.underlying29 (hval 0 29 v0 rfl rfl)
  obtain ⟨l0, rfl, hc0, hk0, hr0, hg0⟩ := Op.open_arg Try.underlying29 (by kernel_rfl) (Op.opens_slice Try.underlying22 (by kernel_rfl) (Op.opens_int Try.underlying5)) h0
  have k1 := h1
  have lt1 : ∀ x ∈ p1, x.block < W.heap.size := by obtain ⟨m, hm⟩ := k1; exact DataW.trod_lt m _ _ _ hm
  obtain ⟨A1, len1, cap1, rfl⟩ := okWide_slice Try.underlying22 (hval 1 22 v1 rfl rfl)
  obtain ⟨l1, rfl, hc1, hk1, hr1, hg1⟩ := Op.open_arg Try.underlying22 (by kernel_rfl) (Op.opens_int Try.underlying5) h1
  clear hA0 hval0 hsz0
  have h := Pure.FrameBack l0 l1 hg0 hg1
  refine (rosettelaw03_FrameBack.calls A0 cap0 l0 A1 cap1 l1 true W hr0 hc0 hr1 hc1 h).mono fun e W' ⟨he, bel⟩ => ?_
  subst he
  exact ⟨_, rfl, _, _, _, [], _, [], hW', trodAll_mk1 (shut_bool Try.underlying4 _), (trodAll_cons_mk (Below.trod laidOut (by kernel_rfl) (of_decide_eq_true (by kernel_rfl)) k0 bel lt0) (trodAll_cons_mk (Below.trod laidOut (by kernel_rfl) (of_decide_eq_true (by kernel_rfl)) k1 bel lt1) trodAll_mk0)), rfl, bel.frame _, fun h => by cases h⟩
theorem over : Rows.frameBackRow.holds Try.pinned (OpenSpec.ofChange Rows.frameBackSpec) :=
  OpenClaim.holds_of_wide 4 Try.f4 rfl rfl rfl rfl rfl rfl rfl ⟨rfl, rfl, rfl, rfl, rfl⟩ rfl rfl rfl rfl rfl (by kernel_rfl) Try.func4 (by kernel_rfl)
    (of_decide_eq_true (by kernel_rfl)) (by unfold Func.isWrapper; first | (rw [if_pos (by decide +kernel)]; kernel_rfl) | (rw [if_neg (by decide +kernel)]; exact ⟨rfl, rfl⟩))
    (fun os started H enc _ => lifted os started H enc)
theorem proved : Rows.FrameBackSaid := over
#print axioms proved
end Go.Proofs.Ytckjmbpagippkaa.frameBack
namespace Go.Proofs.Ytckjmbpagippkaa
/-- The row, under a short name, for the claim. -/
theorem frameBack_holds : Rows.FrameBackSaid := frameBack.proved
end Go.Proofs.Ytckjmbpagippkaa
end
