/- The statement FrameMakes over numbers and lists: frames, and what is found first, and in all, are the document's. -/
import Derived.Test.YtckjmbpagippkaaZFrameMakes0
import Derived.Test.YtckjmbpagippkaaZFrameMakes1
import Derived.Test.YtckjmbpagippkaaRows
import Derived.WalkKit
import Derived.ProofKit
import Derived.OpenShut
import Derived.ShutString
import Derived.ChangeOld
import Derived.Below
import Derived.SizedLaws
import Derived.Test.YtckjmbpagippkaaWSized
section
-- Written by a program of this session (wip/tools/myprint.py), over the kit's print.
namespace Go.Proofs.Ytckjmbpagippkaa.G
open Go.RowKit Go.Proofs.YtckjmbpagippkaaW.PrintWords Go.Proofs.YtckjmbpagippkaaW.PrintLast Go.Proofs.YtckjmbpagippkaaW.PrintMore
attribute [local go_sem] max2_int min2_int max_two min_two max_three min_three max_four min_four   -- for this text's walks alone
set_option linter.unusedVariables false
set_option linter.unusedSimpArgs false

/-! ### rosettelaw03_FrameMakes: function 3 -/
mutual
def rosettelaw03_FrameMakes.j0 : Nat → List Int → List Int → Bool → Bool → Option (Bool)
  | 0, _, _, _, _ => none
  | k + 1, x0, x1, x5, x34 => if x34 = true then (some x5) else ((frame_Make.f x0).bind fun bt173 => ((rosetteref03_Make.f k x0).bind fun bt177 => ((frame_Next.f x1).bind fun bt181 => ((rosetteref03_Next.f k x1).bind fun bt186 => ((frame_All.f k x1).bind fun bt191 => ((rosetteref03_All.f k x1).bind fun bt196 => (if (strOfNums bt173.1).toList = (strOfNums bt177.1).toList then (if bt173.2 = bt177.2 then (if (strOfNums bt181.1).toList = (strOfNums bt186.1).toList then (if bt181.2.1 = bt186.2.1 then (if bt181.2.2 = bt186.2.2 then ((rosetteref03_Same.f k bt191.1 bt196.1).bind fun t201 => (if t201 = true then (if bt191.2.1 = bt196.2.1 then (rosettelaw03_FrameMakes.j1 k x0 x5 bt173.1 bt177.1 (bt191.2.2 == bt196.2.2)) else (rosettelaw03_FrameMakes.j1 k x0 x5 bt173.1 bt177.1 false)) else (rosettelaw03_FrameMakes.j1 k x0 x5 bt173.1 bt177.1 false))) else (rosettelaw03_FrameMakes.j1 k x0 x5 bt173.1 bt177.1 false)) else (rosettelaw03_FrameMakes.j1 k x0 x5 bt173.1 bt177.1 false)) else (rosettelaw03_FrameMakes.j1 k x0 x5 bt173.1 bt177.1 false)) else (rosettelaw03_FrameMakes.j1 k x0 x5 bt173.1 bt177.1 false)) else (rosettelaw03_FrameMakes.j1 k x0 x5 bt173.1 bt177.1 false))))))))
def rosettelaw03_FrameMakes.j1 : Nat → List Int → Bool → List Int → List Int → Bool → Option (Bool)
  | 0, _, _, _, _, _ => none
  | k + 1, x0, x5, x6, x8, x22 => rosettelaw03_FrameMakes.l0 k x0 x5 x6 x8 x22 0
def rosettelaw03_FrameMakes.l0 : Nat → List Int → Bool → List Int → List Int → Bool → Int → Option (Bool)
  | 0, _, _, _, _, _, _ => none
  | k + 1, x0, x5, x6, x8, x22, x23 => if x23 < (x6.length : Int) then (if 0 ≤ x23 then (rosettelaw03_FrameMakes.l0 k x0 x5 (x6.set (x23 : Int).toNat 7) x8 x22 (wrap64 (x23 + 1))) else (none)) else ((frame_Make.f x0).bind fun bt203 => (if x5 = true then (if x22 = true then (some ((strOfNums bt203.1).toList == (strOfNums x8).toList)) else (some false)) else (some false)))
end
def rosettelaw03_FrameMakes.f (k : Nat) (l0 : List Int) (l1 : List Int) : Option (Bool) := (rosettelaw03_small.f).bind fun t172 => (if (l0.length : Int) > 9000 then (rosettelaw03_FrameMakes.j0 k l0 l1 t172 true) else (rosettelaw03_FrameMakes.j0 k l0 l1 t172 (decide ((l1.length : Int) > 2000))))
theorem rosettelaw03_FrameMakes.mono_l : ∀ k, (∀ y0 y1 y2 y3, LeO (rosettelaw03_FrameMakes.j0 k y0 y1 y2 y3) (rosettelaw03_FrameMakes.j0 (k + 1) y0 y1 y2 y3)) ∧ (∀ y0 y1 y2 y3 y4, LeO (rosettelaw03_FrameMakes.j1 k y0 y1 y2 y3 y4) (rosettelaw03_FrameMakes.j1 (k + 1) y0 y1 y2 y3 y4)) ∧ (∀ y0 y1 y2 y3 y4 y5, LeO (rosettelaw03_FrameMakes.l0 k y0 y1 y2 y3 y4 y5) (rosettelaw03_FrameMakes.l0 (k + 1) y0 y1 y2 y3 y4 y5))
  | 0 => ⟨fun _ _ _ _ r h => by simp [rosettelaw03_FrameMakes.j0] at h, fun _ _ _ _ _ r h => by simp [rosettelaw03_FrameMakes.j1] at h, fun _ _ _ _ _ _ r h => by simp [rosettelaw03_FrameMakes.l0] at h⟩
  | k + 1 => by
    obtain ⟨ih0, ih1, ih2⟩ := rosettelaw03_FrameMakes.mono_l k
    refine ⟨?_, ?_, ?_⟩
    · intro y0 y1 y2 y3
      unfold rosettelaw03_FrameMakes.j0
      repeat' first
      | (with_reducible exact ih0 _ _ _ _)
      | (with_reducible exact ih1 _ _ _ _ _)
      | (with_reducible exact ih2 _ _ _ _ _ _)
      | (with_reducible exact frame_All.mono _ _)
      | (with_reducible exact rosetteref03_All.mono _ _)
      | (with_reducible exact rosetteref03_Make.mono _ _)
      | (with_reducible exact rosetteref03_Next.mono _ _)
      | (with_reducible exact rosetteref03_Same.mono _ _ _)
      | (with_reducible exact LeO.refl _)
      | (with_reducible exact LeO.none _)
      | (with_reducible refine LeO.ite ?_ ?_)
      | (with_reducible refine LeO.bind ?_ (fun _ => ?_))
      | exact ih0 _ _ _ _
      | exact ih1 _ _ _ _ _
      | exact ih2 _ _ _ _ _ _
      | exact frame_All.mono _ _
      | exact rosetteref03_All.mono _ _
      | exact rosetteref03_Make.mono _ _
      | exact rosetteref03_Next.mono _ _
      | exact rosetteref03_Same.mono _ _ _
      | exact LeO.none _
      | refine LeO.ite ?_ ?_
      | refine LeO.bind ?_ (fun _ => ?_)
    · intro y0 y1 y2 y3 y4
      unfold rosettelaw03_FrameMakes.j1
      repeat' first
      | (with_reducible exact ih0 _ _ _ _)
      | (with_reducible exact ih1 _ _ _ _ _)
      | (with_reducible exact ih2 _ _ _ _ _ _)
      | (with_reducible exact frame_All.mono _ _)
      | (with_reducible exact rosetteref03_All.mono _ _)
      | (with_reducible exact rosetteref03_Make.mono _ _)
      | (with_reducible exact rosetteref03_Next.mono _ _)
      | (with_reducible exact rosetteref03_Same.mono _ _ _)
      | (with_reducible exact LeO.refl _)
      | (with_reducible exact LeO.none _)
      | (with_reducible refine LeO.ite ?_ ?_)
      | (with_reducible refine LeO.bind ?_ (fun _ => ?_))
      | exact ih0 _ _ _ _
      | exact ih1 _ _ _ _ _
      | exact ih2 _ _ _ _ _ _
      | exact frame_All.mono _ _
      | exact rosetteref03_All.mono _ _
      | exact rosetteref03_Make.mono _ _
      | exact rosetteref03_Next.mono _ _
      | exact rosetteref03_Same.mono _ _ _
      | exact LeO.none _
      | refine LeO.ite ?_ ?_
      | refine LeO.bind ?_ (fun _ => ?_)
    · intro y0 y1 y2 y3 y4 y5
      unfold rosettelaw03_FrameMakes.l0
      repeat' first
      | (with_reducible exact ih0 _ _ _ _)
      | (with_reducible exact ih1 _ _ _ _ _)
      | (with_reducible exact ih2 _ _ _ _ _ _)
      | (with_reducible exact frame_All.mono _ _)
      | (with_reducible exact rosetteref03_All.mono _ _)
      | (with_reducible exact rosetteref03_Make.mono _ _)
      | (with_reducible exact rosetteref03_Next.mono _ _)
      | (with_reducible exact rosetteref03_Same.mono _ _ _)
      | (with_reducible exact LeO.refl _)
      | (with_reducible exact LeO.none _)
      | (with_reducible refine LeO.ite ?_ ?_)
      | (with_reducible refine LeO.bind ?_ (fun _ => ?_))
      | exact ih0 _ _ _ _
      | exact ih1 _ _ _ _ _
      | exact ih2 _ _ _ _ _ _
      | exact frame_All.mono _ _
      | exact rosetteref03_All.mono _ _
      | exact rosetteref03_Make.mono _ _
      | exact rosetteref03_Next.mono _ _
      | exact rosetteref03_Same.mono _ _ _
      | exact LeO.none _
      | refine LeO.ite ?_ ?_
      | refine LeO.bind ?_ (fun _ => ?_)
theorem rosettelaw03_FrameMakes.mono : ∀ a0 a1 k, LeO (rosettelaw03_FrameMakes.f k a0 a1) (rosettelaw03_FrameMakes.f (k + 1) a0 a1) := by
  intro a0 a1 k
  obtain ⟨ih0, ih1, ih2⟩ := rosettelaw03_FrameMakes.mono_l k
  unfold rosettelaw03_FrameMakes.f
  repeat' first
      | (with_reducible exact ih0 _ _ _ _)
      | (with_reducible exact ih1 _ _ _ _ _)
      | (with_reducible exact ih2 _ _ _ _ _ _)
      | (with_reducible exact frame_All.mono _ _)
      | (with_reducible exact rosetteref03_All.mono _ _)
      | (with_reducible exact rosetteref03_Make.mono _ _)
      | (with_reducible exact rosetteref03_Next.mono _ _)
      | (with_reducible exact rosetteref03_Same.mono _ _ _)
      | (with_reducible exact LeO.refl _)
      | (with_reducible exact LeO.none _)
      | (with_reducible refine LeO.ite ?_ ?_)
      | (with_reducible refine LeO.bind ?_ (fun _ => ?_))
      | exact ih0 _ _ _ _
      | exact ih1 _ _ _ _ _
      | exact ih2 _ _ _ _ _ _
      | exact frame_All.mono _ _
      | exact rosetteref03_All.mono _ _
      | exact rosetteref03_Make.mono _ _
      | exact rosetteref03_Next.mono _ _
      | exact rosetteref03_Same.mono _ _ _
      | exact LeO.none _
      | refine LeO.ite ?_ ?_
      | refine LeO.bind ?_ (fun _ => ?_)
set_option maxHeartbeats 8000000 in
set_option maxRecDepth 100000 in
theorem rosettelaw03_FrameMakes.calls (k : Nat) (A0 : Option Addr) (c0 : Nat) (l0 : List Int) (A1 : Option Addr) (c1 : Nat) (l1 : List Int) (r : Bool) (w : World) (hr0 : Kd.C (Kd.int .u8) w A0 l0.length l0) (hc0 : l0.length ≤ c0) (hr1 : Kd.C (Kd.int .u8) w A1 l1.length l1) (hc1 : l1.length ≤ c1) (h : rosettelaw03_FrameMakes.f k l0 l1 = some r) :
    Calls Try.prog 3 #[.slice A0 l0.length c0, .slice A1 l1.length c1] w fun e w' => e = .returned (.bool r) ∧ Below w.heap.size w w' := by
  have HR0 := Aside0.mk hr0
  have HC0 := Aside0.mk hc0
  clear hr0 hc0
  have HR1 := Aside0.mk hr1
  have HC1 := Aside0.mk hc1
  clear hr1 hc1
  have HB := Aside0.mk (Below.refl w.heap.size w)
  have H : ((rosettelaw03_small.f).bind fun t172 => (if (l0.length : Int) > 9000 then (rosettelaw03_FrameMakes.j0 k l0 l1 t172 true) else (rosettelaw03_FrameMakes.j0 k l0 l1 t172 (decide ((l1.length : Int) > 2000))))) = some r := h
  clear h
  replace H := Option.bind_eq_some_iff.mp H
  obtain ⟨t172, A30, H⟩ := H
  replace H : (if (l0.length : Int) > 9000 then (rosettelaw03_FrameMakes.j0 k l0 l1 t172 true) else (rosettelaw03_FrameMakes.j0 k l0 l1 t172 (decide ((l1.length : Int) > 2000)))) = some r := H
  have A3 := Aside0.mk A30
  clear A30
  have HC4 := Aside0.mk H
  clear H
  go_enter Try.func3, Try.ntmps3
  go_upto_region 2 with (first | ((with_reducible refine gate_callee (f := 8) rfl ?_); refine goesL_ (some 26) rfl rfl Try.func8 (by kernel_rfl) rfl #[] rfl (by (try simp only [List.map_toArray, List.map_cons, List.map_nil]); first | done | rfl | (simp only [List.length_drop, List.length_take]; rfl)) ?_; (with_reducible refine (rosettelaw03_small.calls  t172 _ A3.out).mono ?_); rintro e w5 ⟨rfl, hb⟩; refine ⟨_, rfl, ?_⟩; have n0_ := Aside0.mk (below_step (by repeat (first | (with_reducible first | exact HB.out | apply below_alloc | apply pw_below_drewN | apply below_drew1) | exact HB.out)) hb); clear HB; have HB := n0_; clear n0_; (try clear hb); (try clear hb2); (try clear hk); (try clear hi)))
  (try simp only [Act.put, List.setIfInBounds_toArray, List.set_cons_zero, List.set_cons_succ])
  go_cut [34] (fun v34 wc => ∃ (kq : Nat) (x34_3 : Bool), v34 = .bool x34_3 ∧ Aside0 (rosettelaw03_FrameMakes.j0 kq l0 l1 t172 x34_3 = some r) ∧ Aside0 (kq ≤ k) ∧ Aside0 (Below w.heap.size w wc))
  case first =>
    have H := HC4.out
    clear HC4
    by_cases c6 : (l0.length : Int) > 9000
    · rw [if_pos c6] at H
      have c6b0 : decide (9000 < (l0.length : Int)) = true := decide_eq_true c6
      have c6b1 : decide (9000 < l0.length) = true := decide_eq_true (by omega)
      clear c6
      (first | rw [c6b0] | (simp only [i64_w, i32_w]; rw [c6b0]) | skip)
      have H' := Aside0.mk H
      clear H
      go_wp2
      go_meet
      case rel => exact ⟨_, (true), (by first | rfl | (simp; done) | (simp [*]; done)), H', ⟨by first | omega | exact Nat.le_refl _⟩, ⟨by repeat (first | (with_reducible first | exact HB.out | apply below_alloc | apply pw_below_drewN | apply below_drew1) | exact HB.out)⟩⟩
    · rw [if_neg c6] at H
      have c6b0 : decide (9000 < (l0.length : Int)) = false := decide_eq_false c6
      have c6b1 : decide (9000 < l0.length) = false := decide_eq_false (by omega)
      clear c6
      (first | rw [c6b0] | (simp only [i64_w, i32_w]; rw [c6b0]) | skip)
      have H' := Aside0.mk H
      clear H
      go_wp2
      go_meet
      case rel => exact ⟨_, (decide ((l1.length : Int) > 2000)), (by first | rfl | (simp; done) | (simp [*]; done)), H', ⟨by first | omega | exact Nat.le_refl _⟩, ⟨by repeat (first | (with_reducible first | exact HB.out | apply below_alloc | apply pw_below_drewN | apply below_drew1) | exact HB.out)⟩⟩
  case rest =>
    clear HC4
    try clear c1
    try clear p2
    try clear c3
    try clear c6
    try clear c6b0
    try clear c6b1
    obtain ⟨kq, x34_3, rfl, HA, HJ3, HB⟩ := hcut
    cases kq with
    | zero => exact absurd HA.out (by simp [rosettelaw03_FrameMakes.j0])
    | succ kj3 =>
      have H := HA.out
      clear HA
      simp only [rosettelaw03_FrameMakes.j0] at H
      by_cases c7 : x34_3 = true
      · subst c7
        have H1 : (some t172) = some r := by rw [if_pos rfl] at H; exact H
        clear H
        have H := H1
        clear H1
        obtain rfl := Option.some.inj H
        go_wp2
        go_ret
        exact ⟨by first | rfl | (simp [errW_none, errW_some] <;> rfl) | (simp [*, errW_none, errW_some] <;> rfl), by repeat (first | (with_reducible first | exact HB.out | apply below_alloc | apply pw_below_drewN | apply below_drew1) | exact HB.out)⟩
      · replace c7 := Bool.eq_false_iff.mpr c7
        subst c7
        have H1 : ((frame_Make.f l0).bind fun bt173 => ((rosetteref03_Make.f kj3 l0).bind fun bt177 => ((frame_Next.f l1).bind fun bt181 => ((rosetteref03_Next.f kj3 l1).bind fun bt186 => ((frame_All.f kj3 l1).bind fun bt191 => ((rosetteref03_All.f kj3 l1).bind fun bt196 => (if (strOfNums bt173.1).toList = (strOfNums bt177.1).toList then (if bt173.2 = bt177.2 then (if (strOfNums bt181.1).toList = (strOfNums bt186.1).toList then (if bt181.2.1 = bt186.2.1 then (if bt181.2.2 = bt186.2.2 then ((rosetteref03_Same.f kj3 bt191.1 bt196.1).bind fun t201 => (if t201 = true then (if bt191.2.1 = bt196.2.1 then (rosettelaw03_FrameMakes.j1 kj3 l0 t172 bt173.1 bt177.1 (bt191.2.2 == bt196.2.2)) else (rosettelaw03_FrameMakes.j1 kj3 l0 t172 bt173.1 bt177.1 false)) else (rosettelaw03_FrameMakes.j1 kj3 l0 t172 bt173.1 bt177.1 false))) else (rosettelaw03_FrameMakes.j1 kj3 l0 t172 bt173.1 bt177.1 false)) else (rosettelaw03_FrameMakes.j1 kj3 l0 t172 bt173.1 bt177.1 false)) else (rosettelaw03_FrameMakes.j1 kj3 l0 t172 bt173.1 bt177.1 false)) else (rosettelaw03_FrameMakes.j1 kj3 l0 t172 bt173.1 bt177.1 false)) else (rosettelaw03_FrameMakes.j1 kj3 l0 t172 bt173.1 bt177.1 false)))))))) = some r := by rw [if_neg (show ¬ (false = true) by decide)] at H; exact H
        clear H
        have H := H1
        clear H1
        replace H := Option.bind_eq_some_iff.mp H
        obtain ⟨⟨t173, t174⟩, A80, H⟩ := H
        replace H : ((rosetteref03_Make.f kj3 l0).bind fun bt177 => ((frame_Next.f l1).bind fun bt181 => ((rosetteref03_Next.f kj3 l1).bind fun bt186 => ((frame_All.f kj3 l1).bind fun bt191 => ((rosetteref03_All.f kj3 l1).bind fun bt196 => (if (strOfNums t173).toList = (strOfNums bt177.1).toList then (if t174 = bt177.2 then (if (strOfNums bt181.1).toList = (strOfNums bt186.1).toList then (if bt181.2.1 = bt186.2.1 then (if bt181.2.2 = bt186.2.2 then ((rosetteref03_Same.f kj3 bt191.1 bt196.1).bind fun t201 => (if t201 = true then (if bt191.2.1 = bt196.2.1 then (rosettelaw03_FrameMakes.j1 kj3 l0 t172 t173 bt177.1 (bt191.2.2 == bt196.2.2)) else (rosettelaw03_FrameMakes.j1 kj3 l0 t172 t173 bt177.1 false)) else (rosettelaw03_FrameMakes.j1 kj3 l0 t172 t173 bt177.1 false))) else (rosettelaw03_FrameMakes.j1 kj3 l0 t172 t173 bt177.1 false)) else (rosettelaw03_FrameMakes.j1 kj3 l0 t172 t173 bt177.1 false)) else (rosettelaw03_FrameMakes.j1 kj3 l0 t172 t173 bt177.1 false)) else (rosettelaw03_FrameMakes.j1 kj3 l0 t172 t173 bt177.1 false)) else (rosettelaw03_FrameMakes.j1 kj3 l0 t172 t173 bt177.1 false))))))) = some r := H
        have A8 := Aside0.mk A80
        clear A80
        replace H := Option.bind_eq_some_iff.mp H
        obtain ⟨⟨t177, t178⟩, A90, H⟩ := H
        replace H : ((frame_Next.f l1).bind fun bt181 => ((rosetteref03_Next.f kj3 l1).bind fun bt186 => ((frame_All.f kj3 l1).bind fun bt191 => ((rosetteref03_All.f kj3 l1).bind fun bt196 => (if (strOfNums t173).toList = (strOfNums t177).toList then (if t174 = t178 then (if (strOfNums bt181.1).toList = (strOfNums bt186.1).toList then (if bt181.2.1 = bt186.2.1 then (if bt181.2.2 = bt186.2.2 then ((rosetteref03_Same.f kj3 bt191.1 bt196.1).bind fun t201 => (if t201 = true then (if bt191.2.1 = bt196.2.1 then (rosettelaw03_FrameMakes.j1 kj3 l0 t172 t173 t177 (bt191.2.2 == bt196.2.2)) else (rosettelaw03_FrameMakes.j1 kj3 l0 t172 t173 t177 false)) else (rosettelaw03_FrameMakes.j1 kj3 l0 t172 t173 t177 false))) else (rosettelaw03_FrameMakes.j1 kj3 l0 t172 t173 t177 false)) else (rosettelaw03_FrameMakes.j1 kj3 l0 t172 t173 t177 false)) else (rosettelaw03_FrameMakes.j1 kj3 l0 t172 t173 t177 false)) else (rosettelaw03_FrameMakes.j1 kj3 l0 t172 t173 t177 false)) else (rosettelaw03_FrameMakes.j1 kj3 l0 t172 t173 t177 false)))))) = some r := H
        have A9 := Aside0.mk A90
        clear A90
        replace H := Option.bind_eq_some_iff.mp H
        obtain ⟨⟨t181, t182, t183⟩, A100, H⟩ := H
        replace H : ((rosetteref03_Next.f kj3 l1).bind fun bt186 => ((frame_All.f kj3 l1).bind fun bt191 => ((rosetteref03_All.f kj3 l1).bind fun bt196 => (if (strOfNums t173).toList = (strOfNums t177).toList then (if t174 = t178 then (if (strOfNums t181).toList = (strOfNums bt186.1).toList then (if t182 = bt186.2.1 then (if t183 = bt186.2.2 then ((rosetteref03_Same.f kj3 bt191.1 bt196.1).bind fun t201 => (if t201 = true then (if bt191.2.1 = bt196.2.1 then (rosettelaw03_FrameMakes.j1 kj3 l0 t172 t173 t177 (bt191.2.2 == bt196.2.2)) else (rosettelaw03_FrameMakes.j1 kj3 l0 t172 t173 t177 false)) else (rosettelaw03_FrameMakes.j1 kj3 l0 t172 t173 t177 false))) else (rosettelaw03_FrameMakes.j1 kj3 l0 t172 t173 t177 false)) else (rosettelaw03_FrameMakes.j1 kj3 l0 t172 t173 t177 false)) else (rosettelaw03_FrameMakes.j1 kj3 l0 t172 t173 t177 false)) else (rosettelaw03_FrameMakes.j1 kj3 l0 t172 t173 t177 false)) else (rosettelaw03_FrameMakes.j1 kj3 l0 t172 t173 t177 false))))) = some r := H
        have A10 := Aside0.mk A100
        clear A100
        replace H := Option.bind_eq_some_iff.mp H
        obtain ⟨⟨t186, t187, t188⟩, A110, H⟩ := H
        replace H : ((frame_All.f kj3 l1).bind fun bt191 => ((rosetteref03_All.f kj3 l1).bind fun bt196 => (if (strOfNums t173).toList = (strOfNums t177).toList then (if t174 = t178 then (if (strOfNums t181).toList = (strOfNums t186).toList then (if t182 = t187 then (if t183 = t188 then ((rosetteref03_Same.f kj3 bt191.1 bt196.1).bind fun t201 => (if t201 = true then (if bt191.2.1 = bt196.2.1 then (rosettelaw03_FrameMakes.j1 kj3 l0 t172 t173 t177 (bt191.2.2 == bt196.2.2)) else (rosettelaw03_FrameMakes.j1 kj3 l0 t172 t173 t177 false)) else (rosettelaw03_FrameMakes.j1 kj3 l0 t172 t173 t177 false))) else (rosettelaw03_FrameMakes.j1 kj3 l0 t172 t173 t177 false)) else (rosettelaw03_FrameMakes.j1 kj3 l0 t172 t173 t177 false)) else (rosettelaw03_FrameMakes.j1 kj3 l0 t172 t173 t177 false)) else (rosettelaw03_FrameMakes.j1 kj3 l0 t172 t173 t177 false)) else (rosettelaw03_FrameMakes.j1 kj3 l0 t172 t173 t177 false)))) = some r := H
        have A11 := Aside0.mk A110
        clear A110
        replace H := Option.bind_eq_some_iff.mp H
        obtain ⟨⟨t191, t192, t193⟩, A120, H⟩ := H
        replace H : ((rosetteref03_All.f kj3 l1).bind fun bt196 => (if (strOfNums t173).toList = (strOfNums t177).toList then (if t174 = t178 then (if (strOfNums t181).toList = (strOfNums t186).toList then (if t182 = t187 then (if t183 = t188 then ((rosetteref03_Same.f kj3 t191 bt196.1).bind fun t201 => (if t201 = true then (if t192 = bt196.2.1 then (rosettelaw03_FrameMakes.j1 kj3 l0 t172 t173 t177 (t193 == bt196.2.2)) else (rosettelaw03_FrameMakes.j1 kj3 l0 t172 t173 t177 false)) else (rosettelaw03_FrameMakes.j1 kj3 l0 t172 t173 t177 false))) else (rosettelaw03_FrameMakes.j1 kj3 l0 t172 t173 t177 false)) else (rosettelaw03_FrameMakes.j1 kj3 l0 t172 t173 t177 false)) else (rosettelaw03_FrameMakes.j1 kj3 l0 t172 t173 t177 false)) else (rosettelaw03_FrameMakes.j1 kj3 l0 t172 t173 t177 false)) else (rosettelaw03_FrameMakes.j1 kj3 l0 t172 t173 t177 false))) = some r := H
        have A12 := Aside0.mk A120
        clear A120
        replace H := Option.bind_eq_some_iff.mp H
        obtain ⟨⟨t196, t197, t198⟩, A130, H⟩ := H
        replace H : (if (strOfNums t173).toList = (strOfNums t177).toList then (if t174 = t178 then (if (strOfNums t181).toList = (strOfNums t186).toList then (if t182 = t187 then (if t183 = t188 then ((rosetteref03_Same.f kj3 t191 t196).bind fun t201 => (if t201 = true then (if t192 = t197 then (rosettelaw03_FrameMakes.j1 kj3 l0 t172 t173 t177 (t193 == t198)) else (rosettelaw03_FrameMakes.j1 kj3 l0 t172 t173 t177 false)) else (rosettelaw03_FrameMakes.j1 kj3 l0 t172 t173 t177 false))) else (rosettelaw03_FrameMakes.j1 kj3 l0 t172 t173 t177 false)) else (rosettelaw03_FrameMakes.j1 kj3 l0 t172 t173 t177 false)) else (rosettelaw03_FrameMakes.j1 kj3 l0 t172 t173 t177 false)) else (rosettelaw03_FrameMakes.j1 kj3 l0 t172 t173 t177 false)) else (rosettelaw03_FrameMakes.j1 kj3 l0 t172 t173 t177 false)) = some r := H
        have A13 := Aside0.mk A130
        clear A130
        have HC14 := Aside0.mk H
        clear H
        go_upto_region 10 with (first | ((with_reducible refine gate_callee (f := 9) rfl ?_); refine goesL_ (some 38) rfl rfl Try.func9 (by kernel_rfl) rfl #[.slice A0 l0.length c0] rfl (by (try simp only [List.map_toArray, List.map_cons, List.map_nil]); first | done | rfl | (simp only [List.length_drop, List.length_take]; rfl)) ?_; (with_reducible refine (frame_Make.calls _ _ l0 t173 t174 _ ?side1 ?side2 A8.out).mono ?_); (case side1 => repeat (first | exact (Kd.C_below HR0.out HB.out) | (with_reducible refine Kd.C_alloc ?_ _) | (with_reducible refine Kd.C_drewN ?_ _) | (with_reducible refine Kd.C_drew ?_))); (case side2 => exact HC0.out); rintro e w15 ⟨v175, rfl, ho0, hb⟩; refine ⟨_, rfl, ?_⟩; have n0_ := Aside0.mk (Kd.R_lower ho0 (below_size (by repeat (first | (with_reducible first | exact HB.out | apply below_alloc | apply pw_below_drewN | apply below_drew1) | exact HB.out)))); have n1_ := Aside0.mk (below_step (by repeat (first | (with_reducible first | exact HB.out | apply below_alloc | apply pw_below_drewN | apply below_drew1) | exact HB.out)) hb); clear HB; have HO176 := n0_; have HB := n1_; clear n0_ n1_; (try clear hb); (try clear hb2); (try clear hk); (try clear hi); (try clear ho0)) | ((with_reducible refine gate_callee (f := 10) rfl ?_); refine goesL_ (some 43) rfl rfl Try.func10 (by kernel_rfl) rfl #[.slice A0 l0.length c0] rfl (by (try simp only [List.map_toArray, List.map_cons, List.map_nil]); first | done | rfl | (simp only [List.length_drop, List.length_take]; rfl)) ?_; (with_reducible refine (rosetteref03_Make.calls kj3 _ _ l0 t177 t178 _ ?side1 ?side2 A9.out).mono ?_); (case side1 => repeat (first | exact (Kd.C_below HR0.out HB.out) | (with_reducible refine Kd.C_alloc ?_ _) | (with_reducible refine Kd.C_drewN ?_ _) | (with_reducible refine Kd.C_drew ?_))); (case side2 => exact HC0.out); rintro e w16 ⟨v179, rfl, ho0, hb⟩; refine ⟨_, rfl, ?_⟩; have n0_ := Aside0.mk (Kd.R_elder' (by (with_reducible repeat (first | apply Kd.R_alloc | apply Kd.R_drewN | apply Kd.R_drew)); exact HO176.out) (Kd.R_base ho0) hb); have n1_ := Aside0.mk (Kd.R_lower (Kd.R_new' ho0 (Kd.R_lt (by (with_reducible repeat (first | apply Kd.R_alloc | apply Kd.R_drewN | apply Kd.R_drew)); exact HO176.out))) (below_size (by repeat (first | (with_reducible first | exact HB.out | apply below_alloc | apply pw_below_drewN | apply below_drew1) | exact HB.out)))); have n2_ := Aside0.mk (below_step (by repeat (first | (with_reducible first | exact HB.out | apply below_alloc | apply pw_below_drewN | apply below_drew1) | exact HB.out)) hb); clear HO176; clear HB; have HO176 := n0_; have HO180 := n1_; have HB := n2_; clear n0_ n1_ n2_; (try clear hb); (try clear hb2); (try clear hk); (try clear hi); (try clear ho0)) | ((with_reducible refine gate_callee (f := 11) rfl ?_); refine goesL_ (some 48) rfl rfl Try.func11 (by kernel_rfl) rfl #[.slice A1 l1.length c1] rfl (by (try simp only [List.map_toArray, List.map_cons, List.map_nil]); first | done | rfl | (simp only [List.length_drop, List.length_take]; rfl)) ?_; (with_reducible refine (frame_Next.calls _ _ l1 t181 t182 t183 _ ?side1 ?side2 A10.out).mono ?_); (case side1 => repeat (first | exact (Kd.C_below HR1.out HB.out) | (with_reducible refine Kd.C_alloc ?_ _) | (with_reducible refine Kd.C_drewN ?_ _) | (with_reducible refine Kd.C_drew ?_))); (case side2 => exact HC1.out); rintro e w17 ⟨v184, rfl, ho0, hb⟩; refine ⟨_, rfl, ?_⟩; have n0_ := Aside0.mk (Kd.R_elder' (by (with_reducible repeat (first | apply Kd.R_alloc | apply Kd.R_drewN | apply Kd.R_drew)); exact HO176.out) (Kd.R_base ho0) hb); have n1_ := Aside0.mk (Kd.R_elder' (by (with_reducible repeat (first | apply Kd.R_alloc | apply Kd.R_drewN | apply Kd.R_drew)); exact HO180.out) (Kd.R_base ho0) hb); have n2_ := Aside0.mk (Kd.R_lower (Kd.R_new' (Kd.R_new' ho0 (Kd.R_lt (by (with_reducible repeat (first | apply Kd.R_alloc | apply Kd.R_drewN | apply Kd.R_drew)); exact HO176.out))) (Kd.R_lt (by (with_reducible repeat (first | apply Kd.R_alloc | apply Kd.R_drewN | apply Kd.R_drew)); exact HO180.out))) (below_size (by repeat (first | (with_reducible first | exact HB.out | apply below_alloc | apply pw_below_drewN | apply below_drew1) | exact HB.out)))); have n3_ := Aside0.mk (below_step (by repeat (first | (with_reducible first | exact HB.out | apply below_alloc | apply pw_below_drewN | apply below_drew1) | exact HB.out)) hb); clear HO176; clear HO180; clear HB; have HO176 := n0_; have HO180 := n1_; have HO185 := n2_; have HB := n3_; clear n0_ n1_ n2_ n3_; (try clear hb); (try clear hb2); (try clear hk); (try clear hi); (try clear ho0)) | ((with_reducible refine gate_callee (f := 12) rfl ?_); refine goesL_ (some 54) rfl rfl Try.func12 (by kernel_rfl) rfl #[.slice A1 l1.length c1] rfl (by (try simp only [List.map_toArray, List.map_cons, List.map_nil]); first | done | rfl | (simp only [List.length_drop, List.length_take]; rfl)) ?_; (with_reducible refine (rosetteref03_Next.calls kj3 _ _ l1 t186 t187 t188 _ ?side1 ?side2 A11.out).mono ?_); (case side1 => repeat (first | exact (Kd.C_below HR1.out HB.out) | (with_reducible refine Kd.C_alloc ?_ _) | (with_reducible refine Kd.C_drewN ?_ _) | (with_reducible refine Kd.C_drew ?_))); (case side2 => exact HC1.out); rintro e w18 ⟨v189, rfl, ho0, hb⟩; refine ⟨_, rfl, ?_⟩; have n0_ := Aside0.mk (Kd.R_elder' (by (with_reducible repeat (first | apply Kd.R_alloc | apply Kd.R_drewN | apply Kd.R_drew)); exact HO176.out) (Kd.R_base ho0) hb); have n1_ := Aside0.mk (Kd.R_elder' (by (with_reducible repeat (first | apply Kd.R_alloc | apply Kd.R_drewN | apply Kd.R_drew)); exact HO180.out) (Kd.R_base ho0) hb); have n2_ := Aside0.mk (Kd.R_elder' (by (with_reducible repeat (first | apply Kd.R_alloc | apply Kd.R_drewN | apply Kd.R_drew)); exact HO185.out) (Kd.R_base ho0) hb); have n3_ := Aside0.mk (Kd.R_lower (Kd.R_new' (Kd.R_new' (Kd.R_new' ho0 (Kd.R_lt (by (with_reducible repeat (first | apply Kd.R_alloc | apply Kd.R_drewN | apply Kd.R_drew)); exact HO176.out))) (Kd.R_lt (by (with_reducible repeat (first | apply Kd.R_alloc | apply Kd.R_drewN | apply Kd.R_drew)); exact HO180.out))) (Kd.R_lt (by (with_reducible repeat (first | apply Kd.R_alloc | apply Kd.R_drewN | apply Kd.R_drew)); exact HO185.out))) (below_size (by repeat (first | (with_reducible first | exact HB.out | apply below_alloc | apply pw_below_drewN | apply below_drew1) | exact HB.out)))); have n4_ := Aside0.mk (below_step (by repeat (first | (with_reducible first | exact HB.out | apply below_alloc | apply pw_below_drewN | apply below_drew1) | exact HB.out)) hb); clear HO176; clear HO180; clear HO185; clear HB; have HO176 := n0_; have HO180 := n1_; have HO185 := n2_; have HO190 := n3_; have HB := n4_; clear n0_ n1_ n2_ n3_ n4_; (try clear hb); (try clear hb2); (try clear hk); (try clear hi); (try clear ho0)) | ((with_reducible refine gate_callee (f := 13) rfl ?_); refine goesL_ (some 60) rfl rfl Try.func13 (by kernel_rfl) rfl #[.slice A1 l1.length c1] rfl (by (try simp only [List.map_toArray, List.map_cons, List.map_nil]); first | done | rfl | (simp only [List.length_drop, List.length_take]; rfl)) ?_; (with_reducible refine (frame_All.calls kj3 _ _ l1 t191 t192 t193 _ ?side1 ?side2 A12.out).mono ?_); (case side1 => repeat (first | exact (Kd.C_below HR1.out HB.out) | (with_reducible refine Kd.C_alloc ?_ _) | (with_reducible refine Kd.C_drewN ?_ _) | (with_reducible refine Kd.C_drew ?_))); (case side2 => exact HC1.out); rintro e w19 ⟨v194, rfl, ho0, hb⟩; refine ⟨_, rfl, ?_⟩; have n0_ := Aside0.mk (Kd.R_below (by (with_reducible repeat (first | apply Kd.R_alloc | apply Kd.R_drewN | apply Kd.R_drew)); exact HO176.out) hb); have n1_ := Aside0.mk (Kd.R_below (by (with_reducible repeat (first | apply Kd.R_alloc | apply Kd.R_drewN | apply Kd.R_drew)); exact HO180.out) hb); have n2_ := Aside0.mk (Kd.R_below (by (with_reducible repeat (first | apply Kd.R_alloc | apply Kd.R_drewN | apply Kd.R_drew)); exact HO185.out) hb); have n3_ := Aside0.mk (Kd.R_below (by (with_reducible repeat (first | apply Kd.R_alloc | apply Kd.R_drewN | apply Kd.R_drew)); exact HO190.out) hb); have n4_ := Aside0.mk (Kd.S_lower (Kd.S_new' (Kd.S_new' (Kd.S_new' (Kd.S_new' ho0 (Kd.R_lt (by (with_reducible repeat (first | apply Kd.R_alloc | apply Kd.R_drewN | apply Kd.R_drew)); exact HO176.out))) (Kd.R_lt (by (with_reducible repeat (first | apply Kd.R_alloc | apply Kd.R_drewN | apply Kd.R_drew)); exact HO180.out))) (Kd.R_lt (by (with_reducible repeat (first | apply Kd.R_alloc | apply Kd.R_drewN | apply Kd.R_drew)); exact HO185.out))) (Kd.R_lt (by (with_reducible repeat (first | apply Kd.R_alloc | apply Kd.R_drewN | apply Kd.R_drew)); exact HO190.out))) (below_size (by repeat (first | (with_reducible first | exact HB.out | apply below_alloc | apply pw_below_drewN | apply below_drew1) | exact HB.out)))); have n5_ := Aside0.mk (below_step (by repeat (first | (with_reducible first | exact HB.out | apply below_alloc | apply pw_below_drewN | apply below_drew1) | exact HB.out)) hb); clear HO176; clear HO180; clear HO185; clear HO190; clear HB; have HO176 := n0_; have HO180 := n1_; have HO185 := n2_; have HO190 := n3_; have HO195 := n4_; have HB := n5_; clear n0_ n1_ n2_ n3_ n4_ n5_; (try clear hb); (try clear hb2); (try clear hk); (try clear hi); (try clear ho0)) | ((with_reducible refine gate_callee (f := 14) rfl ?_); refine goesL_ (some 66) rfl rfl Try.func14 (by kernel_rfl) rfl #[.slice A1 l1.length c1] rfl (by (try simp only [List.map_toArray, List.map_cons, List.map_nil]); first | done | rfl | (simp only [List.length_drop, List.length_take]; rfl)) ?_; (with_reducible refine (rosetteref03_All.calls kj3 _ _ l1 t196 t197 t198 _ ?side1 ?side2 A13.out).mono ?_); (case side1 => repeat (first | exact (Kd.C_below HR1.out HB.out) | (with_reducible refine Kd.C_alloc ?_ _) | (with_reducible refine Kd.C_drewN ?_ _) | (with_reducible refine Kd.C_drew ?_))); (case side2 => exact HC1.out); rintro e w20 ⟨v199, rfl, ho0, hb⟩; refine ⟨_, rfl, ?_⟩; have n0_ := Aside0.mk (Kd.R_below (by (with_reducible repeat (first | apply Kd.R_alloc | apply Kd.R_drewN | apply Kd.R_drew)); exact HO176.out) hb); have n1_ := Aside0.mk (Kd.R_below (by (with_reducible repeat (first | apply Kd.R_alloc | apply Kd.R_drewN | apply Kd.R_drew)); exact HO180.out) hb); have n2_ := Aside0.mk (Kd.R_below (by (with_reducible repeat (first | apply Kd.R_alloc | apply Kd.R_drewN | apply Kd.R_drew)); exact HO185.out) hb); have n3_ := Aside0.mk (Kd.R_below (by (with_reducible repeat (first | apply Kd.R_alloc | apply Kd.R_drewN | apply Kd.R_drew)); exact HO190.out) hb); have n4_ := Aside0.mk (Kd.S_elder' (by (with_reducible repeat (first | apply Kd.S_alloc | apply Kd.S_drewN | apply Kd.S_drew)); exact HO195.out) (Kd.S_base ho0) hb); have n5_ := Aside0.mk (Kd.S_lower (Kd.S_new' (Kd.S_new' (Kd.S_new' (Kd.S_new' (Kd.S_new' ho0 (Kd.R_lt (by (with_reducible repeat (first | apply Kd.R_alloc | apply Kd.R_drewN | apply Kd.R_drew)); exact HO176.out))) (Kd.R_lt (by (with_reducible repeat (first | apply Kd.R_alloc | apply Kd.R_drewN | apply Kd.R_drew)); exact HO180.out))) (Kd.R_lt (by (with_reducible repeat (first | apply Kd.R_alloc | apply Kd.R_drewN | apply Kd.R_drew)); exact HO185.out))) (Kd.R_lt (by (with_reducible repeat (first | apply Kd.R_alloc | apply Kd.R_drewN | apply Kd.R_drew)); exact HO190.out))) (Kd.S_lt (by (with_reducible repeat (first | apply Kd.S_alloc | apply Kd.S_drewN | apply Kd.S_drew)); exact HO195.out))) (below_size (by repeat (first | (with_reducible first | exact HB.out | apply below_alloc | apply pw_below_drewN | apply below_drew1) | exact HB.out)))); have n6_ := Aside0.mk (below_step (by repeat (first | (with_reducible first | exact HB.out | apply below_alloc | apply pw_below_drewN | apply below_drew1) | exact HB.out)) hb); clear HO176; clear HO180; clear HO185; clear HO190; clear HO195; clear HB; have HO176 := n0_; have HO180 := n1_; have HO185 := n2_; have HO190 := n3_; have HO195 := n4_; have HO200 := n5_; have HB := n6_; clear n0_ n1_ n2_ n3_ n4_ n5_ n6_; (try clear hb); (try clear hb2); (try clear hk); (try clear hi); (try clear ho0)))
        (try simp only [Act.put, List.setIfInBounds_toArray, List.set_cons_zero, List.set_cons_succ])
        go_cut [22] (fun v22 wc => ∃ (kq : Nat) (x22_13 : Bool), v22 = .bool x22_13 ∧ Aside0 (rosettelaw03_FrameMakes.j1 kq l0 t172 t173 t177 x22_13 = some r) ∧ Aside0 (kq ≤ kj3) ∧ Aside0 (Kd.R (Kd.int .u8) 5 wc w.heap.size (fun k_ => some k_ ≠ (v179 : Value).ownBlock) v175 t173) ∧ Aside0 (Kd.R (Kd.int .u8) 5 wc w.heap.size (fun k_ => some k_ ≠ (v175 : Value).ownBlock) v179 t177) ∧ Aside0 (Below w.heap.size w wc))
        case first =>
          have H := HC14.out
          clear HC14
          by_cases c21 : (strOfNums t173).toList = (strOfNums t177).toList
          · rw [if_pos c21] at H
            have c21b0 : ((strOfNums t173).toList == (strOfNums t177).toList) = true := beq_iff_eq.mpr c21
            have c21b1 : ((strOfNums t173).toList != (strOfNums t177).toList) = false := bne_eq_false_iff_eq.mpr c21
            clear c21
            (first | rw [c21b0] | (simp only [i64_w, i32_w]; rw [c21b0]) | skip)
            by_cases c22 : t174 = t178
            · rw [if_pos c22] at H
              have c22b0 : (t174 == t178) = true := beq_iff_eq.mpr c22
              have c22b1 : (t174 != t178) = false := bne_eq_false_iff_eq.mpr c22
              clear c22
              by_cases c23 : (strOfNums t181).toList = (strOfNums t186).toList
              · rw [if_pos c23] at H
                have c23b0 : ((strOfNums t181).toList == (strOfNums t186).toList) = true := beq_iff_eq.mpr c23
                have c23b1 : ((strOfNums t181).toList != (strOfNums t186).toList) = false := bne_eq_false_iff_eq.mpr c23
                clear c23
                by_cases c24 : t182 = t187
                · rw [if_pos c24] at H
                  have c24b0 : (t182 == t187) = true := beq_iff_eq.mpr c24
                  have c24b1 : (t182 != t187) = false := bne_eq_false_iff_eq.mpr c24
                  clear c24
                  by_cases c25 : t183 = t188
                  · rw [if_pos c25] at H
                    have c25b0 : (t183 == t188) = true := beq_iff_eq.mpr c25
                    have c25b1 : (t183 != t188) = false := bne_eq_false_iff_eq.mpr c25
                    clear c25
                    replace H := Option.bind_eq_some_iff.mp H
                    obtain ⟨t201, A260, H⟩ := H
                    replace H : (if t201 = true then (if t192 = t197 then (rosettelaw03_FrameMakes.j1 kj3 l0 t172 t173 t177 (t193 == t198)) else (rosettelaw03_FrameMakes.j1 kj3 l0 t172 t173 t177 false)) else (rosettelaw03_FrameMakes.j1 kj3 l0 t172 t173 t177 false)) = some r := H
                    have A26 := Aside0.mk A260
                    clear A260
                    by_cases c27 : t201 = true
                    · subst c27
                      have H1 : (if t192 = t197 then (rosettelaw03_FrameMakes.j1 kj3 l0 t172 t173 t177 (t193 == t198)) else (rosettelaw03_FrameMakes.j1 kj3 l0 t172 t173 t177 false)) = some r := by rw [if_pos rfl] at H; exact H
                      clear H
                      have H := H1
                      clear H1
                      by_cases c28 : t192 = t197
                      · rw [if_pos c28] at H
                        have c28b0 : (t192 == t197) = true := beq_iff_eq.mpr c28
                        have c28b1 : (t192 != t197) = false := bne_eq_false_iff_eq.mpr c28
                        clear c28
                        have H' := Aside0.mk H
                        clear H
                        have hcv29 := own_string (P := Try.prog) Try.underlying22 Try.underlying5 Try.underlying9 (Kd.own_of_R HO176.out)
                        have hcv30 := own_string (P := Try.prog) Try.underlying22 Try.underlying5 Try.underlying9 (Kd.own_of_R HO180.out)
                        have hcv31 := own_string (P := Try.prog) Try.underlying22 Try.underlying5 Try.underlying9 (Kd.own_of_R HO185.out)
                        have hcv32 := own_string (P := Try.prog) Try.underlying22 Try.underlying5 Try.underlying9 (Kd.own_of_R HO190.out)
                        obtain ⟨Ao33, co33, eo33⟩ := Kd.S_slice HO195.out
                        subst eo33
                        obtain ⟨Ao34, co34, eo34⟩ := Kd.S_slice HO200.out
                        subst eo34
                        go_wp2_with (first | (go_at_call 15; (with_reducible refine (rosetteref03_Same.calls kj3 _ _ t191 _ _ t196 true _ ?side1 ?side2 ?side3 ?side4 A26.out).mono ?_); (case side1 => repeat (first | exact (Kd.S_reads' HO195.out).2.2 | (with_reducible refine Kd.C_alloc ?_ _) | (with_reducible refine Kd.C_drewN ?_ _) | (with_reducible refine Kd.C_drew ?_))); (case side2 => exact (Kd.S_reads' HO195.out).2.1); (case side3 => repeat (first | exact (Kd.S_reads' HO200.out).2.2 | (with_reducible refine Kd.C_alloc ?_ _) | (with_reducible refine Kd.C_drewN ?_ _) | (with_reducible refine Kd.C_drew ?_))); (case side4 => exact (Kd.S_reads' HO200.out).2.1); rintro e w' ⟨rfl, ⟨nd, rfl⟩⟩))
                        go_meet
                        case rel => exact ⟨_, ((t193 == t198)), (by first | rfl | (simp; done) | (simp [*]; done)), H', ⟨by have := HJ3.out; first | omega | exact Nat.le_refl _⟩, ⟨by (with_reducible repeat (first | apply Kd.R_alloc | apply Kd.R_drewN | apply Kd.R_drew)); exact Kd.R_mono HO176.out (fun _ hk => hk.1.1.2)⟩, ⟨by (with_reducible repeat (first | apply Kd.R_alloc | apply Kd.R_drewN | apply Kd.R_drew)); exact Kd.R_mono HO180.out (fun _ hk => hk.1.1.2)⟩, ⟨by repeat (first | (with_reducible first | exact HB.out | apply below_alloc | apply pw_below_drewN | apply below_drew1) | exact HB.out)⟩⟩
                      · rw [if_neg c28] at H
                        have c28b0 : (t192 == t197) = false := beq_eq_false_iff_ne.mpr c28
                        have c28b1 : (t192 != t197) = true := bne_iff_ne.mpr c28
                        have H' := Aside0.mk H
                        clear H
                        have hcv35 := own_string (P := Try.prog) Try.underlying22 Try.underlying5 Try.underlying9 (Kd.own_of_R HO176.out)
                        have hcv36 := own_string (P := Try.prog) Try.underlying22 Try.underlying5 Try.underlying9 (Kd.own_of_R HO180.out)
                        have hcv37 := own_string (P := Try.prog) Try.underlying22 Try.underlying5 Try.underlying9 (Kd.own_of_R HO185.out)
                        have hcv38 := own_string (P := Try.prog) Try.underlying22 Try.underlying5 Try.underlying9 (Kd.own_of_R HO190.out)
                        obtain ⟨Ao39, co39, eo39⟩ := Kd.S_slice HO195.out
                        subst eo39
                        obtain ⟨Ao40, co40, eo40⟩ := Kd.S_slice HO200.out
                        subst eo40
                        go_wp2_with (first | (go_at_call 15; (with_reducible refine (rosetteref03_Same.calls kj3 _ _ t191 _ _ t196 true _ ?side1 ?side2 ?side3 ?side4 A26.out).mono ?_); (case side1 => repeat (first | exact (Kd.S_reads' HO195.out).2.2 | (with_reducible refine Kd.C_alloc ?_ _) | (with_reducible refine Kd.C_drewN ?_ _) | (with_reducible refine Kd.C_drew ?_))); (case side2 => exact (Kd.S_reads' HO195.out).2.1); (case side3 => repeat (first | exact (Kd.S_reads' HO200.out).2.2 | (with_reducible refine Kd.C_alloc ?_ _) | (with_reducible refine Kd.C_drewN ?_ _) | (with_reducible refine Kd.C_drew ?_))); (case side4 => exact (Kd.S_reads' HO200.out).2.1); rintro e w' ⟨rfl, ⟨nd, rfl⟩⟩))
                        go_meet
                        case rel => exact ⟨_, (false), (by first | rfl | (simp; done) | (simp [*]; done)), H', ⟨by have := HJ3.out; first | omega | exact Nat.le_refl _⟩, ⟨by (with_reducible repeat (first | apply Kd.R_alloc | apply Kd.R_drewN | apply Kd.R_drew)); exact Kd.R_mono HO176.out (fun _ hk => hk.1.1.2)⟩, ⟨by (with_reducible repeat (first | apply Kd.R_alloc | apply Kd.R_drewN | apply Kd.R_drew)); exact Kd.R_mono HO180.out (fun _ hk => hk.1.1.2)⟩, ⟨by repeat (first | (with_reducible first | exact HB.out | apply below_alloc | apply pw_below_drewN | apply below_drew1) | exact HB.out)⟩⟩
                    · replace c27 := Bool.eq_false_iff.mpr c27
                      subst c27
                      have H1 : (rosettelaw03_FrameMakes.j1 kj3 l0 t172 t173 t177 false) = some r := by rw [if_neg (show ¬ (false = true) by decide)] at H; exact H
                      clear H
                      have H := H1
                      clear H1
                      have H' := Aside0.mk H
                      clear H
                      have hcv41 := own_string (P := Try.prog) Try.underlying22 Try.underlying5 Try.underlying9 (Kd.own_of_R HO176.out)
                      have hcv42 := own_string (P := Try.prog) Try.underlying22 Try.underlying5 Try.underlying9 (Kd.own_of_R HO180.out)
                      have hcv43 := own_string (P := Try.prog) Try.underlying22 Try.underlying5 Try.underlying9 (Kd.own_of_R HO185.out)
                      have hcv44 := own_string (P := Try.prog) Try.underlying22 Try.underlying5 Try.underlying9 (Kd.own_of_R HO190.out)
                      obtain ⟨Ao45, co45, eo45⟩ := Kd.S_slice HO195.out
                      subst eo45
                      obtain ⟨Ao46, co46, eo46⟩ := Kd.S_slice HO200.out
                      subst eo46
                      go_wp2_with (first | (go_at_call 15; (with_reducible refine (rosetteref03_Same.calls kj3 _ _ t191 _ _ t196 false _ ?side1 ?side2 ?side3 ?side4 A26.out).mono ?_); (case side1 => repeat (first | exact (Kd.S_reads' HO195.out).2.2 | (with_reducible refine Kd.C_alloc ?_ _) | (with_reducible refine Kd.C_drewN ?_ _) | (with_reducible refine Kd.C_drew ?_))); (case side2 => exact (Kd.S_reads' HO195.out).2.1); (case side3 => repeat (first | exact (Kd.S_reads' HO200.out).2.2 | (with_reducible refine Kd.C_alloc ?_ _) | (with_reducible refine Kd.C_drewN ?_ _) | (with_reducible refine Kd.C_drew ?_))); (case side4 => exact (Kd.S_reads' HO200.out).2.1); rintro e w' ⟨rfl, ⟨nd, rfl⟩⟩))
                      go_meet
                      case rel => exact ⟨_, (false), (by first | rfl | (simp; done) | (simp [*]; done)), H', ⟨by have := HJ3.out; first | omega | exact Nat.le_refl _⟩, ⟨by (with_reducible repeat (first | apply Kd.R_alloc | apply Kd.R_drewN | apply Kd.R_drew)); exact Kd.R_mono HO176.out (fun _ hk => hk.1.1.2)⟩, ⟨by (with_reducible repeat (first | apply Kd.R_alloc | apply Kd.R_drewN | apply Kd.R_drew)); exact Kd.R_mono HO180.out (fun _ hk => hk.1.1.2)⟩, ⟨by repeat (first | (with_reducible first | exact HB.out | apply below_alloc | apply pw_below_drewN | apply below_drew1) | exact HB.out)⟩⟩
                  · rw [if_neg c25] at H
                    have c25b0 : (t183 == t188) = false := beq_eq_false_iff_ne.mpr c25
                    have c25b1 : (t183 != t188) = true := bne_iff_ne.mpr c25
                    have H' := Aside0.mk H
                    clear H
                    have hcv47 := own_string (P := Try.prog) Try.underlying22 Try.underlying5 Try.underlying9 (Kd.own_of_R HO176.out)
                    have hcv48 := own_string (P := Try.prog) Try.underlying22 Try.underlying5 Try.underlying9 (Kd.own_of_R HO180.out)
                    have hcv49 := own_string (P := Try.prog) Try.underlying22 Try.underlying5 Try.underlying9 (Kd.own_of_R HO185.out)
                    have hcv50 := own_string (P := Try.prog) Try.underlying22 Try.underlying5 Try.underlying9 (Kd.own_of_R HO190.out)
                    go_wp2
                    go_meet
                    case rel => exact ⟨_, (false), (by first | rfl | (simp; done) | (simp [*]; done)), H', ⟨by have := HJ3.out; first | omega | exact Nat.le_refl _⟩, ⟨by (with_reducible repeat (first | apply Kd.R_alloc | apply Kd.R_drewN | apply Kd.R_drew)); exact Kd.R_mono HO176.out (fun _ hk => hk.1.1.2)⟩, ⟨by (with_reducible repeat (first | apply Kd.R_alloc | apply Kd.R_drewN | apply Kd.R_drew)); exact Kd.R_mono HO180.out (fun _ hk => hk.1.1.2)⟩, ⟨by repeat (first | (with_reducible first | exact HB.out | apply below_alloc | apply pw_below_drewN | apply below_drew1) | exact HB.out)⟩⟩
                · rw [if_neg c24] at H
                  have c24b0 : (t182 == t187) = false := beq_eq_false_iff_ne.mpr c24
                  have c24b1 : (t182 != t187) = true := bne_iff_ne.mpr c24
                  have H' := Aside0.mk H
                  clear H
                  have hcv51 := own_string (P := Try.prog) Try.underlying22 Try.underlying5 Try.underlying9 (Kd.own_of_R HO176.out)
                  have hcv52 := own_string (P := Try.prog) Try.underlying22 Try.underlying5 Try.underlying9 (Kd.own_of_R HO180.out)
                  have hcv53 := own_string (P := Try.prog) Try.underlying22 Try.underlying5 Try.underlying9 (Kd.own_of_R HO185.out)
                  have hcv54 := own_string (P := Try.prog) Try.underlying22 Try.underlying5 Try.underlying9 (Kd.own_of_R HO190.out)
                  go_wp2
                  go_meet
                  case rel => exact ⟨_, (false), (by first | rfl | (simp; done) | (simp [*]; done)), H', ⟨by have := HJ3.out; first | omega | exact Nat.le_refl _⟩, ⟨by (with_reducible repeat (first | apply Kd.R_alloc | apply Kd.R_drewN | apply Kd.R_drew)); exact Kd.R_mono HO176.out (fun _ hk => hk.1.1.2)⟩, ⟨by (with_reducible repeat (first | apply Kd.R_alloc | apply Kd.R_drewN | apply Kd.R_drew)); exact Kd.R_mono HO180.out (fun _ hk => hk.1.1.2)⟩, ⟨by repeat (first | (with_reducible first | exact HB.out | apply below_alloc | apply pw_below_drewN | apply below_drew1) | exact HB.out)⟩⟩
              · rw [if_neg c23] at H
                have c23b0 : ((strOfNums t181).toList == (strOfNums t186).toList) = false := beq_eq_false_iff_ne.mpr c23
                have c23b1 : ((strOfNums t181).toList != (strOfNums t186).toList) = true := bne_iff_ne.mpr c23
                have H' := Aside0.mk H
                clear H
                have hcv55 := own_string (P := Try.prog) Try.underlying22 Try.underlying5 Try.underlying9 (Kd.own_of_R HO176.out)
                have hcv56 := own_string (P := Try.prog) Try.underlying22 Try.underlying5 Try.underlying9 (Kd.own_of_R HO180.out)
                have hcv57 := own_string (P := Try.prog) Try.underlying22 Try.underlying5 Try.underlying9 (Kd.own_of_R HO185.out)
                have hcv58 := own_string (P := Try.prog) Try.underlying22 Try.underlying5 Try.underlying9 (Kd.own_of_R HO190.out)
                go_wp2
                go_meet
                case rel => exact ⟨_, (false), (by first | rfl | (simp; done) | (simp [*]; done)), H', ⟨by have := HJ3.out; first | omega | exact Nat.le_refl _⟩, ⟨by (with_reducible repeat (first | apply Kd.R_alloc | apply Kd.R_drewN | apply Kd.R_drew)); exact Kd.R_mono HO176.out (fun _ hk => hk.1.1.2)⟩, ⟨by (with_reducible repeat (first | apply Kd.R_alloc | apply Kd.R_drewN | apply Kd.R_drew)); exact Kd.R_mono HO180.out (fun _ hk => hk.1.1.2)⟩, ⟨by repeat (first | (with_reducible first | exact HB.out | apply below_alloc | apply pw_below_drewN | apply below_drew1) | exact HB.out)⟩⟩
            · rw [if_neg c22] at H
              have c22b0 : (t174 == t178) = false := beq_eq_false_iff_ne.mpr c22
              have c22b1 : (t174 != t178) = true := bne_iff_ne.mpr c22
              have H' := Aside0.mk H
              clear H
              have hcv59 := own_string (P := Try.prog) Try.underlying22 Try.underlying5 Try.underlying9 (Kd.own_of_R HO176.out)
              have hcv60 := own_string (P := Try.prog) Try.underlying22 Try.underlying5 Try.underlying9 (Kd.own_of_R HO180.out)
              go_wp2
              go_meet
              case rel => exact ⟨_, (false), (by first | rfl | (simp; done) | (simp [*]; done)), H', ⟨by have := HJ3.out; first | omega | exact Nat.le_refl _⟩, ⟨by (with_reducible repeat (first | apply Kd.R_alloc | apply Kd.R_drewN | apply Kd.R_drew)); exact Kd.R_mono HO176.out (fun _ hk => hk.1.1.2)⟩, ⟨by (with_reducible repeat (first | apply Kd.R_alloc | apply Kd.R_drewN | apply Kd.R_drew)); exact Kd.R_mono HO180.out (fun _ hk => hk.1.1.2)⟩, ⟨by repeat (first | (with_reducible first | exact HB.out | apply below_alloc | apply pw_below_drewN | apply below_drew1) | exact HB.out)⟩⟩
          · rw [if_neg c21] at H
            have c21b0 : ((strOfNums t173).toList == (strOfNums t177).toList) = false := beq_eq_false_iff_ne.mpr c21
            have c21b1 : ((strOfNums t173).toList != (strOfNums t177).toList) = true := bne_iff_ne.mpr c21
            (first | rw [c21b0] | (simp only [i64_w, i32_w]; rw [c21b0]) | skip)
            have H' := Aside0.mk H
            clear H
            have hcv61 := own_string (P := Try.prog) Try.underlying22 Try.underlying5 Try.underlying9 (Kd.own_of_R HO176.out)
            have hcv62 := own_string (P := Try.prog) Try.underlying22 Try.underlying5 Try.underlying9 (Kd.own_of_R HO180.out)
            go_wp2
            go_meet
            case rel => exact ⟨_, (false), (by first | rfl | (simp; done) | (simp [*]; done)), H', ⟨by have := HJ3.out; first | omega | exact Nat.le_refl _⟩, ⟨by (with_reducible repeat (first | apply Kd.R_alloc | apply Kd.R_drewN | apply Kd.R_drew)); exact Kd.R_mono HO176.out (fun _ hk => hk.1.1.2)⟩, ⟨by (with_reducible repeat (first | apply Kd.R_alloc | apply Kd.R_drewN | apply Kd.R_drew)); exact Kd.R_mono HO180.out (fun _ hk => hk.1.1.2)⟩, ⟨by repeat (first | (with_reducible first | exact HB.out | apply below_alloc | apply pw_below_drewN | apply below_drew1) | exact HB.out)⟩⟩
        case rest =>
          clear HC14
          try clear c1
          try clear c2
          try clear p2
          try clear hcv2
          try clear c3
          try clear hcv3
          try clear hcv4
          try clear hcv5
          try clear c6
          try clear c6b0
          try clear c6b1
          try clear hcv6
          try clear c7
          try clear c8
          try clear c9
          try clear c10
          try clear c11
          try clear c12
          try clear c13
          try clear c14
          try clear c21
          try clear c21b0
          try clear c21b1
          try clear c22
          try clear c22b0
          try clear c22b1
          try clear c23
          try clear c23b0
          try clear c23b1
          try clear c24
          try clear c24b0
          try clear c24b1
          try clear c25
          try clear c25b0
          try clear c25b1
          try clear c27
          try clear c28
          try clear c28b0
          try clear c28b1
          try clear hcv29
          try clear hcv30
          try clear hcv31
          try clear hcv32
          try clear hcv35
          try clear hcv36
          try clear hcv37
          try clear hcv38
          try clear hcv41
          try clear hcv42
          try clear hcv43
          try clear hcv44
          try clear hcv47
          try clear hcv48
          try clear hcv49
          try clear hcv50
          try clear hcv51
          try clear hcv52
          try clear hcv53
          try clear hcv54
          try clear hcv55
          try clear hcv56
          try clear hcv57
          try clear hcv58
          try clear hcv59
          try clear hcv60
          try clear hcv61
          try clear hcv62
          try clear p2
          obtain ⟨kq, x22_13, rfl, HA, HJ13, HO_6, HO_8, HB⟩ := hcut
          cases kq with
          | zero => exact absurd HA.out (by simp [rosettelaw03_FrameMakes.j1])
          | succ kj13 =>
            have H := HA.out
            clear HA
            simp only [rosettelaw03_FrameMakes.j1] at H
            have H' := Aside0.mk H
            clear H
            go_wp2
            go_loopg [23] kj13 (fun kq v23 w' => ∃ (x6_3 : List Int) (x23_3 : Int), v23 = .int .i64 x23_3 ∧ Aside0 (rosettelaw03_FrameMakes.l0 kq l0 t172 x6_3 t177 x22_13 x23_3 = some r) ∧ Aside0 (kq ≤ kj13) ∧ Aside0 (Kd.R (Kd.int .u8) 5 w' w.heap.size (fun k_ => some k_ ≠ (v179 : Value).ownBlock) v175 x6_3) ∧ Aside0 (Kd.R (Kd.int .u8) 5 w' w.heap.size (fun k_ => some k_ ≠ (v175 : Value).ownBlock) v179 t177) ∧ Aside0 (Below w.heap.size w w'))
            case atStart => exact ⟨(t173), (0), (by first | rfl | (simp; done) | (simp [*]; done)), H', ⟨Nat.le_refl _⟩, ⟨by (with_reducible repeat (first | apply Kd.R_alloc | apply Kd.R_drewN | apply Kd.R_drew)); exact HO_6.out⟩, ⟨by (with_reducible repeat (first | apply Kd.R_alloc | apply Kd.R_drewN | apply Kd.R_drew)); exact HO_8.out⟩, ⟨by repeat (first | (with_reducible first | exact HB.out | apply below_alloc | apply pw_below_drewN | apply below_drew1) | exact HB.out)⟩⟩
            case round =>
              clear H'
              try clear c1
              try clear c2
              try clear p2
              try clear hcv2
              try clear c3
              try clear hcv3
              try clear hcv4
              try clear hcv5
              try clear c6
              try clear c6b0
              try clear c6b1
              try clear hcv6
              try clear c7
              try clear c8
              try clear c9
              try clear c10
              try clear c11
              try clear c12
              try clear c13
              try clear c14
              try clear c21
              try clear c21b0
              try clear c21b1
              try clear c22
              try clear c22b0
              try clear c22b1
              try clear c23
              try clear c23b0
              try clear c23b1
              try clear c24
              try clear c24b0
              try clear c24b1
              try clear c25
              try clear c25b0
              try clear c25b1
              try clear c27
              try clear c28
              try clear c28b0
              try clear c28b1
              try clear hcv29
              try clear hcv30
              try clear hcv31
              try clear hcv32
              try clear hcv35
              try clear hcv36
              try clear hcv37
              try clear hcv38
              try clear hcv41
              try clear hcv42
              try clear hcv43
              try clear hcv44
              try clear hcv47
              try clear hcv48
              try clear hcv49
              try clear hcv50
              try clear hcv51
              try clear hcv52
              try clear hcv53
              try clear hcv54
              try clear hcv55
              try clear hcv56
              try clear hcv57
              try clear hcv58
              try clear hcv59
              try clear hcv60
              try clear hcv61
              try clear hcv62
              try clear p2
              obtain ⟨x6_3, x23_3, rfl, HA, HK3, HO_6, HO_8, HB⟩ := hrel
              cases gk with
              | zero => exact absurd HA.out (by simp [rosettelaw03_FrameMakes.l0])
              | succ k3 =>
                have H := HA.out
                clear HA
                simp only [rosettelaw03_FrameMakes.l0] at H
                by_cases c63 : x23_3 < (x6_3.length : Int)
                · rw [if_pos c63] at H
                  have c63b0 : decide (x23_3 < (x6_3.length : Int)) = true := decide_eq_true c63
                  clear c63
                  by_cases c64 : 0 ≤ x23_3
                  · rw [if_pos c64] at H
                    have c64b0 : decide (0 ≤ x23_3) = true := decide_eq_true c64
                    clear c64
                    obtain ⟨y202, hy202⟩ : ∃ y_ : List Int, y_ = (x6_3.set (x23_3 : Int).toNat 7) := ⟨_, rfl⟩
                    replace H : (rosettelaw03_FrameMakes.l0 k3 l0 t172 y202 t177 x22_13 (wrap64 (x23_3 + 1))) = some r := by first | (rw [hy202]; with_reducible exact H) | (have H2_ := (Option.bind_some _ _).symm.trans H; rw [hy202]; with_reducible exact H2_) | (have H2_ := (Option.bind_some _ _).symm.trans H; with_reducible exact H2_) | with_reducible exact H | (rw [hy202]; exact H) | exact H
                    have Ny202 := Aside0.mk hy202
                    clear hy202
                    have H' := Aside0.mk H
                    clear H
                    obtain ⟨Ao66, co66, eo66⟩ := Kd.R_slice HO_6.out
                    subst eo66
                    have p65 : 0 ≤ (x23_3 : Int) := of_decide_eq_true (by first | (with_reducible assumption) | assumption)
                    have q65 : (x23_3 : Int) < ((x6_3.length : Int) : Int) := of_decide_eq_true (by first | (with_reducible assumption) | assumption)
                    obtain ⟨go65, co65, eo65, gb65, gl65, cl65, HG65⟩ := Kd.R_form HO_6.out (by omega)
                    (first | cases eo65 | (injection eo65 with ea_ en_ ec_; (first | subst ea_ | (injection ea_ with ea_; subst ea_)); subst ec_; clear en_))
                    have GB65 := Aside0.mk gb65
                    have GG65 := Aside0.mk HG65
                    clear gb65 gl65 HG65
                    obtain ⟨hx65_0, hf65_0⟩ := Kd.R_celln 0 HO_6.out (x23_3 : Int) p65 q65
                    replace p65 := eq_true p65
                    replace q65 := eq_true q65
                    have HP67 := Kd.R_putg HO_6.out (x23_3 : Int) 7
                    go_wp2_with (first | ((with_reducible refine gate_store (t := 5) (p := 120) rfl ?_); refine store_event (t := 5) (p := 120) (v := ?vo_w68) (w1 := (wr.setCell ⟨go65, (x23_3 : Int).toNat, none⟩ (.int .u8 7))) ?hg ?ho ?hn ?hr ?_; (case ho => rfl); (case hg => rfl); (case hn => rfl); (case hr => first | (go_simp; done) | (go_simp; rfl)); intro w68 hw; have hg : wr.grownBy w68 (some go65) := (by rw [hw]; exact HP67.2); have hp_ : Kd.R (Kd.int .u8) 5 w68 w.heap.size (fun k_ => some k_ ≠ (v179 : Value).ownBlock) (.slice (some ⟨go65, 0, none⟩) x6_3.length co66) y202 := (by rw [hw, Ny202.out]; exact HP67.1); clear HP67; have n0_ := Aside0.mk (hp_); have n1_ := Aside0.mk (Kd.R_after (v := (.slice (some ⟨go65, 0, none⟩) x6_3.length co66)) (v1 := (.slice (some ⟨go65, 0, none⟩) x6_3.length co66)) (ok := (fun _ => True)) (by (with_reducible repeat (first | apply Kd.R_alloc | apply Kd.R_drewN | apply Kd.R_drew)); exact Kd.R_mono HO_8.out (fun _ hk => ⟨trivial, hk⟩)) hg (.inl rfl)); have n2_ := Aside0.mk ((by rw [hw]; exact below_set (HB.out) GB65.out : Below w.heap.size w w68)); clear HO_6; clear HO_8; clear HB; have HO_6 := n0_; have HO_8 := n1_; have HB := n2_; clear n0_ n1_ n2_; clear hg hw hp_))
                    go_roundg k3
                    case measure => have := HJ3.out; have := HJ13.out; have := HK3.out; omega
                    case rel => exact ⟨(y202), (wrap64 (x23_3 + 1)), (by first | rfl | (simp; done) | (simp [*]; done)), H', ⟨by have := HJ3.out; have := HJ13.out; have := HK3.out; omega⟩, ⟨by (with_reducible repeat (first | apply Kd.R_alloc | apply Kd.R_drewN | apply Kd.R_drew)); exact HO_6.out⟩, ⟨by (with_reducible repeat (first | apply Kd.R_alloc | apply Kd.R_drewN | apply Kd.R_drew)); exact Kd.R_mono HO_8.out (fun _ hk => hk.2)⟩, ⟨by repeat (first | (with_reducible first | exact HB.out | apply below_alloc | apply pw_below_drewN | apply below_drew1) | exact HB.out)⟩⟩
                  · rw [if_neg c64] at H
                    exact absurd H (by simp)
                · rw [if_neg c63] at H
                  have c63b0 : decide (x23_3 < (x6_3.length : Int)) = false := decide_eq_false c63
                  clear c63
                  replace H := Option.bind_eq_some_iff.mp H
                  obtain ⟨⟨t203, t204⟩, A690, H⟩ := H
                  replace H : (if t172 = true then (if x22_13 = true then (some ((strOfNums t203).toList == (strOfNums t177).toList)) else (some false)) else (some false)) = some r := H
                  have A69 := Aside0.mk A690
                  clear A690
                  by_cases c70 : t172 = true
                  · subst c70
                    have H1 : (if x22_13 = true then (some ((strOfNums t203).toList == (strOfNums t177).toList)) else (some false)) = some r := by rw [if_pos rfl] at H; exact H
                    clear H
                    have H := H1
                    clear H1
                    by_cases c71 : x22_13 = true
                    · subst c71
                      have H1 : (some ((strOfNums t203).toList == (strOfNums t177).toList)) = some r := by rw [if_pos rfl] at H; exact H
                      clear H
                      have H := H1
                      clear H1
                      obtain rfl := Option.some.inj H
                      obtain ⟨Ao72, co72, eo72⟩ := Kd.R_slice HO_6.out
                      subst eo72
                      go_wp2_with (first | ((with_reducible refine gate_callee (f := 9) rfl ?_); refine goesL_ (some 123) rfl rfl Try.func9 (by kernel_rfl) rfl #[.slice A0 l0.length c0] rfl (by (try simp only [List.map_toArray, List.map_cons, List.map_nil]); first | done | rfl | (simp only [List.length_drop, List.length_take]; rfl)) ?_; (with_reducible refine (frame_Make.calls _ _ l0 t203 t204 _ ?side1 ?side2 A69.out).mono ?_); (case side1 => repeat (first | exact (Kd.C_below HR0.out HB.out) | (with_reducible refine Kd.C_alloc ?_ _) | (with_reducible refine Kd.C_drewN ?_ _) | (with_reducible refine Kd.C_drew ?_))); (case side2 => exact HC0.out); rintro e w73 ⟨v205, rfl, ho0, hb⟩; refine ⟨_, rfl, ?_⟩; have n0_ := Aside0.mk (Kd.R_elder' (by (with_reducible repeat (first | apply Kd.R_alloc | apply Kd.R_drewN | apply Kd.R_drew)); exact HO_6.out) (Kd.R_base ho0) hb); have n1_ := Aside0.mk (Kd.R_elder' (by (with_reducible repeat (first | apply Kd.R_alloc | apply Kd.R_drewN | apply Kd.R_drew)); exact HO_8.out) (Kd.R_base ho0) hb); have n2_ := Aside0.mk (Kd.R_lower (Kd.R_new' (Kd.R_new' ho0 (Kd.R_lt (by (with_reducible repeat (first | apply Kd.R_alloc | apply Kd.R_drewN | apply Kd.R_drew)); exact HO_6.out))) (Kd.R_lt (by (with_reducible repeat (first | apply Kd.R_alloc | apply Kd.R_drewN | apply Kd.R_drew)); exact HO_8.out))) (below_size (by repeat (first | (with_reducible first | exact HB.out | apply below_alloc | apply pw_below_drewN | apply below_drew1) | exact HB.out)))); have n3_ := Aside0.mk (below_step (by repeat (first | (with_reducible first | exact HB.out | apply below_alloc | apply pw_below_drewN | apply below_drew1) | exact HB.out)) hb); clear HO_6; clear HO_8; clear HB; have HO_6 := n0_; have HO_8 := n1_; have HO206 := n2_; have HB := n3_; clear n0_ n1_ n2_ n3_; (try clear hb); (try clear hb2); (try clear hk); (try clear hi); (try clear ho0); have hcv74 := own_string (P := Try.prog) Try.underlying22 Try.underlying5 Try.underlying9 (Kd.own_of_R HO206.out); have hcv75 := own_string (P := Try.prog) Try.underlying22 Try.underlying5 Try.underlying9 (Kd.own_of_R HO_8.out)))
                      go_ret
                      exact ⟨by first | rfl | (simp [errW_none, errW_some] <;> rfl) | (simp [*, errW_none, errW_some] <;> rfl), by repeat (first | (with_reducible first | exact HB.out | apply below_alloc | apply pw_below_drewN | apply below_drew1) | exact HB.out)⟩
                    · replace c71 := Bool.eq_false_iff.mpr c71
                      subst c71
                      have H1 : (some false) = some r := by rw [if_neg (show ¬ (false = true) by decide)] at H; exact H
                      clear H
                      have H := H1
                      clear H1
                      obtain rfl := Option.some.inj H
                      obtain ⟨Ao76, co76, eo76⟩ := Kd.R_slice HO_6.out
                      subst eo76
                      go_wp2_with (first | ((with_reducible refine gate_callee (f := 9) rfl ?_); refine goesL_ (some 123) rfl rfl Try.func9 (by kernel_rfl) rfl #[.slice A0 l0.length c0] rfl (by (try simp only [List.map_toArray, List.map_cons, List.map_nil]); first | done | rfl | (simp only [List.length_drop, List.length_take]; rfl)) ?_; (with_reducible refine (frame_Make.calls _ _ l0 t203 t204 _ ?side1 ?side2 A69.out).mono ?_); (case side1 => repeat (first | exact (Kd.C_below HR0.out HB.out) | (with_reducible refine Kd.C_alloc ?_ _) | (with_reducible refine Kd.C_drewN ?_ _) | (with_reducible refine Kd.C_drew ?_))); (case side2 => exact HC0.out); rintro e w77 ⟨v205, rfl, ho0, hb⟩; refine ⟨_, rfl, ?_⟩; have n0_ := Aside0.mk (Kd.R_elder' (by (with_reducible repeat (first | apply Kd.R_alloc | apply Kd.R_drewN | apply Kd.R_drew)); exact HO_6.out) (Kd.R_base ho0) hb); have n1_ := Aside0.mk (Kd.R_elder' (by (with_reducible repeat (first | apply Kd.R_alloc | apply Kd.R_drewN | apply Kd.R_drew)); exact HO_8.out) (Kd.R_base ho0) hb); have n2_ := Aside0.mk (Kd.R_lower (Kd.R_new' (Kd.R_new' ho0 (Kd.R_lt (by (with_reducible repeat (first | apply Kd.R_alloc | apply Kd.R_drewN | apply Kd.R_drew)); exact HO_6.out))) (Kd.R_lt (by (with_reducible repeat (first | apply Kd.R_alloc | apply Kd.R_drewN | apply Kd.R_drew)); exact HO_8.out))) (below_size (by repeat (first | (with_reducible first | exact HB.out | apply below_alloc | apply pw_below_drewN | apply below_drew1) | exact HB.out)))); have n3_ := Aside0.mk (below_step (by repeat (first | (with_reducible first | exact HB.out | apply below_alloc | apply pw_below_drewN | apply below_drew1) | exact HB.out)) hb); clear HO_6; clear HO_8; clear HB; have HO_6 := n0_; have HO_8 := n1_; have HO206 := n2_; have HB := n3_; clear n0_ n1_ n2_ n3_; (try clear hb); (try clear hb2); (try clear hk); (try clear hi); (try clear ho0)))
                      go_ret
                      exact ⟨by first | rfl | (simp [errW_none, errW_some] <;> rfl) | (simp [*, errW_none, errW_some] <;> rfl), by repeat (first | (with_reducible first | exact HB.out | apply below_alloc | apply pw_below_drewN | apply below_drew1) | exact HB.out)⟩
                  · replace c70 := Bool.eq_false_iff.mpr c70
                    subst c70
                    have H1 : (some false) = some r := by rw [if_neg (show ¬ (false = true) by decide)] at H; exact H
                    clear H
                    have H := H1
                    clear H1
                    obtain rfl := Option.some.inj H
                    obtain ⟨Ao78, co78, eo78⟩ := Kd.R_slice HO_6.out
                    subst eo78
                    go_wp2_with (first | ((with_reducible refine gate_callee (f := 9) rfl ?_); refine goesL_ (some 123) rfl rfl Try.func9 (by kernel_rfl) rfl #[.slice A0 l0.length c0] rfl (by (try simp only [List.map_toArray, List.map_cons, List.map_nil]); first | done | rfl | (simp only [List.length_drop, List.length_take]; rfl)) ?_; (with_reducible refine (frame_Make.calls _ _ l0 t203 t204 _ ?side1 ?side2 A69.out).mono ?_); (case side1 => repeat (first | exact (Kd.C_below HR0.out HB.out) | (with_reducible refine Kd.C_alloc ?_ _) | (with_reducible refine Kd.C_drewN ?_ _) | (with_reducible refine Kd.C_drew ?_))); (case side2 => exact HC0.out); rintro e w79 ⟨v205, rfl, ho0, hb⟩; refine ⟨_, rfl, ?_⟩; have n0_ := Aside0.mk (Kd.R_elder' (by (with_reducible repeat (first | apply Kd.R_alloc | apply Kd.R_drewN | apply Kd.R_drew)); exact HO_6.out) (Kd.R_base ho0) hb); have n1_ := Aside0.mk (Kd.R_elder' (by (with_reducible repeat (first | apply Kd.R_alloc | apply Kd.R_drewN | apply Kd.R_drew)); exact HO_8.out) (Kd.R_base ho0) hb); have n2_ := Aside0.mk (Kd.R_lower (Kd.R_new' (Kd.R_new' ho0 (Kd.R_lt (by (with_reducible repeat (first | apply Kd.R_alloc | apply Kd.R_drewN | apply Kd.R_drew)); exact HO_6.out))) (Kd.R_lt (by (with_reducible repeat (first | apply Kd.R_alloc | apply Kd.R_drewN | apply Kd.R_drew)); exact HO_8.out))) (below_size (by repeat (first | (with_reducible first | exact HB.out | apply below_alloc | apply pw_below_drewN | apply below_drew1) | exact HB.out)))); have n3_ := Aside0.mk (below_step (by repeat (first | (with_reducible first | exact HB.out | apply below_alloc | apply pw_below_drewN | apply below_drew1) | exact HB.out)) hb); clear HO_6; clear HO_8; clear HB; have HO_6 := n0_; have HO_8 := n1_; have HO206 := n2_; have HB := n3_; clear n0_ n1_ n2_ n3_; (try clear hb); (try clear hb2); (try clear hk); (try clear hi); (try clear ho0)))
                    go_ret
                    exact ⟨by first | rfl | (simp [errW_none, errW_some] <;> rfl) | (simp [*, errW_none, errW_some] <;> rfl), by repeat (first | (with_reducible first | exact HB.out | apply below_alloc | apply pw_below_drewN | apply below_drew1) | exact HB.out)⟩

/-- THE ONE PURE STATEMENT of rosettelaw03_FrameMakes: yours. -/
def rosettelaw03_FrameMakes.Pure : Prop := ∀ (l0 : List Int) (l1 : List Int), l0.length ≤ maxLen → l0.length * 1 ≤ 140737488351232 → (∀ x ∈ l0, (Lit.int .u8 x).wf = true) → l1.length ≤ maxLen → l1.length * 1 ≤ 140737488351232 → (∀ x ∈ l1, (Lit.int .u8 x).wf = true) → ∃ k, rosettelaw03_FrameMakes.f k l0 l1 = some true
theorem rosettelaw03_FrameMakes.walk (P : rosettelaw03_FrameMakes.Pure) (a0 : Option Addr) (len0 cap0 : Nat) (z0 : List Int) (a1 : Option Addr) (len1 cap1 : Nat) (z1 : List Int) (w : World) (w0 : (a0 = none ∧ len0 = 0 ∧ cap0 = 0 ∧ z0 = []) ∨ ∃ x, a0 = some x ∧ len0 ≤ cap0 ∧ cap0 ≤ maxLen ∧ z0.length = cap0 ∧ (∀ i, i < z0.length → w.cell? (x.add i) = some (.int .u8 (z0.getD i 0))) ∧ ∀ n ∈ z0, (Lit.int .u8 n).wf = true) (y0 : len0 * 1 ≤ 140737488351232) (w1 : (a1 = none ∧ len1 = 0 ∧ cap1 = 0 ∧ z1 = []) ∨ ∃ x, a1 = some x ∧ len1 ≤ cap1 ∧ cap1 ≤ maxLen ∧ z1.length = cap1 ∧ (∀ i, i < z1.length → w.cell? (x.add i) = some (.int .u8 (z1.getD i 0))) ∧ ∀ n ∈ z1, (Lit.int .u8 n).wf = true) (y1 : len1 * 1 ≤ 140737488351232) :
    Calls Try.prog 3 #[.slice a0 len0 cap0, .slice a1 len1 cap1] w fun e w' => e = .returned (.bool true) ∧ Below w.heap.size w w' := by
  obtain ⟨l0, rfl, hr0, hm0, hw0, hc0⟩ := ReadsInt.ofRowC w0
  obtain ⟨l1, rfl, hr1, hm1, hw1, hc1⟩ := ReadsInt.ofRowC w1
  obtain ⟨k, h⟩ := P l0 l1 hm0 y0 hw0 hm1 y1 hw1
  refine (rosettelaw03_FrameMakes.calls k _ _ l0 _ _ l1 true w (Kd.C_of_reads (d := (0 : Int)) (h1 := fun _ => rfl) hr0) hc0 (Kd.C_of_reads (d := (0 : Int)) (h1 := fun _ => rfl) hr1) hc1 h).mono ?_
  rintro e w' ⟨rfl, hd⟩
  exact ⟨rfl, hd⟩

end Go.Proofs.Ytckjmbpagippkaa.G
end

section
/- The document's own sums are the sums: pure laws. -/
set_option linter.unusedVariables false
set_option linter.unusedSimpArgs false
namespace Go.Proofs.Ytckjmbpagippkaa.Pure
open Go.RowKit Go.Proofs.Ytckjmbpagippkaa.G Go.Proofs.YtckjmbpagippkaaW.PrintWords Go.Proofs.YtckjmbpagippkaaW.PrintLast

theorem turned_go : ∀ (f e : Nat) (j : Nat) (n : Nat), n < 4294967296 → j + f = 8 → rosetteref01_turned.l0 (f + 1 + e) (n : Int) (j : Int) = some ((CrcM.tk f n : Nat) : Int) := by
  intro f
  induction f with
  | zero =>
    intro e j n _ h
    rw [show 0 + 1 + e = e + 1 by omega, rosetteref01_turned.l0, if_neg (by omega)]
    rfl
  | succ f ih =>
    intro e j n hn h
    have h1 : CrcM.tk (f + 1) n = CrcM.tk f (CrcM.t1 n) := rfl
    have hj : wrap64 ((j : Int) + 1) = ((j + 1 : Nat) : Int) := by rw [wrap_small _ (by omega) (by omega)]; omega
    have hd : (Int.tdiv (n : Int) 2) % 4294967296 = ((n / 2 : Nat) : Int) := by rw [Int.tdiv_eq_ediv_of_nonneg (by omega)]; omega
    have hm : Int.tmod (n : Int) 2 = ((n % 2 : Nat) : Int) := by rw [Int.tmod_eq_emod_of_nonneg (by omega)]; omega
    rw [show f + 1 + 1 + e = (f + 1 + e) + 1 by omega, rosetteref01_turned.l0, if_pos (by omega), hj, hd, hm, h1]
    have ht : CrcM.t1 n < 4294967296 := CrcM.t1_lt n hn
    rcases Nat.mod_two_eq_zero_or_one n with e2 | e2
    · rw [if_neg (by omega)]
      have : CrcM.t1 n = n / 2 := by unfold CrcM.t1; rw [if_neg (by omega)]
      rw [this]
      exact ih e (j + 1) _ (by omega) (by omega)
    · rw [if_pos (by omega)]
      have : CrcM.t1 n = (n / 2) ^^^ 3988292384 := by unfold CrcM.t1; rw [if_pos e2]
      rw [show (3988292384 : Int) = ((3988292384 : Nat) : Int) from rfl, u32_xor_nat _ _ (by omega) (by decide), ← this]
      exact ih e (j + 1) _ ht (by omega)
theorem turned_some (k n : Nat) (hn : n < 4294967296) (hk : 9 ≤ k) : rosetteref01_turned.f k (n : Int) = some ((CrcM.tk 8 n : Nat) : Int) := by
  have := turned_go 8 (k - 9) 0 n hn rfl
  rw [show 8 + 1 + (k - 9) = k by omega] at this
  exact this

theorem add_go (l : List Int) (hu : u8s l) (hl : l.length ≤ 140737488351232) : ∀ (f e i s : Nat), s < 4294967296 → i + f = l.length → rosetteref01_Add.l0 (f + 10 + e) l (s : Int) (i : Int) = some ((CrcM.run s (nats (l.drop i)) ^^^ CrcM.M : Nat) : Int) := by
  intro f
  induction f with
  | zero =>
    intro e i s hs h
    rw [show 0 + 10 + e = (9 + e) + 1 by omega, rosetteref01_Add.l0, if_neg (by omega), List.drop_of_length_le (by omega)]
    rw [show (4294967295 : Int) = ((CrcM.M : Nat) : Int) from rfl, u32_xor_nat _ _ hs (by decide)]
    rfl
  | succ f ih =>
    intro e i s hs h
    have hlt : i < l.length := by omega
    obtain ⟨c0, c1⟩ := rd_u8 hu i hlt
    obtain ⟨c, hc⟩ := Int.eq_ofNat_of_zero_le c0
    have hc256 : c < 256 := by omega
    have hj : wrap64 ((i : Int) + 1) = ((i + 1 : Nat) : Int) := by rw [wrap_small _ (by omega) (by omega)]; omega
    have hd : (Int.tdiv (s : Int) 256) % 4294967296 = ((s / 256 : Nat) : Int) := by rw [Int.tdiv_eq_ediv_of_nonneg (by omega)]; omega
    have ha : Go.bits .and .u32 (s : Int) 255 = ((s % 256 : Nat) : Int) := by
      rw [show (255 : Int) = ((255 : Nat) : Int) from rfl, u32_and_nat _ _ hs (by decide)]
      exact congrArg _ (Nat.and_two_pow_sub_one_eq_mod s 8)
    rw [show f + 1 + 10 + e = (f + 10 + e) + 1 by omega, rosetteref01_Add.l0, if_pos (by omega), if_pos (by omega), hj, hd, ha, hc]
    rw [show (c : Int) % 4294967296 = (c : Int) by omega, u32_xor_nat _ _ (by omega) (by omega)]
    have hx : (s % 256) ^^^ c < 256 := Nat.xor_lt_two_pow (n := 8) (by omega) (by omega)
    rw [turned_some _ _ (by omega) (by omega)]
    simp only [Option.bind_some]
    rw [u32_xor_nat _ _ (CrcM.tk_lt _ _ (by omega)) (by omega)]
    have hup : CrcM.tk 8 ((s % 256) ^^^ c) ^^^ s / 256 = CrcM.upd s c := by
      unfold CrcM.upd
      have e := CrcM.xor_mod s c 8
      simp only [show (2 : Nat) ^ 8 = 256 from rfl, Nat.mod_eq_of_lt (show c < 256 by omega)] at e
      rw [e]
    rw [hup, ih e (i + 1) _ (CrcM.upd_lt s c hs hc256) (by omega)]
    have hcons : nats (l.drop i) = c :: nats (l.drop (i + 1)) := by
      have hg : l[i] = (c : Int) := by rw [← hc]; simp [rd, List.getD_eq_getElem?_getD, hlt]
      rw [List.drop_eq_getElem_cons hlt, nats, List.map_cons, hg]
      rfl
    rw [hcons]
    rfl
theorem refadd_some {l : List Int} (hu : u8s l) (hl : l.length ≤ 140737488351232) (k n : Nat) (hn : n < 4294967296) (hk : l.length + 10 ≤ k) : rosetteref01_Add.f k (n : Int) l = some ((CrcM.add n (nats l) : Nat) : Int) := by
  unfold rosetteref01_Add.f
  rw [show (4294967295 : Int) = ((CrcM.M : Nat) : Int) from rfl, u32_xor_nat _ _ hn (by decide)]
  have := add_go l hu hl l.length (k - (l.length + 10)) 0 (n ^^^ CrcM.M) (Nat.xor_lt_two_pow (n := 32) hn CrcM.M_lt) (by omega)
  rw [show l.length + 10 + (k - (l.length + 10)) = k by omega] at this
  rw [show ((0 : Nat) : Int) = 0 from rfl] at this
  rw [this, List.drop_zero]
  rfl
theorem refsum_some {l : List Int} (hu : u8s l) (hl : l.length ≤ 140737488351232) (k : Nat) (hk : l.length + 10 ≤ k) : rosetteref01_Sum.f k l = some ((CrcM.sum (nats l) : Nat) : Int) := by
  unfold rosetteref01_Sum.f
  have := refadd_some hu hl k 0 (by decide) hk
  rw [show ((0 : Nat) : Int) = 0 from rfl] at this
  rw [this]
  rfl
theorem reflow_some (n : Nat) (hn : n < 4294967296) : rosetteref01_Low.f (n : Int) = some (zof (CrcM.low n)) := by
  unfold rosetteref01_Low.f
  rw [Int.tdiv_eq_ediv_of_nonneg (by omega), Int.tdiv_eq_ediv_of_nonneg (by omega), Int.tdiv_eq_ediv_of_nonneg (by omega)]
  simp only [zof, CrcM.low, List.map_cons, List.map_nil, Option.some.injEq, List.cons.injEq, and_true]
  refine ⟨?_, ?_, ?_, ?_⟩ <;> omega
theorem refseal_some {l : List Int} (hu : u8s l) (hl : l.length ≤ 140737488351232) (k : Nat) (hk : l.length + 10 ≤ k) : rosetteref01_Seal.f k l = some (zof (CrcM.sealB (nats l))) := by
  unfold rosetteref01_Seal.f
  simp only [Option.bind_some, List.nil_append]
  rw [if_pos (by simp; omega)]
  rw [refsum_some hu hl k hk]
  simp only [Option.bind_some]
  rw [reflow_some _ (CrcM.sum_lt _ (u8s_nats hu))]
  simp only [Option.bind_some]
  rw [if_pos (by rw [zof_length]; simp [CrcM.low]; omega), CrcM.sealB, zof_append, zof_nats hu]
theorem refopen_some {l : List Int} (h : u8s l) (hl : l.length ≤ 140737488351232) (k : Nat) (hk : l.length + 10 ≤ k) : rosetteref01_Open.f k l = some (opened (CrcM.openB (nats l))) := by
  unfold rosetteref01_Open.f CrcM.openB
  rw [nats_length, wrap_small _ (by omega) (by omega)]
  by_cases h4 : l.length < 4
  · rw [if_pos (by omega), if_pos h4]; rfl
  · rw [if_neg (by omega), if_pos (by omega), if_pos (by omega), if_neg h4]
    rw [show ((l.length : Int) - 4).toNat = l.length - 4 by omega]
    have ht := u8s_take h (l.length - 4)
    rw [refsum_some ht (by simp; omega) k (by simp; omega)]
    simp only [Option.bind_some]
    rw [reflow_some _ (CrcM.sum_lt _ (u8s_nats ht))]
    simp only [Option.bind_some]
    rw [← nats_take, ← nats_drop]
    have hiff : (zof (CrcM.low (CrcM.sum (nats (l.take (l.length - 4))))) = l.drop (l.length - 4)) ↔ (CrcM.low (CrcM.sum (nats (l.take (l.length - 4)))) = nats (l.drop (l.length - 4))) := by
      constructor
      · intro hh; rw [← hh, nats_zof]
      · intro hh; rw [hh, zof_nats (u8s_drop h _)]
    have hs := str_eq (u8s_zof (CrcM.low_bytes (CrcM.sum (nats (l.take (l.length - 4)))))) (u8s_drop h (l.length - 4))
    by_cases he : CrcM.low (CrcM.sum (nats (l.take (l.length - 4)))) = nats (l.drop (l.length - 4))
    · rw [if_pos he, if_pos (hs.2 (hiff.2 he))]
      rw [if_pos (by simp; omega)]
      simp [opened, zof_nats ht]
    · rw [if_neg he, if_neg (fun hh => he (hiff.1 (hs.1 hh)))]
      rfl
end Go.Proofs.Ytckjmbpagippkaa.Pure
end

section
namespace CrcM
def hA (x : Nat) : Nat := x % 65536
def hB (x : Nat) : Nat := x / 2048
def hD (x : Nat) : Nat := x * 40503 / 4096 % 65536
/-- the values behind the first bit, of one class, told apart by three rows of bits -/
def ck (m c : Nat) : Nat → Nat → Nat → Nat → Nat → Bool
  | 0, _, _, _, _ => true
  | k + 1, v, A, B, D =>
    bif Nat.beq (v / 2 % m) c then
      bif (A.testBit (hA (v / 2 / m)) && (B.testBit (hB (v / 2 / m)) && D.testBit (hD (v / 2 / m)))) then false
      else ck m c k (t1 v) (A ||| 1 <<< hA (v / 2 / m)) (B ||| 1 <<< hB (v / 2 / m)) (D ||| 1 <<< hD (v / 2 / m))
    else ck m c k (t1 v) A B D
def cks (m n : Nat) : Nat → Bool
  | 0 => true
  | c + 1 => ck m c n 1 0 0 0 && cks m n c

theorem tk_succ (s n : Nat) : tk (s + 1) n = t1 (tk s n) := by rw [tk_add]; rfl

theorem put_bit (A h i : Nat) : (A ||| 1 <<< h).testBit i = (A.testBit i || decide (h = i)) := by
  rw [Nat.testBit_or, Nat.one_shiftLeft, Nat.testBit_two_pow]

theorem ck_sound (m c k : Nat) : ∀ (s A B D : Nat), ck m c k (tk s 1) A B D = true →
    (∀ i, i < s → tk i 1 / 2 % m = c → A.testBit (hA (tk i 1 / 2 / m)) = true ∧ B.testBit (hB (tk i 1 / 2 / m)) = true ∧ D.testBit (hD (tk i 1 / 2 / m)) = true) →
    ∀ j, s ≤ j → j < s + k → tk j 1 / 2 % m = c → ∀ i, i < j → tk i 1 / 2 ≠ tk j 1 / 2 := by
  induction k with
  | zero => intro s A B D _ _ j h1 h2; omega
  | succ k ih =>
    intro s A B D h hP j h1 h2 hjc i hij
    rw [ck] at h
    by_cases hc : tk s 1 / 2 % m = c
    · rw [show Nat.beq (tk s 1 / 2 % m) c = true from by rw [hc]; exact Nat.beq_refl c, cond_true] at h
      by_cases hb : (A.testBit (hA (tk s 1 / 2 / m)) && (B.testBit (hB (tk s 1 / 2 / m)) && D.testBit (hD (tk s 1 / 2 / m)))) = true
      · rw [hb, cond_true] at h; cases h
      · rw [Bool.not_eq_true] at hb
        rw [hb, cond_false, ← tk_succ] at h
        by_cases hj : j = s
        · subst hj
          intro e
          have hi := hP i hij (by rw [e]; exact hc)
          rw [e] at hi
          rw [hi.1, hi.2.1, hi.2.2] at hb
          cases hb
        · refine ih (s + 1) _ _ _ h ?_ j (by omega) (by omega) hjc i hij
          intro i' hi' hic
          simp only [put_bit]
          by_cases e : i' = s
          · subst e; simp
          · obtain ⟨p, q, r⟩ := hP i' (by omega) hic
            rw [p, q, r]; simp
    · have hbq : Nat.beq (tk s 1 / 2 % m) c = false := by
        cases hq : Nat.beq (tk s 1 / 2 % m) c
        · rfl
        · exact absurd (Nat.eq_of_beq_eq_true hq) hc
      rw [hbq, cond_false, ← tk_succ] at h
      have hjs : j ≠ s := fun e => hc (e ▸ hjc)
      refine ih (s + 1) _ _ _ h ?_ j (by omega) (by omega) hjc i hij
      intro i' hi' hic
      have : i' ≠ s := fun e => hc (e ▸ hic)
      exact hP i' (by omega) hic

theorem cks_class (m n : Nat) : ∀ c, cks m n c = true → ∀ d, d < c → ck m d n 1 0 0 0 = true := by
  intro c
  induction c with
  | zero => intro _ d hd; omega
  | succ c ih =>
    intro h d hd
    rw [cks, Bool.and_eq_true] at h
    by_cases e : d = c
    · subst e; exact h.1
    · exact ih h.2 d (by omega)

theorem dist (m n : Nat) (hm : 0 < m) (h : cks m n m = true) : ∀ i j, i < j → j < n → tk i 1 / 2 ≠ tk j 1 / 2 := by
  intro i j hij hj
  exact ck_sound m (tk j 1 / 2 % m) n 0 0 0 0 (cks_class m n m h _ (Nat.mod_lt _ hm)) (fun i hi => by omega) j (Nat.zero_le _) (by omega) rfl i hij

set_option maxRecDepth 1000000
theorem cks_8032 : cks 2 8032 2 = true := by decide +kernel

/-- one, two or three places, each told once -/
def places (p q r : Nat) : List Nat := p :: ((if q ≠ p then [q] else []) ++ (if r ≠ p ∧ r ≠ q then [r] else []))

theorem wt_one (n p : Nat) : wt n [p] = tk (n - p) 1 := by simp [wt]
theorem wt_two (n p q : Nat) : wt n [p, q] = tk (n - p) 1 ^^^ tk (n - q) 1 := by simp [wt]
theorem wt_three (n p q r : Nat) : wt n [p, q, r] = tk (n - p) 1 ^^^ tk (n - q) 1 ^^^ tk (n - r) 1 := by simp [wt]

theorem one_ne' (n p : Nat) : tk (n - p) 1 ≠ 0 := tk_ne_zero _ _ (by omega) (by omega)

section
variable {N : Nat} (hd : ∀ i j, i < j → j < N → tk i 1 / 2 ≠ tk j 1 / 2)
include hd
theorem two_ne' (n p q : Nat) (hn : n ≤ N) (hp : p < n) (hq : q < n) (h : p ≠ q) : tk (n - p) 1 ^^^ tk (n - q) 1 ≠ 0 := by
  have hz : ∀ i, 0 < i → i < n → tk i 1 / 2 ≠ 0 := fun i hi h2 => by
    have := hd 0 i hi (by omega)
    rw [show tk 0 1 / 2 = 0 from rfl] at this
    exact fun e => this e.symm
  rcases Nat.lt_or_gt_of_ne h with h | h
  · exact two_ne n p q hz h hq
  · rw [Nat.xor_comm]; exact two_ne n q p hz h hp

theorem three_ne' (n p q r : Nat) (hn : n ≤ N) (hp : p < n) (hq : q < n) (hr : r < n) (h1 : p ≠ q) (h2 : p ≠ r) (h3 : q ≠ r) :
    tk (n - p) 1 ^^^ tk (n - q) 1 ^^^ tk (n - r) 1 ≠ 0 := by
  have hz : ∀ i j, i < j → j < n → tk i 1 / 2 ≠ tk j 1 / 2 := fun i j hi hj => hd i j hi (by omega)
  have X : ∀ a b c : Nat, a ^^^ b ^^^ c = a ^^^ c ^^^ b := fun a b c => by rw [Nat.xor_assoc, Nat.xor_comm b, ← Nat.xor_assoc]
  rcases Nat.lt_or_gt_of_ne h1 with h1 | h1 <;> rcases Nat.lt_or_gt_of_ne h2 with h2 | h2 <;> rcases Nat.lt_or_gt_of_ne h3 with h3 | h3
  · exact three_ne n p q r hz h1 h3 hr
  · rw [X]; exact three_ne n p r q hz h2 h3 hq
  · omega
  · rw [Nat.xor_comm, ← Nat.xor_assoc]; exact three_ne n r p q hz h2 h1 hq
  · rw [Nat.xor_comm (tk (n - p) 1)]; exact three_ne n q p r hz h1 h2 hr
  · omega
  · rw [Nat.xor_comm (tk (n - p) 1), X]; exact three_ne n q r p hz h3 h2 hp
  · rw [Nat.xor_comm, Nat.xor_comm (tk (n - p) 1), ← Nat.xor_assoc]; exact three_ne n r q p hz h3 h1 hp

theorem few_ne (n p q r : Nat) (hn : n ≤ N) (hp : p < n) (hq : q < n) (hr : r < n) : wt n (places p q r) ≠ 0 := by
  unfold places
  by_cases h1 : q ≠ p
  · by_cases h2 : r ≠ p ∧ r ≠ q
    · rw [if_pos h1, if_pos h2]
      show wt n [p, q, r] ≠ 0
      rw [wt_three]; exact three_ne' hd n p q r hn hp hq hr (Ne.symm h1) (Ne.symm h2.1) (Ne.symm h2.2)
    · rw [if_pos h1, if_neg h2]
      show wt n [p, q] ≠ 0
      rw [wt_two]; exact two_ne' hd n p q hn hp hq (Ne.symm h1)
  · by_cases h2 : r ≠ p ∧ r ≠ q
    · rw [if_neg h1, if_pos h2]
      show wt n [p, r] ≠ 0
      rw [wt_two]; exact two_ne' hd n p r hn hp hr (Ne.symm h2.1)
    · rw [if_neg h1, if_neg h2]
      show wt n [p] ≠ 0
      rw [wt_one]; exact one_ne' n p
end

theorem dist_8032 : ∀ i j, i < j → j < 8032 → tk i 1 / 2 ≠ tk j 1 / 2 := dist 2 8032 (by decide) cks_8032
end CrcM
end

section
/- bytes laid behind a sealed length: bits turned in them -/
set_option autoImplicit false
namespace CrcM

/-- a frame -/
def fr (b : List Nat) : List Nat := sealB [b.length % 256, b.length / 256] ++ sealB b
theorem fr_length (b : List Nat) : (fr b).length = b.length + 10 := by
  unfold fr; rw [List.length_append, sealB_length, sealB_length]; simp; omega
theorem fr_bytes (b : List Nat) (hb : Bytes b) (hl : b.length < 65536) : Bytes (fr b) := by
  intro c hc
  rcases List.mem_append.1 hc with h | h
  · refine sealB_bytes _ ?_ c h
    intro d hd
    simp only [List.mem_cons, List.not_mem_nil, or_false] at hd
    rcases hd with rfl | rfl <;> omega
  · exact sealB_bytes _ hb c h

theorem flip_left (A B : List Nat) (p : Nat) (hp : p < 8 * A.length) : flip (A ++ B) p = flip A p ++ B := by
  unfold flip
  have h : p / 8 < A.length := by omega
  rw [List.set_append_left _ _ h, List.getD_eq_getElem?_getD, List.getD_eq_getElem?_getD, List.getElem?_append_left h]
theorem flip_right (A B : List Nat) (p : Nat) (hp : 8 * A.length ≤ p) : flip (A ++ B) p = A ++ flip B (p - 8 * A.length) := by
  unfold flip
  have h : A.length ≤ p / 8 := by omega
  have e1 : (p - 8 * A.length) / 8 = p / 8 - A.length := by omega
  have e2 : (p - 8 * A.length) % 8 = p % 8 := by omega
  rw [List.set_append_right _ _ h, List.getD_eq_getElem?_getD, List.getD_eq_getElem?_getD, List.getElem?_append_right h, e1, e2]
def lows (n : Nat) (ps : List Nat) : List Nat := ps.filter fun p => decide (p < n)
def highs (n : Nat) (ps : List Nat) : List Nat := (ps.filter fun p => !decide (p < n)).map (· - n)
theorem flips_append (ps A B : List Nat) : flips (A ++ B) ps = flips A (lows (8 * A.length) ps) ++ flips B (highs (8 * A.length) ps) := by
  induction ps generalizing A B with
  | nil => rfl
  | cons p ps ih =>
    show flips (flip (A ++ B) p) ps = _
    unfold lows highs
    by_cases hp : p < 8 * A.length
    · rw [flip_left A B p hp, ih, flip_length, List.filter_cons_of_pos (by simpa using hp), List.filter_cons_of_neg (by simpa using hp)]
      rfl
    · rw [flip_right A B p (by omega), ih, List.filter_cons_of_neg (by simpa using hp), List.filter_cons_of_pos (by simpa using hp)]
      rfl
theorem lows_lt (n : Nat) (ps : List Nat) : ∀ p ∈ lows n ps, p < n := fun p hp => by simpa using (List.mem_filter.1 hp).2
theorem highs_lt (n m : Nat) (ps : List Nat) (h : ∀ p ∈ ps, p < n + m) : ∀ p ∈ highs n ps, p < m := by
  intro p hp
  obtain ⟨q, hq, rfl⟩ := List.mem_map.1 hp
  obtain ⟨h1, h2⟩ := List.mem_filter.1 hq
  have := h q h1
  simp at h2
  omega
def Tells (n : Nat) (ps : List Nat) : Prop := ps = [] ∨ wt n ps ≠ 0

theorem nodup_tells {N : Nat} (hd : ∀ i j, i < j → j < N → tk i 1 / 2 ≠ tk j 1 / 2) (n : Nat) (hn : n ≤ N) (ps : List Nat) (hnd : ps.Nodup) (hl : ps.length ≤ 3) (hp : ∀ p ∈ ps, p < n) : Tells n ps := by
  match ps, hnd, hl, hp with
  | [], _, _, _ => exact .inl rfl
  | [a], _, _, _ => exact .inr (by rw [wt_one]; exact one_ne' n a)
  | [a, b], h, _, hp => exact .inr (by rw [wt_two]; exact two_ne' hd n a b hn (hp a (by simp)) (hp b (by simp)) (by simpa using h))
  | [a, b, c], h, _, hp =>
    simp at h
    exact .inr (by rw [wt_three]; exact three_ne' hd n a b c hn (hp a (by simp)) (hp b (by simp)) (hp c (by simp)) h.1.1 h.1.2 h.2)
  | _ :: _ :: _ :: _ :: _, _, hl, _ => simp at hl
theorem lows_nodup (n : Nat) (ps : List Nat) (h : ps.Nodup) : (lows n ps).Nodup := h.filter _
theorem highs_nodup (n : Nat) (ps : List Nat) (h : ps.Nodup) : (highs n ps).Nodup := by
  have h2 := h.filter (fun p => !decide (p < n))
  unfold highs
  have h3 : ∀ p ∈ ps.filter (fun p => !decide (p < n)), n ≤ p := fun p hp => by simpa using (List.mem_filter.1 hp).2
  generalize ps.filter (fun p => !decide (p < n)) = qs at h2 h3
  show List.Pairwise _ _
  rw [List.pairwise_map]
  exact List.Pairwise.imp_of_mem (fun ha hb hne => by have := h3 _ ha; have := h3 _ hb; omega) h2
theorem places_nodup (p q r : Nat) : (places p q r).Nodup := by
  unfold places
  by_cases h1 : q ≠ p
  · by_cases h2 : r ≠ p ∧ r ≠ q
    · rw [if_pos h1, if_pos h2]; simp; exact ⟨⟨Ne.symm h1, Ne.symm h2.1⟩, Ne.symm h2.2⟩
    · rw [if_pos h1, if_neg h2]; simp; exact Ne.symm h1
  · by_cases h2 : r ≠ p ∧ r ≠ q
    · rw [if_neg h1, if_pos h2]; simp; exact Ne.symm h2.1
    · rw [if_neg h1, if_neg h2]; simp
theorem places_length (p q r : Nat) : (places p q r).length ≤ 3 := by
  unfold places
  split <;> split <;> simp
theorem places_in (n p q r : Nat) (hp : p < n) (hq : q < n) (hr : r < n) : ∀ z ∈ places p q r, z < n := by
  intro z hz
  unfold places at hz
  rcases List.mem_cons.1 hz with rfl | hz
  · exact hp
  · rcases List.mem_append.1 hz with hz | hz
    · split at hz
      · simp at hz; omega
      · simp at hz
    · split at hz
      · simp at hz; omega
      · simp at hz
theorem lows_few (n : Nat) (ps : List Nat) : (lows n ps).length ≤ ps.length := List.length_filter_le _ _
theorem highs_few (n : Nat) (ps : List Nat) : (highs n ps).length ≤ ps.length := by unfold highs; rw [List.length_map]; exact List.length_filter_le _ _
theorem split_ne (n : Nat) (ps : List Nat) (h : ps ≠ []) (h1 : lows n ps = []) : highs n ps ≠ [] := by
  intro h2
  apply h
  match ps, h1, h2 with
  | [], _, _ => rfl
  | p :: ps, h1, h2 =>
    unfold lows at h1; unfold highs at h2
    have h2' := List.map_eq_nil_iff.1 h2
    by_cases hp : p < n
    · rw [List.filter_cons_of_pos (by simpa using hp)] at h1; cases h1
    · rw [List.filter_cons_of_pos (by simpa using hp)] at h2'; cases h2'

/-- a burst, cut at a place -/
theorem burst_succ' (i at_ mask : Nat) : burst (i + 1) at_ mask = burst i at_ mask ++ (if mask / 2 ^ i % 2 = 1 then [at_ + i] else []) := by
  unfold burst
  rw [List.range_succ, List.filter_append, List.map_append]
  congr 1
  by_cases hb : mask / 2 ^ i % 2 = 1 <;> simp [hb]
theorem burst_lows (n at_ mask i : Nat) : lows n (burst i at_ mask) = burst (min i (n - at_)) at_ mask := by
  induction i with
  | zero => rw [Nat.zero_min]; rfl
  | succ i ih =>
    rw [burst_succ']
    unfold lows at ih ⊢
    rw [List.filter_append, ih]
    by_cases h : at_ + i < n
    · rw [show min (i + 1) (n - at_) = min i (n - at_) + 1 by omega, burst_succ', show min i (n - at_) = i by omega]
      by_cases hb : mask / 2 ^ i % 2 = 1 <;> simp [hb, h]
    · rw [show min (i + 1) (n - at_) = min i (n - at_) by omega]
      by_cases hb : mask / 2 ^ i % 2 = 1 <;> simp [hb, h]
theorem burst_highs (n at_ mask i : Nat) : highs n (burst i at_ mask) = burst (i - (n - at_)) (at_ - n) (mask / 2 ^ (n - at_)) := by
  induction i with
  | zero => rw [Nat.zero_sub]; rfl
  | succ i ih =>
    rw [burst_succ']
    unfold highs at ih ⊢
    rw [List.filter_append, List.map_append, ih]
    by_cases h : at_ + i < n
    · rw [show i + 1 - (n - at_) = i - (n - at_) by omega]
      by_cases hb : mask / 2 ^ i % 2 = 1 <;> simp [hb, h]
    · rw [show i + 1 - (n - at_) = i - (n - at_) + 1 by omega, burst_succ', Nat.div_div_eq_div_mul, ← Nat.pow_add, show n - at_ + (i - (n - at_)) = i by omega]
      by_cases hb : mask / 2 ^ i % 2 = 1
      · simp [hb, h]; omega
      · simp [hb]
theorem burst_none (i at_ mask : Nat) (h : mask % 2 ^ i = 0) : burst i at_ mask = [] := by
  induction i with
  | zero => rfl
  | succ i ih =>
    have h1 : mask % 2 ^ i = 0 := by
      have := Nat.mod_mod_of_dvd mask (Nat.pow_dvd_pow 2 (Nat.le_succ i))
      rw [h, Nat.zero_mod] at this
      exact this.symm
    rw [burst_succ', ih h1]
    have h2 := Nat.mod_pow_succ (x := mask) (b := 2) (k := i)
    rw [h, h1] at h2
    have h3 : mask / 2 ^ i % 2 = 0 := by
      rcases Nat.eq_zero_or_pos (mask / 2 ^ i % 2) with h | h
      · exact h
      · have : 0 < 2 ^ i * (mask / 2 ^ i % 2) := Nat.mul_pos (Nat.pow_pos (by decide)) h
        omega
    rw [if_neg (by omega)]; rfl
theorem burst_tells (n i at_ mask : Nat) (h : at_ + i ≤ n) (hi : i ≤ 32) : Tells n (burst i at_ mask) := by
  by_cases h0 : mask % 2 ^ i = 0
  · exact .inl (burst_none i at_ mask h0)
  · refine .inr ?_
    rw [wt_burst n at_ mask i h]
    refine tk_ne_zero _ _ ?_ h0
    have h1 : mask % 2 ^ i < 2 ^ i := Nat.mod_lt _ (Nat.pow_pos (by decide))
    have h2 : (2 : Nat) ^ i ≤ 2 ^ 32 := Nat.pow_le_pow_right (by decide) hi
    have h3 : (2 : Nat) ^ 32 = 4294967296 := by decide
    omega
theorem burst_some (at_ mask : Nat) (hm : mask < 4294967296) (h0 : mask ≠ 0) : burst 32 at_ mask ≠ [] := by
  intro h
  have := wt_burst (at_ + 32) at_ mask 32 (Nat.le_refl _)
  rw [h, Nat.mod_eq_of_lt hm] at this
  exact tk_ne_zero _ _ hm h0 this.symm
theorem burst_in' (at_ mask i p : Nat) (h : p ∈ burst i at_ mask) : p < at_ + i := by
  unfold burst at h
  obtain ⟨j, hj, rfl⟩ := List.mem_map.1 h
  have := List.mem_range.1 (List.mem_filter.1 hj).1
  omega
end CrcM
end

section
/- a frame over lists: what is made; what is found when bits are turned; when it is cut; when bytes follow -/
set_option linter.unusedVariables false
set_option linter.unusedSimpArgs false
set_option autoImplicit false
namespace Go.Proofs.Ytckjmbpagippkaa.Pure
open Go.RowKit Go.Proofs.Ytckjmbpagippkaa.G Go.Proofs.YtckjmbpagippkaaW.PrintWords Go.Proofs.YtckjmbpagippkaaW.PrintLast

def frz (l : List Int) : List Int := zof (CrcM.fr (nats l))
theorem frz_length (l : List Int) : (frz l).length = l.length + 10 := by unfold frz; rw [zof_length, CrcM.fr_length, nats_length]
theorem frz_u8s {l : List Int} (hu : u8s l) (hl : l.length ≤ 8192) : u8s (frz l) := u8s_zof (CrcM.fr_bytes _ (u8s_nats hu) (by rw [nats_length]; omega))
theorem zof_append (a b : List Nat) : zof (a ++ b) = zof a ++ zof b := by simp [zof]
theorem zof_nats {l : List Int} (h : u8s l) : zof (nats l) = l := by
  induction l with
  | nil => rfl
  | cons x l ih =>
    have := h x List.mem_cons_self
    show ((x.toNat : Nat) : Int) :: zof (nats l) = _
    rw [ih (fun y hy => h y (List.mem_cons_of_mem _ hy))]
    congr 1
    omega
def head_ (n : Nat) : List Nat := [n % 256, n / 256]
theorem head_bytes (n : Nat) (hn : n < 65536) : CrcM.Bytes (head_ n) := by
  intro d hd
  simp only [head_, List.mem_cons, List.not_mem_nil, or_false] at hd
  rcases hd with rfl | rfl <;> omega
theorem make_some {l : List Int} (hu : u8s l) (hl : l.length ≤ 8192) : frame_Make.f l = some (frz l, 0) := by
  unfold frame_Make.f
  rw [if_neg (by omega)]
  have e : ([(l.length : Int) % 256, (l.length : Int) / 256] : List Int) = zof (head_ l.length) := by
    simp [zof, head_]
  rw [e, seal_some (u8s_zof (head_bytes _ (by omega))) (by simp [zof, head_]), seal_some hu (by omega)]
  simp only [Option.bind_some]
  rw [if_pos ⟨by rw [zof_length, CrcM.sealB_length, nats_length, zof_length]; simp [head_], by rw [zof_length, CrcM.sealB_length, nats_length]; omega⟩, nats_zof]
  unfold frz CrcM.fr
  rw [zof_append, nats_length]
  rfl
theorem make_big {l : List Int} (hl : 8192 < l.length) : frame_Make.f l = some ([], 4) := by
  unfold frame_Make.f
  rw [if_pos hl]

/-- what is found in six bytes and more bytes -/
theorem next_head {A B : List Int} (hA : u8s A) (hl : A.length = 6) : frame_Next.f (A ++ B) = (some (opened (CrcM.openB (nats A)))).bind fun p => if p.2 = false then some ([], 0, 6) else if p.1.length = 2 ∧ u8s p.1 then
    (if rd p.1 0 + 256 * rd p.1 1 > 8192 then some ([], 0, 4) else if ((A ++ B).length : Int) < rd p.1 0 + 256 * rd p.1 1 + 10 then some ([], 0, 2) else
      (crc_Open.f (((A ++ B).take (rd p.1 0 + 256 * rd p.1 1 + 10).toNat).drop 6)).bind fun q => if q.2 = false then some ([], 0, 6) else some (q.1, rd p.1 0 + 256 * rd p.1 1 + 10, 0)) else none := by
  unfold frame_Next.f
  rw [if_neg (by rw [List.length_append]; omega), show (A ++ B).take 6 = A by rw [← hl]; exact List.take_left, open_some' hA (by omega)]
theorem next_head_bad {A B : List Int} (hA : u8s A) (hl : A.length = 6) (h : CrcM.openB (nats A) = none) : frame_Next.f (A ++ B) = some ([], 0, 6) := by
  rw [next_head hA hl, h]; rfl
theorem next_head_good {n : Nat} {B : List Int} (hn : n ≤ 8192) : frame_Next.f (zof (CrcM.sealB (head_ n)) ++ B) = if (6 + B.length : Nat) < n + 10 then some ([], 0, 2) else (crc_Open.f (B.take (n + 4))).bind fun q => if q.2 = false then some ([], 0, 6) else some (q.1, ((n + 10 : Nat) : Int), 0) := by
  have hA : u8s (zof (CrcM.sealB (head_ n))) := u8s_zof (CrcM.sealB_bytes _ (head_bytes _ (by omega)))
  have hl : (zof (CrcM.sealB (head_ n))).length = 6 := by rw [zof_length, CrcM.sealB_length]; rfl
  rw [next_head hA hl, nats_zof, CrcM.open_sealB]
  simp only [opened, Option.bind_some]
  have e0 : rd (zof (head_ n)) 0 = ((n % 256 : Nat) : Int) := rfl
  have e1 : rd (zof (head_ n)) 1 = ((n / 256 : Nat) : Int) := rfl
  have e2 : rd (zof (head_ n)) 0 + 256 * rd (zof (head_ n)) 1 = (n : Int) := by rw [e0, e1]; omega
  rw [if_neg (by decide), if_pos ⟨rfl, u8s_zof (head_bytes _ (by omega))⟩, e2, if_neg (by omega), List.length_append, hl]
  by_cases h : 6 + B.length < n + 10
  · rw [if_pos (by omega), if_pos h]
  · rw [if_neg (by omega), if_neg h, show ((n : Int) + 10).toNat = 6 + (n + 4) by omega]
    congr 2
    rw [← hl, List.take_length_add_append, List.drop_left]
theorem next_frame {l : List Int} (hu : u8s l) (hl : l.length ≤ 8192) (B : List Int) : frame_Next.f (frz l ++ B) = some (l, ((l.length + 10 : Nat) : Int), 0) := by
  unfold frz CrcM.fr
  rw [zof_append, List.append_assoc, nats_length]
  show frame_Next.f (zof (CrcM.sealB (head_ l.length)) ++ _) = _
  rw [next_head_good hl, if_neg (by rw [List.length_append, zof_length, CrcM.sealB_length, nats_length]; omega)]
  have e : (zof (CrcM.sealB (nats l)) ++ B).take (l.length + 4) = zof (CrcM.sealB (nats l)) := by
    have h : (zof (CrcM.sealB (nats l))).length = l.length + 4 := by rw [zof_length, CrcM.sealB_length, nats_length]
    rw [← h, List.take_left]
  rw [e, open_some' (u8s_zof (CrcM.sealB_bytes _ (u8s_nats hu))) (by rw [zof_length, CrcM.sealB_length, nats_length]; omega), nats_zof, CrcM.open_sealB]
  simp only [opened, Option.bind_some]
  rw [if_neg (by decide), zof_nats hu]
theorem next_cut {l : List Int} (hl : l.length ≤ 8192) (cut : Nat) (hc : cut < l.length + 10) : frame_Next.f ((frz l).take cut) = some ([], 0, 2) := by
  by_cases h6 : cut < 6
  · unfold frame_Next.f
    rw [if_pos (by rw [List.length_take]; omega)]
  unfold frz CrcM.fr
  rw [zof_append, nats_length]
  have hh : (zof (CrcM.sealB (head_ l.length))).length = 6 := by rw [zof_length, CrcM.sealB_length]; rfl
  obtain ⟨k, rfl⟩ : ∃ k, cut = 6 + k := ⟨cut - 6, by omega⟩
  have e : (zof (CrcM.sealB [l.length % 256, l.length / 256]) ++ zof (CrcM.sealB (nats l))).take (6 + k) = zof (CrcM.sealB (head_ l.length)) ++ (zof (CrcM.sealB (nats l))).take k := by
    rw [← hh]; exact List.take_length_add_append k
  rw [e, next_head_good hl, if_pos (by rw [List.length_take]; omega)]
/-- bits turned: an error -/
theorem next_turned {l : List Int} (hu : u8s l) (hl : l.length ≤ 8192) (ps : List Nat) (hp : ∀ p ∈ ps, p < 8 * (l.length + 10)) (h0 : ps ≠ [])
    (h1 : CrcM.Tells 48 (CrcM.lows 48 ps)) (h2 : CrcM.Tells (8 * (l.length + 4)) (CrcM.highs 48 ps)) : frame_Next.f (zof (CrcM.flips (nats (frz l)) ps)) = some ([], 0, 6) := by
  have hh : (CrcM.sealB (head_ l.length)).length = 6 := by rw [CrcM.sealB_length]; rfl
  unfold frz CrcM.fr
  rw [nats_zof, nats_length]
  show frame_Next.f (zof (CrcM.flips (CrcM.sealB (head_ l.length) ++ CrcM.sealB (nats l)) ps)) = _
  rw [CrcM.flips_append, hh, show 8 * 6 = 48 from rfl, zof_append]
  rcases h1 with h1 | h1
  · have h3 := CrcM.split_ne 48 ps h0 h1
    rcases h2 with h2 | h2
    · exact absurd h2 h3
    rw [h1]
    show frame_Next.f (zof (CrcM.sealB (head_ l.length)) ++ _) = _
    have hlen : (zof (CrcM.flips (CrcM.sealB (nats l)) (CrcM.highs 48 ps))).length = l.length + 4 := by rw [zof_length, CrcM.flips_length, CrcM.sealB_length, nats_length]
    rw [next_head_good hl, if_neg (by rw [hlen]; omega), List.take_of_length_le (by rw [hlen]; exact Nat.le_refl _),
      open_some' (u8s_zof (CrcM.flips_bytes _ _ (CrcM.sealB_bytes _ (u8s_nats hu)))) (by rw [hlen]; omega), nats_zof,
      CrcM.refused _ _ (u8s_nats hu) (by rw [nats_length]; exact CrcM.highs_lt 48 _ ps (fun p h => by have := hp p h; omega)) (by rw [nats_length]; exact h2)]
    rfl
  · refine next_head_bad (u8s_zof (CrcM.flips_bytes _ _ (CrcM.sealB_bytes _ (head_bytes _ (by omega))))) (by rw [zof_length, CrcM.flips_length, hh]) ?_
    rw [nats_zof]
    exact CrcM.refused _ _ (head_bytes _ (by omega)) (CrcM.lows_lt 48 ps) h1
theorem next_few {l : List Int} (hu : u8s l) (hl : l.length ≤ 1000) (p q r : Nat) (hp : p < 8 * (l.length + 10)) (hq : q < 8 * (l.length + 10)) (hr : r < 8 * (l.length + 10)) :
    frame_Next.f (zof (CrcM.flips (nats (frz l)) (CrcM.places p q r))) = some ([], 0, 6) := by
  have hin := CrcM.places_in _ p q r hp hq hr
  have hnd := CrcM.places_nodup p q r
  have hln := CrcM.places_length p q r
  refine next_turned hu (by omega) _ hin (by unfold CrcM.places; simp) ?_ ?_
  · exact CrcM.nodup_tells CrcM.dist_8032 48 (by decide) _ (CrcM.lows_nodup _ _ hnd) (Nat.le_trans (CrcM.lows_few _ _) hln) (CrcM.lows_lt _ _)
  · exact CrcM.nodup_tells CrcM.dist_8032 _ (by omega) _ (CrcM.highs_nodup _ _ hnd) (Nat.le_trans (CrcM.highs_few _ _) hln) (CrcM.highs_lt 48 _ _ (fun z hz => by have := hin z hz; omega))
theorem next_burst {l : List Int} (hu : u8s l) (hl : l.length ≤ 8192) (at_ mask : Nat) (ha : at_ + 32 ≤ 8 * (l.length + 10)) (hm : mask < 4294967296) (h0 : mask ≠ 0) :
    frame_Next.f (zof (CrcM.flips (nats (frz l)) (CrcM.burst 32 at_ mask))) = some ([], 0, 6) := by
  refine next_turned hu hl _ (fun p h => by have := CrcM.burst_in' _ _ _ _ h; omega) (CrcM.burst_some at_ mask hm h0) ?_ ?_
  · rw [CrcM.burst_lows]
    by_cases h : at_ ≤ 48
    · exact CrcM.burst_tells _ _ _ _ (by omega) (by omega)
    · rw [show min 32 (48 - at_) = 0 by omega]; exact .inl rfl
  · rw [CrcM.burst_highs]
    exact CrcM.burst_tells _ _ _ _ (by omega) (by omega)
end Go.Proofs.Ytckjmbpagippkaa.Pure
end

section
/- frames by the document are the program's frames: pure laws -/
set_option linter.unusedVariables false
set_option linter.unusedSimpArgs false
set_option autoImplicit false
namespace Go.Proofs.Ytckjmbpagippkaa.Pure
open Go.RowKit Go.Proofs.Ytckjmbpagippkaa Go.Proofs.Ytckjmbpagippkaa.G Go.Proofs.YtckjmbpagippkaaW.PrintWords Go.Proofs.YtckjmbpagippkaaW.PrintLast

theorem refmake_some {l : List Int} (hu : u8s l) (hl : l.length ≤ 8192) (k : Nat) (hk : l.length + 12 ≤ k) : rosetteref03_Make.f k l = some (frz l, 0) := by
  unfold rosetteref03_Make.f
  have hw : wrap64 ((l.length : Int) / 256) = (l.length : Int) / 256 := wrap_small _ (by omega) (by omega)
  have hz : ([(l.length : Int) % 256, (wrap64 ((l.length : Int) / 256)) % 256] : List Int) = zof (head_ l.length) := by
    rw [hw]
    simp only [zof, head_, List.map_cons, List.map_nil, List.cons.injEq, and_true]
    constructor <;> omega
  have hhb := head_bytes l.length (by omega)
  rw [if_neg (by omega), hz, refseal_some (u8s_zof hhb) (by simp [zof, head_]) k (by simp [zof, head_]; omega)]
  simp only [Option.bind_some]
  rw [refseal_some hu (by omega) k (by omega)]
  simp only [Option.bind_some]
  rw [if_pos (by simp only [zof_length, CrcM.sealB_length, nats_length, show (head_ l.length).length = 2 from rfl]; omega)]
  unfold frz CrcM.fr
  rw [zof_append, nats_zof, nats_length]
  rfl
theorem refmake_big {l : List Int} (hl : 8192 < l.length) (k : Nat) : rosetteref03_Make.f k l = some ([], 4) := by
  unfold rosetteref03_Make.f
  rw [if_pos (by omega)]
theorem refnext_eq {l : List Int} (hu : u8s l) (hl : l.length ≤ 1000000) (k : Nat) (hk : l.length + 12 ≤ k) : rosetteref03_Next.f k l = frame_Next.f l := by
  have h : ∀ x : List Int, u8s x → x.length ≤ l.length → rosetteref01_Open.f k x = crc_Open.f x := fun x hx hxl => by
    rw [open_some' hx (by omega), refopen_some hx (by omega) k (by omega)]
  unfold rosetteref03_Next.f frame_Next.f
  rw [h _ (u8s_take hu 6) (by simp; omega)]
  congr 1
  congr 1
  funext p
  rw [h _ (u8s_drop (u8s_take hu _) 6) (by simp; omega)]
theorem all_both {l : List Int} (hu : u8s l) (hl : l.length ≤ 1000000) : ∀ (d at_ : Nat) (acc : List (List Int)), l.length - at_ ≤ d → acc.length ≤ at_ → at_ ≤ l.length →
    ∃ r : List (List Int) × Int × Int, (∀ k, d < k → frame_All.l0 k l acc at_ (at_ : Int) = some r) ∧ ∀ k, d + l.length + 12 < k → rosetteref03_All.l0 k l acc (at_ : Int) = some r := by
  intro d
  induction d with
  | zero =>
    intro at_ acc h1 h2 h3
    refine ⟨(acc, (at_ : Int), 0), fun k hk => ?_, fun k hk => ?_⟩
    · obtain ⟨k, rfl⟩ : ∃ m, k = m + 1 := ⟨k - 1, by omega⟩
      simp only [frame_All.l0]
      rw [if_pos (by omega)]
    · obtain ⟨k, rfl⟩ : ∃ m, k = m + 1 := ⟨k - 1, by omega⟩
      simp only [rosetteref03_All.l0]
      rw [if_neg (by omega)]
  | succ d ih =>
    intro at_ acc h1 h2 h3
    by_cases hlt : at_ < l.length
    · obtain ⟨x, n, er, hn, hpos⟩ := next_from l hu hl at_
      by_cases he : er = 0
      · obtain ⟨p1, p2⟩ := hpos he
        obtain ⟨r, q1, q2⟩ := ih (at_ + n.toNat) (acc ++ [x]) (by omega) (by rw [List.length_append, List.length_singleton]; omega) (by omega)
        have hat : ((at_ + n.toNat : Nat) : Int) = (at_ : Int) + n := by omega
        rw [hat] at q1 q2
        refine ⟨r, fun k hk => ?_, fun k hk => ?_⟩
        · obtain ⟨k, rfl⟩ : ∃ m, k = m + 1 := ⟨k - 1, by omega⟩
          simp only [frame_All.l0]
          rw [if_neg (by omega), hn]
          simp only [Option.bind_some]
          rw [if_pos he]
          exact q1 k (by omega)
        · obtain ⟨k, rfl⟩ : ∃ m, k = m + 1 := ⟨k - 1, by omega⟩
          simp only [rosetteref03_All.l0]
          rw [if_pos (by omega), if_pos (by omega), if_pos (by omega), Int.toNat_natCast, refnext_eq (u8s_drop hu _) (by simp; omega) k (by simp; omega), hn]
          simp only [Option.bind_some]
          rw [if_pos he, if_pos (by omega), wrap_small _ (by omega) (by omega)]
          exact q2 k (by omega)
      · refine ⟨(acc, (at_ : Int), er), fun k hk => ?_, fun k hk => ?_⟩
        · obtain ⟨k, rfl⟩ : ∃ m, k = m + 1 := ⟨k - 1, by omega⟩
          simp only [frame_All.l0]
          rw [if_neg (by omega), hn]
          simp only [Option.bind_some]
          rw [if_neg he]
        · obtain ⟨k, rfl⟩ : ∃ m, k = m + 1 := ⟨k - 1, by omega⟩
          simp only [rosetteref03_All.l0]
          rw [if_pos (by omega), if_pos (by omega), if_pos (by omega), Int.toNat_natCast, refnext_eq (u8s_drop hu _) (by simp; omega) k (by simp; omega), hn]
          simp only [Option.bind_some]
          rw [if_neg he]
    · refine ⟨(acc, (at_ : Int), 0), fun k hk => ?_, fun k hk => ?_⟩
      · obtain ⟨k, rfl⟩ : ∃ m, k = m + 1 := ⟨k - 1, by omega⟩
        simp only [frame_All.l0]
        rw [if_pos (by omega)]
      · obtain ⟨k, rfl⟩ : ∃ m, k = m + 1 := ⟨k - 1, by omega⟩
        simp only [rosetteref03_All.l0]
        rw [if_neg (by omega)]
theorem all_len {l : List Int} : ∀ (k : Nat) (acc : List (List Int)) (at_ : Nat) (e : Int) (r : List (List Int) × Int × Int), frame_All.l0 k l acc at_ e = some r → r.1.length ≤ acc.length + k := by
  intro k
  induction k with
  | zero => intro acc at_ e r h; simp [frame_All.l0] at h
  | succ k ih =>
    intro acc at_ e r h
    simp only [frame_All.l0] at h
    split at h
    · cases h; simp
    · obtain ⟨q, _, h⟩ := Option.bind_eq_some_iff.mp h
      split at h
      · have := ih _ _ _ _ h
        rw [List.length_append, List.length_singleton] at this
        omega
      · cases h; simp
theorem same_go (L : List (List Int)) (hl : L.length ≤ 9223372036854775806) : ∀ (d k i : Nat), i + d = L.length → d < k → rosetteref03_Same.l0 k L L (i : Int) = some true := by
  intro d
  induction d with
  | zero =>
    intro k i h1 h2
    obtain ⟨k, rfl⟩ : ∃ m, k = m + 1 := ⟨k - 1, by omega⟩
    simp only [rosetteref03_Same.l0]
    rw [if_neg (by omega)]
  | succ d ih =>
    intro k i h1 h2
    obtain ⟨k, rfl⟩ : ∃ m, k = m + 1 := ⟨k - 1, by omega⟩
    simp only [rosetteref03_Same.l0]
    rw [if_pos (by omega), if_pos (by omega), if_pos (by omega), if_pos trivial, wrap_small _ (by omega) (by omega), show (i : Int) + 1 = ((i + 1 : Nat) : Int) by omega]
    exact ih k (i + 1) (by omega) (by omega)
theorem same_refl (L : List (List Int)) (hl : L.length ≤ 9223372036854775806) (k : Nat) (hk : L.length < k) : rosetteref03_Same.f k L L = some true := by
  unfold rosetteref03_Same.f
  rw [if_pos rfl]
  exact same_go L hl L.length k 0 (by omega) hk
end Go.Proofs.Ytckjmbpagippkaa.Pure
end

section
/- The statement FrameMakes over numbers and lists: frames, and what is found first, and in all, are the document's. -/
namespace Go.Proofs.Ytckjmbpagippkaa.Pure
open Go.RowKit Go.Proofs.Ytckjmbpagippkaa Go.Proofs.Ytckjmbpagippkaa.G Go.Proofs.YtckjmbpagippkaaW.PrintWords Go.Proofs.YtckjmbpagippkaaW.PrintLast

theorem bind_of3 {α β : Type} {o : Option α} {f : α → Option β} {x : α} (h : o = some x) : o.bind f = f x := by rw [h]; rfl
theorem makes_loop (l : List Int) (M : List Int × Int) (hM : frame_Make.f l = some M) : ∀ (d k : Nat) (x : List Int) (i : Nat), x.length = i + d → x.length ≤ 1000000 → d < k → rosettelaw03_FrameMakes.l0 k l true x M.1 true (i : Int) = some true := by
  intro d
  induction d with
  | zero =>
    intro k x i h1 h2 h3
    obtain ⟨k, rfl⟩ : ∃ m, k = m + 1 := ⟨k - 1, by omega⟩
    simp only [rosettelaw03_FrameMakes.l0]
    rw [if_neg (by omega), hM]
    simp
  | succ d ih =>
    intro k x i h1 h2 h3
    obtain ⟨k, rfl⟩ : ∃ m, k = m + 1 := ⟨k - 1, by omega⟩
    simp only [rosettelaw03_FrameMakes.l0]
    rw [if_pos (by omega), if_pos (by omega), wrap_small _ (by omega) (by omega), show (i : Int) + 1 = ((i + 1 : Nat) : Int) by omega]
    exact ih k _ (i + 1) (by rw [List.length_set]; omega) (by rw [List.length_set]; omega) (by omega)
theorem FrameMakes : rosettelaw03_FrameMakes.Pure := by
  intro l0 l1 _ _ hw0 _ _ hw1
  have hu0 := u8s_wf hw0
  have hu1 := u8s_wf hw1
  obtain ⟨K, hK⟩ : ∃ K, K = l0.length + l1.length + l1.length + 100000 := ⟨_, rfl⟩
  refine ⟨K + 1, ?_⟩
  unfold rosettelaw03_FrameMakes.f rosettelaw03_small.f
  simp only [Option.bind_some]
  have J : rosettelaw03_FrameMakes.j0 (K + 1) l0 l1 true true = some true := by simp only [rosettelaw03_FrameMakes.j0]; rw [if_pos trivial]
  by_cases h1 : (l0.length : Int) > 9000
  · rw [if_pos h1]; exact J
  rw [if_neg h1]
  by_cases h2 : (l1.length : Int) > 2000
  · rw [decide_eq_true h2]; exact J
  rw [decide_eq_false h2]
  obtain ⟨M, m1, m2, m3⟩ : ∃ M : List Int × Int, frame_Make.f l0 = some M ∧ rosetteref03_Make.f K l0 = some M ∧ M.1.length ≤ 100000 - 10 := by
    by_cases hb : 8192 < l0.length
    · exact ⟨_, make_big hb, refmake_big hb K, by simp⟩
    · exact ⟨_, make_some hu0 (by omega), refmake_some hu0 (by omega) K (by omega), by simp only [frz_length]; omega⟩
  obtain ⟨x, n, er, n1, _⟩ := next_total l1 hu1 (by omega)
  have n2 := refnext_eq hu1 (by omega) K (by omega)
  obtain ⟨r, q1, q2⟩ := all_both hu1 (by omega) l1.length 0 [] (by omega) (by simp) (by omega)
  have a1 : frame_All.f K l1 = some r := by
    unfold frame_All.f
    rw [if_pos ⟨by omega, hu1⟩]
    exact q1 K (by omega)
  have a2 : rosetteref03_All.f K l1 = some r := q2 K (by omega)
  have hlen := all_len _ _ _ _ _ (q1 (l1.length + 1) (by omega))
  have hs := same_refl r.1 (by simp at hlen; omega) K (by simp at hlen; omega)
  simp only [rosettelaw03_FrameMakes.j0]
  rw [if_neg (by decide)]
  refine (bind_of3 m1).trans ?_
  refine (bind_of3 m2).trans ?_
  refine (bind_of3 n1).trans ?_
  refine (bind_of3 (n2.trans n1)).trans ?_
  refine (bind_of3 a1).trans ?_
  refine (bind_of3 a2).trans ?_
  rw [if_pos rfl, if_pos rfl, if_pos rfl, if_pos rfl, if_pos rfl]
  refine (bind_of3 hs).trans ?_
  rw [if_pos rfl, if_pos rfl]
  obtain ⟨Q, rfl⟩ : ∃ Q, K = Q + 1 := ⟨K - 1, by omega⟩
  simp only [rosettelaw03_FrameMakes.j1, beq_self_eq_true]
  exact makes_loop l0 M m1 M.1.length Q M.1 0 (by omega) (by omega) (by omega)
end Go.Proofs.Ytckjmbpagippkaa.Pure
end

section
-- Written by a program of this session (wip/tools/myprint.py), over the kit's print.
namespace Go.Proofs.Ytckjmbpagippkaa.frameMakes
open Go.ChangeShapes Go.WideShapes Go.ChangeAt Go.RowKit
open Go.ChangeMaps (open_string shut_string)
set_option linter.unusedVariables false
theorem own : ownKnob Try.prog.godebug = none := by kernel_rfl
theorem laidOut : laidOutB Try.prog = true := by kernel_rfl
def IsRow (k : IntKind) (w : World) (a : Option Addr) (len cap : Nat) (zs : List Int) : Prop :=
  (a = none ∧ len = 0 ∧ cap = 0 ∧ zs = []) ∨
  ∃ x, a = some x ∧ len ≤ cap ∧ cap ≤ maxLen ∧ zs.length = cap ∧ (∀ i, i < zs.length → w.cell? (x.add i) = some (.int k (zs.getD i 0))) ∧ ∀ n ∈ zs, (Lit.int k n).wf = true
set_option maxRecDepth 100000 in
theorem lifted (os : Os) (started : os.Started) (H : Type) (enc : TypeId × Value → H) :
    ReturnsInHanded {} Try.checked os 3 .any (Rows.frameMakesSpec.pre6 enc Try.prog Try.f3 Rows.frameMakesRow.domain false) (Rows.frameMakesSpec.post enc Try.prog Try.f3 false true false false) := by
  refine returnsInHanded_of_change_sized (C := Try.checked) own started (by kernel_rfl) Try.func3
    (ChangeSpec.witness6 (enc := enc) (C := Try.checked) false ⟨#[], #[.slice none 0 0, .slice none 0 0], []⟩ 8 (by kernel_rfl) (by kernel_rfl) (by kernel_rfl) (by kernel_rfl)) ?_
  intro W base args ds gs before hval0 hW hcnd hsz0 _
  have hsz : (DataW.weightsEach Try.prog (Try.f3.params.toList ++ Rows.frameMakesSpec.plain.varTypes Try.prog) (ds ++ gs)).all (· ≤ reachBytes) = true := hsz0
  have hval : ∀ (j : Nat) t v, Try.f3.params[j]? = some t → args[j]? = some v → Value.okWide Try.prog W .any base t v := hval0
  have hW' := hW
  obtain ⟨p, q, hA0, hV, rfl, hfz, hnd⟩ := hW
  have hA : DataW.TrodAll enc Try.prog W 0 (fun _ => true) true Try.f3.params.toList args.toList ds p := hA0
  rw [Try.params3] at hA hval hsz
  obtain ⟨v0, vs0, d0, ds0, p0, q0, hargs, rfl, rfl, h0, r0⟩ := trodAll_cons hA
  obtain ⟨v1, vs1, d1, ds1, p1, q1, rfl, rfl, rfl, h1, r1⟩ := trodAll_cons r0
  obtain ⟨rfl, rfl, rfl⟩ := trodAll_nil r1
  obtain rfl : args = #[v0, v1] := by cases args; simp_all
  obtain ⟨rfl, rfl⟩ := trodVars_none hV
  obtain ⟨a0, len0, cap0, rfl⟩ := okWide_slice Try.underlying22 (hval 0 22 v0 rfl rfl)
  have k0 := h0
  have lt0 : ∀ x ∈ p0, x.block < W.heap.size := by obtain ⟨m, hm⟩ := k0; exact DataW.trod_lt m _ _ _ hm
  obtain ⟨z0, w0⟩ : ∃ zs, IsRow .u8 W a0 len0 cap0 zs := by
    obtain ⟨fuel, hf⟩ := h0
    rcases open_ints Try.underlying22 Try.underlying5 (by kernel_rfl) hf with ⟨hcs, _⟩ | ⟨x, l, c, zs, hcs, _, hl, hm, hz, _, hcell, hwz⟩
    · simp [Value.cells] at hcs
      obtain ⟨rfl, rfl, rfl⟩ := hcs
      exact ⟨[], .inl ⟨rfl, rfl, rfl, rfl⟩⟩
    · simp [Value.cells] at hcs
      obtain ⟨rfl, rfl, rfl⟩ := hcs
      exact ⟨zs, .inr ⟨_, rfl, hl, hm, by simpa using hz, hcell, hwz⟩⟩
  have y0 : len0 * 1 ≤ 140737488351232 := Go.Proofs.YtckjmbpagippkaaW.PrintWords.sized_ints hsz (j := 0) (t := 22) rfl rfl Try.underlying22 Try.underlying5 (by kernel_rfl) (by kernel_rfl) h0
  obtain ⟨a1, len1, cap1, rfl⟩ := okWide_slice Try.underlying22 (hval 1 22 v1 rfl rfl)
  have k1 := h1
  have lt1 : ∀ x ∈ p1, x.block < W.heap.size := by obtain ⟨m, hm⟩ := k1; exact DataW.trod_lt m _ _ _ hm
  obtain ⟨z1, w1⟩ : ∃ zs, IsRow .u8 W a1 len1 cap1 zs := by
    obtain ⟨fuel, hf⟩ := h1
    rcases open_ints Try.underlying22 Try.underlying5 (by kernel_rfl) hf with ⟨hcs, _⟩ | ⟨x, l, c, zs, hcs, _, hl, hm, hz, _, hcell, hwz⟩
    · simp [Value.cells] at hcs
      obtain ⟨rfl, rfl, rfl⟩ := hcs
      exact ⟨[], .inl ⟨rfl, rfl, rfl, rfl⟩⟩
    · simp [Value.cells] at hcs
      obtain ⟨rfl, rfl, rfl⟩ := hcs
      exact ⟨zs, .inr ⟨_, rfl, hl, hm, by simpa using hz, hcell, hwz⟩⟩
  have y1 : len1 * 1 ≤ 140737488351232 := Go.Proofs.YtckjmbpagippkaaW.PrintWords.sized_ints hsz (j := 1) (t := 22) rfl rfl Try.underlying22 Try.underlying5 (by kernel_rfl) (by kernel_rfl) h1
  clear hA0 hval0 hsz0 hsz
  refine (G.rosettelaw03_FrameMakes.walk Pure.FrameMakes a0 len0 cap0 z0 a1 len1 cap1 z1 W w0 y0 w1 y1).mono fun e W' ⟨he, bel⟩ => ?_
  subst he
  exact ⟨_, rfl, _, _, _, [], _, [], hW', trodAll_mk1 (shut_bool Try.underlying4 _), (trodAll_cons_mk (Below.trod laidOut (by kernel_rfl) (of_decide_eq_true (by kernel_rfl)) k0 bel lt0) (trodAll_cons_mk (Below.trod laidOut (by kernel_rfl) (of_decide_eq_true (by kernel_rfl)) k1 bel lt1) trodAll_mk0)), rfl, bel.frame _, fun h => by cases h⟩
theorem over : Rows.frameMakesRow.holds Try.pinned (OpenSpec.ofChange Rows.frameMakesSpec) :=
  OpenClaim.holds_of_wide 3 Try.f3 rfl rfl rfl rfl rfl rfl rfl ⟨rfl, rfl, rfl, rfl, rfl⟩ rfl rfl rfl rfl rfl (by kernel_rfl) Try.func3 (by kernel_rfl)
    (of_decide_eq_true (by kernel_rfl)) (by unfold Func.isWrapper; first | (rw [if_pos (by decide +kernel)]; kernel_rfl) | (rw [if_neg (by decide +kernel)]; exact ⟨rfl, rfl⟩))
    (fun os started H enc _ => lifted os started H enc)
theorem proved : Rows.FrameMakesSaid := over
#print axioms proved
end Go.Proofs.Ytckjmbpagippkaa.frameMakes
namespace Go.Proofs.Ytckjmbpagippkaa
/-- The row, under a short name, for the claim. -/
theorem frameMakes_holds : Rows.FrameMakesSaid := frameMakes.proved
end Go.Proofs.Ytckjmbpagippkaa
end
