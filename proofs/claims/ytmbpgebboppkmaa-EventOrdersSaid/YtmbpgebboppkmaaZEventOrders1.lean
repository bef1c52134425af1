import Derived.Test.YtmbpgebboppkmaaZEventOrders0
import Derived.WalkKit
section
-- Written by a program of this session (wip/tools/myprint.py), over the kit's print.
namespace Go.Proofs.Ytmbpgebboppkmaa.G
open Go.RowKit Go.Proofs.YtmbpgebboppkmaaW.PrintWords Go.Proofs.YtmbpgebboppkmaaW.PrintLast Go.Proofs.YtmbpgebboppkmaaW.PrintMore
attribute [local go_sem] max2_int min2_int max_two min_two max_three min_three max_four min_four   -- for this text's walks alone
set_option linter.unusedVariables false
set_option linter.unusedSimpArgs false

attribute [local go_sem high] eqA30
/-! ### rosettelaw05_EventOrders: function 5 -/
mutual
def rosettelaw05_EventOrders.j0 : Nat → List (S32) → Int → Bool → Bool → Option (Bool)
  | 0, _, _, _, _ => none
  | k + 1, x0, x1, x5, x34 => if x34 = true then (some x5) else (rosettelaw05_EventOrders.l0 k x0 x1 x5 ([] : List (S32)) (wrap64 ((x0.length : Int) - 1)))
def rosettelaw05_EventOrders.l0 : Nat → List (S32) → Int → Bool → List (S32) → Int → Option (Bool)
  | 0, _, _, _, _, _ => none
  | k + 1, x0, x1, x5, x7, x8 => if x8 ≥ 0 then (if 0 ≤ x8 then (if x8 < (x0.length : Int) then (if x7.length < 2932031007402 then (rosettelaw05_EventOrders.l0 k x0 x1 x5 (x7 ++ [(⟨(rd_T32 x0 x8).f0, (⟨(rd_T32 x0 x8).f1.f0, (rd_T32 x0 x8).f1.f1, (rd_T32 x0 x8).f1.f2⟩ : S30)⟩ : S32)]) (wrap64 (x8 - 1))) else (none)) else (none)) else (none)) else ((event_Make.f x0).bind fun bt213 => ((event_Make.f x7).bind fun bt217 => ((some (([] : List (S32)) : List (S32))).bind fun y221 => (if 0 ≤ x1 then (if x1 ≤ (x0.length : Int) then ((some (x0.drop (x1 : Int).toNat : List (S32))).bind fun y224 => (if y221.length + y224.length < 2932031007402 then ((some (y221 ++ y224 : List (S32))).bind fun y228 => ((some (x0.take (x1 : Int).toNat : List (S32))).bind fun y231 => (if y228.length + y231.length < 2932031007402 then ((event_Make.f (y228 ++ y231)).bind fun bt238 => (if bt213.2 = bt217.2 then (if bt213.2 = bt238.2 then (if bt213.2 = 0 then (rosettelaw05_EventOrders.j2 k x0 x5 bt213.1 bt213.2 bt217.1 bt238.1 false) else (rosettelaw05_EventOrders.j2 k x0 x5 bt213.1 bt213.2 bt217.1 bt238.1 ((bt213.1.length : Int) != 0))) else (rosettelaw05_EventOrders.j2 k x0 x5 bt213.1 bt213.2 bt217.1 bt238.1 true)) else (rosettelaw05_EventOrders.j2 k x0 x5 bt213.1 bt213.2 bt217.1 bt238.1 true))) else (none)))) else (none))) else (none)) else (none)))))
def rosettelaw05_EventOrders.j2 : Nat → List (S32) → Bool → List (S32) → Int → List (S32) → List (S32) → Bool → Option (Bool)
  | 0, _, _, _, _, _, _, _ => none
  | k + 1, x0, x5, x9, x10, x11, x13, x89 => if x89 = true then (some false) else (if x10 = 0 then (rosettelaw05_EventOrders.l1 k x0 x5 x9 x11 x13 0) else (if x5 = true then (if (x11.length : Int) = 0 then (some ((x13.length : Int) == 0)) else (some false)) else (some false)))
def rosettelaw05_EventOrders.l1 : Nat → List (S32) → Bool → List (S32) → List (S32) → List (S32) → Int → Option (Bool)
  | 0, _, _, _, _, _, _ => none
  | k + 1, x0, x5, x9, x11, x13, x15 => if x15 < (x0.length : Int) then (if 0 ≤ x15 then ((event_Get.f x9 ((rd_T32 x0 x15).f0)).bind fun bt243 => (if bt243.2.2.2 = true then (if (!(bt243.1 == ((rd_T32 x0 x15).f1.f0)) || (!(bt243.2.1 == ((rd_T32 x0 x15).f1.f1)) || (!(bt243.2.2.1.toList == (((rd_T32 x0 x15).f1.f2).toList))))) = true then (some false) else (rosettelaw05_EventOrders.l1 k x0 x5 x9 x11 x13 (wrap64 (x15 + 1)))) else (some false))) else (none)) else ((event_Make.f x9).bind fun bt249 => (if x5 = true then ((rosetteref05_Same.f k x9 x11).bind fun t253 => (if t253 = true then ((rosetteref05_Same.f k x9 x13).bind fun t254 => (if t254 = true then ((rosetteref05_Same.f k x9 bt249.1).bind fun t255 => (if t255 = true then (if bt249.2 = 0 then ((event_Right.f x9).bind fun t256 => (if t256 = true then (some ((x9.length : Int) == (x0.length : Int))) else (some false))) else (some false)) else (some false))) else (some false))) else (some false))) else (some false)))
end
def rosettelaw05_EventOrders.f (k : Nat) (l0 : List (S32)) (a1 : Int) : Option (Bool) := (rosettelaw05_small.f).bind fun t207 => ((rosettelaw05_Few.f k l0).bind fun t208 => (if t208 = true then (if a1 < 0 then (rosettelaw05_EventOrders.j0 k l0 a1 t207 true) else (rosettelaw05_EventOrders.j0 k l0 a1 t207 (decide (a1 > (l0.length : Int))))) else (rosettelaw05_EventOrders.j0 k l0 a1 t207 true)))
theorem rosettelaw05_EventOrders.mono_l : ∀ k, (∀ y0 y1 y2 y3, LeO (rosettelaw05_EventOrders.j0 k y0 y1 y2 y3) (rosettelaw05_EventOrders.j0 (k + 1) y0 y1 y2 y3)) ∧ (∀ y0 y1 y2 y3 y4, LeO (rosettelaw05_EventOrders.l0 k y0 y1 y2 y3 y4) (rosettelaw05_EventOrders.l0 (k + 1) y0 y1 y2 y3 y4)) ∧ (∀ y0 y1 y2 y3 y4 y5 y6, LeO (rosettelaw05_EventOrders.j2 k y0 y1 y2 y3 y4 y5 y6) (rosettelaw05_EventOrders.j2 (k + 1) y0 y1 y2 y3 y4 y5 y6)) ∧ (∀ y0 y1 y2 y3 y4 y5, LeO (rosettelaw05_EventOrders.l1 k y0 y1 y2 y3 y4 y5) (rosettelaw05_EventOrders.l1 (k + 1) y0 y1 y2 y3 y4 y5))
  | 0 => ⟨fun _ _ _ _ r h => by simp [rosettelaw05_EventOrders.j0] at h, fun _ _ _ _ _ r h => by simp [rosettelaw05_EventOrders.l0] at h, fun _ _ _ _ _ _ _ r h => by simp [rosettelaw05_EventOrders.j2] at h, fun _ _ _ _ _ _ r h => by simp [rosettelaw05_EventOrders.l1] at h⟩
  | k + 1 => by
    obtain ⟨ih0, ih1, ih2, ih3⟩ := rosettelaw05_EventOrders.mono_l k
    refine ⟨?_, ?_, ?_, ?_⟩
    · intro y0 y1 y2 y3
      unfold rosettelaw05_EventOrders.j0
      repeat' first
      | (with_reducible exact ih0 _ _ _ _)
      | (with_reducible exact ih1 _ _ _ _ _)
      | (with_reducible exact ih2 _ _ _ _ _ _ _)
      | (with_reducible exact ih3 _ _ _ _ _ _)
      | (with_reducible exact rosettelaw05_Few.mono _ _)
      | (with_reducible exact rosetteref05_Same.mono _ _ _)
      | (with_reducible exact LeO.refl _)
      | (with_reducible exact LeO.none _)
      | (with_reducible refine LeO.ite ?_ ?_)
      | (with_reducible refine LeO.bind ?_ (fun _ => ?_))
      | exact ih0 _ _ _ _
      | exact ih1 _ _ _ _ _
      | exact ih2 _ _ _ _ _ _ _
      | exact ih3 _ _ _ _ _ _
      | exact rosettelaw05_Few.mono _ _
      | exact rosetteref05_Same.mono _ _ _
      | exact LeO.none _
      | refine LeO.ite ?_ ?_
      | refine LeO.bind ?_ (fun _ => ?_)
    · intro y0 y1 y2 y3 y4
      unfold rosettelaw05_EventOrders.l0
      repeat' first
      | (with_reducible exact ih0 _ _ _ _)
      | (with_reducible exact ih1 _ _ _ _ _)
      | (with_reducible exact ih2 _ _ _ _ _ _ _)
      | (with_reducible exact ih3 _ _ _ _ _ _)
      | (with_reducible exact rosettelaw05_Few.mono _ _)
      | (with_reducible exact rosetteref05_Same.mono _ _ _)
      | (with_reducible exact LeO.refl _)
      | (with_reducible exact LeO.none _)
      | (with_reducible refine LeO.ite ?_ ?_)
      | (with_reducible refine LeO.bind ?_ (fun _ => ?_))
      | exact ih0 _ _ _ _
      | exact ih1 _ _ _ _ _
      | exact ih2 _ _ _ _ _ _ _
      | exact ih3 _ _ _ _ _ _
      | exact rosettelaw05_Few.mono _ _
      | exact rosetteref05_Same.mono _ _ _
      | exact LeO.none _
      | refine LeO.ite ?_ ?_
      | refine LeO.bind ?_ (fun _ => ?_)
    · intro y0 y1 y2 y3 y4 y5 y6
      unfold rosettelaw05_EventOrders.j2
      repeat' first
      | (with_reducible exact ih0 _ _ _ _)
      | (with_reducible exact ih1 _ _ _ _ _)
      | (with_reducible exact ih2 _ _ _ _ _ _ _)
      | (with_reducible exact ih3 _ _ _ _ _ _)
      | (with_reducible exact rosettelaw05_Few.mono _ _)
      | (with_reducible exact rosetteref05_Same.mono _ _ _)
      | (with_reducible exact LeO.refl _)
      | (with_reducible exact LeO.none _)
      | (with_reducible refine LeO.ite ?_ ?_)
      | (with_reducible refine LeO.bind ?_ (fun _ => ?_))
      | exact ih0 _ _ _ _
      | exact ih1 _ _ _ _ _
      | exact ih2 _ _ _ _ _ _ _
      | exact ih3 _ _ _ _ _ _
      | exact rosettelaw05_Few.mono _ _
      | exact rosetteref05_Same.mono _ _ _
      | exact LeO.none _
      | refine LeO.ite ?_ ?_
      | refine LeO.bind ?_ (fun _ => ?_)
    · intro y0 y1 y2 y3 y4 y5
      unfold rosettelaw05_EventOrders.l1
      repeat' first
      | (with_reducible exact ih0 _ _ _ _)
      | (with_reducible exact ih1 _ _ _ _ _)
      | (with_reducible exact ih2 _ _ _ _ _ _ _)
      | (with_reducible exact ih3 _ _ _ _ _ _)
      | (with_reducible exact rosettelaw05_Few.mono _ _)
      | (with_reducible exact rosetteref05_Same.mono _ _ _)
      | (with_reducible exact LeO.refl _)
      | (with_reducible exact LeO.none _)
      | (with_reducible refine LeO.ite ?_ ?_)
      | (with_reducible refine LeO.bind ?_ (fun _ => ?_))
      | exact ih0 _ _ _ _
      | exact ih1 _ _ _ _ _
      | exact ih2 _ _ _ _ _ _ _
      | exact ih3 _ _ _ _ _ _
      | exact rosettelaw05_Few.mono _ _
      | exact rosetteref05_Same.mono _ _ _
      | exact LeO.none _
      | refine LeO.ite ?_ ?_
      | refine LeO.bind ?_ (fun _ => ?_)
theorem rosettelaw05_EventOrders.mono : ∀ a0 a1 k, LeO (rosettelaw05_EventOrders.f k a0 a1) (rosettelaw05_EventOrders.f (k + 1) a0 a1) := by
  intro a0 a1 k
  obtain ⟨ih0, ih1, ih2, ih3⟩ := rosettelaw05_EventOrders.mono_l k
  unfold rosettelaw05_EventOrders.f
  repeat' first
      | (with_reducible exact ih0 _ _ _ _)
      | (with_reducible exact ih1 _ _ _ _ _)
      | (with_reducible exact ih2 _ _ _ _ _ _ _)
      | (with_reducible exact ih3 _ _ _ _ _ _)
      | (with_reducible exact rosettelaw05_Few.mono _ _)
      | (with_reducible exact rosetteref05_Same.mono _ _ _)
      | (with_reducible exact LeO.refl _)
      | (with_reducible exact LeO.none _)
      | (with_reducible refine LeO.ite ?_ ?_)
      | (with_reducible refine LeO.bind ?_ (fun _ => ?_))
      | exact ih0 _ _ _ _
      | exact ih1 _ _ _ _ _
      | exact ih2 _ _ _ _ _ _ _
      | exact ih3 _ _ _ _ _ _
      | exact rosettelaw05_Few.mono _ _
      | exact rosetteref05_Same.mono _ _ _
      | exact LeO.none _
      | refine LeO.ite ?_ ?_
      | refine LeO.bind ?_ (fun _ => ?_)
def rosettelaw05_EventOrders.T12 : Bool × List (List Nat × List Nat) := (true, [([], []), ([], []), ([], []), ([1, 2], [1, 2]), ([0, 3], [0, 3]), ([], []), ([], []), ([5, 6], [5, 6]), ([4, 7, 4], [4, 7]), ([8, 8], [8]), ([9], [9]), ([10], [10]), ([10], [10]), ([11, 9, 0, 1, 2, 3, 4, 5, 6, 7, 8, 9, 10, 11], [11]), ([12, 13, 0, 1, 2, 3, 4, 5, 6, 7, 8, 9, 10, 11, 12, 13], [12])])
def rosettelaw05_EventOrders.B12 : List Nat := [0, 0, 0, 6, 15, 0, 0, 96, 255, 511, 1023, 2047, 2047, 4095, 16383]
theorem rosettelaw05_EventOrders.tab12 : rtab .any (opsOf Try.f5 12) = rosettelaw05_EventOrders.T12 := by kernel_rfl
theorem rosettelaw05_EventOrders.bits12 : waitsOk rosettelaw05_EventOrders.T12.2 rosettelaw05_EventOrders.B12 = true := by kernel_rfl
def rosettelaw05_EventOrders.T21 : Bool × List (List Nat × List Nat) := (true, [([], []), ([0], [0]), ([1], [1]), ([2], [2]), ([2], [2]), ([2], [2]), ([4, 5, 2], [2, 4, 5]), ([6, 2], [2, 6]), ([7, 2], [2, 7]), ([3, 8, 2], [2, 3, 8]), ([2, 9], [2, 9])])
def rosettelaw05_EventOrders.B21 : List Nat := [0, 1, 3, 7, 7, 7, 55, 119, 247, 511, 1023]
theorem rosettelaw05_EventOrders.tab21 : rtab .any (opsOf Try.f5 21) = rosettelaw05_EventOrders.T21 := by kernel_rfl
theorem rosettelaw05_EventOrders.bits21 : waitsOk rosettelaw05_EventOrders.T21.2 rosettelaw05_EventOrders.B21 = true := by kernel_rfl
set_option maxHeartbeats 8000000 in
set_option maxRecDepth 100000 in
theorem rosettelaw05_EventOrders.calls (k : Nat) (A0 : Option Addr) (c0 : Nat) (l0 : List (S32)) (a1 : Int) (r : Bool) (w : World) (hr0 : Kd.C k32 w A0 l0.length l0) (hc0 : l0.length ≤ c0) (h : rosettelaw05_EventOrders.f k l0 a1 = some r) :
    Calls Try.prog 5 #[.slice A0 l0.length c0, .int .i64 a1] w fun e w' => e = .returned (.bool r) ∧ Below w.heap.size w w' := by
  have hu32 := Try.underlying32
  have hu30 := Try.underlying30
  have HR0 := Aside0.mk hr0
  have HC0 := Aside0.mk hc0
  clear hr0 hc0
  have HB := Aside0.mk (Below.refl w.heap.size w)
  have H : ((rosettelaw05_small.f).bind fun t207 => ((rosettelaw05_Few.f k l0).bind fun t208 => (if t208 = true then (if a1 < 0 then (rosettelaw05_EventOrders.j0 k l0 a1 t207 true) else (rosettelaw05_EventOrders.j0 k l0 a1 t207 (decide (a1 > (l0.length : Int))))) else (rosettelaw05_EventOrders.j0 k l0 a1 t207 true)))) = some r := h
  clear h
  replace H := Option.bind_eq_some_iff.mp H
  obtain ⟨t207, A30, H⟩ := H
  replace H : ((rosettelaw05_Few.f k l0).bind fun t208 => (if t208 = true then (if a1 < 0 then (rosettelaw05_EventOrders.j0 k l0 a1 t207 true) else (rosettelaw05_EventOrders.j0 k l0 a1 t207 (decide (a1 > (l0.length : Int))))) else (rosettelaw05_EventOrders.j0 k l0 a1 t207 true))) = some r := H
  have A3 := Aside0.mk A30
  clear A30
  replace H := Option.bind_eq_some_iff.mp H
  obtain ⟨t208, A40, H⟩ := H
  replace H : (if t208 = true then (if a1 < 0 then (rosettelaw05_EventOrders.j0 k l0 a1 t207 true) else (rosettelaw05_EventOrders.j0 k l0 a1 t207 (decide (a1 > (l0.length : Int))))) else (rosettelaw05_EventOrders.j0 k l0 a1 t207 true)) = some r := H
  have A4 := Aside0.mk A40
  clear A40
  have HC5 := Aside0.mk H
  clear H
  go_enter Try.func5, Try.ntmps5
  go_upto_region 3 with (first | ((with_reducible refine gate_callee (f := 8) rfl ?_); refine goesL_ (some 20) rfl rfl Try.func8 (by kernel_rfl) rfl #[] rfl (by (try simp only [List.map_toArray, List.map_cons, List.map_nil]); first | done | rfl | (simp only [List.length_drop, List.length_take]; rfl)) ?_; (with_reducible refine (rosettelaw05_small.calls  t207 _ A3.out).mono ?_); rintro e w6 ⟨rfl, hb⟩; refine ⟨_, rfl, ?_⟩; have n0_ := Aside0.mk (below_step (by repeat (first | (with_reducible first | exact HB.out | apply below_alloc | apply pw_below_drewN | apply below_drew1) | exact HB.out)) hb); clear HB; have HB := n0_; clear n0_; (try clear hb); (try clear hb2); (try clear hk); (try clear hi)) | ((with_reducible refine gate_callee (f := 9) rfl ?_); refine goesL_ (some 22) rfl rfl Try.func9 (by kernel_rfl) rfl #[.slice A0 l0.length c0] rfl (by (try simp only [List.map_toArray, List.map_cons, List.map_nil]); first | done | rfl | (simp only [List.length_drop, List.length_take]; rfl)) ?_; (with_reducible refine (rosettelaw05_Few.calls k _ _ l0 t208 _ ?side1 ?side2 A4.out).mono ?_); (case side1 => repeat (first | exact (Kd.C_below HR0.out HB.out) | (with_reducible refine Kd.C_alloc ?_ _) | (with_reducible refine Kd.C_drewN ?_ _) | (with_reducible refine Kd.C_drew ?_))); (case side2 => exact HC0.out); rintro e w' ⟨rfl, ⟨nd, rfl⟩⟩; refine ⟨_, rfl, ?_⟩))
  (try simp only [Act.put, List.setIfInBounds_toArray, List.set_cons_zero, List.set_cons_succ])
  go_cut [34] (fun v34 wc => ∃ (kq : Nat) (x34_4 : Bool), v34 = .bool x34_4 ∧ Aside0 (rosettelaw05_EventOrders.j0 kq l0 a1 t207 x34_4 = some r) ∧ Aside0 (kq ≤ k) ∧ Aside0 (Below w.heap.size w wc))
  case first =>
    have H := HC5.out
    clear HC5
    by_cases c7 : t208 = true
    · subst c7
      have H1 : (if a1 < 0 then (rosettelaw05_EventOrders.j0 k l0 a1 t207 true) else (rosettelaw05_EventOrders.j0 k l0 a1 t207 (decide (a1 > (l0.length : Int))))) = some r := by rw [if_pos rfl] at H; exact H
      clear H
      have H := H1
      clear H1
      by_cases c8 : a1 < 0
      · rw [if_pos c8] at H
        have c8b0 : decide (a1 < 0) = true := decide_eq_true c8
        clear c8
        (first | rw [c8b0] | (simp only [i64_w, i32_w]; rw [c8b0]) | skip)
        have H' := Aside0.mk H
        clear H
        go_wp2
        go_meet
        case rel => exact ⟨_, (true), (by first | rfl | (simp; done) | (simp [*]; done)), H', ⟨by first | omega | exact Nat.le_refl _⟩, ⟨by repeat (first | (with_reducible first | exact HB.out | apply below_alloc | apply pw_below_drewN | apply below_drew1) | exact HB.out)⟩⟩
      · rw [if_neg c8] at H
        have c8b0 : decide (a1 < 0) = false := decide_eq_false c8
        clear c8
        (first | rw [c8b0] | (simp only [i64_w, i32_w]; rw [c8b0]) | skip)
        have H' := Aside0.mk H
        clear H
        go_wp2
        go_meet
        case rel => exact ⟨_, (decide (a1 > (l0.length : Int))), (by first | rfl | (simp; done) | (simp [*]; done)), H', ⟨by first | omega | exact Nat.le_refl _⟩, ⟨by repeat (first | (with_reducible first | exact HB.out | apply below_alloc | apply pw_below_drewN | apply below_drew1) | exact HB.out)⟩⟩
    · replace c7 := Bool.eq_false_iff.mpr c7
      subst c7
      have H1 : (rosettelaw05_EventOrders.j0 k l0 a1 t207 true) = some r := by rw [if_neg (show ¬ (false = true) by decide)] at H; exact H
      clear H
      have H := H1
      clear H1
      have H' := Aside0.mk H
      clear H
      go_wp2
      go_meet
      case rel => exact ⟨_, (true), (by first | rfl | (simp; done) | (simp [*]; done)), H', ⟨by first | omega | exact Nat.le_refl _⟩, ⟨by repeat (first | (with_reducible first | exact HB.out | apply below_alloc | apply pw_below_drewN | apply below_drew1) | exact HB.out)⟩⟩
  case rest =>
    clear HC5
    try clear p2
    try clear c5
    try clear c7
    try clear c8
    try clear c8b0
    obtain ⟨kq, x34_4, rfl, HA, HJ4, HB⟩ := hcut
    cases kq with
    | zero => exact absurd HA.out (by simp [rosettelaw05_EventOrders.j0])
    | succ kj4 =>
      have H := HA.out
      clear HA
      simp only [rosettelaw05_EventOrders.j0] at H
      by_cases c9 : x34_4 = true
      · subst c9
        have H1 : (some t207) = some r := by rw [if_pos rfl] at H; exact H
        clear H
        have H := H1
        clear H1
        obtain rfl := Option.some.inj H
        go_wp2
        go_ret
        exact ⟨by first | rfl | (simp [errW_none, errW_some] <;> rfl) | (simp [*, errW_none, errW_some] <;> rfl), by repeat (first | (with_reducible first | exact HB.out | apply below_alloc | apply pw_below_drewN | apply below_drew1) | exact HB.out)⟩
      · replace c9 := Bool.eq_false_iff.mpr c9
        subst c9
        have H1 : (rosettelaw05_EventOrders.l0 kj4 l0 a1 t207 ([] : List (S32)) (wrap64 ((l0.length : Int) - 1))) = some r := by rw [if_neg (show ¬ (false = true) by decide)] at H; exact H
        clear H
        have H := H1
        clear H1
        have H' := Aside0.mk H
        clear H
        go_wp2
        go_loopg [7, 8] kj4 (fun kq v7 v8 w' => ∃ (x7_2 : List (S32)) (x8_2 : Int), v8 = .int .i64 x8_2 ∧ Aside0 (rosettelaw05_EventOrders.l0 kq l0 a1 t207 x7_2 x8_2 = some r) ∧ Aside0 (kq ≤ kj4) ∧ Aside0 (Kd.R k32 32 w' w.heap.size (fun _ => True) v7 x7_2) ∧ Aside0 (Below w.heap.size w w'))
        case atStart => exact ⟨(([] : List (S32))), (wrap64 ((l0.length : Int) - 1)), (by first | rfl | (simp; done) | (simp [*]; done)), H', ⟨Nat.le_refl _⟩, ⟨by first | exact Kd.R_nil _ _ _ _ _ | exact Kd.N_nil _ _ _ _ _ | exact Kd.V_nil _ _ _ _ _ | exact Kd.Q_nil _ _ _ _ _ | exact Kd.S_nil _ _ _ _ _⟩, ⟨by repeat (first | (with_reducible first | exact HB.out | apply below_alloc | apply pw_below_drewN | apply below_drew1) | exact HB.out)⟩⟩
        case round =>
          clear H'
          try clear p2
          try clear c5
          try clear p6
          try clear c7
          try clear c8
          try clear c8b0
          try clear c9
          try clear p2
          obtain ⟨x7_2, x8_2, rfl, HA, HK2, HO_7, HB⟩ := hrel
          cases gk with
          | zero => exact absurd HA.out (by simp [rosettelaw05_EventOrders.l0])
          | succ k2 =>
            have H := HA.out
            clear HA
            simp only [rosettelaw05_EventOrders.l0] at H
            by_cases c10 : x8_2 ≥ 0
            · rw [if_pos c10] at H
              have c10b0 : decide (0 ≤ x8_2) = true := decide_eq_true c10
              clear c10
              by_cases c11 : 0 ≤ x8_2
              · rw [if_pos c11] at H
                have c11b0 : decide (0 ≤ x8_2) = true := decide_eq_true c11
                clear c11
                by_cases c12 : x8_2 < (l0.length : Int)
                · rw [if_pos c12] at H
                  have c12b0 : decide (x8_2 < (l0.length : Int)) = true := decide_eq_true c12
                  clear c12
                  by_cases c13 : x7_2.length < 2932031007402
                  · rw [if_pos c13] at H
                    have LMc13 := Aside0.mk c13
                    clear c13
                    obtain ⟨y210, hy210⟩ : ∃ y_ : List (S32), y_ = (x7_2 ++ [(⟨(rd_T32 l0 x8_2).f0, (⟨(rd_T32 l0 x8_2).f1.f0, (rd_T32 l0 x8_2).f1.f1, (rd_T32 l0 x8_2).f1.f2⟩ : S30)⟩ : S32)]) := ⟨_, rfl⟩
                    replace H : (rosettelaw05_EventOrders.l0 k2 l0 a1 t207 y210 (wrap64 (x8_2 - 1))) = some r := by first | (rw [hy210]; with_reducible exact H) | (have H2_ := (Option.bind_some _ _).symm.trans H; rw [hy210]; with_reducible exact H2_) | (have H2_ := (Option.bind_some _ _).symm.trans H; with_reducible exact H2_) | with_reducible exact H | (rw [hy210]; exact H) | exact H
                    have Ny210 := Aside0.mk hy210
                    clear hy210
                    have H' := Aside0.mk H
                    clear H
                    have p209 : 0 ≤ (x8_2 : Int) := of_decide_eq_true (by first | (with_reducible assumption) | assumption)
                    have q209 : x8_2 < (l0.length : Int) := of_decide_eq_true (by first | (with_reducible assumption) | assumption)
                    obtain ⟨ad209, e209, hx209_0, hx209_1, hx209_2, hx209_3⟩ := at_T32 HR0.out x8_2 p209 q209
                    cases e209
                    replace hx209_0 := (HB.out.cell (World.block_lt_of_cell? w _ hx209_0)).trans hx209_0
                    replace hx209_1 := (HB.out.cell (World.block_lt_of_cell? w _ hx209_1)).trans hx209_1
                    replace hx209_2 := (HB.out.cell (World.block_lt_of_cell? w _ hx209_2)).trans hx209_2
                    replace hx209_3 := (HB.out.cell (World.block_lt_of_cell? w _ hx209_3)).trans hx209_3
                    replace p209 := eq_true p209
                    replace q209 := eq_true q209
                    go_wp2_with (first | ((with_reducible refine gate_builtin (b := .append) (xs := #[.tmp 43, .tmp 48]) rfl ?_); (try (refine gate_guard (by rfl) ?_; dsimp only)); at_builtin; refine Kd.R_append k32 (w0 := w) w.heap.size rfl (.tmp 43) (.tmp 48) 22 32 (.agg #[(.string ⟨#[]⟩), (.int .i64 0), (.int .i64 0), (.string ⟨#[]⟩)]) 48 rfl Try.underlying22 info32 rfl (by decide) (by decide) u7 x7_2 (⟨(rd_T32 l0 x8_2).f0, (⟨(rd_T32 l0 x8_2).f1.f0, (rd_T32 l0 x8_2).f1.f1, (rd_T32 l0 x8_2).f1.f2⟩ : S30)⟩ : S32) [.string ((rd_T32 l0 x8_2).f0), .int .i64 ((rd_T32 l0 x8_2).f1.f0), .int .i64 ((rd_T32 l0 x8_2).f1.f1), .string ((rd_T32 l0 x8_2).f1.f2)] (fun _ => True) (fun _ => False) rfl rfl ?aP (fun _ hk => hk.elim) ?aF ?aO ?aB ?aS ?aL ?_; (case aP => exact k32_mkM _ _ _ (⟨(rd_T32 l0 x8_2).f0, (⟨(rd_T32 l0 x8_2).f1.f0, (rd_T32 l0 x8_2).f1.f1, (rd_T32 l0 x8_2).f1.f2⟩ : S30)⟩ : S32)); (case aB => exact (by repeat (first | (with_reducible first | exact HB.out | apply below_alloc | apply pw_below_drewN | apply below_drew1) | exact HB.out))); (case aF => exact (fun _ _ => trivial)); (case aO => exact (by (with_reducible repeat (first | apply Kd.R_alloc | apply Kd.R_drewN | apply Kd.R_drew)); exact HO_7.out)); (case aS => exact (below_size (by repeat (first | (with_reducible first | exact HB.out | apply below_alloc | apply pw_below_drewN | apply below_drew1) | exact HB.out)))); (case aL => have := LMc13.out; omega); intro v211 w14 ho hb hg hat; rw [← Ny210.out] at ho; have n0_ := Aside0.mk (hb); have n1_ := Aside0.mk (ho); clear HB; clear HO_7; have HB := n0_; have HO212 := n1_; clear n0_ n1_; clear ho hb hg hat))
                    go_roundg k2
                    case measure => have := HJ4.out; have := HK2.out; omega
                    case rel => exact ⟨(y210), (wrap64 (x8_2 - 1)), (by first | rfl | (simp; done) | (simp [*]; done)), H', ⟨by have := HJ4.out; have := HK2.out; omega⟩, ⟨by (with_reducible repeat (first | apply Kd.R_alloc | apply Kd.R_drewN | apply Kd.R_drew)); exact HO212.out⟩, ⟨by repeat (first | (with_reducible first | exact HB.out | apply below_alloc | apply pw_below_drewN | apply below_drew1) | exact HB.out)⟩⟩
                  · rw [if_neg c13] at H
                    exact absurd H (by simp)
                · rw [if_neg c12] at H
                  exact absurd H (by simp)
              · rw [if_neg c11] at H
                exact absurd H (by simp)
            · rw [if_neg c10] at H
              have c10b0 : decide (0 ≤ x8_2) = false := decide_eq_false c10
              clear c10
              replace H := Option.bind_eq_some_iff.mp H
              obtain ⟨⟨t213, t214⟩, A150, H⟩ := H
              replace H : ((event_Make.f x7_2).bind fun bt217 => ((some (([] : List (S32)) : List (S32))).bind fun y221 => (if 0 ≤ a1 then (if a1 ≤ (l0.length : Int) then ((some (l0.drop (a1 : Int).toNat : List (S32))).bind fun y224 => (if y221.length + y224.length < 2932031007402 then ((some (y221 ++ y224 : List (S32))).bind fun y228 => ((some (l0.take (a1 : Int).toNat : List (S32))).bind fun y231 => (if y228.length + y231.length < 2932031007402 then ((event_Make.f (y228 ++ y231)).bind fun bt238 => (if t214 = bt217.2 then (if t214 = bt238.2 then (if t214 = 0 then (rosettelaw05_EventOrders.j2 k2 l0 t207 t213 t214 bt217.1 bt238.1 false) else (rosettelaw05_EventOrders.j2 k2 l0 t207 t213 t214 bt217.1 bt238.1 ((t213.length : Int) != 0))) else (rosettelaw05_EventOrders.j2 k2 l0 t207 t213 t214 bt217.1 bt238.1 true)) else (rosettelaw05_EventOrders.j2 k2 l0 t207 t213 t214 bt217.1 bt238.1 true))) else (none)))) else (none))) else (none)) else (none)))) = some r := H
              have A15 := Aside0.mk A150
              clear A150
              replace H := Option.bind_eq_some_iff.mp H
              obtain ⟨⟨t217, t218⟩, A160, H⟩ := H
              replace H : ((some (([] : List (S32)) : List (S32))).bind fun y221 => (if 0 ≤ a1 then (if a1 ≤ (l0.length : Int) then ((some (l0.drop (a1 : Int).toNat : List (S32))).bind fun y224 => (if y221.length + y224.length < 2932031007402 then ((some (y221 ++ y224 : List (S32))).bind fun y228 => ((some (l0.take (a1 : Int).toNat : List (S32))).bind fun y231 => (if y228.length + y231.length < 2932031007402 then ((event_Make.f (y228 ++ y231)).bind fun bt238 => (if t214 = t218 then (if t214 = bt238.2 then (if t214 = 0 then (rosettelaw05_EventOrders.j2 k2 l0 t207 t213 t214 t217 bt238.1 false) else (rosettelaw05_EventOrders.j2 k2 l0 t207 t213 t214 t217 bt238.1 ((t213.length : Int) != 0))) else (rosettelaw05_EventOrders.j2 k2 l0 t207 t213 t214 t217 bt238.1 true)) else (rosettelaw05_EventOrders.j2 k2 l0 t207 t213 t214 t217 bt238.1 true))) else (none)))) else (none))) else (none)) else (none))) = some r := H
              have A16 := Aside0.mk A160
              clear A160
              obtain ⟨y221, hy221⟩ : ∃ y_ : List (S32), y_ = (([] : List (S32))) := ⟨_, rfl⟩
              replace H : (if 0 ≤ a1 then (if a1 ≤ (l0.length : Int) then ((some (l0.drop (a1 : Int).toNat : List (S32))).bind fun y224 => (if y221.length + y224.length < 2932031007402 then ((some (y221 ++ y224 : List (S32))).bind fun y228 => ((some (l0.take (a1 : Int).toNat : List (S32))).bind fun y231 => (if y228.length + y231.length < 2932031007402 then ((event_Make.f (y228 ++ y231)).bind fun bt238 => (if t214 = t218 then (if t214 = bt238.2 then (if t214 = 0 then (rosettelaw05_EventOrders.j2 k2 l0 t207 t213 t214 t217 bt238.1 false) else (rosettelaw05_EventOrders.j2 k2 l0 t207 t213 t214 t217 bt238.1 ((t213.length : Int) != 0))) else (rosettelaw05_EventOrders.j2 k2 l0 t207 t213 t214 t217 bt238.1 true)) else (rosettelaw05_EventOrders.j2 k2 l0 t207 t213 t214 t217 bt238.1 true))) else (none)))) else (none))) else (none)) else (none)) = some r := by first | (rw [hy221]; with_reducible exact H) | (have H2_ := (Option.bind_some _ _).symm.trans H; rw [hy221]; with_reducible exact H2_) | (have H2_ := (Option.bind_some _ _).symm.trans H; with_reducible exact H2_) | with_reducible exact H | (rw [hy221]; exact H) | exact H
              have Ny221 := Aside0.mk hy221
              clear hy221
              by_cases c17 : 0 ≤ a1
              · rw [if_pos c17] at H
                have c17b0 := eq_true c17
                have c17b1 : decide (0 ≤ a1) = true := decide_eq_true c17
                clear c17
                by_cases c18 : a1 ≤ (l0.length : Int)
                · rw [if_pos c18] at H
                  have c18b0 := eq_true c18
                  have c18b1 : decide (a1 ≤ (l0.length : Int)) = true := decide_eq_true c18
                  clear c18
                  obtain ⟨y224, hy224⟩ : ∃ y_ : List (S32), y_ = (l0.drop (a1 : Int).toNat) := ⟨_, rfl⟩
                  replace H : (if y221.length + y224.length < 2932031007402 then ((some (y221 ++ y224 : List (S32))).bind fun y228 => ((some (l0.take (a1 : Int).toNat : List (S32))).bind fun y231 => (if y228.length + y231.length < 2932031007402 then ((event_Make.f (y228 ++ y231)).bind fun bt238 => (if t214 = t218 then (if t214 = bt238.2 then (if t214 = 0 then (rosettelaw05_EventOrders.j2 k2 l0 t207 t213 t214 t217 bt238.1 false) else (rosettelaw05_EventOrders.j2 k2 l0 t207 t213 t214 t217 bt238.1 ((t213.length : Int) != 0))) else (rosettelaw05_EventOrders.j2 k2 l0 t207 t213 t214 t217 bt238.1 true)) else (rosettelaw05_EventOrders.j2 k2 l0 t207 t213 t214 t217 bt238.1 true))) else (none)))) else (none)) = some r := by first | (rw [hy224]; with_reducible exact H) | (have H2_ := (Option.bind_some _ _).symm.trans H; rw [hy224]; with_reducible exact H2_) | (have H2_ := (Option.bind_some _ _).symm.trans H; with_reducible exact H2_) | with_reducible exact H | (rw [hy224]; exact H) | exact H
                  have Ny224 := Aside0.mk hy224
                  clear hy224
                  by_cases c19 : y221.length + y224.length < 2932031007402
                  · rw [if_pos c19] at H
                    have LMc19 := Aside0.mk c19
                    clear c19
                    obtain ⟨y228, hy228⟩ : ∃ y_ : List (S32), y_ = (y221 ++ y224) := ⟨_, rfl⟩
                    replace H : ((some (l0.take (a1 : Int).toNat : List (S32))).bind fun y231 => (if y228.length + y231.length < 2932031007402 then ((event_Make.f (y228 ++ y231)).bind fun bt238 => (if t214 = t218 then (if t214 = bt238.2 then (if t214 = 0 then (rosettelaw05_EventOrders.j2 k2 l0 t207 t213 t214 t217 bt238.1 false) else (rosettelaw05_EventOrders.j2 k2 l0 t207 t213 t214 t217 bt238.1 ((t213.length : Int) != 0))) else (rosettelaw05_EventOrders.j2 k2 l0 t207 t213 t214 t217 bt238.1 true)) else (rosettelaw05_EventOrders.j2 k2 l0 t207 t213 t214 t217 bt238.1 true))) else (none))) = some r := by first | (rw [hy228]; with_reducible exact H) | (have H2_ := (Option.bind_some _ _).symm.trans H; rw [hy228]; with_reducible exact H2_) | (have H2_ := (Option.bind_some _ _).symm.trans H; with_reducible exact H2_) | with_reducible exact H | (rw [hy228]; exact H) | exact H
                    have Ny228 := Aside0.mk hy228
                    clear hy228
                    have c20b0 := eq_true (of_decide_eq_true (by first | (with_reducible assumption) | assumption) : 0 ≤ a1)
                    have c21b0 := eq_true (of_decide_eq_true (by first | (with_reducible assumption) | assumption) : a1 ≤ (l0.length : Int))
                    obtain ⟨y231, hy231⟩ : ∃ y_ : List (S32), y_ = (l0.take (a1 : Int).toNat) := ⟨_, rfl⟩
                    replace H : (if y228.length + y231.length < 2932031007402 then ((event_Make.f (y228 ++ y231)).bind fun bt238 => (if t214 = t218 then (if t214 = bt238.2 then (if t214 = 0 then (rosettelaw05_EventOrders.j2 k2 l0 t207 t213 t214 t217 bt238.1 false) else (rosettelaw05_EventOrders.j2 k2 l0 t207 t213 t214 t217 bt238.1 ((t213.length : Int) != 0))) else (rosettelaw05_EventOrders.j2 k2 l0 t207 t213 t214 t217 bt238.1 true)) else (rosettelaw05_EventOrders.j2 k2 l0 t207 t213 t214 t217 bt238.1 true))) else (none)) = some r := by first | (rw [hy231]; with_reducible exact H) | (have H2_ := (Option.bind_some _ _).symm.trans H; rw [hy231]; with_reducible exact H2_) | (have H2_ := (Option.bind_some _ _).symm.trans H; with_reducible exact H2_) | with_reducible exact H | (rw [hy231]; exact H) | exact H
                    have Ny231 := Aside0.mk hy231
                    clear hy231
                    by_cases c22 : y228.length + y231.length < 2932031007402
                    · rw [if_pos c22] at H
                      have LMc22 := Aside0.mk c22
                      clear c22
                      obtain ⟨y235, hy235⟩ : ∃ y_ : List (S32), y_ = (y228 ++ y231) := ⟨_, rfl⟩
                      replace H : ((event_Make.f y235).bind fun bt238 => (if t214 = t218 then (if t214 = bt238.2 then (if t214 = 0 then (rosettelaw05_EventOrders.j2 k2 l0 t207 t213 t214 t217 bt238.1 false) else (rosettelaw05_EventOrders.j2 k2 l0 t207 t213 t214 t217 bt238.1 ((t213.length : Int) != 0))) else (rosettelaw05_EventOrders.j2 k2 l0 t207 t213 t214 t217 bt238.1 true)) else (rosettelaw05_EventOrders.j2 k2 l0 t207 t213 t214 t217 bt238.1 true))) = some r := by first | (rw [hy235]; with_reducible exact H) | (have H2_ := (Option.bind_some _ _).symm.trans H; rw [hy235]; with_reducible exact H2_) | (have H2_ := (Option.bind_some _ _).symm.trans H; with_reducible exact H2_) | with_reducible exact H | (rw [hy235]; exact H) | exact H
                      have Ny235 := Aside0.mk hy235
                      clear hy235
                      replace H := Option.bind_eq_some_iff.mp H
                      obtain ⟨⟨t238, t239⟩, A230, H⟩ := H
                      replace H : (if t214 = t218 then (if t214 = t239 then (if t214 = 0 then (rosettelaw05_EventOrders.j2 k2 l0 t207 t213 t214 t217 t238 false) else (rosettelaw05_EventOrders.j2 k2 l0 t207 t213 t214 t217 t238 ((t213.length : Int) != 0))) else (rosettelaw05_EventOrders.j2 k2 l0 t207 t213 t214 t217 t238 true)) else (rosettelaw05_EventOrders.j2 k2 l0 t207 t213 t214 t217 t238 true)) = some r := H
                      have A23 := Aside0.mk A230
                      clear A230
                      have HC24 := Aside0.mk H
                      clear H
                      try go_wp2_with (first | ((with_reducible refine gate_callee (f := 10) rfl ?_); refine goesL_ (some 52) rfl rfl Try.func10 (by kernel_rfl) rfl #[.slice A0 l0.length c0] rfl (by (try simp only [List.map_toArray, List.map_cons, List.map_nil]); first | done | rfl | (simp only [List.length_drop, List.length_take]; rfl)) ?_; (with_reducible refine (event_Make.calls _ _ l0 t213 t214 _ ?side1 ?side2 A15.out).mono ?_); (case side1 => repeat (first | exact (Kd.C_below HR0.out HB.out) | (with_reducible refine Kd.C_alloc ?_ _) | (with_reducible refine Kd.C_drewN ?_ _) | (with_reducible refine Kd.C_drew ?_))); (case side2 => exact HC0.out); rintro e w25 ⟨v215, rfl, ho0, hb⟩; refine ⟨_, rfl, ?_⟩; have n0_ := Aside0.mk (Kd.R_elder' (by (with_reducible repeat (first | apply Kd.R_alloc | apply Kd.R_drewN | apply Kd.R_drew)); exact HO_7.out) (Kd.R_base ho0) hb); have n1_ := Aside0.mk (Kd.R_lower (Kd.R_new' ho0 (Kd.R_lt (by (with_reducible repeat (first | apply Kd.R_alloc | apply Kd.R_drewN | apply Kd.R_drew)); exact HO_7.out))) (below_size (by repeat (first | (with_reducible first | exact HB.out | apply below_alloc | apply pw_below_drewN | apply below_drew1) | exact HB.out)))); have n2_ := Aside0.mk (below_step (by repeat (first | (with_reducible first | exact HB.out | apply below_alloc | apply pw_below_drewN | apply below_drew1) | exact HB.out)) hb); clear HO_7; clear HB; have HO_7 := n0_; have HO216 := n1_; have HB := n2_; clear n0_ n1_ n2_; (try clear hb); (try clear hb2); (try clear hk); (try clear hi); (try clear ho0); obtain ⟨Ao26, co26, eo26⟩ := Kd.R_slice HO_7.out; subst eo26) | ((with_reducible refine gate_callee (f := 10) rfl ?_); refine goesL_ (some 57) rfl rfl Try.func10 (by kernel_rfl) rfl #[.slice Ao26 x7_2.length co26] rfl (by (try simp only [List.map_toArray, List.map_cons, List.map_nil]); first | done | rfl | (simp only [List.length_drop, List.length_take]; rfl)) ?_; (with_reducible refine (event_Make.calls _ _ x7_2 t217 t218 _ ?side1 ?side2 A16.out).mono ?_); (case side1 => repeat (first | exact (Kd.R_reads' HO_7.out).2.2 | (with_reducible refine Kd.C_alloc ?_ _) | (with_reducible refine Kd.C_drewN ?_ _) | (with_reducible refine Kd.C_drew ?_))); (case side2 => exact (Kd.R_reads' HO_7.out).2.1); rintro e w27 ⟨v219, rfl, ho0, hb⟩; refine ⟨_, rfl, ?_⟩; have n0_ := Aside0.mk (Kd.R_elder' (by (with_reducible repeat (first | apply Kd.R_alloc | apply Kd.R_drewN | apply Kd.R_drew)); exact HO_7.out) (Kd.R_base ho0) hb); have n1_ := Aside0.mk (Kd.R_elder' (by (with_reducible repeat (first | apply Kd.R_alloc | apply Kd.R_drewN | apply Kd.R_drew)); exact HO216.out) (Kd.R_base ho0) hb); have n2_ := Aside0.mk (Kd.R_lower (Kd.R_new' (Kd.R_new' ho0 (Kd.R_lt (by (with_reducible repeat (first | apply Kd.R_alloc | apply Kd.R_drewN | apply Kd.R_drew)); exact HO_7.out))) (Kd.R_lt (by (with_reducible repeat (first | apply Kd.R_alloc | apply Kd.R_drewN | apply Kd.R_drew)); exact HO216.out))) (below_size (by repeat (first | (with_reducible first | exact HB.out | apply below_alloc | apply pw_below_drewN | apply below_drew1) | exact HB.out)))); have n3_ := Aside0.mk (below_step (by repeat (first | (with_reducible first | exact HB.out | apply below_alloc | apply pw_below_drewN | apply below_drew1) | exact HB.out)) hb); clear HO_7; clear HO216; clear HB; have HO_7 := n0_; have HO216 := n1_; have HO220 := n2_; have HB := n3_; clear n0_ n1_ n2_ n3_; (try clear hb); (try clear hb2); (try clear hk); (try clear hi); (try clear ho0)))
                      have n0_ := Aside0.mk (Kd.R_drew HO_7.out)
                      have n1_ := Aside0.mk (Kd.R_drew HO216.out)
                      have n2_ := Aside0.mk (Kd.R_drew HO220.out)
                      have n3_ := Aside0.mk (below_drew1 HB.out)
                      clear HO_7
                      clear HO216
                      clear HO220
                      clear HB
                      have HO_7 := n0_
                      have HO216 := n1_
                      have HO220 := n2_
                      have HB := n3_
                      clear n0_ n1_ n2_ n3_
                      have q29 : (a1 : Int) ≤ ((l0.length : Int) : Int) := of_decide_eq_true (by first | (with_reducible assumption) | assumption)
                      obtain ⟨i029, hi029, _, hsz29, _⟩ := info_parts info32
                      have hroom29 : l0.length ≤ c0 := HC0.out
                      have hC29 : Kd.C k32 _ A0 l0.length l0 := HR0.out
                      have q029 : (0 : Int) ≤ (a1 : Int) := of_decide_eq_true (by first | (with_reducible assumption) | assumption)
                      have hcut29 := cut_from (P := Try.prog) 22 32 .i64 Try.underlying22 hi029 4 hsz29 A0 l0.length c0 a1 q029 q29
                      have hr29 := Kd.C_drop (m := (a1 : Int).toNat) (c := c0) hC29 (by omega) hroom29
                      obtain ⟨A29, hA29⟩ : ∃ A1, A1 = (if c0 = (a1 : Int).toNat then A0 else (A0 : Option Addr).map (·.add ((a1 : Int).toNat * 4))) := ⟨_, rfl⟩
                      obtain ⟨c29, hc29⟩ : ∃ c1, c1 = c0 - (a1 : Int).toNat := ⟨_, rfl⟩
                      have hy29 : y224.length = l0.length - (a1 : Int).toNat := (by rw [Ny224.out, List.length_drop] <;> omega)
                      rw [show (l0).drop (a1 : Int).toNat = y224 from Ny224.out.symm] at hr29
                      replace hr29 : Kd.C k32 _ A29 y224.length y224 := (by rw [hA29]; exact hr29)
                      rw [← hy29, ← hA29, ← hc29] at hcut29
                      have HR227 := Aside0.mk hr29
                      have HC227 := Aside0.mk (show y224.length ≤ c29 from by rw [hy29, hc29]; exact Nat.sub_le_sub_right hroom29 _)
                      clear hr29 hC29 hroom29 hi029 hsz29 hc29
                      have KY29 := Aside0.mk hy29
                      have KA29 := Aside0.mk hA29
                      clear hy29 hA29
                      replace q29 := eq_true q29
                      have q30 : (a1 : Int) ≤ ((l0.length : Int) : Int) := of_decide_eq_true (by first | (with_reducible assumption) | assumption)
                      obtain ⟨i030, hi030, _, hsz30, _⟩ := info_parts info32
                      have hroom30 : l0.length ≤ c0 := HC0.out
                      have hC30 : Kd.C k32 _ A0 l0.length l0 := HR0.out
                      have hcut30 := cut_to (P := Try.prog) 22 32 .i64 Try.underlying22 hi030 A0 l0.length c0 a1 (of_decide_eq_true (by first | (with_reducible assumption) | assumption)) q30 hroom30
                      have hr30 := Kd.C_take (m := (a1 : Int).toNat) hC30 (by omega)
                      have hy30 : y231.length = (a1 : Int).toNat := (by rw [Ny231.out, List.length_take]; omega)
                      rw [← Ny231.out] at hr30
                      rw [← hy30] at hcut30
                      have HR234 := Aside0.mk hr30
                      have HC234 := Aside0.mk (show y231.length ≤ c0 from by omega)
                      clear hr30 hC30 hroom30 hi030 hsz30
                      have KY30 := Aside0.mk hy30
                      clear hy30
                      replace q30 := eq_true q30
                      refine start_ (n := 15) (S := fun w' => True) (ds := []) #[false, false, false, false, false, false, false, false, false, false, false, false, false, false, false] (by kernel_rfl) rfl rfl trivial (fun hHeld => ?_); refine with_tabW rosettelaw05_EventOrders.tab12 rosettelaw05_EventOrders.bits12 (fun HT_ HW_ => ?_)
                      generalize w27.drew = w28 at HO_7 HO216 HO220 HB HR227 HR234 hHeld ⊢
                      refine pure_ (i := 1) (N := some 62) (v := ?_) (a' := ?_) #[false, true, false, false, false, false, false, false, false, false, false, false, false, false, false] rfl rfl (any_of HT_.out (by kernel_rfl)) (fun _ _ _ h => h) (Or.inl ⟨by rfl, ?_⟩) ?_ ?_
                      rotate_left
                      · intro w'
                        go_simp
                        with_reducible rfl
                      rotate_left
                      · simp only [Act.put, List.setIfInBounds_toArray, List.set_cons_zero, List.set_cons_succ, i64_w, i32_w]
                        rfl
                      refine pure_ (i := 2) (N := some 63) (v := ?_) (a' := ?_) #[false, true, true, false, false, false, false, false, false, false, false, false, false, false, false] rfl rfl (any_of HT_.out (by kernel_rfl)) (fun _ _ _ h => h) (Or.inl ⟨by rfl, ?_⟩) ?_ ?_
                      rotate_left
                      · intro w'
                        go_simp
                        with_reducible rfl
                      rotate_left
                      · simp only [Act.put, List.setIfInBounds_toArray, List.set_cons_zero, List.set_cons_succ, i64_w, i32_w]
                        rfl
                      refine pure_ (i := 3) (N := some 64) (v := ?_) (a' := ?_) #[false, true, true, true, false, false, false, false, false, false, false, false, false, false, false] rfl rfl (any_of HT_.out (by kernel_rfl)) (fun _ _ _ h => h) (Or.inl ⟨by rfl, ?_⟩) ?_ ?_
                      rotate_left
                      · intro w'
                        go_simp
                        with_reducible rfl
                      rotate_left
                      · simp only [Act.put, List.setIfInBounds_toArray, List.set_cons_zero, List.set_cons_succ, i64_w, i32_w]
                        rfl
                      refine pure_ (i := 5) (N := some 66) (v := ?_) (a' := ?_) #[false, true, true, true, false, true, false, false, false, false, false, false, false, false, false] rfl rfl (any_of HT_.out (by kernel_rfl)) (fun _ _ _ h => h) (Or.inl ⟨by rfl, ?_⟩) ?_ ?_
                      rotate_left
                      · intro w'
                        go_simp
                        with_reducible rfl
                      rotate_left
                      · simp only [Act.put, List.setIfInBounds_toArray, List.set_cons_zero, List.set_cons_succ, i64_w, i32_w]
                        rfl
                      refine pure_ (i := 6) (N := some 67) (v := ?_) (a' := ?_) #[false, true, true, true, false, true, true, false, false, false, false, false, false, false, false] rfl rfl (any_of HT_.out (by kernel_rfl)) (fun _ _ _ h => h) (Or.inl ⟨by rfl, ?_⟩) ?_ ?_
                      rotate_left
                      · intro w'
                        go_simp
                        with_reducible rfl
                      rotate_left
                      · simp only [Act.put, List.setIfInBounds_toArray, List.set_cons_zero, List.set_cons_succ, i64_w, i32_w]
                        rfl
                      refine pure_ (i := 7) (N := some 68) (v := ?_) (a' := ?_) #[false, true, true, true, false, true, true, true, false, false, false, false, false, false, false] rfl rfl (any_of HT_.out (by kernel_rfl)) (fun _ _ _ h => h) (Or.inl ⟨by rfl, ?_⟩) ?_ ?_
                      rotate_left
                      · intro w'
                        go_simp
                        with_reducible rfl
                      rotate_left
                      · simp only [Act.put, List.setIfInBounds_toArray, List.set_cons_zero, List.set_cons_succ, i64_w, i32_w]
                        rfl
                      refine one_ (i := 0) (N := some 61) #[true, true, true, true, false, true, true, true, false, false, false, false, false, false, false] rfl rfl (one_of HT_.out (by kernel_rfl)) (by decide) (fun K hK => ?_)
                      refine Kd.R_lit_step k32 _ 32 ?hg (N := 61) ?hd (xs := ([] : List (S32))) (inner := []) (ok := fun _ => True) (okp := fun _ => True) ?hr ?hp (fun _ hk => hk) trivial (Below.refl _ _) (Nat.le_refl _) (by simp) ?_; (case hd => rfl); (case hg => rfl); (case hr => first | (go_simp; done) | (go_simp; rfl)); (case hp => exact (Reps.none _ _))
                      intro v222 w31 ho32 hb hg_ hnew_
                      clear hg_ hnew_
                      (first | rw [← Ny221.out] at ho32 | (simp only [Int.reduceToNat] at ho32; rw [← Ny221.out] at ho32))
                      have n0_ := Aside0.mk (Kd.R_elder' (by (with_reducible repeat (first | apply Kd.R_alloc | apply Kd.R_drewN | apply Kd.R_drew)); exact HO_7.out) (Kd.R_base ho32) hb)
                      have n1_ := Aside0.mk (Kd.R_elder' (by (with_reducible repeat (first | apply Kd.R_alloc | apply Kd.R_drewN | apply Kd.R_drew)); exact HO216.out) (Kd.R_base ho32) hb)
                      have n2_ := Aside0.mk (Kd.R_elder' (by (with_reducible repeat (first | apply Kd.R_alloc | apply Kd.R_drewN | apply Kd.R_drew)); exact HO220.out) (Kd.R_base ho32) hb)
                      have n3_ := Aside0.mk (Kd.R_lower (Kd.R_new' (Kd.R_new' (Kd.R_new' ho32 (Kd.R_lt (by (with_reducible repeat (first | apply Kd.R_alloc | apply Kd.R_drewN | apply Kd.R_drew)); exact HO_7.out))) (Kd.R_lt (by (with_reducible repeat (first | apply Kd.R_alloc | apply Kd.R_drewN | apply Kd.R_drew)); exact HO216.out))) (Kd.R_lt (by (with_reducible repeat (first | apply Kd.R_alloc | apply Kd.R_drewN | apply Kd.R_drew)); exact HO220.out))) (below_size (by repeat (first | (with_reducible first | exact HB.out | apply below_alloc | apply pw_below_drewN | apply below_drew1) | exact HB.out))))
                      have n4_ := Aside0.mk (below_step (by repeat (first | (with_reducible first | exact HB.out | apply below_alloc | apply pw_below_drewN | apply below_drew1) | exact HB.out)) hb)
                      clear HO_7
                      clear HO216
                      clear HO220
                      clear HB
                      have HO_7 := n0_
                      have HO216 := n1_
                      have HO220 := n2_
                      have HO223 := n3_
                      have HB := n4_
                      clear n0_ n1_ n2_ n3_ n4_
                      clear hb ho32
                      refine hK.out _ _ trivial (fun hHeld => ?_)
                      clear hK K
                      refine norm_ (a' := ?_) ?_ ?_
                      rotate_left
                      · show Act.put _ (some 61) _ = _
                        simp only [Act.put, List.setIfInBounds_toArray, List.set_cons_zero, List.set_cons_succ, i64_w, i32_w]
                        rfl
                      refine one_ (i := 4) (N := some 65) #[true, true, true, true, true, true, true, true, false, false, false, false, false, false, false] rfl rfl (one_of HT_.out (by kernel_rfl)) (by decide) (fun K hK => ?_)
                      refine Kd.R_append_rows_step k32 (w0 := w) w.heap.size (by rfl) (.tmp 61) (.tmp 64) 22 32 (.agg #[(.string ⟨#[]⟩), (.int .i64 0), (.int .i64 0), (.string ⟨#[]⟩)]) 48 rfl Try.underlying22 info32 rfl (by decide) (by decide) v222 y221 y224 _ _ _ (fun k_ => some k_ ≠ (.slice Ao26 x7_2.length co26 : Value).ownBlock ∧ some k_ ≠ (v215 : Value).ownBlock ∧ some k_ ≠ (v219 : Value).ownBlock) (fun _ => False) rfl rfl ?aO ?aR (fun _ _ h => h) (fun _ h => h.elim) ?aF ?aB ?aS ?aL ?_
                      (case aR => repeat (first | exact (Kd.C_below HR227.out HB.out) | (with_reducible refine Kd.C_alloc ?_ _) | (with_reducible refine Kd.C_drewN ?_ _) | (with_reducible refine Kd.C_drew ?_)))
                      (case aB => exact (by repeat (first | (with_reducible first | exact HB.out | apply below_alloc | apply pw_below_drewN | apply below_drew1) | exact HB.out)))
                      (case aF => exact (fun k_ hk => ⟨Kd.fresh' (Kd.R_lt (by (with_reducible repeat (first | apply Kd.R_alloc | apply Kd.R_drewN | apply Kd.R_drew)); exact HO_7.out)) k_ hk, Kd.fresh' (Kd.R_lt (by (with_reducible repeat (first | apply Kd.R_alloc | apply Kd.R_drewN | apply Kd.R_drew)); exact HO216.out)) k_ hk, Kd.fresh' (Kd.R_lt (by (with_reducible repeat (first | apply Kd.R_alloc | apply Kd.R_drewN | apply Kd.R_drew)); exact HO220.out)) k_ hk⟩))
                      (case aO => exact (by (with_reducible repeat (first | apply Kd.R_alloc | apply Kd.R_drewN | apply Kd.R_drew)); exact Kd.R_mono HO223.out (fun _ hk => ⟨hk.1.1.2, ⟨hk.1.2, hk.2⟩⟩)))
                      (case aS => exact (below_size (by repeat (first | (with_reducible first | exact HB.out | apply below_alloc | apply pw_below_drewN | apply below_drew1) | exact HB.out))))
                      (case aL => have := LMc19.out; omega)
                      intro v229 w33 ho hb hg hat
                      rw [← Ny228.out] at ho
                      have n0_ := Aside0.mk (Kd.R_after (ok := (fun k_ => some k_ ≠ (v215 : Value).ownBlock ∧ some k_ ≠ (v219 : Value).ownBlock)) (by (with_reducible repeat (first | apply Kd.R_alloc | apply Kd.R_drewN | apply Kd.R_drew)); exact Kd.R_mono HO_7.out (fun _ hk => ⟨⟨hk.1.1.2, hk.1.2⟩, hk.2⟩)) hg hat)
                      have n1_ := Aside0.mk (Kd.R_after (ok := (fun k_ => some k_ ≠ (.slice Ao26 x7_2.length co26 : Value).ownBlock ∧ some k_ ≠ (v219 : Value).ownBlock)) (by (with_reducible repeat (first | apply Kd.R_alloc | apply Kd.R_drewN | apply Kd.R_drew)); exact Kd.R_mono HO216.out (fun _ hk => ⟨⟨hk.1.1.2, hk.1.2⟩, hk.2⟩)) hg hat)
                      have n2_ := Aside0.mk (Kd.R_after (ok := (fun k_ => some k_ ≠ (.slice Ao26 x7_2.length co26 : Value).ownBlock ∧ some k_ ≠ (v215 : Value).ownBlock)) (by (with_reducible repeat (first | apply Kd.R_alloc | apply Kd.R_drewN | apply Kd.R_drew)); exact Kd.R_mono HO220.out (fun _ hk => ⟨⟨hk.1.1.2, hk.1.2⟩, hk.2⟩)) hg hat)
                      have n3_ := Aside0.mk (hb)
                      have n4_ := Aside0.mk (ho)
                      clear HO_7
                      clear HO216
                      clear HO220
                      clear HB
                      clear HO223
                      have HO_7 := n0_
                      have HO216 := n1_
                      have HO220 := n2_
                      have HB := n3_
                      have HO230 := n4_
                      clear n0_ n1_ n2_ n3_ n4_
                      clear ho hb hg hat
                      refine hK.out _ _ trivial (fun hHeld => ?_)
                      clear hK K
                      refine norm_ (a' := ?_) ?_ ?_
                      rotate_left
                      · show Act.put _ (some 65) _ = _
                        simp only [Act.put, List.setIfInBounds_toArray, List.set_cons_zero, List.set_cons_succ, i64_w, i32_w]
                        rfl
                      refine one_ (i := 8) (N := some 69) #[true, true, true, true, true, true, true, true, true, false, false, false, false, false, false] rfl rfl (one_of HT_.out (by kernel_rfl)) (by decide) (fun K hK => ?_)
                      refine Kd.R_append_rows_step k32 (w0 := w) w.heap.size (by rfl) (.tmp 65) (.tmp 68) 22 32 (.agg #[(.string ⟨#[]⟩), (.int .i64 0), (.int .i64 0), (.string ⟨#[]⟩)]) 48 rfl Try.underlying22 info32 rfl (by decide) (by decide) v229 y228 y231 _ _ _ (fun k_ => some k_ ≠ (.slice Ao26 x7_2.length co26 : Value).ownBlock ∧ some k_ ≠ (v215 : Value).ownBlock ∧ some k_ ≠ (v219 : Value).ownBlock) (fun _ => False) rfl rfl ?aO ?aR (fun _ _ h => h) (fun _ h => h.elim) ?aF ?aB ?aS ?aL ?_
                      (case aR => repeat (first | exact (Kd.C_below HR234.out HB.out) | (with_reducible refine Kd.C_alloc ?_ _) | (with_reducible refine Kd.C_drewN ?_ _) | (with_reducible refine Kd.C_drew ?_)))
                      (case aB => exact (by repeat (first | (with_reducible first | exact HB.out | apply below_alloc | apply pw_below_drewN | apply below_drew1) | exact HB.out)))
                      (case aF => exact (fun k_ hk => ⟨Kd.fresh' (Kd.R_lt (by (with_reducible repeat (first | apply Kd.R_alloc | apply Kd.R_drewN | apply Kd.R_drew)); exact HO_7.out)) k_ hk, Kd.fresh' (Kd.R_lt (by (with_reducible repeat (first | apply Kd.R_alloc | apply Kd.R_drewN | apply Kd.R_drew)); exact HO216.out)) k_ hk, Kd.fresh' (Kd.R_lt (by (with_reducible repeat (first | apply Kd.R_alloc | apply Kd.R_drewN | apply Kd.R_drew)); exact HO220.out)) k_ hk⟩))
                      (case aO => exact (by (with_reducible repeat (first | apply Kd.R_alloc | apply Kd.R_drewN | apply Kd.R_drew)); exact HO230.out))
                      (case aS => exact (below_size (by repeat (first | (with_reducible first | exact HB.out | apply below_alloc | apply pw_below_drewN | apply below_drew1) | exact HB.out))))
                      (case aL => have := LMc22.out; omega)
                      intro v236 w34 ho hb hg hat
                      rw [← Ny235.out] at ho
                      have n0_ := Aside0.mk (Kd.R_after (ok := (fun k_ => some k_ ≠ (v215 : Value).ownBlock ∧ some k_ ≠ (v219 : Value).ownBlock)) (by (with_reducible repeat (first | apply Kd.R_alloc | apply Kd.R_drewN | apply Kd.R_drew)); exact HO_7.out) hg hat)
                      have n1_ := Aside0.mk (Kd.R_after (ok := (fun k_ => some k_ ≠ (.slice Ao26 x7_2.length co26 : Value).ownBlock ∧ some k_ ≠ (v219 : Value).ownBlock)) (by (with_reducible repeat (first | apply Kd.R_alloc | apply Kd.R_drewN | apply Kd.R_drew)); exact HO216.out) hg hat)
                      have n2_ := Aside0.mk (Kd.R_after (ok := (fun k_ => some k_ ≠ (.slice Ao26 x7_2.length co26 : Value).ownBlock ∧ some k_ ≠ (v215 : Value).ownBlock)) (by (with_reducible repeat (first | apply Kd.R_alloc | apply Kd.R_drewN | apply Kd.R_drew)); exact HO220.out) hg hat)
                      have n3_ := Aside0.mk (hb)
                      have n4_ := Aside0.mk (ho)
                      clear HO_7
                      clear HO216
                      clear HO220
                      clear HB
                      clear HO230
                      have HO_7 := n0_
                      have HO216 := n1_
                      have HO220 := n2_
                      have HB := n3_
                      have HO237 := n4_
                      clear n0_ n1_ n2_ n3_ n4_
                      clear ho hb hg hat
                      obtain ⟨Ao35, co35, eo35⟩ := Kd.R_slice HO237.out
                      (first | subst eo35 | (injection eo35 with f1_ f2_ f3_; have f4_ := f1_.symm; have f5_ := f3_.symm; clear f1_ f2_ f3_; subst f4_; subst f5_))
                      refine hK.out _ _ trivial (fun hHeld => ?_)
                      clear hK K
                      refine norm_ (a' := ?_) ?_ ?_
                      rotate_left
                      · show Act.put _ (some 69) _ = _
                        simp only [Act.put, List.setIfInBounds_toArray, List.set_cons_zero, List.set_cons_succ, i64_w, i32_w]
                        rfl
                      refine one_ (i := 9) (N := some 70) #[true, true, true, true, true, true, true, true, true, true, false, false, false, false, false] rfl rfl (one_of HT_.out (by kernel_rfl)) (by decide) (fun K hK => ?_)
                      refine goes_ Try.func10 (by kernel_rfl) rfl #[.slice Ao35 y235.length co35] (by rfl) rfl rfl (by (try simp only [List.map_toArray, List.map_cons, List.map_nil]); first | done | rfl | (simp only [List.length_drop, List.length_take]; rfl)) ?_
                      with_reducible refine (event_Make.calls _ _ y235 t238 t239 _ ?side1 ?side2 A23.out).mono ?_
                      (case side1 => repeat (first | exact (Kd.R_reads' HO237.out).2.2 | (with_reducible refine Kd.C_alloc ?_ _) | (with_reducible refine Kd.C_drewN ?_ _) | (with_reducible refine Kd.C_drew ?_)))
                      (case side2 => exact (Kd.R_reads' HO237.out).2.1)
                      rintro e w36 ⟨v240, rfl, ho0, hb⟩
                      refine ⟨_, rfl, ?_⟩
                      have n0_ := Aside0.mk (Kd.R_elder' (by (with_reducible repeat (first | apply Kd.R_alloc | apply Kd.R_drewN | apply Kd.R_drew)); exact HO_7.out) (Kd.R_base ho0) hb)
                      have n1_ := Aside0.mk (Kd.R_elder' (by (with_reducible repeat (first | apply Kd.R_alloc | apply Kd.R_drewN | apply Kd.R_drew)); exact HO216.out) (Kd.R_base ho0) hb)
                      have n2_ := Aside0.mk (Kd.R_elder' (by (with_reducible repeat (first | apply Kd.R_alloc | apply Kd.R_drewN | apply Kd.R_drew)); exact HO220.out) (Kd.R_base ho0) hb)
                      have n3_ := Aside0.mk (Kd.R_elder' (by (with_reducible repeat (first | apply Kd.R_alloc | apply Kd.R_drewN | apply Kd.R_drew)); exact HO237.out) (Kd.R_base ho0) hb)
                      have n4_ := Aside0.mk (Kd.R_lower (Kd.R_new' (Kd.R_new' (Kd.R_new' (Kd.R_new' ho0 (Kd.R_lt (by (with_reducible repeat (first | apply Kd.R_alloc | apply Kd.R_drewN | apply Kd.R_drew)); exact HO_7.out))) (Kd.R_lt (by (with_reducible repeat (first | apply Kd.R_alloc | apply Kd.R_drewN | apply Kd.R_drew)); exact HO216.out))) (Kd.R_lt (by (with_reducible repeat (first | apply Kd.R_alloc | apply Kd.R_drewN | apply Kd.R_drew)); exact HO220.out))) (Kd.R_lt (by (with_reducible repeat (first | apply Kd.R_alloc | apply Kd.R_drewN | apply Kd.R_drew)); exact HO237.out))) (below_size (by repeat (first | (with_reducible first | exact HB.out | apply below_alloc | apply pw_below_drewN | apply below_drew1) | exact HB.out))))
                      have n5_ := Aside0.mk (below_step (by repeat (first | (with_reducible first | exact HB.out | apply below_alloc | apply pw_below_drewN | apply below_drew1) | exact HB.out)) hb)
                      clear HO_7
                      clear HO216
                      clear HO220
                      clear HO237
                      clear HB
                      have HO_7 := n0_
                      have HO216 := n1_
                      have HO220 := n2_
                      have HO237 := n3_
                      have HO241 := n4_
                      have HB := n5_
                      clear n0_ n1_ n2_ n3_ n4_ n5_
                      (try clear hb)
                      (try clear hb2)
                      (try clear hk)
                      (try clear hi)
                      (try clear ho0)
                      refine hK.out _ _ trivial (fun hHeld => ?_)
                      clear hK K
                      refine norm_ (a' := ?_) ?_ ?_
                      rotate_left
                      · show Act.put _ (some 70) _ = _
                        simp only [Act.put, List.setIfInBounds_toArray, List.set_cons_zero, List.set_cons_succ, i64_w, i32_w]
                        rfl
                      refine pure_ (i := 10) (N := some 60) (v := ?_) (a' := ?_) #[true, true, true, true, true, true, true, true, true, true, true, false, false, false, false] rfl rfl (any_of HT_.out (by kernel_rfl)) (fun _ _ _ h => h) (Or.inl ⟨by rfl, ?_⟩) ?_ ?_
                      rotate_left
                      · intro w'
                        go_simp
                        with_reducible rfl
                      rotate_left
                      · simp only [Act.put, List.setIfInBounds_toArray, List.set_cons_zero, List.set_cons_succ, i64_w, i32_w]
                        rfl
                      refine pure_ (i := 11) (N := some 71) (v := ?_) (a' := ?_) #[true, true, true, true, true, true, true, true, true, true, true, true, false, false, false] rfl rfl (any_of HT_.out (by kernel_rfl)) (fun _ _ _ h => h) (Or.inl ⟨by rfl, ?_⟩) ?_ ?_
                      rotate_left
                      · intro w'
                        go_simp
                        with_reducible rfl
                      rotate_left
                      · simp only [Act.put, List.setIfInBounds_toArray, List.set_cons_zero, List.set_cons_succ, i64_w, i32_w]
                        rfl
                      refine pure_ (i := 12) (N := some 72) (v := ?_) (a' := ?_) #[true, true, true, true, true, true, true, true, true, true, true, true, true, false, false] rfl rfl (any_of HT_.out (by kernel_rfl)) (fun _ _ _ h => h) (Or.inl ⟨by rfl, ?_⟩) ?_ ?_
                      rotate_left
                      · intro w'
                        go_simp
                        with_reducible rfl
                      rotate_left
                      · simp only [Act.put, List.setIfInBounds_toArray, List.set_cons_zero, List.set_cons_succ, i64_w, i32_w]
                        rfl
                      refine pure_ (i := 13) (N := some 13) (v := ?_) (a' := ?_) #[true, true, true, true, true, true, true, true, true, true, true, true, true, true, false] rfl rfl (any_of HT_.out (by kernel_rfl)) (fun _ _ _ h => h) (Or.inl ⟨by rfl, ?_⟩) ?_ ?_
                      rotate_left
                      · intro w'
                        go_simp
                        with_reducible rfl
                      rotate_left
                      · simp only [Act.put, List.setIfInBounds_toArray, List.set_cons_zero, List.set_cons_succ, i64_w, i32_w]
                        rfl
                      refine pure_ (i := 14) (N := some 14) (v := ?_) (a' := ?_) #[true, true, true, true, true, true, true, true, true, true, true, true, true, true, true] rfl rfl (any_of HT_.out (by kernel_rfl)) (fun _ _ _ h => h) (Or.inl ⟨by rfl, ?_⟩) ?_ ?_
                      rotate_left
                      · intro w'
                        go_simp
                        with_reducible rfl
                      rotate_left
                      · simp only [Act.put, List.setIfInBounds_toArray, List.set_cons_zero, List.set_cons_succ, i64_w, i32_w]
                        rfl
                      refine done_ (done_of HT_.out (by kernel_rfl)) ?_
                      go_upto_region 13 with (fail)
                      go_cut [89] (fun v89 wc => ∃ (kq : Nat) (x89_23 : Bool), v89 = .bool x89_23 ∧ Aside0 (rosettelaw05_EventOrders.j2 kq l0 t207 t213 t214 t217 t238 x89_23 = some r) ∧ Aside0 (kq ≤ k2) ∧ Aside0 (Kd.R k32 32 wc w.heap.size (fun k_ => some k_ ≠ (v219 : Value).ownBlock ∧ some k_ ≠ (v240 : Value).ownBlock) v215 t213) ∧ Aside0 (Kd.R k32 32 wc w.heap.size (fun k_ => some k_ ≠ (v215 : Value).ownBlock ∧ some k_ ≠ (v240 : Value).ownBlock) v219 t217) ∧ Aside0 (Kd.R k32 32 wc w.heap.size (fun k_ => some k_ ≠ (v215 : Value).ownBlock ∧ some k_ ≠ (v219 : Value).ownBlock) v240 t238) ∧ Aside0 (Below w.heap.size w wc))
                      case first =>
                        have H := HC24.out
                        clear HC24
                        by_cases c37 : t214 = t218
                        · rw [if_pos c37] at H
                          have c37b0 : (t214 == t218) = true := beq_iff_eq.mpr c37
                          have c37b1 : (t214 != t218) = false := bne_eq_false_iff_eq.mpr c37
                          clear c37
                          (first | rw [c37b0] | (simp only [i64_w, i32_w]; rw [c37b0]) | skip)
                          by_cases c38 : t214 = t239
                          · rw [if_pos c38] at H
                            have c38b0 : (t214 == t239) = true := beq_iff_eq.mpr c38
                            have c38b1 : (t214 != t239) = false := bne_eq_false_iff_eq.mpr c38
                            clear c38
                            by_cases c39 : t214 = 0
                            · rw [if_pos c39] at H
                              have c39b0 : (t214 == 0) = true := beq_iff_eq.mpr c39
                              have c39b1 : (t214 != 0) = false := bne_eq_false_iff_eq.mpr c39
                              clear c39
                              have H' := Aside0.mk H
                              clear H
                              go_wp2
                              go_meet
                              case rel => exact ⟨_, (false), (by first | rfl | (simp; done) | (simp [*]; done)), H', ⟨by have := HJ4.out; have := HK2.out; first | omega | exact Nat.le_refl _⟩, ⟨by (with_reducible repeat (first | apply Kd.R_alloc | apply Kd.R_drewN | apply Kd.R_drew)); exact Kd.R_mono HO216.out (fun _ hk => ⟨hk.1.1.2, hk.2⟩)⟩, ⟨by (with_reducible repeat (first | apply Kd.R_alloc | apply Kd.R_drewN | apply Kd.R_drew)); exact Kd.R_mono HO220.out (fun _ hk => ⟨hk.1.1.2, hk.2⟩)⟩, ⟨by (with_reducible repeat (first | apply Kd.R_alloc | apply Kd.R_drewN | apply Kd.R_drew)); exact Kd.R_mono HO241.out (fun _ hk => ⟨hk.1.1.2, hk.1.2⟩)⟩, ⟨by repeat (first | (with_reducible first | exact HB.out | apply below_alloc | apply pw_below_drewN | apply below_drew1) | exact HB.out)⟩⟩
                            · rw [if_neg c39] at H
                              have c39b0 : (t214 == 0) = false := beq_eq_false_iff_ne.mpr c39
                              have c39b1 : (t214 != 0) = true := bne_iff_ne.mpr c39
                              have H' := Aside0.mk H
                              clear H
                              obtain ⟨Ao40, co40, eo40⟩ := Kd.R_slice HO216.out
                              subst eo40
                              go_wp2
                              go_meet
                              case rel => exact ⟨_, (((t213.length : Int) != 0)), (by first | rfl | (simp; done) | (simp [*]; done)), H', ⟨by have := HJ4.out; have := HK2.out; first | omega | exact Nat.le_refl _⟩, ⟨by (with_reducible repeat (first | apply Kd.R_alloc | apply Kd.R_drewN | apply Kd.R_drew)); exact Kd.R_mono HO216.out (fun _ hk => ⟨hk.1.1.2, hk.2⟩)⟩, ⟨by (with_reducible repeat (first | apply Kd.R_alloc | apply Kd.R_drewN | apply Kd.R_drew)); exact Kd.R_mono HO220.out (fun _ hk => ⟨hk.1.1.2, hk.2⟩)⟩, ⟨by (with_reducible repeat (first | apply Kd.R_alloc | apply Kd.R_drewN | apply Kd.R_drew)); exact Kd.R_mono HO241.out (fun _ hk => ⟨hk.1.1.2, hk.1.2⟩)⟩, ⟨by repeat (first | (with_reducible first | exact HB.out | apply below_alloc | apply pw_below_drewN | apply below_drew1) | exact HB.out)⟩⟩
                          · rw [if_neg c38] at H
                            have c38b0 : (t214 == t239) = false := beq_eq_false_iff_ne.mpr c38
                            have c38b1 : (t214 != t239) = true := bne_iff_ne.mpr c38
                            have H' := Aside0.mk H
                            clear H
                            go_wp2
                            go_meet
                            case rel => exact ⟨_, (true), (by first | rfl | (simp; done) | (simp [*]; done)), H', ⟨by have := HJ4.out; have := HK2.out; first | omega | exact Nat.le_refl _⟩, ⟨by (with_reducible repeat (first | apply Kd.R_alloc | apply Kd.R_drewN | apply Kd.R_drew)); exact Kd.R_mono HO216.out (fun _ hk => ⟨hk.1.1.2, hk.2⟩)⟩, ⟨by (with_reducible repeat (first | apply Kd.R_alloc | apply Kd.R_drewN | apply Kd.R_drew)); exact Kd.R_mono HO220.out (fun _ hk => ⟨hk.1.1.2, hk.2⟩)⟩, ⟨by (with_reducible repeat (first | apply Kd.R_alloc | apply Kd.R_drewN | apply Kd.R_drew)); exact Kd.R_mono HO241.out (fun _ hk => ⟨hk.1.1.2, hk.1.2⟩)⟩, ⟨by repeat (first | (with_reducible first | exact HB.out | apply below_alloc | apply pw_below_drewN | apply below_drew1) | exact HB.out)⟩⟩
                        · rw [if_neg c37] at H
                          have c37b0 : (t214 == t218) = false := beq_eq_false_iff_ne.mpr c37
                          have c37b1 : (t214 != t218) = true := bne_iff_ne.mpr c37
                          (first | rw [c37b0] | (simp only [i64_w, i32_w]; rw [c37b0]) | skip)
                          have H' := Aside0.mk H
                          clear H
                          go_wp2
                          go_meet
                          case rel => exact ⟨_, (true), (by first | rfl | (simp; done) | (simp [*]; done)), H', ⟨by have := HJ4.out; have := HK2.out; first | omega | exact Nat.le_refl _⟩, ⟨by (with_reducible repeat (first | apply Kd.R_alloc | apply Kd.R_drewN | apply Kd.R_drew)); exact Kd.R_mono HO216.out (fun _ hk => ⟨hk.1.1.2, hk.2⟩)⟩, ⟨by (with_reducible repeat (first | apply Kd.R_alloc | apply Kd.R_drewN | apply Kd.R_drew)); exact Kd.R_mono HO220.out (fun _ hk => ⟨hk.1.1.2, hk.2⟩)⟩, ⟨by (with_reducible repeat (first | apply Kd.R_alloc | apply Kd.R_drewN | apply Kd.R_drew)); exact Kd.R_mono HO241.out (fun _ hk => ⟨hk.1.1.2, hk.1.2⟩)⟩, ⟨by repeat (first | (with_reducible first | exact HB.out | apply below_alloc | apply pw_below_drewN | apply below_drew1) | exact HB.out)⟩⟩
                      case rest =>
                        clear HC24
                        try clear c1
                        try clear c2
                        try clear p2
                        try clear q2
                        try clear hx2
                        try clear c3
                        try clear q3
                        try clear c5
                        try clear p6
                        try clear c7
                        try clear c8
                        try clear c8b0
                        try clear c9
                        try clear c10
                        try clear c10b0
                        try clear c11
                        try clear c11b0
                        try clear c12
                        try clear c12b0
                        try clear c13
                        try clear c17
                        try clear c17b0
                        try clear c17b1
                        try clear c18
                        try clear c18b0
                        try clear c18b1
                        try clear c19
                        try clear c20
                        try clear c20b0
                        try clear p20
                        try clear q20
                        try clear hx20
                        try clear c21
                        try clear c21b0
                        try clear c22
                        try clear c29
                        try clear q29
                        try clear q30
                        try clear c37
                        try clear c37b0
                        try clear c37b1
                        try clear c38
                        try clear c38b0
                        try clear c38b1
                        try clear c39
                        try clear c39b0
                        try clear c39b1
                        try clear hx209_0
                        try clear hx209_1
                        try clear hx209_2
                        try clear hx209_3
                        try clear p2
                        try clear p209
                        try clear p6
                        try clear q029
                        try clear q209
                        try clear q29
                        try clear q30
                        obtain ⟨kq, x89_23, rfl, HA, HJ23, HO_9, HO_11, HO_13, HB⟩ := hcut
                        cases kq with
                        | zero => exact absurd HA.out (by simp [rosettelaw05_EventOrders.j2])
                        | succ kj23 =>
                          have H := HA.out
                          clear HA
                          simp only [rosettelaw05_EventOrders.j2] at H
                          by_cases c41 : x89_23 = true
                          · subst c41
                            have H1 : (some false) = some r := by rw [if_pos rfl] at H; exact H
                            clear H
                            have H := H1
                            clear H1
                            obtain rfl := Option.some.inj H
                            go_wp2
                            go_ret
                            exact ⟨by first | rfl | (simp [errW_none, errW_some] <;> rfl) | (simp [*, errW_none, errW_some] <;> rfl), by repeat (first | (with_reducible first | exact HB.out | apply below_alloc | apply pw_below_drewN | apply below_drew1) | exact HB.out)⟩
                          · replace c41 := Bool.eq_false_iff.mpr c41
                            subst c41
                            have H1 : (if t214 = 0 then (rosettelaw05_EventOrders.l1 kj23 l0 t207 t213 t217 t238 0) else (if t207 = true then (if (t217.length : Int) = 0 then (some ((t238.length : Int) == 0)) else (some false)) else (some false))) = some r := by rw [if_neg (show ¬ (false = true) by decide)] at H; exact H
                            clear H
                            have H := H1
                            clear H1
                            by_cases c42 : t214 = 0
                            · rw [if_pos c42] at H
                              have c42b0 : (t214 == 0) = true := beq_iff_eq.mpr c42
                              have c42b1 : (t214 != 0) = false := bne_eq_false_iff_eq.mpr c42
                              clear c42
                              have H' := Aside0.mk H
                              clear H
                              go_wp2
                              go_loopg [15] kj23 (fun kq v15 w' => ∃ (x15_4 : Int), v15 = .int .i64 x15_4 ∧ Aside0 (rosettelaw05_EventOrders.l1 kq l0 t207 t213 t217 t238 x15_4 = some r) ∧ Aside0 (kq ≤ kj23) ∧ Aside0 (Kd.R k32 32 w' w.heap.size (fun k_ => some k_ ≠ (v219 : Value).ownBlock ∧ some k_ ≠ (v240 : Value).ownBlock) v215 t213) ∧ Aside0 (Kd.R k32 32 w' w.heap.size (fun k_ => some k_ ≠ (v215 : Value).ownBlock ∧ some k_ ≠ (v240 : Value).ownBlock) v219 t217) ∧ Aside0 (Kd.R k32 32 w' w.heap.size (fun k_ => some k_ ≠ (v215 : Value).ownBlock ∧ some k_ ≠ (v219 : Value).ownBlock) v240 t238) ∧ Aside0 (Below w.heap.size w w'))
                              case atStart => exact ⟨(0), (by first | rfl | (simp; done) | (simp [*]; done)), H', ⟨Nat.le_refl _⟩, ⟨by (with_reducible repeat (first | apply Kd.R_alloc | apply Kd.R_drewN | apply Kd.R_drew)); exact HO_9.out⟩, ⟨by (with_reducible repeat (first | apply Kd.R_alloc | apply Kd.R_drewN | apply Kd.R_drew)); exact HO_11.out⟩, ⟨by (with_reducible repeat (first | apply Kd.R_alloc | apply Kd.R_drewN | apply Kd.R_drew)); exact HO_13.out⟩, ⟨by repeat (first | (with_reducible first | exact HB.out | apply below_alloc | apply pw_below_drewN | apply below_drew1) | exact HB.out)⟩⟩
                              case round =>
                                clear H'
                                try clear c1
                                try clear c2
                                try clear p2
                                try clear q2
                                try clear hx2
                                try clear c3
                                try clear q3
                                try clear c4
                                try clear c5
                                try clear p6
                                try clear c7
                                try clear c8
                                try clear c8b0
                                try clear c9
                                try clear c10
                                try clear c10b0
                                try clear c11
                                try clear c11b0
                                try clear c12
                                try clear c12b0
                                try clear c13
                                try clear c17
                                try clear c17b0
                                try clear c17b1
                                try clear c18
                                try clear c18b0
                                try clear c18b1
                                try clear c19
                                try clear c20
                                try clear c20b0
                                try clear p20
                                try clear q20
                                try clear hx20
                                try clear c21
                                try clear c21b0
                                try clear c22
                                try clear c29
                                try clear q29
                                try clear q30
                                try clear c37
                                try clear c37b0
                                try clear c37b1
                                try clear c38
                                try clear c38b0
                                try clear c38b1
                                try clear c39
                                try clear c39b0
                                try clear c39b1
                                try clear c41
                                try clear c42
                                try clear c42b0
                                try clear c42b1
                                try clear hx209_0
                                try clear hx209_1
                                try clear hx209_2
                                try clear hx209_3
                                try clear p2
                                try clear p20
                                try clear p209
                                try clear p6
                                try clear q029
                                try clear q2
                                try clear q20
                                try clear q209
                                try clear q29
                                try clear q3
                                try clear q30
                                obtain ⟨x15_4, rfl, HA, HK4, HO_9, HO_11, HO_13, HB⟩ := hrel
                                cases gk with
                                | zero => exact absurd HA.out (by simp [rosettelaw05_EventOrders.l1])
                                | succ k4 =>
                                  have H := HA.out
                                  clear HA
                                  simp only [rosettelaw05_EventOrders.l1] at H
                                  by_cases c43 : x15_4 < (l0.length : Int)
                                  · rw [if_pos c43] at H
                                    have c43b0 : decide (x15_4 < (l0.length : Int)) = true := decide_eq_true c43
                                    clear c43
                                    by_cases c44 : 0 ≤ x15_4
                                    · rw [if_pos c44] at H
                                      have c44b0 : decide (0 ≤ x15_4) = true := decide_eq_true c44
                                      clear c44
                                      replace H := Option.bind_eq_some_iff.mp H
                                      obtain ⟨⟨t243, t244, t245, t246⟩, A450, H⟩ := H
                                      replace H : (if t246 = true then (if (!(t243 == ((rd_T32 l0 x15_4).f1.f0)) || (!(t244 == ((rd_T32 l0 x15_4).f1.f1)) || (!(t245.toList == (((rd_T32 l0 x15_4).f1.f2).toList))))) = true then (some false) else (rosettelaw05_EventOrders.l1 k4 l0 t207 t213 t217 t238 (wrap64 (x15_4 + 1)))) else (some false)) = some r := H
                                      have A45 := Aside0.mk A450
                                      clear A450
                                      by_cases c46 : t246 = true
                                      · subst c46
                                        have H1 : (if (!(t243 == ((rd_T32 l0 x15_4).f1.f0)) || (!(t244 == ((rd_T32 l0 x15_4).f1.f1)) || (!(t245.toList == (((rd_T32 l0 x15_4).f1.f2).toList))))) = true then (some false) else (rosettelaw05_EventOrders.l1 k4 l0 t207 t213 t217 t238 (wrap64 (x15_4 + 1)))) = some r := by rw [if_pos rfl] at H; exact H
                                        clear H
                                        have H := H1
                                        clear H1
                                        by_cases c47 : (!(t243 == ((rd_T32 l0 x15_4).f1.f0)) || (!(t244 == ((rd_T32 l0 x15_4).f1.f1)) || (!(t245.toList == (((rd_T32 l0 x15_4).f1.f2).toList))))) = true
                                        · rw [if_pos c47] at H
                                          have c47b0 : (!(t243 == ((rd_T32 l0 x15_4).f1.f0)) || (!(t244 == ((rd_T32 l0 x15_4).f1.f1)) || (!(t245.toList == (((rd_T32 l0 x15_4).f1.f2).toList))))) = true := c47
                                          clear c47
                                          obtain rfl := Option.some.inj H
                                          have p242 : 0 ≤ (x15_4 : Int) := of_decide_eq_true (by first | (with_reducible assumption) | assumption)
                                          have q242 : x15_4 < (l0.length : Int) := of_decide_eq_true (by first | (with_reducible assumption) | assumption)
                                          obtain ⟨ad242, e242, hx242_0, hx242_1, hx242_2, hx242_3⟩ := at_T32 HR0.out x15_4 p242 q242
                                          cases e242
                                          replace hx242_0 := (HB.out.cell (World.block_lt_of_cell? w _ hx242_0)).trans hx242_0
                                          replace hx242_1 := (HB.out.cell (World.block_lt_of_cell? w _ hx242_1)).trans hx242_1
                                          replace hx242_2 := (HB.out.cell (World.block_lt_of_cell? w _ hx242_2)).trans hx242_2
                                          replace hx242_3 := (HB.out.cell (World.block_lt_of_cell? w _ hx242_3)).trans hx242_3
                                          replace p242 := eq_true p242
                                          replace q242 := eq_true q242
                                          obtain ⟨Ao48, co48, eo48⟩ := Kd.R_slice HO_9.out
                                          subst eo48
                                          try go_wp2_with (first | ((with_reducible refine gate_callee (f := 15) rfl ?_); refine goesL_ (some 116) rfl rfl Try.func15 (by kernel_rfl) rfl #[.slice Ao48 t213.length co48, .string ((rd_T32 l0 x15_4).f0)] rfl (by (try simp only [List.map_toArray, List.map_cons, List.map_nil]); first | done | rfl | (simp only [List.length_drop, List.length_take]; rfl)) ?_; (with_reducible refine (event_Get.calls _ _ t213 ((rd_T32 l0 x15_4).f0) t243 t244 t245 true _ ?side1 ?side2 A45.out).mono ?_); (case side1 => repeat (first | exact (Kd.R_reads' HO_9.out).2.2 | (with_reducible refine Kd.C_alloc ?_ _) | (with_reducible refine Kd.C_drewN ?_ _) | (with_reducible refine Kd.C_drew ?_))); (case side2 => exact (Kd.R_reads' HO_9.out).2.1); rintro e w49 ⟨rfl, hb⟩; refine ⟨_, rfl, ?_⟩; have n0_ := Aside0.mk (Kd.R_below (by (with_reducible repeat (first | apply Kd.R_alloc | apply Kd.R_drewN | apply Kd.R_drew)); exact HO_9.out) hb); have n1_ := Aside0.mk (Kd.R_below (by (with_reducible repeat (first | apply Kd.R_alloc | apply Kd.R_drewN | apply Kd.R_drew)); exact HO_11.out) hb); have n2_ := Aside0.mk (Kd.R_below (by (with_reducible repeat (first | apply Kd.R_alloc | apply Kd.R_drewN | apply Kd.R_drew)); exact HO_13.out) hb); have n3_ := Aside0.mk (below_step (by repeat (first | (with_reducible first | exact HB.out | apply below_alloc | apply pw_below_drewN | apply below_drew1) | exact HB.out)) hb); clear HO_9; clear HO_11; clear HO_13; clear HB; have HO_9 := n0_; have HO_11 := n1_; have HO_13 := n2_; have HB := n3_; clear n0_ n1_ n2_ n3_; (try clear hb); (try clear hb2); (try clear hk); (try clear hi)) | ((with_reducible refine gate_dst (N := 16) rfl ?_); (try (refine gate_guard (by rfl) ?_; dsimp only)); refine box_event ?hg (N := 16) ?hd (cs := #[.int .i64 0, .int .i64 0, .string (⟨#[]⟩ : ByteArray)]) (t := 30) ?hr ?_; (case hd => rfl); (case hg => rfl); (case hr => first | (go_simp; done) | (go_simp; rfl)); intro gb247 hg w50 hbox hb; have n0_ := Aside0.mk (Kd.R_below (by (with_reducible repeat (first | apply Kd.R_alloc | apply Kd.R_drewN | apply Kd.R_drew)); exact HO_9.out) hb); have n1_ := Aside0.mk (Kd.R_below (by (with_reducible repeat (first | apply Kd.R_alloc | apply Kd.R_drewN | apply Kd.R_drew)); exact HO_11.out) hb); have n2_ := Aside0.mk (Kd.R_below (by (with_reducible repeat (first | apply Kd.R_alloc | apply Kd.R_drewN | apply Kd.R_drew)); exact HO_13.out) hb); have n3_ := Aside0.mk (below_step (by repeat (first | (with_reducible first | exact HB.out | apply below_alloc | apply pw_below_drewN | apply below_drew1) | exact HB.out)) hb); have n4_ := Aside0.mk (hbox); have n5_ := Aside0.mk ((by rw [hg]; exact (below_size (by repeat (first | (with_reducible first | exact HB.out | apply below_alloc | apply pw_below_drewN | apply below_drew1) | exact HB.out))) : w.heap.size ≤ gb247)); have n6_ := Aside0.mk ((by rw [hg]; exact (below_size (by repeat (first | (with_reducible first | exact HB.out | apply below_alloc | apply pw_below_drewN | apply below_drew1) | exact HB.out))) : w.heap.size ≤ gb247)); clear HO_9; clear HO_11; clear HO_13; clear HB; have HO_9 := n0_; have HO_11 := n1_; have HO_13 := n2_; have HB := n3_; have BK247 := n4_; have GW247 := n5_; have GE247 := n6_; clear n0_ n1_ n2_ n3_ n4_ n5_ n6_; clear hb hbox hg; have hcz51_0 : w50.cell? ⟨gb247, 0, none⟩ = some (.int .i64 0) := (blk_cell BK247.out 0).trans rfl; have hcz51_1 : w50.cell? ⟨gb247, 1, none⟩ = some (.int .i64 0) := (blk_cell BK247.out 1).trans rfl; have hcz51_2 : w50.cell? ⟨gb247, 2, none⟩ = some (.string (⟨#[]⟩ : ByteArray)) := (blk_cell BK247.out 2).trans rfl; have hfz51_0 := blk_frozen BK247.out 0; have hfz51_1 := blk_frozen BK247.out 1; have hfz51_2 := blk_frozen BK247.out 2))
                                          have n0_ : Aside0 (Kd.R k32 32 (((w50.setCell ⟨gb247, 0, none⟩ (.int .i64 t243)).setCell ⟨gb247, 1, none⟩ (.int .i64 t244)).setCell ⟨gb247, 2, none⟩ (.string t245)) w.heap.size (fun k_ => some k_ ≠ (v219 : Value).ownBlock ∧ some k_ ≠ (v240 : Value).ownBlock) (.slice Ao48 t213.length co48) t213) := ⟨by (with_reducible repeat (first | apply Kd.R_alloc | apply Kd.R_drewN | apply Kd.R_drew)); exact Kd.R_mono (Kd.R_far (p := ⟨gb247, 2, none⟩) (Kd.R_far (p := ⟨gb247, 1, none⟩) (Kd.R_far (p := ⟨gb247, 0, none⟩) (Kd.R_types HO_9.out BK247.out (by decide)) (fun _ hk => hk.2) (.int .i64 t243)) (fun _ hk => hk.2) (.int .i64 t244)) (fun _ hk => hk.2) (.string t245)) (fun _ hk => ⟨hk.1.1, hk.1.2⟩)⟩
                                          have n1_ : Aside0 (Kd.R k32 32 (((w50.setCell ⟨gb247, 0, none⟩ (.int .i64 t243)).setCell ⟨gb247, 1, none⟩ (.int .i64 t244)).setCell ⟨gb247, 2, none⟩ (.string t245)) w.heap.size (fun k_ => some k_ ≠ (.slice Ao48 t213.length co48 : Value).ownBlock ∧ some k_ ≠ (v240 : Value).ownBlock) v219 t217) := ⟨by (with_reducible repeat (first | apply Kd.R_alloc | apply Kd.R_drewN | apply Kd.R_drew)); exact Kd.R_mono (Kd.R_far (p := ⟨gb247, 2, none⟩) (Kd.R_far (p := ⟨gb247, 1, none⟩) (Kd.R_far (p := ⟨gb247, 0, none⟩) (Kd.R_types HO_11.out BK247.out (by decide)) (fun _ hk => hk.2) (.int .i64 t243)) (fun _ hk => hk.2) (.int .i64 t244)) (fun _ hk => hk.2) (.string t245)) (fun _ hk => ⟨hk.1.1, hk.1.2⟩)⟩
                                          have n2_ : Aside0 (Kd.R k32 32 (((w50.setCell ⟨gb247, 0, none⟩ (.int .i64 t243)).setCell ⟨gb247, 1, none⟩ (.int .i64 t244)).setCell ⟨gb247, 2, none⟩ (.string t245)) w.heap.size (fun k_ => some k_ ≠ (.slice Ao48 t213.length co48 : Value).ownBlock ∧ some k_ ≠ (v219 : Value).ownBlock) v240 t238) := ⟨by (with_reducible repeat (first | apply Kd.R_alloc | apply Kd.R_drewN | apply Kd.R_drew)); exact Kd.R_mono (Kd.R_far (p := ⟨gb247, 2, none⟩) (Kd.R_far (p := ⟨gb247, 1, none⟩) (Kd.R_far (p := ⟨gb247, 0, none⟩) (Kd.R_types HO_13.out BK247.out (by decide)) (fun _ hk => hk.2) (.int .i64 t243)) (fun _ hk => hk.2) (.int .i64 t244)) (fun _ hk => hk.2) (.string t245)) (fun _ hk => ⟨hk.1.1, hk.1.2⟩)⟩
                                          have n3_ : Aside0 ((((w50.setCell ⟨gb247, 0, none⟩ (.int .i64 t243)).setCell ⟨gb247, 1, none⟩ (.int .i64 t244)).setCell ⟨gb247, 2, none⟩ (.string t245)).heap[gb247]? = some (.cells #[.int .i64 t243, .int .i64 t244, .string t245] 30 (0, 0))) := ⟨by (with_reducible repeat (first | refine blk_drewN ?_ _ | refine blk_drew ?_ | refine blk_alloc ?_ _)); refine blk_put (cs := #[.int .i64 t243, .int .i64 t244, .string (⟨#[]⟩ : ByteArray)]) ?_ 2 _ rfl; (with_reducible repeat (first | refine blk_drewN ?_ _ | refine blk_drew ?_ | refine blk_alloc ?_ _)); refine blk_put (cs := #[.int .i64 t243, .int .i64 0, .string (⟨#[]⟩ : ByteArray)]) ?_ 1 _ rfl; (with_reducible repeat (first | refine blk_drewN ?_ _ | refine blk_drew ?_ | refine blk_alloc ?_ _)); refine blk_put (cs := #[.int .i64 0, .int .i64 0, .string (⟨#[]⟩ : ByteArray)]) ?_ 0 _ rfl; (with_reducible repeat (first | refine blk_drewN ?_ _ | refine blk_drew ?_ | refine blk_alloc ?_ _)); exact BK247.out⟩
                                          have n4_ : Aside0 (Below w.heap.size w (((w50.setCell ⟨gb247, 0, none⟩ (.int .i64 t243)).setCell ⟨gb247, 1, none⟩ (.int .i64 t244)).setCell ⟨gb247, 2, none⟩ (.string t245))) := ⟨by repeat (first | (with_reducible first | exact HB.out | apply below_alloc | apply pw_below_drewN | apply below_drew1 | refine below_set ?_ GE247.out) | exact HB.out)⟩
                                          (try clear HO_9)
                                          (try clear HO_11)
                                          (try clear HO_13)
                                          (try clear BK247)
                                          (try clear HB)
                                          generalize (((w50.setCell ⟨gb247, 0, none⟩ (.int .i64 t243)).setCell ⟨gb247, 1, none⟩ (.int .i64 t244)).setCell ⟨gb247, 2, none⟩ (.string t245)) = w52 at n0_ n1_ n2_ n3_ n4_ ⊢
                                          have HO_9 := n0_
                                          have HO_11 := n1_
                                          have HO_13 := n2_
                                          have BK247 := n3_
                                          have HB := n4_
                                          clear n0_ n1_ n2_ n3_ n4_
                                          have n0_ := Aside0.mk (Kd.R_drew HO_9.out)
                                          have n1_ := Aside0.mk (Kd.R_drew HO_11.out)
                                          have n2_ := Aside0.mk (Kd.R_drew HO_13.out)
                                          have n3_ := Aside0.mk (blk_drew BK247.out)
                                          have n4_ := Aside0.mk (below_drew1 HB.out)
                                          clear HO_9
                                          clear HO_11
                                          clear HO_13
                                          clear BK247
                                          clear HB
                                          have HO_9 := n0_
                                          have HO_11 := n1_
                                          have HO_13 := n2_
                                          have BK247 := n3_
                                          have HB := n4_
                                          clear n0_ n1_ n2_ n3_ n4_
                                          have p248 : 0 ≤ (x15_4 : Int) := of_decide_eq_true (by first | (with_reducible assumption) | assumption)
                                          have q248 : x15_4 < (l0.length : Int) := of_decide_eq_true (by first | (with_reducible assumption) | assumption)
                                          obtain ⟨ad248, e248, hx248_0, hx248_1, hx248_2, hx248_3⟩ := at_T32 HR0.out x15_4 p248 q248
                                          have hw248_3 := hx248_3
                                          have hw248_2 := hx248_2
                                          have hw248_1 := hx248_1
                                          have hw248_0 := hx248_0
                                          obtain rfl : ad242 = ad248 := (by injection e248)
                                          replace hx248_0 := (HB.out.cell (World.block_lt_of_cell? w _ hx248_0)).trans hx248_0
                                          replace hx248_1 := (HB.out.cell (World.block_lt_of_cell? w _ hx248_1)).trans hx248_1
                                          replace hx248_2 := (HB.out.cell (World.block_lt_of_cell? w _ hx248_2)).trans hx248_2
                                          replace hx248_3 := (HB.out.cell (World.block_lt_of_cell? w _ hx248_3)).trans hx248_3
                                          replace p248 := eq_true p248
                                          replace q248 := eq_true q248
                                          refine start_ (n := 11) (S := fun w' => w'.cell? ⟨gb247, 0, none⟩ = some (.int .i64 t243) ∧ w'.cell? ⟨gb247, 1, none⟩ = some (.int .i64 t244) ∧ w'.cell? ⟨gb247, 2, none⟩ = some (.string t245) ∧ w'.cell? (ad242.add ((x15_4).toNat * 4)) = some (.string ((rd_T32 l0 x15_4).f0)) ∧ w'.cell? ⟨(ad242.add ((x15_4).toNat * 4)).block, (ad242.add ((x15_4).toNat * 4)).off + 1, none⟩ = some (.int .i64 ((rd_T32 l0 x15_4).f1.f0)) ∧ w'.cell? ⟨(ad242.add ((x15_4).toNat * 4)).block, (ad242.add ((x15_4).toNat * 4)).off + 2, none⟩ = some (.int .i64 ((rd_T32 l0 x15_4).f1.f1)) ∧ w'.cell? ⟨(ad242.add ((x15_4).toNat * 4)).block, (ad242.add ((x15_4).toNat * 4)).off + 3, none⟩ = some (.string ((rd_T32 l0 x15_4).f1.f2))) (ds := []) #[false, false, false, false, false, false, false, false, false, false, false] (by kernel_rfl) rfl rfl ⟨(blk_cell BK247.out 0).trans rfl, (blk_cell BK247.out 1).trans rfl, (blk_cell BK247.out 2).trans rfl, ((HB.out.cell (World.block_lt_of_cell? w _ hw248_0)).trans hw248_0), ((HB.out.cell (World.block_lt_of_cell? w _ hw248_1)).trans hw248_1), ((HB.out.cell (World.block_lt_of_cell? w _ hw248_2)).trans hw248_2), ((HB.out.cell (World.block_lt_of_cell? w _ hw248_3)).trans hw248_3)⟩ (fun hHeld => ?_); refine with_tabW rosettelaw05_EventOrders.tab21 rosettelaw05_EventOrders.bits21 (fun HT_ HW_ => ?_)
                                          generalize w52.drew = w53 at HO_9 HO_11 HO_13 BK247 HB hx248_0 hx248_1 hx248_2 hx248_3 hHeld ⊢
                                          refine pure_ (i := 0) (N := some 119) (v := ?_) (a' := ?_) #[true, false, false, false, false, false, false, false, false, false, false] rfl rfl (any_of HT_.out (by kernel_rfl)) (fun _ _ _ h => h) (Or.inl ⟨by rfl, ?_⟩) ?_ ?_
                                          rotate_left
                                          · intro w'
                                            go_simp
                                            with_reducible rfl
                                          rotate_left
                                          · simp only [Act.put, List.setIfInBounds_toArray, List.set_cons_zero, List.set_cons_succ, i64_w, i32_w]
                                            rfl
                                          refine pure_ (i := 1) (N := some 120) (v := ?_) (a' := ?_) #[true, true, false, false, false, false, false, false, false, false, false] rfl rfl (any_of HT_.out (by kernel_rfl)) (fun _ _ _ h => h) (Or.inl ⟨by rfl, ?_⟩) ?_ ?_
                                          rotate_left
                                          · intro w'
                                            go_simp
                                            with_reducible rfl
                                          rotate_left
                                          · simp only [Act.put, List.setIfInBounds_toArray, List.set_cons_zero, List.set_cons_succ, i64_w, i32_w]
                                            rfl
                                          refine pure_ (i := 2) (N := some 121) (v := ?_) (a' := ?_) #[true, true, true, false, false, false, false, false, false, false, false] rfl rfl (any_of HT_.out (by kernel_rfl)) (fun _ _ _ h => h) (Or.inl ⟨by rfl, ?_⟩) ?_ ?_
                                          rotate_left
                                          · intro w'
                                            go_simp
                                            with_reducible rfl
                                          rotate_left
                                          · simp only [Act.put, List.setIfInBounds_toArray, List.set_cons_zero, List.set_cons_succ, i64_w, i32_w]
                                            rfl
                                          refine pure_ (i := 4) (N := some 123) (v := ?_) (a' := ?_) #[true, true, true, false, true, false, false, false, false, false, false] rfl rfl (any_of HT_.out (by kernel_rfl)) (fun _ _ _ h => h) (Or.inl ⟨by rfl, ?_⟩) ?_ ?_
                                          rotate_left
                                          · intro w'
                                            go_simp
                                            with_reducible rfl
                                          rotate_left
                                          · simp only [Act.put, List.setIfInBounds_toArray, List.set_cons_zero, List.set_cons_succ, i64_w, i32_w]
                                            rfl
                                          refine pure_ (i := 5) (N := some 124) (v := ?_) (a' := ?_) #[true, true, true, false, true, true, false, false, false, false, false] rfl rfl (any_of HT_.out (by kernel_rfl)) (fun _ _ _ h => h) (Or.inl ⟨by rfl, ?_⟩) ?_ ?_
                                          rotate_left
                                          · intro w'
                                            go_simp
                                            with_reducible rfl
                                          rotate_left
                                          · simp only [Act.put, List.setIfInBounds_toArray, List.set_cons_zero, List.set_cons_succ, i64_w, i32_w]
                                            rfl
                                          refine pure_ (i := 6) (N := some 125) (v := ?_) (a' := ?_) #[true, true, true, false, true, true, true, false, false, false, false] rfl rfl (any_of HT_.out (by kernel_rfl)) (fun _ _ _ h => h) (Or.inl ⟨by rfl, ?_⟩) ?_ ?_
                                          rotate_left
                                          · intro w'
                                            go_simp
                                            with_reducible rfl
                                          rotate_left
                                          · simp only [Act.put, List.setIfInBounds_toArray, List.set_cons_zero, List.set_cons_succ, i64_w, i32_w]
                                            rfl
                                          refine pure_ (i := 7) (N := some 126) (v := ?_) (a' := ?_) #[true, true, true, false, true, true, true, true, false, false, false] rfl rfl (any_of HT_.out (by kernel_rfl)) (fun _ _ _ h => h) (Or.inl ⟨by rfl, ?_⟩) ?_ ?_
                                          rotate_left
                                          · intro w'
                                            go_simp
                                            with_reducible rfl
                                          rotate_left
                                          · simp only [Act.put, List.setIfInBounds_toArray, List.set_cons_zero, List.set_cons_succ, i64_w, i32_w]
                                            rfl
                                          refine take_ (i := 3) (N := some 122) (v := ?_) (a' := ?_) #[true, true, true, true, true, true, true, true, false, false, false] rfl rfl (take_ofW HT_.out HW_.out (by kernel_rfl)) (fun _ _ _ h => h) (Or.inl ⟨by rfl, ?_⟩) hHeld ?_ ?_
                                          rotate_left
                                          · rintro w' ⟨s0, s1, s2, s3, s4, s5, s6⟩
                                            go_simp
                                            with_reducible rfl
                                          rotate_left
                                          · simp only [Act.put, List.setIfInBounds_toArray, List.set_cons_zero, List.set_cons_succ, i64_w, i32_w]
                                            rfl
                                          refine take_ (i := 8) (N := some 127) (v := ?_) (a' := ?_) #[true, true, true, true, true, true, true, true, true, false, false] rfl rfl (take_ofW HT_.out HW_.out (by kernel_rfl)) (fun _ _ _ h => h) (Or.inl ⟨by rfl, ?_⟩) hHeld ?_ ?_
                                          rotate_left
                                          · rintro w' ⟨s0, s1, s2, s3, s4, s5, s6⟩
                                            go_simp
                                            with_reducible rfl
                                          rotate_left
                                          · simp only [Act.put, List.setIfInBounds_toArray, List.set_cons_zero, List.set_cons_succ, i64_w, i32_w]
                                            rfl
                                          refine pure_ (i := 9) (N := some 128) (v := ?_) (a' := ?_) #[true, true, true, true, true, true, true, true, true, true, false] rfl rfl (any_of HT_.out (by kernel_rfl)) (fun _ _ _ h => h) (Or.inl ⟨by rfl, ?_⟩) ?_ ?_
                                          rotate_left
                                          · intro w'
                                            go_simp
                                            with_reducible rfl
                                          rotate_left
                                          · simp only [Act.put, List.setIfInBounds_toArray, List.set_cons_zero, List.set_cons_succ, i64_w, i32_w]
                                            rfl
                                          refine pure_ (i := 10) (N := some 129) (v := ?_) (a' := ?_) #[true, true, true, true, true, true, true, true, true, true, true] rfl rfl (any_of HT_.out (by kernel_rfl)) (fun _ _ _ h => h) (Or.inl ⟨by rfl, ?_⟩) ?_ ?_
                                          rotate_left
                                          · intro w'
                                            go_simp
                                            with_reducible rfl
                                          rotate_left
                                          · simp only [Act.put, List.setIfInBounds_toArray, List.set_cons_zero, List.set_cons_succ, i64_w, i32_w]
                                            rfl
                                          refine done_ (done_of HT_.out (by kernel_rfl)) ?_
                                          try go_wp2
                                          go_ret
                                          exact ⟨by first | rfl | (simp [errW_none, errW_some] <;> rfl) | (simp [*, errW_none, errW_some] <;> rfl), by repeat (first | (with_reducible first | exact HB.out | apply below_alloc | apply pw_below_drewN | apply below_drew1 | refine below_set ?_ GE247.out) | exact HB.out)⟩
                                        · rw [if_neg c47] at H
                                          have c47b0 : (!(t243 == ((rd_T32 l0 x15_4).f1.f0)) || (!(t244 == ((rd_T32 l0 x15_4).f1.f1)) || (!(t245.toList == (((rd_T32 l0 x15_4).f1.f2).toList))))) = false := by simpa using c47
                                          clear c47
                                          have H' := Aside0.mk H
                                          clear H
                                          have p242 : 0 ≤ (x15_4 : Int) := of_decide_eq_true (by first | (with_reducible assumption) | assumption)
                                          have q242 : x15_4 < (l0.length : Int) := of_decide_eq_true (by first | (with_reducible assumption) | assumption)
                                          obtain ⟨ad242, e242, hx242_0, hx242_1, hx242_2, hx242_3⟩ := at_T32 HR0.out x15_4 p242 q242
                                          cases e242
                                          replace hx242_0 := (HB.out.cell (World.block_lt_of_cell? w _ hx242_0)).trans hx242_0
                                          replace hx242_1 := (HB.out.cell (World.block_lt_of_cell? w _ hx242_1)).trans hx242_1
                                          replace hx242_2 := (HB.out.cell (World.block_lt_of_cell? w _ hx242_2)).trans hx242_2
                                          replace hx242_3 := (HB.out.cell (World.block_lt_of_cell? w _ hx242_3)).trans hx242_3
                                          replace p242 := eq_true p242
                                          replace q242 := eq_true q242
                                          obtain ⟨Ao54, co54, eo54⟩ := Kd.R_slice HO_9.out
                                          subst eo54
                                          try go_wp2_with (first | ((with_reducible refine gate_callee (f := 15) rfl ?_); refine goesL_ (some 116) rfl rfl Try.func15 (by kernel_rfl) rfl #[.slice Ao54 t213.length co54, .string ((rd_T32 l0 x15_4).f0)] rfl (by (try simp only [List.map_toArray, List.map_cons, List.map_nil]); first | done | rfl | (simp only [List.length_drop, List.length_take]; rfl)) ?_; (with_reducible refine (event_Get.calls _ _ t213 ((rd_T32 l0 x15_4).f0) t243 t244 t245 true _ ?side1 ?side2 A45.out).mono ?_); (case side1 => repeat (first | exact (Kd.R_reads' HO_9.out).2.2 | (with_reducible refine Kd.C_alloc ?_ _) | (with_reducible refine Kd.C_drewN ?_ _) | (with_reducible refine Kd.C_drew ?_))); (case side2 => exact (Kd.R_reads' HO_9.out).2.1); rintro e w55 ⟨rfl, hb⟩; refine ⟨_, rfl, ?_⟩; have n0_ := Aside0.mk (Kd.R_below (by (with_reducible repeat (first | apply Kd.R_alloc | apply Kd.R_drewN | apply Kd.R_drew)); exact HO_9.out) hb); have n1_ := Aside0.mk (Kd.R_below (by (with_reducible repeat (first | apply Kd.R_alloc | apply Kd.R_drewN | apply Kd.R_drew)); exact HO_11.out) hb); have n2_ := Aside0.mk (Kd.R_below (by (with_reducible repeat (first | apply Kd.R_alloc | apply Kd.R_drewN | apply Kd.R_drew)); exact HO_13.out) hb); have n3_ := Aside0.mk (below_step (by repeat (first | (with_reducible first | exact HB.out | apply below_alloc | apply pw_below_drewN | apply below_drew1) | exact HB.out)) hb); clear HO_9; clear HO_11; clear HO_13; clear HB; have HO_9 := n0_; have HO_11 := n1_; have HO_13 := n2_; have HB := n3_; clear n0_ n1_ n2_ n3_; (try clear hb); (try clear hb2); (try clear hk); (try clear hi)) | ((with_reducible refine gate_dst (N := 16) rfl ?_); (try (refine gate_guard (by rfl) ?_; dsimp only)); refine box_event ?hg (N := 16) ?hd (cs := #[.int .i64 0, .int .i64 0, .string (⟨#[]⟩ : ByteArray)]) (t := 30) ?hr ?_; (case hd => rfl); (case hg => rfl); (case hr => first | (go_simp; done) | (go_simp; rfl)); intro gb247 hg w56 hbox hb; have n0_ := Aside0.mk (Kd.R_below (by (with_reducible repeat (first | apply Kd.R_alloc | apply Kd.R_drewN | apply Kd.R_drew)); exact HO_9.out) hb); have n1_ := Aside0.mk (Kd.R_below (by (with_reducible repeat (first | apply Kd.R_alloc | apply Kd.R_drewN | apply Kd.R_drew)); exact HO_11.out) hb); have n2_ := Aside0.mk (Kd.R_below (by (with_reducible repeat (first | apply Kd.R_alloc | apply Kd.R_drewN | apply Kd.R_drew)); exact HO_13.out) hb); have n3_ := Aside0.mk (below_step (by repeat (first | (with_reducible first | exact HB.out | apply below_alloc | apply pw_below_drewN | apply below_drew1) | exact HB.out)) hb); have n4_ := Aside0.mk (hbox); have n5_ := Aside0.mk ((by rw [hg]; exact (below_size (by repeat (first | (with_reducible first | exact HB.out | apply below_alloc | apply pw_below_drewN | apply below_drew1) | exact HB.out))) : w.heap.size ≤ gb247)); have n6_ := Aside0.mk ((by rw [hg]; exact (below_size (by repeat (first | (with_reducible first | exact HB.out | apply below_alloc | apply pw_below_drewN | apply below_drew1) | exact HB.out))) : w.heap.size ≤ gb247)); clear HO_9; clear HO_11; clear HO_13; clear HB; have HO_9 := n0_; have HO_11 := n1_; have HO_13 := n2_; have HB := n3_; have BK247 := n4_; have GW247 := n5_; have GE247 := n6_; clear n0_ n1_ n2_ n3_ n4_ n5_ n6_; clear hb hbox hg; have hcz57_0 : w56.cell? ⟨gb247, 0, none⟩ = some (.int .i64 0) := (blk_cell BK247.out 0).trans rfl; have hcz57_1 : w56.cell? ⟨gb247, 1, none⟩ = some (.int .i64 0) := (blk_cell BK247.out 1).trans rfl; have hcz57_2 : w56.cell? ⟨gb247, 2, none⟩ = some (.string (⟨#[]⟩ : ByteArray)) := (blk_cell BK247.out 2).trans rfl; have hfz57_0 := blk_frozen BK247.out 0; have hfz57_1 := blk_frozen BK247.out 1; have hfz57_2 := blk_frozen BK247.out 2))
                                          have n0_ : Aside0 (Kd.R k32 32 (((w56.setCell ⟨gb247, 0, none⟩ (.int .i64 t243)).setCell ⟨gb247, 1, none⟩ (.int .i64 t244)).setCell ⟨gb247, 2, none⟩ (.string t245)) w.heap.size (fun k_ => some k_ ≠ (v219 : Value).ownBlock ∧ some k_ ≠ (v240 : Value).ownBlock) (.slice Ao54 t213.length co54) t213) := ⟨by (with_reducible repeat (first | apply Kd.R_alloc | apply Kd.R_drewN | apply Kd.R_drew)); exact Kd.R_mono (Kd.R_far (p := ⟨gb247, 2, none⟩) (Kd.R_far (p := ⟨gb247, 1, none⟩) (Kd.R_far (p := ⟨gb247, 0, none⟩) (Kd.R_types HO_9.out BK247.out (by decide)) (fun _ hk => hk.2) (.int .i64 t243)) (fun _ hk => hk.2) (.int .i64 t244)) (fun _ hk => hk.2) (.string t245)) (fun _ hk => ⟨hk.1.1, hk.1.2⟩)⟩
                                          have n1_ : Aside0 (Kd.R k32 32 (((w56.setCell ⟨gb247, 0, none⟩ (.int .i64 t243)).setCell ⟨gb247, 1, none⟩ (.int .i64 t244)).setCell ⟨gb247, 2, none⟩ (.string t245)) w.heap.size (fun k_ => some k_ ≠ (.slice Ao54 t213.length co54 : Value).ownBlock ∧ some k_ ≠ (v240 : Value).ownBlock) v219 t217) := ⟨by (with_reducible repeat (first | apply Kd.R_alloc | apply Kd.R_drewN | apply Kd.R_drew)); exact Kd.R_mono (Kd.R_far (p := ⟨gb247, 2, none⟩) (Kd.R_far (p := ⟨gb247, 1, none⟩) (Kd.R_far (p := ⟨gb247, 0, none⟩) (Kd.R_types HO_11.out BK247.out (by decide)) (fun _ hk => hk.2) (.int .i64 t243)) (fun _ hk => hk.2) (.int .i64 t244)) (fun _ hk => hk.2) (.string t245)) (fun _ hk => ⟨hk.1.1, hk.1.2⟩)⟩
                                          have n2_ : Aside0 (Kd.R k32 32 (((w56.setCell ⟨gb247, 0, none⟩ (.int .i64 t243)).setCell ⟨gb247, 1, none⟩ (.int .i64 t244)).setCell ⟨gb247, 2, none⟩ (.string t245)) w.heap.size (fun k_ => some k_ ≠ (.slice Ao54 t213.length co54 : Value).ownBlock ∧ some k_ ≠ (v219 : Value).ownBlock) v240 t238) := ⟨by (with_reducible repeat (first | apply Kd.R_alloc | apply Kd.R_drewN | apply Kd.R_drew)); exact Kd.R_mono (Kd.R_far (p := ⟨gb247, 2, none⟩) (Kd.R_far (p := ⟨gb247, 1, none⟩) (Kd.R_far (p := ⟨gb247, 0, none⟩) (Kd.R_types HO_13.out BK247.out (by decide)) (fun _ hk => hk.2) (.int .i64 t243)) (fun _ hk => hk.2) (.int .i64 t244)) (fun _ hk => hk.2) (.string t245)) (fun _ hk => ⟨hk.1.1, hk.1.2⟩)⟩
                                          have n3_ : Aside0 ((((w56.setCell ⟨gb247, 0, none⟩ (.int .i64 t243)).setCell ⟨gb247, 1, none⟩ (.int .i64 t244)).setCell ⟨gb247, 2, none⟩ (.string t245)).heap[gb247]? = some (.cells #[.int .i64 t243, .int .i64 t244, .string t245] 30 (0, 0))) := ⟨by (with_reducible repeat (first | refine blk_drewN ?_ _ | refine blk_drew ?_ | refine blk_alloc ?_ _)); refine blk_put (cs := #[.int .i64 t243, .int .i64 t244, .string (⟨#[]⟩ : ByteArray)]) ?_ 2 _ rfl; (with_reducible repeat (first | refine blk_drewN ?_ _ | refine blk_drew ?_ | refine blk_alloc ?_ _)); refine blk_put (cs := #[.int .i64 t243, .int .i64 0, .string (⟨#[]⟩ : ByteArray)]) ?_ 1 _ rfl; (with_reducible repeat (first | refine blk_drewN ?_ _ | refine blk_drew ?_ | refine blk_alloc ?_ _)); refine blk_put (cs := #[.int .i64 0, .int .i64 0, .string (⟨#[]⟩ : ByteArray)]) ?_ 0 _ rfl; (with_reducible repeat (first | refine blk_drewN ?_ _ | refine blk_drew ?_ | refine blk_alloc ?_ _)); exact BK247.out⟩
                                          have n4_ : Aside0 (Below w.heap.size w (((w56.setCell ⟨gb247, 0, none⟩ (.int .i64 t243)).setCell ⟨gb247, 1, none⟩ (.int .i64 t244)).setCell ⟨gb247, 2, none⟩ (.string t245))) := ⟨by repeat (first | (with_reducible first | exact HB.out | apply below_alloc | apply pw_below_drewN | apply below_drew1 | refine below_set ?_ GE247.out) | exact HB.out)⟩
                                          (try clear HO_9)
                                          (try clear HO_11)
                                          (try clear HO_13)
                                          (try clear BK247)
                                          (try clear HB)
                                          generalize (((w56.setCell ⟨gb247, 0, none⟩ (.int .i64 t243)).setCell ⟨gb247, 1, none⟩ (.int .i64 t244)).setCell ⟨gb247, 2, none⟩ (.string t245)) = w58 at n0_ n1_ n2_ n3_ n4_ ⊢
                                          have HO_9 := n0_
                                          have HO_11 := n1_
                                          have HO_13 := n2_
                                          have BK247 := n3_
                                          have HB := n4_
                                          clear n0_ n1_ n2_ n3_ n4_
                                          have n0_ := Aside0.mk (Kd.R_drew HO_9.out)
                                          have n1_ := Aside0.mk (Kd.R_drew HO_11.out)
                                          have n2_ := Aside0.mk (Kd.R_drew HO_13.out)
                                          have n3_ := Aside0.mk (blk_drew BK247.out)
                                          have n4_ := Aside0.mk (below_drew1 HB.out)
                                          clear HO_9
                                          clear HO_11
                                          clear HO_13
                                          clear BK247
                                          clear HB
                                          have HO_9 := n0_
                                          have HO_11 := n1_
                                          have HO_13 := n2_
                                          have BK247 := n3_
                                          have HB := n4_
                                          clear n0_ n1_ n2_ n3_ n4_
                                          have p248 : 0 ≤ (x15_4 : Int) := of_decide_eq_true (by first | (with_reducible assumption) | assumption)
                                          have q248 : x15_4 < (l0.length : Int) := of_decide_eq_true (by first | (with_reducible assumption) | assumption)
                                          obtain ⟨ad248, e248, hx248_0, hx248_1, hx248_2, hx248_3⟩ := at_T32 HR0.out x15_4 p248 q248
                                          have hw248_3 := hx248_3
                                          have hw248_2 := hx248_2
                                          have hw248_1 := hx248_1
                                          have hw248_0 := hx248_0
                                          obtain rfl : ad242 = ad248 := (by injection e248)
                                          replace hx248_0 := (HB.out.cell (World.block_lt_of_cell? w _ hx248_0)).trans hx248_0
                                          replace hx248_1 := (HB.out.cell (World.block_lt_of_cell? w _ hx248_1)).trans hx248_1
                                          replace hx248_2 := (HB.out.cell (World.block_lt_of_cell? w _ hx248_2)).trans hx248_2
                                          replace hx248_3 := (HB.out.cell (World.block_lt_of_cell? w _ hx248_3)).trans hx248_3
                                          replace p248 := eq_true p248
                                          replace q248 := eq_true q248
                                          refine start_ (n := 11) (S := fun w' => w'.cell? ⟨gb247, 0, none⟩ = some (.int .i64 t243) ∧ w'.cell? ⟨gb247, 1, none⟩ = some (.int .i64 t244) ∧ w'.cell? ⟨gb247, 2, none⟩ = some (.string t245) ∧ w'.cell? (ad242.add ((x15_4).toNat * 4)) = some (.string ((rd_T32 l0 x15_4).f0)) ∧ w'.cell? ⟨(ad242.add ((x15_4).toNat * 4)).block, (ad242.add ((x15_4).toNat * 4)).off + 1, none⟩ = some (.int .i64 ((rd_T32 l0 x15_4).f1.f0)) ∧ w'.cell? ⟨(ad242.add ((x15_4).toNat * 4)).block, (ad242.add ((x15_4).toNat * 4)).off + 2, none⟩ = some (.int .i64 ((rd_T32 l0 x15_4).f1.f1)) ∧ w'.cell? ⟨(ad242.add ((x15_4).toNat * 4)).block, (ad242.add ((x15_4).toNat * 4)).off + 3, none⟩ = some (.string ((rd_T32 l0 x15_4).f1.f2))) (ds := []) #[false, false, false, false, false, false, false, false, false, false, false] (by kernel_rfl) rfl rfl ⟨(blk_cell BK247.out 0).trans rfl, (blk_cell BK247.out 1).trans rfl, (blk_cell BK247.out 2).trans rfl, ((HB.out.cell (World.block_lt_of_cell? w _ hw248_0)).trans hw248_0), ((HB.out.cell (World.block_lt_of_cell? w _ hw248_1)).trans hw248_1), ((HB.out.cell (World.block_lt_of_cell? w _ hw248_2)).trans hw248_2), ((HB.out.cell (World.block_lt_of_cell? w _ hw248_3)).trans hw248_3)⟩ (fun hHeld => ?_); refine with_tabW rosettelaw05_EventOrders.tab21 rosettelaw05_EventOrders.bits21 (fun HT_ HW_ => ?_)
                                          generalize w58.drew = w59 at HO_9 HO_11 HO_13 BK247 HB hx248_0 hx248_1 hx248_2 hx248_3 hHeld ⊢
                                          refine pure_ (i := 0) (N := some 119) (v := ?_) (a' := ?_) #[true, false, false, false, false, false, false, false, false, false, false] rfl rfl (any_of HT_.out (by kernel_rfl)) (fun _ _ _ h => h) (Or.inl ⟨by rfl, ?_⟩) ?_ ?_
                                          rotate_left
                                          · intro w'
                                            go_simp
                                            with_reducible rfl
                                          rotate_left
                                          · simp only [Act.put, List.setIfInBounds_toArray, List.set_cons_zero, List.set_cons_succ, i64_w, i32_w]
                                            rfl
                                          refine pure_ (i := 1) (N := some 120) (v := ?_) (a' := ?_) #[true, true, false, false, false, false, false, false, false, false, false] rfl rfl (any_of HT_.out (by kernel_rfl)) (fun _ _ _ h => h) (Or.inl ⟨by rfl, ?_⟩) ?_ ?_
                                          rotate_left
                                          · intro w'
                                            go_simp
                                            with_reducible rfl
                                          rotate_left
                                          · simp only [Act.put, List.setIfInBounds_toArray, List.set_cons_zero, List.set_cons_succ, i64_w, i32_w]
                                            rfl
                                          refine pure_ (i := 2) (N := some 121) (v := ?_) (a' := ?_) #[true, true, true, false, false, false, false, false, false, false, false] rfl rfl (any_of HT_.out (by kernel_rfl)) (fun _ _ _ h => h) (Or.inl ⟨by rfl, ?_⟩) ?_ ?_
                                          rotate_left
                                          · intro w'
                                            go_simp
                                            with_reducible rfl
                                          rotate_left
                                          · simp only [Act.put, List.setIfInBounds_toArray, List.set_cons_zero, List.set_cons_succ, i64_w, i32_w]
                                            rfl
                                          refine pure_ (i := 4) (N := some 123) (v := ?_) (a' := ?_) #[true, true, true, false, true, false, false, false, false, false, false] rfl rfl (any_of HT_.out (by kernel_rfl)) (fun _ _ _ h => h) (Or.inl ⟨by rfl, ?_⟩) ?_ ?_
                                          rotate_left
                                          · intro w'
                                            go_simp
                                            with_reducible rfl
                                          rotate_left
                                          · simp only [Act.put, List.setIfInBounds_toArray, List.set_cons_zero, List.set_cons_succ, i64_w, i32_w]
                                            rfl
                                          refine pure_ (i := 5) (N := some 124) (v := ?_) (a' := ?_) #[true, true, true, false, true, true, false, false, false, false, false] rfl rfl (any_of HT_.out (by kernel_rfl)) (fun _ _ _ h => h) (Or.inl ⟨by rfl, ?_⟩) ?_ ?_
                                          rotate_left
                                          · intro w'
                                            go_simp
                                            with_reducible rfl
                                          rotate_left
                                          · simp only [Act.put, List.setIfInBounds_toArray, List.set_cons_zero, List.set_cons_succ, i64_w, i32_w]
                                            rfl
                                          refine pure_ (i := 6) (N := some 125) (v := ?_) (a' := ?_) #[true, true, true, false, true, true, true, false, false, false, false] rfl rfl (any_of HT_.out (by kernel_rfl)) (fun _ _ _ h => h) (Or.inl ⟨by rfl, ?_⟩) ?_ ?_
                                          rotate_left
                                          · intro w'
                                            go_simp
                                            with_reducible rfl
                                          rotate_left
                                          · simp only [Act.put, List.setIfInBounds_toArray, List.set_cons_zero, List.set_cons_succ, i64_w, i32_w]
                                            rfl
                                          refine pure_ (i := 7) (N := some 126) (v := ?_) (a' := ?_) #[true, true, true, false, true, true, true, true, false, false, false] rfl rfl (any_of HT_.out (by kernel_rfl)) (fun _ _ _ h => h) (Or.inl ⟨by rfl, ?_⟩) ?_ ?_
                                          rotate_left
                                          · intro w'
                                            go_simp
                                            with_reducible rfl
                                          rotate_left
                                          · simp only [Act.put, List.setIfInBounds_toArray, List.set_cons_zero, List.set_cons_succ, i64_w, i32_w]
                                            rfl
                                          refine take_ (i := 3) (N := some 122) (v := ?_) (a' := ?_) #[true, true, true, true, true, true, true, true, false, false, false] rfl rfl (take_ofW HT_.out HW_.out (by kernel_rfl)) (fun _ _ _ h => h) (Or.inl ⟨by rfl, ?_⟩) hHeld ?_ ?_
                                          rotate_left
                                          · rintro w' ⟨s0, s1, s2, s3, s4, s5, s6⟩
                                            go_simp
                                            with_reducible rfl
                                          rotate_left
                                          · simp only [Act.put, List.setIfInBounds_toArray, List.set_cons_zero, List.set_cons_succ, i64_w, i32_w]
                                            rfl
                                          refine take_ (i := 8) (N := some 127) (v := ?_) (a' := ?_) #[true, true, true, true, true, true, true, true, true, false, false] rfl rfl (take_ofW HT_.out HW_.out (by kernel_rfl)) (fun _ _ _ h => h) (Or.inl ⟨by rfl, ?_⟩) hHeld ?_ ?_
                                          rotate_left
                                          · rintro w' ⟨s0, s1, s2, s3, s4, s5, s6⟩
                                            go_simp
                                            with_reducible rfl
                                          rotate_left
                                          · simp only [Act.put, List.setIfInBounds_toArray, List.set_cons_zero, List.set_cons_succ, i64_w, i32_w]
                                            rfl
                                          refine pure_ (i := 9) (N := some 128) (v := ?_) (a' := ?_) #[true, true, true, true, true, true, true, true, true, true, false] rfl rfl (any_of HT_.out (by kernel_rfl)) (fun _ _ _ h => h) (Or.inl ⟨by rfl, ?_⟩) ?_ ?_
                                          rotate_left
                                          · intro w'
                                            go_simp
                                            with_reducible rfl
                                          rotate_left
                                          · simp only [Act.put, List.setIfInBounds_toArray, List.set_cons_zero, List.set_cons_succ, i64_w, i32_w]
                                            rfl
                                          refine pure_ (i := 10) (N := some 129) (v := ?_) (a' := ?_) #[true, true, true, true, true, true, true, true, true, true, true] rfl rfl (any_of HT_.out (by kernel_rfl)) (fun _ _ _ h => h) (Or.inl ⟨by rfl, ?_⟩) ?_ ?_
                                          rotate_left
                                          · intro w'
                                            go_simp
                                            with_reducible rfl
                                          rotate_left
                                          · simp only [Act.put, List.setIfInBounds_toArray, List.set_cons_zero, List.set_cons_succ, i64_w, i32_w]
                                            rfl
                                          refine done_ (done_of HT_.out (by kernel_rfl)) ?_
                                          try go_wp2
                                          go_roundg k4
                                          case measure => have := HJ4.out; have := HK2.out; have := HJ23.out; have := HK4.out; omega
                                          case rel => exact ⟨(wrap64 (x15_4 + 1)), (by first | rfl | (simp; done) | (simp [*]; done)), H', ⟨by have := HJ4.out; have := HK2.out; have := HJ23.out; have := HK4.out; omega⟩, ⟨by (with_reducible repeat (first | apply Kd.R_alloc | apply Kd.R_drewN | apply Kd.R_drew)); exact HO_9.out⟩, ⟨by (with_reducible repeat (first | apply Kd.R_alloc | apply Kd.R_drewN | apply Kd.R_drew)); exact HO_11.out⟩, ⟨by (with_reducible repeat (first | apply Kd.R_alloc | apply Kd.R_drewN | apply Kd.R_drew)); exact HO_13.out⟩, ⟨by repeat (first | (with_reducible first | exact HB.out | apply below_alloc | apply pw_below_drewN | apply below_drew1 | refine below_set ?_ GE247.out) | exact HB.out)⟩⟩
                                      · replace c46 := Bool.eq_false_iff.mpr c46
                                        subst c46
                                        have H1 : (some false) = some r := by rw [if_neg (show ¬ (false = true) by decide)] at H; exact H
                                        clear H
                                        have H := H1
                                        clear H1
                                        obtain rfl := Option.some.inj H
                                        have p242 : 0 ≤ (x15_4 : Int) := of_decide_eq_true (by first | (with_reducible assumption) | assumption)
                                        have q242 : x15_4 < (l0.length : Int) := of_decide_eq_true (by first | (with_reducible assumption) | assumption)
                                        obtain ⟨ad242, e242, hx242_0, hx242_1, hx242_2, hx242_3⟩ := at_T32 HR0.out x15_4 p242 q242
                                        cases e242
                                        replace hx242_0 := (HB.out.cell (World.block_lt_of_cell? w _ hx242_0)).trans hx242_0
                                        replace hx242_1 := (HB.out.cell (World.block_lt_of_cell? w _ hx242_1)).trans hx242_1
                                        replace hx242_2 := (HB.out.cell (World.block_lt_of_cell? w _ hx242_2)).trans hx242_2
                                        replace hx242_3 := (HB.out.cell (World.block_lt_of_cell? w _ hx242_3)).trans hx242_3
                                        replace p242 := eq_true p242
                                        replace q242 := eq_true q242
                                        obtain ⟨Ao60, co60, eo60⟩ := Kd.R_slice HO_9.out
                                        subst eo60
                                        try go_wp2_with (first | ((with_reducible refine gate_callee (f := 15) rfl ?_); refine goesL_ (some 116) rfl rfl Try.func15 (by kernel_rfl) rfl #[.slice Ao60 t213.length co60, .string ((rd_T32 l0 x15_4).f0)] rfl (by (try simp only [List.map_toArray, List.map_cons, List.map_nil]); first | done | rfl | (simp only [List.length_drop, List.length_take]; rfl)) ?_; (with_reducible refine (event_Get.calls _ _ t213 ((rd_T32 l0 x15_4).f0) t243 t244 t245 false _ ?side1 ?side2 A45.out).mono ?_); (case side1 => repeat (first | exact (Kd.R_reads' HO_9.out).2.2 | (with_reducible refine Kd.C_alloc ?_ _) | (with_reducible refine Kd.C_drewN ?_ _) | (with_reducible refine Kd.C_drew ?_))); (case side2 => exact (Kd.R_reads' HO_9.out).2.1); rintro e w61 ⟨rfl, hb⟩; refine ⟨_, rfl, ?_⟩; have n0_ := Aside0.mk (Kd.R_below (by (with_reducible repeat (first | apply Kd.R_alloc | apply Kd.R_drewN | apply Kd.R_drew)); exact HO_9.out) hb); have n1_ := Aside0.mk (Kd.R_below (by (with_reducible repeat (first | apply Kd.R_alloc | apply Kd.R_drewN | apply Kd.R_drew)); exact HO_11.out) hb); have n2_ := Aside0.mk (Kd.R_below (by (with_reducible repeat (first | apply Kd.R_alloc | apply Kd.R_drewN | apply Kd.R_drew)); exact HO_13.out) hb); have n3_ := Aside0.mk (below_step (by repeat (first | (with_reducible first | exact HB.out | apply below_alloc | apply pw_below_drewN | apply below_drew1) | exact HB.out)) hb); clear HO_9; clear HO_11; clear HO_13; clear HB; have HO_9 := n0_; have HO_11 := n1_; have HO_13 := n2_; have HB := n3_; clear n0_ n1_ n2_ n3_; (try clear hb); (try clear hb2); (try clear hk); (try clear hi)) | ((with_reducible refine gate_dst (N := 16) rfl ?_); (try (refine gate_guard (by rfl) ?_; dsimp only)); refine box_event ?hg (N := 16) ?hd (cs := #[.int .i64 0, .int .i64 0, .string (⟨#[]⟩ : ByteArray)]) (t := 30) ?hr ?_; (case hd => rfl); (case hg => rfl); (case hr => first | (go_simp; done) | (go_simp; rfl)); intro gb247 hg w62 hbox hb; have n0_ := Aside0.mk (Kd.R_below (by (with_reducible repeat (first | apply Kd.R_alloc | apply Kd.R_drewN | apply Kd.R_drew)); exact HO_9.out) hb); have n1_ := Aside0.mk (Kd.R_below (by (with_reducible repeat (first | apply Kd.R_alloc | apply Kd.R_drewN | apply Kd.R_drew)); exact HO_11.out) hb); have n2_ := Aside0.mk (Kd.R_below (by (with_reducible repeat (first | apply Kd.R_alloc | apply Kd.R_drewN | apply Kd.R_drew)); exact HO_13.out) hb); have n3_ := Aside0.mk (below_step (by repeat (first | (with_reducible first | exact HB.out | apply below_alloc | apply pw_below_drewN | apply below_drew1) | exact HB.out)) hb); have n4_ := Aside0.mk (hbox); have n5_ := Aside0.mk ((by rw [hg]; exact (below_size (by repeat (first | (with_reducible first | exact HB.out | apply below_alloc | apply pw_below_drewN | apply below_drew1) | exact HB.out))) : w.heap.size ≤ gb247)); have n6_ := Aside0.mk ((by rw [hg]; exact (below_size (by repeat (first | (with_reducible first | exact HB.out | apply below_alloc | apply pw_below_drewN | apply below_drew1) | exact HB.out))) : w.heap.size ≤ gb247)); clear HO_9; clear HO_11; clear HO_13; clear HB; have HO_9 := n0_; have HO_11 := n1_; have HO_13 := n2_; have HB := n3_; have BK247 := n4_; have GW247 := n5_; have GE247 := n6_; clear n0_ n1_ n2_ n3_ n4_ n5_ n6_; clear hb hbox hg; have hcz63_0 : w62.cell? ⟨gb247, 0, none⟩ = some (.int .i64 0) := (blk_cell BK247.out 0).trans rfl; have hcz63_1 : w62.cell? ⟨gb247, 1, none⟩ = some (.int .i64 0) := (blk_cell BK247.out 1).trans rfl; have hcz63_2 : w62.cell? ⟨gb247, 2, none⟩ = some (.string (⟨#[]⟩ : ByteArray)) := (blk_cell BK247.out 2).trans rfl; have hfz63_0 := blk_frozen BK247.out 0; have hfz63_1 := blk_frozen BK247.out 1; have hfz63_2 := blk_frozen BK247.out 2))
                                        have n0_ : Aside0 (Kd.R k32 32 (((w62.setCell ⟨gb247, 0, none⟩ (.int .i64 t243)).setCell ⟨gb247, 1, none⟩ (.int .i64 t244)).setCell ⟨gb247, 2, none⟩ (.string t245)) w.heap.size (fun k_ => some k_ ≠ (v219 : Value).ownBlock ∧ some k_ ≠ (v240 : Value).ownBlock) (.slice Ao60 t213.length co60) t213) := ⟨by (with_reducible repeat (first | apply Kd.R_alloc | apply Kd.R_drewN | apply Kd.R_drew)); exact Kd.R_mono (Kd.R_far (p := ⟨gb247, 2, none⟩) (Kd.R_far (p := ⟨gb247, 1, none⟩) (Kd.R_far (p := ⟨gb247, 0, none⟩) (Kd.R_types HO_9.out BK247.out (by decide)) (fun _ hk => hk.2) (.int .i64 t243)) (fun _ hk => hk.2) (.int .i64 t244)) (fun _ hk => hk.2) (.string t245)) (fun _ hk => ⟨hk.1.1, hk.1.2⟩)⟩
                                        have n1_ : Aside0 (Kd.R k32 32 (((w62.setCell ⟨gb247, 0, none⟩ (.int .i64 t243)).setCell ⟨gb247, 1, none⟩ (.int .i64 t244)).setCell ⟨gb247, 2, none⟩ (.string t245)) w.heap.size (fun k_ => some k_ ≠ (.slice Ao60 t213.length co60 : Value).ownBlock ∧ some k_ ≠ (v240 : Value).ownBlock) v219 t217) := ⟨by (with_reducible repeat (first | apply Kd.R_alloc | apply Kd.R_drewN | apply Kd.R_drew)); exact Kd.R_mono (Kd.R_far (p := ⟨gb247, 2, none⟩) (Kd.R_far (p := ⟨gb247, 1, none⟩) (Kd.R_far (p := ⟨gb247, 0, none⟩) (Kd.R_types HO_11.out BK247.out (by decide)) (fun _ hk => hk.2) (.int .i64 t243)) (fun _ hk => hk.2) (.int .i64 t244)) (fun _ hk => hk.2) (.string t245)) (fun _ hk => ⟨hk.1.1, hk.1.2⟩)⟩
                                        have n2_ : Aside0 (Kd.R k32 32 (((w62.setCell ⟨gb247, 0, none⟩ (.int .i64 t243)).setCell ⟨gb247, 1, none⟩ (.int .i64 t244)).setCell ⟨gb247, 2, none⟩ (.string t245)) w.heap.size (fun k_ => some k_ ≠ (.slice Ao60 t213.length co60 : Value).ownBlock ∧ some k_ ≠ (v219 : Value).ownBlock) v240 t238) := ⟨by (with_reducible repeat (first | apply Kd.R_alloc | apply Kd.R_drewN | apply Kd.R_drew)); exact Kd.R_mono (Kd.R_far (p := ⟨gb247, 2, none⟩) (Kd.R_far (p := ⟨gb247, 1, none⟩) (Kd.R_far (p := ⟨gb247, 0, none⟩) (Kd.R_types HO_13.out BK247.out (by decide)) (fun _ hk => hk.2) (.int .i64 t243)) (fun _ hk => hk.2) (.int .i64 t244)) (fun _ hk => hk.2) (.string t245)) (fun _ hk => ⟨hk.1.1, hk.1.2⟩)⟩
                                        have n3_ : Aside0 ((((w62.setCell ⟨gb247, 0, none⟩ (.int .i64 t243)).setCell ⟨gb247, 1, none⟩ (.int .i64 t244)).setCell ⟨gb247, 2, none⟩ (.string t245)).heap[gb247]? = some (.cells #[.int .i64 t243, .int .i64 t244, .string t245] 30 (0, 0))) := ⟨by (with_reducible repeat (first | refine blk_drewN ?_ _ | refine blk_drew ?_ | refine blk_alloc ?_ _)); refine blk_put (cs := #[.int .i64 t243, .int .i64 t244, .string (⟨#[]⟩ : ByteArray)]) ?_ 2 _ rfl; (with_reducible repeat (first | refine blk_drewN ?_ _ | refine blk_drew ?_ | refine blk_alloc ?_ _)); refine blk_put (cs := #[.int .i64 t243, .int .i64 0, .string (⟨#[]⟩ : ByteArray)]) ?_ 1 _ rfl; (with_reducible repeat (first | refine blk_drewN ?_ _ | refine blk_drew ?_ | refine blk_alloc ?_ _)); refine blk_put (cs := #[.int .i64 0, .int .i64 0, .string (⟨#[]⟩ : ByteArray)]) ?_ 0 _ rfl; (with_reducible repeat (first | refine blk_drewN ?_ _ | refine blk_drew ?_ | refine blk_alloc ?_ _)); exact BK247.out⟩
                                        have n4_ : Aside0 (Below w.heap.size w (((w62.setCell ⟨gb247, 0, none⟩ (.int .i64 t243)).setCell ⟨gb247, 1, none⟩ (.int .i64 t244)).setCell ⟨gb247, 2, none⟩ (.string t245))) := ⟨by repeat (first | (with_reducible first | exact HB.out | apply below_alloc | apply pw_below_drewN | apply below_drew1 | refine below_set ?_ GE247.out) | exact HB.out)⟩
                                        (try clear HO_9)
                                        (try clear HO_11)
                                        (try clear HO_13)
                                        (try clear BK247)
                                        (try clear HB)
                                        generalize (((w62.setCell ⟨gb247, 0, none⟩ (.int .i64 t243)).setCell ⟨gb247, 1, none⟩ (.int .i64 t244)).setCell ⟨gb247, 2, none⟩ (.string t245)) = w64 at n0_ n1_ n2_ n3_ n4_ ⊢
                                        have HO_9 := n0_
                                        have HO_11 := n1_
                                        have HO_13 := n2_
                                        have BK247 := n3_
                                        have HB := n4_
                                        clear n0_ n1_ n2_ n3_ n4_
                                        have n0_ := Aside0.mk (Kd.R_drew HO_9.out)
                                        have n1_ := Aside0.mk (Kd.R_drew HO_11.out)
                                        have n2_ := Aside0.mk (Kd.R_drew HO_13.out)
                                        have n3_ := Aside0.mk (blk_drew BK247.out)
                                        have n4_ := Aside0.mk (below_drew1 HB.out)
                                        clear HO_9
                                        clear HO_11
                                        clear HO_13
                                        clear BK247
                                        clear HB
                                        have HO_9 := n0_
                                        have HO_11 := n1_
                                        have HO_13 := n2_
                                        have BK247 := n3_
                                        have HB := n4_
                                        clear n0_ n1_ n2_ n3_ n4_
                                        refine start_ (n := 11) (S := fun w' => True) (ds := []) #[false, false, false, false, false, false, false, false, false, false, false] (by kernel_rfl) rfl rfl trivial (fun hHeld => ?_); refine with_tabW rosettelaw05_EventOrders.tab21 rosettelaw05_EventOrders.bits21 (fun HT_ HW_ => ?_)
                                        generalize w64.drew = w65 at HO_9 HO_11 HO_13 BK247 HB hHeld ⊢
                                        refine pure_ (i := 0) (N := some 119) (v := ?_) (a' := ?_) #[true, false, false, false, false, false, false, false, false, false, false] rfl rfl (any_of HT_.out (by kernel_rfl)) (fun _ _ _ h => h) (Or.inl ⟨by rfl, ?_⟩) ?_ ?_
                                        rotate_left
                                        · intro w'
                                          go_simp
                                          with_reducible rfl
                                        rotate_left
                                        · simp only [Act.put, List.setIfInBounds_toArray, List.set_cons_zero, List.set_cons_succ, i64_w, i32_w]
                                          rfl
                                        refine pure_ (i := 1) (N := some 120) (v := ?_) (a' := ?_) #[true, true, false, false, false, false, false, false, false, false, false] rfl rfl (any_of HT_.out (by kernel_rfl)) (fun _ _ _ h => h) (Or.inl ⟨by rfl, ?_⟩) ?_ ?_
                                        rotate_left
                                        · intro w'
                                          go_simp
                                          with_reducible rfl
                                        rotate_left
                                        · simp only [Act.put, List.setIfInBounds_toArray, List.set_cons_zero, List.set_cons_succ, i64_w, i32_w]
                                          rfl
                                        refine pure_ (i := 2) (N := some 121) (v := ?_) (a' := ?_) #[true, true, true, false, false, false, false, false, false, false, false] rfl rfl (any_of HT_.out (by kernel_rfl)) (fun _ _ _ h => h) (Or.inl ⟨by rfl, ?_⟩) ?_ ?_
                                        rotate_left
                                        · intro w'
                                          go_simp
                                          with_reducible rfl
                                        rotate_left
                                        · simp only [Act.put, List.setIfInBounds_toArray, List.set_cons_zero, List.set_cons_succ, i64_w, i32_w]
                                          rfl
                                        refine pure_ (i := 3) (N := some 122) (v := undef) (a' := ?_) #[true, true, true, true, false, false, false, false, false, false, false] rfl rfl (any_of HT_.out (by kernel_rfl)) (fun _ _ _ h => h) (Or.inr ⟨by rfl, rfl⟩) ?_ ?_
                                        rotate_left
                                        · simp only [Act.put, List.setIfInBounds_toArray, List.set_cons_zero, List.set_cons_succ, i64_w, i32_w]
                                          rfl
                                        refine pure_ (i := 4) (N := some 123) (v := undef) (a' := ?_) #[true, true, true, true, true, false, false, false, false, false, false] rfl rfl (any_of HT_.out (by kernel_rfl)) (fun _ _ _ h => h) (Or.inr ⟨by rfl, rfl⟩) ?_ ?_
                                        rotate_left
                                        · simp only [Act.put, List.setIfInBounds_toArray, List.set_cons_zero, List.set_cons_succ, i64_w, i32_w]
                                          rfl
                                        refine pure_ (i := 5) (N := some 124) (v := undef) (a' := ?_) #[true, true, true, true, true, true, false, false, false, false, false] rfl rfl (any_of HT_.out (by kernel_rfl)) (fun _ _ _ h => h) (Or.inr ⟨by rfl, rfl⟩) ?_ ?_
                                        rotate_left
                                        · simp only [Act.put, List.setIfInBounds_toArray, List.set_cons_zero, List.set_cons_succ, i64_w, i32_w]
                                          rfl
                                        refine pure_ (i := 6) (N := some 125) (v := undef) (a' := ?_) #[true, true, true, true, true, true, true, false, false, false, false] rfl rfl (any_of HT_.out (by kernel_rfl)) (fun _ _ _ h => h) (Or.inr ⟨by rfl, rfl⟩) ?_ ?_
                                        rotate_left
                                        · simp only [Act.put, List.setIfInBounds_toArray, List.set_cons_zero, List.set_cons_succ, i64_w, i32_w]
                                          rfl
                                        refine pure_ (i := 7) (N := some 126) (v := undef) (a' := ?_) #[true, true, true, true, true, true, true, true, false, false, false] rfl rfl (any_of HT_.out (by kernel_rfl)) (fun _ _ _ h => h) (Or.inr ⟨by rfl, rfl⟩) ?_ ?_
                                        rotate_left
                                        · simp only [Act.put, List.setIfInBounds_toArray, List.set_cons_zero, List.set_cons_succ, i64_w, i32_w]
                                          rfl
                                        refine pure_ (i := 8) (N := some 127) (v := undef) (a' := ?_) #[true, true, true, true, true, true, true, true, true, false, false] rfl rfl (any_of HT_.out (by kernel_rfl)) (fun _ _ _ h => h) (Or.inr ⟨by rfl, rfl⟩) ?_ ?_
                                        rotate_left
                                        · simp only [Act.put, List.setIfInBounds_toArray, List.set_cons_zero, List.set_cons_succ, i64_w, i32_w]
                                          rfl
                                        refine pure_ (i := 9) (N := some 128) (v := undef) (a' := ?_) #[true, true, true, true, true, true, true, true, true, true, false] rfl rfl (any_of HT_.out (by kernel_rfl)) (fun _ _ _ h => h) (Or.inr ⟨by rfl, rfl⟩) ?_ ?_
                                        rotate_left
                                        · simp only [Act.put, List.setIfInBounds_toArray, List.set_cons_zero, List.set_cons_succ, i64_w, i32_w]
                                          rfl
                                        refine pure_ (i := 10) (N := some 129) (v := ?_) (a' := ?_) #[true, true, true, true, true, true, true, true, true, true, true] rfl rfl (any_of HT_.out (by kernel_rfl)) (fun _ _ _ h => h) (Or.inl ⟨by rfl, ?_⟩) ?_ ?_
                                        rotate_left
                                        · intro w'
                                          go_simp
                                          with_reducible rfl
                                        rotate_left
                                        · simp only [Act.put, List.setIfInBounds_toArray, List.set_cons_zero, List.set_cons_succ, i64_w, i32_w]
                                          rfl
                                        refine done_ (done_of HT_.out (by kernel_rfl)) ?_
                                        try go_wp2
                                        go_ret
                                        exact ⟨by first | rfl | (simp [errW_none, errW_some] <;> rfl) | (simp [*, errW_none, errW_some] <;> rfl), by repeat (first | (with_reducible first | exact HB.out | apply below_alloc | apply pw_below_drewN | apply below_drew1 | refine below_set ?_ GE247.out) | exact HB.out)⟩
                                    · rw [if_neg c44] at H
                                      exact absurd H (by simp)
                                  · rw [if_neg c43] at H
                                    have c43b0 : decide (x15_4 < (l0.length : Int)) = false := decide_eq_false c43
                                    clear c43
                                    replace H := Option.bind_eq_some_iff.mp H
                                    obtain ⟨⟨t249, t250⟩, A660, H⟩ := H
                                    replace H : (if t207 = true then ((rosetteref05_Same.f k4 t213 t217).bind fun t253 => (if t253 = true then ((rosetteref05_Same.f k4 t213 t238).bind fun t254 => (if t254 = true then ((rosetteref05_Same.f k4 t213 t249).bind fun t255 => (if t255 = true then (if t250 = 0 then ((event_Right.f t213).bind fun t256 => (if t256 = true then (some ((t213.length : Int) == (l0.length : Int))) else (some false))) else (some false)) else (some false))) else (some false))) else (some false))) else (some false)) = some r := H
                                    have A66 := Aside0.mk A660
                                    clear A660
                                    by_cases c67 : t207 = true
                                    · subst c67
                                      have H1 : ((rosetteref05_Same.f k4 t213 t217).bind fun t253 => (if t253 = true then ((rosetteref05_Same.f k4 t213 t238).bind fun t254 => (if t254 = true then ((rosetteref05_Same.f k4 t213 t249).bind fun t255 => (if t255 = true then (if t250 = 0 then ((event_Right.f t213).bind fun t256 => (if t256 = true then (some ((t213.length : Int) == (l0.length : Int))) else (some false))) else (some false)) else (some false))) else (some false))) else (some false))) = some r := by rw [if_pos rfl] at H; exact H
                                      clear H
                                      have H := H1
                                      clear H1
                                      replace H := Option.bind_eq_some_iff.mp H
                                      obtain ⟨t253, A680, H⟩ := H
                                      replace H : (if t253 = true then ((rosetteref05_Same.f k4 t213 t238).bind fun t254 => (if t254 = true then ((rosetteref05_Same.f k4 t213 t249).bind fun t255 => (if t255 = true then (if t250 = 0 then ((event_Right.f t213).bind fun t256 => (if t256 = true then (some ((t213.length : Int) == (l0.length : Int))) else (some false))) else (some false)) else (some false))) else (some false))) else (some false)) = some r := H
                                      have A68 := Aside0.mk A680
                                      clear A680
                                      by_cases c69 : t253 = true
                                      · subst c69
                                        have H1 : ((rosetteref05_Same.f k4 t213 t238).bind fun t254 => (if t254 = true then ((rosetteref05_Same.f k4 t213 t249).bind fun t255 => (if t255 = true then (if t250 = 0 then ((event_Right.f t213).bind fun t256 => (if t256 = true then (some ((t213.length : Int) == (l0.length : Int))) else (some false))) else (some false)) else (some false))) else (some false))) = some r := by rw [if_pos rfl] at H; exact H
                                        clear H
                                        have H := H1
                                        clear H1
                                        replace H := Option.bind_eq_some_iff.mp H
                                        obtain ⟨t254, A700, H⟩ := H
                                        replace H : (if t254 = true then ((rosetteref05_Same.f k4 t213 t249).bind fun t255 => (if t255 = true then (if t250 = 0 then ((event_Right.f t213).bind fun t256 => (if t256 = true then (some ((t213.length : Int) == (l0.length : Int))) else (some false))) else (some false)) else (some false))) else (some false)) = some r := H
                                        have A70 := Aside0.mk A700
                                        clear A700
                                        by_cases c71 : t254 = true
                                        · subst c71
                                          have H1 : ((rosetteref05_Same.f k4 t213 t249).bind fun t255 => (if t255 = true then (if t250 = 0 then ((event_Right.f t213).bind fun t256 => (if t256 = true then (some ((t213.length : Int) == (l0.length : Int))) else (some false))) else (some false)) else (some false))) = some r := by rw [if_pos rfl] at H; exact H
                                          clear H
                                          have H := H1
                                          clear H1
                                          replace H := Option.bind_eq_some_iff.mp H
                                          obtain ⟨t255, A720, H⟩ := H
                                          replace H : (if t255 = true then (if t250 = 0 then ((event_Right.f t213).bind fun t256 => (if t256 = true then (some ((t213.length : Int) == (l0.length : Int))) else (some false))) else (some false)) else (some false)) = some r := H
                                          have A72 := Aside0.mk A720
                                          clear A720
                                          by_cases c73 : t255 = true
                                          · subst c73
                                            have H1 : (if t250 = 0 then ((event_Right.f t213).bind fun t256 => (if t256 = true then (some ((t213.length : Int) == (l0.length : Int))) else (some false))) else (some false)) = some r := by rw [if_pos rfl] at H; exact H
                                            clear H
                                            have H := H1
                                            clear H1
                                            by_cases c74 : t250 = 0
                                            · rw [if_pos c74] at H
                                              have c74b0 : (t250 == 0) = true := beq_iff_eq.mpr c74
                                              have c74b1 : (t250 != 0) = false := bne_eq_false_iff_eq.mpr c74
                                              clear c74
                                              replace H := Option.bind_eq_some_iff.mp H
                                              obtain ⟨t256, A750, H⟩ := H
                                              replace H : (if t256 = true then (some ((t213.length : Int) == (l0.length : Int))) else (some false)) = some r := H
                                              have A75 := Aside0.mk A750
                                              clear A750
                                              by_cases c76 : t256 = true
                                              · subst c76
                                                have H1 : (some ((t213.length : Int) == (l0.length : Int))) = some r := by rw [if_pos rfl] at H; exact H
                                                clear H
                                                have H := H1
                                                clear H1
                                                obtain rfl := Option.some.inj H
                                                obtain ⟨Ao77, co77, eo77⟩ := Kd.R_slice HO_9.out
                                                subst eo77
                                                go_wp2_with (first | ((with_reducible refine gate_callee (f := 10) rfl ?_); refine goesL_ (some 132) rfl rfl Try.func10 (by kernel_rfl) rfl #[.slice Ao77 t213.length co77] rfl (by (try simp only [List.map_toArray, List.map_cons, List.map_nil]); first | done | rfl | (simp only [List.length_drop, List.length_take]; rfl)) ?_; (with_reducible refine (event_Make.calls _ _ t213 t249 t250 _ ?side1 ?side2 A66.out).mono ?_); (case side1 => repeat (first | exact (Kd.R_reads' HO_9.out).2.2 | (with_reducible refine Kd.C_alloc ?_ _) | (with_reducible refine Kd.C_drewN ?_ _) | (with_reducible refine Kd.C_drew ?_))); (case side2 => exact (Kd.R_reads' HO_9.out).2.1); rintro e w78 ⟨v251, rfl, ho0, hb⟩; refine ⟨_, rfl, ?_⟩; have n0_ := Aside0.mk (Kd.R_elder' (by (with_reducible repeat (first | apply Kd.R_alloc | apply Kd.R_drewN | apply Kd.R_drew)); exact HO_9.out) (Kd.R_base ho0) hb); have n1_ := Aside0.mk (Kd.R_elder' (by (with_reducible repeat (first | apply Kd.R_alloc | apply Kd.R_drewN | apply Kd.R_drew)); exact HO_11.out) (Kd.R_base ho0) hb); have n2_ := Aside0.mk (Kd.R_elder' (by (with_reducible repeat (first | apply Kd.R_alloc | apply Kd.R_drewN | apply Kd.R_drew)); exact HO_13.out) (Kd.R_base ho0) hb); have n3_ := Aside0.mk (Kd.R_lower (Kd.R_new' (Kd.R_new' (Kd.R_new' ho0 (Kd.R_lt (by (with_reducible repeat (first | apply Kd.R_alloc | apply Kd.R_drewN | apply Kd.R_drew)); exact HO_9.out))) (Kd.R_lt (by (with_reducible repeat (first | apply Kd.R_alloc | apply Kd.R_drewN | apply Kd.R_drew)); exact HO_11.out))) (Kd.R_lt (by (with_reducible repeat (first | apply Kd.R_alloc | apply Kd.R_drewN | apply Kd.R_drew)); exact HO_13.out))) (below_size (by repeat (first | (with_reducible first | exact HB.out | apply below_alloc | apply pw_below_drewN | apply below_drew1) | exact HB.out)))); have n4_ := Aside0.mk (below_step (by repeat (first | (with_reducible first | exact HB.out | apply below_alloc | apply pw_below_drewN | apply below_drew1) | exact HB.out)) hb); clear HO_9; clear HO_11; clear HO_13; clear HB; have HO_9 := n0_; have HO_11 := n1_; have HO_13 := n2_; have HO252 := n3_; have HB := n4_; clear n0_ n1_ n2_ n3_ n4_; (try clear hb); (try clear hb2); (try clear hk); (try clear hi); (try clear ho0); obtain ⟨Ao79, co79, eo79⟩ := Kd.R_slice HO_11.out; subst eo79) | (go_at_call 12; (with_reducible refine (rosetteref05_Same.calls k4 _ _ t213 _ _ t217 true _ ?side1 ?side2 ?side3 ?side4 A68.out).mono ?_); (case side1 => repeat (first | exact (Kd.R_reads' HO_9.out).2.2 | (with_reducible refine Kd.C_alloc ?_ _) | (with_reducible refine Kd.C_drewN ?_ _) | (with_reducible refine Kd.C_drew ?_))); (case side2 => exact (Kd.R_reads' HO_9.out).2.1); (case side3 => repeat (first | exact (Kd.R_reads' HO_11.out).2.2 | (with_reducible refine Kd.C_alloc ?_ _) | (with_reducible refine Kd.C_drewN ?_ _) | (with_reducible refine Kd.C_drew ?_))); (case side4 => exact (Kd.R_reads' HO_11.out).2.1); rintro e w' ⟨rfl, ⟨nd, rfl⟩⟩; obtain ⟨Ao80, co80, eo80⟩ := Kd.R_slice HO_13.out; subst eo80) | (go_at_call 12; (with_reducible refine (rosetteref05_Same.calls k4 _ _ t213 _ _ t238 true _ ?side1 ?side2 ?side3 ?side4 A70.out).mono ?_); (case side1 => repeat (first | exact (Kd.R_reads' HO_9.out).2.2 | (with_reducible refine Kd.C_alloc ?_ _) | (with_reducible refine Kd.C_drewN ?_ _) | (with_reducible refine Kd.C_drew ?_))); (case side2 => exact (Kd.R_reads' HO_9.out).2.1); (case side3 => repeat (first | exact (Kd.R_reads' HO_13.out).2.2 | (with_reducible refine Kd.C_alloc ?_ _) | (with_reducible refine Kd.C_drewN ?_ _) | (with_reducible refine Kd.C_drew ?_))); (case side4 => exact (Kd.R_reads' HO_13.out).2.1); rintro e w' ⟨rfl, ⟨nd, rfl⟩⟩; obtain ⟨Ao81, co81, eo81⟩ := Kd.R_slice HO252.out; subst eo81) | (go_at_call 12; (with_reducible refine (rosetteref05_Same.calls k4 _ _ t213 _ _ t249 true _ ?side1 ?side2 ?side3 ?side4 A72.out).mono ?_); (case side1 => repeat (first | exact (Kd.R_reads' HO_9.out).2.2 | (with_reducible refine Kd.C_alloc ?_ _) | (with_reducible refine Kd.C_drewN ?_ _) | (with_reducible refine Kd.C_drew ?_))); (case side2 => exact (Kd.R_reads' HO_9.out).2.1); (case side3 => repeat (first | exact (Kd.R_reads' HO252.out).2.2 | (with_reducible refine Kd.C_alloc ?_ _) | (with_reducible refine Kd.C_drewN ?_ _) | (with_reducible refine Kd.C_drew ?_))); (case side4 => exact (Kd.R_reads' HO252.out).2.1); rintro e w' ⟨rfl, ⟨nd, rfl⟩⟩) | (go_at_call 13; (with_reducible refine (event_Right.calls _ _ t213 true _ ?side1 ?side2 A75.out).mono ?_); (case side1 => repeat (first | exact (Kd.R_reads' HO_9.out).2.2 | (with_reducible refine Kd.C_alloc ?_ _) | (with_reducible refine Kd.C_drewN ?_ _) | (with_reducible refine Kd.C_drew ?_))); (case side2 => exact (Kd.R_reads' HO_9.out).2.1); rintro e w82 ⟨rfl, hb⟩; have n0_ := Aside0.mk (Kd.R_below (by (with_reducible repeat (first | apply Kd.R_alloc | apply Kd.R_drewN | apply Kd.R_drew)); exact HO_9.out) hb); have n1_ := Aside0.mk (Kd.R_below (by (with_reducible repeat (first | apply Kd.R_alloc | apply Kd.R_drewN | apply Kd.R_drew)); exact HO_11.out) hb); have n2_ := Aside0.mk (Kd.R_below (by (with_reducible repeat (first | apply Kd.R_alloc | apply Kd.R_drewN | apply Kd.R_drew)); exact HO_13.out) hb); have n3_ := Aside0.mk (Kd.R_below (by (with_reducible repeat (first | apply Kd.R_alloc | apply Kd.R_drewN | apply Kd.R_drew)); exact HO252.out) hb); have n4_ := Aside0.mk (below_step (by repeat (first | (with_reducible first | exact HB.out | apply below_alloc | apply pw_below_drewN | apply below_drew1) | exact HB.out)) hb); clear HO_9; clear HO_11; clear HO_13; clear HO252; clear HB; have HO_9 := n0_; have HO_11 := n1_; have HO_13 := n2_; have HO252 := n3_; have HB := n4_; clear n0_ n1_ n2_ n3_ n4_; (try clear hb); (try clear hb2); (try clear hk); (try clear hi)))
                                                go_ret
                                                exact ⟨by first | rfl | (simp [errW_none, errW_some] <;> rfl) | (simp [*, errW_none, errW_some] <;> rfl), by repeat (first | (with_reducible first | exact HB.out | apply below_alloc | apply pw_below_drewN | apply below_drew1) | exact HB.out)⟩
                                              · replace c76 := Bool.eq_false_iff.mpr c76
                                                subst c76
                                                have H1 : (some false) = some r := by rw [if_neg (show ¬ (false = true) by decide)] at H; exact H
                                                clear H
                                                have H := H1
                                                clear H1
                                                obtain rfl := Option.some.inj H
                                                obtain ⟨Ao83, co83, eo83⟩ := Kd.R_slice HO_9.out
                                                subst eo83
                                                go_wp2_with (first | ((with_reducible refine gate_callee (f := 10) rfl ?_); refine goesL_ (some 132) rfl rfl Try.func10 (by kernel_rfl) rfl #[.slice Ao83 t213.length co83] rfl (by (try simp only [List.map_toArray, List.map_cons, List.map_nil]); first | done | rfl | (simp only [List.length_drop, List.length_take]; rfl)) ?_; (with_reducible refine (event_Make.calls _ _ t213 t249 t250 _ ?side1 ?side2 A66.out).mono ?_); (case side1 => repeat (first | exact (Kd.R_reads' HO_9.out).2.2 | (with_reducible refine Kd.C_alloc ?_ _) | (with_reducible refine Kd.C_drewN ?_ _) | (with_reducible refine Kd.C_drew ?_))); (case side2 => exact (Kd.R_reads' HO_9.out).2.1); rintro e w84 ⟨v251, rfl, ho0, hb⟩; refine ⟨_, rfl, ?_⟩; have n0_ := Aside0.mk (Kd.R_elder' (by (with_reducible repeat (first | apply Kd.R_alloc | apply Kd.R_drewN | apply Kd.R_drew)); exact HO_9.out) (Kd.R_base ho0) hb); have n1_ := Aside0.mk (Kd.R_elder' (by (with_reducible repeat (first | apply Kd.R_alloc | apply Kd.R_drewN | apply Kd.R_drew)); exact HO_11.out) (Kd.R_base ho0) hb); have n2_ := Aside0.mk (Kd.R_elder' (by (with_reducible repeat (first | apply Kd.R_alloc | apply Kd.R_drewN | apply Kd.R_drew)); exact HO_13.out) (Kd.R_base ho0) hb); have n3_ := Aside0.mk (Kd.R_lower (Kd.R_new' (Kd.R_new' (Kd.R_new' ho0 (Kd.R_lt (by (with_reducible repeat (first | apply Kd.R_alloc | apply Kd.R_drewN | apply Kd.R_drew)); exact HO_9.out))) (Kd.R_lt (by (with_reducible repeat (first | apply Kd.R_alloc | apply Kd.R_drewN | apply Kd.R_drew)); exact HO_11.out))) (Kd.R_lt (by (with_reducible repeat (first | apply Kd.R_alloc | apply Kd.R_drewN | apply Kd.R_drew)); exact HO_13.out))) (below_size (by repeat (first | (with_reducible first | exact HB.out | apply below_alloc | apply pw_below_drewN | apply below_drew1) | exact HB.out)))); have n4_ := Aside0.mk (below_step (by repeat (first | (with_reducible first | exact HB.out | apply below_alloc | apply pw_below_drewN | apply below_drew1) | exact HB.out)) hb); clear HO_9; clear HO_11; clear HO_13; clear HB; have HO_9 := n0_; have HO_11 := n1_; have HO_13 := n2_; have HO252 := n3_; have HB := n4_; clear n0_ n1_ n2_ n3_ n4_; (try clear hb); (try clear hb2); (try clear hk); (try clear hi); (try clear ho0); obtain ⟨Ao85, co85, eo85⟩ := Kd.R_slice HO_11.out; subst eo85) | (go_at_call 12; (with_reducible refine (rosetteref05_Same.calls k4 _ _ t213 _ _ t217 true _ ?side1 ?side2 ?side3 ?side4 A68.out).mono ?_); (case side1 => repeat (first | exact (Kd.R_reads' HO_9.out).2.2 | (with_reducible refine Kd.C_alloc ?_ _) | (with_reducible refine Kd.C_drewN ?_ _) | (with_reducible refine Kd.C_drew ?_))); (case side2 => exact (Kd.R_reads' HO_9.out).2.1); (case side3 => repeat (first | exact (Kd.R_reads' HO_11.out).2.2 | (with_reducible refine Kd.C_alloc ?_ _) | (with_reducible refine Kd.C_drewN ?_ _) | (with_reducible refine Kd.C_drew ?_))); (case side4 => exact (Kd.R_reads' HO_11.out).2.1); rintro e w' ⟨rfl, ⟨nd, rfl⟩⟩; obtain ⟨Ao86, co86, eo86⟩ := Kd.R_slice HO_13.out; subst eo86) | (go_at_call 12; (with_reducible refine (rosetteref05_Same.calls k4 _ _ t213 _ _ t238 true _ ?side1 ?side2 ?side3 ?side4 A70.out).mono ?_); (case side1 => repeat (first | exact (Kd.R_reads' HO_9.out).2.2 | (with_reducible refine Kd.C_alloc ?_ _) | (with_reducible refine Kd.C_drewN ?_ _) | (with_reducible refine Kd.C_drew ?_))); (case side2 => exact (Kd.R_reads' HO_9.out).2.1); (case side3 => repeat (first | exact (Kd.R_reads' HO_13.out).2.2 | (with_reducible refine Kd.C_alloc ?_ _) | (with_reducible refine Kd.C_drewN ?_ _) | (with_reducible refine Kd.C_drew ?_))); (case side4 => exact (Kd.R_reads' HO_13.out).2.1); rintro e w' ⟨rfl, ⟨nd, rfl⟩⟩; obtain ⟨Ao87, co87, eo87⟩ := Kd.R_slice HO252.out; subst eo87) | (go_at_call 12; (with_reducible refine (rosetteref05_Same.calls k4 _ _ t213 _ _ t249 true _ ?side1 ?side2 ?side3 ?side4 A72.out).mono ?_); (case side1 => repeat (first | exact (Kd.R_reads' HO_9.out).2.2 | (with_reducible refine Kd.C_alloc ?_ _) | (with_reducible refine Kd.C_drewN ?_ _) | (with_reducible refine Kd.C_drew ?_))); (case side2 => exact (Kd.R_reads' HO_9.out).2.1); (case side3 => repeat (first | exact (Kd.R_reads' HO252.out).2.2 | (with_reducible refine Kd.C_alloc ?_ _) | (with_reducible refine Kd.C_drewN ?_ _) | (with_reducible refine Kd.C_drew ?_))); (case side4 => exact (Kd.R_reads' HO252.out).2.1); rintro e w' ⟨rfl, ⟨nd, rfl⟩⟩) | (go_at_call 13; (with_reducible refine (event_Right.calls _ _ t213 false _ ?side1 ?side2 A75.out).mono ?_); (case side1 => repeat (first | exact (Kd.R_reads' HO_9.out).2.2 | (with_reducible refine Kd.C_alloc ?_ _) | (with_reducible refine Kd.C_drewN ?_ _) | (with_reducible refine Kd.C_drew ?_))); (case side2 => exact (Kd.R_reads' HO_9.out).2.1); rintro e w88 ⟨rfl, hb⟩; have n0_ := Aside0.mk (Kd.R_below (by (with_reducible repeat (first | apply Kd.R_alloc | apply Kd.R_drewN | apply Kd.R_drew)); exact HO_9.out) hb); have n1_ := Aside0.mk (Kd.R_below (by (with_reducible repeat (first | apply Kd.R_alloc | apply Kd.R_drewN | apply Kd.R_drew)); exact HO_11.out) hb); have n2_ := Aside0.mk (Kd.R_below (by (with_reducible repeat (first | apply Kd.R_alloc | apply Kd.R_drewN | apply Kd.R_drew)); exact HO_13.out) hb); have n3_ := Aside0.mk (Kd.R_below (by (with_reducible repeat (first | apply Kd.R_alloc | apply Kd.R_drewN | apply Kd.R_drew)); exact HO252.out) hb); have n4_ := Aside0.mk (below_step (by repeat (first | (with_reducible first | exact HB.out | apply below_alloc | apply pw_below_drewN | apply below_drew1) | exact HB.out)) hb); clear HO_9; clear HO_11; clear HO_13; clear HO252; clear HB; have HO_9 := n0_; have HO_11 := n1_; have HO_13 := n2_; have HO252 := n3_; have HB := n4_; clear n0_ n1_ n2_ n3_ n4_; (try clear hb); (try clear hb2); (try clear hk); (try clear hi)))
                                                go_ret
                                                exact ⟨by first | rfl | (simp [errW_none, errW_some] <;> rfl) | (simp [*, errW_none, errW_some] <;> rfl), by repeat (first | (with_reducible first | exact HB.out | apply below_alloc | apply pw_below_drewN | apply below_drew1) | exact HB.out)⟩
                                            · rw [if_neg c74] at H
                                              have c74b0 : (t250 == 0) = false := beq_eq_false_iff_ne.mpr c74
                                              have c74b1 : (t250 != 0) = true := bne_iff_ne.mpr c74
                                              obtain rfl := Option.some.inj H
                                              obtain ⟨Ao89, co89, eo89⟩ := Kd.R_slice HO_9.out
                                              subst eo89
                                              go_wp2_with (first | ((with_reducible refine gate_callee (f := 10) rfl ?_); refine goesL_ (some 132) rfl rfl Try.func10 (by kernel_rfl) rfl #[.slice Ao89 t213.length co89] rfl (by (try simp only [List.map_toArray, List.map_cons, List.map_nil]); first | done | rfl | (simp only [List.length_drop, List.length_take]; rfl)) ?_; (with_reducible refine (event_Make.calls _ _ t213 t249 t250 _ ?side1 ?side2 A66.out).mono ?_); (case side1 => repeat (first | exact (Kd.R_reads' HO_9.out).2.2 | (with_reducible refine Kd.C_alloc ?_ _) | (with_reducible refine Kd.C_drewN ?_ _) | (with_reducible refine Kd.C_drew ?_))); (case side2 => exact (Kd.R_reads' HO_9.out).2.1); rintro e w90 ⟨v251, rfl, ho0, hb⟩; refine ⟨_, rfl, ?_⟩; have n0_ := Aside0.mk (Kd.R_elder' (by (with_reducible repeat (first | apply Kd.R_alloc | apply Kd.R_drewN | apply Kd.R_drew)); exact HO_9.out) (Kd.R_base ho0) hb); have n1_ := Aside0.mk (Kd.R_elder' (by (with_reducible repeat (first | apply Kd.R_alloc | apply Kd.R_drewN | apply Kd.R_drew)); exact HO_11.out) (Kd.R_base ho0) hb); have n2_ := Aside0.mk (Kd.R_elder' (by (with_reducible repeat (first | apply Kd.R_alloc | apply Kd.R_drewN | apply Kd.R_drew)); exact HO_13.out) (Kd.R_base ho0) hb); have n3_ := Aside0.mk (Kd.R_lower (Kd.R_new' (Kd.R_new' (Kd.R_new' ho0 (Kd.R_lt (by (with_reducible repeat (first | apply Kd.R_alloc | apply Kd.R_drewN | apply Kd.R_drew)); exact HO_9.out))) (Kd.R_lt (by (with_reducible repeat (first | apply Kd.R_alloc | apply Kd.R_drewN | apply Kd.R_drew)); exact HO_11.out))) (Kd.R_lt (by (with_reducible repeat (first | apply Kd.R_alloc | apply Kd.R_drewN | apply Kd.R_drew)); exact HO_13.out))) (below_size (by repeat (first | (with_reducible first | exact HB.out | apply below_alloc | apply pw_below_drewN | apply below_drew1) | exact HB.out)))); have n4_ := Aside0.mk (below_step (by repeat (first | (with_reducible first | exact HB.out | apply below_alloc | apply pw_below_drewN | apply below_drew1) | exact HB.out)) hb); clear HO_9; clear HO_11; clear HO_13; clear HB; have HO_9 := n0_; have HO_11 := n1_; have HO_13 := n2_; have HO252 := n3_; have HB := n4_; clear n0_ n1_ n2_ n3_ n4_; (try clear hb); (try clear hb2); (try clear hk); (try clear hi); (try clear ho0); obtain ⟨Ao91, co91, eo91⟩ := Kd.R_slice HO_11.out; subst eo91) | (go_at_call 12; (with_reducible refine (rosetteref05_Same.calls k4 _ _ t213 _ _ t217 true _ ?side1 ?side2 ?side3 ?side4 A68.out).mono ?_); (case side1 => repeat (first | exact (Kd.R_reads' HO_9.out).2.2 | (with_reducible refine Kd.C_alloc ?_ _) | (with_reducible refine Kd.C_drewN ?_ _) | (with_reducible refine Kd.C_drew ?_))); (case side2 => exact (Kd.R_reads' HO_9.out).2.1); (case side3 => repeat (first | exact (Kd.R_reads' HO_11.out).2.2 | (with_reducible refine Kd.C_alloc ?_ _) | (with_reducible refine Kd.C_drewN ?_ _) | (with_reducible refine Kd.C_drew ?_))); (case side4 => exact (Kd.R_reads' HO_11.out).2.1); rintro e w' ⟨rfl, ⟨nd, rfl⟩⟩; obtain ⟨Ao92, co92, eo92⟩ := Kd.R_slice HO_13.out; subst eo92) | (go_at_call 12; (with_reducible refine (rosetteref05_Same.calls k4 _ _ t213 _ _ t238 true _ ?side1 ?side2 ?side3 ?side4 A70.out).mono ?_); (case side1 => repeat (first | exact (Kd.R_reads' HO_9.out).2.2 | (with_reducible refine Kd.C_alloc ?_ _) | (with_reducible refine Kd.C_drewN ?_ _) | (with_reducible refine Kd.C_drew ?_))); (case side2 => exact (Kd.R_reads' HO_9.out).2.1); (case side3 => repeat (first | exact (Kd.R_reads' HO_13.out).2.2 | (with_reducible refine Kd.C_alloc ?_ _) | (with_reducible refine Kd.C_drewN ?_ _) | (with_reducible refine Kd.C_drew ?_))); (case side4 => exact (Kd.R_reads' HO_13.out).2.1); rintro e w' ⟨rfl, ⟨nd, rfl⟩⟩; obtain ⟨Ao93, co93, eo93⟩ := Kd.R_slice HO252.out; subst eo93) | (go_at_call 12; (with_reducible refine (rosetteref05_Same.calls k4 _ _ t213 _ _ t249 true _ ?side1 ?side2 ?side3 ?side4 A72.out).mono ?_); (case side1 => repeat (first | exact (Kd.R_reads' HO_9.out).2.2 | (with_reducible refine Kd.C_alloc ?_ _) | (with_reducible refine Kd.C_drewN ?_ _) | (with_reducible refine Kd.C_drew ?_))); (case side2 => exact (Kd.R_reads' HO_9.out).2.1); (case side3 => repeat (first | exact (Kd.R_reads' HO252.out).2.2 | (with_reducible refine Kd.C_alloc ?_ _) | (with_reducible refine Kd.C_drewN ?_ _) | (with_reducible refine Kd.C_drew ?_))); (case side4 => exact (Kd.R_reads' HO252.out).2.1); rintro e w' ⟨rfl, ⟨nd, rfl⟩⟩))
                                              go_ret
                                              exact ⟨by first | rfl | (simp [errW_none, errW_some] <;> rfl) | (simp [*, errW_none, errW_some] <;> rfl), by repeat (first | (with_reducible first | exact HB.out | apply below_alloc | apply pw_below_drewN | apply below_drew1) | exact HB.out)⟩
                                          · replace c73 := Bool.eq_false_iff.mpr c73
                                            subst c73
                                            have H1 : (some false) = some r := by rw [if_neg (show ¬ (false = true) by decide)] at H; exact H
                                            clear H
                                            have H := H1
                                            clear H1
                                            obtain rfl := Option.some.inj H
                                            obtain ⟨Ao94, co94, eo94⟩ := Kd.R_slice HO_9.out
                                            subst eo94
                                            go_wp2_with (first | ((with_reducible refine gate_callee (f := 10) rfl ?_); refine goesL_ (some 132) rfl rfl Try.func10 (by kernel_rfl) rfl #[.slice Ao94 t213.length co94] rfl (by (try simp only [List.map_toArray, List.map_cons, List.map_nil]); first | done | rfl | (simp only [List.length_drop, List.length_take]; rfl)) ?_; (with_reducible refine (event_Make.calls _ _ t213 t249 t250 _ ?side1 ?side2 A66.out).mono ?_); (case side1 => repeat (first | exact (Kd.R_reads' HO_9.out).2.2 | (with_reducible refine Kd.C_alloc ?_ _) | (with_reducible refine Kd.C_drewN ?_ _) | (with_reducible refine Kd.C_drew ?_))); (case side2 => exact (Kd.R_reads' HO_9.out).2.1); rintro e w95 ⟨v251, rfl, ho0, hb⟩; refine ⟨_, rfl, ?_⟩; have n0_ := Aside0.mk (Kd.R_elder' (by (with_reducible repeat (first | apply Kd.R_alloc | apply Kd.R_drewN | apply Kd.R_drew)); exact HO_9.out) (Kd.R_base ho0) hb); have n1_ := Aside0.mk (Kd.R_elder' (by (with_reducible repeat (first | apply Kd.R_alloc | apply Kd.R_drewN | apply Kd.R_drew)); exact HO_11.out) (Kd.R_base ho0) hb); have n2_ := Aside0.mk (Kd.R_elder' (by (with_reducible repeat (first | apply Kd.R_alloc | apply Kd.R_drewN | apply Kd.R_drew)); exact HO_13.out) (Kd.R_base ho0) hb); have n3_ := Aside0.mk (Kd.R_lower (Kd.R_new' (Kd.R_new' (Kd.R_new' ho0 (Kd.R_lt (by (with_reducible repeat (first | apply Kd.R_alloc | apply Kd.R_drewN | apply Kd.R_drew)); exact HO_9.out))) (Kd.R_lt (by (with_reducible repeat (first | apply Kd.R_alloc | apply Kd.R_drewN | apply Kd.R_drew)); exact HO_11.out))) (Kd.R_lt (by (with_reducible repeat (first | apply Kd.R_alloc | apply Kd.R_drewN | apply Kd.R_drew)); exact HO_13.out))) (below_size (by repeat (first | (with_reducible first | exact HB.out | apply below_alloc | apply pw_below_drewN | apply below_drew1) | exact HB.out)))); have n4_ := Aside0.mk (below_step (by repeat (first | (with_reducible first | exact HB.out | apply below_alloc | apply pw_below_drewN | apply below_drew1) | exact HB.out)) hb); clear HO_9; clear HO_11; clear HO_13; clear HB; have HO_9 := n0_; have HO_11 := n1_; have HO_13 := n2_; have HO252 := n3_; have HB := n4_; clear n0_ n1_ n2_ n3_ n4_; (try clear hb); (try clear hb2); (try clear hk); (try clear hi); (try clear ho0); obtain ⟨Ao96, co96, eo96⟩ := Kd.R_slice HO_11.out; subst eo96) | (go_at_call 12; (with_reducible refine (rosetteref05_Same.calls k4 _ _ t213 _ _ t217 true _ ?side1 ?side2 ?side3 ?side4 A68.out).mono ?_); (case side1 => repeat (first | exact (Kd.R_reads' HO_9.out).2.2 | (with_reducible refine Kd.C_alloc ?_ _) | (with_reducible refine Kd.C_drewN ?_ _) | (with_reducible refine Kd.C_drew ?_))); (case side2 => exact (Kd.R_reads' HO_9.out).2.1); (case side3 => repeat (first | exact (Kd.R_reads' HO_11.out).2.2 | (with_reducible refine Kd.C_alloc ?_ _) | (with_reducible refine Kd.C_drewN ?_ _) | (with_reducible refine Kd.C_drew ?_))); (case side4 => exact (Kd.R_reads' HO_11.out).2.1); rintro e w' ⟨rfl, ⟨nd, rfl⟩⟩; obtain ⟨Ao97, co97, eo97⟩ := Kd.R_slice HO_13.out; subst eo97) | (go_at_call 12; (with_reducible refine (rosetteref05_Same.calls k4 _ _ t213 _ _ t238 true _ ?side1 ?side2 ?side3 ?side4 A70.out).mono ?_); (case side1 => repeat (first | exact (Kd.R_reads' HO_9.out).2.2 | (with_reducible refine Kd.C_alloc ?_ _) | (with_reducible refine Kd.C_drewN ?_ _) | (with_reducible refine Kd.C_drew ?_))); (case side2 => exact (Kd.R_reads' HO_9.out).2.1); (case side3 => repeat (first | exact (Kd.R_reads' HO_13.out).2.2 | (with_reducible refine Kd.C_alloc ?_ _) | (with_reducible refine Kd.C_drewN ?_ _) | (with_reducible refine Kd.C_drew ?_))); (case side4 => exact (Kd.R_reads' HO_13.out).2.1); rintro e w' ⟨rfl, ⟨nd, rfl⟩⟩; obtain ⟨Ao98, co98, eo98⟩ := Kd.R_slice HO252.out; subst eo98) | (go_at_call 12; (with_reducible refine (rosetteref05_Same.calls k4 _ _ t213 _ _ t249 false _ ?side1 ?side2 ?side3 ?side4 A72.out).mono ?_); (case side1 => repeat (first | exact (Kd.R_reads' HO_9.out).2.2 | (with_reducible refine Kd.C_alloc ?_ _) | (with_reducible refine Kd.C_drewN ?_ _) | (with_reducible refine Kd.C_drew ?_))); (case side2 => exact (Kd.R_reads' HO_9.out).2.1); (case side3 => repeat (first | exact (Kd.R_reads' HO252.out).2.2 | (with_reducible refine Kd.C_alloc ?_ _) | (with_reducible refine Kd.C_drewN ?_ _) | (with_reducible refine Kd.C_drew ?_))); (case side4 => exact (Kd.R_reads' HO252.out).2.1); rintro e w' ⟨rfl, ⟨nd, rfl⟩⟩))
                                            go_ret
                                            exact ⟨by first | rfl | (simp [errW_none, errW_some] <;> rfl) | (simp [*, errW_none, errW_some] <;> rfl), by repeat (first | (with_reducible first | exact HB.out | apply below_alloc | apply pw_below_drewN | apply below_drew1) | exact HB.out)⟩
                                        · replace c71 := Bool.eq_false_iff.mpr c71
                                          subst c71
                                          have H1 : (some false) = some r := by rw [if_neg (show ¬ (false = true) by decide)] at H; exact H
                                          clear H
                                          have H := H1
                                          clear H1
                                          obtain rfl := Option.some.inj H
                                          obtain ⟨Ao99, co99, eo99⟩ := Kd.R_slice HO_9.out
                                          subst eo99
                                          go_wp2_with (first | ((with_reducible refine gate_callee (f := 10) rfl ?_); refine goesL_ (some 132) rfl rfl Try.func10 (by kernel_rfl) rfl #[.slice Ao99 t213.length co99] rfl (by (try simp only [List.map_toArray, List.map_cons, List.map_nil]); first | done | rfl | (simp only [List.length_drop, List.length_take]; rfl)) ?_; (with_reducible refine (event_Make.calls _ _ t213 t249 t250 _ ?side1 ?side2 A66.out).mono ?_); (case side1 => repeat (first | exact (Kd.R_reads' HO_9.out).2.2 | (with_reducible refine Kd.C_alloc ?_ _) | (with_reducible refine Kd.C_drewN ?_ _) | (with_reducible refine Kd.C_drew ?_))); (case side2 => exact (Kd.R_reads' HO_9.out).2.1); rintro e w100 ⟨v251, rfl, ho0, hb⟩; refine ⟨_, rfl, ?_⟩; have n0_ := Aside0.mk (Kd.R_elder' (by (with_reducible repeat (first | apply Kd.R_alloc | apply Kd.R_drewN | apply Kd.R_drew)); exact HO_9.out) (Kd.R_base ho0) hb); have n1_ := Aside0.mk (Kd.R_elder' (by (with_reducible repeat (first | apply Kd.R_alloc | apply Kd.R_drewN | apply Kd.R_drew)); exact HO_11.out) (Kd.R_base ho0) hb); have n2_ := Aside0.mk (Kd.R_elder' (by (with_reducible repeat (first | apply Kd.R_alloc | apply Kd.R_drewN | apply Kd.R_drew)); exact HO_13.out) (Kd.R_base ho0) hb); have n3_ := Aside0.mk (Kd.R_lower (Kd.R_new' (Kd.R_new' (Kd.R_new' ho0 (Kd.R_lt (by (with_reducible repeat (first | apply Kd.R_alloc | apply Kd.R_drewN | apply Kd.R_drew)); exact HO_9.out))) (Kd.R_lt (by (with_reducible repeat (first | apply Kd.R_alloc | apply Kd.R_drewN | apply Kd.R_drew)); exact HO_11.out))) (Kd.R_lt (by (with_reducible repeat (first | apply Kd.R_alloc | apply Kd.R_drewN | apply Kd.R_drew)); exact HO_13.out))) (below_size (by repeat (first | (with_reducible first | exact HB.out | apply below_alloc | apply pw_below_drewN | apply below_drew1) | exact HB.out)))); have n4_ := Aside0.mk (below_step (by repeat (first | (with_reducible first | exact HB.out | apply below_alloc | apply pw_below_drewN | apply below_drew1) | exact HB.out)) hb); clear HO_9; clear HO_11; clear HO_13; clear HB; have HO_9 := n0_; have HO_11 := n1_; have HO_13 := n2_; have HO252 := n3_; have HB := n4_; clear n0_ n1_ n2_ n3_ n4_; (try clear hb); (try clear hb2); (try clear hk); (try clear hi); (try clear ho0); obtain ⟨Ao101, co101, eo101⟩ := Kd.R_slice HO_11.out; subst eo101) | (go_at_call 12; (with_reducible refine (rosetteref05_Same.calls k4 _ _ t213 _ _ t217 true _ ?side1 ?side2 ?side3 ?side4 A68.out).mono ?_); (case side1 => repeat (first | exact (Kd.R_reads' HO_9.out).2.2 | (with_reducible refine Kd.C_alloc ?_ _) | (with_reducible refine Kd.C_drewN ?_ _) | (with_reducible refine Kd.C_drew ?_))); (case side2 => exact (Kd.R_reads' HO_9.out).2.1); (case side3 => repeat (first | exact (Kd.R_reads' HO_11.out).2.2 | (with_reducible refine Kd.C_alloc ?_ _) | (with_reducible refine Kd.C_drewN ?_ _) | (with_reducible refine Kd.C_drew ?_))); (case side4 => exact (Kd.R_reads' HO_11.out).2.1); rintro e w' ⟨rfl, ⟨nd, rfl⟩⟩; obtain ⟨Ao102, co102, eo102⟩ := Kd.R_slice HO_13.out; subst eo102) | (go_at_call 12; (with_reducible refine (rosetteref05_Same.calls k4 _ _ t213 _ _ t238 false _ ?side1 ?side2 ?side3 ?side4 A70.out).mono ?_); (case side1 => repeat (first | exact (Kd.R_reads' HO_9.out).2.2 | (with_reducible refine Kd.C_alloc ?_ _) | (with_reducible refine Kd.C_drewN ?_ _) | (with_reducible refine Kd.C_drew ?_))); (case side2 => exact (Kd.R_reads' HO_9.out).2.1); (case side3 => repeat (first | exact (Kd.R_reads' HO_13.out).2.2 | (with_reducible refine Kd.C_alloc ?_ _) | (with_reducible refine Kd.C_drewN ?_ _) | (with_reducible refine Kd.C_drew ?_))); (case side4 => exact (Kd.R_reads' HO_13.out).2.1); rintro e w' ⟨rfl, ⟨nd, rfl⟩⟩))
                                          go_ret
                                          exact ⟨by first | rfl | (simp [errW_none, errW_some] <;> rfl) | (simp [*, errW_none, errW_some] <;> rfl), by repeat (first | (with_reducible first | exact HB.out | apply below_alloc | apply pw_below_drewN | apply below_drew1) | exact HB.out)⟩
                                      · replace c69 := Bool.eq_false_iff.mpr c69
                                        subst c69
                                        have H1 : (some false) = some r := by rw [if_neg (show ¬ (false = true) by decide)] at H; exact H
                                        clear H
                                        have H := H1
                                        clear H1
                                        obtain rfl := Option.some.inj H
                                        obtain ⟨Ao103, co103, eo103⟩ := Kd.R_slice HO_9.out
                                        subst eo103
                                        go_wp2_with (first | ((with_reducible refine gate_callee (f := 10) rfl ?_); refine goesL_ (some 132) rfl rfl Try.func10 (by kernel_rfl) rfl #[.slice Ao103 t213.length co103] rfl (by (try simp only [List.map_toArray, List.map_cons, List.map_nil]); first | done | rfl | (simp only [List.length_drop, List.length_take]; rfl)) ?_; (with_reducible refine (event_Make.calls _ _ t213 t249 t250 _ ?side1 ?side2 A66.out).mono ?_); (case side1 => repeat (first | exact (Kd.R_reads' HO_9.out).2.2 | (with_reducible refine Kd.C_alloc ?_ _) | (with_reducible refine Kd.C_drewN ?_ _) | (with_reducible refine Kd.C_drew ?_))); (case side2 => exact (Kd.R_reads' HO_9.out).2.1); rintro e w104 ⟨v251, rfl, ho0, hb⟩; refine ⟨_, rfl, ?_⟩; have n0_ := Aside0.mk (Kd.R_elder' (by (with_reducible repeat (first | apply Kd.R_alloc | apply Kd.R_drewN | apply Kd.R_drew)); exact HO_9.out) (Kd.R_base ho0) hb); have n1_ := Aside0.mk (Kd.R_elder' (by (with_reducible repeat (first | apply Kd.R_alloc | apply Kd.R_drewN | apply Kd.R_drew)); exact HO_11.out) (Kd.R_base ho0) hb); have n2_ := Aside0.mk (Kd.R_elder' (by (with_reducible repeat (first | apply Kd.R_alloc | apply Kd.R_drewN | apply Kd.R_drew)); exact HO_13.out) (Kd.R_base ho0) hb); have n3_ := Aside0.mk (Kd.R_lower (Kd.R_new' (Kd.R_new' (Kd.R_new' ho0 (Kd.R_lt (by (with_reducible repeat (first | apply Kd.R_alloc | apply Kd.R_drewN | apply Kd.R_drew)); exact HO_9.out))) (Kd.R_lt (by (with_reducible repeat (first | apply Kd.R_alloc | apply Kd.R_drewN | apply Kd.R_drew)); exact HO_11.out))) (Kd.R_lt (by (with_reducible repeat (first | apply Kd.R_alloc | apply Kd.R_drewN | apply Kd.R_drew)); exact HO_13.out))) (below_size (by repeat (first | (with_reducible first | exact HB.out | apply below_alloc | apply pw_below_drewN | apply below_drew1) | exact HB.out)))); have n4_ := Aside0.mk (below_step (by repeat (first | (with_reducible first | exact HB.out | apply below_alloc | apply pw_below_drewN | apply below_drew1) | exact HB.out)) hb); clear HO_9; clear HO_11; clear HO_13; clear HB; have HO_9 := n0_; have HO_11 := n1_; have HO_13 := n2_; have HO252 := n3_; have HB := n4_; clear n0_ n1_ n2_ n3_ n4_; (try clear hb); (try clear hb2); (try clear hk); (try clear hi); (try clear ho0); obtain ⟨Ao105, co105, eo105⟩ := Kd.R_slice HO_11.out; subst eo105) | (go_at_call 12; (with_reducible refine (rosetteref05_Same.calls k4 _ _ t213 _ _ t217 false _ ?side1 ?side2 ?side3 ?side4 A68.out).mono ?_); (case side1 => repeat (first | exact (Kd.R_reads' HO_9.out).2.2 | (with_reducible refine Kd.C_alloc ?_ _) | (with_reducible refine Kd.C_drewN ?_ _) | (with_reducible refine Kd.C_drew ?_))); (case side2 => exact (Kd.R_reads' HO_9.out).2.1); (case side3 => repeat (first | exact (Kd.R_reads' HO_11.out).2.2 | (with_reducible refine Kd.C_alloc ?_ _) | (with_reducible refine Kd.C_drewN ?_ _) | (with_reducible refine Kd.C_drew ?_))); (case side4 => exact (Kd.R_reads' HO_11.out).2.1); rintro e w' ⟨rfl, ⟨nd, rfl⟩⟩))
                                        go_ret
                                        exact ⟨by first | rfl | (simp [errW_none, errW_some] <;> rfl) | (simp [*, errW_none, errW_some] <;> rfl), by repeat (first | (with_reducible first | exact HB.out | apply below_alloc | apply pw_below_drewN | apply below_drew1) | exact HB.out)⟩
                                    · replace c67 := Bool.eq_false_iff.mpr c67
                                      subst c67
                                      have H1 : (some false) = some r := by rw [if_neg (show ¬ (false = true) by decide)] at H; exact H
                                      clear H
                                      have H := H1
                                      clear H1
                                      obtain rfl := Option.some.inj H
                                      obtain ⟨Ao106, co106, eo106⟩ := Kd.R_slice HO_9.out
                                      subst eo106
                                      go_wp2_with (first | ((with_reducible refine gate_callee (f := 10) rfl ?_); refine goesL_ (some 132) rfl rfl Try.func10 (by kernel_rfl) rfl #[.slice Ao106 t213.length co106] rfl (by (try simp only [List.map_toArray, List.map_cons, List.map_nil]); first | done | rfl | (simp only [List.length_drop, List.length_take]; rfl)) ?_; (with_reducible refine (event_Make.calls _ _ t213 t249 t250 _ ?side1 ?side2 A66.out).mono ?_); (case side1 => repeat (first | exact (Kd.R_reads' HO_9.out).2.2 | (with_reducible refine Kd.C_alloc ?_ _) | (with_reducible refine Kd.C_drewN ?_ _) | (with_reducible refine Kd.C_drew ?_))); (case side2 => exact (Kd.R_reads' HO_9.out).2.1); rintro e w107 ⟨v251, rfl, ho0, hb⟩; refine ⟨_, rfl, ?_⟩; have n0_ := Aside0.mk (Kd.R_elder' (by (with_reducible repeat (first | apply Kd.R_alloc | apply Kd.R_drewN | apply Kd.R_drew)); exact HO_9.out) (Kd.R_base ho0) hb); have n1_ := Aside0.mk (Kd.R_elder' (by (with_reducible repeat (first | apply Kd.R_alloc | apply Kd.R_drewN | apply Kd.R_drew)); exact HO_11.out) (Kd.R_base ho0) hb); have n2_ := Aside0.mk (Kd.R_elder' (by (with_reducible repeat (first | apply Kd.R_alloc | apply Kd.R_drewN | apply Kd.R_drew)); exact HO_13.out) (Kd.R_base ho0) hb); have n3_ := Aside0.mk (Kd.R_lower (Kd.R_new' (Kd.R_new' (Kd.R_new' ho0 (Kd.R_lt (by (with_reducible repeat (first | apply Kd.R_alloc | apply Kd.R_drewN | apply Kd.R_drew)); exact HO_9.out))) (Kd.R_lt (by (with_reducible repeat (first | apply Kd.R_alloc | apply Kd.R_drewN | apply Kd.R_drew)); exact HO_11.out))) (Kd.R_lt (by (with_reducible repeat (first | apply Kd.R_alloc | apply Kd.R_drewN | apply Kd.R_drew)); exact HO_13.out))) (below_size (by repeat (first | (with_reducible first | exact HB.out | apply below_alloc | apply pw_below_drewN | apply below_drew1) | exact HB.out)))); have n4_ := Aside0.mk (below_step (by repeat (first | (with_reducible first | exact HB.out | apply below_alloc | apply pw_below_drewN | apply below_drew1) | exact HB.out)) hb); clear HO_9; clear HO_11; clear HO_13; clear HB; have HO_9 := n0_; have HO_11 := n1_; have HO_13 := n2_; have HO252 := n3_; have HB := n4_; clear n0_ n1_ n2_ n3_ n4_; (try clear hb); (try clear hb2); (try clear hk); (try clear hi); (try clear ho0)))
                                      go_ret
                                      exact ⟨by first | rfl | (simp [errW_none, errW_some] <;> rfl) | (simp [*, errW_none, errW_some] <;> rfl), by repeat (first | (with_reducible first | exact HB.out | apply below_alloc | apply pw_below_drewN | apply below_drew1) | exact HB.out)⟩
                            · rw [if_neg c42] at H
                              have c42b0 : (t214 == 0) = false := beq_eq_false_iff_ne.mpr c42
                              have c42b1 : (t214 != 0) = true := bne_iff_ne.mpr c42
                              by_cases c108 : t207 = true
                              · subst c108
                                have H1 : (if (t217.length : Int) = 0 then (some ((t238.length : Int) == 0)) else (some false)) = some r := by rw [if_pos rfl] at H; exact H
                                clear H
                                have H := H1
                                clear H1
                                by_cases c109 : (t217.length : Int) = 0
                                · rw [if_pos c109] at H
                                  have c109b0 : ((t217.length : Int) == 0) = true := beq_iff_eq.mpr c109
                                  have c109b1 : ((t217.length : Int) != 0) = false := bne_eq_false_iff_eq.mpr c109
                                  clear c109
                                  obtain rfl := Option.some.inj H
                                  obtain ⟨Ao110, co110, eo110⟩ := Kd.R_slice HO_11.out
                                  subst eo110
                                  obtain ⟨Ao111, co111, eo111⟩ := Kd.R_slice HO_13.out
                                  subst eo111
                                  go_wp2
                                  go_ret
                                  exact ⟨by first | rfl | (simp [errW_none, errW_some] <;> rfl) | (simp [*, errW_none, errW_some] <;> rfl), by repeat (first | (with_reducible first | exact HB.out | apply below_alloc | apply pw_below_drewN | apply below_drew1) | exact HB.out)⟩
                                · rw [if_neg c109] at H
                                  have c109b0 : ((t217.length : Int) == 0) = false := beq_eq_false_iff_ne.mpr c109
                                  have c109b1 : ((t217.length : Int) != 0) = true := bne_iff_ne.mpr c109
                                  have c109b2 : ¬ (t217 = []) := fun h_ => c109 (by rw [h_]; rfl)
                                  obtain rfl := Option.some.inj H
                                  obtain ⟨Ao112, co112, eo112⟩ := Kd.R_slice HO_11.out
                                  subst eo112
                                  go_wp2
                                  go_ret
                                  exact ⟨by first | rfl | (simp [errW_none, errW_some] <;> rfl) | (simp [*, errW_none, errW_some] <;> rfl), by repeat (first | (with_reducible first | exact HB.out | apply below_alloc | apply pw_below_drewN | apply below_drew1) | exact HB.out)⟩
                              · replace c108 := Bool.eq_false_iff.mpr c108
                                subst c108
                                have H1 : (some false) = some r := by rw [if_neg (show ¬ (false = true) by decide)] at H; exact H
                                clear H
                                have H := H1
                                clear H1
                                obtain rfl := Option.some.inj H
                                go_wp2
                                go_ret
                                exact ⟨by first | rfl | (simp [errW_none, errW_some] <;> rfl) | (simp [*, errW_none, errW_some] <;> rfl), by repeat (first | (with_reducible first | exact HB.out | apply below_alloc | apply pw_below_drewN | apply below_drew1) | exact HB.out)⟩
                    · rw [if_neg c22] at H
                      exact absurd H (by simp)
                  · rw [if_neg c19] at H
                    exact absurd H (by simp)
                · rw [if_neg c18] at H
                  exact absurd H (by simp)
              · rw [if_neg c17] at H
                exact absurd H (by simp)

end Go.Proofs.Ytmbpgebboppkmaa.G
end

section
namespace Go.Proofs.Ytmbpgebboppkmaa.G
open Go.RowKit Go.Proofs.Ytmbpgebboppkmaa Go.Proofs.Ytmbpgebboppkmaa.G Go.Proofs.YtmbpgebboppkmaaW.PrintWords Go.Proofs.YtmbpgebboppkmaaW.PrintLast

/-- The pure statement of rosettelaw05_EventOrders. -/
def rosettelaw05_EventOrders.Pure : Prop := ∀ (l0 : (List S32)) (a1 : Int), ((l0.length ≤ maxLen ∧ l0.length * 48 ≤ 140737488351232) ∧ ∀ x0 ∈ l0, (x0.f0.size ≤ 140737488351232 ∧ ((Lit.int .i64 x0.f1.f0).wf = true ∧ ((Lit.int .i64 x0.f1.f1).wf = true ∧ x0.f1.f2.size ≤ 140737488351232)))) → (Lit.int .i64 a1).wf = true → ∃ k, rosettelaw05_EventOrders.f k l0 a1 = some true
end Go.Proofs.Ytmbpgebboppkmaa.G
end

section
/- the common form of what the laws of events ask -/
set_option linter.unusedVariables false
set_option linter.unusedSimpArgs false
set_option autoImplicit false
namespace Go.Proofs.Ytmbpgebboppkmaa
open Go Go.RowKit Go.Proofs.YtmbpgebboppkmaaW.PrintWords Go.Proofs.YtmbpgebboppkmaaW.PrintLast Go.Proofs.YtmbpgebboppkmaaW.PrintMore Go.Proofs.Ytmbpgebboppkmaa.G

def GoodE (e : List S32) : Prop := e.length ≤ 40 ∧ ∀ a ∈ e, a.f0.size ≤ maxLen
instance (e : List S32) : Decidable (GoodE e) := by unfold GoodE; exact inferInstance
def lawF (k : Nat) (e : List S32) (OK : Prop) [Decidable OK] : Option Bool :=
  (rosettelaw05_Few.f k e).bind fun f5 => if f5 = true → GoodE e ∧ OK then some true else none
theorem lawF_open {k : Nat} {e : List S32} {OK : Prop} [Decidable OK] {r : Bool} (h : lawF k e OK = some r) :
    ∃ f5, rosettelaw05_Few.f k e = some f5 ∧ r = true ∧ (f5 = true → GoodE e ∧ OK) := by
  unfold lawF at h
  obtain ⟨f5, h5, h⟩ := Option.bind_eq_some_iff.mp h
  split at h
  · rename_i hc
    exact ⟨f5, h5, (Option.some.inj h).symm, hc⟩
  · cases h
/-- what comes in reads so -/
def GoodA (e : List S32) : Prop := (e.length ≤ maxLen ∧ e.length * 48 ≤ 140737488351232) ∧ ∀ x0 ∈ e, (x0.f0.size ≤ 140737488351232 ∧ ((Lit.int .i64 x0.f1.f0).wf = true ∧ ((Lit.int .i64 x0.f1.f1).wf = true ∧ x0.f1.f2.size ≤ 140737488351232)))
theorem few5_go (e : List S32) (he : e.length ≤ 4611686018427387904) : ∀ (d k i : Nat), i + d = e.length → d < k → ∃ b, rosettelaw05_Few.l0 k e (i : Int) = some b ∧ (b = true → e.length ≤ 40) := by
  intro d
  induction d with
  | zero =>
    intro k i hi hk
    obtain ⟨k, rfl⟩ : ∃ m, k = m + 1 := ⟨k - 1, by omega⟩
    simp only [rosettelaw05_Few.l0]
    rw [if_neg (by omega)]
    exact ⟨_, rfl, fun h => by have := of_decide_eq_true h; omega⟩
  | succ d ih =>
    intro k i hi hk
    obtain ⟨k, rfl⟩ : ∃ m, k = m + 1 := ⟨k - 1, by omega⟩
    simp only [rosettelaw05_Few.l0]
    rw [if_pos (by omega), if_pos (by omega)]
    split
    · exact ⟨_, rfl, fun h => by cases h⟩
    · split
      · exact ⟨_, rfl, fun h => by cases h⟩
      · rw [show wrap64 ((i : Int) + 1) = ((i + 1 : Nat) : Int) by unfold wrap64; omega]
        exact ih k (i + 1) (by omega) (by omega)
/-- from some fuel on -/
def Ev (P : Nat → Prop) : Prop := ∃ K, ∀ k, K ≤ k → P k
theorem Ev.and {P Q : Nat → Prop} (h1 : Ev P) (h2 : Ev Q) : Ev fun k => P k ∧ Q k := by
  obtain ⟨a, h1⟩ := h1
  obtain ⟨b, h2⟩ := h2
  exact ⟨a + b, fun k hk => ⟨h1 k (by omega), h2 k (by omega)⟩⟩
theorem Ev.succ {P Q : Nat → Prop} (h1 : Ev P) (h : ∀ k, P k → Q (k + 1)) : Ev Q := by
  obtain ⟨a, h1⟩ := h1
  refine ⟨a + 1, fun k hk => ?_⟩
  obtain ⟨k, rfl⟩ : ∃ m, k = m + 1 := ⟨k - 1, by omega⟩
  exact h k (h1 k (by omega))
theorem Ev.mono {P Q : Nat → Prop} (h1 : Ev P) (h : ∀ k, P k → Q k) : Ev Q := by
  obtain ⟨a, h1⟩ := h1
  exact ⟨a, fun k hk => h k (h1 k hk)⟩
theorem Ev.now {P : Nat → Prop} (h : ∀ k, P (k + 1)) : Ev P := ⟨1, fun k hk => by
  obtain ⟨k, rfl⟩ : ∃ m, k = m + 1 := ⟨k - 1, by omega⟩
  exact h k⟩
theorem good_of {e : List S32} (h : GoodA e) (h40 : e.length ≤ 40) : GoodE e := ⟨h40, fun a ha => by have := (h.2 a ha).1; simp only [maxLen]; omega⟩
/-- a law of the common form holds, if what it says does from some fuel on -/
theorem lawF_some {e : List S32} (he : GoodA e) (OK : Nat → Prop) (D : ∀ k, Decidable (OK k)) (h : e.length ≤ 40 → Ev OK) : ∃ k, @lawF k e (OK k) (D k) = some true := by
  by_cases h40 : e.length ≤ 40
  · obtain ⟨K, hK⟩ := h h40
    obtain ⟨b, hb, _⟩ := few5_go e (by have := he.1.2; omega) e.length (e.length + 1 + K) 0 (by omega) (by omega)
    refine ⟨e.length + 1 + K, ?_⟩
    have hb' : rosettelaw05_Few.f (e.length + 1 + K) e = some b := hb
    unfold lawF
    rw [hb', Option.bind_some]
    exact if_pos fun _ => ⟨good_of he h40, hK _ (by omega)⟩
  · obtain ⟨b, hb, hb2⟩ := few5_go e (by have := he.1.2; omega) e.length (e.length + 1) 0 (by omega) (by omega)
    refine ⟨e.length + 1, ?_⟩
    have hb' : rosettelaw05_Few.f (e.length + 1) e = some b := hb
    unfold lawF
    rw [hb', Option.bind_some]
    exact if_pos fun h => absurd (hb2 h) h40
end Go.Proofs.Ytmbpgebboppkmaa
end

section
-- Written by a program of this session (wip/tools/myprint.py), over the kit's print.
namespace Go.Proofs.Ytmbpgebboppkmaa.G
open Go.RowKit Go.Proofs.YtmbpgebboppkmaaW.PrintWords Go.Proofs.YtmbpgebboppkmaaW.PrintLast Go.Proofs.YtmbpgebboppkmaaW.PrintMore
attribute [local go_sem] max2_int min2_int max_two min_two max_three min_three max_four min_four   -- for this text's walks alone
set_option linter.unusedVariables false
set_option linter.unusedSimpArgs false

/-! ### rosetteref04_Right: function 33 -/
def rosetteref04_Right.f (a0_0 : Int) (a0_1 : Int) (a0_2 : ByteArray) : Option (Bool) := if a0_0 = 1 then (some (a0_2.toList == ([] : List UInt8))) else (if a0_0 = 2 then (if a0_1 = 0 then (some (decide ((a0_2.size : Int) ≤ 64))) else (some false)) else (if a0_0 = 3 then (if a0_2.toList = ([] : List UInt8) then (if a0_1 ≥ 0 then (some (decide (a0_1 ≤ 1))) else (some false)) else (some false)) else (some false)))
set_option maxHeartbeats 8000000 in
set_option maxRecDepth 100000 in
theorem rosetteref04_Right.calls (a0_0 : Int) (a0_1 : Int) (a0_2 : ByteArray) (r : Bool) (w : World) (h : rosetteref04_Right.f a0_0 a0_1 a0_2 = some r) :
    Calls Try.prog 33 #[.agg #[.int .i64 a0_0, .int .i64 a0_1, .string a0_2]] w fun e w' => e = .returned (.bool r) ∧ Below w.heap.size w w' := by
  have hu30 := Try.underlying30
  have HB := Aside0.mk (Below.refl w.heap.size w)
  have H : (if a0_0 = 1 then (some (a0_2.toList == ([] : List UInt8))) else (if a0_0 = 2 then (if a0_1 = 0 then (some (decide ((a0_2.size : Int) ≤ 64))) else (some false)) else (if a0_0 = 3 then (if a0_2.toList = ([] : List UInt8) then (if a0_1 ≥ 0 then (some (decide (a0_1 ≤ 1))) else (some false)) else (some false)) else (some false)))) = some r := h
  clear h
  by_cases c2 : a0_0 = 1
  · rw [if_pos c2] at H
    have c2b0 : (a0_0 == 1) = true := beq_iff_eq.mpr c2
    have c2b1 : (a0_0 != 1) = false := bne_eq_false_iff_eq.mpr c2
    clear c2
    obtain rfl := Option.some.inj H
    go_enter Try.func33, Try.ntmps33
    go_wp2_with (first | ((with_reducible refine gate_dst (N := 1) rfl ?_); (try (refine gate_guard (by rfl) ?_; dsimp only)); refine box_event ?hg (N := 1) ?hd (cs := #[.int .i64 a0_0, .int .i64 a0_1, .string a0_2]) (t := 30) ?hr ?_; (case hd => rfl); (case hg => rfl); (case hr => first | (go_simp; done) | (go_simp; rfl)); intro gb113 hg w3 hbox hb; have n0_ := Aside0.mk (below_step (by repeat (first | (with_reducible first | exact HB.out | apply below_alloc | apply pw_below_drewN | apply below_drew1) | exact HB.out)) hb); have n1_ := Aside0.mk (hbox); have n2_ := Aside0.mk ((by rw [hg]; exact (below_size (by repeat (first | (with_reducible first | exact HB.out | apply below_alloc | apply pw_below_drewN | apply below_drew1) | exact HB.out))) : w.heap.size ≤ gb113)); have n3_ := Aside0.mk ((by rw [hg]; exact (below_size (by repeat (first | (with_reducible first | exact HB.out | apply below_alloc | apply pw_below_drewN | apply below_drew1) | exact HB.out))) : w.heap.size ≤ gb113)); clear HB; have HB := n0_; have BK113 := n1_; have GW113 := n2_; have GE113 := n3_; clear n0_ n1_ n2_ n3_; clear hb hbox hg; have hcz4_0 : w3.cell? ⟨gb113, 0, none⟩ = some (.int .i64 a0_0) := (blk_cell BK113.out 0).trans rfl; have hcz4_1 : w3.cell? ⟨gb113, 1, none⟩ = some (.int .i64 a0_1) := (blk_cell BK113.out 1).trans rfl; have hcz4_2 : w3.cell? ⟨gb113, 2, none⟩ = some (.string a0_2) := (blk_cell BK113.out 2).trans rfl; have hfz4_0 := blk_frozen BK113.out 0; have hfz4_1 := blk_frozen BK113.out 1; have hfz4_2 := blk_frozen BK113.out 2))
    go_ret
    exact ⟨by first | rfl | (simp [errW_none, errW_some] <;> rfl) | (simp [*, errW_none, errW_some] <;> rfl), by repeat (first | (with_reducible first | exact HB.out | apply below_alloc | apply pw_below_drewN | apply below_drew1 | refine below_set ?_ GE113.out) | exact HB.out)⟩
  · rw [if_neg c2] at H
    have c2b0 : (a0_0 == 1) = false := beq_eq_false_iff_ne.mpr c2
    have c2b1 : (a0_0 != 1) = true := bne_iff_ne.mpr c2
    by_cases c5 : a0_0 = 2
    · rw [if_pos c5] at H
      have c5b0 : (a0_0 == 2) = true := beq_iff_eq.mpr c5
      have c5b1 : (a0_0 != 2) = false := bne_eq_false_iff_eq.mpr c5
      clear c5
      by_cases c6 : a0_1 = 0
      · rw [if_pos c6] at H
        have c6b0 : (a0_1 == 0) = true := beq_iff_eq.mpr c6
        have c6b1 : (a0_1 != 0) = false := bne_eq_false_iff_eq.mpr c6
        clear c6
        obtain rfl := Option.some.inj H
        go_enter Try.func33, Try.ntmps33
        go_wp2_with (first | ((with_reducible refine gate_dst (N := 1) rfl ?_); (try (refine gate_guard (by rfl) ?_; dsimp only)); refine box_event ?hg (N := 1) ?hd (cs := #[.int .i64 a0_0, .int .i64 a0_1, .string a0_2]) (t := 30) ?hr ?_; (case hd => rfl); (case hg => rfl); (case hr => first | (go_simp; done) | (go_simp; rfl)); intro gb113 hg w7 hbox hb; have n0_ := Aside0.mk (below_step (by repeat (first | (with_reducible first | exact HB.out | apply below_alloc | apply pw_below_drewN | apply below_drew1) | exact HB.out)) hb); have n1_ := Aside0.mk (hbox); have n2_ := Aside0.mk ((by rw [hg]; exact (below_size (by repeat (first | (with_reducible first | exact HB.out | apply below_alloc | apply pw_below_drewN | apply below_drew1) | exact HB.out))) : w.heap.size ≤ gb113)); have n3_ := Aside0.mk ((by rw [hg]; exact (below_size (by repeat (first | (with_reducible first | exact HB.out | apply below_alloc | apply pw_below_drewN | apply below_drew1) | exact HB.out))) : w.heap.size ≤ gb113)); clear HB; have HB := n0_; have BK113 := n1_; have GW113 := n2_; have GE113 := n3_; clear n0_ n1_ n2_ n3_; clear hb hbox hg; have hcz8_0 : w7.cell? ⟨gb113, 0, none⟩ = some (.int .i64 a0_0) := (blk_cell BK113.out 0).trans rfl; have hcz8_1 : w7.cell? ⟨gb113, 1, none⟩ = some (.int .i64 a0_1) := (blk_cell BK113.out 1).trans rfl; have hcz8_2 : w7.cell? ⟨gb113, 2, none⟩ = some (.string a0_2) := (blk_cell BK113.out 2).trans rfl; have hfz8_0 := blk_frozen BK113.out 0; have hfz8_1 := blk_frozen BK113.out 1; have hfz8_2 := blk_frozen BK113.out 2))
        go_ret
        exact ⟨by first | rfl | (simp [errW_none, errW_some] <;> rfl) | (simp [*, errW_none, errW_some] <;> rfl), by repeat (first | (with_reducible first | exact HB.out | apply below_alloc | apply pw_below_drewN | apply below_drew1 | refine below_set ?_ GE113.out) | exact HB.out)⟩
      · rw [if_neg c6] at H
        have c6b0 : (a0_1 == 0) = false := beq_eq_false_iff_ne.mpr c6
        have c6b1 : (a0_1 != 0) = true := bne_iff_ne.mpr c6
        obtain rfl := Option.some.inj H
        go_enter Try.func33, Try.ntmps33
        go_wp2_with (first | ((with_reducible refine gate_dst (N := 1) rfl ?_); (try (refine gate_guard (by rfl) ?_; dsimp only)); refine box_event ?hg (N := 1) ?hd (cs := #[.int .i64 a0_0, .int .i64 a0_1, .string a0_2]) (t := 30) ?hr ?_; (case hd => rfl); (case hg => rfl); (case hr => first | (go_simp; done) | (go_simp; rfl)); intro gb113 hg w9 hbox hb; have n0_ := Aside0.mk (below_step (by repeat (first | (with_reducible first | exact HB.out | apply below_alloc | apply pw_below_drewN | apply below_drew1) | exact HB.out)) hb); have n1_ := Aside0.mk (hbox); have n2_ := Aside0.mk ((by rw [hg]; exact (below_size (by repeat (first | (with_reducible first | exact HB.out | apply below_alloc | apply pw_below_drewN | apply below_drew1) | exact HB.out))) : w.heap.size ≤ gb113)); have n3_ := Aside0.mk ((by rw [hg]; exact (below_size (by repeat (first | (with_reducible first | exact HB.out | apply below_alloc | apply pw_below_drewN | apply below_drew1) | exact HB.out))) : w.heap.size ≤ gb113)); clear HB; have HB := n0_; have BK113 := n1_; have GW113 := n2_; have GE113 := n3_; clear n0_ n1_ n2_ n3_; clear hb hbox hg; have hcz10_0 : w9.cell? ⟨gb113, 0, none⟩ = some (.int .i64 a0_0) := (blk_cell BK113.out 0).trans rfl; have hcz10_1 : w9.cell? ⟨gb113, 1, none⟩ = some (.int .i64 a0_1) := (blk_cell BK113.out 1).trans rfl; have hcz10_2 : w9.cell? ⟨gb113, 2, none⟩ = some (.string a0_2) := (blk_cell BK113.out 2).trans rfl; have hfz10_0 := blk_frozen BK113.out 0; have hfz10_1 := blk_frozen BK113.out 1; have hfz10_2 := blk_frozen BK113.out 2))
        go_ret
        exact ⟨by first | rfl | (simp [errW_none, errW_some] <;> rfl) | (simp [*, errW_none, errW_some] <;> rfl), by repeat (first | (with_reducible first | exact HB.out | apply below_alloc | apply pw_below_drewN | apply below_drew1 | refine below_set ?_ GE113.out) | exact HB.out)⟩
    · rw [if_neg c5] at H
      have c5b0 : (a0_0 == 2) = false := beq_eq_false_iff_ne.mpr c5
      have c5b1 : (a0_0 != 2) = true := bne_iff_ne.mpr c5
      by_cases c11 : a0_0 = 3
      · rw [if_pos c11] at H
        have c11b0 : (a0_0 == 3) = true := beq_iff_eq.mpr c11
        have c11b1 : (a0_0 != 3) = false := bne_eq_false_iff_eq.mpr c11
        clear c11
        by_cases c12 : a0_2.toList = ([] : List UInt8)
        · rw [if_pos c12] at H
          have c12b0 : (a0_2.toList == ([] : List UInt8)) = true := beq_iff_eq.mpr c12
          have c12b1 : (a0_2.toList != ([] : List UInt8)) = false := bne_eq_false_iff_eq.mpr c12
          clear c12
          by_cases c13 : a0_1 ≥ 0
          · rw [if_pos c13] at H
            have c13b0 : decide (0 ≤ a0_1) = true := decide_eq_true c13
            clear c13
            obtain rfl := Option.some.inj H
            go_enter Try.func33, Try.ntmps33
            go_wp2_with (first | ((with_reducible refine gate_dst (N := 1) rfl ?_); (try (refine gate_guard (by rfl) ?_; dsimp only)); refine box_event ?hg (N := 1) ?hd (cs := #[.int .i64 a0_0, .int .i64 a0_1, .string a0_2]) (t := 30) ?hr ?_; (case hd => rfl); (case hg => rfl); (case hr => first | (go_simp; done) | (go_simp; rfl)); intro gb113 hg w14 hbox hb; have n0_ := Aside0.mk (below_step (by repeat (first | (with_reducible first | exact HB.out | apply below_alloc | apply pw_below_drewN | apply below_drew1) | exact HB.out)) hb); have n1_ := Aside0.mk (hbox); have n2_ := Aside0.mk ((by rw [hg]; exact (below_size (by repeat (first | (with_reducible first | exact HB.out | apply below_alloc | apply pw_below_drewN | apply below_drew1) | exact HB.out))) : w.heap.size ≤ gb113)); have n3_ := Aside0.mk ((by rw [hg]; exact (below_size (by repeat (first | (with_reducible first | exact HB.out | apply below_alloc | apply pw_below_drewN | apply below_drew1) | exact HB.out))) : w.heap.size ≤ gb113)); clear HB; have HB := n0_; have BK113 := n1_; have GW113 := n2_; have GE113 := n3_; clear n0_ n1_ n2_ n3_; clear hb hbox hg; have hcz15_0 : w14.cell? ⟨gb113, 0, none⟩ = some (.int .i64 a0_0) := (blk_cell BK113.out 0).trans rfl; have hcz15_1 : w14.cell? ⟨gb113, 1, none⟩ = some (.int .i64 a0_1) := (blk_cell BK113.out 1).trans rfl; have hcz15_2 : w14.cell? ⟨gb113, 2, none⟩ = some (.string a0_2) := (blk_cell BK113.out 2).trans rfl; have hfz15_0 := blk_frozen BK113.out 0; have hfz15_1 := blk_frozen BK113.out 1; have hfz15_2 := blk_frozen BK113.out 2))
            go_ret
            exact ⟨by first | rfl | (simp [errW_none, errW_some] <;> rfl) | (simp [*, errW_none, errW_some] <;> rfl), by repeat (first | (with_reducible first | exact HB.out | apply below_alloc | apply pw_below_drewN | apply below_drew1 | refine below_set ?_ GE113.out) | exact HB.out)⟩
          · rw [if_neg c13] at H
            have c13b0 : decide (0 ≤ a0_1) = false := decide_eq_false c13
            clear c13
            obtain rfl := Option.some.inj H
            go_enter Try.func33, Try.ntmps33
            go_wp2_with (first | ((with_reducible refine gate_dst (N := 1) rfl ?_); (try (refine gate_guard (by rfl) ?_; dsimp only)); refine box_event ?hg (N := 1) ?hd (cs := #[.int .i64 a0_0, .int .i64 a0_1, .string a0_2]) (t := 30) ?hr ?_; (case hd => rfl); (case hg => rfl); (case hr => first | (go_simp; done) | (go_simp; rfl)); intro gb113 hg w16 hbox hb; have n0_ := Aside0.mk (below_step (by repeat (first | (with_reducible first | exact HB.out | apply below_alloc | apply pw_below_drewN | apply below_drew1) | exact HB.out)) hb); have n1_ := Aside0.mk (hbox); have n2_ := Aside0.mk ((by rw [hg]; exact (below_size (by repeat (first | (with_reducible first | exact HB.out | apply below_alloc | apply pw_below_drewN | apply below_drew1) | exact HB.out))) : w.heap.size ≤ gb113)); have n3_ := Aside0.mk ((by rw [hg]; exact (below_size (by repeat (first | (with_reducible first | exact HB.out | apply below_alloc | apply pw_below_drewN | apply below_drew1) | exact HB.out))) : w.heap.size ≤ gb113)); clear HB; have HB := n0_; have BK113 := n1_; have GW113 := n2_; have GE113 := n3_; clear n0_ n1_ n2_ n3_; clear hb hbox hg; have hcz17_0 : w16.cell? ⟨gb113, 0, none⟩ = some (.int .i64 a0_0) := (blk_cell BK113.out 0).trans rfl; have hcz17_1 : w16.cell? ⟨gb113, 1, none⟩ = some (.int .i64 a0_1) := (blk_cell BK113.out 1).trans rfl; have hcz17_2 : w16.cell? ⟨gb113, 2, none⟩ = some (.string a0_2) := (blk_cell BK113.out 2).trans rfl; have hfz17_0 := blk_frozen BK113.out 0; have hfz17_1 := blk_frozen BK113.out 1; have hfz17_2 := blk_frozen BK113.out 2))
            go_ret
            exact ⟨by first | rfl | (simp [errW_none, errW_some] <;> rfl) | (simp [*, errW_none, errW_some] <;> rfl), by repeat (first | (with_reducible first | exact HB.out | apply below_alloc | apply pw_below_drewN | apply below_drew1 | refine below_set ?_ GE113.out) | exact HB.out)⟩
        · rw [if_neg c12] at H
          have c12b0 : (a0_2.toList == ([] : List UInt8)) = false := beq_eq_false_iff_ne.mpr c12
          have c12b1 : (a0_2.toList != ([] : List UInt8)) = true := bne_iff_ne.mpr c12
          obtain rfl := Option.some.inj H
          go_enter Try.func33, Try.ntmps33
          go_wp2_with (first | ((with_reducible refine gate_dst (N := 1) rfl ?_); (try (refine gate_guard (by rfl) ?_; dsimp only)); refine box_event ?hg (N := 1) ?hd (cs := #[.int .i64 a0_0, .int .i64 a0_1, .string a0_2]) (t := 30) ?hr ?_; (case hd => rfl); (case hg => rfl); (case hr => first | (go_simp; done) | (go_simp; rfl)); intro gb113 hg w18 hbox hb; have n0_ := Aside0.mk (below_step (by repeat (first | (with_reducible first | exact HB.out | apply below_alloc | apply pw_below_drewN | apply below_drew1) | exact HB.out)) hb); have n1_ := Aside0.mk (hbox); have n2_ := Aside0.mk ((by rw [hg]; exact (below_size (by repeat (first | (with_reducible first | exact HB.out | apply below_alloc | apply pw_below_drewN | apply below_drew1) | exact HB.out))) : w.heap.size ≤ gb113)); have n3_ := Aside0.mk ((by rw [hg]; exact (below_size (by repeat (first | (with_reducible first | exact HB.out | apply below_alloc | apply pw_below_drewN | apply below_drew1) | exact HB.out))) : w.heap.size ≤ gb113)); clear HB; have HB := n0_; have BK113 := n1_; have GW113 := n2_; have GE113 := n3_; clear n0_ n1_ n2_ n3_; clear hb hbox hg; have hcz19_0 : w18.cell? ⟨gb113, 0, none⟩ = some (.int .i64 a0_0) := (blk_cell BK113.out 0).trans rfl; have hcz19_1 : w18.cell? ⟨gb113, 1, none⟩ = some (.int .i64 a0_1) := (blk_cell BK113.out 1).trans rfl; have hcz19_2 : w18.cell? ⟨gb113, 2, none⟩ = some (.string a0_2) := (blk_cell BK113.out 2).trans rfl; have hfz19_0 := blk_frozen BK113.out 0; have hfz19_1 := blk_frozen BK113.out 1; have hfz19_2 := blk_frozen BK113.out 2))
          go_ret
          exact ⟨by first | rfl | (simp [errW_none, errW_some] <;> rfl) | (simp [*, errW_none, errW_some] <;> rfl), by repeat (first | (with_reducible first | exact HB.out | apply below_alloc | apply pw_below_drewN | apply below_drew1 | refine below_set ?_ GE113.out) | exact HB.out)⟩
      · rw [if_neg c11] at H
        have c11b0 : (a0_0 == 3) = false := beq_eq_false_iff_ne.mpr c11
        have c11b1 : (a0_0 != 3) = true := bne_iff_ne.mpr c11
        obtain rfl := Option.some.inj H
        go_enter Try.func33, Try.ntmps33
        go_wp2_with (first | ((with_reducible refine gate_dst (N := 1) rfl ?_); (try (refine gate_guard (by rfl) ?_; dsimp only)); refine box_event ?hg (N := 1) ?hd (cs := #[.int .i64 a0_0, .int .i64 a0_1, .string a0_2]) (t := 30) ?hr ?_; (case hd => rfl); (case hg => rfl); (case hr => first | (go_simp; done) | (go_simp; rfl)); intro gb113 hg w20 hbox hb; have n0_ := Aside0.mk (below_step (by repeat (first | (with_reducible first | exact HB.out | apply below_alloc | apply pw_below_drewN | apply below_drew1) | exact HB.out)) hb); have n1_ := Aside0.mk (hbox); have n2_ := Aside0.mk ((by rw [hg]; exact (below_size (by repeat (first | (with_reducible first | exact HB.out | apply below_alloc | apply pw_below_drewN | apply below_drew1) | exact HB.out))) : w.heap.size ≤ gb113)); have n3_ := Aside0.mk ((by rw [hg]; exact (below_size (by repeat (first | (with_reducible first | exact HB.out | apply below_alloc | apply pw_below_drewN | apply below_drew1) | exact HB.out))) : w.heap.size ≤ gb113)); clear HB; have HB := n0_; have BK113 := n1_; have GW113 := n2_; have GE113 := n3_; clear n0_ n1_ n2_ n3_; clear hb hbox hg; have hcz21_0 : w20.cell? ⟨gb113, 0, none⟩ = some (.int .i64 a0_0) := (blk_cell BK113.out 0).trans rfl; have hcz21_1 : w20.cell? ⟨gb113, 1, none⟩ = some (.int .i64 a0_1) := (blk_cell BK113.out 1).trans rfl; have hcz21_2 : w20.cell? ⟨gb113, 2, none⟩ = some (.string a0_2) := (blk_cell BK113.out 2).trans rfl; have hfz21_0 := blk_frozen BK113.out 0; have hfz21_1 := blk_frozen BK113.out 1; have hfz21_2 := blk_frozen BK113.out 2))
        go_ret
        exact ⟨by first | rfl | (simp [errW_none, errW_some] <;> rfl) | (simp [*, errW_none, errW_some] <;> rfl), by repeat (first | (with_reducible first | exact HB.out | apply below_alloc | apply pw_below_drewN | apply below_drew1 | refine below_set ?_ GE113.out) | exact HB.out)⟩

end Go.Proofs.Ytmbpgebboppkmaa.G
end

section
-- Written by a program of this session (wip/tools/myprint.py), over the kit's print.
namespace Go.Proofs.Ytmbpgebboppkmaa.G
open Go.RowKit Go.Proofs.YtmbpgebboppkmaaW.PrintWords Go.Proofs.YtmbpgebboppkmaaW.PrintLast Go.Proofs.YtmbpgebboppkmaaW.PrintMore
attribute [local go_sem] max2_int min2_int max_two min_two max_three min_three max_four min_four   -- for this text's walks alone
set_option linter.unusedVariables false
set_option linter.unusedSimpArgs false

/-! ### rosetteref05_one: function 24 -/
def rosetteref05_one.f (a0_0 : ByteArray) (a0_1 : Int) (a0_2 : Int) (a0_3 : ByteArray) : Option (Bool) := (rosetteref04_Right.f a0_1 a0_2 a0_3).bind fun t115 => (if t115 = true then (if (a0_0.size : Int) ≥ 1 then (some (decide ((a0_0.size : Int) ≤ 16))) else (some false)) else (some false))
set_option maxHeartbeats 8000000 in
set_option maxRecDepth 100000 in
theorem rosetteref05_one.calls (a0_0 : ByteArray) (a0_1 : Int) (a0_2 : Int) (a0_3 : ByteArray) (r : Bool) (w : World) (h : rosetteref05_one.f a0_0 a0_1 a0_2 a0_3 = some r) :
    Calls Try.prog 24 #[.agg #[.string a0_0, .int .i64 a0_1, .int .i64 a0_2, .string a0_3]] w fun e w' => e = .returned (.bool r) ∧ Below w.heap.size w w' := by
  have hu32 := Try.underlying32
  have hu30 := Try.underlying30
  have HB := Aside0.mk (Below.refl w.heap.size w)
  have H : ((rosetteref04_Right.f a0_1 a0_2 a0_3).bind fun t115 => (if t115 = true then (if (a0_0.size : Int) ≥ 1 then (some (decide ((a0_0.size : Int) ≤ 16))) else (some false)) else (some false))) = some r := h
  clear h
  replace H := Option.bind_eq_some_iff.mp H
  obtain ⟨t115, A20, H⟩ := H
  replace H : (if t115 = true then (if (a0_0.size : Int) ≥ 1 then (some (decide ((a0_0.size : Int) ≤ 16))) else (some false)) else (some false)) = some r := H
  have A2 := Aside0.mk A20
  clear A20
  by_cases c3 : t115 = true
  · subst c3
    have H1 : (if (a0_0.size : Int) ≥ 1 then (some (decide ((a0_0.size : Int) ≤ 16))) else (some false)) = some r := by rw [if_pos rfl] at H; exact H
    clear H
    have H := H1
    clear H1
    by_cases c4 : (a0_0.size : Int) ≥ 1
    · rw [if_pos c4] at H
      have c4b0 : decide (1 ≤ (a0_0.size : Int)) = true := decide_eq_true c4
      have c4b1 : decide (1 ≤ a0_0.size) = true := decide_eq_true (by omega)
      clear c4
      obtain rfl := Option.some.inj H
      go_enter Try.func24, Try.ntmps24
      go_wp2_with (first | ((with_reducible refine gate_dst (N := 1) rfl ?_); (try (refine gate_guard (by rfl) ?_; dsimp only)); refine box_event ?hg (N := 1) ?hd (cs := #[.string a0_0, .int .i64 a0_1, .int .i64 a0_2, .string a0_3]) (t := 32) ?hr ?_; (case hd => rfl); (case hg => rfl); (case hr => first | (go_simp; done) | (go_simp; rfl)); intro gb114 hg w5 hbox hb; have n0_ := Aside0.mk (below_step (by repeat (first | (with_reducible first | exact HB.out | apply below_alloc | apply pw_below_drewN | apply below_drew1) | exact HB.out)) hb); have n1_ := Aside0.mk (hbox); have n2_ := Aside0.mk ((by rw [hg]; exact (below_size (by repeat (first | (with_reducible first | exact HB.out | apply below_alloc | apply pw_below_drewN | apply below_drew1) | exact HB.out))) : w.heap.size ≤ gb114)); have n3_ := Aside0.mk ((by rw [hg]; exact (below_size (by repeat (first | (with_reducible first | exact HB.out | apply below_alloc | apply pw_below_drewN | apply below_drew1) | exact HB.out))) : w.heap.size ≤ gb114)); clear HB; have HB := n0_; have BK114 := n1_; have GW114 := n2_; have GE114 := n3_; clear n0_ n1_ n2_ n3_; clear hb hbox hg; have hcz6_0 : w5.cell? ⟨gb114, 0, none⟩ = some (.string a0_0) := (blk_cell BK114.out 0).trans rfl; have hcz6_1 : w5.cell? ⟨gb114, 1, none⟩ = some (.int .i64 a0_1) := (blk_cell BK114.out 1).trans rfl; have hcz6_2 : w5.cell? ⟨gb114, 2, none⟩ = some (.int .i64 a0_2) := (blk_cell BK114.out 2).trans rfl; have hcz6_3 : w5.cell? ⟨gb114, 3, none⟩ = some (.string a0_3) := (blk_cell BK114.out 3).trans rfl; have hfz6_0 := blk_frozen BK114.out 0; have hfz6_1 := blk_frozen BK114.out 1; have hfz6_2 := blk_frozen BK114.out 2; have hfz6_3 := blk_frozen BK114.out 3) | ((with_reducible refine gate_callee (f := 33) rfl ?_); refine goesL_ (some 6) rfl rfl Try.func33 (by kernel_rfl) rfl #[.agg #[.int .i64 a0_1, .int .i64 a0_2, .string a0_3]] rfl (by (try simp only [List.map_toArray, List.map_cons, List.map_nil]); first | done | rfl | (simp only [List.length_drop, List.length_take]; rfl)) ?_; (with_reducible refine (rosetteref04_Right.calls a0_1 a0_2 a0_3 true _ A2.out).mono ?_); rintro e w7 ⟨rfl, hb⟩; refine ⟨_, rfl, ?_⟩; have n0_ := Aside0.mk (blk_below (g := gb114) (o := .cells #[.string a0_0, .int .i64 a0_1, .int .i64 a0_2, .string a0_3] 32 (0, 0)) (by (with_reducible repeat (first | refine blk_drewN ?_ _ | refine blk_drew ?_ | refine blk_alloc ?_ _)); exact BK114.out) hb); have n1_ := Aside0.mk (below_step (by repeat (first | (with_reducible first | exact HB.out | apply below_alloc | apply pw_below_drewN | apply below_drew1 | refine below_set ?_ GE114.out) | exact HB.out)) hb); clear BK114; clear HB; have BK114 := n0_; have HB := n1_; clear n0_ n1_; (try clear hb); (try clear hb2); (try clear hk); (try clear hi); have hcz8_0 : w7.cell? ⟨gb114, 0, none⟩ = some (.string a0_0) := (blk_cell BK114.out 0).trans rfl; have hcz8_1 : w7.cell? ⟨gb114, 1, none⟩ = some (.int .i64 a0_1) := (blk_cell BK114.out 1).trans rfl; have hcz8_2 : w7.cell? ⟨gb114, 2, none⟩ = some (.int .i64 a0_2) := (blk_cell BK114.out 2).trans rfl; have hcz8_3 : w7.cell? ⟨gb114, 3, none⟩ = some (.string a0_3) := (blk_cell BK114.out 3).trans rfl; have hfz8_0 := blk_frozen BK114.out 0; have hfz8_1 := blk_frozen BK114.out 1; have hfz8_2 := blk_frozen BK114.out 2; have hfz8_3 := blk_frozen BK114.out 3))
      go_ret
      exact ⟨by first | rfl | (simp [errW_none, errW_some] <;> rfl) | (simp [*, errW_none, errW_some] <;> rfl), by repeat (first | (with_reducible first | exact HB.out | apply below_alloc | apply pw_below_drewN | apply below_drew1 | refine below_set ?_ GE114.out) | exact HB.out)⟩
    · rw [if_neg c4] at H
      have c4b0 : decide (1 ≤ (a0_0.size : Int)) = false := decide_eq_false c4
      have c4b1 : decide (1 ≤ a0_0.size) = false := decide_eq_false (by omega)
      clear c4
      obtain rfl := Option.some.inj H
      go_enter Try.func24, Try.ntmps24
      go_wp2_with (first | ((with_reducible refine gate_dst (N := 1) rfl ?_); (try (refine gate_guard (by rfl) ?_; dsimp only)); refine box_event ?hg (N := 1) ?hd (cs := #[.string a0_0, .int .i64 a0_1, .int .i64 a0_2, .string a0_3]) (t := 32) ?hr ?_; (case hd => rfl); (case hg => rfl); (case hr => first | (go_simp; done) | (go_simp; rfl)); intro gb114 hg w9 hbox hb; have n0_ := Aside0.mk (below_step (by repeat (first | (with_reducible first | exact HB.out | apply below_alloc | apply pw_below_drewN | apply below_drew1) | exact HB.out)) hb); have n1_ := Aside0.mk (hbox); have n2_ := Aside0.mk ((by rw [hg]; exact (below_size (by repeat (first | (with_reducible first | exact HB.out | apply below_alloc | apply pw_below_drewN | apply below_drew1) | exact HB.out))) : w.heap.size ≤ gb114)); have n3_ := Aside0.mk ((by rw [hg]; exact (below_size (by repeat (first | (with_reducible first | exact HB.out | apply below_alloc | apply pw_below_drewN | apply below_drew1) | exact HB.out))) : w.heap.size ≤ gb114)); clear HB; have HB := n0_; have BK114 := n1_; have GW114 := n2_; have GE114 := n3_; clear n0_ n1_ n2_ n3_; clear hb hbox hg; have hcz10_0 : w9.cell? ⟨gb114, 0, none⟩ = some (.string a0_0) := (blk_cell BK114.out 0).trans rfl; have hcz10_1 : w9.cell? ⟨gb114, 1, none⟩ = some (.int .i64 a0_1) := (blk_cell BK114.out 1).trans rfl; have hcz10_2 : w9.cell? ⟨gb114, 2, none⟩ = some (.int .i64 a0_2) := (blk_cell BK114.out 2).trans rfl; have hcz10_3 : w9.cell? ⟨gb114, 3, none⟩ = some (.string a0_3) := (blk_cell BK114.out 3).trans rfl; have hfz10_0 := blk_frozen BK114.out 0; have hfz10_1 := blk_frozen BK114.out 1; have hfz10_2 := blk_frozen BK114.out 2; have hfz10_3 := blk_frozen BK114.out 3) | ((with_reducible refine gate_callee (f := 33) rfl ?_); refine goesL_ (some 6) rfl rfl Try.func33 (by kernel_rfl) rfl #[.agg #[.int .i64 a0_1, .int .i64 a0_2, .string a0_3]] rfl (by (try simp only [List.map_toArray, List.map_cons, List.map_nil]); first | done | rfl | (simp only [List.length_drop, List.length_take]; rfl)) ?_; (with_reducible refine (rosetteref04_Right.calls a0_1 a0_2 a0_3 true _ A2.out).mono ?_); rintro e w11 ⟨rfl, hb⟩; refine ⟨_, rfl, ?_⟩; have n0_ := Aside0.mk (blk_below (g := gb114) (o := .cells #[.string a0_0, .int .i64 a0_1, .int .i64 a0_2, .string a0_3] 32 (0, 0)) (by (with_reducible repeat (first | refine blk_drewN ?_ _ | refine blk_drew ?_ | refine blk_alloc ?_ _)); exact BK114.out) hb); have n1_ := Aside0.mk (below_step (by repeat (first | (with_reducible first | exact HB.out | apply below_alloc | apply pw_below_drewN | apply below_drew1 | refine below_set ?_ GE114.out) | exact HB.out)) hb); clear BK114; clear HB; have BK114 := n0_; have HB := n1_; clear n0_ n1_; (try clear hb); (try clear hb2); (try clear hk); (try clear hi); have hcz12_0 : w11.cell? ⟨gb114, 0, none⟩ = some (.string a0_0) := (blk_cell BK114.out 0).trans rfl; have hcz12_1 : w11.cell? ⟨gb114, 1, none⟩ = some (.int .i64 a0_1) := (blk_cell BK114.out 1).trans rfl; have hcz12_2 : w11.cell? ⟨gb114, 2, none⟩ = some (.int .i64 a0_2) := (blk_cell BK114.out 2).trans rfl; have hcz12_3 : w11.cell? ⟨gb114, 3, none⟩ = some (.string a0_3) := (blk_cell BK114.out 3).trans rfl; have hfz12_0 := blk_frozen BK114.out 0; have hfz12_1 := blk_frozen BK114.out 1; have hfz12_2 := blk_frozen BK114.out 2; have hfz12_3 := blk_frozen BK114.out 3))
      go_ret
      exact ⟨by first | rfl | (simp [errW_none, errW_some] <;> rfl) | (simp [*, errW_none, errW_some] <;> rfl), by repeat (first | (with_reducible first | exact HB.out | apply below_alloc | apply pw_below_drewN | apply below_drew1 | refine below_set ?_ GE114.out) | exact HB.out)⟩
  · replace c3 := Bool.eq_false_iff.mpr c3
    subst c3
    have H1 : (some false) = some r := by rw [if_neg (show ¬ (false = true) by decide)] at H; exact H
    clear H
    have H := H1
    clear H1
    obtain rfl := Option.some.inj H
    go_enter Try.func24, Try.ntmps24
    go_wp2_with (first | ((with_reducible refine gate_dst (N := 1) rfl ?_); (try (refine gate_guard (by rfl) ?_; dsimp only)); refine box_event ?hg (N := 1) ?hd (cs := #[.string a0_0, .int .i64 a0_1, .int .i64 a0_2, .string a0_3]) (t := 32) ?hr ?_; (case hd => rfl); (case hg => rfl); (case hr => first | (go_simp; done) | (go_simp; rfl)); intro gb114 hg w13 hbox hb; have n0_ := Aside0.mk (below_step (by repeat (first | (with_reducible first | exact HB.out | apply below_alloc | apply pw_below_drewN | apply below_drew1) | exact HB.out)) hb); have n1_ := Aside0.mk (hbox); have n2_ := Aside0.mk ((by rw [hg]; exact (below_size (by repeat (first | (with_reducible first | exact HB.out | apply below_alloc | apply pw_below_drewN | apply below_drew1) | exact HB.out))) : w.heap.size ≤ gb114)); have n3_ := Aside0.mk ((by rw [hg]; exact (below_size (by repeat (first | (with_reducible first | exact HB.out | apply below_alloc | apply pw_below_drewN | apply below_drew1) | exact HB.out))) : w.heap.size ≤ gb114)); clear HB; have HB := n0_; have BK114 := n1_; have GW114 := n2_; have GE114 := n3_; clear n0_ n1_ n2_ n3_; clear hb hbox hg; have hcz14_0 : w13.cell? ⟨gb114, 0, none⟩ = some (.string a0_0) := (blk_cell BK114.out 0).trans rfl; have hcz14_1 : w13.cell? ⟨gb114, 1, none⟩ = some (.int .i64 a0_1) := (blk_cell BK114.out 1).trans rfl; have hcz14_2 : w13.cell? ⟨gb114, 2, none⟩ = some (.int .i64 a0_2) := (blk_cell BK114.out 2).trans rfl; have hcz14_3 : w13.cell? ⟨gb114, 3, none⟩ = some (.string a0_3) := (blk_cell BK114.out 3).trans rfl; have hfz14_0 := blk_frozen BK114.out 0; have hfz14_1 := blk_frozen BK114.out 1; have hfz14_2 := blk_frozen BK114.out 2; have hfz14_3 := blk_frozen BK114.out 3) | ((with_reducible refine gate_callee (f := 33) rfl ?_); refine goesL_ (some 6) rfl rfl Try.func33 (by kernel_rfl) rfl #[.agg #[.int .i64 a0_1, .int .i64 a0_2, .string a0_3]] rfl (by (try simp only [List.map_toArray, List.map_cons, List.map_nil]); first | done | rfl | (simp only [List.length_drop, List.length_take]; rfl)) ?_; (with_reducible refine (rosetteref04_Right.calls a0_1 a0_2 a0_3 false _ A2.out).mono ?_); rintro e w15 ⟨rfl, hb⟩; refine ⟨_, rfl, ?_⟩; have n0_ := Aside0.mk (blk_below (g := gb114) (o := .cells #[.string a0_0, .int .i64 a0_1, .int .i64 a0_2, .string a0_3] 32 (0, 0)) (by (with_reducible repeat (first | refine blk_drewN ?_ _ | refine blk_drew ?_ | refine blk_alloc ?_ _)); exact BK114.out) hb); have n1_ := Aside0.mk (below_step (by repeat (first | (with_reducible first | exact HB.out | apply below_alloc | apply pw_below_drewN | apply below_drew1 | refine below_set ?_ GE114.out) | exact HB.out)) hb); clear BK114; clear HB; have BK114 := n0_; have HB := n1_; clear n0_ n1_; (try clear hb); (try clear hb2); (try clear hk); (try clear hi)))
    go_ret
    exact ⟨by first | rfl | (simp [errW_none, errW_some] <;> rfl) | (simp [*, errW_none, errW_some] <;> rfl), by repeat (first | (with_reducible first | exact HB.out | apply below_alloc | apply pw_below_drewN | apply below_drew1 | refine below_set ?_ GE114.out) | exact HB.out)⟩

end Go.Proofs.Ytmbpgebboppkmaa.G
end

section
/- the reference: which attributes may be; plain laws -/
set_option linter.unusedVariables false
set_option linter.unusedSimpArgs false
set_option autoImplicit false
namespace Go.Proofs.Ytmbpgebboppkmaa
open Go Go.RowKit Go.Proofs.YtmbpgebboppkmaaW.PrintWords Go.Proofs.YtmbpgebboppkmaaW.PrintLast Go.Proofs.Ytmbpgebboppkmaa.G

theorem andNot_one (i : Int) (h0 : -9223372036854775808 ≤ i) (h1 : i < 9223372036854775808) : (bits .andNot .i64 i 1 = 0) ↔ (0 ≤ i ∧ i ≤ 1) := by
  obtain ⟨X, hX⟩ : ∃ X, (BitVec.ofInt 64 i).toNat = X := ⟨_, rfl⟩
  have hb : bits .andNot .i64 i 1 = IntKind.i64.wrap ((X &&& 18446744073709551614 : Nat) : Int) := by
    show IntKind.i64.wrap ((BitVec.ofInt 64 i &&& ~~~BitVec.ofInt 64 1).toNat : Int) = _
    rw [BitVec.toNat_and, hX]
    rfl
  have hx : (X : Int) = i % 18446744073709551616 := by
    rw [← hX, BitVec.toNat_ofInt]
    omega
  have hd : (X &&& 18446744073709551614) / 2 = X / 2 := by
    rw [Nat.and_div_two, show 18446744073709551614 / 2 = 2 ^ 63 - 1 from rfl, Nat.and_two_pow_sub_one_eq_mod]
    omega
  have hm : (X &&& 18446744073709551614) % 2 = 0 := by
    have := Nat.and_mod_two_pow (a := X) (b := 18446744073709551614) (n := 1)
    simp only [show (2 : Nat) ^ 1 = 2 from rfl] at this
    rw [this]
    simp
  rw [hb, IntKind.wrap_i64]
  generalize X &&& 18446744073709551614 = Y at *
  omega
theorem size_nil (n : ByteArray) : n.toList = [] ↔ n.size = 0 := by
  rw [ByteArray.toList_eq]
  constructor
  · intro h
    have := congrArg List.length h
    rw [Array.length_toList] at this
    exact this
  · intro h
    apply List.eq_nil_of_length_eq_zero
    rw [Array.length_toList]
    exact h
theorem ref_right (k i : Int) (t : ByteArray) (h0 : -9223372036854775808 ≤ i) (h1 : i < 9223372036854775808) : rosetteref04_Right.f k i t = some (vrightB k i t) := by
  unfold rosetteref04_Right.f vrightB
  by_cases k1 : k = 1
  · rw [if_pos k1, if_pos k1]
  · rw [if_neg k1, if_neg k1]
    by_cases k2 : k = 2
    · rw [if_pos k2, if_pos k2]; split <;> rfl
    · rw [if_neg k2, if_neg k2]
      by_cases k3 : k = 3
      · rw [if_pos k3, if_pos k3]
        by_cases ht : t.toList = []
        · rw [if_pos ht, if_pos ht]
          have hb := andNot_one i h0 h1
          by_cases hi : i ≥ 0
          · rw [if_pos hi]
            congr 1
            by_cases h2 : i ≤ 1
            · rw [decide_eq_true h2, hb.2 ⟨hi, h2⟩]; rfl
            · rw [decide_eq_false h2]
              have : ¬ Go.bits .andNot .i64 i 1 = 0 := fun e => h2 (hb.1 e).2
              simp [this]
          · rw [if_neg hi]
            have : ¬ Go.bits .andNot .i64 i 1 = 0 := fun e => hi (hb.1 e).1
            simp [this]
        · rw [if_neg ht, if_neg ht]
      · rw [if_neg k3, if_neg k3]
theorem one_f (x : S32) (h0 : -9223372036854775808 ≤ x.f1.f1) (h1 : x.f1.f1 < 9223372036854775808) : rosetteref05_one.f x.f0 x.f1.f0 x.f1.f1 x.f1.f2 = some (!wrongA x) := by
  unfold rosetteref05_one.f wrongA
  rw [ref_right _ _ _ h0 h1, Option.bind_some]
  have hs := size_nil x.f0
  cases hv : vrightB x.f1.f0 x.f1.f1 x.f1.f2 with
  | false =>
    rw [if_neg (by decide)]
    split
    · rfl
    · split <;> rfl
  | true =>
    rw [if_pos rfl]
    by_cases hn : x.f0.toList = []
    · rw [if_pos hn, if_neg (by have := hs.1 hn; omega)]; rfl
    · have : ¬ x.f0.size = 0 := fun e => hn (hs.2 e)
      rw [if_neg hn, if_pos (by omega)]
      by_cases h16 : (x.f0.size : Int) > 16
      · rw [if_pos h16, decide_eq_false (by omega)]; rfl
      · rw [if_neg h16, decide_eq_true (by omega)]; rfl
end Go.Proofs.Ytmbpgebboppkmaa
end

section
/- which events are right; plain laws -/
set_option linter.unusedVariables false
set_option linter.unusedSimpArgs false
set_option autoImplicit false
namespace Go.Proofs.Ytmbpgebboppkmaa
open Go Go.RowKit Go.Shelf Go.Sort Go.Proofs.YtmbpgebboppkmaaW.PrintWords Go.Proofs.YtmbpgebboppkmaaW.PrintLast Go.Proofs.Ytmbpgebboppkmaa.G

theorem rdA (l : List S32) (i : Nat) (hi : i < l.length) : rd_T32 l (i : Int) = l[i] := by simp [rd_T32, List.getD_eq_getElem?_getD, hi]
theorem sortedTo_iff (l : List S32) : ∀ n, n < l.length ∨ n = 0 → (sortedTo l n = true ↔ ∀ i, i < n → ltOf cmpN (rd_T32 l ((i + 1 : Nat) : Int)) (rd_T32 l (i : Int)) = false) := by
  intro n
  induction n with
  | zero => intro _; exact ⟨fun _ i hi => by omega, fun _ => rfl⟩
  | succ n ih =>
    intro hn
    rw [sortedTo]
    have e : nameLt (rd_T32 l ((n + 1 : Nat) : Int)) (rd_T32 l (n : Int)) = ltOf cmpN (rd_T32 l ((n + 1 : Nat) : Int)) (rd_T32 l (n : Int)) := rfl
    rw [e]
    by_cases h : ltOf cmpN (rd_T32 l ((n + 1 : Nat) : Int)) (rd_T32 l (n : Int)) = true
    · rw [if_pos h]
      exact ⟨fun hh => absurd hh (by decide), fun hh => absurd (hh n (by omega)) (by rw [h]; decide)⟩
    · rw [if_neg h, ih (by omega)]
      refine ⟨fun hh i hi => ?_, fun hh i hi => hh i (by omega)⟩
      by_cases hin : i = n
      · subst hin; simpa using h
      · exact hh i (by omega)
theorem sorted_ord (l : List S32) : sortedE l = true ↔ OrdN l := by
  unfold sortedE
  rw [sortedTo_iff l (l.length - 1) (by omega)]
  unfold OrdN
  rw [List.pairwise_iff_getElem]
  constructor
  · intro h i j hi hj hij
    have hg : ∀ d, ∀ j (hj : j < l.length), j = i + 1 + d → ltOf cmpN l[j] l[i] = false := by
      intro d
      induction d with
      | zero =>
        intro j hj e
        subst e
        have := h i (by omega)
        rw [rdA l i hi, rdA l (i + 1) hj] at this
        exact this
      | succ d ih =>
        intro j hj e
        subst e
        have h1 := ih (i + 1 + d) (by omega) rfl
        have h2 := h (i + 1 + d) (by omega)
        rw [rdA l (i + 1 + d) (by omega), rdA l (i + 1 + d + 1) (by omega)] at h2
        exact swoN.ntrans _ _ _ h2 h1
    exact hg (j - (i + 1)) j hj (by omega)
  · intro h i hi
    have := h i (i + 1) (by omega) (by omega) (by omega)
    rw [rdA l i (by omega), rdA l (i + 1) (by omega)]
    exact this
theorem addG_full : ∀ (l : List S32) (ns : List ByteArray), (l.map (·.f0)).Nodup → (∀ x ∈ l, x.f0 ∉ ns) → (l.foldl (fun ns x => addG ns x.f0) ns).length = ns.length + l.length := by
  intro l
  induction l with
  | nil => intro ns _ _; simp
  | cons x l ih =>
    intro ns hn hd
    rw [List.map_cons, List.nodup_cons] at hn
    have hg : addG ns x.f0 = ns ++ [x.f0] := by unfold addG; rw [if_neg (hd x (by simp))]
    rw [List.foldl_cons, hg, ih (ns ++ [x.f0]) hn.2 (fun y hy hm => ?_)]
    · simp; omega
    · rcases List.mem_append.1 hm with h | h
      · exact hd y (by simp [hy]) h
      · rw [List.mem_singleton] at h
        exact hn.1 (List.mem_map.2 ⟨y, hy, h⟩)
theorem nodup_twice {l : List S32} (h : (l.map (·.f0)).Nodup) : twiceE l = false := by
  unfold twiceE namesD
  rw [addG_full l [] h (fun x _ => by simp)]
  simp
theorem right_iff (l : List S32) : rightE l = true ↔ l.length ≤ 24 ∧ l.any wrongA = false ∧ OrdN l ∧ (l.map (·.f0)).Nodup := by
  unfold rightE
  simp only [Bool.and_eq_true, Bool.not_eq_true', decide_eq_true_eq]
  rw [sorted_ord]
  exact ⟨fun ⟨a, b, c, d⟩ => ⟨a, b, c, twice_nodup d⟩, fun ⟨a, b, c, d⟩ => ⟨a, b, c, nodup_twice d⟩⟩
theorem right_sub {l m : List S32} (h : rightE l = true) (hs : m.Sublist l) : rightE m = true := by
  obtain ⟨a, b, c, d⟩ := (right_iff l).1 h
  refine (right_iff m).2 ⟨Nat.le_trans hs.length_le a, ?_, List.Pairwise.sublist hs c, (hs.map _).nodup d⟩
  rw [List.any_eq_false] at b ⊢
  exact fun x hx => b x (hs.subset hx)
theorem toL_inj {a b : ByteArray} (e : a.toList = b.toList) : a = b := by
  rw [ByteArray.toList_eq, ByteArray.toList_eq] at e
  have h := Array.toList_inj.1 e
  cases a; cases b; simp at h; rw [h]
theorem get_none {l : List S32} {n : ByteArray} (h : n ∉ l.map (·.f0)) : event_Get.f l n = some (0, 0, ⟨#[]⟩, false) := by
  have : l.find? (fun a => a.f0.toList == n.toList) = none := by
    rw [List.find?_eq_none]
    intro x hx hh
    exact h (List.mem_map.2 ⟨x, hx, toL_inj (by simpa using hh)⟩)
  unfold event_Get.f
  rw [this]
theorem get_mem {l : List S32} (hn : (l.map (·.f0)).Nodup) {x : S32} (hx : x ∈ l) : event_Get.f l x.f0 = some (x.f1.f0, x.f1.f1, x.f1.f2, true) := by
  unfold event_Get.f
  cases hf : l.find? (fun a => a.f0.toList == x.f0.toList) with
  | none =>
    rw [List.find?_eq_none] at hf
    exact absurd (by simp) (hf x hx)
  | some a =>
    have h1 := List.mem_of_find?_eq_some hf
    have h2 := List.find?_some hf
    obtain rfl := name_inj hn h1 hx (toL_inj (by simpa using h2))
    rfl
end Go.Proofs.Ytmbpgebboppkmaa
end
