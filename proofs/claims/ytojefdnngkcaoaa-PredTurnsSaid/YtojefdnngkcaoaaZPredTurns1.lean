import Derived.Test.YtojefdnngkcaoaaZPredTurns0
import Derived.Lib.Strings
import Derived.Lib.Slices
import Derived.Lib.Walk
import Derived.Lib.Bytealg
import Derived.Laws.Strings
import Derived.Deep.DeepCutAuto
import Derived.Outline
import Derived.BigQuiet
import Derived.Deep.QuietTactic
import Derived.OpenShut
section
-- Written by a program of this session (wip/tools/myprint.py), over the kit's print.
namespace Go.Proofs.Ytojefdnngkcaoaa.G
open Go.RowKit Go.Proofs.YtojefdnngkcaoaaW.PrintWords Go.Proofs.YtojefdnngkcaoaaW.PrintLast Go.Proofs.YtojefdnngkcaoaaW.PrintMore
attribute [local go_sem] max2_int min2_int max_two min_two max_three min_three max_four min_four   -- for this text's walks alone
set_option linter.unusedVariables false
set_option linter.unusedSimpArgs false

/-! ### cmp_Or_int: function 45 -/
def cmp_Or_int.l0 : Nat → Int → List Int → Int → Int → Option (Int)
  | 0, _, _, _, _ => none
  | k + 1, x3, x6, x7, x8 => if x8 < x7 then (if 0 ≤ x8 then (if x8 < (x6.length : Int) then (if (rd x6 x8) = x3 then (cmp_Or_int.l0 k x3 x6 x7 (wrap64 (x8 + 1))) else (some (rd x6 x8))) else (none)) else (none)) else (some x3)
def cmp_Or_int.f (k : Nat) (l0 : List Int) : Option (Int) := cmp_Or_int.l0 k 0 l0 (l0.length : Int) 0
theorem cmp_Or_int.mono_l : ∀ k, (∀ y0 y1 y2 y3, LeO (cmp_Or_int.l0 k y0 y1 y2 y3) (cmp_Or_int.l0 (k + 1) y0 y1 y2 y3))
  | 0 => fun _ _ _ _ r h => by simp [cmp_Or_int.l0] at h
  | k + 1 => by
    have ih0 := cmp_Or_int.mono_l k
    · intro y0 y1 y2 y3
      unfold cmp_Or_int.l0
      repeat' first
      | (with_reducible exact ih0 _ _ _ _)
      | (with_reducible exact LeO.refl _)
      | (with_reducible exact LeO.none _)
      | (with_reducible refine LeO.ite ?_ ?_)
      | (with_reducible refine LeO.bind ?_ (fun _ => ?_))
      | exact ih0 _ _ _ _
      | exact LeO.none _
      | refine LeO.ite ?_ ?_
      | refine LeO.bind ?_ (fun _ => ?_)
theorem cmp_Or_int.mono : ∀ a0 k, LeO (cmp_Or_int.f k a0) (cmp_Or_int.f (k + 1) a0) := by
  intro a0 k
  have ih0 := cmp_Or_int.mono_l k
  unfold cmp_Or_int.f
  repeat' first
      | (with_reducible exact ih0 _ _ _ _)
      | (with_reducible exact LeO.refl _)
      | (with_reducible exact LeO.none _)
      | (with_reducible refine LeO.ite ?_ ?_)
      | (with_reducible refine LeO.bind ?_ (fun _ => ?_))
      | exact ih0 _ _ _ _
      | exact LeO.none _
      | refine LeO.ite ?_ ?_
      | refine LeO.bind ?_ (fun _ => ?_)
set_option maxHeartbeats 8000000 in
set_option maxRecDepth 100000 in
theorem cmp_Or_int.calls (k : Nat) (A0 : Option Addr) (c0 : Nat) (l0 : List Int) (r : Int) (w : World) (hr0 : Kd.C (Kd.int .i64) w A0 l0.length l0) (hc0 : l0.length ≤ c0) (h : cmp_Or_int.f k l0 = some r) :
    Calls Try.prog 45 #[.slice A0 l0.length c0] w fun e w' => e = .returned (.int .i64 r) ∧ Drawn0 w w' := by
  have HR0 := Aside0.mk hr0
  have HC0 := Aside0.mk hc0
  clear hr0 hc0
  have H : (cmp_Or_int.l0 k 0 l0 (l0.length : Int) 0) = some r := h
  clear h
  have H' := Aside0.mk H
  clear H
  go_enter Try.func45, Try.ntmps45
  go_wp2
  go_loopg [8] k (fun kq v8 w' => ∃ (x8_1 : Int), v8 = .int .i64 x8_1 ∧ Aside0 (cmp_Or_int.l0 kq 0 l0 (l0.length : Int) x8_1 = some r) ∧ Aside0 (kq ≤ k) ∧ Drawn0 w w')
  case atStart => exact ⟨(0), (by first | rfl | (simp; done) | (simp [*]; done)), H', ⟨Nat.le_refl _⟩, by repeat (first | exact Drawn0.refl _ | apply Drawn0.step)⟩
  case round =>
    clear H'
    obtain ⟨x8_1, rfl, HA, HK1, ⟨m1, rfl⟩⟩ := hrel
    cases gk with
    | zero => exact absurd HA.out (by simp [cmp_Or_int.l0])
    | succ k1 =>
      have H := HA.out
      clear HA
      simp only [cmp_Or_int.l0] at H
      by_cases c2 : x8_1 < (l0.length : Int)
      · rw [if_pos c2] at H
        have c2b0 : decide (x8_1 < (l0.length : Int)) = true := decide_eq_true c2
        clear c2
        by_cases c3 : 0 ≤ x8_1
        · rw [if_pos c3] at H
          have c3b0 : decide (0 ≤ x8_1) = true := decide_eq_true c3
          clear c3
          by_cases c4 : x8_1 < (l0.length : Int)
          · rw [if_pos c4] at H
            have c4b0 : decide (x8_1 < (l0.length : Int)) = true := decide_eq_true c4
            clear c4
            by_cases c5 : (rd l0 x8_1) = 0
            · rw [if_pos c5] at H
              have c5b0 : ((rd l0 x8_1) == 0) = true := beq_iff_eq.mpr c5
              have c5b1 : ((rd l0 x8_1) != 0) = false := bne_eq_false_iff_eq.mpr c5
              clear c5
              have H' := Aside0.mk H
              clear H
              have p105 : 0 ≤ (x8_1 : Int) := of_decide_eq_true (by first | (with_reducible assumption) | assumption)
              have q105 : x8_1 < (l0.length : Int) := of_decide_eq_true (by first | (with_reducible assumption) | assumption)
              obtain ⟨ad105, e105, hx105_0⟩ := Kd.at_int HR0.out x8_1 p105 q105
              cases e105
              replace p105 := eq_true p105
              replace q105 := eq_true q105
              go_wp2
              go_roundg k1
              case measure => have := HK1.out; omega
              case rel => exact ⟨(wrap64 (x8_1 + 1)), (by first | rfl | (simp; done) | (simp [*]; done)), H', ⟨by have := HK1.out; omega⟩, by repeat (first | exact Drawn0.refl _ | apply Drawn0.step)⟩
            · rw [if_neg c5] at H
              have c5b0 : ((rd l0 x8_1) == 0) = false := beq_eq_false_iff_ne.mpr c5
              have c5b1 : ((rd l0 x8_1) != 0) = true := bne_iff_ne.mpr c5
              obtain rfl := Option.some.inj H
              have p105 : 0 ≤ (x8_1 : Int) := of_decide_eq_true (by first | (with_reducible assumption) | assumption)
              have q105 : x8_1 < (l0.length : Int) := of_decide_eq_true (by first | (with_reducible assumption) | assumption)
              obtain ⟨ad105, e105, hx105_0⟩ := Kd.at_int HR0.out x8_1 p105 q105
              cases e105
              replace p105 := eq_true p105
              replace q105 := eq_true q105
              go_wp2
              go_ret
              exact ⟨by first | rfl | (simp; done) | (simp [*]; done), by repeat (first | exact Drawn0.refl _ | apply Drawn0.step)⟩
          · rw [if_neg c4] at H
            exact absurd H (by simp)
        · rw [if_neg c3] at H
          exact absurd H (by simp)
      · rw [if_neg c2] at H
        have c2b0 : decide (x8_1 < (l0.length : Int)) = false := decide_eq_false c2
        clear c2
        obtain rfl := Option.some.inj H
        go_wp2
        go_ret
        exact ⟨by first | rfl | (simp; done) | (simp [*]; done), by repeat (first | exact Drawn0.refl _ | apply Drawn0.step)⟩

end Go.Proofs.Ytojefdnngkcaoaa.G
end

section
-- Written by a program of this session (wip/tools/myprint.py), over the kit's print.
namespace Go.Proofs.Ytojefdnngkcaoaa.G
open Go.RowKit Go.Proofs.YtojefdnngkcaoaaW.PrintWords Go.Proofs.YtojefdnngkcaoaaW.PrintLast Go.Proofs.YtojefdnngkcaoaaW.PrintMore
attribute [local go_sem] max2_int min2_int max_two min_two max_three min_three max_four min_four   -- for this text's walks alone
set_option linter.unusedVariables false
set_option linter.unusedSimpArgs false

/-! ### cmp_isNaN_int: function 60 -/
def cmp_isNaN_int.f (a0 : Int) : Option (Bool) := some (a0 != a0)
set_option maxHeartbeats 8000000 in
set_option maxRecDepth 100000 in
theorem cmp_isNaN_int.calls (a0 : Int) (r : Bool) (w : World) (h : cmp_isNaN_int.f a0 = some r) :
    Calls Try.prog 60 #[.int .i64 a0] w fun e w' => e = .returned (.bool r) ∧ Drawn0 w w' := by
  have H : (some (a0 != a0)) = some r := h
  clear h
  obtain rfl := Option.some.inj H
  go_enter Try.func60, Try.ntmps60
  go_wp2
  go_ret
  exact ⟨by first | rfl | (simp; done) | (simp [*]; done), by repeat (first | exact Drawn0.refl _ | apply Drawn0.step)⟩

end Go.Proofs.Ytojefdnngkcaoaa.G
end

section
-- Written by a program of this session (wip/tools/myprint.py), over the kit's print.
namespace Go.Proofs.Ytojefdnngkcaoaa.G
open Go.RowKit Go.Proofs.YtojefdnngkcaoaaW.PrintWords Go.Proofs.YtojefdnngkcaoaaW.PrintLast Go.Proofs.YtojefdnngkcaoaaW.PrintMore
attribute [local go_sem] max2_int min2_int max_two min_two max_three min_three max_four min_four   -- for this text's walks alone
set_option linter.unusedVariables false
set_option linter.unusedSimpArgs false

/-! ### cmp_Compare_int: function 46 -/
def cmp_Compare_int.f (a0 : Int) (a1 : Int) : Option (Int) := (cmp_isNaN_int.f a0).bind fun t106 => ((cmp_isNaN_int.f a1).bind fun t107 => (if t106 = true then (if t107 = true then (some 0) else (some (-1))) else (if t107 = true then (some 1) else (if a0 < a1 then (some (-1)) else (if a0 > a1 then (some 1) else (some 0))))))
set_option maxHeartbeats 8000000 in
set_option maxRecDepth 100000 in
theorem cmp_Compare_int.calls (a0 : Int) (a1 : Int) (r : Int) (w : World) (h : cmp_Compare_int.f a0 a1 = some r) :
    Calls Try.prog 46 #[.int .i64 a0, .int .i64 a1] w fun e w' => e = .returned (.int .i64 r) ∧ Drawn0 w w' := by
  have H : ((cmp_isNaN_int.f a0).bind fun t106 => ((cmp_isNaN_int.f a1).bind fun t107 => (if t106 = true then (if t107 = true then (some 0) else (some (-1))) else (if t107 = true then (some 1) else (if a0 < a1 then (some (-1)) else (if a0 > a1 then (some 1) else (some 0))))))) = some r := h
  clear h
  replace H := Option.bind_eq_some_iff.mp H
  obtain ⟨t106, A30, H⟩ := H
  replace H : ((cmp_isNaN_int.f a1).bind fun t107 => (if t106 = true then (if t107 = true then (some 0) else (some (-1))) else (if t107 = true then (some 1) else (if a0 < a1 then (some (-1)) else (if a0 > a1 then (some 1) else (some 0)))))) = some r := H
  have A3 := Aside0.mk A30
  clear A30
  replace H := Option.bind_eq_some_iff.mp H
  obtain ⟨t107, A40, H⟩ := H
  replace H : (if t106 = true then (if t107 = true then (some 0) else (some (-1))) else (if t107 = true then (some 1) else (if a0 < a1 then (some (-1)) else (if a0 > a1 then (some 1) else (some 0))))) = some r := H
  have A4 := Aside0.mk A40
  clear A40
  by_cases c5 : t106 = true
  · subst c5
    have H1 : (if t107 = true then (some 0) else (some (-1))) = some r := by rw [if_pos rfl] at H; exact H
    clear H
    have H := H1
    clear H1
    by_cases c6 : t107 = true
    · subst c6
      have H1 : (some 0) = some r := by rw [if_pos rfl] at H; exact H
      clear H
      have H := H1
      clear H1
      obtain rfl := Option.some.inj H
      go_enter Try.func46, Try.ntmps46
      go_wp2_with (first | ((with_reducible refine gate_callee (f := 60) rfl ?_); refine goesL_ (some 8) rfl rfl Try.func60 (by kernel_rfl) rfl #[.int .i64 a0] rfl (by (try simp only [List.map_toArray, List.map_cons, List.map_nil]); first | done | rfl | (simp only [List.length_drop, List.length_take]; rfl)) ?_; (with_reducible refine (cmp_isNaN_int.calls a0 true _ A3.out).mono ?_); rintro e w' ⟨rfl, ⟨nd, rfl⟩⟩; refine ⟨_, rfl, ?_⟩) | ((with_reducible refine gate_callee (f := 60) rfl ?_); refine goesL_ (some 10) rfl rfl Try.func60 (by kernel_rfl) rfl #[.int .i64 a1] rfl (by (try simp only [List.map_toArray, List.map_cons, List.map_nil]); first | done | rfl | (simp only [List.length_drop, List.length_take]; rfl)) ?_; (with_reducible refine (cmp_isNaN_int.calls a1 true _ A4.out).mono ?_); rintro e w' ⟨rfl, ⟨nd, rfl⟩⟩; refine ⟨_, rfl, ?_⟩))
      go_ret
      exact ⟨by first | rfl | (simp; done) | (simp [*]; done), by repeat (first | exact Drawn0.refl _ | apply Drawn0.step)⟩
    · replace c6 := Bool.eq_false_iff.mpr c6
      subst c6
      have H1 : (some (-1)) = some r := by rw [if_neg (show ¬ (false = true) by decide)] at H; exact H
      clear H
      have H := H1
      clear H1
      obtain rfl := Option.some.inj H
      go_enter Try.func46, Try.ntmps46
      go_wp2_with (first | ((with_reducible refine gate_callee (f := 60) rfl ?_); refine goesL_ (some 8) rfl rfl Try.func60 (by kernel_rfl) rfl #[.int .i64 a0] rfl (by (try simp only [List.map_toArray, List.map_cons, List.map_nil]); first | done | rfl | (simp only [List.length_drop, List.length_take]; rfl)) ?_; (with_reducible refine (cmp_isNaN_int.calls a0 true _ A3.out).mono ?_); rintro e w' ⟨rfl, ⟨nd, rfl⟩⟩; refine ⟨_, rfl, ?_⟩) | ((with_reducible refine gate_callee (f := 60) rfl ?_); refine goesL_ (some 10) rfl rfl Try.func60 (by kernel_rfl) rfl #[.int .i64 a1] rfl (by (try simp only [List.map_toArray, List.map_cons, List.map_nil]); first | done | rfl | (simp only [List.length_drop, List.length_take]; rfl)) ?_; (with_reducible refine (cmp_isNaN_int.calls a1 false _ A4.out).mono ?_); rintro e w' ⟨rfl, ⟨nd, rfl⟩⟩; refine ⟨_, rfl, ?_⟩))
      go_ret
      exact ⟨by first | rfl | (simp; done) | (simp [*]; done), by repeat (first | exact Drawn0.refl _ | apply Drawn0.step)⟩
  · replace c5 := Bool.eq_false_iff.mpr c5
    subst c5
    have H1 : (if t107 = true then (some 1) else (if a0 < a1 then (some (-1)) else (if a0 > a1 then (some 1) else (some 0)))) = some r := by rw [if_neg (show ¬ (false = true) by decide)] at H; exact H
    clear H
    have H := H1
    clear H1
    by_cases c7 : t107 = true
    · subst c7
      have H1 : (some 1) = some r := by rw [if_pos rfl] at H; exact H
      clear H
      have H := H1
      clear H1
      obtain rfl := Option.some.inj H
      go_enter Try.func46, Try.ntmps46
      go_wp2_with (first | ((with_reducible refine gate_callee (f := 60) rfl ?_); refine goesL_ (some 8) rfl rfl Try.func60 (by kernel_rfl) rfl #[.int .i64 a0] rfl (by (try simp only [List.map_toArray, List.map_cons, List.map_nil]); first | done | rfl | (simp only [List.length_drop, List.length_take]; rfl)) ?_; (with_reducible refine (cmp_isNaN_int.calls a0 false _ A3.out).mono ?_); rintro e w' ⟨rfl, ⟨nd, rfl⟩⟩; refine ⟨_, rfl, ?_⟩) | ((with_reducible refine gate_callee (f := 60) rfl ?_); refine goesL_ (some 10) rfl rfl Try.func60 (by kernel_rfl) rfl #[.int .i64 a1] rfl (by (try simp only [List.map_toArray, List.map_cons, List.map_nil]); first | done | rfl | (simp only [List.length_drop, List.length_take]; rfl)) ?_; (with_reducible refine (cmp_isNaN_int.calls a1 true _ A4.out).mono ?_); rintro e w' ⟨rfl, ⟨nd, rfl⟩⟩; refine ⟨_, rfl, ?_⟩))
      go_ret
      exact ⟨by first | rfl | (simp; done) | (simp [*]; done), by repeat (first | exact Drawn0.refl _ | apply Drawn0.step)⟩
    · replace c7 := Bool.eq_false_iff.mpr c7
      subst c7
      have H1 : (if a0 < a1 then (some (-1)) else (if a0 > a1 then (some 1) else (some 0))) = some r := by rw [if_neg (show ¬ (false = true) by decide)] at H; exact H
      clear H
      have H := H1
      clear H1
      by_cases c8 : a0 < a1
      · rw [if_pos c8] at H
        have c8b0 : decide (a0 < a1) = true := decide_eq_true c8
        clear c8
        obtain rfl := Option.some.inj H
        go_enter Try.func46, Try.ntmps46
        go_wp2_with (first | ((with_reducible refine gate_callee (f := 60) rfl ?_); refine goesL_ (some 8) rfl rfl Try.func60 (by kernel_rfl) rfl #[.int .i64 a0] rfl (by (try simp only [List.map_toArray, List.map_cons, List.map_nil]); first | done | rfl | (simp only [List.length_drop, List.length_take]; rfl)) ?_; (with_reducible refine (cmp_isNaN_int.calls a0 false _ A3.out).mono ?_); rintro e w' ⟨rfl, ⟨nd, rfl⟩⟩; refine ⟨_, rfl, ?_⟩) | ((with_reducible refine gate_callee (f := 60) rfl ?_); refine goesL_ (some 10) rfl rfl Try.func60 (by kernel_rfl) rfl #[.int .i64 a1] rfl (by (try simp only [List.map_toArray, List.map_cons, List.map_nil]); first | done | rfl | (simp only [List.length_drop, List.length_take]; rfl)) ?_; (with_reducible refine (cmp_isNaN_int.calls a1 false _ A4.out).mono ?_); rintro e w' ⟨rfl, ⟨nd, rfl⟩⟩; refine ⟨_, rfl, ?_⟩))
        go_ret
        exact ⟨by first | rfl | (simp; done) | (simp [*]; done), by repeat (first | exact Drawn0.refl _ | apply Drawn0.step)⟩
      · rw [if_neg c8] at H
        have c8b0 : decide (a0 < a1) = false := decide_eq_false c8
        clear c8
        by_cases c9 : a0 > a1
        · rw [if_pos c9] at H
          have c9b0 : decide (a1 < a0) = true := decide_eq_true c9
          clear c9
          obtain rfl := Option.some.inj H
          go_enter Try.func46, Try.ntmps46
          go_wp2_with (first | ((with_reducible refine gate_callee (f := 60) rfl ?_); refine goesL_ (some 8) rfl rfl Try.func60 (by kernel_rfl) rfl #[.int .i64 a0] rfl (by (try simp only [List.map_toArray, List.map_cons, List.map_nil]); first | done | rfl | (simp only [List.length_drop, List.length_take]; rfl)) ?_; (with_reducible refine (cmp_isNaN_int.calls a0 false _ A3.out).mono ?_); rintro e w' ⟨rfl, ⟨nd, rfl⟩⟩; refine ⟨_, rfl, ?_⟩) | ((with_reducible refine gate_callee (f := 60) rfl ?_); refine goesL_ (some 10) rfl rfl Try.func60 (by kernel_rfl) rfl #[.int .i64 a1] rfl (by (try simp only [List.map_toArray, List.map_cons, List.map_nil]); first | done | rfl | (simp only [List.length_drop, List.length_take]; rfl)) ?_; (with_reducible refine (cmp_isNaN_int.calls a1 false _ A4.out).mono ?_); rintro e w' ⟨rfl, ⟨nd, rfl⟩⟩; refine ⟨_, rfl, ?_⟩))
          go_ret
          exact ⟨by first | rfl | (simp; done) | (simp [*]; done), by repeat (first | exact Drawn0.refl _ | apply Drawn0.step)⟩
        · rw [if_neg c9] at H
          have c9b0 : decide (a1 < a0) = false := decide_eq_false c9
          clear c9
          obtain rfl := Option.some.inj H
          go_enter Try.func46, Try.ntmps46
          go_wp2_with (first | ((with_reducible refine gate_callee (f := 60) rfl ?_); refine goesL_ (some 8) rfl rfl Try.func60 (by kernel_rfl) rfl #[.int .i64 a0] rfl (by (try simp only [List.map_toArray, List.map_cons, List.map_nil]); first | done | rfl | (simp only [List.length_drop, List.length_take]; rfl)) ?_; (with_reducible refine (cmp_isNaN_int.calls a0 false _ A3.out).mono ?_); rintro e w' ⟨rfl, ⟨nd, rfl⟩⟩; refine ⟨_, rfl, ?_⟩) | ((with_reducible refine gate_callee (f := 60) rfl ?_); refine goesL_ (some 10) rfl rfl Try.func60 (by kernel_rfl) rfl #[.int .i64 a1] rfl (by (try simp only [List.map_toArray, List.map_cons, List.map_nil]); first | done | rfl | (simp only [List.length_drop, List.length_take]; rfl)) ?_; (with_reducible refine (cmp_isNaN_int.calls a1 false _ A4.out).mono ?_); rintro e w' ⟨rfl, ⟨nd, rfl⟩⟩; refine ⟨_, rfl, ?_⟩))
          go_ret
          exact ⟨by first | rfl | (simp; done) | (simp [*]; done), by repeat (first | exact Drawn0.refl _ | apply Drawn0.step)⟩

end Go.Proofs.Ytojefdnngkcaoaa.G
end

section
-- Written by a program of this session (wip/tools/myprint.py), over the kit's print.
namespace Go.Proofs.Ytojefdnngkcaoaa.G
open Go.RowKit Go.Proofs.YtojefdnngkcaoaaW.PrintWords Go.Proofs.YtojefdnngkcaoaaW.PrintLast Go.Proofs.YtojefdnngkcaoaaW.PrintMore
attribute [local go_sem] max2_int min2_int max_two min_two max_three min_three max_four min_four   -- for this text's walks alone
set_option linter.unusedVariables false
set_option linter.unusedSimpArgs false

-- BY HAND
-- LIB Derived.Lib.Strings
-- LIB Derived.Lib.Slices
-- LIB Derived.Lib.Walk
-- LIB Derived.Lib.Bytealg
set_option maxHeartbeats 1000000 in
set_option maxRecDepth 100000 in
theorem compare_bytes (a b : ByteArray) (w : World) :
    Calls Try.prog 61 #[.string a, .string b] w fun e w' => e = .returned (.int .i64 (Lib.compareBytes a.data.toList b.data.toList)) ∧ w' = w := by
  go_enter Try.func61, Try.ntmps61
  go_wp2
  rw [run_callFunc_extern Try.func65 (by kernel_rfl) (by kernel_rfl) (by kernel_rfl) (e := Extern.BytealgCompare.compare) (by kernel_rfl), Lib.run_compareString]
  simp only [Result.andThen]
  rw [Oper.upon_value]
  go_wp2
  go_ret
  exact ⟨rfl, rfl⟩
def strings_Compare.f (a0 a1 : ByteArray) : Option Int := some (Lib.compareBytes a0.data.toList a1.data.toList)
set_option maxHeartbeats 1000000 in
theorem strings_Compare.calls (a0 a1 : ByteArray) (r : Int) (w : World) (h : strings_Compare.f a0 a1 = some r) :
    Calls Try.prog 47 #[.string a0, .string a1] w fun e w' => e = .returned (.int .i64 r) ∧ Drawn0 w w' := by
  obtain rfl := Option.some.inj h
  go_enter Try.func47, Try.ntmps47
  go_wp2_with (go_at_call 61; refine (compare_bytes _ _ _).mono ?_; rintro e w' ⟨rfl, rfl⟩)
  go_ret
  exact ⟨rfl, Drawn0.refl _⟩

end Go.Proofs.Ytojefdnngkcaoaa.G
end

section
-- Written by a program of this session (wip/tools/myprint.py), over the kit's print.
namespace Go.Proofs.Ytojefdnngkcaoaa.G
open Go.RowKit Go.Proofs.YtojefdnngkcaoaaW.PrintWords Go.Proofs.YtojefdnngkcaoaaW.PrintLast Go.Proofs.YtojefdnngkcaoaaW.PrintMore
attribute [local go_sem] max2_int min2_int max_two min_two max_three min_three max_four min_four   -- for this text's walks alone
set_option linter.unusedVariables false
set_option linter.unusedSimpArgs false

/-! ### value_Compare: function 26 -/
def value_Compare.f (k : Nat) (a0_0 : Int) (a0_1 : Int) (a0_2 : ByteArray) (a1_0 : Int) (a1_1 : Int) (a1_2 : ByteArray) : Option (Int) := (cmp_Compare_int.f a0_0 a1_0).bind fun t110 => ((cmp_Compare_int.f a0_1 a1_1).bind fun t111 => ((strings_Compare.f a0_2 a1_2).bind fun t112 => ((cmp_Or_int.f k (([t110, t111, t112] : List Int))).bind fun t116 => (some t116))))
theorem value_Compare.mono : ∀ a0 a1 a2 a3 a4 a5 k, LeO (value_Compare.f k a0 a1 a2 a3 a4 a5) (value_Compare.f (k + 1) a0 a1 a2 a3 a4 a5) := by
  intro a0 a1 a2 a3 a4 a5 k
  unfold value_Compare.f
  repeat' first
      | (with_reducible exact cmp_Or_int.mono _ _)
      | (with_reducible exact LeO.refl _)
      | (with_reducible exact LeO.none _)
      | (with_reducible refine LeO.ite ?_ ?_)
      | (with_reducible refine LeO.bind ?_ (fun _ => ?_))
      | exact cmp_Or_int.mono _ _
      | exact LeO.none _
      | refine LeO.ite ?_ ?_
      | refine LeO.bind ?_ (fun _ => ?_)
def value_Compare.T1 : Bool × List (List Nat × List Nat) := (true, [([], []), ([0], [0]), ([], []), ([2], [2]), ([1, 3], [1, 3]), ([], []), ([5], [5]), ([], []), ([7], [7]), ([6, 8, 4], [6, 8]), ([], []), ([10], [10]), ([], []), ([12], [12]), ([11, 13, 9], [11, 13]), ([4, 9, 14], [4, 9, 14]), ([15, 14], [15]), ([16, 16, 0, 1, 2, 3, 4, 5, 6, 7, 8, 9, 10, 11, 12, 13, 14, 15, 16], [16])])
def value_Compare.B1 : List Nat := [0, 1, 0, 4, 15, 0, 32, 0, 128, 511, 0, 1024, 0, 4096, 16383, 32767, 65535, 131071]
theorem value_Compare.tab1 : rtab .any (opsOf Try.f26 1) = value_Compare.T1 := by kernel_rfl
theorem value_Compare.bits1 : waitsOk value_Compare.T1.2 value_Compare.B1 = true := by kernel_rfl
set_option maxHeartbeats 8000000 in
set_option maxRecDepth 100000 in
theorem value_Compare.calls (k : Nat) (a0_0 : Int) (a0_1 : Int) (a0_2 : ByteArray) (a1_0 : Int) (a1_1 : Int) (a1_2 : ByteArray) (r : Int) (w : World) (h : value_Compare.f k a0_0 a0_1 a0_2 a1_0 a1_1 a1_2 = some r) :
    Calls Try.prog 26 #[.agg #[.int .i64 a0_0, .int .i64 a0_1, .string a0_2], .agg #[.int .i64 a1_0, .int .i64 a1_1, .string a1_2]] w fun e w' => e = .returned (.int .i64 r) ∧ Below w.heap.size w w' := by
  have hu23 := Try.underlying23
  have HB := Aside0.mk (Below.refl w.heap.size w)
  have H : ((cmp_Compare_int.f a0_0 a1_0).bind fun t110 => ((cmp_Compare_int.f a0_1 a1_1).bind fun t111 => ((strings_Compare.f a0_2 a1_2).bind fun t112 => ((cmp_Or_int.f k (([t110, t111, t112] : List Int))).bind fun t116 => (some t116))))) = some r := h
  clear h
  replace H := Option.bind_eq_some_iff.mp H
  obtain ⟨t110, A30, H⟩ := H
  replace H : ((cmp_Compare_int.f a0_1 a1_1).bind fun t111 => ((strings_Compare.f a0_2 a1_2).bind fun t112 => ((cmp_Or_int.f k (([t110, t111, t112] : List Int))).bind fun t116 => (some t116)))) = some r := H
  have A3 := Aside0.mk A30
  clear A30
  replace H := Option.bind_eq_some_iff.mp H
  obtain ⟨t111, A40, H⟩ := H
  replace H : ((strings_Compare.f a0_2 a1_2).bind fun t112 => ((cmp_Or_int.f k (([t110, t111, t112] : List Int))).bind fun t116 => (some t116))) = some r := H
  have A4 := Aside0.mk A40
  clear A40
  replace H := Option.bind_eq_some_iff.mp H
  obtain ⟨t112, A50, H⟩ := H
  replace H : ((cmp_Or_int.f k (([t110, t111, t112] : List Int))).bind fun t116 => (some t116)) = some r := H
  have A5 := Aside0.mk A50
  clear A50
  obtain ⟨y113, hy113⟩ : ∃ y_ : List Int, y_ = (([t110, t111, t112] : List Int)) := ⟨_, rfl⟩
  replace H : ((cmp_Or_int.f k y113).bind fun t116 => (some t116)) = some r := by first | (rw [hy113]; with_reducible exact H) | (have H2_ := (Option.bind_some _ _).symm.trans H; rw [hy113]; with_reducible exact H2_) | (have H2_ := (Option.bind_some _ _).symm.trans H; with_reducible exact H2_) | with_reducible exact H | (rw [hy113]; exact H) | exact H
  have Ny113 := Aside0.mk hy113
  clear hy113
  replace H := Option.bind_eq_some_iff.mp H
  obtain ⟨t116, A60, H⟩ := H
  replace H : (some t116) = some r := H
  have A6 := Aside0.mk A60
  clear A60
  obtain rfl := Option.some.inj H
  go_enter Try.func26, Try.ntmps26
  try go_wp2_with (first | ((with_reducible refine gate_dst (N := 2) rfl ?_); refine box_event ?hg (N := 2) ?hd (cs := #[.int .i64 a0_0, .int .i64 a0_1, .string a0_2]) (t := 23) ?hr ?_; (case hd => rfl); (case hg => rfl); (case hr => first | (go_simp; done) | (go_simp; rfl)); intro gb108 hg w7 hbox hb; have n0_ := Aside0.mk (below_step (by repeat (first | (with_reducible first | exact HB.out | apply below_alloc | apply pw_below_drewN | apply below_drew1) | exact HB.out)) hb); have n1_ := Aside0.mk (hbox); have n2_ := Aside0.mk ((by rw [hg]; exact (below_size (by repeat (first | (with_reducible first | exact HB.out | apply below_alloc | apply pw_below_drewN | apply below_drew1) | exact HB.out))) : w.heap.size ≤ gb108)); have n3_ := Aside0.mk ((by rw [hg]; exact (below_size (by repeat (first | (with_reducible first | exact HB.out | apply below_alloc | apply pw_below_drewN | apply below_drew1) | exact HB.out))) : w.heap.size ≤ gb108)); clear HB; have HB := n0_; have BK108 := n1_; have GW108 := n2_; have GE108 := n3_; clear n0_ n1_ n2_ n3_; clear hb hbox hg) | ((with_reducible refine gate_dst (N := 3) rfl ?_); refine box_event ?hg (N := 3) ?hd (cs := #[.int .i64 a1_0, .int .i64 a1_1, .string a1_2]) (t := 23) ?hr ?_; (case hd => rfl); (case hg => rfl); (case hr => first | (go_simp; done) | (go_simp; rfl)); intro gb109 hg w8 hbox hb; have n0_ := Aside0.mk (blk_below (g := gb108) (o := .cells #[.int .i64 a0_0, .int .i64 a0_1, .string a0_2] 23 (0, 0)) (by (with_reducible repeat (first | refine blk_drewN ?_ _ | refine blk_drew ?_ | refine blk_alloc ?_ _)); exact BK108.out) hb); have n1_ := Aside0.mk (below_step (by repeat (first | (with_reducible first | exact HB.out | apply below_alloc | apply pw_below_drewN | apply below_drew1 | refine below_set ?_ GE108.out) | exact HB.out)) hb); have n2_ := Aside0.mk (hbox); have n3_ := Aside0.mk ((by rw [hg]; exact (below_size (by repeat (first | (with_reducible first | exact HB.out | apply below_alloc | apply pw_below_drewN | apply below_drew1 | refine below_set ?_ GE108.out) | exact HB.out))) : w.heap.size ≤ gb109)); have n4_ := Aside0.mk ((by rw [hg]; exact (below_size (by repeat (first | (with_reducible first | exact HB.out | apply below_alloc | apply pw_below_drewN | apply below_drew1 | refine below_set ?_ GE108.out) | exact HB.out))) : w.heap.size ≤ gb109)); have n5_ := Aside0.mk ((by rw [hg]; exact Nat.ne_of_lt (blk_lt (g := gb108) (o := .cells #[.int .i64 a0_0, .int .i64 a0_1, .string a0_2] 23 (0, 0)) (by (with_reducible repeat (first | refine blk_drewN ?_ _ | refine blk_drew ?_ | refine blk_alloc ?_ _)); exact BK108.out)) : gb108 ≠ gb109)); have n6_ := Aside0.mk ((by rw [hg]; exact Nat.ne_of_gt (blk_lt (g := gb108) (o := .cells #[.int .i64 a0_0, .int .i64 a0_1, .string a0_2] 23 (0, 0)) (by (with_reducible repeat (first | refine blk_drewN ?_ _ | refine blk_drew ?_ | refine blk_alloc ?_ _)); exact BK108.out)) : gb109 ≠ gb108)); clear BK108; clear HB; have BK108 := n0_; have HB := n1_; have BK109 := n2_; have GW109 := n3_; have GE109 := n4_; have NB108_109 := n5_; have NB109_108 := n6_; clear n0_ n1_ n2_ n3_ n4_ n5_ n6_; clear hb hbox hg))
  have n0_ := Aside0.mk (blk_drew BK108.out)
  have n1_ := Aside0.mk (blk_drew BK109.out)
  have n2_ := Aside0.mk (below_drew1 HB.out)
  clear BK108
  clear BK109
  clear HB
  have BK108 := n0_
  have BK109 := n1_
  have HB := n2_
  clear n0_ n1_ n2_
  refine start_ (n := 18) (S := fun w' => w'.cell? ⟨gb108, 0, none⟩ = some (.int .i64 a0_0) ∧ w'.cell? ⟨gb108, 1, none⟩ = some (.int .i64 a0_1) ∧ w'.cell? ⟨gb108, 2, none⟩ = some (.string a0_2) ∧ w'.cell? ⟨gb109, 0, none⟩ = some (.int .i64 a1_0) ∧ w'.cell? ⟨gb109, 1, none⟩ = some (.int .i64 a1_1) ∧ w'.cell? ⟨gb109, 2, none⟩ = some (.string a1_2)) (ds := []) #[false, false, false, false, false, false, false, false, false, false, false, false, false, false, false, false, false, false] (by kernel_rfl) rfl rfl ⟨(blk_cell BK108.out 0).trans rfl, (blk_cell BK108.out 1).trans rfl, (blk_cell BK108.out 2).trans rfl, (blk_cell BK109.out 0).trans rfl, (blk_cell BK109.out 1).trans rfl, (blk_cell BK109.out 2).trans rfl⟩ (fun hHeld => ?_); refine with_tabW value_Compare.tab1 value_Compare.bits1 (fun HT_ HW_ => ?_)
  generalize w8.drew = w9 at BK108 BK109 HB hHeld ⊢
  refine pure_ (i := 0) (N := some 5) (v := ?_) (a' := ?_) #[true, false, false, false, false, false, false, false, false, false, false, false, false, false, false, false, false, false] rfl rfl (any_of HT_.out (by kernel_rfl)) (fun _ _ _ h => h) (Or.inl ⟨by rfl, ?_⟩) ?_ ?_
  rotate_left
  · intro w'
    go_simp
    with_reducible rfl
  rotate_left
  · simp only [Act.put, List.setIfInBounds_toArray, List.set_cons_zero, List.set_cons_succ, i64_w, i32_w]
    rfl
  refine pure_ (i := 2) (N := some 7) (v := ?_) (a' := ?_) #[true, false, true, false, false, false, false, false, false, false, false, false, false, false, false, false, false, false] rfl rfl (any_of HT_.out (by kernel_rfl)) (fun _ _ _ h => h) (Or.inl ⟨by rfl, ?_⟩) ?_ ?_
  rotate_left
  · intro w'
    go_simp
    with_reducible rfl
  rotate_left
  · simp only [Act.put, List.setIfInBounds_toArray, List.set_cons_zero, List.set_cons_succ, i64_w, i32_w]
    rfl
  refine pure_ (i := 5) (N := some 10) (v := ?_) (a' := ?_) #[true, false, true, false, false, true, false, false, false, false, false, false, false, false, false, false, false, false] rfl rfl (any_of HT_.out (by kernel_rfl)) (fun _ _ _ h => h) (Or.inl ⟨by rfl, ?_⟩) ?_ ?_
  rotate_left
  · intro w'
    go_simp
    with_reducible rfl
  rotate_left
  · simp only [Act.put, List.setIfInBounds_toArray, List.set_cons_zero, List.set_cons_succ, i64_w, i32_w]
    rfl
  refine pure_ (i := 7) (N := some 12) (v := ?_) (a' := ?_) #[true, false, true, false, false, true, false, true, false, false, false, false, false, false, false, false, false, false] rfl rfl (any_of HT_.out (by kernel_rfl)) (fun _ _ _ h => h) (Or.inl ⟨by rfl, ?_⟩) ?_ ?_
  rotate_left
  · intro w'
    go_simp
    with_reducible rfl
  rotate_left
  · simp only [Act.put, List.setIfInBounds_toArray, List.set_cons_zero, List.set_cons_succ, i64_w, i32_w]
    rfl
  refine pure_ (i := 10) (N := some 15) (v := ?_) (a' := ?_) #[true, false, true, false, false, true, false, true, false, false, true, false, false, false, false, false, false, false] rfl rfl (any_of HT_.out (by kernel_rfl)) (fun _ _ _ h => h) (Or.inl ⟨by rfl, ?_⟩) ?_ ?_
  rotate_left
  · intro w'
    go_simp
    with_reducible rfl
  rotate_left
  · simp only [Act.put, List.setIfInBounds_toArray, List.set_cons_zero, List.set_cons_succ, i64_w, i32_w]
    rfl
  refine pure_ (i := 12) (N := some 17) (v := ?_) (a' := ?_) #[true, false, true, false, false, true, false, true, false, false, true, false, true, false, false, false, false, false] rfl rfl (any_of HT_.out (by kernel_rfl)) (fun _ _ _ h => h) (Or.inl ⟨by rfl, ?_⟩) ?_ ?_
  rotate_left
  · intro w'
    go_simp
    with_reducible rfl
  rotate_left
  · simp only [Act.put, List.setIfInBounds_toArray, List.set_cons_zero, List.set_cons_succ, i64_w, i32_w]
    rfl
  refine take_ (i := 1) (N := some 6) (v := ?_) (a' := ?_) #[true, true, true, false, false, true, false, true, false, false, true, false, true, false, false, false, false, false] rfl rfl (take_ofW HT_.out HW_.out (by kernel_rfl)) (fun _ _ _ h => h) (Or.inl ⟨by rfl, ?_⟩) hHeld ?_ ?_
  rotate_left
  · rintro w' ⟨s0, s1, s2, s3, s4, s5⟩
    go_simp
    with_reducible rfl
  rotate_left
  · simp only [Act.put, List.setIfInBounds_toArray, List.set_cons_zero, List.set_cons_succ, i64_w, i32_w]
    rfl
  refine take_ (i := 3) (N := some 8) (v := ?_) (a' := ?_) #[true, true, true, true, false, true, false, true, false, false, true, false, true, false, false, false, false, false] rfl rfl (take_ofW HT_.out HW_.out (by kernel_rfl)) (fun _ _ _ h => h) (Or.inl ⟨by rfl, ?_⟩) hHeld ?_ ?_
  rotate_left
  · rintro w' ⟨s0, s1, s2, s3, s4, s5⟩
    go_simp
    with_reducible rfl
  rotate_left
  · simp only [Act.put, List.setIfInBounds_toArray, List.set_cons_zero, List.set_cons_succ, i64_w, i32_w]
    rfl
  refine take_ (i := 6) (N := some 11) (v := ?_) (a' := ?_) #[true, true, true, true, false, true, true, true, false, false, true, false, true, false, false, false, false, false] rfl rfl (take_ofW HT_.out HW_.out (by kernel_rfl)) (fun _ _ _ h => h) (Or.inl ⟨by rfl, ?_⟩) hHeld ?_ ?_
  rotate_left
  · rintro w' ⟨s0, s1, s2, s3, s4, s5⟩
    go_simp
    with_reducible rfl
  rotate_left
  · simp only [Act.put, List.setIfInBounds_toArray, List.set_cons_zero, List.set_cons_succ, i64_w, i32_w]
    rfl
  refine take_ (i := 8) (N := some 13) (v := ?_) (a' := ?_) #[true, true, true, true, false, true, true, true, true, false, true, false, true, false, false, false, false, false] rfl rfl (take_ofW HT_.out HW_.out (by kernel_rfl)) (fun _ _ _ h => h) (Or.inl ⟨by rfl, ?_⟩) hHeld ?_ ?_
  rotate_left
  · rintro w' ⟨s0, s1, s2, s3, s4, s5⟩
    go_simp
    with_reducible rfl
  rotate_left
  · simp only [Act.put, List.setIfInBounds_toArray, List.set_cons_zero, List.set_cons_succ, i64_w, i32_w]
    rfl
  refine take_ (i := 11) (N := some 16) (v := ?_) (a' := ?_) #[true, true, true, true, false, true, true, true, true, false, true, true, true, false, false, false, false, false] rfl rfl (take_ofW HT_.out HW_.out (by kernel_rfl)) (fun _ _ _ h => h) (Or.inl ⟨by rfl, ?_⟩) hHeld ?_ ?_
  rotate_left
  · rintro w' ⟨s0, s1, s2, s3, s4, s5⟩
    go_simp
    with_reducible rfl
  rotate_left
  · simp only [Act.put, List.setIfInBounds_toArray, List.set_cons_zero, List.set_cons_succ, i64_w, i32_w]
    rfl
  refine take_ (i := 13) (N := some 18) (v := ?_) (a' := ?_) #[true, true, true, true, false, true, true, true, true, false, true, true, true, true, false, false, false, false] rfl rfl (take_ofW HT_.out HW_.out (by kernel_rfl)) (fun _ _ _ h => h) (Or.inl ⟨by rfl, ?_⟩) hHeld ?_ ?_
  rotate_left
  · rintro w' ⟨s0, s1, s2, s3, s4, s5⟩
    go_simp
    with_reducible rfl
  rotate_left
  · simp only [Act.put, List.setIfInBounds_toArray, List.set_cons_zero, List.set_cons_succ, i64_w, i32_w]
    rfl
  refine one_ (i := 4) (N := some 9) #[true, true, true, true, true, true, true, true, true, false, true, true, true, true, false, false, false, false] rfl rfl (one_of HT_.out (by kernel_rfl)) (by decide) (fun K hK => ?_)
  refine goes_ Try.func46 (by kernel_rfl) rfl #[.int .i64 a0_0, .int .i64 a1_0] (by rfl) rfl rfl (by (try simp only [List.map_toArray, List.map_cons, List.map_nil]); first | done | rfl | (simp only [List.length_drop, List.length_take]; rfl)) ?_
  with_reducible refine (cmp_Compare_int.calls a0_0 a1_0 t110 _ A3.out).mono ?_
  rintro e w' ⟨rfl, ⟨nd, rfl⟩⟩
  refine ⟨_, rfl, ?_⟩
  refine hK.out _ _ ⟨(blk_cell BK108.out 0).trans rfl, (blk_cell BK108.out 1).trans rfl, (blk_cell BK108.out 2).trans rfl, (blk_cell BK109.out 0).trans rfl, (blk_cell BK109.out 1).trans rfl, (blk_cell BK109.out 2).trans rfl⟩ (fun hHeld => ?_)
  clear hK K
  refine norm_ (a' := ?_) ?_ ?_
  rotate_left
  · show Act.put _ (some 9) _ = _
    simp only [Act.put, List.setIfInBounds_toArray, List.set_cons_zero, List.set_cons_succ, i64_w, i32_w]
    rfl
  refine one_ (i := 9) (N := some 14) #[true, true, true, true, true, true, true, true, true, true, true, true, true, true, false, false, false, false] rfl rfl (one_of HT_.out (by kernel_rfl)) (by decide) (fun K hK => ?_)
  refine goes_ Try.func46 (by kernel_rfl) rfl #[.int .i64 a0_1, .int .i64 a1_1] (by rfl) rfl rfl (by (try simp only [List.map_toArray, List.map_cons, List.map_nil]); first | done | rfl | (simp only [List.length_drop, List.length_take]; rfl)) ?_
  with_reducible refine (cmp_Compare_int.calls a0_1 a1_1 t111 _ A4.out).mono ?_
  rintro e w' ⟨rfl, ⟨nd, rfl⟩⟩
  refine ⟨_, rfl, ?_⟩
  refine hK.out _ _ ⟨(blk_cell BK108.out 0).trans rfl, (blk_cell BK108.out 1).trans rfl, (blk_cell BK108.out 2).trans rfl, (blk_cell BK109.out 0).trans rfl, (blk_cell BK109.out 1).trans rfl, (blk_cell BK109.out 2).trans rfl⟩ (fun hHeld => ?_)
  clear hK K
  refine norm_ (a' := ?_) ?_ ?_
  rotate_left
  · show Act.put _ (some 14) _ = _
    simp only [Act.put, List.setIfInBounds_toArray, List.set_cons_zero, List.set_cons_succ, i64_w, i32_w]
    rfl
  refine one_ (i := 14) (N := some 19) #[true, true, true, true, true, true, true, true, true, true, true, true, true, true, true, false, false, false] rfl rfl (one_of HT_.out (by kernel_rfl)) (by decide) (fun K hK => ?_)
  refine goes_ Try.func47 (by kernel_rfl) rfl #[.string a0_2, .string a1_2] (by rfl) rfl rfl (by (try simp only [List.map_toArray, List.map_cons, List.map_nil]); first | done | rfl | (simp only [List.length_drop, List.length_take]; rfl)) ?_
  with_reducible refine (strings_Compare.calls a0_2 a1_2 t112 _ A5.out).mono ?_
  rintro e w' ⟨rfl, ⟨nd, rfl⟩⟩
  refine ⟨_, rfl, ?_⟩
  refine hK.out _ _ ⟨(blk_cell BK108.out 0).trans rfl, (blk_cell BK108.out 1).trans rfl, (blk_cell BK108.out 2).trans rfl, (blk_cell BK109.out 0).trans rfl, (blk_cell BK109.out 1).trans rfl, (blk_cell BK109.out 2).trans rfl⟩ (fun hHeld => ?_)
  clear hK K
  refine norm_ (a' := ?_) ?_ ?_
  rotate_left
  · show Act.put _ (some 19) _ = _
    simp only [Act.put, List.setIfInBounds_toArray, List.set_cons_zero, List.set_cons_succ, i64_w, i32_w]
    rfl
  refine one_ (i := 15) (N := some 20) #[true, true, true, true, true, true, true, true, true, true, true, true, true, true, true, true, false, false] rfl rfl (one_of HT_.out (by kernel_rfl)) (by decide) (fun K hK => ?_)
  refine Kd.R_lit_step (Kd.int .i64) _ 3 ?hg (N := 20) ?hd (xs := ([t110, t111, t112] : List Int)) (inner := [.int .i64 t110, .int .i64 t111, .int .i64 t112]) (ok := fun _ => True) (okp := fun _ => True) ?hr ?hp (fun _ hk => hk) trivial (Below.refl _ _) (Nat.le_refl _) (by simp) ?_; (case hd => rfl); (case hg => rfl); (case hr => first | (go_simp; done) | (go_simp; rfl)); (case hp => exact (Reps.one (show Kd.M (Kd.int .i64) _ _ _ t110 [.int .i64 t110] from rfl) (Reps.one (show Kd.M (Kd.int .i64) _ _ _ t111 [.int .i64 t111] from rfl) (Reps.one (show Kd.M (Kd.int .i64) _ _ _ t112 [.int .i64 t112] from rfl) (Reps.none _ _)))))
  intro v114 w10 ho11 hb hg_ hnew_
  clear hg_ hnew_
  (first | rw [← Ny113.out] at ho11 | (simp only [Int.reduceToNat] at ho11; rw [← Ny113.out] at ho11))
  have n0_ := Aside0.mk (Kd.R_lower ho11 (below_size (by repeat (first | (with_reducible first | exact HB.out | apply below_alloc | apply pw_below_drewN | apply below_drew1 | refine below_set ?_ GE108.out | refine below_set ?_ GE109.out) | exact HB.out))))
  have n1_ := Aside0.mk (blk_below (g := gb108) (o := .cells #[.int .i64 a0_0, .int .i64 a0_1, .string a0_2] 23 (0, 0)) (by (with_reducible repeat (first | refine blk_drewN ?_ _ | refine blk_drew ?_ | refine blk_alloc ?_ _)); exact BK108.out) hb)
  have n2_ := Aside0.mk (blk_below (g := gb109) (o := .cells #[.int .i64 a1_0, .int .i64 a1_1, .string a1_2] 23 (0, 0)) (by (with_reducible repeat (first | refine blk_drewN ?_ _ | refine blk_drew ?_ | refine blk_alloc ?_ _)); exact BK109.out) hb)
  have n3_ := Aside0.mk (below_step (by repeat (first | (with_reducible first | exact HB.out | apply below_alloc | apply pw_below_drewN | apply below_drew1 | refine below_set ?_ GE108.out | refine below_set ?_ GE109.out) | exact HB.out)) hb)
  clear BK108
  clear BK109
  clear HB
  have HO115 := n0_
  have BK108 := n1_
  have BK109 := n2_
  have HB := n3_
  clear n0_ n1_ n2_ n3_
  clear hb ho11
  obtain ⟨Ao12, co12, eo12⟩ := Kd.R_slice HO115.out
  (first | subst eo12 | (injection eo12 with f1_ f2_ f3_; have f4_ := f1_.symm; have f5_ := f3_.symm; clear f1_ f2_ f3_; subst f4_; subst f5_))
  refine hK.out _ _ ⟨(blk_cell BK108.out 0).trans rfl, (blk_cell BK108.out 1).trans rfl, (blk_cell BK108.out 2).trans rfl, (blk_cell BK109.out 0).trans rfl, (blk_cell BK109.out 1).trans rfl, (blk_cell BK109.out 2).trans rfl⟩ (fun hHeld => ?_)
  clear hK K
  refine norm_ (a' := ?_) ?_ ?_
  rotate_left
  · show Act.put _ (some 20) _ = _
    simp only [Act.put, List.setIfInBounds_toArray, List.set_cons_zero, List.set_cons_succ, i64_w, i32_w]
    rfl
  refine one_ (i := 16) (N := some 21) #[true, true, true, true, true, true, true, true, true, true, true, true, true, true, true, true, true, false] rfl rfl (one_of HT_.out (by kernel_rfl)) (by decide) (fun K hK => ?_)
  refine goes_ Try.func45 (by kernel_rfl) rfl #[.slice Ao12 y113.length co12] (by rfl) rfl rfl (by (try simp only [List.map_toArray, List.map_cons, List.map_nil]); first | done | rfl | (simp only [List.length_drop, List.length_take]; rfl)) ?_
  with_reducible refine (cmp_Or_int.calls k _ _ y113 t116 _ ?side1 ?side2 A6.out).mono ?_
  (case side1 => repeat (first | exact (Kd.R_reads' HO115.out).2.2 | (with_reducible refine Kd.C_alloc ?_ _) | (with_reducible refine Kd.C_drewN ?_ _) | (with_reducible refine Kd.C_drew ?_)))
  (case side2 => exact (Kd.R_reads' HO115.out).2.1)
  rintro e w' ⟨rfl, ⟨nd, rfl⟩⟩
  refine ⟨_, rfl, ?_⟩
  refine hK.out _ _ ⟨(blk_cell BK108.out 0).trans rfl, (blk_cell BK108.out 1).trans rfl, (blk_cell BK108.out 2).trans rfl, (blk_cell BK109.out 0).trans rfl, (blk_cell BK109.out 1).trans rfl, (blk_cell BK109.out 2).trans rfl⟩ (fun hHeld => ?_)
  clear hK K
  refine norm_ (a' := ?_) ?_ ?_
  rotate_left
  · show Act.put _ (some 21) _ = _
    simp only [Act.put, List.setIfInBounds_toArray, List.set_cons_zero, List.set_cons_succ, i64_w, i32_w]
    rfl
  refine pure_ (i := 17) (N := some 4) (v := ?_) (a' := ?_) #[true, true, true, true, true, true, true, true, true, true, true, true, true, true, true, true, true, true] rfl rfl (any_of HT_.out (by kernel_rfl)) (fun _ _ _ h => h) (Or.inl ⟨by rfl, ?_⟩) ?_ ?_
  rotate_left
  · intro w'
    go_simp
    with_reducible rfl
  rotate_left
  · simp only [Act.put, List.setIfInBounds_toArray, List.set_cons_zero, List.set_cons_succ, i64_w, i32_w]
    rfl
  refine done_ (done_of HT_.out (by kernel_rfl)) ?_
  try go_wp2
  go_ret
  exact ⟨by first | rfl | (simp [errW_none, errW_some] <;> rfl) | (simp [*, errW_none, errW_some] <;> rfl), by repeat (first | (with_reducible first | exact HB.out | apply below_alloc | apply pw_below_drewN | apply below_drew1 | refine below_set ?_ GE108.out | refine below_set ?_ GE109.out) | exact HB.out)⟩

end Go.Proofs.Ytojefdnngkcaoaa.G
end

section
-- Written by a program of this session (wip/tools/myprint.py), over the kit's print.
namespace Go.Proofs.Ytojefdnngkcaoaa.G
open Go.RowKit Go.Proofs.YtojefdnngkcaoaaW.PrintWords Go.Proofs.YtojefdnngkcaoaaW.PrintLast Go.Proofs.YtojefdnngkcaoaaW.PrintMore
attribute [local go_sem] max2_int min2_int max_two min_two max_three min_three max_four min_four   -- for this text's walks alone
set_option linter.unusedVariables false
set_option linter.unusedSimpArgs false

/-! ### rosetteref04_Right: function 25 -/
def rosetteref04_Right.f (a0_0 : Int) (a0_1 : Int) (a0_2 : ByteArray) : Option (Bool) := if a0_0 = 1 then (some (a0_2.toList == ([] : List UInt8))) else (if a0_0 = 2 then (if a0_1 = 0 then (some (decide ((a0_2.size : Int) ≤ 64))) else (some false)) else (if a0_0 = 3 then (if a0_2.toList = ([] : List UInt8) then (if a0_1 ≥ 0 then (some (decide (a0_1 ≤ 1))) else (some false)) else (some false)) else (some false)))
set_option maxHeartbeats 8000000 in
set_option maxRecDepth 100000 in
theorem rosetteref04_Right.calls (a0_0 : Int) (a0_1 : Int) (a0_2 : ByteArray) (r : Bool) (w : World) (h : rosetteref04_Right.f a0_0 a0_1 a0_2 = some r) :
    Calls Try.prog 25 #[.agg #[.int .i64 a0_0, .int .i64 a0_1, .string a0_2]] w fun e w' => e = .returned (.bool r) ∧ Below w.heap.size w w' := by
  have hu23 := Try.underlying23
  have HB := Aside0.mk (Below.refl w.heap.size w)
  have H : (if a0_0 = 1 then (some (a0_2.toList == ([] : List UInt8))) else (if a0_0 = 2 then (if a0_1 = 0 then (some (decide ((a0_2.size : Int) ≤ 64))) else (some false)) else (if a0_0 = 3 then (if a0_2.toList = ([] : List UInt8) then (if a0_1 ≥ 0 then (some (decide (a0_1 ≤ 1))) else (some false)) else (some false)) else (some false)))) = some r := h
  clear h
  by_cases c2 : a0_0 = 1
  · rw [if_pos c2] at H
    have c2b0 : (a0_0 == 1) = true := beq_iff_eq.mpr c2
    have c2b1 : (a0_0 != 1) = false := bne_eq_false_iff_eq.mpr c2
    clear c2
    obtain rfl := Option.some.inj H
    go_enter Try.func25, Try.ntmps25
    go_wp2_with (first | ((with_reducible refine gate_dst (N := 1) rfl ?_); (try (refine gate_guard (by rfl) ?_; dsimp only)); refine box_event ?hg (N := 1) ?hd (cs := #[.int .i64 a0_0, .int .i64 a0_1, .string a0_2]) (t := 23) ?hr ?_; (case hd => rfl); (case hg => rfl); (case hr => first | (go_simp; done) | (go_simp; rfl)); intro gb180 hg w3 hbox hb; have n0_ := Aside0.mk (below_step (by repeat (first | (with_reducible first | exact HB.out | apply below_alloc | apply pw_below_drewN | apply below_drew1) | exact HB.out)) hb); have n1_ := Aside0.mk (hbox); have n2_ := Aside0.mk ((by rw [hg]; exact (below_size (by repeat (first | (with_reducible first | exact HB.out | apply below_alloc | apply pw_below_drewN | apply below_drew1) | exact HB.out))) : w.heap.size ≤ gb180)); have n3_ := Aside0.mk ((by rw [hg]; exact (below_size (by repeat (first | (with_reducible first | exact HB.out | apply below_alloc | apply pw_below_drewN | apply below_drew1) | exact HB.out))) : w.heap.size ≤ gb180)); clear HB; have HB := n0_; have BK180 := n1_; have GW180 := n2_; have GE180 := n3_; clear n0_ n1_ n2_ n3_; clear hb hbox hg; have hcz4_0 : w3.cell? ⟨gb180, 0, none⟩ = some (.int .i64 a0_0) := (blk_cell BK180.out 0).trans rfl; have hcz4_1 : w3.cell? ⟨gb180, 1, none⟩ = some (.int .i64 a0_1) := (blk_cell BK180.out 1).trans rfl; have hcz4_2 : w3.cell? ⟨gb180, 2, none⟩ = some (.string a0_2) := (blk_cell BK180.out 2).trans rfl; have hfz4_0 := blk_frozen BK180.out 0; have hfz4_1 := blk_frozen BK180.out 1; have hfz4_2 := blk_frozen BK180.out 2))
    go_ret
    exact ⟨by first | rfl | (simp [errW_none, errW_some] <;> rfl) | (simp [*, errW_none, errW_some] <;> rfl), by repeat (first | (with_reducible first | exact HB.out | apply below_alloc | apply pw_below_drewN | apply below_drew1 | refine below_set ?_ GE180.out) | exact HB.out)⟩
  · rw [if_neg c2] at H
    have c2b0 : (a0_0 == 1) = false := beq_eq_false_iff_ne.mpr c2
    have c2b1 : (a0_0 != 1) = true := bne_iff_ne.mpr c2
    by_cases c5 : a0_0 = 2
    · rw [if_pos c5] at H
      have c5b0 : (a0_0 == 2) = true := beq_iff_eq.mpr c5
      have c5b1 : (a0_0 != 2) = false := bne_eq_false_iff_eq.mpr c5
      clear c5
      by_cases c6 : a0_1 = 0
      · rw [if_pos c6] at H
        have c6b0 : (a0_1 == 0) = true := beq_iff_eq.mpr c6
        have c6b1 : (a0_1 != 0) = false := bne_eq_false_iff_eq.mpr c6
        clear c6
        obtain rfl := Option.some.inj H
        go_enter Try.func25, Try.ntmps25
        go_wp2_with (first | ((with_reducible refine gate_dst (N := 1) rfl ?_); (try (refine gate_guard (by rfl) ?_; dsimp only)); refine box_event ?hg (N := 1) ?hd (cs := #[.int .i64 a0_0, .int .i64 a0_1, .string a0_2]) (t := 23) ?hr ?_; (case hd => rfl); (case hg => rfl); (case hr => first | (go_simp; done) | (go_simp; rfl)); intro gb180 hg w7 hbox hb; have n0_ := Aside0.mk (below_step (by repeat (first | (with_reducible first | exact HB.out | apply below_alloc | apply pw_below_drewN | apply below_drew1) | exact HB.out)) hb); have n1_ := Aside0.mk (hbox); have n2_ := Aside0.mk ((by rw [hg]; exact (below_size (by repeat (first | (with_reducible first | exact HB.out | apply below_alloc | apply pw_below_drewN | apply below_drew1) | exact HB.out))) : w.heap.size ≤ gb180)); have n3_ := Aside0.mk ((by rw [hg]; exact (below_size (by repeat (first | (with_reducible first | exact HB.out | apply below_alloc | apply pw_below_drewN | apply below_drew1) | exact HB.out))) : w.heap.size ≤ gb180)); clear HB; have HB := n0_; have BK180 := n1_; have GW180 := n2_; have GE180 := n3_; clear n0_ n1_ n2_ n3_; clear hb hbox hg; have hcz8_0 : w7.cell? ⟨gb180, 0, none⟩ = some (.int .i64 a0_0) := (blk_cell BK180.out 0).trans rfl; have hcz8_1 : w7.cell? ⟨gb180, 1, none⟩ = some (.int .i64 a0_1) := (blk_cell BK180.out 1).trans rfl; have hcz8_2 : w7.cell? ⟨gb180, 2, none⟩ = some (.string a0_2) := (blk_cell BK180.out 2).trans rfl; have hfz8_0 := blk_frozen BK180.out 0; have hfz8_1 := blk_frozen BK180.out 1; have hfz8_2 := blk_frozen BK180.out 2))
        go_ret
        exact ⟨by first | rfl | (simp [errW_none, errW_some] <;> rfl) | (simp [*, errW_none, errW_some] <;> rfl), by repeat (first | (with_reducible first | exact HB.out | apply below_alloc | apply pw_below_drewN | apply below_drew1 | refine below_set ?_ GE180.out) | exact HB.out)⟩
      · rw [if_neg c6] at H
        have c6b0 : (a0_1 == 0) = false := beq_eq_false_iff_ne.mpr c6
        have c6b1 : (a0_1 != 0) = true := bne_iff_ne.mpr c6
        obtain rfl := Option.some.inj H
        go_enter Try.func25, Try.ntmps25
        go_wp2_with (first | ((with_reducible refine gate_dst (N := 1) rfl ?_); (try (refine gate_guard (by rfl) ?_; dsimp only)); refine box_event ?hg (N := 1) ?hd (cs := #[.int .i64 a0_0, .int .i64 a0_1, .string a0_2]) (t := 23) ?hr ?_; (case hd => rfl); (case hg => rfl); (case hr => first | (go_simp; done) | (go_simp; rfl)); intro gb180 hg w9 hbox hb; have n0_ := Aside0.mk (below_step (by repeat (first | (with_reducible first | exact HB.out | apply below_alloc | apply pw_below_drewN | apply below_drew1) | exact HB.out)) hb); have n1_ := Aside0.mk (hbox); have n2_ := Aside0.mk ((by rw [hg]; exact (below_size (by repeat (first | (with_reducible first | exact HB.out | apply below_alloc | apply pw_below_drewN | apply below_drew1) | exact HB.out))) : w.heap.size ≤ gb180)); have n3_ := Aside0.mk ((by rw [hg]; exact (below_size (by repeat (first | (with_reducible first | exact HB.out | apply below_alloc | apply pw_below_drewN | apply below_drew1) | exact HB.out))) : w.heap.size ≤ gb180)); clear HB; have HB := n0_; have BK180 := n1_; have GW180 := n2_; have GE180 := n3_; clear n0_ n1_ n2_ n3_; clear hb hbox hg; have hcz10_0 : w9.cell? ⟨gb180, 0, none⟩ = some (.int .i64 a0_0) := (blk_cell BK180.out 0).trans rfl; have hcz10_1 : w9.cell? ⟨gb180, 1, none⟩ = some (.int .i64 a0_1) := (blk_cell BK180.out 1).trans rfl; have hcz10_2 : w9.cell? ⟨gb180, 2, none⟩ = some (.string a0_2) := (blk_cell BK180.out 2).trans rfl; have hfz10_0 := blk_frozen BK180.out 0; have hfz10_1 := blk_frozen BK180.out 1; have hfz10_2 := blk_frozen BK180.out 2))
        go_ret
        exact ⟨by first | rfl | (simp [errW_none, errW_some] <;> rfl) | (simp [*, errW_none, errW_some] <;> rfl), by repeat (first | (with_reducible first | exact HB.out | apply below_alloc | apply pw_below_drewN | apply below_drew1 | refine below_set ?_ GE180.out) | exact HB.out)⟩
    · rw [if_neg c5] at H
      have c5b0 : (a0_0 == 2) = false := beq_eq_false_iff_ne.mpr c5
      have c5b1 : (a0_0 != 2) = true := bne_iff_ne.mpr c5
      by_cases c11 : a0_0 = 3
      · rw [if_pos c11] at H
        have c11b0 : (a0_0 == 3) = true := beq_iff_eq.mpr c11
        have c11b1 : (a0_0 != 3) = false := bne_eq_false_iff_eq.mpr c11
        clear c11
        by_cases c12 : a0_2.toList = ([] : List UInt8)
        · rw [if_pos c12] at H
          have c12b0 : (a0_2.toList == ([] : List UInt8)) = true := beq_iff_eq.mpr c12
          have c12b1 : (a0_2.toList != ([] : List UInt8)) = false := bne_eq_false_iff_eq.mpr c12
          clear c12
          by_cases c13 : a0_1 ≥ 0
          · rw [if_pos c13] at H
            have c13b0 : decide (0 ≤ a0_1) = true := decide_eq_true c13
            clear c13
            obtain rfl := Option.some.inj H
            go_enter Try.func25, Try.ntmps25
            go_wp2_with (first | ((with_reducible refine gate_dst (N := 1) rfl ?_); (try (refine gate_guard (by rfl) ?_; dsimp only)); refine box_event ?hg (N := 1) ?hd (cs := #[.int .i64 a0_0, .int .i64 a0_1, .string a0_2]) (t := 23) ?hr ?_; (case hd => rfl); (case hg => rfl); (case hr => first | (go_simp; done) | (go_simp; rfl)); intro gb180 hg w14 hbox hb; have n0_ := Aside0.mk (below_step (by repeat (first | (with_reducible first | exact HB.out | apply below_alloc | apply pw_below_drewN | apply below_drew1) | exact HB.out)) hb); have n1_ := Aside0.mk (hbox); have n2_ := Aside0.mk ((by rw [hg]; exact (below_size (by repeat (first | (with_reducible first | exact HB.out | apply below_alloc | apply pw_below_drewN | apply below_drew1) | exact HB.out))) : w.heap.size ≤ gb180)); have n3_ := Aside0.mk ((by rw [hg]; exact (below_size (by repeat (first | (with_reducible first | exact HB.out | apply below_alloc | apply pw_below_drewN | apply below_drew1) | exact HB.out))) : w.heap.size ≤ gb180)); clear HB; have HB := n0_; have BK180 := n1_; have GW180 := n2_; have GE180 := n3_; clear n0_ n1_ n2_ n3_; clear hb hbox hg; have hcz15_0 : w14.cell? ⟨gb180, 0, none⟩ = some (.int .i64 a0_0) := (blk_cell BK180.out 0).trans rfl; have hcz15_1 : w14.cell? ⟨gb180, 1, none⟩ = some (.int .i64 a0_1) := (blk_cell BK180.out 1).trans rfl; have hcz15_2 : w14.cell? ⟨gb180, 2, none⟩ = some (.string a0_2) := (blk_cell BK180.out 2).trans rfl; have hfz15_0 := blk_frozen BK180.out 0; have hfz15_1 := blk_frozen BK180.out 1; have hfz15_2 := blk_frozen BK180.out 2))
            go_ret
            exact ⟨by first | rfl | (simp [errW_none, errW_some] <;> rfl) | (simp [*, errW_none, errW_some] <;> rfl), by repeat (first | (with_reducible first | exact HB.out | apply below_alloc | apply pw_below_drewN | apply below_drew1 | refine below_set ?_ GE180.out) | exact HB.out)⟩
          · rw [if_neg c13] at H
            have c13b0 : decide (0 ≤ a0_1) = false := decide_eq_false c13
            clear c13
            obtain rfl := Option.some.inj H
            go_enter Try.func25, Try.ntmps25
            go_wp2_with (first | ((with_reducible refine gate_dst (N := 1) rfl ?_); (try (refine gate_guard (by rfl) ?_; dsimp only)); refine box_event ?hg (N := 1) ?hd (cs := #[.int .i64 a0_0, .int .i64 a0_1, .string a0_2]) (t := 23) ?hr ?_; (case hd => rfl); (case hg => rfl); (case hr => first | (go_simp; done) | (go_simp; rfl)); intro gb180 hg w16 hbox hb; have n0_ := Aside0.mk (below_step (by repeat (first | (with_reducible first | exact HB.out | apply below_alloc | apply pw_below_drewN | apply below_drew1) | exact HB.out)) hb); have n1_ := Aside0.mk (hbox); have n2_ := Aside0.mk ((by rw [hg]; exact (below_size (by repeat (first | (with_reducible first | exact HB.out | apply below_alloc | apply pw_below_drewN | apply below_drew1) | exact HB.out))) : w.heap.size ≤ gb180)); have n3_ := Aside0.mk ((by rw [hg]; exact (below_size (by repeat (first | (with_reducible first | exact HB.out | apply below_alloc | apply pw_below_drewN | apply below_drew1) | exact HB.out))) : w.heap.size ≤ gb180)); clear HB; have HB := n0_; have BK180 := n1_; have GW180 := n2_; have GE180 := n3_; clear n0_ n1_ n2_ n3_; clear hb hbox hg; have hcz17_0 : w16.cell? ⟨gb180, 0, none⟩ = some (.int .i64 a0_0) := (blk_cell BK180.out 0).trans rfl; have hcz17_1 : w16.cell? ⟨gb180, 1, none⟩ = some (.int .i64 a0_1) := (blk_cell BK180.out 1).trans rfl; have hcz17_2 : w16.cell? ⟨gb180, 2, none⟩ = some (.string a0_2) := (blk_cell BK180.out 2).trans rfl; have hfz17_0 := blk_frozen BK180.out 0; have hfz17_1 := blk_frozen BK180.out 1; have hfz17_2 := blk_frozen BK180.out 2))
            go_ret
            exact ⟨by first | rfl | (simp [errW_none, errW_some] <;> rfl) | (simp [*, errW_none, errW_some] <;> rfl), by repeat (first | (with_reducible first | exact HB.out | apply below_alloc | apply pw_below_drewN | apply below_drew1 | refine below_set ?_ GE180.out) | exact HB.out)⟩
        · rw [if_neg c12] at H
          have c12b0 : (a0_2.toList == ([] : List UInt8)) = false := beq_eq_false_iff_ne.mpr c12
          have c12b1 : (a0_2.toList != ([] : List UInt8)) = true := bne_iff_ne.mpr c12
          obtain rfl := Option.some.inj H
          go_enter Try.func25, Try.ntmps25
          go_wp2_with (first | ((with_reducible refine gate_dst (N := 1) rfl ?_); (try (refine gate_guard (by rfl) ?_; dsimp only)); refine box_event ?hg (N := 1) ?hd (cs := #[.int .i64 a0_0, .int .i64 a0_1, .string a0_2]) (t := 23) ?hr ?_; (case hd => rfl); (case hg => rfl); (case hr => first | (go_simp; done) | (go_simp; rfl)); intro gb180 hg w18 hbox hb; have n0_ := Aside0.mk (below_step (by repeat (first | (with_reducible first | exact HB.out | apply below_alloc | apply pw_below_drewN | apply below_drew1) | exact HB.out)) hb); have n1_ := Aside0.mk (hbox); have n2_ := Aside0.mk ((by rw [hg]; exact (below_size (by repeat (first | (with_reducible first | exact HB.out | apply below_alloc | apply pw_below_drewN | apply below_drew1) | exact HB.out))) : w.heap.size ≤ gb180)); have n3_ := Aside0.mk ((by rw [hg]; exact (below_size (by repeat (first | (with_reducible first | exact HB.out | apply below_alloc | apply pw_below_drewN | apply below_drew1) | exact HB.out))) : w.heap.size ≤ gb180)); clear HB; have HB := n0_; have BK180 := n1_; have GW180 := n2_; have GE180 := n3_; clear n0_ n1_ n2_ n3_; clear hb hbox hg; have hcz19_0 : w18.cell? ⟨gb180, 0, none⟩ = some (.int .i64 a0_0) := (blk_cell BK180.out 0).trans rfl; have hcz19_1 : w18.cell? ⟨gb180, 1, none⟩ = some (.int .i64 a0_1) := (blk_cell BK180.out 1).trans rfl; have hcz19_2 : w18.cell? ⟨gb180, 2, none⟩ = some (.string a0_2) := (blk_cell BK180.out 2).trans rfl; have hfz19_0 := blk_frozen BK180.out 0; have hfz19_1 := blk_frozen BK180.out 1; have hfz19_2 := blk_frozen BK180.out 2))
          go_ret
          exact ⟨by first | rfl | (simp [errW_none, errW_some] <;> rfl) | (simp [*, errW_none, errW_some] <;> rfl), by repeat (first | (with_reducible first | exact HB.out | apply below_alloc | apply pw_below_drewN | apply below_drew1 | refine below_set ?_ GE180.out) | exact HB.out)⟩
      · rw [if_neg c11] at H
        have c11b0 : (a0_0 == 3) = false := beq_eq_false_iff_ne.mpr c11
        have c11b1 : (a0_0 != 3) = true := bne_iff_ne.mpr c11
        obtain rfl := Option.some.inj H
        go_enter Try.func25, Try.ntmps25
        go_wp2_with (first | ((with_reducible refine gate_dst (N := 1) rfl ?_); (try (refine gate_guard (by rfl) ?_; dsimp only)); refine box_event ?hg (N := 1) ?hd (cs := #[.int .i64 a0_0, .int .i64 a0_1, .string a0_2]) (t := 23) ?hr ?_; (case hd => rfl); (case hg => rfl); (case hr => first | (go_simp; done) | (go_simp; rfl)); intro gb180 hg w20 hbox hb; have n0_ := Aside0.mk (below_step (by repeat (first | (with_reducible first | exact HB.out | apply below_alloc | apply pw_below_drewN | apply below_drew1) | exact HB.out)) hb); have n1_ := Aside0.mk (hbox); have n2_ := Aside0.mk ((by rw [hg]; exact (below_size (by repeat (first | (with_reducible first | exact HB.out | apply below_alloc | apply pw_below_drewN | apply below_drew1) | exact HB.out))) : w.heap.size ≤ gb180)); have n3_ := Aside0.mk ((by rw [hg]; exact (below_size (by repeat (first | (with_reducible first | exact HB.out | apply below_alloc | apply pw_below_drewN | apply below_drew1) | exact HB.out))) : w.heap.size ≤ gb180)); clear HB; have HB := n0_; have BK180 := n1_; have GW180 := n2_; have GE180 := n3_; clear n0_ n1_ n2_ n3_; clear hb hbox hg; have hcz21_0 : w20.cell? ⟨gb180, 0, none⟩ = some (.int .i64 a0_0) := (blk_cell BK180.out 0).trans rfl; have hcz21_1 : w20.cell? ⟨gb180, 1, none⟩ = some (.int .i64 a0_1) := (blk_cell BK180.out 1).trans rfl; have hcz21_2 : w20.cell? ⟨gb180, 2, none⟩ = some (.string a0_2) := (blk_cell BK180.out 2).trans rfl; have hfz21_0 := blk_frozen BK180.out 0; have hfz21_1 := blk_frozen BK180.out 1; have hfz21_2 := blk_frozen BK180.out 2))
        go_ret
        exact ⟨by first | rfl | (simp [errW_none, errW_some] <;> rfl) | (simp [*, errW_none, errW_some] <;> rfl), by repeat (first | (with_reducible first | exact HB.out | apply below_alloc | apply pw_below_drewN | apply below_drew1 | refine below_set ?_ GE180.out) | exact HB.out)⟩

end Go.Proofs.Ytojefdnngkcaoaa.G
end

section
-- Written by a program of this session (wip/tools/myprint.py), over the kit's print.
namespace Go.Proofs.Ytojefdnngkcaoaa.G
open Go.RowKit Go.Proofs.YtojefdnngkcaoaaW.PrintWords Go.Proofs.YtojefdnngkcaoaaW.PrintLast Go.Proofs.YtojefdnngkcaoaaW.PrintMore
attribute [local go_sem] max2_int min2_int max_two min_two max_three min_three max_four min_four   -- for this text's walks alone
set_option linter.unusedVariables false
set_option linter.unusedSimpArgs false

/-! ### rosetteref04_Put: function 36 -/
def rosetteref04_Put.f (l0 : List Int) (a1_0 : Int) (a1_1 : Int) (a1_2 : ByteArray) : Option (List Int) := (some (([] : List Int) : List Int)).bind fun y216 => (if y216.length + l0.length < 140737488355328 then ((some (y216 ++ l0 : List Int)).bind fun y219 => ((rosetteref04_Right.f a1_0 a1_1 a1_2).bind fun t222 => (if t222 = true then (if y219.length < 140737488355328 then ((some (y219 ++ [(a1_0) % 256] : List Int)).bind fun y223 => (if a1_0 = 1 then ((rosetteref02_PutInt.f y223 a1_1).bind fun t226 => (some t226)) else (if a1_0 = 2 then ((rosetteref02_PutText.f y223 a1_2).bind fun t229 => (some t229)) else (if y223.length < 140737488355328 then (some (y223 ++ [(a1_1) % 256])) else (none))))) else (none)) else (some y219)))) else (none))
set_option maxHeartbeats 8000000 in
set_option maxRecDepth 100000 in
theorem rosetteref04_Put.calls (A0 : Option Addr) (c0 : Nat) (l0 : List Int) (a1_0 : Int) (a1_1 : Int) (a1_2 : ByteArray) (r : List Int) (w : World) (hr0 : Kd.C (Kd.int .u8) w A0 l0.length l0) (hc0 : l0.length ≤ c0) (h : rosetteref04_Put.f l0 a1_0 a1_1 a1_2 = some r) :
    Calls Try.prog 36 #[.slice A0 l0.length c0, .agg #[.int .i64 a1_0, .int .i64 a1_1, .string a1_2]] w fun e w' => ∃ v0_ : Value, e = .returned (v0_) ∧ Kd.R (Kd.int .u8) 5 w' w.heap.size (fun _ => True) v0_ r ∧ Below w.heap.size w w' := by
  have hu23 := Try.underlying23
  have HR0 := Aside0.mk hr0
  have HC0 := Aside0.mk hc0
  clear hr0 hc0
  have HB := Aside0.mk (Below.refl w.heap.size w)
  have H : ((some (([] : List Int) : List Int)).bind fun y216 => (if y216.length + l0.length < 140737488355328 then ((some (y216 ++ l0 : List Int)).bind fun y219 => ((rosetteref04_Right.f a1_0 a1_1 a1_2).bind fun t222 => (if t222 = true then (if y219.length < 140737488355328 then ((some (y219 ++ [(a1_0) % 256] : List Int)).bind fun y223 => (if a1_0 = 1 then ((rosetteref02_PutInt.f y223 a1_1).bind fun t226 => (some t226)) else (if a1_0 = 2 then ((rosetteref02_PutText.f y223 a1_2).bind fun t229 => (some t229)) else (if y223.length < 140737488355328 then (some (y223 ++ [(a1_1) % 256])) else (none))))) else (none)) else (some y219)))) else (none))) = some r := h
  clear h
  obtain ⟨y216, hy216⟩ : ∃ y_ : List Int, y_ = (([] : List Int)) := ⟨_, rfl⟩
  replace H : (if y216.length + l0.length < 140737488355328 then ((some (y216 ++ l0 : List Int)).bind fun y219 => ((rosetteref04_Right.f a1_0 a1_1 a1_2).bind fun t222 => (if t222 = true then (if y219.length < 140737488355328 then ((some (y219 ++ [(a1_0) % 256] : List Int)).bind fun y223 => (if a1_0 = 1 then ((rosetteref02_PutInt.f y223 a1_1).bind fun t226 => (some t226)) else (if a1_0 = 2 then ((rosetteref02_PutText.f y223 a1_2).bind fun t229 => (some t229)) else (if y223.length < 140737488355328 then (some (y223 ++ [(a1_1) % 256])) else (none))))) else (none)) else (some y219)))) else (none)) = some r := by first | (rw [hy216]; with_reducible exact H) | (have H2_ := (Option.bind_some _ _).symm.trans H; rw [hy216]; with_reducible exact H2_) | (have H2_ := (Option.bind_some _ _).symm.trans H; with_reducible exact H2_) | with_reducible exact H | (rw [hy216]; exact H) | exact H
  have Ny216 := Aside0.mk hy216
  clear hy216
  by_cases c3 : y216.length + l0.length < 140737488355328
  · rw [if_pos c3] at H
    have LMc3 := Aside0.mk c3
    clear c3
    obtain ⟨y219, hy219⟩ : ∃ y_ : List Int, y_ = (y216 ++ l0) := ⟨_, rfl⟩
    replace H : ((rosetteref04_Right.f a1_0 a1_1 a1_2).bind fun t222 => (if t222 = true then (if y219.length < 140737488355328 then ((some (y219 ++ [(a1_0) % 256] : List Int)).bind fun y223 => (if a1_0 = 1 then ((rosetteref02_PutInt.f y223 a1_1).bind fun t226 => (some t226)) else (if a1_0 = 2 then ((rosetteref02_PutText.f y223 a1_2).bind fun t229 => (some t229)) else (if y223.length < 140737488355328 then (some (y223 ++ [(a1_1) % 256])) else (none))))) else (none)) else (some y219))) = some r := by first | (rw [hy219]; with_reducible exact H) | (have H2_ := (Option.bind_some _ _).symm.trans H; rw [hy219]; with_reducible exact H2_) | (have H2_ := (Option.bind_some _ _).symm.trans H; with_reducible exact H2_) | with_reducible exact H | (rw [hy219]; exact H) | exact H
    have Ny219 := Aside0.mk hy219
    clear hy219
    replace H := Option.bind_eq_some_iff.mp H
    obtain ⟨t222, A40, H⟩ := H
    replace H : (if t222 = true then (if y219.length < 140737488355328 then ((some (y219 ++ [(a1_0) % 256] : List Int)).bind fun y223 => (if a1_0 = 1 then ((rosetteref02_PutInt.f y223 a1_1).bind fun t226 => (some t226)) else (if a1_0 = 2 then ((rosetteref02_PutText.f y223 a1_2).bind fun t229 => (some t229)) else (if y223.length < 140737488355328 then (some (y223 ++ [(a1_1) % 256])) else (none))))) else (none)) else (some y219)) = some r := H
    have A4 := Aside0.mk A40
    clear A40
    by_cases c5 : t222 = true
    · subst c5
      have H1 : (if y219.length < 140737488355328 then ((some (y219 ++ [(a1_0) % 256] : List Int)).bind fun y223 => (if a1_0 = 1 then ((rosetteref02_PutInt.f y223 a1_1).bind fun t226 => (some t226)) else (if a1_0 = 2 then ((rosetteref02_PutText.f y223 a1_2).bind fun t229 => (some t229)) else (if y223.length < 140737488355328 then (some (y223 ++ [(a1_1) % 256])) else (none))))) else (none)) = some r := by rw [if_pos rfl] at H; exact H
      clear H
      have H := H1
      clear H1
      by_cases c6 : y219.length < 140737488355328
      · rw [if_pos c6] at H
        have LMc6 := Aside0.mk c6
        clear c6
        obtain ⟨y223, hy223⟩ : ∃ y_ : List Int, y_ = (y219 ++ [(a1_0) % 256]) := ⟨_, rfl⟩
        replace H : (if a1_0 = 1 then ((rosetteref02_PutInt.f y223 a1_1).bind fun t226 => (some t226)) else (if a1_0 = 2 then ((rosetteref02_PutText.f y223 a1_2).bind fun t229 => (some t229)) else (if y223.length < 140737488355328 then (some (y223 ++ [(a1_1) % 256])) else (none)))) = some r := by first | (rw [hy223]; with_reducible exact H) | (have H2_ := (Option.bind_some _ _).symm.trans H; rw [hy223]; with_reducible exact H2_) | (have H2_ := (Option.bind_some _ _).symm.trans H; with_reducible exact H2_) | with_reducible exact H | (rw [hy223]; exact H) | exact H
        have Ny223 := Aside0.mk hy223
        clear hy223
        by_cases c7 : a1_0 = 1
        · rw [if_pos c7] at H
          have c7b0 : (a1_0 == 1) = true := beq_iff_eq.mpr c7
          have c7b1 : (a1_0 != 1) = false := bne_eq_false_iff_eq.mpr c7
          clear c7
          replace H := Option.bind_eq_some_iff.mp H
          obtain ⟨t226, A80, H⟩ := H
          replace H : (some t226) = some r := H
          have A8 := Aside0.mk A80
          clear A80
          obtain rfl := Option.some.inj H
          go_enter Try.func36, Try.ntmps36
          go_wp2_with (first | ((with_reducible refine gate_dst (N := 3) rfl ?_); refine box_event ?hg (N := 3) ?hd (cs := #[.int .i64 a1_0, .int .i64 a1_1, .string a1_2]) (t := 23) ?hr ?_; (case hd => rfl); (case hg => rfl); (case hr => first | (go_simp; done) | (go_simp; rfl)); intro gb215 hg w9 hbox hb; have n0_ := Aside0.mk (below_step (by repeat (first | (with_reducible first | exact HB.out | apply below_alloc | apply pw_below_drewN | apply below_drew1) | exact HB.out)) hb); have n1_ := Aside0.mk (hbox); have n2_ := Aside0.mk ((by rw [hg]; exact (below_size (by repeat (first | (with_reducible first | exact HB.out | apply below_alloc | apply pw_below_drewN | apply below_drew1) | exact HB.out))) : w.heap.size ≤ gb215)); have n3_ := Aside0.mk ((by rw [hg]; exact (below_size (by repeat (first | (with_reducible first | exact HB.out | apply below_alloc | apply pw_below_drewN | apply below_drew1) | exact HB.out))) : w.heap.size ≤ gb215)); clear HB; have HB := n0_; have BK215 := n1_; have GW215 := n2_; have GE215 := n3_; clear n0_ n1_ n2_ n3_; clear hb hbox hg) | ((with_reducible refine gate_dst (N := 6) rfl ?_); refine Kd.R_lit (Kd.int .u8) _ 5 ?hg (N := 6) ?hd (xs := ([] : List Int)) (inner := []) (ok := fun _ => True) (okp := fun _ => True) ?hr ?hp (fun _ hk => hk) trivial (Below.refl _ _) (Nat.le_refl _) (by simp) ?_; (case hd => rfl); (case hg => rfl); (case hr => first | (go_simp; done) | (go_simp; rfl)); (case hp => exact (Reps.none _ _)); intro v217 w10 ho11 hb hg_ hnew_; clear hg_ hnew_; (first | rw [← Ny216.out] at ho11 | (simp only [Int.reduceToNat] at ho11; rw [← Ny216.out] at ho11)); have n0_ := Aside0.mk (Kd.R_lower ho11 (below_size (by repeat (first | (with_reducible first | exact HB.out | apply below_alloc | apply pw_below_drewN | apply below_drew1 | refine below_set ?_ GE215.out) | exact HB.out)))); have n1_ := Aside0.mk (blk_below (g := gb215) (o := .cells #[.int .i64 a1_0, .int .i64 a1_1, .string a1_2] 23 (0, 0)) (by (with_reducible repeat (first | refine blk_drewN ?_ _ | refine blk_drew ?_ | refine blk_alloc ?_ _)); exact BK215.out) hb); have n2_ := Aside0.mk (below_step (by repeat (first | (with_reducible first | exact HB.out | apply below_alloc | apply pw_below_drewN | apply below_drew1 | refine below_set ?_ GE215.out) | exact HB.out)) hb); clear BK215; clear HB; have HO218 := n0_; have BK215 := n1_; have HB := n2_; clear n0_ n1_ n2_; clear hb ho11) | ((with_reducible refine gate_builtin (b := .append) (xs := #[.tmp 6, .tmp 7]) rfl ?_); at_builtin; refine Kd.R_append_rows (Kd.int .u8) (w0 := w) w.heap.size rfl (.tmp 6) (.tmp 7) 27 5 (.int .u8 0) 1 rfl Try.underlying27 info5 rfl (by decide) (by decide) v217 y216 l0 _ _ _ (fun _ => True) (fun _ => False) rfl rfl ?aO ?aR (fun _ _ h => h) (fun _ h => h.elim) ?aF ?aB ?aS ?aL ?_; (case aR => repeat (first | exact (Kd.C_below HR0.out HB.out) | (with_reducible refine Kd.C_alloc ?_ _) | (with_reducible refine Kd.C_drewN ?_ _) | (with_reducible refine Kd.C_drew ?_))); (case aB => exact (by repeat (first | (with_reducible first | exact HB.out | apply below_alloc | apply pw_below_drewN | apply below_drew1 | refine below_set ?_ GE215.out) | exact HB.out))); (case aF => exact (fun _ _ => trivial)); (case aO => exact (by (with_reducible repeat (first | apply Kd.R_alloc | apply Kd.R_drewN | apply Kd.R_drew)); exact HO218.out)); (case aS => exact (below_size (by repeat (first | (with_reducible first | exact HB.out | apply below_alloc | apply pw_below_drewN | apply below_drew1 | refine below_set ?_ GE215.out) | exact HB.out)))); (case aL => have := LMc3.out; omega); intro v220 w12 ho hb hg hat; rw [← Ny219.out] at ho; have n0_ := Aside0.mk (blk_grown (g := gb215) (o := .cells #[.int .i64 a1_0, .int .i64 a1_1, .string a1_2] 23 (0, 0)) (by (with_reducible repeat (first | refine blk_drewN ?_ _ | refine blk_drew ?_ | refine blk_alloc ?_ _)); exact BK215.out) hg (Kd.R_ne HO218.out BK215.out (by decide))); have n1_ := Aside0.mk (hb); have n2_ := Aside0.mk (ho); clear BK215; clear HB; clear HO218; have BK215 := n0_; have HB := n1_; have HO221 := n2_; clear n0_ n1_ n2_; clear ho hb hg hat; have hcz13_0 : w12.cell? ⟨gb215, 0, none⟩ = some (.int .i64 a1_0) := (blk_cell BK215.out 0).trans rfl; have hcz13_1 : w12.cell? ⟨gb215, 1, none⟩ = some (.int .i64 a1_1) := (blk_cell BK215.out 1).trans rfl; have hcz13_2 : w12.cell? ⟨gb215, 2, none⟩ = some (.string a1_2) := (blk_cell BK215.out 2).trans rfl; have hfz13_0 := blk_frozen BK215.out 0; have hfz13_1 := blk_frozen BK215.out 1; have hfz13_2 := blk_frozen BK215.out 2) | ((with_reducible refine gate_callee (f := 25) rfl ?_); refine goesL_ (some 10) rfl rfl Try.func25 (by kernel_rfl) rfl #[.agg #[.int .i64 a1_0, .int .i64 a1_1, .string a1_2]] rfl (by (try simp only [List.map_toArray, List.map_cons, List.map_nil]); first | done | rfl | (simp only [List.length_drop, List.length_take]; rfl)) ?_; (with_reducible refine (rosetteref04_Right.calls a1_0 a1_1 a1_2 true _ A4.out).mono ?_); rintro e w14 ⟨rfl, hb⟩; refine ⟨_, rfl, ?_⟩; have n0_ := Aside0.mk (Kd.R_below (by (with_reducible repeat (first | apply Kd.R_alloc | apply Kd.R_drewN | apply Kd.R_drew)); exact HO221.out) hb); have n1_ := Aside0.mk (blk_below (g := gb215) (o := .cells #[.int .i64 a1_0, .int .i64 a1_1, .string a1_2] 23 (0, 0)) (by (with_reducible repeat (first | refine blk_drewN ?_ _ | refine blk_drew ?_ | refine blk_alloc ?_ _)); exact BK215.out) hb); have n2_ := Aside0.mk (below_step (by repeat (first | (with_reducible first | exact HB.out | apply below_alloc | apply pw_below_drewN | apply below_drew1 | refine below_set ?_ GE215.out) | exact HB.out)) hb); clear HO221; clear BK215; clear HB; have HO221 := n0_; have BK215 := n1_; have HB := n2_; clear n0_ n1_ n2_; (try clear hb); (try clear hb2); (try clear hk); (try clear hi); have hcz15_0 : w14.cell? ⟨gb215, 0, none⟩ = some (.int .i64 a1_0) := (blk_cell BK215.out 0).trans rfl; have hcz15_1 : w14.cell? ⟨gb215, 1, none⟩ = some (.int .i64 a1_1) := (blk_cell BK215.out 1).trans rfl; have hcz15_2 : w14.cell? ⟨gb215, 2, none⟩ = some (.string a1_2) := (blk_cell BK215.out 2).trans rfl; have hfz15_0 := blk_frozen BK215.out 0; have hfz15_1 := blk_frozen BK215.out 1; have hfz15_2 := blk_frozen BK215.out 2) | ((with_reducible refine gate_builtin (b := .append) (xs := #[.tmp 13, .tmp 17]) rfl ?_); at_builtin; refine Kd.R_append (Kd.int .u8) (w0 := w) w.heap.size rfl (.tmp 13) (.tmp 17) 27 5 (.int .u8 0) 1 rfl Try.underlying27 info5 rfl (by decide) (by decide) v220 y219 ((a1_0) % 256) [.int .u8 ((a1_0) % 256)] (fun _ => True) (fun _ => False) rfl rfl ?aP (fun _ hk => hk.elim) ?aF ?aO ?aB ?aS ?aL ?_; (case aP => exact rfl); (case aB => exact (by repeat (first | (with_reducible first | exact HB.out | apply below_alloc | apply pw_below_drewN | apply below_drew1 | refine below_set ?_ GE215.out) | exact HB.out))); (case aF => exact (fun _ _ => trivial)); (case aO => exact (by (with_reducible repeat (first | apply Kd.R_alloc | apply Kd.R_drewN | apply Kd.R_drew)); exact HO221.out)); (case aS => exact (below_size (by repeat (first | (with_reducible first | exact HB.out | apply below_alloc | apply pw_below_drewN | apply below_drew1 | refine below_set ?_ GE215.out) | exact HB.out)))); (case aL => have := LMc6.out; omega); intro v224 w16 ho hb hg hat; rw [← Ny223.out] at ho; have n0_ := Aside0.mk (blk_grown (g := gb215) (o := .cells #[.int .i64 a1_0, .int .i64 a1_1, .string a1_2] 23 (0, 0)) (by (with_reducible repeat (first | refine blk_drewN ?_ _ | refine blk_drew ?_ | refine blk_alloc ?_ _)); exact BK215.out) hg (Kd.R_ne HO221.out BK215.out (by decide))); have n1_ := Aside0.mk (hb); have n2_ := Aside0.mk (ho); clear BK215; clear HB; clear HO221; have BK215 := n0_; have HB := n1_; have HO225 := n2_; clear n0_ n1_ n2_; clear ho hb hg hat; have hcz17_0 : w16.cell? ⟨gb215, 0, none⟩ = some (.int .i64 a1_0) := (blk_cell BK215.out 0).trans rfl; have hcz17_1 : w16.cell? ⟨gb215, 1, none⟩ = some (.int .i64 a1_1) := (blk_cell BK215.out 1).trans rfl; have hcz17_2 : w16.cell? ⟨gb215, 2, none⟩ = some (.string a1_2) := (blk_cell BK215.out 2).trans rfl; have hfz17_0 := blk_frozen BK215.out 0; have hfz17_1 := blk_frozen BK215.out 1; have hfz17_2 := blk_frozen BK215.out 2; obtain ⟨Ao18, co18, eo18⟩ := Kd.R_slice HO225.out; subst eo18) | ((with_reducible refine gate_callee (f := 55) rfl ?_); refine goesL_ (some 26) rfl rfl Try.func55 (by kernel_rfl) rfl #[.slice Ao18 y223.length co18, .int .i64 a1_1] rfl (by (try simp only [List.map_toArray, List.map_cons, List.map_nil]); first | done | rfl | (simp only [List.length_drop, List.length_take]; rfl)) ?_; (with_reducible refine (rosetteref02_PutInt.calls _ _ y223 a1_1 t226 _ ?side1 ?side2 A8.out).mono ?_); (case side1 => repeat (first | exact (Kd.R_reads' HO225.out).2.2 | (with_reducible refine Kd.C_alloc ?_ _) | (with_reducible refine Kd.C_drewN ?_ _) | (with_reducible refine Kd.C_drew ?_))); (case side2 => exact (Kd.R_reads' HO225.out).2.1); rintro e w19 ⟨v227, rfl, ho0, hb⟩; refine ⟨_, rfl, ?_⟩; have n0_ := Aside0.mk (Kd.R_elder' (by (with_reducible repeat (first | apply Kd.R_alloc | apply Kd.R_drewN | apply Kd.R_drew)); exact HO225.out) (Kd.R_base ho0) hb); have n1_ := Aside0.mk (Kd.R_lower (Kd.R_new' ho0 (Kd.R_lt (by (with_reducible repeat (first | apply Kd.R_alloc | apply Kd.R_drewN | apply Kd.R_drew)); exact HO225.out))) (below_size (by repeat (first | (with_reducible first | exact HB.out | apply below_alloc | apply pw_below_drewN | apply below_drew1 | refine below_set ?_ GE215.out) | exact HB.out)))); have n2_ := Aside0.mk (blk_below (g := gb215) (o := .cells #[.int .i64 a1_0, .int .i64 a1_1, .string a1_2] 23 (0, 0)) (by (with_reducible repeat (first | refine blk_drewN ?_ _ | refine blk_drew ?_ | refine blk_alloc ?_ _)); exact BK215.out) hb); have n3_ := Aside0.mk (below_step (by repeat (first | (with_reducible first | exact HB.out | apply below_alloc | apply pw_below_drewN | apply below_drew1 | refine below_set ?_ GE215.out) | exact HB.out)) hb); clear HO225; clear BK215; clear HB; have HO225 := n0_; have HO228 := n1_; have BK215 := n2_; have HB := n3_; clear n0_ n1_ n2_ n3_; (try clear hb); (try clear hb2); (try clear hk); (try clear hi); (try clear ho0)))
          go_ret
          exact ⟨_, by first | rfl | (simp [errW_none, errW_some] <;> rfl) | (simp [*, errW_none, errW_some] <;> rfl), by (with_reducible repeat (first | apply Kd.R_alloc | apply Kd.R_drewN | apply Kd.R_drew)); exact Kd.R_mono HO228.out (fun _ hk => trivial), by repeat (first | (with_reducible first | exact HB.out | apply below_alloc | apply pw_below_drewN | apply below_drew1 | refine below_set ?_ GE215.out) | exact HB.out)⟩
        · rw [if_neg c7] at H
          have c7b0 : (a1_0 == 1) = false := beq_eq_false_iff_ne.mpr c7
          have c7b1 : (a1_0 != 1) = true := bne_iff_ne.mpr c7
          by_cases c20 : a1_0 = 2
          · rw [if_pos c20] at H
            have c20b0 : (a1_0 == 2) = true := beq_iff_eq.mpr c20
            have c20b1 : (a1_0 != 2) = false := bne_eq_false_iff_eq.mpr c20
            clear c20
            replace H := Option.bind_eq_some_iff.mp H
            obtain ⟨t229, A210, H⟩ := H
            replace H : (some t229) = some r := H
            have A21 := Aside0.mk A210
            clear A210
            obtain rfl := Option.some.inj H
            go_enter Try.func36, Try.ntmps36
            go_wp2_with (first | ((with_reducible refine gate_dst (N := 3) rfl ?_); refine box_event ?hg (N := 3) ?hd (cs := #[.int .i64 a1_0, .int .i64 a1_1, .string a1_2]) (t := 23) ?hr ?_; (case hd => rfl); (case hg => rfl); (case hr => first | (go_simp; done) | (go_simp; rfl)); intro gb215 hg w22 hbox hb; have n0_ := Aside0.mk (below_step (by repeat (first | (with_reducible first | exact HB.out | apply below_alloc | apply pw_below_drewN | apply below_drew1) | exact HB.out)) hb); have n1_ := Aside0.mk (hbox); have n2_ := Aside0.mk ((by rw [hg]; exact (below_size (by repeat (first | (with_reducible first | exact HB.out | apply below_alloc | apply pw_below_drewN | apply below_drew1) | exact HB.out))) : w.heap.size ≤ gb215)); have n3_ := Aside0.mk ((by rw [hg]; exact (below_size (by repeat (first | (with_reducible first | exact HB.out | apply below_alloc | apply pw_below_drewN | apply below_drew1) | exact HB.out))) : w.heap.size ≤ gb215)); clear HB; have HB := n0_; have BK215 := n1_; have GW215 := n2_; have GE215 := n3_; clear n0_ n1_ n2_ n3_; clear hb hbox hg) | ((with_reducible refine gate_dst (N := 6) rfl ?_); refine Kd.R_lit (Kd.int .u8) _ 5 ?hg (N := 6) ?hd (xs := ([] : List Int)) (inner := []) (ok := fun _ => True) (okp := fun _ => True) ?hr ?hp (fun _ hk => hk) trivial (Below.refl _ _) (Nat.le_refl _) (by simp) ?_; (case hd => rfl); (case hg => rfl); (case hr => first | (go_simp; done) | (go_simp; rfl)); (case hp => exact (Reps.none _ _)); intro v217 w23 ho24 hb hg_ hnew_; clear hg_ hnew_; (first | rw [← Ny216.out] at ho24 | (simp only [Int.reduceToNat] at ho24; rw [← Ny216.out] at ho24)); have n0_ := Aside0.mk (Kd.R_lower ho24 (below_size (by repeat (first | (with_reducible first | exact HB.out | apply below_alloc | apply pw_below_drewN | apply below_drew1 | refine below_set ?_ GE215.out) | exact HB.out)))); have n1_ := Aside0.mk (blk_below (g := gb215) (o := .cells #[.int .i64 a1_0, .int .i64 a1_1, .string a1_2] 23 (0, 0)) (by (with_reducible repeat (first | refine blk_drewN ?_ _ | refine blk_drew ?_ | refine blk_alloc ?_ _)); exact BK215.out) hb); have n2_ := Aside0.mk (below_step (by repeat (first | (with_reducible first | exact HB.out | apply below_alloc | apply pw_below_drewN | apply below_drew1 | refine below_set ?_ GE215.out) | exact HB.out)) hb); clear BK215; clear HB; have HO218 := n0_; have BK215 := n1_; have HB := n2_; clear n0_ n1_ n2_; clear hb ho24) | ((with_reducible refine gate_builtin (b := .append) (xs := #[.tmp 6, .tmp 7]) rfl ?_); at_builtin; refine Kd.R_append_rows (Kd.int .u8) (w0 := w) w.heap.size rfl (.tmp 6) (.tmp 7) 27 5 (.int .u8 0) 1 rfl Try.underlying27 info5 rfl (by decide) (by decide) v217 y216 l0 _ _ _ (fun _ => True) (fun _ => False) rfl rfl ?aO ?aR (fun _ _ h => h) (fun _ h => h.elim) ?aF ?aB ?aS ?aL ?_; (case aR => repeat (first | exact (Kd.C_below HR0.out HB.out) | (with_reducible refine Kd.C_alloc ?_ _) | (with_reducible refine Kd.C_drewN ?_ _) | (with_reducible refine Kd.C_drew ?_))); (case aB => exact (by repeat (first | (with_reducible first | exact HB.out | apply below_alloc | apply pw_below_drewN | apply below_drew1 | refine below_set ?_ GE215.out) | exact HB.out))); (case aF => exact (fun _ _ => trivial)); (case aO => exact (by (with_reducible repeat (first | apply Kd.R_alloc | apply Kd.R_drewN | apply Kd.R_drew)); exact HO218.out)); (case aS => exact (below_size (by repeat (first | (with_reducible first | exact HB.out | apply below_alloc | apply pw_below_drewN | apply below_drew1 | refine below_set ?_ GE215.out) | exact HB.out)))); (case aL => have := LMc3.out; omega); intro v220 w25 ho hb hg hat; rw [← Ny219.out] at ho; have n0_ := Aside0.mk (blk_grown (g := gb215) (o := .cells #[.int .i64 a1_0, .int .i64 a1_1, .string a1_2] 23 (0, 0)) (by (with_reducible repeat (first | refine blk_drewN ?_ _ | refine blk_drew ?_ | refine blk_alloc ?_ _)); exact BK215.out) hg (Kd.R_ne HO218.out BK215.out (by decide))); have n1_ := Aside0.mk (hb); have n2_ := Aside0.mk (ho); clear BK215; clear HB; clear HO218; have BK215 := n0_; have HB := n1_; have HO221 := n2_; clear n0_ n1_ n2_; clear ho hb hg hat; have hcz26_0 : w25.cell? ⟨gb215, 0, none⟩ = some (.int .i64 a1_0) := (blk_cell BK215.out 0).trans rfl; have hcz26_1 : w25.cell? ⟨gb215, 1, none⟩ = some (.int .i64 a1_1) := (blk_cell BK215.out 1).trans rfl; have hcz26_2 : w25.cell? ⟨gb215, 2, none⟩ = some (.string a1_2) := (blk_cell BK215.out 2).trans rfl; have hfz26_0 := blk_frozen BK215.out 0; have hfz26_1 := blk_frozen BK215.out 1; have hfz26_2 := blk_frozen BK215.out 2) | ((with_reducible refine gate_callee (f := 25) rfl ?_); refine goesL_ (some 10) rfl rfl Try.func25 (by kernel_rfl) rfl #[.agg #[.int .i64 a1_0, .int .i64 a1_1, .string a1_2]] rfl (by (try simp only [List.map_toArray, List.map_cons, List.map_nil]); first | done | rfl | (simp only [List.length_drop, List.length_take]; rfl)) ?_; (with_reducible refine (rosetteref04_Right.calls a1_0 a1_1 a1_2 true _ A4.out).mono ?_); rintro e w27 ⟨rfl, hb⟩; refine ⟨_, rfl, ?_⟩; have n0_ := Aside0.mk (Kd.R_below (by (with_reducible repeat (first | apply Kd.R_alloc | apply Kd.R_drewN | apply Kd.R_drew)); exact HO221.out) hb); have n1_ := Aside0.mk (blk_below (g := gb215) (o := .cells #[.int .i64 a1_0, .int .i64 a1_1, .string a1_2] 23 (0, 0)) (by (with_reducible repeat (first | refine blk_drewN ?_ _ | refine blk_drew ?_ | refine blk_alloc ?_ _)); exact BK215.out) hb); have n2_ := Aside0.mk (below_step (by repeat (first | (with_reducible first | exact HB.out | apply below_alloc | apply pw_below_drewN | apply below_drew1 | refine below_set ?_ GE215.out) | exact HB.out)) hb); clear HO221; clear BK215; clear HB; have HO221 := n0_; have BK215 := n1_; have HB := n2_; clear n0_ n1_ n2_; (try clear hb); (try clear hb2); (try clear hk); (try clear hi); have hcz28_0 : w27.cell? ⟨gb215, 0, none⟩ = some (.int .i64 a1_0) := (blk_cell BK215.out 0).trans rfl; have hcz28_1 : w27.cell? ⟨gb215, 1, none⟩ = some (.int .i64 a1_1) := (blk_cell BK215.out 1).trans rfl; have hcz28_2 : w27.cell? ⟨gb215, 2, none⟩ = some (.string a1_2) := (blk_cell BK215.out 2).trans rfl; have hfz28_0 := blk_frozen BK215.out 0; have hfz28_1 := blk_frozen BK215.out 1; have hfz28_2 := blk_frozen BK215.out 2) | ((with_reducible refine gate_builtin (b := .append) (xs := #[.tmp 13, .tmp 17]) rfl ?_); at_builtin; refine Kd.R_append (Kd.int .u8) (w0 := w) w.heap.size rfl (.tmp 13) (.tmp 17) 27 5 (.int .u8 0) 1 rfl Try.underlying27 info5 rfl (by decide) (by decide) v220 y219 ((a1_0) % 256) [.int .u8 ((a1_0) % 256)] (fun _ => True) (fun _ => False) rfl rfl ?aP (fun _ hk => hk.elim) ?aF ?aO ?aB ?aS ?aL ?_; (case aP => exact rfl); (case aB => exact (by repeat (first | (with_reducible first | exact HB.out | apply below_alloc | apply pw_below_drewN | apply below_drew1 | refine below_set ?_ GE215.out) | exact HB.out))); (case aF => exact (fun _ _ => trivial)); (case aO => exact (by (with_reducible repeat (first | apply Kd.R_alloc | apply Kd.R_drewN | apply Kd.R_drew)); exact HO221.out)); (case aS => exact (below_size (by repeat (first | (with_reducible first | exact HB.out | apply below_alloc | apply pw_below_drewN | apply below_drew1 | refine below_set ?_ GE215.out) | exact HB.out)))); (case aL => have := LMc6.out; omega); intro v224 w29 ho hb hg hat; rw [← Ny223.out] at ho; have n0_ := Aside0.mk (blk_grown (g := gb215) (o := .cells #[.int .i64 a1_0, .int .i64 a1_1, .string a1_2] 23 (0, 0)) (by (with_reducible repeat (first | refine blk_drewN ?_ _ | refine blk_drew ?_ | refine blk_alloc ?_ _)); exact BK215.out) hg (Kd.R_ne HO221.out BK215.out (by decide))); have n1_ := Aside0.mk (hb); have n2_ := Aside0.mk (ho); clear BK215; clear HB; clear HO221; have BK215 := n0_; have HB := n1_; have HO225 := n2_; clear n0_ n1_ n2_; clear ho hb hg hat; have hcz30_0 : w29.cell? ⟨gb215, 0, none⟩ = some (.int .i64 a1_0) := (blk_cell BK215.out 0).trans rfl; have hcz30_1 : w29.cell? ⟨gb215, 1, none⟩ = some (.int .i64 a1_1) := (blk_cell BK215.out 1).trans rfl; have hcz30_2 : w29.cell? ⟨gb215, 2, none⟩ = some (.string a1_2) := (blk_cell BK215.out 2).trans rfl; have hfz30_0 := blk_frozen BK215.out 0; have hfz30_1 := blk_frozen BK215.out 1; have hfz30_2 := blk_frozen BK215.out 2; obtain ⟨Ao31, co31, eo31⟩ := Kd.R_slice HO225.out; subst eo31) | ((with_reducible refine gate_callee (f := 35) rfl ?_); refine goesL_ (some 32) rfl rfl Try.func35 (by kernel_rfl) rfl #[.slice Ao31 y223.length co31, .string a1_2] rfl (by (try simp only [List.map_toArray, List.map_cons, List.map_nil]); first | done | rfl | (simp only [List.length_drop, List.length_take]; rfl)) ?_; (with_reducible refine (rosetteref02_PutText.calls _ _ y223 a1_2 t229 _ ?side1 ?side2 A21.out).mono ?_); (case side1 => repeat (first | exact (Kd.R_reads' HO225.out).2.2 | (with_reducible refine Kd.C_alloc ?_ _) | (with_reducible refine Kd.C_drewN ?_ _) | (with_reducible refine Kd.C_drew ?_))); (case side2 => exact (Kd.R_reads' HO225.out).2.1); rintro e w32 ⟨v230, rfl, ho0, hb⟩; refine ⟨_, rfl, ?_⟩; have n0_ := Aside0.mk (Kd.R_elder' (by (with_reducible repeat (first | apply Kd.R_alloc | apply Kd.R_drewN | apply Kd.R_drew)); exact HO225.out) (Kd.R_base ho0) hb); have n1_ := Aside0.mk (Kd.R_lower (Kd.R_new' ho0 (Kd.R_lt (by (with_reducible repeat (first | apply Kd.R_alloc | apply Kd.R_drewN | apply Kd.R_drew)); exact HO225.out))) (below_size (by repeat (first | (with_reducible first | exact HB.out | apply below_alloc | apply pw_below_drewN | apply below_drew1 | refine below_set ?_ GE215.out) | exact HB.out)))); have n2_ := Aside0.mk (blk_below (g := gb215) (o := .cells #[.int .i64 a1_0, .int .i64 a1_1, .string a1_2] 23 (0, 0)) (by (with_reducible repeat (first | refine blk_drewN ?_ _ | refine blk_drew ?_ | refine blk_alloc ?_ _)); exact BK215.out) hb); have n3_ := Aside0.mk (below_step (by repeat (first | (with_reducible first | exact HB.out | apply below_alloc | apply pw_below_drewN | apply below_drew1 | refine below_set ?_ GE215.out) | exact HB.out)) hb); clear HO225; clear BK215; clear HB; have HO225 := n0_; have HO231 := n1_; have BK215 := n2_; have HB := n3_; clear n0_ n1_ n2_ n3_; (try clear hb); (try clear hb2); (try clear hk); (try clear hi); (try clear ho0)))
            go_ret
            exact ⟨_, by first | rfl | (simp [errW_none, errW_some] <;> rfl) | (simp [*, errW_none, errW_some] <;> rfl), by (with_reducible repeat (first | apply Kd.R_alloc | apply Kd.R_drewN | apply Kd.R_drew)); exact Kd.R_mono HO231.out (fun _ hk => trivial), by repeat (first | (with_reducible first | exact HB.out | apply below_alloc | apply pw_below_drewN | apply below_drew1 | refine below_set ?_ GE215.out) | exact HB.out)⟩
          · rw [if_neg c20] at H
            have c20b0 : (a1_0 == 2) = false := beq_eq_false_iff_ne.mpr c20
            have c20b1 : (a1_0 != 2) = true := bne_iff_ne.mpr c20
            by_cases c33 : y223.length < 140737488355328
            · rw [if_pos c33] at H
              have LMc33 := Aside0.mk c33
              clear c33
              obtain ⟨y232, hy232⟩ : ∃ y_ : List Int, y_ = (y223 ++ [(a1_1) % 256]) := ⟨_, rfl⟩
              replace H : (some y232) = some r := by first | (rw [hy232]; with_reducible exact H) | (have H2_ := (Option.bind_some _ _).symm.trans H; rw [hy232]; with_reducible exact H2_) | (have H2_ := (Option.bind_some _ _).symm.trans H; with_reducible exact H2_) | with_reducible exact H | (rw [hy232]; exact H) | exact H
              have Ny232 := Aside0.mk hy232
              clear hy232
              obtain rfl := Option.some.inj H
              go_enter Try.func36, Try.ntmps36
              go_wp2_with (first | ((with_reducible refine gate_dst (N := 3) rfl ?_); refine box_event ?hg (N := 3) ?hd (cs := #[.int .i64 a1_0, .int .i64 a1_1, .string a1_2]) (t := 23) ?hr ?_; (case hd => rfl); (case hg => rfl); (case hr => first | (go_simp; done) | (go_simp; rfl)); intro gb215 hg w34 hbox hb; have n0_ := Aside0.mk (below_step (by repeat (first | (with_reducible first | exact HB.out | apply below_alloc | apply pw_below_drewN | apply below_drew1) | exact HB.out)) hb); have n1_ := Aside0.mk (hbox); have n2_ := Aside0.mk ((by rw [hg]; exact (below_size (by repeat (first | (with_reducible first | exact HB.out | apply below_alloc | apply pw_below_drewN | apply below_drew1) | exact HB.out))) : w.heap.size ≤ gb215)); have n3_ := Aside0.mk ((by rw [hg]; exact (below_size (by repeat (first | (with_reducible first | exact HB.out | apply below_alloc | apply pw_below_drewN | apply below_drew1) | exact HB.out))) : w.heap.size ≤ gb215)); clear HB; have HB := n0_; have BK215 := n1_; have GW215 := n2_; have GE215 := n3_; clear n0_ n1_ n2_ n3_; clear hb hbox hg) | ((with_reducible refine gate_dst (N := 6) rfl ?_); refine Kd.R_lit (Kd.int .u8) _ 5 ?hg (N := 6) ?hd (xs := ([] : List Int)) (inner := []) (ok := fun _ => True) (okp := fun _ => True) ?hr ?hp (fun _ hk => hk) trivial (Below.refl _ _) (Nat.le_refl _) (by simp) ?_; (case hd => rfl); (case hg => rfl); (case hr => first | (go_simp; done) | (go_simp; rfl)); (case hp => exact (Reps.none _ _)); intro v217 w35 ho36 hb hg_ hnew_; clear hg_ hnew_; (first | rw [← Ny216.out] at ho36 | (simp only [Int.reduceToNat] at ho36; rw [← Ny216.out] at ho36)); have n0_ := Aside0.mk (Kd.R_lower ho36 (below_size (by repeat (first | (with_reducible first | exact HB.out | apply below_alloc | apply pw_below_drewN | apply below_drew1 | refine below_set ?_ GE215.out) | exact HB.out)))); have n1_ := Aside0.mk (blk_below (g := gb215) (o := .cells #[.int .i64 a1_0, .int .i64 a1_1, .string a1_2] 23 (0, 0)) (by (with_reducible repeat (first | refine blk_drewN ?_ _ | refine blk_drew ?_ | refine blk_alloc ?_ _)); exact BK215.out) hb); have n2_ := Aside0.mk (below_step (by repeat (first | (with_reducible first | exact HB.out | apply below_alloc | apply pw_below_drewN | apply below_drew1 | refine below_set ?_ GE215.out) | exact HB.out)) hb); clear BK215; clear HB; have HO218 := n0_; have BK215 := n1_; have HB := n2_; clear n0_ n1_ n2_; clear hb ho36) | ((with_reducible refine gate_builtin (b := .append) (xs := #[.tmp 6, .tmp 7]) rfl ?_); at_builtin; refine Kd.R_append_rows (Kd.int .u8) (w0 := w) w.heap.size rfl (.tmp 6) (.tmp 7) 27 5 (.int .u8 0) 1 rfl Try.underlying27 info5 rfl (by decide) (by decide) v217 y216 l0 _ _ _ (fun _ => True) (fun _ => False) rfl rfl ?aO ?aR (fun _ _ h => h) (fun _ h => h.elim) ?aF ?aB ?aS ?aL ?_; (case aR => repeat (first | exact (Kd.C_below HR0.out HB.out) | (with_reducible refine Kd.C_alloc ?_ _) | (with_reducible refine Kd.C_drewN ?_ _) | (with_reducible refine Kd.C_drew ?_))); (case aB => exact (by repeat (first | (with_reducible first | exact HB.out | apply below_alloc | apply pw_below_drewN | apply below_drew1 | refine below_set ?_ GE215.out) | exact HB.out))); (case aF => exact (fun _ _ => trivial)); (case aO => exact (by (with_reducible repeat (first | apply Kd.R_alloc | apply Kd.R_drewN | apply Kd.R_drew)); exact HO218.out)); (case aS => exact (below_size (by repeat (first | (with_reducible first | exact HB.out | apply below_alloc | apply pw_below_drewN | apply below_drew1 | refine below_set ?_ GE215.out) | exact HB.out)))); (case aL => have := LMc3.out; omega); intro v220 w37 ho hb hg hat; rw [← Ny219.out] at ho; have n0_ := Aside0.mk (blk_grown (g := gb215) (o := .cells #[.int .i64 a1_0, .int .i64 a1_1, .string a1_2] 23 (0, 0)) (by (with_reducible repeat (first | refine blk_drewN ?_ _ | refine blk_drew ?_ | refine blk_alloc ?_ _)); exact BK215.out) hg (Kd.R_ne HO218.out BK215.out (by decide))); have n1_ := Aside0.mk (hb); have n2_ := Aside0.mk (ho); clear BK215; clear HB; clear HO218; have BK215 := n0_; have HB := n1_; have HO221 := n2_; clear n0_ n1_ n2_; clear ho hb hg hat; have hcz38_0 : w37.cell? ⟨gb215, 0, none⟩ = some (.int .i64 a1_0) := (blk_cell BK215.out 0).trans rfl; have hcz38_1 : w37.cell? ⟨gb215, 1, none⟩ = some (.int .i64 a1_1) := (blk_cell BK215.out 1).trans rfl; have hcz38_2 : w37.cell? ⟨gb215, 2, none⟩ = some (.string a1_2) := (blk_cell BK215.out 2).trans rfl; have hfz38_0 := blk_frozen BK215.out 0; have hfz38_1 := blk_frozen BK215.out 1; have hfz38_2 := blk_frozen BK215.out 2) | ((with_reducible refine gate_callee (f := 25) rfl ?_); refine goesL_ (some 10) rfl rfl Try.func25 (by kernel_rfl) rfl #[.agg #[.int .i64 a1_0, .int .i64 a1_1, .string a1_2]] rfl (by (try simp only [List.map_toArray, List.map_cons, List.map_nil]); first | done | rfl | (simp only [List.length_drop, List.length_take]; rfl)) ?_; (with_reducible refine (rosetteref04_Right.calls a1_0 a1_1 a1_2 true _ A4.out).mono ?_); rintro e w39 ⟨rfl, hb⟩; refine ⟨_, rfl, ?_⟩; have n0_ := Aside0.mk (Kd.R_below (by (with_reducible repeat (first | apply Kd.R_alloc | apply Kd.R_drewN | apply Kd.R_drew)); exact HO221.out) hb); have n1_ := Aside0.mk (blk_below (g := gb215) (o := .cells #[.int .i64 a1_0, .int .i64 a1_1, .string a1_2] 23 (0, 0)) (by (with_reducible repeat (first | refine blk_drewN ?_ _ | refine blk_drew ?_ | refine blk_alloc ?_ _)); exact BK215.out) hb); have n2_ := Aside0.mk (below_step (by repeat (first | (with_reducible first | exact HB.out | apply below_alloc | apply pw_below_drewN | apply below_drew1 | refine below_set ?_ GE215.out) | exact HB.out)) hb); clear HO221; clear BK215; clear HB; have HO221 := n0_; have BK215 := n1_; have HB := n2_; clear n0_ n1_ n2_; (try clear hb); (try clear hb2); (try clear hk); (try clear hi); have hcz40_0 : w39.cell? ⟨gb215, 0, none⟩ = some (.int .i64 a1_0) := (blk_cell BK215.out 0).trans rfl; have hcz40_1 : w39.cell? ⟨gb215, 1, none⟩ = some (.int .i64 a1_1) := (blk_cell BK215.out 1).trans rfl; have hcz40_2 : w39.cell? ⟨gb215, 2, none⟩ = some (.string a1_2) := (blk_cell BK215.out 2).trans rfl; have hfz40_0 := blk_frozen BK215.out 0; have hfz40_1 := blk_frozen BK215.out 1; have hfz40_2 := blk_frozen BK215.out 2) | ((with_reducible refine gate_builtin (b := .append) (xs := #[.tmp 13, .tmp 17]) rfl ?_); at_builtin; refine Kd.R_append (Kd.int .u8) (w0 := w) w.heap.size rfl (.tmp 13) (.tmp 17) 27 5 (.int .u8 0) 1 rfl Try.underlying27 info5 rfl (by decide) (by decide) v220 y219 ((a1_0) % 256) [.int .u8 ((a1_0) % 256)] (fun _ => True) (fun _ => False) rfl rfl ?aP (fun _ hk => hk.elim) ?aF ?aO ?aB ?aS ?aL ?_; (case aP => exact rfl); (case aB => exact (by repeat (first | (with_reducible first | exact HB.out | apply below_alloc | apply pw_below_drewN | apply below_drew1 | refine below_set ?_ GE215.out) | exact HB.out))); (case aF => exact (fun _ _ => trivial)); (case aO => exact (by (with_reducible repeat (first | apply Kd.R_alloc | apply Kd.R_drewN | apply Kd.R_drew)); exact HO221.out)); (case aS => exact (below_size (by repeat (first | (with_reducible first | exact HB.out | apply below_alloc | apply pw_below_drewN | apply below_drew1 | refine below_set ?_ GE215.out) | exact HB.out)))); (case aL => have := LMc6.out; omega); intro v224 w41 ho hb hg hat; rw [← Ny223.out] at ho; have n0_ := Aside0.mk (blk_grown (g := gb215) (o := .cells #[.int .i64 a1_0, .int .i64 a1_1, .string a1_2] 23 (0, 0)) (by (with_reducible repeat (first | refine blk_drewN ?_ _ | refine blk_drew ?_ | refine blk_alloc ?_ _)); exact BK215.out) hg (Kd.R_ne HO221.out BK215.out (by decide))); have n1_ := Aside0.mk (hb); have n2_ := Aside0.mk (ho); clear BK215; clear HB; clear HO221; have BK215 := n0_; have HB := n1_; have HO225 := n2_; clear n0_ n1_ n2_; clear ho hb hg hat; have hcz42_0 : w41.cell? ⟨gb215, 0, none⟩ = some (.int .i64 a1_0) := (blk_cell BK215.out 0).trans rfl; have hcz42_1 : w41.cell? ⟨gb215, 1, none⟩ = some (.int .i64 a1_1) := (blk_cell BK215.out 1).trans rfl; have hcz42_2 : w41.cell? ⟨gb215, 2, none⟩ = some (.string a1_2) := (blk_cell BK215.out 2).trans rfl; have hfz42_0 := blk_frozen BK215.out 0; have hfz42_1 := blk_frozen BK215.out 1; have hfz42_2 := blk_frozen BK215.out 2) | ((with_reducible refine gate_builtin (b := .append) (xs := #[.tmp 33, .tmp 37]) rfl ?_); at_builtin; refine Kd.R_append (Kd.int .u8) (w0 := w) w.heap.size rfl (.tmp 33) (.tmp 37) 27 5 (.int .u8 0) 1 rfl Try.underlying27 info5 rfl (by decide) (by decide) v224 y223 ((a1_1) % 256) [.int .u8 ((a1_1) % 256)] (fun _ => True) (fun _ => False) rfl rfl ?aP (fun _ hk => hk.elim) ?aF ?aO ?aB ?aS ?aL ?_; (case aP => exact rfl); (case aB => exact (by repeat (first | (with_reducible first | exact HB.out | apply below_alloc | apply pw_below_drewN | apply below_drew1 | refine below_set ?_ GE215.out) | exact HB.out))); (case aF => exact (fun _ _ => trivial)); (case aO => exact (by (with_reducible repeat (first | apply Kd.R_alloc | apply Kd.R_drewN | apply Kd.R_drew)); exact HO225.out)); (case aS => exact (below_size (by repeat (first | (with_reducible first | exact HB.out | apply below_alloc | apply pw_below_drewN | apply below_drew1 | refine below_set ?_ GE215.out) | exact HB.out)))); (case aL => have := LMc33.out; omega); intro v233 w43 ho hb hg hat; rw [← Ny232.out] at ho; have n0_ := Aside0.mk (blk_grown (g := gb215) (o := .cells #[.int .i64 a1_0, .int .i64 a1_1, .string a1_2] 23 (0, 0)) (by (with_reducible repeat (first | refine blk_drewN ?_ _ | refine blk_drew ?_ | refine blk_alloc ?_ _)); exact BK215.out) hg (Kd.R_ne HO225.out BK215.out (by decide))); have n1_ := Aside0.mk (hb); have n2_ := Aside0.mk (ho); clear BK215; clear HB; clear HO225; have BK215 := n0_; have HB := n1_; have HO234 := n2_; clear n0_ n1_ n2_; clear ho hb hg hat))
              go_ret
              exact ⟨_, by first | rfl | (simp [errW_none, errW_some] <;> rfl) | (simp [*, errW_none, errW_some] <;> rfl), by (with_reducible repeat (first | apply Kd.R_alloc | apply Kd.R_drewN | apply Kd.R_drew)); exact HO234.out, by repeat (first | (with_reducible first | exact HB.out | apply below_alloc | apply pw_below_drewN | apply below_drew1 | refine below_set ?_ GE215.out) | exact HB.out)⟩
            · rw [if_neg c33] at H
              exact absurd H (by simp)
      · rw [if_neg c6] at H
        exact absurd H (by simp)
    · replace c5 := Bool.eq_false_iff.mpr c5
      subst c5
      have H1 : (some y219) = some r := by rw [if_neg (show ¬ (false = true) by decide)] at H; exact H
      clear H
      have H := H1
      clear H1
      obtain rfl := Option.some.inj H
      go_enter Try.func36, Try.ntmps36
      go_wp2_with (first | ((with_reducible refine gate_dst (N := 3) rfl ?_); refine box_event ?hg (N := 3) ?hd (cs := #[.int .i64 a1_0, .int .i64 a1_1, .string a1_2]) (t := 23) ?hr ?_; (case hd => rfl); (case hg => rfl); (case hr => first | (go_simp; done) | (go_simp; rfl)); intro gb215 hg w44 hbox hb; have n0_ := Aside0.mk (below_step (by repeat (first | (with_reducible first | exact HB.out | apply below_alloc | apply pw_below_drewN | apply below_drew1) | exact HB.out)) hb); have n1_ := Aside0.mk (hbox); have n2_ := Aside0.mk ((by rw [hg]; exact (below_size (by repeat (first | (with_reducible first | exact HB.out | apply below_alloc | apply pw_below_drewN | apply below_drew1) | exact HB.out))) : w.heap.size ≤ gb215)); have n3_ := Aside0.mk ((by rw [hg]; exact (below_size (by repeat (first | (with_reducible first | exact HB.out | apply below_alloc | apply pw_below_drewN | apply below_drew1) | exact HB.out))) : w.heap.size ≤ gb215)); clear HB; have HB := n0_; have BK215 := n1_; have GW215 := n2_; have GE215 := n3_; clear n0_ n1_ n2_ n3_; clear hb hbox hg) | ((with_reducible refine gate_dst (N := 6) rfl ?_); refine Kd.R_lit (Kd.int .u8) _ 5 ?hg (N := 6) ?hd (xs := ([] : List Int)) (inner := []) (ok := fun _ => True) (okp := fun _ => True) ?hr ?hp (fun _ hk => hk) trivial (Below.refl _ _) (Nat.le_refl _) (by simp) ?_; (case hd => rfl); (case hg => rfl); (case hr => first | (go_simp; done) | (go_simp; rfl)); (case hp => exact (Reps.none _ _)); intro v217 w45 ho46 hb hg_ hnew_; clear hg_ hnew_; (first | rw [← Ny216.out] at ho46 | (simp only [Int.reduceToNat] at ho46; rw [← Ny216.out] at ho46)); have n0_ := Aside0.mk (Kd.R_lower ho46 (below_size (by repeat (first | (with_reducible first | exact HB.out | apply below_alloc | apply pw_below_drewN | apply below_drew1 | refine below_set ?_ GE215.out) | exact HB.out)))); have n1_ := Aside0.mk (blk_below (g := gb215) (o := .cells #[.int .i64 a1_0, .int .i64 a1_1, .string a1_2] 23 (0, 0)) (by (with_reducible repeat (first | refine blk_drewN ?_ _ | refine blk_drew ?_ | refine blk_alloc ?_ _)); exact BK215.out) hb); have n2_ := Aside0.mk (below_step (by repeat (first | (with_reducible first | exact HB.out | apply below_alloc | apply pw_below_drewN | apply below_drew1 | refine below_set ?_ GE215.out) | exact HB.out)) hb); clear BK215; clear HB; have HO218 := n0_; have BK215 := n1_; have HB := n2_; clear n0_ n1_ n2_; clear hb ho46) | ((with_reducible refine gate_builtin (b := .append) (xs := #[.tmp 6, .tmp 7]) rfl ?_); at_builtin; refine Kd.R_append_rows (Kd.int .u8) (w0 := w) w.heap.size rfl (.tmp 6) (.tmp 7) 27 5 (.int .u8 0) 1 rfl Try.underlying27 info5 rfl (by decide) (by decide) v217 y216 l0 _ _ _ (fun _ => True) (fun _ => False) rfl rfl ?aO ?aR (fun _ _ h => h) (fun _ h => h.elim) ?aF ?aB ?aS ?aL ?_; (case aR => repeat (first | exact (Kd.C_below HR0.out HB.out) | (with_reducible refine Kd.C_alloc ?_ _) | (with_reducible refine Kd.C_drewN ?_ _) | (with_reducible refine Kd.C_drew ?_))); (case aB => exact (by repeat (first | (with_reducible first | exact HB.out | apply below_alloc | apply pw_below_drewN | apply below_drew1 | refine below_set ?_ GE215.out) | exact HB.out))); (case aF => exact (fun _ _ => trivial)); (case aO => exact (by (with_reducible repeat (first | apply Kd.R_alloc | apply Kd.R_drewN | apply Kd.R_drew)); exact HO218.out)); (case aS => exact (below_size (by repeat (first | (with_reducible first | exact HB.out | apply below_alloc | apply pw_below_drewN | apply below_drew1 | refine below_set ?_ GE215.out) | exact HB.out)))); (case aL => have := LMc3.out; omega); intro v220 w47 ho hb hg hat; rw [← Ny219.out] at ho; have n0_ := Aside0.mk (blk_grown (g := gb215) (o := .cells #[.int .i64 a1_0, .int .i64 a1_1, .string a1_2] 23 (0, 0)) (by (with_reducible repeat (first | refine blk_drewN ?_ _ | refine blk_drew ?_ | refine blk_alloc ?_ _)); exact BK215.out) hg (Kd.R_ne HO218.out BK215.out (by decide))); have n1_ := Aside0.mk (hb); have n2_ := Aside0.mk (ho); clear BK215; clear HB; clear HO218; have BK215 := n0_; have HB := n1_; have HO221 := n2_; clear n0_ n1_ n2_; clear ho hb hg hat; have hcz48_0 : w47.cell? ⟨gb215, 0, none⟩ = some (.int .i64 a1_0) := (blk_cell BK215.out 0).trans rfl; have hcz48_1 : w47.cell? ⟨gb215, 1, none⟩ = some (.int .i64 a1_1) := (blk_cell BK215.out 1).trans rfl; have hcz48_2 : w47.cell? ⟨gb215, 2, none⟩ = some (.string a1_2) := (blk_cell BK215.out 2).trans rfl; have hfz48_0 := blk_frozen BK215.out 0; have hfz48_1 := blk_frozen BK215.out 1; have hfz48_2 := blk_frozen BK215.out 2) | ((with_reducible refine gate_callee (f := 25) rfl ?_); refine goesL_ (some 10) rfl rfl Try.func25 (by kernel_rfl) rfl #[.agg #[.int .i64 a1_0, .int .i64 a1_1, .string a1_2]] rfl (by (try simp only [List.map_toArray, List.map_cons, List.map_nil]); first | done | rfl | (simp only [List.length_drop, List.length_take]; rfl)) ?_; (with_reducible refine (rosetteref04_Right.calls a1_0 a1_1 a1_2 false _ A4.out).mono ?_); rintro e w49 ⟨rfl, hb⟩; refine ⟨_, rfl, ?_⟩; have n0_ := Aside0.mk (Kd.R_below (by (with_reducible repeat (first | apply Kd.R_alloc | apply Kd.R_drewN | apply Kd.R_drew)); exact HO221.out) hb); have n1_ := Aside0.mk (blk_below (g := gb215) (o := .cells #[.int .i64 a1_0, .int .i64 a1_1, .string a1_2] 23 (0, 0)) (by (with_reducible repeat (first | refine blk_drewN ?_ _ | refine blk_drew ?_ | refine blk_alloc ?_ _)); exact BK215.out) hb); have n2_ := Aside0.mk (below_step (by repeat (first | (with_reducible first | exact HB.out | apply below_alloc | apply pw_below_drewN | apply below_drew1 | refine below_set ?_ GE215.out) | exact HB.out)) hb); clear HO221; clear BK215; clear HB; have HO221 := n0_; have BK215 := n1_; have HB := n2_; clear n0_ n1_ n2_; (try clear hb); (try clear hb2); (try clear hk); (try clear hi)))
      go_ret
      exact ⟨_, by first | rfl | (simp [errW_none, errW_some] <;> rfl) | (simp [*, errW_none, errW_some] <;> rfl), by (with_reducible repeat (first | apply Kd.R_alloc | apply Kd.R_drewN | apply Kd.R_drew)); exact HO221.out, by repeat (first | (with_reducible first | exact HB.out | apply below_alloc | apply pw_below_drewN | apply below_drew1 | refine below_set ?_ GE215.out) | exact HB.out)⟩
  · rw [if_neg c3] at H
    exact absurd H (by simp)

end Go.Proofs.Ytojefdnngkcaoaa.G
end

section
-- Written by a program of this session (wip/tools/myprint.py), over the kit's print.
namespace Go.Proofs.Ytojefdnngkcaoaa.G
open Go.RowKit Go.Proofs.YtojefdnngkcaoaaW.PrintWords Go.Proofs.YtojefdnngkcaoaaW.PrintLast Go.Proofs.YtojefdnngkcaoaaW.PrintMore
attribute [local go_sem] max2_int min2_int max_two min_two max_three min_three max_four min_four   -- for this text's walks alone
set_option linter.unusedVariables false
set_option linter.unusedSimpArgs false

/-! ### rosetteref04_less: function 62 -/
mutual
def rosetteref04_less.l0 : Nat → ByteArray → ByteArray → Int → Option (Bool)
  | 0, _, _, _ => none
  | k + 1, x0, x1, x5 => if x5 < (x0.size : Int) then (rosetteref04_less.j1 k x0 x1 x5 (decide (x5 < (x1.size : Int)))) else (rosetteref04_less.j1 k x0 x1 x5 false)
def rosetteref04_less.j1 : Nat → ByteArray → ByteArray → Int → Bool → Option (Bool)
  | 0, _, _, _, _ => none
  | k + 1, x0, x1, x5, x15 => if x15 = true then (if 0 ≤ x5 then (if x5 < (x0.size : Int) then (if x5 < (x1.size : Int) then (if (bt x0 x5) = (bt x1 x5) then (rosetteref04_less.l0 k x0 x1 (wrap64 (x5 + 1))) else (some (decide ((bt x0 x5) < (bt x1 x5))))) else (none)) else (none)) else (none)) else (some (decide ((x0.size : Int) < (x1.size : Int))))
end
def rosetteref04_less.f (k : Nat) (a0 : ByteArray) (a1 : ByteArray) : Option (Bool) := rosetteref04_less.l0 k a0 a1 0
theorem rosetteref04_less.mono_l : ∀ k, (∀ y0 y1 y2, LeO (rosetteref04_less.l0 k y0 y1 y2) (rosetteref04_less.l0 (k + 1) y0 y1 y2)) ∧ (∀ y0 y1 y2 y3, LeO (rosetteref04_less.j1 k y0 y1 y2 y3) (rosetteref04_less.j1 (k + 1) y0 y1 y2 y3))
  | 0 => ⟨fun _ _ _ r h => by simp [rosetteref04_less.l0] at h, fun _ _ _ _ r h => by simp [rosetteref04_less.j1] at h⟩
  | k + 1 => by
    obtain ⟨ih0, ih1⟩ := rosetteref04_less.mono_l k
    refine ⟨?_, ?_⟩
    · intro y0 y1 y2
      unfold rosetteref04_less.l0
      repeat' first
      | (with_reducible exact ih0 _ _ _)
      | (with_reducible exact ih1 _ _ _ _)
      | (with_reducible exact LeO.refl _)
      | (with_reducible exact LeO.none _)
      | (with_reducible refine LeO.ite ?_ ?_)
      | (with_reducible refine LeO.bind ?_ (fun _ => ?_))
      | exact ih0 _ _ _
      | exact ih1 _ _ _ _
      | exact LeO.none _
      | refine LeO.ite ?_ ?_
      | refine LeO.bind ?_ (fun _ => ?_)
    · intro y0 y1 y2 y3
      unfold rosetteref04_less.j1
      repeat' first
      | (with_reducible exact ih0 _ _ _)
      | (with_reducible exact ih1 _ _ _ _)
      | (with_reducible exact LeO.refl _)
      | (with_reducible exact LeO.none _)
      | (with_reducible refine LeO.ite ?_ ?_)
      | (with_reducible refine LeO.bind ?_ (fun _ => ?_))
      | exact ih0 _ _ _
      | exact ih1 _ _ _ _
      | exact LeO.none _
      | refine LeO.ite ?_ ?_
      | refine LeO.bind ?_ (fun _ => ?_)
theorem rosetteref04_less.mono : ∀ a0 a1 k, LeO (rosetteref04_less.f k a0 a1) (rosetteref04_less.f (k + 1) a0 a1) := by
  intro a0 a1 k
  obtain ⟨ih0, ih1⟩ := rosetteref04_less.mono_l k
  unfold rosetteref04_less.f
  repeat' first
      | (with_reducible exact ih0 _ _ _)
      | (with_reducible exact ih1 _ _ _ _)
      | (with_reducible exact LeO.refl _)
      | (with_reducible exact LeO.none _)
      | (with_reducible refine LeO.ite ?_ ?_)
      | (with_reducible refine LeO.bind ?_ (fun _ => ?_))
      | exact ih0 _ _ _
      | exact ih1 _ _ _ _
      | exact LeO.none _
      | refine LeO.ite ?_ ?_
      | refine LeO.bind ?_ (fun _ => ?_)
set_option maxHeartbeats 8000000 in
set_option maxRecDepth 100000 in
theorem rosetteref04_less.calls (k : Nat) (a0 : ByteArray) (a1 : ByteArray) (r : Bool) (w : World) (h : rosetteref04_less.f k a0 a1 = some r) :
    Calls Try.prog 62 #[.string a0, .string a1] w fun e w' => e = .returned (.bool r) ∧ Drawn0 w w' := by
  have H : (rosetteref04_less.l0 k a0 a1 0) = some r := h
  clear h
  have H' := Aside0.mk H
  clear H
  go_enter Try.func62, Try.ntmps62
  go_wp2
  repeat (go_quiet (fail); try go_wp2)
  go_loopg [5] k (fun kq v5 w' => ∃ (x5_1 : Int), v5 = .int .i64 x5_1 ∧ Aside0 (rosetteref04_less.l0 kq a0 a1 x5_1 = some r) ∧ Aside0 (kq ≤ k) ∧ Drawn0 w w')
  case atStart => exact ⟨(0), (by first | rfl | (simp; done) | (simp [*]; done)), H', ⟨Nat.le_refl _⟩, by repeat (first | exact Drawn0.refl _ | apply Drawn0.step)⟩
  case round =>
    clear H'
    try clear p2
    obtain ⟨x5_1, rfl, HA, HK1, ⟨m1, rfl⟩⟩ := hrel
    cases gk with
    | zero => exact absurd HA.out (by simp [rosetteref04_less.l0])
    | succ k1 =>
      have H := HA.out
      clear HA
      simp only [rosetteref04_less.l0] at H
      have HC3 := Aside0.mk H
      clear H
      go_upto_region 2 with (fail)
      repeat (go_quiet (fail); go_upto_region 2 with (fail))
      go_cut [15] (fun v15 wc => ∃ (kq : Nat) (x15_2 : Bool), v15 = .bool x15_2 ∧ Aside0 (rosetteref04_less.j1 kq a0 a1 x5_1 x15_2 = some r) ∧ Aside0 (kq ≤ k1) ∧ Drawn0 w wc)
      case first =>
        have H := HC3.out
        clear HC3
        by_cases c4 : x5_1 < (a0.size : Int)
        · rw [if_pos c4] at H
          have c4b0 : decide (x5_1 < (a0.size : Int)) = true := decide_eq_true c4
          clear c4
          (first | rw [c4b0] | (simp only [i64_w, i32_w]; rw [c4b0]) | skip)
          have H' := Aside0.mk H
          clear H
          go_wp2
          repeat (go_quiet (fail); try go_wp2)
          go_meet
          case rel => exact ⟨_, (decide (x5_1 < (a1.size : Int))), (by first | rfl | (simp; done) | (simp [*]; done)), H', ⟨by have := HK1.out; first | omega | exact Nat.le_refl _⟩, by repeat (first | exact Drawn0.refl _ | apply Drawn0.step)⟩
        · rw [if_neg c4] at H
          have c4b0 : decide (x5_1 < (a0.size : Int)) = false := decide_eq_false c4
          clear c4
          (first | rw [c4b0] | (simp only [i64_w, i32_w]; rw [c4b0]) | skip)
          have H' := Aside0.mk H
          clear H
          go_wp2
          repeat (go_quiet (fail); try go_wp2)
          go_meet
          case rel => exact ⟨_, (false), (by first | rfl | (simp; done) | (simp [*]; done)), H', ⟨by have := HK1.out; first | omega | exact Nat.le_refl _⟩, by repeat (first | exact Drawn0.refl _ | apply Drawn0.step)⟩
      case rest =>
        clear HC3
        try clear p2
        try clear c4
        try clear c4b0
        try clear p2
        obtain ⟨kq, x15_2, rfl, HA, HJ2, ⟨mc2, rfl⟩⟩ := hcut
        cases kq with
        | zero => exact absurd HA.out (by simp [rosetteref04_less.j1])
        | succ kj2 =>
          have H := HA.out
          clear HA
          simp only [rosetteref04_less.j1] at H
          by_cases c5 : x15_2 = true
          · subst c5
            have H1 : (if 0 ≤ x5_1 then (if x5_1 < (a0.size : Int) then (if x5_1 < (a1.size : Int) then (if (bt a0 x5_1) = (bt a1 x5_1) then (rosetteref04_less.l0 kj2 a0 a1 (wrap64 (x5_1 + 1))) else (some (decide ((bt a0 x5_1) < (bt a1 x5_1))))) else (none)) else (none)) else (none)) = some r := by rw [if_pos rfl] at H; exact H
            clear H
            have H := H1
            clear H1
            by_cases c6 : 0 ≤ x5_1
            · rw [if_pos c6] at H
              have c6b0 : decide (0 ≤ x5_1) = true := decide_eq_true c6
              clear c6
              by_cases c7 : x5_1 < (a0.size : Int)
              · rw [if_pos c7] at H
                have c7b0 : decide (x5_1 < (a0.size : Int)) = true := decide_eq_true c7
                clear c7
                by_cases c9 : x5_1 < (a1.size : Int)
                · rw [if_pos c9] at H
                  have c9b0 : decide (x5_1 < (a1.size : Int)) = true := decide_eq_true c9
                  clear c9
                  by_cases c11 : (bt a0 x5_1) = (bt a1 x5_1)
                  · rw [if_pos c11] at H
                    have c11b0 : ((bt a0 x5_1) == (bt a1 x5_1)) = true := beq_iff_eq.mpr c11
                    have c11b1 : ((bt a0 x5_1) != (bt a1 x5_1)) = false := bne_eq_false_iff_eq.mpr c11
                    clear c11
                    have H' := Aside0.mk H
                    clear H
                    have p8 : 0 ≤ (x5_1 : Int) := of_decide_eq_true (by first | (with_reducible assumption) | assumption)
                    have q8 : x5_1 < (a0.size : Int) := of_decide_eq_true (by first | (with_reducible assumption) | assumption)
                    have hx8 := bt_at a0 x5_1
                    replace p8 := eq_true p8
                    replace q8 := eq_true q8
                    have p10 : 0 ≤ (x5_1 : Int) := of_decide_eq_true (by first | (with_reducible assumption) | assumption)
                    have q10 : x5_1 < (a1.size : Int) := of_decide_eq_true (by first | (with_reducible assumption) | assumption)
                    have hx10 := bt_at a1 x5_1
                    replace p10 := eq_true p10
                    replace q10 := eq_true q10
                    go_wp2
                    repeat (go_quiet (fail); try go_wp2)
                    go_roundg kj2
                    case measure => have := HK1.out; have := HJ2.out; omega
                    case rel => exact ⟨(wrap64 (x5_1 + 1)), (by first | rfl | (simp; done) | (simp [*]; done)), H', ⟨by have := HK1.out; have := HJ2.out; omega⟩, by repeat (first | exact Drawn0.refl _ | apply Drawn0.step)⟩
                  · rw [if_neg c11] at H
                    have c11b0 : ((bt a0 x5_1) == (bt a1 x5_1)) = false := beq_eq_false_iff_ne.mpr c11
                    have c11b1 : ((bt a0 x5_1) != (bt a1 x5_1)) = true := bne_iff_ne.mpr c11
                    obtain rfl := Option.some.inj H
                    have p8 : 0 ≤ (x5_1 : Int) := of_decide_eq_true (by first | (with_reducible assumption) | assumption)
                    have q8 : x5_1 < (a0.size : Int) := of_decide_eq_true (by first | (with_reducible assumption) | assumption)
                    have hx8 := bt_at a0 x5_1
                    replace p8 := eq_true p8
                    replace q8 := eq_true q8
                    have p10 : 0 ≤ (x5_1 : Int) := of_decide_eq_true (by first | (with_reducible assumption) | assumption)
                    have q10 : x5_1 < (a1.size : Int) := of_decide_eq_true (by first | (with_reducible assumption) | assumption)
                    have hx10 := bt_at a1 x5_1
                    replace p10 := eq_true p10
                    replace q10 := eq_true q10
                    have p12 : 0 ≤ (x5_1 : Int) := of_decide_eq_true (by first | (with_reducible assumption) | assumption)
                    have q12 : x5_1 < (a0.size : Int) := of_decide_eq_true (by first | (with_reducible assumption) | assumption)
                    have hx12 := bt_at a0 x5_1
                    replace p12 := eq_true p12
                    replace q12 := eq_true q12
                    have p13 : 0 ≤ (x5_1 : Int) := of_decide_eq_true (by first | (with_reducible assumption) | assumption)
                    have q13 : x5_1 < (a1.size : Int) := of_decide_eq_true (by first | (with_reducible assumption) | assumption)
                    have hx13 := bt_at a1 x5_1
                    replace p13 := eq_true p13
                    replace q13 := eq_true q13
                    go_wp2
                    repeat (go_quiet (fail); try go_wp2)
                    go_ret
                    exact ⟨by first | rfl | (simp; done) | (simp [*]; done), by repeat (first | exact Drawn0.refl _ | apply Drawn0.step)⟩
                · rw [if_neg c9] at H
                  exact absurd H (by simp)
              · rw [if_neg c7] at H
                exact absurd H (by simp)
            · rw [if_neg c6] at H
              exact absurd H (by simp)
          · replace c5 := Bool.eq_false_iff.mpr c5
            subst c5
            have H1 : (some (decide ((a0.size : Int) < (a1.size : Int)))) = some r := by rw [if_neg (show ¬ (false = true) by decide)] at H; exact H
            clear H
            have H := H1
            clear H1
            obtain rfl := Option.some.inj H
            go_wp2
            repeat (go_quiet (fail); try go_wp2)
            go_ret
            exact ⟨by first | rfl | (simp; done) | (simp [*]; done), by repeat (first | exact Drawn0.refl _ | apply Drawn0.step)⟩

end Go.Proofs.Ytojefdnngkcaoaa.G
end

section
-- Written by a program of this session (wip/tools/myprint.py), over the kit's print.
namespace Go.Proofs.Ytojefdnngkcaoaa.G
open Go.RowKit Go.Proofs.YtojefdnngkcaoaaW.PrintWords Go.Proofs.YtojefdnngkcaoaaW.PrintLast Go.Proofs.YtojefdnngkcaoaaW.PrintMore
attribute [local go_sem] max2_int min2_int max_two min_two max_three min_three max_four min_four   -- for this text's walks alone
set_option linter.unusedVariables false
set_option linter.unusedSimpArgs false

/-! ### rosetteref04_Text: function 49 -/
def rosetteref04_Text.f (k : Nat) (a0 : ByteArray) (a1 : ByteArray) : Option (Int) := if a0.toList = a1.toList then (some 0) else ((rosetteref04_less.f k a0 a1).bind fun t183 => (if t183 = true then (some (-1)) else (some 1)))
theorem rosetteref04_Text.mono : ∀ a0 a1 k, LeO (rosetteref04_Text.f k a0 a1) (rosetteref04_Text.f (k + 1) a0 a1) := by
  intro a0 a1 k
  unfold rosetteref04_Text.f
  repeat' first
      | (with_reducible exact rosetteref04_less.mono _ _ _)
      | (with_reducible exact LeO.refl _)
      | (with_reducible exact LeO.none _)
      | (with_reducible refine LeO.ite ?_ ?_)
      | (with_reducible refine LeO.bind ?_ (fun _ => ?_))
      | exact rosetteref04_less.mono _ _ _
      | exact LeO.none _
      | refine LeO.ite ?_ ?_
      | refine LeO.bind ?_ (fun _ => ?_)
set_option maxHeartbeats 8000000 in
set_option maxRecDepth 100000 in
theorem rosetteref04_Text.calls (k : Nat) (a0 : ByteArray) (a1 : ByteArray) (r : Int) (w : World) (h : rosetteref04_Text.f k a0 a1 = some r) :
    Calls Try.prog 49 #[.string a0, .string a1] w fun e w' => e = .returned (.int .i64 r) ∧ Drawn0 w w' := by
  have H : (if a0.toList = a1.toList then (some 0) else ((rosetteref04_less.f k a0 a1).bind fun t183 => (if t183 = true then (some (-1)) else (some 1)))) = some r := h
  clear h
  by_cases c3 : a0.toList = a1.toList
  · rw [if_pos c3] at H
    have c3b0 : (a0.toList == a1.toList) = true := beq_iff_eq.mpr c3
    have c3b1 : (a0.toList != a1.toList) = false := bne_eq_false_iff_eq.mpr c3
    clear c3
    obtain rfl := Option.some.inj H
    go_enter Try.func49, Try.ntmps49
    go_wp2
    go_ret
    exact ⟨by first | rfl | (simp; done) | (simp [*]; done), by repeat (first | exact Drawn0.refl _ | apply Drawn0.step)⟩
  · rw [if_neg c3] at H
    have c3b0 : (a0.toList == a1.toList) = false := beq_eq_false_iff_ne.mpr c3
    have c3b1 : (a0.toList != a1.toList) = true := bne_iff_ne.mpr c3
    replace H := Option.bind_eq_some_iff.mp H
    obtain ⟨t183, A40, H⟩ := H
    replace H : (if t183 = true then (some (-1)) else (some 1)) = some r := H
    have A4 := Aside0.mk A40
    clear A40
    by_cases c5 : t183 = true
    · subst c5
      have H1 : (some (-1)) = some r := by rw [if_pos rfl] at H; exact H
      clear H
      have H := H1
      clear H1
      obtain rfl := Option.some.inj H
      go_enter Try.func49, Try.ntmps49
      go_wp2_with (first | ((with_reducible refine gate_callee (f := 62) rfl ?_); refine goesL_ (some 10) rfl rfl Try.func62 (by kernel_rfl) rfl #[.string a0, .string a1] rfl (by (try simp only [List.map_toArray, List.map_cons, List.map_nil]); first | done | rfl | (simp only [List.length_drop, List.length_take]; rfl)) ?_; (with_reducible refine (rosetteref04_less.calls k a0 a1 true _ A4.out).mono ?_); rintro e w' ⟨rfl, ⟨nd, rfl⟩⟩; refine ⟨_, rfl, ?_⟩))
      go_ret
      exact ⟨by first | rfl | (simp; done) | (simp [*]; done), by repeat (first | exact Drawn0.refl _ | apply Drawn0.step)⟩
    · replace c5 := Bool.eq_false_iff.mpr c5
      subst c5
      have H1 : (some 1) = some r := by rw [if_neg (show ¬ (false = true) by decide)] at H; exact H
      clear H
      have H := H1
      clear H1
      obtain rfl := Option.some.inj H
      go_enter Try.func49, Try.ntmps49
      go_wp2_with (first | ((with_reducible refine gate_callee (f := 62) rfl ?_); refine goesL_ (some 10) rfl rfl Try.func62 (by kernel_rfl) rfl #[.string a0, .string a1] rfl (by (try simp only [List.map_toArray, List.map_cons, List.map_nil]); first | done | rfl | (simp only [List.length_drop, List.length_take]; rfl)) ?_; (with_reducible refine (rosetteref04_less.calls k a0 a1 false _ A4.out).mono ?_); rintro e w' ⟨rfl, ⟨nd, rfl⟩⟩; refine ⟨_, rfl, ?_⟩))
      go_ret
      exact ⟨by first | rfl | (simp; done) | (simp [*]; done), by repeat (first | exact Drawn0.refl _ | apply Drawn0.step)⟩

end Go.Proofs.Ytojefdnngkcaoaa.G
end

section
-- Written by a program of this session (wip/tools/myprint.py), over the kit's print.
namespace Go.Proofs.Ytojefdnngkcaoaa.G
open Go.RowKit Go.Proofs.YtojefdnngkcaoaaW.PrintWords Go.Proofs.YtojefdnngkcaoaaW.PrintLast Go.Proofs.YtojefdnngkcaoaaW.PrintMore
attribute [local go_sem] max2_int min2_int max_two min_two max_three min_three max_four min_four   -- for this text's walks alone
set_option linter.unusedVariables false
set_option linter.unusedSimpArgs false

/-! ### rosetteref04_Compare: function 28 -/
def rosetteref04_Compare.j0 : Nat → Bool → Int → Int → ByteArray → Int → Int → ByteArray → Option (Int)
  | 0, _, _, _, _, _, _, _ => none
  | k + 1, x23, x185000, x185001, x185002, x186000, x186001, x186002 => if x23 = true then (some (-1)) else (if x185000 > x186000 then (some 1) else (if x185001 > x186001 then (some 1) else ((rosetteref04_Text.f k x185002 x186002).bind fun t186 => (some t186))))
def rosetteref04_Compare.f (k : Nat) (a0_0 : Int) (a0_1 : Int) (a0_2 : ByteArray) (a1_0 : Int) (a1_1 : Int) (a1_2 : ByteArray) : Option (Int) := if a0_0 < a1_0 then (rosetteref04_Compare.j0 k true a0_0 a0_1 a0_2 a1_0 a1_1 a1_2) else (if a0_0 = a1_0 then (rosetteref04_Compare.j0 k (decide (a0_1 < a1_1)) a0_0 a0_1 a0_2 a1_0 a1_1 a1_2) else (rosetteref04_Compare.j0 k false a0_0 a0_1 a0_2 a1_0 a1_1 a1_2))
theorem rosetteref04_Compare.mono_l : ∀ k, (∀ y0 y1 y2 y3 y4 y5 y6, LeO (rosetteref04_Compare.j0 k y0 y1 y2 y3 y4 y5 y6) (rosetteref04_Compare.j0 (k + 1) y0 y1 y2 y3 y4 y5 y6))
  | 0 => fun _ _ _ _ _ _ _ r h => by simp [rosetteref04_Compare.j0] at h
  | k + 1 => by
    have ih0 := rosetteref04_Compare.mono_l k
    · intro y0 y1 y2 y3 y4 y5 y6
      unfold rosetteref04_Compare.j0
      repeat' first
      | (with_reducible exact ih0 _ _ _ _ _ _ _)
      | (with_reducible exact rosetteref04_Text.mono _ _ _)
      | (with_reducible exact LeO.refl _)
      | (with_reducible exact LeO.none _)
      | (with_reducible refine LeO.ite ?_ ?_)
      | (with_reducible refine LeO.bind ?_ (fun _ => ?_))
      | exact ih0 _ _ _ _ _ _ _
      | exact rosetteref04_Text.mono _ _ _
      | exact LeO.none _
      | refine LeO.ite ?_ ?_
      | refine LeO.bind ?_ (fun _ => ?_)
theorem rosetteref04_Compare.mono : ∀ a0 a1 a2 a3 a4 a5 k, LeO (rosetteref04_Compare.f k a0 a1 a2 a3 a4 a5) (rosetteref04_Compare.f (k + 1) a0 a1 a2 a3 a4 a5) := by
  intro a0 a1 a2 a3 a4 a5 k
  have ih0 := rosetteref04_Compare.mono_l k
  unfold rosetteref04_Compare.f
  repeat' first
      | (with_reducible exact ih0 _ _ _ _ _ _ _)
      | (with_reducible exact rosetteref04_Text.mono _ _ _)
      | (with_reducible exact LeO.refl _)
      | (with_reducible exact LeO.none _)
      | (with_reducible refine LeO.ite ?_ ?_)
      | (with_reducible refine LeO.bind ?_ (fun _ => ?_))
      | exact ih0 _ _ _ _ _ _ _
      | exact rosetteref04_Text.mono _ _ _
      | exact LeO.none _
      | refine LeO.ite ?_ ?_
      | refine LeO.bind ?_ (fun _ => ?_)
set_option maxHeartbeats 8000000 in
set_option maxRecDepth 100000 in
theorem rosetteref04_Compare.calls (k : Nat) (a0_0 : Int) (a0_1 : Int) (a0_2 : ByteArray) (a1_0 : Int) (a1_1 : Int) (a1_2 : ByteArray) (r : Int) (w : World) (h : rosetteref04_Compare.f k a0_0 a0_1 a0_2 a1_0 a1_1 a1_2 = some r) :
    Calls Try.prog 28 #[.agg #[.int .i64 a0_0, .int .i64 a0_1, .string a0_2], .agg #[.int .i64 a1_0, .int .i64 a1_1, .string a1_2]] w fun e w' => e = .returned (.int .i64 r) ∧ Below w.heap.size w w' := by
  have hu23 := Try.underlying23
  have HB := Aside0.mk (Below.refl w.heap.size w)
  have H : (if a0_0 < a1_0 then (rosetteref04_Compare.j0 k true a0_0 a0_1 a0_2 a1_0 a1_1 a1_2) else (if a0_0 = a1_0 then (rosetteref04_Compare.j0 k (decide (a0_1 < a1_1)) a0_0 a0_1 a0_2 a1_0 a1_1 a1_2) else (rosetteref04_Compare.j0 k false a0_0 a0_1 a0_2 a1_0 a1_1 a1_2))) = some r := h
  clear h
  have HC3 := Aside0.mk H
  clear H
  go_enter Try.func28, Try.ntmps28
  go_upto_region 1 with (first | ((with_reducible refine gate_dst (N := 2) rfl ?_); refine box_event ?hg (N := 2) ?hd (cs := #[.int .i64 a0_0, .int .i64 a0_1, .string a0_2]) (t := 23) ?hr ?_; (case hd => rfl); (case hg => rfl); (case hr => first | (go_simp; done) | (go_simp; rfl)); intro gb184 hg w4 hbox hb; have n0_ := Aside0.mk (below_step (by repeat (first | (with_reducible first | exact HB.out | apply below_alloc | apply pw_below_drewN | apply below_drew1) | exact HB.out)) hb); have n1_ := Aside0.mk (hbox); have n2_ := Aside0.mk ((by rw [hg]; exact (below_size (by repeat (first | (with_reducible first | exact HB.out | apply below_alloc | apply pw_below_drewN | apply below_drew1) | exact HB.out))) : w.heap.size ≤ gb184)); have n3_ := Aside0.mk ((by rw [hg]; exact (below_size (by repeat (first | (with_reducible first | exact HB.out | apply below_alloc | apply pw_below_drewN | apply below_drew1) | exact HB.out))) : w.heap.size ≤ gb184)); clear HB; have HB := n0_; have BK184 := n1_; have GW184 := n2_; have GE184 := n3_; clear n0_ n1_ n2_ n3_; clear hb hbox hg) | ((with_reducible refine gate_dst (N := 3) rfl ?_); refine box_event ?hg (N := 3) ?hd (cs := #[.int .i64 a1_0, .int .i64 a1_1, .string a1_2]) (t := 23) ?hr ?_; (case hd => rfl); (case hg => rfl); (case hr => first | (go_simp; done) | (go_simp; rfl)); intro gb185 hg w5 hbox hb; have n0_ := Aside0.mk (blk_below (g := gb184) (o := .cells #[.int .i64 a0_0, .int .i64 a0_1, .string a0_2] 23 (0, 0)) (by (with_reducible repeat (first | refine blk_drewN ?_ _ | refine blk_drew ?_ | refine blk_alloc ?_ _)); exact BK184.out) hb); have n1_ := Aside0.mk (below_step (by repeat (first | (with_reducible first | exact HB.out | apply below_alloc | apply pw_below_drewN | apply below_drew1 | refine below_set ?_ GE184.out) | exact HB.out)) hb); have n2_ := Aside0.mk (hbox); have n3_ := Aside0.mk ((by rw [hg]; exact (below_size (by repeat (first | (with_reducible first | exact HB.out | apply below_alloc | apply pw_below_drewN | apply below_drew1 | refine below_set ?_ GE184.out) | exact HB.out))) : w.heap.size ≤ gb185)); have n4_ := Aside0.mk ((by rw [hg]; exact (below_size (by repeat (first | (with_reducible first | exact HB.out | apply below_alloc | apply pw_below_drewN | apply below_drew1 | refine below_set ?_ GE184.out) | exact HB.out))) : w.heap.size ≤ gb185)); have n5_ := Aside0.mk ((by rw [hg]; exact Nat.ne_of_lt (blk_lt (g := gb184) (o := .cells #[.int .i64 a0_0, .int .i64 a0_1, .string a0_2] 23 (0, 0)) (by (with_reducible repeat (first | refine blk_drewN ?_ _ | refine blk_drew ?_ | refine blk_alloc ?_ _)); exact BK184.out)) : gb184 ≠ gb185)); have n6_ := Aside0.mk ((by rw [hg]; exact Nat.ne_of_gt (blk_lt (g := gb184) (o := .cells #[.int .i64 a0_0, .int .i64 a0_1, .string a0_2] 23 (0, 0)) (by (with_reducible repeat (first | refine blk_drewN ?_ _ | refine blk_drew ?_ | refine blk_alloc ?_ _)); exact BK184.out)) : gb185 ≠ gb184)); clear BK184; clear HB; have BK184 := n0_; have HB := n1_; have BK185 := n2_; have GW185 := n3_; have GE185 := n4_; have NB184_185 := n5_; have NB185_184 := n6_; clear n0_ n1_ n2_ n3_ n4_ n5_ n6_; clear hb hbox hg))
  (try simp only [Act.put, List.setIfInBounds_toArray, List.set_cons_zero, List.set_cons_succ])
  go_cut [23] (fun v23 wc => ∃ (kq : Nat) (x23_2 : Bool), v23 = .bool x23_2 ∧ Aside0 (rosetteref04_Compare.j0 kq x23_2 a0_0 a0_1 a0_2 a1_0 a1_1 a1_2 = some r) ∧ Aside0 (kq ≤ k) ∧ Aside0 (wc.heap[gb184]? = some (.cells #[.int .i64 a0_0, .int .i64 a0_1, .string a0_2] 23 (0, 0))) ∧ Aside0 (wc.heap[gb185]? = some (.cells #[.int .i64 a1_0, .int .i64 a1_1, .string a1_2] 23 (0, 0))) ∧ Aside0 (Below w.heap.size w wc))
  case first =>
    have H := HC3.out
    clear HC3
    by_cases c6 : a0_0 < a1_0
    · rw [if_pos c6] at H
      have c6b0 : decide (a0_0 < a1_0) = true := decide_eq_true c6
      clear c6
      (first | rw [c6b0] | (simp only [i64_w, i32_w]; rw [c6b0]) | skip)
      have H' := Aside0.mk H
      clear H
      have hnb7 := NB184_185.out
      have hnc7 := NB185_184.out
      have hcz8_0 : w5.cell? ⟨gb184, 0, none⟩ = some (.int .i64 a0_0) := (blk_cell BK184.out 0).trans rfl
      have hcz8_1 : w5.cell? ⟨gb184, 1, none⟩ = some (.int .i64 a0_1) := (blk_cell BK184.out 1).trans rfl
      have hcz8_2 : w5.cell? ⟨gb184, 2, none⟩ = some (.string a0_2) := (blk_cell BK184.out 2).trans rfl
      have hfz8_0 := blk_frozen BK184.out 0
      have hfz8_1 := blk_frozen BK184.out 1
      have hfz8_2 := blk_frozen BK184.out 2
      have hcz9_0 : w5.cell? ⟨gb185, 0, none⟩ = some (.int .i64 a1_0) := (blk_cell BK185.out 0).trans rfl
      have hcz9_1 : w5.cell? ⟨gb185, 1, none⟩ = some (.int .i64 a1_1) := (blk_cell BK185.out 1).trans rfl
      have hcz9_2 : w5.cell? ⟨gb185, 2, none⟩ = some (.string a1_2) := (blk_cell BK185.out 2).trans rfl
      have hfz9_0 := blk_frozen BK185.out 0
      have hfz9_1 := blk_frozen BK185.out 1
      have hfz9_2 := blk_frozen BK185.out 2
      go_wp2
      go_meet
      case rel => exact ⟨_, (true), (by first | rfl | (simp; done) | (simp [*]; done)), H', ⟨by first | omega | exact Nat.le_refl _⟩, ⟨by (with_reducible repeat (first | refine blk_drewN ?_ _ | refine blk_drew ?_ | refine blk_alloc ?_ _)); exact BK184.out⟩, ⟨by (with_reducible repeat (first | refine blk_drewN ?_ _ | refine blk_drew ?_ | refine blk_alloc ?_ _)); exact BK185.out⟩, ⟨by repeat (first | (with_reducible first | exact HB.out | apply below_alloc | apply pw_below_drewN | apply below_drew1 | refine below_set ?_ GE184.out | refine below_set ?_ GE185.out) | exact HB.out)⟩⟩
    · rw [if_neg c6] at H
      have c6b0 : decide (a0_0 < a1_0) = false := decide_eq_false c6
      clear c6
      (first | rw [c6b0] | (simp only [i64_w, i32_w]; rw [c6b0]) | skip)
      by_cases c10 : a0_0 = a1_0
      · rw [if_pos c10] at H
        have c10b0 : (a0_0 == a1_0) = true := beq_iff_eq.mpr c10
        have c10b1 : (a0_0 != a1_0) = false := bne_eq_false_iff_eq.mpr c10
        clear c10
        have H' := Aside0.mk H
        clear H
        have hnb11 := NB184_185.out
        have hnc11 := NB185_184.out
        have hcz12_0 : w5.cell? ⟨gb184, 0, none⟩ = some (.int .i64 a0_0) := (blk_cell BK184.out 0).trans rfl
        have hcz12_1 : w5.cell? ⟨gb184, 1, none⟩ = some (.int .i64 a0_1) := (blk_cell BK184.out 1).trans rfl
        have hcz12_2 : w5.cell? ⟨gb184, 2, none⟩ = some (.string a0_2) := (blk_cell BK184.out 2).trans rfl
        have hfz12_0 := blk_frozen BK184.out 0
        have hfz12_1 := blk_frozen BK184.out 1
        have hfz12_2 := blk_frozen BK184.out 2
        have hcz13_0 : w5.cell? ⟨gb185, 0, none⟩ = some (.int .i64 a1_0) := (blk_cell BK185.out 0).trans rfl
        have hcz13_1 : w5.cell? ⟨gb185, 1, none⟩ = some (.int .i64 a1_1) := (blk_cell BK185.out 1).trans rfl
        have hcz13_2 : w5.cell? ⟨gb185, 2, none⟩ = some (.string a1_2) := (blk_cell BK185.out 2).trans rfl
        have hfz13_0 := blk_frozen BK185.out 0
        have hfz13_1 := blk_frozen BK185.out 1
        have hfz13_2 := blk_frozen BK185.out 2
        go_wp2
        go_meet
        case rel => exact ⟨_, (decide (a0_1 < a1_1)), (by first | rfl | (simp; done) | (simp [*]; done)), H', ⟨by first | omega | exact Nat.le_refl _⟩, ⟨by (with_reducible repeat (first | refine blk_drewN ?_ _ | refine blk_drew ?_ | refine blk_alloc ?_ _)); exact BK184.out⟩, ⟨by (with_reducible repeat (first | refine blk_drewN ?_ _ | refine blk_drew ?_ | refine blk_alloc ?_ _)); exact BK185.out⟩, ⟨by repeat (first | (with_reducible first | exact HB.out | apply below_alloc | apply pw_below_drewN | apply below_drew1 | refine below_set ?_ GE184.out | refine below_set ?_ GE185.out) | exact HB.out)⟩⟩
      · rw [if_neg c10] at H
        have c10b0 : (a0_0 == a1_0) = false := beq_eq_false_iff_ne.mpr c10
        have c10b1 : (a0_0 != a1_0) = true := bne_iff_ne.mpr c10
        have H' := Aside0.mk H
        clear H
        have hnb14 := NB184_185.out
        have hnc14 := NB185_184.out
        have hcz15_0 : w5.cell? ⟨gb184, 0, none⟩ = some (.int .i64 a0_0) := (blk_cell BK184.out 0).trans rfl
        have hcz15_1 : w5.cell? ⟨gb184, 1, none⟩ = some (.int .i64 a0_1) := (blk_cell BK184.out 1).trans rfl
        have hcz15_2 : w5.cell? ⟨gb184, 2, none⟩ = some (.string a0_2) := (blk_cell BK184.out 2).trans rfl
        have hfz15_0 := blk_frozen BK184.out 0
        have hfz15_1 := blk_frozen BK184.out 1
        have hfz15_2 := blk_frozen BK184.out 2
        have hcz16_0 : w5.cell? ⟨gb185, 0, none⟩ = some (.int .i64 a1_0) := (blk_cell BK185.out 0).trans rfl
        have hcz16_1 : w5.cell? ⟨gb185, 1, none⟩ = some (.int .i64 a1_1) := (blk_cell BK185.out 1).trans rfl
        have hcz16_2 : w5.cell? ⟨gb185, 2, none⟩ = some (.string a1_2) := (blk_cell BK185.out 2).trans rfl
        have hfz16_0 := blk_frozen BK185.out 0
        have hfz16_1 := blk_frozen BK185.out 1
        have hfz16_2 := blk_frozen BK185.out 2
        go_wp2
        go_meet
        case rel => exact ⟨_, (false), (by first | rfl | (simp; done) | (simp [*]; done)), H', ⟨by first | omega | exact Nat.le_refl _⟩, ⟨by (with_reducible repeat (first | refine blk_drewN ?_ _ | refine blk_drew ?_ | refine blk_alloc ?_ _)); exact BK184.out⟩, ⟨by (with_reducible repeat (first | refine blk_drewN ?_ _ | refine blk_drew ?_ | refine blk_alloc ?_ _)); exact BK185.out⟩, ⟨by repeat (first | (with_reducible first | exact HB.out | apply below_alloc | apply pw_below_drewN | apply below_drew1 | refine below_set ?_ GE184.out | refine below_set ?_ GE185.out) | exact HB.out)⟩⟩
  case rest =>
    clear HC3
    try clear c1
    try clear c2
    try clear p2
    try clear c6
    try clear c6b0
    try clear c7
    try clear c10
    try clear c10b0
    try clear c10b1
    try clear c11
    try clear c14
    try clear hcz12_0
    try clear hcz12_1
    try clear hcz12_2
    try clear hcz13_0
    try clear hcz13_1
    try clear hcz13_2
    try clear hcz15_0
    try clear hcz15_1
    try clear hcz15_2
    try clear hcz16_0
    try clear hcz16_1
    try clear hcz16_2
    try clear hcz8_0
    try clear hcz8_1
    try clear hcz8_2
    try clear hcz9_0
    try clear hcz9_1
    try clear hcz9_2
    try clear hfz12_0
    try clear hfz12_1
    try clear hfz12_2
    try clear hfz13_0
    try clear hfz13_1
    try clear hfz13_2
    try clear hfz15_0
    try clear hfz15_1
    try clear hfz15_2
    try clear hfz16_0
    try clear hfz16_1
    try clear hfz16_2
    try clear hfz8_0
    try clear hfz8_1
    try clear hfz8_2
    try clear hfz9_0
    try clear hfz9_1
    try clear hfz9_2
    obtain ⟨kq, x23_2, rfl, HA, HJ2, BK184, BK185, HB⟩ := hcut
    cases kq with
    | zero => exact absurd HA.out (by simp [rosetteref04_Compare.j0])
    | succ kj2 =>
      have H := HA.out
      clear HA
      simp only [rosetteref04_Compare.j0] at H
      by_cases c17 : x23_2 = true
      · subst c17
        have H1 : (some (-1)) = some r := by rw [if_pos rfl] at H; exact H
        clear H
        have H := H1
        clear H1
        obtain rfl := Option.some.inj H
        go_wp2
        go_ret
        exact ⟨by first | rfl | (simp [errW_none, errW_some] <;> rfl) | (simp [*, errW_none, errW_some] <;> rfl), by repeat (first | (with_reducible first | exact HB.out | apply below_alloc | apply pw_below_drewN | apply below_drew1 | refine below_set ?_ GE184.out | refine below_set ?_ GE185.out) | exact HB.out)⟩
      · replace c17 := Bool.eq_false_iff.mpr c17
        subst c17
        have H1 : (if a0_0 > a1_0 then (some 1) else (if a0_1 > a1_1 then (some 1) else ((rosetteref04_Text.f kj2 a0_2 a1_2).bind fun t186 => (some t186)))) = some r := by rw [if_neg (show ¬ (false = true) by decide)] at H; exact H
        clear H
        have H := H1
        clear H1
        by_cases c18 : a0_0 > a1_0
        · rw [if_pos c18] at H
          have c18b0 : decide (a1_0 < a0_0) = true := decide_eq_true c18
          clear c18
          obtain rfl := Option.some.inj H
          have hnb19 := NB184_185.out
          have hnc19 := NB185_184.out
          have hcz20_0 : wc.cell? ⟨gb184, 0, none⟩ = some (.int .i64 a0_0) := (blk_cell BK184.out 0).trans rfl
          have hcz20_1 : wc.cell? ⟨gb184, 1, none⟩ = some (.int .i64 a0_1) := (blk_cell BK184.out 1).trans rfl
          have hcz20_2 : wc.cell? ⟨gb184, 2, none⟩ = some (.string a0_2) := (blk_cell BK184.out 2).trans rfl
          have hfz20_0 := blk_frozen BK184.out 0
          have hfz20_1 := blk_frozen BK184.out 1
          have hfz20_2 := blk_frozen BK184.out 2
          have hcz21_0 : wc.cell? ⟨gb185, 0, none⟩ = some (.int .i64 a1_0) := (blk_cell BK185.out 0).trans rfl
          have hcz21_1 : wc.cell? ⟨gb185, 1, none⟩ = some (.int .i64 a1_1) := (blk_cell BK185.out 1).trans rfl
          have hcz21_2 : wc.cell? ⟨gb185, 2, none⟩ = some (.string a1_2) := (blk_cell BK185.out 2).trans rfl
          have hfz21_0 := blk_frozen BK185.out 0
          have hfz21_1 := blk_frozen BK185.out 1
          have hfz21_2 := blk_frozen BK185.out 2
          go_wp2
          go_ret
          exact ⟨by first | rfl | (simp [errW_none, errW_some] <;> rfl) | (simp [*, errW_none, errW_some] <;> rfl), by repeat (first | (with_reducible first | exact HB.out | apply below_alloc | apply pw_below_drewN | apply below_drew1 | refine below_set ?_ GE184.out | refine below_set ?_ GE185.out) | exact HB.out)⟩
        · rw [if_neg c18] at H
          have c18b0 : decide (a1_0 < a0_0) = false := decide_eq_false c18
          clear c18
          by_cases c22 : a0_1 > a1_1
          · rw [if_pos c22] at H
            have c22b0 : decide (a1_1 < a0_1) = true := decide_eq_true c22
            clear c22
            obtain rfl := Option.some.inj H
            have hnb23 := NB184_185.out
            have hnc23 := NB185_184.out
            have hcz24_0 : wc.cell? ⟨gb184, 0, none⟩ = some (.int .i64 a0_0) := (blk_cell BK184.out 0).trans rfl
            have hcz24_1 : wc.cell? ⟨gb184, 1, none⟩ = some (.int .i64 a0_1) := (blk_cell BK184.out 1).trans rfl
            have hcz24_2 : wc.cell? ⟨gb184, 2, none⟩ = some (.string a0_2) := (blk_cell BK184.out 2).trans rfl
            have hfz24_0 := blk_frozen BK184.out 0
            have hfz24_1 := blk_frozen BK184.out 1
            have hfz24_2 := blk_frozen BK184.out 2
            have hcz25_0 : wc.cell? ⟨gb185, 0, none⟩ = some (.int .i64 a1_0) := (blk_cell BK185.out 0).trans rfl
            have hcz25_1 : wc.cell? ⟨gb185, 1, none⟩ = some (.int .i64 a1_1) := (blk_cell BK185.out 1).trans rfl
            have hcz25_2 : wc.cell? ⟨gb185, 2, none⟩ = some (.string a1_2) := (blk_cell BK185.out 2).trans rfl
            have hfz25_0 := blk_frozen BK185.out 0
            have hfz25_1 := blk_frozen BK185.out 1
            have hfz25_2 := blk_frozen BK185.out 2
            go_wp2
            go_ret
            exact ⟨by first | rfl | (simp [errW_none, errW_some] <;> rfl) | (simp [*, errW_none, errW_some] <;> rfl), by repeat (first | (with_reducible first | exact HB.out | apply below_alloc | apply pw_below_drewN | apply below_drew1 | refine below_set ?_ GE184.out | refine below_set ?_ GE185.out) | exact HB.out)⟩
          · rw [if_neg c22] at H
            have c22b0 : decide (a1_1 < a0_1) = false := decide_eq_false c22
            clear c22
            replace H := Option.bind_eq_some_iff.mp H
            obtain ⟨t186, A260, H⟩ := H
            replace H : (some t186) = some r := H
            have A26 := Aside0.mk A260
            clear A260
            obtain rfl := Option.some.inj H
            have hnb27 := NB184_185.out
            have hnc27 := NB185_184.out
            have hcz28_0 : wc.cell? ⟨gb184, 0, none⟩ = some (.int .i64 a0_0) := (blk_cell BK184.out 0).trans rfl
            have hcz28_1 : wc.cell? ⟨gb184, 1, none⟩ = some (.int .i64 a0_1) := (blk_cell BK184.out 1).trans rfl
            have hcz28_2 : wc.cell? ⟨gb184, 2, none⟩ = some (.string a0_2) := (blk_cell BK184.out 2).trans rfl
            have hfz28_0 := blk_frozen BK184.out 0
            have hfz28_1 := blk_frozen BK184.out 1
            have hfz28_2 := blk_frozen BK184.out 2
            have hcz29_0 : wc.cell? ⟨gb185, 0, none⟩ = some (.int .i64 a1_0) := (blk_cell BK185.out 0).trans rfl
            have hcz29_1 : wc.cell? ⟨gb185, 1, none⟩ = some (.int .i64 a1_1) := (blk_cell BK185.out 1).trans rfl
            have hcz29_2 : wc.cell? ⟨gb185, 2, none⟩ = some (.string a1_2) := (blk_cell BK185.out 2).trans rfl
            have hfz29_0 := blk_frozen BK185.out 0
            have hfz29_1 := blk_frozen BK185.out 1
            have hfz29_2 := blk_frozen BK185.out 2
            go_wp2_with (first | ((with_reducible refine gate_callee (f := 49) rfl ?_); refine goesL_ (some 40) rfl rfl Try.func49 (by kernel_rfl) rfl #[.string a0_2, .string a1_2] rfl (by (try simp only [List.map_toArray, List.map_cons, List.map_nil]); first | done | rfl | (simp only [List.length_drop, List.length_take]; rfl)) ?_; (with_reducible refine (rosetteref04_Text.calls kj2 a0_2 a1_2 t186 _ A26.out).mono ?_); rintro e w' ⟨rfl, ⟨nd, rfl⟩⟩; refine ⟨_, rfl, ?_⟩))
            go_ret
            exact ⟨by first | rfl | (simp [errW_none, errW_some] <;> rfl) | (simp [*, errW_none, errW_some] <;> rfl), by repeat (first | (with_reducible first | exact HB.out | apply below_alloc | apply pw_below_drewN | apply below_drew1 | refine below_set ?_ GE184.out | refine below_set ?_ GE185.out) | exact HB.out)⟩

end Go.Proofs.Ytojefdnngkcaoaa.G
end

section
/- values over numbers and lists: which are right, how they stand, their bytes -/
set_option linter.unusedVariables false
set_option linter.unusedSimpArgs false
set_option autoImplicit false
namespace Go.Proofs.Ytojefdnngkcaoaa
open Go.RowKit Go.Proofs.YtojefdnngkcaoaaW.PrintWords Go.Proofs.YtojefdnngkcaoaaW.PrintLast Go.Proofs.YtojefdnngkcaoaaW.PrintMore Go.Proofs.Ytojefdnngkcaoaa.G

/-! ### which are right -/
theorem andNot_one (i : Int) (h0 : -9223372036854775808 ≤ i) (h1 : i < 9223372036854775808) : (bits .andNot .i64 i 1 = 0) ↔ (0 ≤ i ∧ i ≤ 1) := by
  obtain ⟨X, hX⟩ : ∃ X, (BitVec.ofInt 64 i).toNat = X := ⟨_, rfl⟩
  have hb : bits .andNot .i64 i 1 = IntKind.i64.wrap ((X &&& 18446744073709551614 : Nat) : Int) := by
    show IntKind.i64.wrap ((BitVec.ofInt 64 i &&& ~~~BitVec.ofInt 64 1).toNat : Int) = _
    rw [BitVec.toNat_and, hX]
    rfl
  have hx : (X : Int) = i % 18446744073709551616 := by
    rw [← hX, BitVec.toNat_ofInt]
    omega
  have hd : (X &&& 18446744073709551614) / 2 = X / 2 := by
    rw [Nat.and_div_two, show 18446744073709551614 / 2 = 2 ^ 63 - 1 from rfl, Nat.and_two_pow_sub_one_eq_mod]
    omega
  have hm : (X &&& 18446744073709551614) % 2 = 0 := by
    have := Nat.and_mod_two_pow (a := X) (b := 18446744073709551614) (n := 1)
    simp only [show (2 : Nat) ^ 1 = 2 from rfl] at this
    rw [this]
    simp
  rw [hb, IntKind.wrap_i64]
  generalize X &&& 18446744073709551614 = Y at *
  omega
def vright (k i : Int) (t : ByteArray) : Bool :=
  if k = 1 then t.toList == [] else if k = 2 then (if i = 0 then decide ((t.size : Int) ≤ 64) else false) else if k = 3 then (if t.toList = [] then decide (0 ≤ i ∧ i ≤ 1) else false) else false
theorem right_f (k i : Int) (t : ByteArray) (h0 : -9223372036854775808 ≤ i) (h1 : i < 9223372036854775808) : value_Right.f k i t = some (vright k i t) := by
  unfold value_Right.f vright
  split
  · rfl
  split
  · split <;> rfl
  split
  · split
    · congr 1
      rw [Bool.eq_iff_iff]
      simp only [beq_iff_eq, decide_eq_true_eq]
      exact andNot_one i h0 h1
    · rfl
  · rfl
theorem rright_f (k i : Int) (t : ByteArray) : rosetteref04_Right.f k i t = some (vright k i t) := by
  unfold rosetteref04_Right.f vright
  split
  · rfl
  split
  · split <;> rfl
  split
  · split
    · split
      · rename_i h
        congr 1
        rw [Bool.eq_iff_iff]
        simp only [decide_eq_true_eq]
        omega
      · rename_i h
        congr 1
        rw [Bool.eq_iff_iff]
        simp only [decide_eq_true_eq, Bool.false_eq_true, false_iff]
        omega
    · rfl
  · rfl

/-! ### how they stand -/
def cmpI (a b : Int) : Int := if a < b then -1 else if a > b then 1 else 0
def or3 (x y z : Int) : Int := if x = 0 then (if y = 0 then z else y) else x
def vcmp (k i : Int) (t : ByteArray) (k' i' : Int) (t' : ByteArray) : Int := or3 (cmpI k k') (cmpI i i') (Lib.compareBytes t.data.toList t'.data.toList)
theorem cmpInt_f (a b : Int) : cmp_Compare_int.f a b = some (cmpI a b) := by
  unfold cmp_Compare_int.f cmp_isNaN_int.f cmpI
  simp only [Option.bind_some, bne_self_eq_false, Bool.false_eq_true, if_false]
  split
  · rfl
  split <;> rfl
theorem or_f (k : Nat) (hk : 4 ≤ k) (x y z : Int) : cmp_Or_int.f k [x, y, z] = some (or3 x y z) := by
  obtain ⟨m, rfl⟩ : ∃ m, k = m + 4 := ⟨k - 4, by omega⟩
  have w0 : wrap64 (0 + 1) = 1 := by unfold wrap64; omega
  have w1 : wrap64 (1 + 1) = 2 := by unfold wrap64; omega
  have w2 : wrap64 (2 + 1) = 3 := by unfold wrap64; omega
  unfold cmp_Or_int.f or3
  simp only [cmp_Or_int.l0, List.length_cons, List.length_nil, w0, w1, w2]
  by_cases hx : x = 0
  · by_cases hy : y = 0
    · by_cases hz : z = 0 <;> simp [rd, hx, hy, hz]
    · simp [rd, hx, hy]
  · simp [rd, hx]
theorem compare_f (K : Nat) (hK : 4 ≤ K) (k i : Int) (t : ByteArray) (k' i' : Int) (t' : ByteArray) : value_Compare.f K k i t k' i' t' = some (vcmp k i t k' i' t') := by
  unfold value_Compare.f vcmp
  rw [cmpInt_f, cmpInt_f]
  unfold strings_Compare.f
  simp only [Option.bind_some]
  rw [or_f K hK]
  rfl
theorem bt_list (s : ByteArray) (i : Nat) (h : i < s.data.toList.length) : bt s (i : Int) = (s.data.toList[i].toNat : Int) := by
  have hs : i < s.size := by rw [Array.length_toList] at h; exact h
  unfold bt
  rw [dif_pos (by rw [Int.toNat_natCast]; exact hs)]
  simp only [Int.toNat_natCast]
  rfl
theorem less_go (a b : ByteArray) (ha : a.size < 9223372036854775807) : ∀ (f i e : Nat), i ≤ a.size → i ≤ b.size → i + f = a.size → rosetteref04_less.l0 (2 * f + 2 + e) a b (i : Int) = some (decide (Lib.compareBytes (a.data.toList.drop i) (b.data.toList.drop i) = -1)) := by
  have hla : a.data.toList.length = a.size := by rw [Array.length_toList]; rfl
  have hlb : b.data.toList.length = b.size := by rw [Array.length_toList]; rfl
  intro f
  induction f with
  | zero =>
    intro i e hi hj h
    rw [show 2 * 0 + 2 + e = (e + 1) + 1 by omega, rosetteref04_less.l0, if_neg (by omega), rosetteref04_less.j1, if_neg (by decide)]
    rw [List.drop_of_length_le (by omega)]
    congr 1
    rw [Bool.eq_iff_iff]
    simp only [decide_eq_true_eq]
    by_cases hb : i < b.size
    · rw [List.drop_eq_getElem_cons (by omega)]
      simp only [Lib.compareBytes]
      exact ⟨fun _ => trivial, fun _ => by omega⟩
    · rw [List.drop_of_length_le (l := b.data.toList) (by omega)]
      simp only [Lib.compareBytes]
      exact ⟨fun h => by omega, fun h => absurd h (by decide)⟩
  | succ f ih =>
    intro i e hi hj h
    have hw : wrap64 ((i : Int) + 1) = ((i + 1 : Nat) : Int) := by unfold wrap64; omega
    rw [show 2 * (f + 1) + 2 + e = (2 * f + 2 + e + 1) + 1 by omega, rosetteref04_less.l0, if_pos (by omega), rosetteref04_less.j1]
    by_cases hb : i < b.size
    · rw [if_pos (by simpa using hb), if_pos (by omega), if_pos (by omega), if_pos (by omega), hw, bt_list a i (by omega), bt_list b i (by omega)]
      rw [List.drop_eq_getElem_cons (l := a.data.toList) (by omega), List.drop_eq_getElem_cons (l := b.data.toList) (by omega)]
      simp only [Lib.compareBytes, UInt8.lt_iff_toNat_lt]
      generalize ha' : (a.data.toList[i]'(by omega)).toNat = x
      generalize hb' : (b.data.toList[i]'(by omega)).toNat = y
      by_cases hxy : x = y
      · subst hxy
        rw [if_pos rfl, if_neg (by omega), if_neg (by omega)]
        exact ih (i + 1) e (by omega) (by omega) (by omega)
      · rw [if_neg (by omega)]
        congr 1
        rw [Bool.eq_iff_iff]
        simp only [decide_eq_true_eq]
        by_cases hlt : x < y
        · rw [if_pos hlt]; omega
        · rw [if_neg hlt, if_pos (by omega)]; omega
    · rw [if_neg (by simpa using hb)]
      rw [List.drop_of_length_le (l := b.data.toList) (by omega), List.drop_eq_getElem_cons (l := a.data.toList) (by omega)]
      congr 1
      rw [Bool.eq_iff_iff]
      simp [Lib.compareBytes]
      omega
theorem less_f (a b : ByteArray) (ha : a.size < 9223372036854775807) (k : Nat) (hk : 2 * a.size + 2 ≤ k) : rosetteref04_less.f k a b = some (decide (Lib.compareBytes a.data.toList b.data.toList = -1)) := by
  have := less_go a b ha a.size 0 (k - (2 * a.size + 2)) (Nat.zero_le _) (Nat.zero_le _) (by omega)
  rw [show 2 * a.size + 2 + (k - (2 * a.size + 2)) = k by omega] at this
  exact this
theorem cmpB_zero : ∀ (a b : List UInt8), Lib.compareBytes a b = 0 ↔ a = b
  | [], [] => by simp [Lib.compareBytes]
  | [], _ :: _ => by simp [Lib.compareBytes]
  | _ :: _, [] => by simp [Lib.compareBytes]
  | x :: a, y :: b => by
    have ih := cmpB_zero a b
    simp only [Lib.compareBytes, UInt8.lt_iff_toNat_lt, List.cons.injEq, ← UInt8.toNat_inj]
    by_cases h1 : x.toNat < y.toNat
    · rw [if_pos h1]; simp; omega
    · rw [if_neg h1]
      by_cases h2 : y.toNat < x.toNat
      · rw [if_pos h2]; simp; omega
      · rw [if_neg h2, ih]
        constructor
        · intro h; exact ⟨by omega, h⟩
        · exact fun h => h.2
theorem cmpB_in : ∀ (a b : List UInt8), Lib.compareBytes a b = -1 ∨ Lib.compareBytes a b = 0 ∨ Lib.compareBytes a b = 1
  | [], [] => .inr (.inl rfl)
  | [], _ :: _ => .inl rfl
  | _ :: _, [] => .inr (.inr rfl)
  | x :: a, y :: b => by
    simp only [Lib.compareBytes]
    split
    · exact .inl rfl
    split
    · exact .inr (.inr rfl)
    · exact cmpB_in a b
theorem text_f (a b : ByteArray) (ha : a.size < 9223372036854775807) (k : Nat) (hk : 2 * a.size + 2 ≤ k) : rosetteref04_Text.f k a b = some (Lib.compareBytes a.data.toList b.data.toList) := by
  unfold rosetteref04_Text.f
  have hz := cmpB_zero a.data.toList b.data.toList
  have hin := cmpB_in a.data.toList b.data.toList
  have e1 : (a.toList = b.toList) ↔ (a.data.toList = b.data.toList) := by rw [ByteArray.toList_eq, ByteArray.toList_eq]
  rw [less_f a b ha k hk]
  simp only [Option.bind_some]
  by_cases h : a.data.toList = b.data.toList
  · rw [if_pos (e1.2 h), hz.2 h]
  · rw [if_neg (fun hh => h (e1.1 hh))]
    have : Lib.compareBytes a.data.toList b.data.toList ≠ 0 := fun hh => h (hz.1 hh)
    by_cases h1 : Lib.compareBytes a.data.toList b.data.toList = -1
    · rw [if_pos (by simpa using h1), h1]
    · rw [if_neg (by simpa using h1)]
      congr 1
      omega
theorem rcompare_f (K : Nat) (k i : Int) (t : ByteArray) (k' i' : Int) (t' : ByteArray) (ht : t.size < 9223372036854775807) (hK : 2 * t.size + 3 ≤ K) : rosetteref04_Compare.f K k i t k' i' t' = some (vcmp k i t k' i' t') := by
  obtain ⟨m, rfl⟩ : ∃ m, K = m + 1 := ⟨K - 1, by omega⟩
  unfold rosetteref04_Compare.f vcmp or3 cmpI
  simp only [rosetteref04_Compare.j0]
  rw [text_f t t' ht m (by omega)]
  simp only [Option.bind_some]
  by_cases h1 : k < k'
  · rw [if_pos h1]; simp [h1]
  · rw [if_neg h1]
    by_cases h2 : k = k'
    · subst h2
      rw [if_pos rfl]
      by_cases h3 : i < i'
      · simp [h3]
      · by_cases h4 : i > i'
        · simp [h3, h4]
        · simp [h3, h4]
    · have h5 : k > k' := by omega
      rw [if_neg h2]
      simp [h1, h5]
end Go.Proofs.Ytojefdnngkcaoaa
end

section
/- pred.Get, walked: a predicate that is read from a scan -/
set_option linter.unusedVariables false
set_option linter.unusedSimpArgs false
set_option autoImplicit false
namespace Go.Proofs.Ytojefdnngkcaoaa
open Go.RowKit Go.Proofs.YtojefdnngkcaoaaW.PrintWords Go.Proofs.YtojefdnngkcaoaaW.PrintLast Go.Proofs.YtojefdnngkcaoaaW.PrintMore Go.Proofs.Ytojefdnngkcaoaa.G

/-- a predicate that is read: its name, what is asked, the value -/
structure Pd where
  n : ByteArray
  o : Int
  v : Vl
deriving DecidableEq
def Pd.c (p : Pd) : Array Value := #[.string p.n, .int .i64 p.o, .int .i64 p.v.k, .int .i64 p.v.i, .string p.v.t]
def vl0 : Vl := ⟨0, 0, ByteArray.empty⟩
def pd0 : Pd := ⟨ByteArray.empty, 0, vl0⟩
/-- which predicates are right -/
def pnamed (n t : ByteArray) : Bool := if n.toList = [] then false else if (n.size : Int) ≤ 16 then decide ((t.size : Int) ≤ 32) else false
def prightB (n : ByteArray) (o k i : Int) (t : ByteArray) : Bool :=
  if o = 8 then pnamed n t && (k == 0 && (i == 0 && t.toList == []))
  else if o = 7 ∧ k ≠ 2 then false else pnamed n t && (decide (1 ≤ o) && decide (o ≤ 7) && vright k i t)
def pright (p : Pd) : Bool := prightB p.n p.o p.v.k p.v.i p.v.t
theorem right_j (K : Nat) (b : Bool) (n : ByteArray) (o k i : Int) (t : ByteArray) (h0 : -9223372036854775808 ≤ i) (h1 : i < 9223372036854775808) :
    pred_Right.j0 (K + 1) b n o k i t = some (if o = 8 then b && (k == 0 && (i == 0 && t.toList == [])) else if o = 7 ∧ k ≠ 2 then false else b && (decide (1 ≤ o) && decide (o ≤ 7) && vright k i t)) := by
  simp only [pred_Right.j0]
  rw [right_f k i t h0 h1]
  simp only [Option.bind_some]
  by_cases a8 : o = 8
  · subst a8; cases b <;> simp
  · by_cases a7 : o = 7
    · subst a7; by_cases k2 : k = 2 <;> cases b <;> simp [k2]
    · by_cases o1 : 1 ≤ o <;> by_cases o7 : o ≤ 7 <;> cases b <;> simp [a8, a7, o1, o7]
theorem pright_f (K : Nat) (n : ByteArray) (o k i : Int) (t : ByteArray) (h0 : -9223372036854775808 ≤ i) (h1 : i < 9223372036854775808) : pred_Right.f (K + 1) n o k i t = some (prightB n o k i t) := by
  unfold pred_Right.f prightB pnamed
  split
  · rw [right_j _ _ _ _ _ _ _ h0 h1]
  · split
    · rw [right_j _ _ _ _ _ _ _ h0 h1]
    · rw [right_j _ _ _ _ _ _ _ h0 h1]
def Sc.p1 (s : Sc) : ByteArray × Sc := (strOfNums (s.text 16).1, if (strOfNums (s.text 16).1).toList.isEmpty = true then (s.text 16).2.fail 3 else (s.text 16).2)
def Sc.p2 (s : Sc) : Int × Sc := ((s.upto 8).1, if (s.upto 8).1 = 0 then (s.upto 8).2.fail 3 else (s.upto 8).2)
def Sc.p3 (o : Int) (s : Sc) : Vl × Sc := if o = 8 then (vl0, s) else s.val
def Sc.p4 (p : Pd) (s : Sc) : Sc := if pright p then s else s.fail 3
def Sc.p5 (p : Pd) (s : Sc) : Pd × Sc := if s.e = 0 then (p, s) else (pd0, s)
def Sc.pred (s : Sc) : Pd × Sc := Sc.p5 ⟨s.p1.1, s.p1.2.p2.1, (s.p1.2.p2.2.p3 s.p1.2.p2.1).1⟩ (Sc.p4 ⟨s.p1.1, s.p1.2.p2.1, (s.p1.2.p2.2.p3 s.p1.2.p2.1).1⟩ (s.p1.2.p2.2.p3 s.p1.2.p2.1).2)

theorem Own1.cells5 {T U : Nat} {S : Nat → Prop} {w wx : World} {g : Nat} {s : Sc} {a b c d e : Value} (h : Own1 T U S w wx g s #[a, b, c, d, e]) :
    (wx.cell? ⟨w.heap.size, 0, none⟩ = some a ∧ wx.cell? ⟨w.heap.size, 1, none⟩ = some b ∧ wx.cell? ⟨w.heap.size, 2, none⟩ = some c ∧ wx.cell? ⟨w.heap.size, 3, none⟩ = some d ∧ wx.cell? ⟨w.heap.size, 4, none⟩ = some e) ∧
    wx.frozen? ⟨w.heap.size, 0, none⟩ = false ∧ wx.frozen? ⟨w.heap.size, 1, none⟩ = false ∧ wx.frozen? ⟨w.heap.size, 2, none⟩ = false ∧ wx.frozen? ⟨w.heap.size, 3, none⟩ = false ∧ wx.frozen? ⟨w.heap.size, 4, none⟩ = false :=
  ⟨⟨by rw [cell_of_row _ _ _ _ _ _ h.heap]; rfl, by rw [cell_of_row _ _ _ _ _ _ h.heap]; rfl, by rw [cell_of_row _ _ _ _ _ _ h.heap]; rfl, by rw [cell_of_row _ _ _ _ _ _ h.heap]; rfl, by rw [cell_of_row _ _ _ _ _ _ h.heap]; rfl⟩, frozen_of_row _ _ _ _ _ h.heap, frozen_of_row _ _ _ _ _ h.heap, frozen_of_row _ _ _ _ _ h.heap, frozen_of_row _ _ _ _ _ h.heap, frozen_of_row _ _ _ _ _ h.heap⟩
theorem Own1.below {T U : Nat} {S : Nat → Prop} {w wx wy : World} {g : Nat} {s : Sc} {c : Array Value} (h : Own1 T U S w wx g s c) (hb : Below wx.heap.size wx wy) : Own1 T U S w wy g s c :=
  ⟨by rw [hb.block _ (lt_of_heap h.heap)]; exact h.heap, h.scn.below hb, h.low, h.lt, grown_trans h.grown ⟨hb.os, hb.tape, hb.output, hb.size, fun k hk _ => hb.block k hk⟩⟩
theorem Own1.five {T U : Nat} {S : Nat → Prop} {w wx : World} {g : Nat} {s : Sc} {a b c d e : Value} (h : Own1 T U (fun k => S k ∧ k < w.heap.size) w wx g s #[a, b, c, d, e]) (hg : ¬ S g) (x0 x1 x2 x3 x4 : Value) :
    (((((wx.setCell ⟨w.heap.size, 0, none⟩ x0).setCell ⟨w.heap.size, 1, none⟩ x1).setCell ⟨w.heap.size, 2, none⟩ x2).setCell ⟨w.heap.size, 3, none⟩ x3).setCell ⟨w.heap.size, 4, none⟩ x4).heap[w.heap.size]? = some (.cells #[x0, x1, x2, x3, x4] U (0, 0)) ∧
    Scn T S (((((wx.setCell ⟨w.heap.size, 0, none⟩ x0).setCell ⟨w.heap.size, 1, none⟩ x1).setCell ⟨w.heap.size, 2, none⟩ x2).setCell ⟨w.heap.size, 3, none⟩ x3).setCell ⟨w.heap.size, 4, none⟩ x4) g s ∧
    w.grownBy (((((wx.setCell ⟨w.heap.size, 0, none⟩ x0).setCell ⟨w.heap.size, 1, none⟩ x1).setCell ⟨w.heap.size, 2, none⟩ x2).setCell ⟨w.heap.size, 3, none⟩ x3).setCell ⟨w.heap.size, 4, none⟩ x4) (some g) :=
  ⟨(((((h.store 0 x0).store 1 x1).store 2 x2).store 3 x3).store 4 x4).heap, (((((h.store 0 x0).store 1 x1).store 2 x2).store 3 x3).store 4 x4).done hg⟩
theorem info_pred : (Try.prog.info? 25).map (·.size) = some 5 := by kernel_rfl
theorem pright_some (p : Pd) (h0 : -9223372036854775808 ≤ p.v.i) (h1 : p.v.i < 9223372036854775808) : pred_Right.f 9 p.n p.o p.v.k p.v.i p.v.t = some (pright p) := pright_f 8 _ _ _ _ _ h0 h1
theorem in0 : -9223372036854775808 ≤ (0 : Int) ∧ (0 : Int) < 9223372036854775808 := by decide
theorem fail_u8s (s : Sc) (e : Int) (hu : u8s s.l) : u8s (s.fail e).l := by
  unfold Sc.fail
  split
  · exact hu
  · exact u8s_nil
theorem numGo_u8s (s : Sc) (hu : u8s s.l) : ∀ (f k : Nat) (n : Int), u8s (numGo s f k n).2.l := by
  intro f
  induction f with
  | zero => intro k n; exact hu
  | succ f ih =>
    intro k n
    unfold numGo
    split
    · exact fail_u8s s 2 hu
    · split
      · exact fail_u8s s 3 hu
      · split
        · exact u8s_drop hu _
        · exact ih _ _
theorem num_u8s (s : Sc) (hu : u8s s.l) : u8s s.num.2.l := by
  unfold Sc.num
  split
  · exact numGo_u8s s hu _ _ _
  · exact hu
theorem upto_u8s (s : Sc) (m : Int) (hu : u8s s.l) : u8s (s.upto m).2.l := by
  unfold Sc.upto
  split
  · exact fail_u8s _ 4 (num_u8s s hu)
  · exact num_u8s s hu
theorem Sc.val_in (s : Sc) (hu : u8s s.l) : -9223372036854775808 ≤ s.val.1.i ∧ s.val.1.i < 9223372036854775808 := by
  have hz : ∀ q : Sc, u8s q.l → -9223372036854775808 ≤ zag q.num.1 ∧ zag q.num.1 < 9223372036854775808 := fun q hq => by
    have := Sc.num_lt q hq
    exact zag_lt _ this.1 this.2
  have hw : ∀ (q : Sc) (m : Int), -9223372036854775808 ≤ (q.upto m).1 ∧ (q.upto m).1 < 9223372036854775808 := fun q m => by
    unfold Sc.upto
    split
    · exact in0
    · simp only; unfold wrap64; omega
  have hl : u8s (s.upto 3).2.l := upto_u8s s 3 hu
  have h0 : -9223372036854775808 ≤ s.val0.1.i ∧ s.val0.1.i < 9223372036854775808 := by
    unfold Sc.val0 Sc.val0k
    split
    · exact hz _ hl
    · split
      · exact in0
      · split
        · exact hw _ _
        · exact in0
  unfold Sc.val
  split
  · exact h0
  · exact in0
set_option maxRecDepth 100000 in
set_option maxHeartbeats 4000000 in
theorem wpget {S : Nat → Prop} {w : World} {g : Nat} {s : Sc} (h : Scn 63 S w g s) :
    Calls Try.prog 20 #[.pointer (some ⟨g, 0, none⟩)] w fun r w' => r = .returned (.agg s.pred.1.c) ∧ Scn 63 S w' g s.pred.2 ∧ w.grownBy w' (some g) := by
  have hne := Aside0.mk h.ne
  have H0 := Aside0.mk (Own1.start (U := 25) h #[.string ByteArray.empty, .int .i64 0, .int .i64 0, .int .i64 0, .string ByteArray.empty])
  clear h
  go_enter Try.func20, Try.ntmps20
  go_wp2_with fail
  refine (wtext H0.out.scn 16 (by decide)).mono ?_
  rintro e w1 ⟨rfl, hs, hg⟩
  have H1 := Aside0.mk (H0.out.call hs hg)
  clear hs hg H0
  have hP : s.p1 = (strOfNums (s.text 16).1, if (strOfNums (s.text 16).1).toList.isEmpty = true then (s.text 16).2.fail 3 else (s.text 16).2) := rfl
  obtain ⟨nm, hnm⟩ : ∃ n, strOfNums (s.text 16).1 = n := ⟨_, rfl⟩
  obtain ⟨s1, hs1⟩ : ∃ q, (s.text 16).2 = q := ⟨_, rfl⟩
  rw [hs1] at H1
  rw [hnm, hs1] at hP
  rw [hnm]
  have HP := Aside0.mk hP
  clear hnm hs1 hP
  obtain ⟨⟨c0, c1, c2, c3, c4⟩, f0, f1, f2, f3, f4⟩ := H1.out.cells5
  have H2 := Aside0.mk (H1.out.store 0 (.string nm))
  simp only [List.setIfInBounds_toArray, List.set_cons_zero] at H2
  clear H1
  go_upto_if 8 with fail
  go_cut [] (fun wx => Aside0 (Own1 63 25 (fun k => S k ∧ k < w.heap.size) w wx g s.p1.2 #[.string s.p1.1, .int .i64 0, .int .i64 0, .int .i64 0, .string ByteArray.empty]))
  case first =>
    cases hn : nm.toList.isEmpty with
    | true =>
      have h1 : Aside0 (s.p1 = (nm, s1.fail 3)) := ⟨by rw [HP.out, if_pos hn]⟩
      go_wp2_with (go_at_call 38; refine (wfail H2.out.scn 3 (by decide)).mono ?_; rintro e w3 ⟨rfl, hs, hg⟩; have H3 := Aside0.mk (H2.out.call hs hg); clear hs hg)
      go_meet
      exact ⟨by rw [h1.out]; exact H3.out⟩
    | false =>
      have h1 : Aside0 (s.p1 = (nm, s1)) := ⟨by rw [HP.out, if_neg (by rw [hn]; decide)]⟩
      go_wp2
      go_meet
      exact ⟨by rw [h1.out]; exact H2.out⟩
  case rest =>
    have HN1 : Aside0 (s.p1 = (s.p1.1, s.p1.2)) := ⟨rfl⟩
    have H3 := hcut
    clear hcut HP H2 c0 c1 c2 c3 c4 f0 f1 f2 f3 f4
    generalize hn1 : s.p1.1 = nm at H3 HN1 ⊢
    generalize hs1 : s.p1.2 = s1 at H3 HN1 ⊢
    clear hn1 hs1
    obtain ⟨⟨c0, c1, c2, c3, c4⟩, f0, f1, f2, f3, f4⟩ := H3.out.cells5
    go_wp2_with fail
    refine (wupto H3.out.scn 8 (by decide)).mono ?_
    rintro e w4 ⟨rfl, hs, hg⟩
    have H4 := Aside0.mk (H3.out.call hs hg)
    clear hs hg H3 c0 c1 c2 c3 c4 f0 f1 f2 f3 f4
    have hQ : s1.p2 = ((s1.upto 8).1, if (s1.upto 8).1 = 0 then (s1.upto 8).2.fail 3 else (s1.upto 8).2) := rfl
    obtain ⟨o, ho⟩ : ∃ n, (s1.upto 8).1 = n := ⟨_, rfl⟩
    obtain ⟨s2, hs2⟩ : ∃ q, (s1.upto 8).2 = q := ⟨_, rfl⟩
    rw [hs2] at H4
    rw [ho, hs2] at hQ
    rw [ho]
    have HQ := Aside0.mk hQ
    clear ho hs2 hQ
    obtain ⟨⟨c0, c1, c2, c3, c4⟩, f0, f1, f2, f3, f4⟩ := H4.out.cells5
    have H5 := Aside0.mk (H4.out.store 1 (.int .i64 o))
    simp only [List.setIfInBounds_toArray, List.set_cons_zero, List.set_cons_succ] at H5
    clear H4
    go_upto_if 16 with fail
    go_cut [] (fun wx => Aside0 (Own1 63 25 (fun k => S k ∧ k < w.heap.size) w wx g s1.p2.2 #[.string nm, .int .i64 s1.p2.1, .int .i64 0, .int .i64 0, .string ByteArray.empty]))
    case first =>
      by_cases hn : o = 0
      · have b1 : (o == 0) = true := by simp [hn]
        have h1 : Aside0 (s1.p2 = (o, s2.fail 3)) := ⟨by rw [HQ.out, if_pos hn]⟩
        clear hn
        go_wp2_with (go_at_call 38; refine (wfail H5.out.scn 3 (by decide)).mono ?_; rintro e w3 ⟨rfl, hs, hg⟩; have H3 := Aside0.mk (H5.out.call hs hg); clear hs hg)
        go_meet
        exact ⟨by rw [h1.out]; exact H3.out⟩
      · have b1 : (o == 0) = false := by simp [hn]
        have h1 : Aside0 (s1.p2 = (o, s2)) := ⟨by rw [HQ.out, if_neg hn]⟩
        clear hn
        go_wp2
        go_meet
        exact ⟨by rw [h1.out]; exact H5.out⟩
    case rest =>
      have HN2 : Aside0 (s1.p2 = (s1.p2.1, s1.p2.2)) := ⟨rfl⟩
      have H6 := hcut
      clear hcut HQ H5 c0 c1 c2 c3 c4 f0 f1 f2 f3 f4
      generalize hn1 : s1.p2.1 = o at H6 HN2 ⊢
      generalize hs1 : s1.p2.2 = s2 at H6 HN2 ⊢
      clear hn1 hs1
      obtain ⟨⟨c0, c1, c2, c3, c4⟩, f0, f1, f2, f3, f4⟩ := H6.out.cells5
      go_upto_if 21 with fail
      go_cut [] (fun wx => Aside0 (Own1 63 25 (fun k => S k ∧ k < w.heap.size) w wx g (s2.p3 o).2 #[.string nm, .int .i64 o, .int .i64 (s2.p3 o).1.k, .int .i64 (s2.p3 o).1.i, .string (s2.p3 o).1.t]))
      case first =>
        by_cases hn : o = 8
        · have b1 : (o != 8) = false := by simp [hn]
          have h1 : Aside0 (s2.p3 o = (vl0, s2)) := ⟨by rw [Sc.p3, if_pos hn]⟩
          clear hn
          go_wp2
          go_meet
          exact ⟨by rw [h1.out]; exact H6.out⟩
        · have b1 : (o != 8) = true := by simp [hn]
          have h1 : Aside0 (s2.p3 o = s2.val) := ⟨by rw [Sc.p3, if_neg hn]⟩
          clear hn
          go_wp2_with (go_at_call 40; refine (wget H6.out.scn).mono ?_; rintro e w3 ⟨rfl, hs, hg⟩; simp only [Vl.v]; have H7 := Aside0.mk (H6.out.call hs hg); clear hs hg c0 c1 c2 c3 c4 f0 f1 f2 f3 f4; obtain ⟨⟨c0, c1, c2, c3, c4⟩, f0, f1, f2, f3, f4⟩ := H7.out.cells5)
          go_meet
          have H8 := ((H7.out.store 2 (.int .i64 s2.val.1.k)).store 3 (.int .i64 s2.val.1.i)).store 4 (.string s2.val.1.t)
          simp only [List.setIfInBounds_toArray, List.set_cons_zero, List.set_cons_succ] at H8
          exact ⟨by rw [h1.out]; exact H8⟩
      case rest =>
        have HN3 : Aside0 (s2.p3 o = ((s2.p3 o).1, (s2.p3 o).2)) := ⟨rfl⟩
        have HV : Aside0 (-9223372036854775808 ≤ (s2.p3 o).1.i ∧ (s2.p3 o).1.i < 9223372036854775808) := ⟨by
          unfold Sc.p3
          split
          · exact in0
          · exact s2.val_in H6.out.scn.u8⟩
        have H7 := hcut
        clear hcut H6 c0 c1 c2 c3 c4 f0 f1 f2 f3 f4
        generalize hn1 : (s2.p3 o).1 = v at H7 HN3 HV ⊢
        generalize hs1 : (s2.p3 o).2 = s3 at H7 HN3 ⊢
        clear hn1 hs1
        obtain ⟨⟨c0, c1, c2, c3, c4⟩, f0, f1, f2, f3, f4⟩ := H7.out.cells5
        have HPD : Aside0 (s.pred = Sc.p5 ⟨nm, o, v⟩ (Sc.p4 ⟨nm, o, v⟩ s3)) := ⟨by
          unfold Sc.pred
          rw [HN1.out]
          simp only
          rw [HN2.out]
          simp only
          rw [HN3.out]⟩
        go_wp2_with fail
        refine (pred_Right.calls 9 nm o v.k v.i v.t (pright ⟨nm, o, v⟩) _ (pright_some ⟨nm, o, v⟩ HV.out.1 HV.out.2)).mono ?_
        rintro e w5 ⟨rfl, hB⟩
        have H8 := Aside0.mk (H7.out.below hB)
        clear hB H7 c0 c1 c2 c3 c4 f0 f1 f2 f3 f4
        generalize hb : pright ⟨nm, o, v⟩ = b
        have HPR := Aside0.mk hb
        clear hb
        go_upto_if 27 with fail
        go_cut [] (fun wx => Aside0 (Own1 63 25 (fun k => S k ∧ k < w.heap.size) w wx g (s3.p4 ⟨nm, o, v⟩) #[.string nm, .int .i64 o, .int .i64 v.k, .int .i64 v.i, .string v.t]))
        case first =>
          cases b with
          | true =>
            have h1 : Aside0 (s3.p4 ⟨nm, o, v⟩ = s3) := ⟨by rw [Sc.p4, if_pos HPR.out]⟩
            go_wp2
            go_meet
            exact ⟨by rw [h1.out]; exact H8.out⟩
          | false =>
            have h1 : Aside0 (s3.p4 ⟨nm, o, v⟩ = s3.fail 3) := ⟨by rw [Sc.p4, if_neg (by rw [HPR.out]; decide)]⟩
            go_wp2_with (go_at_call 38; refine (wfail H8.out.scn 3 (by decide)).mono ?_; rintro e w3 ⟨rfl, hs, hg⟩; have H3 := Aside0.mk (H8.out.call hs hg); clear hs hg)
            go_meet
            exact ⟨by rw [h1.out]; exact H3.out⟩
        case rest =>
          have H9 := hcut
          clear hcut H8 HPR
          generalize hs4 : s3.p4 ⟨nm, o, v⟩ = s4 at H9 HPD
          clear hs4
          obtain ⟨⟨c0, c1, c2, c3, c4⟩, f0, f1, f2, f3, f4⟩ := H9.out.cells5
          by_cases e0 : s4.e = 0
          · have b2 : (s4.e != 0) = false := by simp [e0]
            have HE : Aside0 (s.pred = (⟨nm, o, v⟩, s4)) := ⟨by rw [HPD.out, Sc.p5, if_pos e0]⟩
            clear e0
            go_wp2_with (go_at_call 23; refine (werr H9.out.scn).mono ?_; rintro e w5 ⟨rfl, rfl⟩)
            have hz := H9.out.five hne.out (.string nm) (.int .i64 o) (.int .i64 v.k) (.int .i64 v.i) (.string v.t)
            refine bodyPost_ret (results_cell_row (P := Try.prog) (ty := 25) (p := 2) rfl _ _ w.heap.size 25 _ (0, 0) _ rfl hz.1 Try.underlying25 rfl info_pred) rfl ?_
            exact ⟨by rw [HE.out]; rfl, by rw [HE.out]; exact hz.2.1, hz.2.2⟩
          · have b2 : (s4.e != 0) = true := by simp [e0]
            have HE : Aside0 (s.pred = (pd0, s4)) := ⟨by rw [HPD.out, Sc.p5, if_neg e0]⟩
            clear e0
            go_wp2_with (go_at_call 23; refine (werr H9.out.scn).mono ?_; rintro e w5 ⟨rfl, rfl⟩)
            have hz := H9.out.five hne.out (.string ByteArray.empty) (.int .i64 0) (.int .i64 0) (.int .i64 0) (.string ByteArray.empty)
            refine bodyPost_ret (results_cell_row (P := Try.prog) (ty := 25) (p := 2) rfl _ _ w.heap.size 25 _ (0, 0) _ rfl hz.1 Try.underlying25 rfl info_pred) rfl ?_
            exact ⟨by rw [HE.out]; rfl, by rw [HE.out]; exact hz.2.1, hz.2.2⟩
end Go.Proofs.Ytojefdnngkcaoaa
end

section
/- a value's bytes, and back -/
set_option linter.unusedVariables false
set_option linter.unusedSimpArgs false
set_option autoImplicit false
namespace Go.Proofs.Ytojefdnngkcaoaa
open Go.RowKit Go.Proofs.YtojefdnngkcaoaaW.PrintWords Go.Proofs.YtojefdnngkcaoaaW.PrintLast Go.Proofs.YtojefdnngkcaoaaW.PrintMore Go.Proofs.Ytojefdnngkcaoaa.G

theorem bytes_u8s (s : ByteArray) : u8s (bytesOf s) := by
  intro x hx
  simp only [bytesOf, List.mem_map] at hx
  obtain ⟨b, _, rfl⟩ := hx
  have := b.toNat_lt
  omega
theorem bytes_len (s : ByteArray) : (bytesOf s).length = s.size := by unfold bytesOf; rw [List.length_map, Array.length_toList]; rfl
theorem str_of_bytes (s : ByteArray) : strOfNums (bytesOf s) = s := by
  cases s with
  | mk d =>
    have h : (d.toList.map fun b => UInt8.ofNat ((b.toNat : Int)).toNat) = d.toList := by
      have : (fun b : UInt8 => UInt8.ofNat ((b.toNat : Int)).toNat) = id := funext fun b => by rw [Int.toNat_natCast]; exact UInt8.ofNat_toNat
      rw [this, List.map_id]
    unfold strOfNums bytesOf
    rw [List.map_map]
    show ByteArray.mk (d.toList.map fun b => UInt8.ofNat ((b.toNat : Int)).toNat).toArray = _
    rw [h]

def vbytes (k i : Int) (t : ByteArray) : List Int :=
  if vright k i t = true then (if k = 1 then putL 1 ++ putL (zig i) else if k = 2 then putL 2 ++ putL (t.size : Int) ++ bytesOf t else putL 3 ++ putL i) else []
theorem vright_k {k i : Int} {t : ByteArray} (h : vright k i t = true) : k = 1 ∧ t.toList = [] ∨ k = 2 ∧ i = 0 ∧ t.size ≤ 64 ∨ k = 3 ∧ t.toList = [] ∧ 0 ≤ i ∧ i ≤ 1 := by
  unfold vright at h
  by_cases h1 : k = 1
  · rw [if_pos h1] at h; exact .inl ⟨h1, by simpa using h⟩
  rw [if_neg h1] at h
  by_cases h2 : k = 2
  · rw [if_pos h2] at h
    by_cases h3 : i = 0
    · rw [if_pos h3] at h; simp only [decide_eq_true_eq] at h; exact .inr (.inl ⟨h2, h3, by omega⟩)
    · rw [if_neg h3] at h; cases h
  rw [if_neg h2] at h
  by_cases h3 : k = 3
  · rw [if_pos h3] at h
    by_cases h4 : t.toList = []
    · rw [if_pos h4] at h; simp only [decide_eq_true_eq] at h; exact .inr (.inr ⟨h3, h4, h⟩)
    · rw [if_neg h4] at h; cases h
  · rw [if_neg h3] at h; cases h
theorem putL1 : putL 1 = [1] := by decide +kernel
theorem putL2 : putL 2 = [2] := by decide +kernel
theorem putL3 : putL 3 = [3] := by decide +kernel
theorem putL0 : putL 0 = [0] := by decide +kernel
theorem bind_of {α β : Type} {o : Option α} {f : α → Option β} {a : α} (h : o = some a) : o.bind f = f a := by rw [h]; rfl
theorem wrap_k (k : Int) (h0 : 0 ≤ k) (h1 : k < 18446744073709551616) : IntKind.u64.wrap k = k := by rw [IntKind.wrap_u64]; omega
theorem put_val (l : List Int) (k i : Int) (t : ByteArray) (hl : l.length ≤ 140737488340000) (h0 : -9223372036854775808 ≤ i) (h1 : i < 9223372036854775808) : value_Put.f l k i t = some (l ++ vbytes k i t) := by
  unfold value_Put.f vbytes
  refine (bind_of (right_f k i t h0 h1)).trans ?_
  by_cases hr : vright k i t = true
  · rw [if_pos hr, if_pos hr]
    have hk : 0 ≤ k ∧ k ≤ 3 := by rcases vright_k hr with h | h | h <;> omega
    have hlen := putL_len k
    have hput := put_f l k hk.1 (by omega) (by omega)
    rw [wrap_k k hk.1 (by omega)]
    refine (bind_of hput).trans ?_
    rcases vright_k hr with ⟨hk1, ht⟩ | ⟨hk2, hi, ht⟩ | ⟨hk3, ht, hi, hj⟩
    · rw [if_pos hk1, if_pos hk1]
      refine (bind_of (putInt_f _ _ h0 h1 (by rw [List.length_append]; omega))).trans ?_
      rw [hk1, List.append_assoc]
    · have n1 : ¬ k = 1 := by omega
      rw [if_neg n1, if_neg n1, if_pos hk2, if_pos hk2]
      refine (bind_of (putText_f _ _ (by rw [List.length_append]; omega) (by omega))).trans ?_
      rw [hk2]
      simp only [List.append_assoc]
    · have n1 : ¬ k = 1 := by omega
      have n2 : ¬ k = 2 := by omega
      rw [if_neg n1, if_neg n1, if_neg n2, if_neg n2, wrap_k i hi (by omega)]
      refine (bind_of (put_f _ _ hi (by omega) (by rw [List.length_append]; omega))).trans ?_
      rw [hk3, List.append_assoc]
  · rw [if_neg hr, if_neg hr]
    refine (bind_of (show slices_Clone_byte_byte.f l = some l by unfold slices_Clone_byte_byte.f; rw [if_pos (by omega)])).trans ?_
    rw [List.append_nil]
theorem rput_val (l : List Int) (k i : Int) (t : ByteArray) (hl : l.length ≤ 140737488340000) (h0 : -9223372036854775808 ≤ i) (h1 : i < 9223372036854775808) : rosetteref04_Put.f l k i t = some (l ++ vbytes k i t) := by
  unfold rosetteref04_Put.f vbytes
  refine (bind_of rfl).trans ?_
  rw [if_pos (by simp only [List.length_nil]; omega), List.nil_append]
  refine (bind_of rfl).trans ?_
  refine (bind_of (rright_f k i t)).trans ?_
  by_cases hr : vright k i t = true
  · rw [if_pos hr, if_pos hr, if_pos (by omega)]
    refine (bind_of rfl).trans ?_
    have hlen : (l ++ [k % 256]).length = l.length + 1 := by rw [List.length_append]; rfl
    rcases vright_k hr with ⟨hk1, ht⟩ | ⟨hk2, hi, ht⟩ | ⟨hk3, ht, hi, hj⟩
    · rw [if_pos hk1, if_pos hk1]
      refine (bind_of (rputInt_f _ _ h0 h1 (by omega))).trans ?_
      rw [hk1, putL1, List.append_assoc]
      rfl
    · have n1 : ¬ k = 1 := by omega
      rw [if_neg n1, if_neg n1, if_pos hk2, if_pos hk2]
      refine (bind_of (rputText_f _ _ (by omega) (by omega))).trans ?_
      rw [hk2, putL2]
      simp only [List.append_assoc]
      rfl
    · have n1 : ¬ k = 1 := by omega
      have n2 : ¬ k = 2 := by omega
      rw [if_neg n1, if_neg n1, if_neg n2, if_neg n2, if_pos (by omega), hk3, putL3, List.append_assoc]
      have hp : putL i = [i % 256] := by
        have : i = 0 ∨ i = 1 := by omega
        rcases this with rfl | rfl
        · rw [putL0]; rfl
        · rw [putL1]; rfl
      rw [hp]
      rfl
  · rw [if_neg hr, if_neg hr, List.append_nil]
theorem empty_of {t : ByteArray} (h : t.toList = []) : t = ByteArray.empty := by
  rw [ByteArray.toList_eq] at h
  have : t.data = #[] := by cases hd : t.data; rw [hd] at h; simp at h; rw [h]
  cases t
  simp only at this
  rw [this]
  rfl
theorem val_back (k i : Int) (t : ByteArray) (more : List Int) (h : vright k i t = true) (h0 : -9223372036854775808 ≤ i) (h1 : i < 9223372036854775808) : Sc.val ⟨vbytes k i t ++ more, 0⟩ = (⟨k, i, t⟩, ⟨more, 0⟩) := by
  have hu : ∀ (n : Int) (rest : List Int), 0 ≤ n → n ≤ 3 → Sc.upto ⟨putL n ++ rest, 0⟩ 3 = (n, ⟨rest, 0⟩) := fun n rest a b => by
    unfold Sc.upto
    rw [num_back n rest a (by omega)]
    rw [if_neg (fun hh => by rcases hh.2 with hh | hh <;> simp at hh; omega)]
    simp only [Prod.mk.injEq, and_true]
    unfold wrap64
    omega
  have hu1 : ∀ (n : Int) (rest : List Int), 0 ≤ n → n ≤ 1 → Sc.upto ⟨putL n ++ rest, 0⟩ 1 = (n, ⟨rest, 0⟩) := fun n rest a b => by
    unfold Sc.upto
    rw [num_back n rest a (by omega)]
    rw [if_neg (fun hh => by rcases hh.2 with hh | hh <;> simp at hh; omega)]
    simp only [Prod.mk.injEq, and_true]
    unfold wrap64
    omega
  have key : Sc.val0 ⟨vbytes k i t ++ more, 0⟩ = (⟨k, i, t⟩, ⟨more, 0⟩) := by
    unfold Sc.val0 vbytes
    rw [if_pos h]
    rcases vright_k h with ⟨hk, ht⟩ | ⟨hk, hi, ht⟩ | ⟨hk, ht, hi, hj⟩
    · rw [if_pos hk, List.append_assoc, hu 1 _ (by omega) (by omega)]
      unfold Sc.val0k
      rw [if_pos rfl, int_back i more h0 h1, empty_of ht, hk]
    · have n1 : ¬ k = 1 := by omega
      rw [if_neg n1, if_pos hk, List.append_assoc, List.append_assoc, hu 2 _ (by omega) (by omega)]
      have hb := text_back (bytesOf t) more 64 (by rw [bytes_len]; omega) (by rw [bytes_len]; omega)
      rw [bytes_len] at hb
      unfold Sc.val0k
      simp only
      rw [if_neg (by decide), if_pos trivial]
      rw [hb, str_of_bytes, hk, hi]
    · have n1 : ¬ k = 1 := by omega
      have n2 : ¬ k = 2 := by omega
      rw [if_neg n1, if_neg n2, List.append_assoc, hu 3 _ (by omega) (by omega)]
      unfold Sc.val0k
      simp only
      rw [if_neg (by decide), if_neg (by decide), if_pos trivial]
      rw [hu1 i more hi hj, empty_of ht, hk]
  unfold Sc.val
  rw [key, if_pos rfl]
end Go.Proofs.Ytojefdnngkcaoaa
end

section
/- what is read as a value was laid just so -/
set_option linter.unusedVariables false
set_option linter.unusedSimpArgs false
set_option autoImplicit false
namespace Go.Proofs.Ytojefdnngkcaoaa
open Go.RowKit Go.Proofs.YtojefdnngkcaoaaW.PrintWords Go.Proofs.YtojefdnngkcaoaaW.PrintLast Go.Proofs.YtojefdnngkcaoaaW.PrintMore Go.Proofs.Ytojefdnngkcaoaa.G

theorem num_err (s : Sc) (h : s.e ≠ 0) : s.num.2.e ≠ 0 := by unfold Sc.num; rw [if_neg h]; exact h
theorem upto_err (s : Sc) (m : Int) (h : s.e ≠ 0) : (s.upto m).2.e ≠ 0 := by
  have := num_err s h
  unfold Sc.upto
  rw [if_neg (fun hh => this hh.1)]
  exact this
theorem text_err (s : Sc) (m : Int) (h : s.e ≠ 0) : (s.text m).2.e ≠ 0 := by
  have := upto_err s m h
  unfold Sc.text
  rw [if_neg this]
  exact this
theorem upto_once (l : List Int) (hu : u8s l) (m : Int) (hm : 0 ≤ m ∧ m ≤ 4000) (he : (Sc.upto ⟨l, 0⟩ m).2.e = 0) :
    l = putL (Sc.upto ⟨l, 0⟩ m).1 ++ (Sc.upto ⟨l, 0⟩ m).2.l ∧ 0 ≤ (Sc.upto ⟨l, 0⟩ m).1 ∧ (Sc.upto ⟨l, 0⟩ m).1 ≤ m := by
  have hn := Sc.num_lt ⟨l, 0⟩ hu
  have ho := num_once l hu
  unfold Sc.upto at he ⊢
  split at he
  · exact absurd he (fail_ne _ 4 (by decide))
  · rename_i h3
    rw [if_neg h3]
    simp only at he
    have h4 : ¬ (m < 0 ∨ m < (Sc.num ⟨l, 0⟩).1) := fun h => h3 ⟨he, h⟩
    have hw : wrap64 (Sc.num ⟨l, 0⟩).1 = (Sc.num ⟨l, 0⟩).1 := by unfold wrap64; omega
    simp only
    rw [hw]
    exact ⟨ho he, by omega, by omega⟩
theorem eta0 (s : Sc) (h : s.e = 0) : s = ⟨s.l, 0⟩ := by cases s; simp only at h; rw [h]
theorem empty_toList : ByteArray.empty.toList = [] := by rw [ByteArray.toList_eq]; rfl
theorem val_once (l : List Int) (hu : u8s l) (he : (Sc.val ⟨l, 0⟩).2.e = 0) :
    vright (Sc.val ⟨l, 0⟩).1.k (Sc.val ⟨l, 0⟩).1.i (Sc.val ⟨l, 0⟩).1.t = true ∧
    l = vbytes (Sc.val ⟨l, 0⟩).1.k (Sc.val ⟨l, 0⟩).1.i (Sc.val ⟨l, 0⟩).1.t ++ (Sc.val ⟨l, 0⟩).2.l ∧ -9223372036854775808 ≤ (Sc.val ⟨l, 0⟩).1.i ∧ (Sc.val ⟨l, 0⟩).1.i < 9223372036854775808 := by
  have h0 : (Sc.val0 ⟨l, 0⟩).2.e = 0 := by
    unfold Sc.val at he
    split at he <;> assumption
  have hv : Sc.val ⟨l, 0⟩ = Sc.val0 ⟨l, 0⟩ := by unfold Sc.val; rw [if_pos h0]
  rw [hv]
  have ho := upto_once l hu 3 (by decide)
  have hV : Sc.val0 ⟨l, 0⟩ = Sc.val0k (Sc.upto ⟨l, 0⟩ 3).1 (Sc.upto ⟨l, 0⟩ 3).2 := rfl
  rw [hV] at h0 ⊢
  generalize Sc.upto ⟨l, 0⟩ 3 = p at *
  obtain ⟨k, s⟩ := p
  simp only at *
  unfold Sc.val0k at h0 ⊢
  by_cases k1 : k = 1
  · rw [if_pos k1] at h0 ⊢
    simp only at h0 ⊢
    have hs : s.e = 0 := Classical.byContradiction fun h => num_err s h h0
    obtain ⟨hl, _, _⟩ := ho hs
    have hsu : u8s s.l := by rw [hl] at hu; exact u8s_right hu
    have hn := Sc.num_lt s hsu
    have e := eta0 s hs
    have hb := num_once s.l hsu (by rw [← e]; exact h0)
    rw [← e] at hb
    have hz := zag_lt s.num.1 hn.1 hn.2
    have hr : vright 1 (zag s.num.1) ByteArray.empty = true := by unfold vright; rw [if_pos rfl, empty_toList]; rfl
    refine ⟨hr, ?_, hz⟩
    show l = vbytes 1 (zag s.num.1) ByteArray.empty ++ s.num.2.l
    unfold vbytes
    rw [if_pos hr, if_pos rfl]
    rw [zig_zag _ hn.1, List.append_assoc, ← hb, ← k1]
    exact hl
  rw [if_neg k1] at h0 ⊢
  by_cases k2 : k = 2
  · rw [if_pos k2] at h0 ⊢
    simp only at h0 ⊢
    have hs : s.e = 0 := Classical.byContradiction fun h => text_err s 64 h h0
    obtain ⟨hl, _, _⟩ := ho hs
    have hsu : u8s s.l := by rw [hl] at hu; exact u8s_right hu
    have e := eta0 s hs
    have hb := text_once s.l hsu 64 (by decide) (by rw [← e]; exact h0)
    rw [← e] at hb
    have hx : u8s (s.text 64).1 := by
      have h2 := hb.1
      rw [h2] at hsu
      exact u8s_right (u8s_left hsu)
    have hr : vright 2 0 (strOfNums (s.text 64).1) = true := by
      unfold vright
      rw [if_neg (by decide), if_pos rfl, if_pos rfl, str_size]
      simpa using hb.2
    refine ⟨hr, ?_, by decide, by decide⟩
    unfold vbytes
    rw [if_pos hr, if_neg (by decide), if_pos rfl, str_size, str_bytes _ hx, List.append_assoc, List.append_assoc, ← List.append_assoc (putL ((s.text 64).1.length : Int)), ← hb.1, ← k2]
    exact hl
  rw [if_neg k2] at h0 ⊢
  by_cases k3 : k = 3
  · rw [if_pos k3] at h0 ⊢
    simp only at h0 ⊢
    have hs : s.e = 0 := Classical.byContradiction fun h => upto_err s 1 h h0
    obtain ⟨hl, _, _⟩ := ho hs
    have hsu : u8s s.l := by rw [hl] at hu; exact u8s_right hu
    have e := eta0 s hs
    have hb := upto_once s.l hsu 1 (by decide) (by rw [← e]; exact h0)
    rw [← e] at hb
    have hr : vright 3 (s.upto 1).1 ByteArray.empty = true := by
      unfold vright
      rw [if_neg (by decide), if_neg (by decide), if_pos rfl, if_pos empty_toList]
      simpa using hb.2
    refine ⟨hr, ?_, by omega, by omega⟩
    unfold vbytes
    rw [if_pos hr, if_neg (by decide), if_neg (by decide), List.append_assoc, ← hb.1, ← k3]
    exact hl
  · rw [if_neg k3] at h0
    exact absurd h0 (fail_ne _ 3 (by decide))
theorem val_zero (s : Sc) (h : s.val.2.e ≠ 0) : s.val.1 = ⟨0, 0, ByteArray.empty⟩ := by
  unfold Sc.val at h ⊢
  split
  · rename_i h1; rw [if_pos h1] at h; exact absurd h1 h
  · rfl
theorem vbytes_len (k i : Int) (t : ByteArray) : (vbytes k i t).length ≤ 100 := by
  unfold vbytes
  split
  · rename_i h
    have a := putL_len 1
    have b := putL_len (zig i)
    have c := putL_len 2
    have d := putL_len (t.size : Int)
    have e := putL_len 3
    have f := putL_len i
    rcases vright_k h with ⟨hk, ht⟩ | ⟨hk, hi, ht⟩ | ⟨hk, ht, hi, hj⟩
    · rw [if_pos hk, List.length_append]; omega
    · rw [if_neg (by omega), if_pos hk, List.length_append, List.length_append, bytes_len]; omega
    · rw [if_neg (by omega), if_neg (by omega), List.length_append]; omega
  · simp
theorem vbytes_pos (k i : Int) (t : ByteArray) : (0 < (vbytes k i t).length) ↔ vright k i t = true := by
  unfold vbytes
  split
  · rename_i h
    simp only [h, iff_true]
    rcases vright_k h with ⟨hk, ht⟩ | ⟨hk, hi, ht⟩ | ⟨hk, ht, hi, hj⟩
    · rw [if_pos hk, putL1]; simp
    · rw [if_neg (by omega), if_pos hk, putL2]; simp
    · rw [if_neg (by omega), if_neg (by omega), putL3]; simp
  · rename_i h
    simp [h]
end Go.Proofs.Ytojefdnngkcaoaa
end

section
/- the document's pred.Get, walked: it reads the same -/
set_option linter.unusedVariables false
set_option linter.unusedSimpArgs false
set_option autoImplicit false
namespace Go.Proofs.Ytojefdnngkcaoaa
open Go.RowKit Go.Proofs.YtojefdnngkcaoaaW.PrintWords Go.Proofs.YtojefdnngkcaoaaW.PrintLast Go.Proofs.YtojefdnngkcaoaaW.PrintMore Go.Proofs.Ytojefdnngkcaoaa.G

def Sc.p4r (p : Pd) (s : Sc) : Sc := if (p.o = 7 ∧ p.v.k ≠ 2) ∨ 32 < p.v.t.size then s.fail 3 else s
theorem val_err (s : Sc) (h : s.e ≠ 0) : s.val.2.e ≠ 0 := by
  have h0 : s.val0.2.e ≠ 0 := by
    have h1 := upto_err s 3 h
    unfold Sc.val0 Sc.val0k
    split
    · exact num_err _ h1
    · split
      · exact text_err _ _ h1
      · split
        · exact upto_err _ _ h1
        · exact fail_ne _ 3 (by decide)
  unfold Sc.val
  rw [if_neg h0]
  exact h0
theorem fail_same (s : Sc) (e : Int) (h : s.e ≠ 0) (hl : s.l = []) (he : e ≠ 0) : s.fail e = s := by
  unfold Sc.fail
  rw [if_neg he, if_neg h]
  cases s
  simp only at hl
  rw [hl]
/-- what is read without an error is right but for two things -/
theorem pred_ok (s : Sc) (hu : u8s s.l) (he : s.e ≠ 0 → s.l = []) (o : Int) (v : Vl) (s3 : Sc) (h2 : s.p1.2.p2.1 = o) (h3 : s.p1.2.p2.2.p3 o = (v, s3)) (h0 : s3.e = 0) :
    prightB s.p1.1 o v.k v.i v.t = !decide ((o = 7 ∧ v.k ≠ 2) ∨ 32 < v.t.size) := by
  have e2 : s.p1.2.p2.2.e = 0 := by
    refine Classical.byContradiction fun h => ?_
    have h4 := congrArg (fun q => q.2.e) h3
    simp only [Sc.p3] at h4
    split at h4
    · exact h (h4.trans h0)
    · exact val_err _ h (h4.trans h0)
  have e1 : s.p1.2.e = 0 := by
    refine Classical.byContradiction fun h => ?_
    have := upto_err s.p1.2 8 h
    unfold Sc.p2 at e2
    simp only at e2
    split at e2
    · exact fail_ne _ 3 (by decide) e2
    · exact this e2
  have hn : (strOfNums (s.text 16).1).toList.isEmpty = false ∧ (s.text 16).2.e = 0 := by
    unfold Sc.p1 at e1
    simp only at e1
    split at e1
    · exact absurd e1 (fail_ne _ 3 (by decide))
    · rename_i hq
      exact ⟨by simpa using hq, e1⟩
  have es : s.e = 0 := Classical.byContradiction fun h => text_err s 16 h hn.2
  have hs := eta0 s es
  have ht := (text_once s.l hu 16 (by decide) (by rw [← hs]; exact hn.2)).2
  rw [← hs] at ht
  have hsz : (strOfNums (s.text 16).1).size ≤ 16 := by rw [str_size]; omega
  have hnm : s.p1.1 = strOfNums (s.text 16).1 := rfl
  have hu1 : u8s s.p1.2.l := by
    have := text_once s.l hu 16 (by decide) (by rw [← hs]; exact hn.2)
    rw [← hs] at this
    have h5 : s.p1.2 = (s.text 16).2 := by
      show (if (strOfNums (s.text 16).1).toList.isEmpty = true then (s.text 16).2.fail 3 else (s.text 16).2) = _
      rw [if_neg (by rw [hn.1]; decide)]
    rw [h5]
    exact u8s_right (by rw [← this.1]; exact hu)
  have h1s := eta0 s.p1.2 e1
  have ho : o ≠ 0 ∧ (s.p1.2.upto 8).2.e = 0 := by
    unfold Sc.p2 at e2 h2
    simp only at e2 h2
    rw [← h2]
    split at e2
    · exact absurd e2 (fail_ne _ 3 (by decide))
    · rename_i hq; exact ⟨hq, e2⟩
  have hup := upto_once s.p1.2.l hu1 8 (by decide) (by rw [← h1s]; exact ho.2)
  rw [← h1s] at hup
  have ho2 : (s.p1.2.upto 8).1 = o := h2
  rw [ho2] at hup
  have hsc : s.p1.2.p2.2 = (s.p1.2.upto 8).2 := by
    show (if (s.p1.2.upto 8).1 = 0 then (s.p1.2.upto 8).2.fail 3 else (s.p1.2.upto 8).2) = _
    rw [if_neg (by rw [ho2]; exact ho.1)]
  have hu2 : u8s s.p1.2.p2.2.l := by rw [hsc]; exact u8s_right (by rw [← hup.1]; exact hu1)
  have h2s := eta0 s.p1.2.p2.2 e2
  have hpn : pnamed s.p1.1 v.t = decide (v.t.size ≤ 32) := by
    unfold pnamed
    rw [hnm, if_neg (fun h => by rw [h] at hn; exact absurd hn.1 (by decide)), if_pos (by omega)]
    rw [decide_eq_decide]
    omega
  unfold prightB
  rw [hpn]
  by_cases h8 : o = 8
  · rw [if_pos h8]
    have hv : v = vl0 := by
      have := congrArg Prod.fst h3
      unfold Sc.p3 at this
      rw [if_pos h8] at this
      exact this.symm
    rw [hv, h8]
    decide +kernel
  · rw [if_neg h8]
    have hv : s.p1.2.p2.2.val = (v, s3) := by
      unfold Sc.p3 at h3
      rw [if_neg h8] at h3
      exact h3
    have hval := val_once s.p1.2.p2.2.l hu2 (by rw [← h2s, hv]; exact h0)
    rw [← h2s, hv] at hval
    simp only at hval
    rw [hval.1, decide_eq_true (show 1 ≤ o by omega), decide_eq_true (show o ≤ 7 by omega)]
    by_cases a7 : o = 7 ∧ v.k ≠ 2
    · rw [if_pos a7, decide_eq_true (Or.inl a7)]; rfl
    · rw [if_neg a7]
      by_cases a32 : 32 < v.t.size
      · rw [decide_eq_true (show (o = 7 ∧ v.k ≠ 2) ∨ 32 < v.t.size from Or.inr a32), decide_eq_false (show ¬ v.t.size ≤ 32 by omega)]; rfl
      · rw [decide_eq_false (show ¬ ((o = 7 ∧ v.k ≠ 2) ∨ 32 < v.t.size) from fun h => h.elim a7 a32), decide_eq_true (show v.t.size ≤ 32 by omega)]; rfl
theorem pred_ref (s : Sc) (hu : u8s s.l) (he : s.e ≠ 0 → s.l = []) (o : Int) (v : Vl) (s3 : Sc) (h2 : s.p1.2.p2.1 = o) (h3 : s.p1.2.p2.2.p3 o = (v, s3)) (h4 : s3.e ≠ 0 → s3.l = []) :
    s3.p4 ⟨s.p1.1, o, v⟩ = s3.p4r ⟨s.p1.1, o, v⟩ := by
  by_cases h0 : s3.e = 0
  · have := pred_ok s hu he o v s3 h2 h3 h0
    unfold Sc.p4 Sc.p4r pright
    simp only
    rw [this]
    by_cases hq : (o = 7 ∧ v.k ≠ 2) ∨ 32 < v.t.size
    · rw [if_pos hq, decide_eq_true hq]; rfl
    · rw [if_neg hq, decide_eq_false hq]; rfl
  · have := fail_same s3 3 h0 (h4 h0) (by decide)
    unfold Sc.p4 Sc.p4r
    rw [this]
    split <;> split <;> rfl
theorem dec_only (P : Prop) [Decidable P] (n : Nat) (h : ¬ P) : decide (P ∨ 32 < n) = decide (32 < (n : Int)) := by
  rw [decide_eq_decide]
  constructor
  · rintro (h' | h')
    · exact absurd h' h
    · omega
  · intro h'; exact .inr (by omega)
set_option maxRecDepth 100000 in
set_option maxHeartbeats 4000000 in
theorem rpget {S : Nat → Prop} {w : World} {g : Nat} {s : Sc} (h : Scn 44 S w g s) :
    Calls Try.prog 21 #[.pointer (some ⟨g, 0, none⟩)] w fun r w' => r = .returned (.agg s.pred.1.c) ∧ Scn 44 S w' g s.pred.2 ∧ w.grownBy w' (some g) := by
  have hne := Aside0.mk h.ne
  have HU := Aside0.mk h.u8
  have HE := Aside0.mk h.err
  have HZ := Aside0.mk (Own1.start (U := 25) h #[.string ByteArray.empty, .int .i64 0, .int .i64 0, .int .i64 0, .string ByteArray.empty])
  clear h
  go_enter Try.func21, Try.ntmps21
  go_wp2_with fail
  refine (rtext HZ.out.scn 16 (by decide)).mono ?_
  rintro e w1 ⟨rfl, hs, hg⟩
  have H0 := Aside0.mk (HZ.out.call hs hg)
  clear hs hg HZ
  have hP : s.p1 = (strOfNums (s.text 16).1, if (strOfNums (s.text 16).1).toList.isEmpty = true then (s.text 16).2.fail 3 else (s.text 16).2) := rfl
  obtain ⟨nm, hnm⟩ : ∃ n, strOfNums (s.text 16).1 = n := ⟨_, rfl⟩
  obtain ⟨s1, hs1⟩ : ∃ q, (s.text 16).2 = q := ⟨_, rfl⟩
  rw [hs1] at H0
  rw [hnm, hs1] at hP
  rw [hnm]
  have HP := Aside0.mk hP
  clear hnm hs1 hP
  have H2 := Aside0.mk (Own1.start (U := 25) H0.out.scn #[.string nm, .int .i64 0, .int .i64 0, .int .i64 0, .string ByteArray.empty])
  have hg1 : g < w1.heap.size := H0.out.scn.lt
  have hg0 := lt_of_heap H0.out.heap
  have hq := Aside0.mk (show ¬ (S g ∧ g < w.heap.size) from fun h => hne.out h.1)
  have G1 := Aside0.mk (show g < w1.heap.size ∧ w.heap.size < w1.heap.size from ⟨hg1, hg0⟩)
  clear hg1 hg0
  go_upto_if 9 with fail
  go_cut [] (fun wx => Aside0 (Own1 44 25 (fun k => (S k ∧ k < w.heap.size) ∧ k < w1.heap.size) w1 wx g s.p1.2 #[.string s.p1.1, .int .i64 0, .int .i64 0, .int .i64 0, .string ByteArray.empty]))
  case first =>
    cases hn : nm.toList.isEmpty with
    | true =>
      have h1 : Aside0 (s.p1 = (nm, s1.fail 3)) := ⟨by rw [HP.out, if_pos hn]⟩
      go_wp2_with (go_at_call 42; refine (rfail H2.out.scn 3 (by decide)).mono ?_; rintro e w3 ⟨rfl, hs, hg⟩; have H3 := Aside0.mk (H2.out.call hs hg); clear hs hg)
      go_meet
      exact ⟨by rw [h1.out]; exact H3.out⟩
    | false =>
      have h1 : Aside0 (s.p1 = (nm, s1)) := ⟨by rw [HP.out, if_neg (by rw [hn]; decide)]⟩
      go_wp2
      go_meet
      exact ⟨by rw [h1.out]; exact H2.out⟩
  case rest =>
    have HN1 : Aside0 (s.p1 = (s.p1.1, s.p1.2)) := ⟨rfl⟩
    have H3 := hcut
    clear hcut HP H2
    generalize hn1 : s.p1.1 = nm at H3 HN1 ⊢
    generalize hs1 : s.p1.2 = s1 at H3 HN1 ⊢
    clear hn1 hs1
    obtain ⟨⟨c0, c1, c2, c3, c4⟩, f0, f1, f2, f3, f4⟩ := H3.out.cells5
    go_wp2_with fail
    refine (rupto H3.out.scn 8 (by decide)).mono ?_
    rintro e w4 ⟨rfl, hs, hg⟩
    have H4 := Aside0.mk (H3.out.call hs hg)
    clear hs hg H3 c0 c1 c2 c3 c4 f0 f1 f2 f3 f4
    have hQ : s1.p2 = ((s1.upto 8).1, if (s1.upto 8).1 = 0 then (s1.upto 8).2.fail 3 else (s1.upto 8).2) := rfl
    obtain ⟨o, ho⟩ : ∃ n, (s1.upto 8).1 = n := ⟨_, rfl⟩
    obtain ⟨s2, hs2⟩ : ∃ q, (s1.upto 8).2 = q := ⟨_, rfl⟩
    rw [hs2] at H4
    rw [ho, hs2] at hQ
    rw [ho]
    have HQ := Aside0.mk hQ
    clear ho hs2 hQ
    obtain ⟨⟨c0, c1, c2, c3, c4⟩, f0, f1, f2, f3, f4⟩ := H4.out.cells5
    have H5 := Aside0.mk (H4.out.store 1 (.int .i64 o))
    simp only [List.setIfInBounds_toArray, List.set_cons_zero, List.set_cons_succ] at H5
    clear H4
    go_upto_if 17 with fail
    go_cut [] (fun wx => Aside0 (Own1 44 25 (fun k => (S k ∧ k < w.heap.size) ∧ k < w1.heap.size) w1 wx g s1.p2.2 #[.string nm, .int .i64 s1.p2.1, .int .i64 0, .int .i64 0, .string ByteArray.empty]))
    case first =>
      by_cases hn : o = 0
      · have b1 : (o == 0) = true := by simp [hn]
        have h1 : Aside0 (s1.p2 = (o, s2.fail 3)) := ⟨by rw [HQ.out, if_pos hn]⟩
        clear hn
        go_wp2_with (go_at_call 42; refine (rfail H5.out.scn 3 (by decide)).mono ?_; rintro e w3 ⟨rfl, hs, hg⟩; have H3 := Aside0.mk (H5.out.call hs hg); clear hs hg)
        go_meet
        exact ⟨by rw [h1.out]; exact H3.out⟩
      · have b1 : (o == 0) = false := by simp [hn]
        have h1 : Aside0 (s1.p2 = (o, s2)) := ⟨by rw [HQ.out, if_neg hn]⟩
        clear hn
        go_wp2
        go_meet
        exact ⟨by rw [h1.out]; exact H5.out⟩
    case rest =>
      have HN2 : Aside0 (s1.p2 = (s1.p2.1, s1.p2.2)) := ⟨rfl⟩
      have H6 := hcut
      clear hcut HQ H5 c0 c1 c2 c3 c4 f0 f1 f2 f3 f4
      generalize hn1 : s1.p2.1 = o at H6 HN2 ⊢
      generalize hs1 : s1.p2.2 = s2 at H6 HN2 ⊢
      clear hn1 hs1
      obtain ⟨⟨c0, c1, c2, c3, c4⟩, f0, f1, f2, f3, f4⟩ := H6.out.cells5
      go_upto_if 22 with fail
      go_cut [] (fun wx => Aside0 (Own1 44 25 (fun k => (S k ∧ k < w.heap.size) ∧ k < w1.heap.size) w1 wx g (s2.p3 o).2 #[.string nm, .int .i64 o, .int .i64 (s2.p3 o).1.k, .int .i64 (s2.p3 o).1.i, .string (s2.p3 o).1.t]))
      case first =>
        by_cases hn : o = 8
        · have b1 : (o != 8) = false := by simp [hn]
          have h1 : Aside0 (s2.p3 o = (vl0, s2)) := ⟨by rw [Sc.p3, if_pos hn]⟩
          clear hn
          go_wp2
          go_meet
          exact ⟨by rw [h1.out]; exact H6.out⟩
        · have b1 : (o != 8) = true := by simp [hn]
          have h1 : Aside0 (s2.p3 o = s2.val) := ⟨by rw [Sc.p3, if_neg hn]⟩
          clear hn
          go_wp2_with (go_at_call 44; refine (rget H6.out.scn).mono ?_; rintro e w3 ⟨rfl, hs, hg⟩; simp only [Vl.v]; have H7 := Aside0.mk (H6.out.call hs hg); clear hs hg c0 c1 c2 c3 c4 f0 f1 f2 f3 f4; obtain ⟨⟨c0, c1, c2, c3, c4⟩, f0, f1, f2, f3, f4⟩ := H7.out.cells5)
          go_meet
          have H8 := ((H7.out.store 2 (.int .i64 s2.val.1.k)).store 3 (.int .i64 s2.val.1.i)).store 4 (.string s2.val.1.t)
          simp only [List.setIfInBounds_toArray, List.set_cons_zero, List.set_cons_succ] at H8
          exact ⟨by rw [h1.out]; exact H8⟩
      case rest =>
        have HN3 : Aside0 (s2.p3 o = ((s2.p3 o).1, (s2.p3 o).2)) := ⟨rfl⟩
        have H7 := hcut
        clear hcut H6 c0 c1 c2 c3 c4 f0 f1 f2 f3 f4
        generalize hn1 : (s2.p3 o).1 = v at H7 HN3 ⊢
        generalize hs1 : (s2.p3 o).2 = s3 at H7 HN3 ⊢
        clear hn1 hs1
        obtain ⟨⟨c0, c1, c2, c3, c4⟩, f0, f1, f2, f3, f4⟩ := H7.out.cells5
        have HPD : Aside0 (s.pred = Sc.p5 ⟨nm, o, v⟩ (Sc.p4r ⟨nm, o, v⟩ s3)) := ⟨by
          have hr := pred_ref s HU.out HE.out o v s3 (by rw [HN1.out]; simp only; rw [HN2.out]) (by rw [HN1.out]; simp only; rw [HN2.out]; simp only; exact HN3.out) H7.out.scn.err
          rw [HN1.out] at hr
          simp only at hr
          rw [← hr]
          unfold Sc.pred
          rw [HN1.out]
          simp only
          rw [HN2.out]
          simp only
          rw [HN3.out]⟩
        go_upto_region 9 with fail
        go_cut [41] (fun x wx => x = .bool (decide ((o = 7 ∧ v.k ≠ 2) ∨ 32 < v.t.size)) ∧ Aside0 (Own1 44 25 (fun k => (S k ∧ k < w.heap.size) ∧ k < w1.heap.size) w1 wx g s3 #[.string nm, .int .i64 o, .int .i64 v.k, .int .i64 v.i, .string v.t]))
        case first =>
          by_cases a7 : o = 7
          · have b1 : (o == 7) = true := by simp [a7]
            by_cases k2 : v.k = 2
            · have b2 : (v.k != 2) = false := by simp [k2]
              have hD : Aside0 (decide ((o = 7 ∧ v.k ≠ 2) ∨ 32 < v.t.size) = decide (32 < (v.t.size : Int))) := ⟨dec_only _ _ (fun h => h.2 k2)⟩
              clear a7 k2
              go_wp2
              go_meet
              exact ⟨by rw [hD.out], H7⟩
            · have b2 : (v.k != 2) = true := by simp [k2]
              have hD : Aside0 (decide ((o = 7 ∧ v.k ≠ 2) ∨ 32 < v.t.size) = true) := ⟨decide_eq_true (.inl ⟨a7, k2⟩)⟩
              clear a7 k2
              go_wp2
              go_meet
              exact ⟨by rw [hD.out], H7⟩
          · have b1 : (o == 7) = false := by simp [a7]
            have hD : Aside0 (decide ((o = 7 ∧ v.k ≠ 2) ∨ 32 < v.t.size) = decide (32 < (v.t.size : Int))) := ⟨dec_only _ _ (fun h => a7 h.1)⟩
            clear a7
            go_wp2
            go_meet
            exact ⟨by rw [hD.out], H7⟩
        case rest =>
        obtain ⟨rfl, H7'⟩ := hcut
        clear H7 c0 c1 c2 c3 c4 f0 f1 f2 f3 f4
        have H7 := H7'
        clear H7'
        have hP4 : s3.p4r ⟨nm, o, v⟩ = if decide ((o = 7 ∧ v.k ≠ 2) ∨ 32 < v.t.size) = true then s3.fail 3 else s3 := by
          unfold Sc.p4r
          by_cases hh : (o = 7 ∧ v.k ≠ 2) ∨ 32 < v.t.size
          · rw [if_pos hh, decide_eq_true hh]; rfl
          · rw [if_neg hh, decide_eq_false hh]; rfl
        have HP4 := Aside0.mk hP4
        clear hP4
        generalize decide ((o = 7 ∧ v.k ≠ 2) ∨ 32 < v.t.size) = bb at HP4 ⊢
        go_upto_if 41 with fail
        go_cut [] (fun wx => Aside0 (Own1 44 25 (fun k => (S k ∧ k < w.heap.size) ∧ k < w1.heap.size) w1 wx g (s3.p4r ⟨nm, o, v⟩) #[.string nm, .int .i64 o, .int .i64 v.k, .int .i64 v.i, .string v.t]))
        case first =>
          cases bb with
          | true =>
            have h1 : Aside0 (s3.p4r ⟨nm, o, v⟩ = s3.fail 3) := ⟨by rw [HP4.out, if_pos rfl]⟩
            go_wp2_with (go_at_call 42; refine (rfail H7.out.scn 3 (by decide)).mono ?_; rintro e w3 ⟨rfl, hs, hg⟩; have H8 := Aside0.mk (H7.out.call hs hg); clear hs hg)
            go_meet
            exact ⟨by rw [h1.out]; exact H8.out⟩
          | false =>
            have h1 : Aside0 (s3.p4r ⟨nm, o, v⟩ = s3) := ⟨by rw [HP4.out, if_neg (by decide)]⟩
            go_wp2
            go_meet
            exact ⟨by rw [h1.out]; exact H7.out⟩
        case rest =>
          have H9 := hcut
          clear hcut H7 HP4
          generalize hs4 : s3.p4r ⟨nm, o, v⟩ = s4 at H9 HPD
          clear hs4
          obtain ⟨⟨c0, c1, c2, c3, c4⟩, f0, f1, f2, f3, f4⟩ := H9.out.cells5
          have HT := Aside0.mk (H0.out.call (H9.out.scn.mono (fun _ h => h.1) hq.out) H9.out.grown)
          obtain ⟨⟨r0, r1, r2, r3, r4⟩, p0, p1, p2, p3, p4⟩ := HT.out.cells5
          obtain ⟨As, cs, _, _, _, _, z0, z1, y0, y1⟩ := H9.out.scn.cells
          have hg1 : (w1.heap.size = w.heap.size) = False := by have := G1.out; simp; omega
          have hg2 : (w.heap.size = w1.heap.size) = False := by have := G1.out; simp; omega
          by_cases e0 : s4.e = 0
          · have b2 : (s4.e != 0) = false := by simp [e0]
            have HE : Aside0 (s.pred = (⟨nm, o, v⟩, s4)) := ⟨by rw [HPD.out, Sc.p5, if_pos e0]⟩
            clear e0
            go_wp2_with fail
            have hz := HT.out.five hne.out (.string nm) (.int .i64 o) (.int .i64 v.k) (.int .i64 v.i) (.string v.t)
            refine bodyPost_ret (results_cell_row (P := Try.prog) (ty := 25) (p := 2) rfl _ _ w.heap.size 25 _ (0, 0) _ rfl hz.1 Try.underlying25 rfl info_pred) rfl ?_
            exact ⟨by rw [HE.out]; rfl, by rw [HE.out]; exact hz.2.1, hz.2.2⟩
          · have b2 : (s4.e != 0) = true := by simp [e0]
            have HE : Aside0 (s.pred = (pd0, s4)) := ⟨by rw [HPD.out, Sc.p5, if_neg e0]⟩
            clear e0
            go_wp2_with fail
            have hz := HT.out.five hne.out (.string ByteArray.empty) (.int .i64 0) (.int .i64 0) (.int .i64 0) (.string ByteArray.empty)
            refine bodyPost_ret (results_cell_row (P := Try.prog) (ty := 25) (p := 2) rfl _ _ w.heap.size 25 _ (0, 0) _ rfl hz.1 Try.underlying25 rfl info_pred) rfl ?_
            exact ⟨by rw [HE.out]; rfl, by rw [HE.out]; exact hz.2.1, hz.2.2⟩
end Go.Proofs.Ytojefdnngkcaoaa
end

section
-- Written by a program of this session (wip/tools/myprint.py), over the kit's print.
namespace Go.Proofs.Ytojefdnngkcaoaa.G
open Go.RowKit Go.Proofs.YtojefdnngkcaoaaW.PrintWords Go.Proofs.YtojefdnngkcaoaaW.PrintLast Go.Proofs.YtojefdnngkcaoaaW.PrintMore
attribute [local go_sem] max2_int min2_int max_two min_two max_three min_three max_four min_four   -- for this text's walks alone
set_option linter.unusedVariables false
set_option linter.unusedSimpArgs false

-- BY HAND
-- LIB Derived.BigQuiet
-- LIB Derived.Deep.QuietTactic
-- over: at_T52 k52
def event_Get.f (l0 : List S52) (a1 : ByteArray) : Option (Int × Int × ByteArray × Bool) :=
  match l0.find? (fun a => a.f0.toList == a1.toList) with
  | some a => some (a.f1.f0, a.f1.f1, a.f1.f2, true)
  | none => some (0, 0, ⟨#[]⟩, false)
set_option maxRecDepth 100000 in
set_option maxHeartbeats 1000000 in
theorem get_named (x : S52) (a1 : ByteArray) (g : Nat) (w : World) (hg : w.heap[g]? = some (.cells #[.string a1] 9 (0, 0))) :
    Calls Try.prog 51 #[.agg #[.string x.f0, .int .i64 x.f1.f0, .int .i64 x.f1.f1, .string x.f1.f2], .pointer (some ⟨g, 0, none⟩)] w fun e w' => e = .returned (.bool (x.f0.toList == a1.toList)) ∧ Below w.heap.size w w' := by
  have hlt : g < w.heap.size := (Array.getElem?_eq_some_iff.1 hg).1
  have hc : w.cell? ⟨g, 0, none⟩ = some (.string a1) := by rw [cell_of_row _ _ _ _ _ _ hg]; rfl
  go_enter Try.func51, Try.ntmps51
  go_wp2
  go_ret
  exact ⟨rfl, (Below.refl _ _).alloc (Nat.le_refl _) _⟩
set_option maxRecDepth 100000 in
set_option maxHeartbeats 2000000 in
theorem index_named (A : Option Addr) (c : Nat) (l : List S52) (a1 : ByteArray) (g : Nat) (w : World) (hC : Kd.C k52 w A l.length l) (hg : w.heap[g]? = some (.cells #[.string a1] 9 (0, 0))) :
    Calls Try.prog 50 #[.slice A l.length c, .func (.func 51) #[] #[.pointer (some ⟨g, 0, none⟩)]] w fun e w' =>
      (∃ i : Int, e = .returned (.int .i64 i) ∧ ((i = -1 ∧ l.find? (fun a => a.f0.toList == a1.toList) = none) ∨ (0 ≤ i ∧ i < l.length ∧ l.find? (fun a => a.f0.toList == a1.toList) = some (rd_T52 l i)))) ∧ Below w.heap.size w w' := by
  have HC := Aside0.mk hC
  have HG := Aside0.mk hg
  have hl := hC.2.1
  clear hC hg
  go_enter Try.func50, Try.ntmps50
  go_wp2_with fail
  go_loopw [8] (fun i wr => ∃ k : Nat, k ≤ l.length ∧ i = .int .i64 k ∧ Aside0 (∀ j, j < k → ((rd_T52 l (j : Nat)).f0.toList == a1.toList) = false) ∧ Below w.heap.size w wr) (fun i _ => l.length - (intOf i).toNat)
  case atStart => exact ⟨0, Nat.zero_le _, rfl, ⟨fun j hj => by omega⟩, Below.refl _ _⟩
  case round =>
    obtain ⟨k, hk, rfl, HN, hBr⟩ := hrel
    have HB := Aside0.mk hBr
    clear hBr
    by_cases hlt : k < l.length
    · obtain ⟨ad, rfl, h0, h1, h2, h3⟩ := at_T52 (Kd.C_below HC.out HB.out) (k : Int) (by omega) (by omega)
      rw [Int.toNat_natCast] at h0 h1 h2 h3
      obtain ⟨x, hx⟩ : ∃ x, rd_T52 l (k : Int) = x := ⟨_, rfl⟩
      rw [hx] at h0 h1 h2 h3
      have HX := Aside0.mk hx
      have hgr : Aside0 (wr.heap[g]? = some (.cells #[.string a1] 9 (0, 0))) := ⟨by rw [HB.out.block g (Array.getElem?_eq_some_iff.1 HG.out).1]; exact HG.out⟩
      clear hx
      cases hb : (x.f0.toList == a1.toList) with
      | true =>
        have HT := Aside0.mk hb
        have hcl := Aside0.mk (get_named x a1 g wr hgr.out)
        rw [hb] at hcl
        clear hb
        go_wp2_with (go_at_call 51; (with_reducible refine hcl.out.mono ?_); rintro e w2 ⟨rfl, hB⟩; have HB2 : Aside0 (Below w.heap.size w w2) := ⟨HB.out.trans (hB.mono HB.out.size)⟩; clear hB)
        go_ret
        refine ⟨⟨k, rfl, .inr ⟨by omega, by omega, ?_⟩⟩, HB2.out⟩
        rw [List.find?_eq_some_iff_getElem]
        refine ⟨by rw [HX.out]; exact HT.out, k, hlt, by simp [rd_T52, List.getD_eq_getElem?_getD, hlt], fun j hj => ?_⟩
        have := HN.out j hj
        simpa [rd_T52, List.getD_eq_getElem?_getD, show j < l.length by omega] using this
      | false =>
        have HT := Aside0.mk hb
        have hcl := Aside0.mk (get_named x a1 g wr hgr.out)
        rw [hb] at hcl
        clear hb
        go_wp2_with (go_at_call 51; (with_reducible refine hcl.out.mono ?_); rintro e w2 ⟨rfl, hB⟩; have HB2 : Aside0 (Below w.heap.size w w2) := ⟨HB.out.trans (hB.mono HB.out.size)⟩; clear hB)
        exact ⟨⟨k + 1, by omega, by simp, ⟨fun j hj => by
          by_cases e : j = k
          · rw [e, HX.out]; exact HT.out
          · exact HN.out j (by omega)⟩, HB2.out⟩, by simp [intOf]; omega⟩
    · obtain rfl : k = l.length := by omega
      go_wp2_with fail
      go_ret
      refine ⟨⟨-1, rfl, .inl ⟨rfl, ?_⟩⟩, HB.out⟩
      rw [List.find?_eq_none]
      intro a ha
      obtain ⟨j, hj, rfl⟩ := List.getElem_of_mem ha
      have := HN.out j hj
      simpa [rd_T52, List.getD_eq_getElem?_getD, hj] using this
set_option maxRecDepth 100000 in
set_option maxHeartbeats 2000000 in
theorem event_Get.calls (A0 : Option Addr) (c0 : Nat) (l0 : List S52) (a1 : ByteArray) (r1 : Int) (r2 : Int) (r3 : ByteArray) (r4 : Bool) (w : World) (hr0 : Kd.C k52 w A0 l0.length l0) (hc0 : l0.length ≤ c0) (h : event_Get.f l0 a1 = some (r1, r2, r3, r4)) :
    Calls Try.prog 29 #[.slice A0 l0.length c0, .string a1] w fun e w' => e = .returned (.tuple #[.agg #[.int .i64 r1, .int .i64 r2, .string r3], .bool r4]) ∧ Below w.heap.size w w' := by
  have HR := Aside0.mk hr0
  have H := Aside0.mk h
  have hl := hr0.2.1
  clear hr0 h
  go_enter Try.func29, Try.ntmps29
  go_wp2_with fail
  have hb2 : Below w.heap.size w ((w.alloc (.cells #[.string a1] 9)).alloc (.cells #[.int .i64 0, .int .i64 0, .string ByteArray.empty] 23)) := (((Below.refl _ _).alloc (Nat.le_refl _) _).alloc (by simp) _)
  have hg1 : ((w.alloc (.cells #[.string a1] 9)).alloc (.cells #[.int .i64 0, .int .i64 0, .string ByteArray.empty] 23)).heap[w.heap.size]? = some (.cells #[.string a1] 9 (0, 0)) := (Below.heap_alloc _ _ _ (by simp)).trans (heap_alloc_new w _)
  have hg2 : ((w.alloc (.cells #[.string a1] 9)).alloc (.cells #[.int .i64 0, .int .i64 0, .string ByteArray.empty] 23)).heap[w.heap.size + 1]? = some (.cells #[.int .i64 0, .int .i64 0, .string ByteArray.empty] 23 (0, 0)) := by have := heap_alloc_new (w.alloc (.cells #[.string a1] 9)) (.cells #[.int .i64 0, .int .i64 0, .string ByteArray.empty] 23); rwa [World.size_alloc] at this
  refine (index_named A0 c0 l0 a1 w.heap.size _ (Kd.C_below HR.out hb2) hg1).mono ?_
  rintro e w1 ⟨⟨i, rfl, hi⟩, hB⟩
  have HB : Aside0 (Below w.heap.size w w1) := ⟨hb2.trans (hB.mono (by simp; omega))⟩
  have BK : Aside0 (w1.heap[w.heap.size + 1]? = some (.cells #[.int .i64 0, .int .i64 0, .string ByteArray.empty] 23 (0, 0))) := ⟨(hB.block _ (Array.getElem?_eq_some_iff.1 hg2).1).trans hg2⟩
  clear hB hg1 hg2 hb2
  have hcz0 : w1.cell? ⟨w.heap.size + 1, 0, none⟩ = some (.int .i64 0) := (blk_cell BK.out 0).trans rfl
  have hcz1 : w1.cell? ⟨w.heap.size + 1, 1, none⟩ = some (.int .i64 0) := (blk_cell BK.out 1).trans rfl
  have hcz2 : w1.cell? ⟨w.heap.size + 1, 2, none⟩ = some (.string ByteArray.empty) := (blk_cell BK.out 2).trans rfl
  have hfz0 := blk_frozen BK.out 0
  have hfz1 := blk_frozen BK.out 1
  have hfz2 := blk_frozen BK.out 2
  have h := H.out
  unfold event_Get.f at h
  rcases hi with ⟨rfl, hf⟩ | ⟨h0, h1, hf⟩
  · rw [hf] at h
    simp only [Option.some.injEq, Prod.mk.injEq] at h
    obtain ⟨rfl, rfl, rfl, rfl⟩ := h
    clear hf H
    go_wp2
    refine bodyPost_ret (results_ct rfl _ _ (w.heap.size + 1) 23 #[.int .i64 0, .int .i64 0, .string (⟨#[]⟩ : ByteArray)] (0, 0) _ rfl (by refine blk_put (cs := #[.int .i64 0, .int .i64 0, .string ByteArray.empty]) ?_ 2 _ rfl; refine blk_put (cs := #[.int .i64 0, .int .i64 0, .string ByteArray.empty]) ?_ 1 _ rfl; refine blk_put (cs := #[.int .i64 0, .int .i64 0, .string ByteArray.empty]) ?_ 0 _ rfl; exact BK.out) Try.underlying23 rfl (by kernel_rfl)) rfl ?_
    exact ⟨rfl, ((HB.out.setCell (by simp) _).setCell (by simp) _).setCell (by simp) _⟩
  · rw [hf] at h
    simp only [Option.some.injEq, Prod.mk.injEq] at h
    obtain ⟨k, rfl⟩ := Int.eq_ofNat_of_zero_le h0
    obtain ⟨x, hx⟩ : ∃ x, rd_T52 l0 (k : Int) = x := ⟨_, rfl⟩
    rw [hx] at h
    obtain ⟨rfl, rfl, rfl, rfl⟩ := h
    obtain ⟨ad, rfl, q0, q1, q2, q3⟩ := at_T52 (Kd.C_below HR.out HB.out) (k : Int) (by omega) (by omega)
    rw [hx, Int.toNat_natCast] at q0 q1 q2 q3
    have hk : k < l0.length := by omega
    clear hf H hx h0 h1
    go_wp2
    refine bodyPost_ret (results_ct rfl _ _ (w.heap.size + 1) 23 #[.int .i64 x.f1.f0, .int .i64 x.f1.f1, .string x.f1.f2] (0, 0) _ rfl (by refine blk_put (cs := #[.int .i64 x.f1.f0, .int .i64 x.f1.f1, .string ByteArray.empty]) ?_ 2 _ rfl; refine blk_put (cs := #[.int .i64 x.f1.f0, .int .i64 0, .string ByteArray.empty]) ?_ 1 _ rfl; refine blk_put (cs := #[.int .i64 0, .int .i64 0, .string ByteArray.empty]) ?_ 0 _ rfl; exact BK.out) Try.underlying23 rfl (by kernel_rfl)) rfl ?_
    exact ⟨rfl, ((HB.out.setCell (by simp) _).setCell (by simp) _).setCell (by simp) _⟩

end Go.Proofs.Ytojefdnngkcaoaa.G
end

section
-- Written by a program of this session (wip/tools/myprint.py), over the kit's print.
namespace Go.Proofs.Ytojefdnngkcaoaa.G
open Go.RowKit Go.Proofs.YtojefdnngkcaoaaW.PrintWords Go.Proofs.YtojefdnngkcaoaaW.PrintLast Go.Proofs.YtojefdnngkcaoaaW.PrintMore
attribute [local go_sem] max2_int min2_int max_two min_two max_three min_three max_four min_four   -- for this text's walks alone
set_option linter.unusedVariables false
set_option linter.unusedSimpArgs false

/-! ### rosetteref05_Get: function 30 -/
def rosetteref05_Get.l0 : Nat → List (S52) → ByteArray → Int → Option (Int × Int × ByteArray × Bool)
  | 0, _, _, _ => none
  | k + 1, x0, x1, x6 => if x6 < (x0.length : Int) then (if 0 ≤ x6 then (if ((rd_T52 x0 x6).f0).toList = x1.toList then (some ((rd_T52 x0 x6).f1.f0, (rd_T52 x0 x6).f1.f1, (rd_T52 x0 x6).f1.f2, true)) else (rosetteref05_Get.l0 k x0 x1 (wrap64 (x6 + 1)))) else (none)) else (some (0, 0, (⟨#[]⟩ : ByteArray), false))
def rosetteref05_Get.f (k : Nat) (l0 : List (S52)) (a1 : ByteArray) : Option (Int × Int × ByteArray × Bool) := rosetteref05_Get.l0 k l0 a1 0
theorem rosetteref05_Get.mono_l : ∀ k, (∀ y0 y1 y2, LeO (rosetteref05_Get.l0 k y0 y1 y2) (rosetteref05_Get.l0 (k + 1) y0 y1 y2))
  | 0 => fun _ _ _ r h => by simp [rosetteref05_Get.l0] at h
  | k + 1 => by
    have ih0 := rosetteref05_Get.mono_l k
    · intro y0 y1 y2
      unfold rosetteref05_Get.l0
      repeat' first
      | (with_reducible exact ih0 _ _ _)
      | (with_reducible exact LeO.refl _)
      | (with_reducible exact LeO.none _)
      | (with_reducible refine LeO.ite ?_ ?_)
      | (with_reducible refine LeO.bind ?_ (fun _ => ?_))
      | exact ih0 _ _ _
      | exact LeO.none _
      | refine LeO.ite ?_ ?_
      | refine LeO.bind ?_ (fun _ => ?_)
theorem rosetteref05_Get.mono : ∀ a0 a1 k, LeO (rosetteref05_Get.f k a0 a1) (rosetteref05_Get.f (k + 1) a0 a1) := by
  intro a0 a1 k
  have ih0 := rosetteref05_Get.mono_l k
  unfold rosetteref05_Get.f
  repeat' first
      | (with_reducible exact ih0 _ _ _)
      | (with_reducible exact LeO.refl _)
      | (with_reducible exact LeO.none _)
      | (with_reducible refine LeO.ite ?_ ?_)
      | (with_reducible refine LeO.bind ?_ (fun _ => ?_))
      | exact ih0 _ _ _
      | exact LeO.none _
      | refine LeO.ite ?_ ?_
      | refine LeO.bind ?_ (fun _ => ?_)
set_option maxHeartbeats 8000000 in
set_option maxRecDepth 100000 in
theorem rosetteref05_Get.calls (k : Nat) (A0 : Option Addr) (c0 : Nat) (l0 : List (S52)) (a1 : ByteArray) (r1 : Int) (r2 : Int) (r3 : ByteArray) (r4 : Bool) (w : World) (hr0 : Kd.C k52 w A0 l0.length l0) (hc0 : l0.length ≤ c0) (h : rosetteref05_Get.f k l0 a1 = some (r1, r2, r3, r4)) :
    Calls Try.prog 30 #[.slice A0 l0.length c0, .string a1] w fun e w' => e = .returned (.tuple #[.agg #[.int .i64 r1, .int .i64 r2, .string r3], .bool r4]) ∧ Below w.heap.size w w' := by
  have hu23 := Try.underlying23
  have HR0 := Aside0.mk hr0
  have HC0 := Aside0.mk hc0
  clear hr0 hc0
  have HB := Aside0.mk (Below.refl w.heap.size w)
  have H : (rosetteref05_Get.l0 k l0 a1 0) = some (r1, r2, r3, r4) := h
  clear h
  have H' := Aside0.mk H
  clear H
  go_enter Try.func30, Try.ntmps30
  go_wp2_with (first | ((with_reducible refine gate_dst (N := 4) rfl ?_); refine box_event ?hg (N := 4) ?hd (cs := #[.int .i64 0, .int .i64 0, .string (⟨#[]⟩ : ByteArray)]) (t := 23) ?hr ?_; (case hd => rfl); (case hg => rfl); (case hr => first | (go_simp; done) | (go_simp; rfl)); intro gb193 hg w3 hbox hb; have n0_ := Aside0.mk (below_step (by repeat (first | (with_reducible first | exact HB.out | apply below_alloc | apply pw_below_drewN | apply below_drew1) | exact HB.out)) hb); have n1_ := Aside0.mk (hbox); have n2_ := Aside0.mk ((by rw [hg]; exact (below_size (by repeat (first | (with_reducible first | exact HB.out | apply below_alloc | apply pw_below_drewN | apply below_drew1) | exact HB.out))) : w.heap.size ≤ gb193)); have n3_ := Aside0.mk ((by rw [hg]; exact (below_size (by repeat (first | (with_reducible first | exact HB.out | apply below_alloc | apply pw_below_drewN | apply below_drew1) | exact HB.out))) : w.heap.size ≤ gb193)); clear HB; have HB := n0_; have BK193 := n1_; have GW193 := n2_; have GE193 := n3_; clear n0_ n1_ n2_ n3_; clear hb hbox hg))
  go_loopg [6] k (fun kq v6 w' => ∃ (x6_1 : Int) (x194000_1 : Int) (x194001_1 : Int) (x194002_1 : ByteArray), v6 = .int .i64 x6_1 ∧ Aside0 (rosetteref05_Get.l0 kq l0 a1 x6_1 = some (r1, r2, r3, r4)) ∧ Aside0 (kq ≤ k) ∧ Aside0 (w'.heap[gb193]? = some (.cells #[.int .i64 x194000_1, .int .i64 x194001_1, .string x194002_1] 23 (0, 0))) ∧ Aside0 (Below w.heap.size w w'))
  case atStart => exact ⟨(0), (0), (0), ((⟨#[]⟩ : ByteArray)), (by first | rfl | (simp; done) | (simp [*]; done)), H', ⟨Nat.le_refl _⟩, ⟨by (with_reducible repeat (first | refine blk_drewN ?_ _ | refine blk_drew ?_ | refine blk_alloc ?_ _)); exact BK193.out⟩, ⟨by repeat (first | (with_reducible first | exact HB.out | apply below_alloc | apply pw_below_drewN | apply below_drew1 | refine below_set ?_ GE193.out) | exact HB.out)⟩⟩
  case round =>
    clear H'
    try clear p2
    try clear c3
    obtain ⟨x6_1, x194000_1, x194001_1, x194002_1, rfl, HA, HK1, BK193, HB⟩ := hrel
    cases gk with
    | zero => exact absurd HA.out (by simp [rosetteref05_Get.l0])
    | succ k1 =>
      have H := HA.out
      clear HA
      simp only [rosetteref05_Get.l0] at H
      by_cases c4 : x6_1 < (l0.length : Int)
      · rw [if_pos c4] at H
        have c4b0 : decide (x6_1 < (l0.length : Int)) = true := decide_eq_true c4
        clear c4
        by_cases c5 : 0 ≤ x6_1
        · rw [if_pos c5] at H
          have c5b0 : decide (0 ≤ x6_1) = true := decide_eq_true c5
          clear c5
          by_cases c6 : ((rd_T52 l0 x6_1).f0).toList = a1.toList
          · rw [if_pos c6] at H
            have c6b0 : (((rd_T52 l0 x6_1).f0).toList == a1.toList) = true := beq_iff_eq.mpr c6
            have c6b1 : (((rd_T52 l0 x6_1).f0).toList != a1.toList) = false := bne_eq_false_iff_eq.mpr c6
            clear c6
            simp only [Option.some.injEq, Prod.mk.injEq] at H
            obtain ⟨rfl, rfl, rfl, rfl⟩ := H
            have p194 : 0 ≤ (x6_1 : Int) := of_decide_eq_true (by first | (with_reducible assumption) | assumption)
            have q194 : x6_1 < (l0.length : Int) := of_decide_eq_true (by first | (with_reducible assumption) | assumption)
            obtain ⟨ad194, e194, hx194_0, hx194_1, hx194_2, hx194_3⟩ := at_T52 HR0.out x6_1 p194 q194
            cases e194
            replace hx194_0 := (HB.out.cell (World.block_lt_of_cell? w _ hx194_0)).trans hx194_0
            replace hx194_1 := (HB.out.cell (World.block_lt_of_cell? w _ hx194_1)).trans hx194_1
            replace hx194_2 := (HB.out.cell (World.block_lt_of_cell? w _ hx194_2)).trans hx194_2
            replace hx194_3 := (HB.out.cell (World.block_lt_of_cell? w _ hx194_3)).trans hx194_3
            replace p194 := eq_true p194
            replace q194 := eq_true q194
            have p195 : 0 ≤ (x6_1 : Int) := of_decide_eq_true (by first | (with_reducible assumption) | assumption)
            have q195 : x6_1 < (l0.length : Int) := of_decide_eq_true (by first | (with_reducible assumption) | assumption)
            obtain ⟨ad195, e195, hx195_0, hx195_1, hx195_2, hx195_3⟩ := at_T52 HR0.out x6_1 p195 q195
            obtain rfl : ad194 = ad195 := (by injection e195)
            replace hx195_0 := (HB.out.cell (World.block_lt_of_cell? w _ hx195_0)).trans hx195_0
            replace hx195_1 := (HB.out.cell (World.block_lt_of_cell? w _ hx195_1)).trans hx195_1
            replace hx195_2 := (HB.out.cell (World.block_lt_of_cell? w _ hx195_2)).trans hx195_2
            replace hx195_3 := (HB.out.cell (World.block_lt_of_cell? w _ hx195_3)).trans hx195_3
            replace p195 := eq_true p195
            replace q195 := eq_true q195
            have hcz7_0 : wr.cell? ⟨gb193, 0, none⟩ = some (.int .i64 x194000_1) := (blk_cell BK193.out 0).trans rfl
            have hcz7_1 : wr.cell? ⟨gb193, 1, none⟩ = some (.int .i64 x194001_1) := (blk_cell BK193.out 1).trans rfl
            have hcz7_2 : wr.cell? ⟨gb193, 2, none⟩ = some (.string x194002_1) := (blk_cell BK193.out 2).trans rfl
            have hfz7_0 := blk_frozen BK193.out 0
            have hfz7_1 := blk_frozen BK193.out 1
            have hfz7_2 := blk_frozen BK193.out 2
            go_wp2
            refine bodyPost_ret (results_ct rfl _ _ gb193 23 #[.int .i64 ((rd_T52 l0 x6_1).f1.f0), .int .i64 ((rd_T52 l0 x6_1).f1.f1), .string ((rd_T52 l0 x6_1).f1.f2)] (0, 0) _ rfl (by (with_reducible repeat (first | refine blk_drewN ?_ _ | refine blk_drew ?_ | refine blk_alloc ?_ _)); refine blk_put (cs := #[.int .i64 ((rd_T52 l0 x6_1).f1.f0), .int .i64 ((rd_T52 l0 x6_1).f1.f1), .string x194002_1]) ?_ 2 _ rfl; (with_reducible repeat (first | refine blk_drewN ?_ _ | refine blk_drew ?_ | refine blk_alloc ?_ _)); refine blk_put (cs := #[.int .i64 ((rd_T52 l0 x6_1).f1.f0), .int .i64 x194001_1, .string x194002_1]) ?_ 1 _ rfl; (with_reducible repeat (first | refine blk_drewN ?_ _ | refine blk_drew ?_ | refine blk_alloc ?_ _)); refine blk_put (cs := #[.int .i64 x194000_1, .int .i64 x194001_1, .string x194002_1]) ?_ 0 _ rfl; (with_reducible repeat (first | refine blk_drewN ?_ _ | refine blk_drew ?_ | refine blk_alloc ?_ _)); exact BK193.out) Try.underlying23 rfl (by kernel_rfl)) rfl ?_
            exact ⟨by first | rfl | (simp [errW_none, errW_some] <;> rfl) | (simp [*, errW_none, errW_some] <;> rfl), by repeat (first | (with_reducible first | exact HB.out | apply below_alloc | apply pw_below_drewN | apply below_drew1 | refine below_set ?_ GE193.out) | exact HB.out)⟩
          · rw [if_neg c6] at H
            have c6b0 : (((rd_T52 l0 x6_1).f0).toList == a1.toList) = false := beq_eq_false_iff_ne.mpr c6
            have c6b1 : (((rd_T52 l0 x6_1).f0).toList != a1.toList) = true := bne_iff_ne.mpr c6
            have H' := Aside0.mk H
            clear H
            have p194 : 0 ≤ (x6_1 : Int) := of_decide_eq_true (by first | (with_reducible assumption) | assumption)
            have q194 : x6_1 < (l0.length : Int) := of_decide_eq_true (by first | (with_reducible assumption) | assumption)
            obtain ⟨ad194, e194, hx194_0, hx194_1, hx194_2, hx194_3⟩ := at_T52 HR0.out x6_1 p194 q194
            cases e194
            replace hx194_0 := (HB.out.cell (World.block_lt_of_cell? w _ hx194_0)).trans hx194_0
            replace hx194_1 := (HB.out.cell (World.block_lt_of_cell? w _ hx194_1)).trans hx194_1
            replace hx194_2 := (HB.out.cell (World.block_lt_of_cell? w _ hx194_2)).trans hx194_2
            replace hx194_3 := (HB.out.cell (World.block_lt_of_cell? w _ hx194_3)).trans hx194_3
            replace p194 := eq_true p194
            replace q194 := eq_true q194
            go_wp2
            go_roundg k1
            case measure => have := HK1.out; omega
            case rel => exact ⟨(wrap64 (x6_1 + 1)), (x194000_1), (x194001_1), (x194002_1), (by first | rfl | (simp; done) | (simp [*]; done)), H', ⟨by have := HK1.out; omega⟩, ⟨by (with_reducible repeat (first | refine blk_drewN ?_ _ | refine blk_drew ?_ | refine blk_alloc ?_ _)); exact BK193.out⟩, ⟨by repeat (first | (with_reducible first | exact HB.out | apply below_alloc | apply pw_below_drewN | apply below_drew1 | refine below_set ?_ GE193.out) | exact HB.out)⟩⟩
        · rw [if_neg c5] at H
          exact absurd H (by simp)
      · rw [if_neg c4] at H
        have c4b0 : decide (x6_1 < (l0.length : Int)) = false := decide_eq_false c4
        clear c4
        simp only [Option.some.injEq, Prod.mk.injEq] at H
        obtain ⟨rfl, rfl, rfl, rfl⟩ := H
        have hcz8_0 : wr.cell? ⟨gb193, 0, none⟩ = some (.int .i64 x194000_1) := (blk_cell BK193.out 0).trans rfl
        have hcz8_1 : wr.cell? ⟨gb193, 1, none⟩ = some (.int .i64 x194001_1) := (blk_cell BK193.out 1).trans rfl
        have hcz8_2 : wr.cell? ⟨gb193, 2, none⟩ = some (.string x194002_1) := (blk_cell BK193.out 2).trans rfl
        have hfz8_0 := blk_frozen BK193.out 0
        have hfz8_1 := blk_frozen BK193.out 1
        have hfz8_2 := blk_frozen BK193.out 2
        go_wp2
        refine bodyPost_ret (results_ct rfl _ _ gb193 23 #[.int .i64 0, .int .i64 0, .string (⟨#[]⟩ : ByteArray)] (0, 0) _ rfl (by (with_reducible repeat (first | refine blk_drewN ?_ _ | refine blk_drew ?_ | refine blk_alloc ?_ _)); refine blk_put (cs := #[.int .i64 0, .int .i64 0, .string x194002_1]) ?_ 2 _ rfl; (with_reducible repeat (first | refine blk_drewN ?_ _ | refine blk_drew ?_ | refine blk_alloc ?_ _)); refine blk_put (cs := #[.int .i64 0, .int .i64 x194001_1, .string x194002_1]) ?_ 1 _ rfl; (with_reducible repeat (first | refine blk_drewN ?_ _ | refine blk_drew ?_ | refine blk_alloc ?_ _)); refine blk_put (cs := #[.int .i64 x194000_1, .int .i64 x194001_1, .string x194002_1]) ?_ 0 _ rfl; (with_reducible repeat (first | refine blk_drewN ?_ _ | refine blk_drew ?_ | refine blk_alloc ?_ _)); exact BK193.out) Try.underlying23 rfl (by kernel_rfl)) rfl ?_
        exact ⟨by first | rfl | (simp [errW_none, errW_some] <;> rfl) | (simp [*, errW_none, errW_some] <;> rfl), by repeat (first | (with_reducible first | exact HB.out | apply below_alloc | apply pw_below_drewN | apply below_drew1 | refine below_set ?_ GE193.out) | exact HB.out)⟩

end Go.Proofs.Ytojefdnngkcaoaa.G
end

section
-- Written by a program of this session (wip/tools/myprint.py), over the kit's print.
namespace Go.Proofs.Ytojefdnngkcaoaa.G
open Go.RowKit Go.Proofs.YtojefdnngkcaoaaW.PrintWords Go.Proofs.YtojefdnngkcaoaaW.PrintLast Go.Proofs.YtojefdnngkcaoaaW.PrintMore
attribute [local go_sem] max2_int min2_int max_two min_two max_three min_three max_four min_four   -- for this text's walks alone
set_option linter.unusedVariables false
set_option linter.unusedSimpArgs false

/-! ### rosettelaw05_Few: function 9 -/
def rosettelaw05_Few.l0 : Nat → List (S52) → Int → Option (Bool)
  | 0, _, _ => none
  | k + 1, x0, x3 => if x3 < (x0.length : Int) then (if 0 ≤ x3 then (if (((rd_T52 x0 x3).f0).size : Int) > 100 then (some false) else (if (((rd_T52 x0 x3).f1.f2).size : Int) > 300 then (some false) else (rosettelaw05_Few.l0 k x0 (wrap64 (x3 + 1))))) else (none)) else (some (decide ((x0.length : Int) ≤ 40)))
def rosettelaw05_Few.f (k : Nat) (l0 : List (S52)) : Option (Bool) := rosettelaw05_Few.l0 k l0 0
theorem rosettelaw05_Few.mono_l : ∀ k, (∀ y0 y1, LeO (rosettelaw05_Few.l0 k y0 y1) (rosettelaw05_Few.l0 (k + 1) y0 y1))
  | 0 => fun _ _ r h => by simp [rosettelaw05_Few.l0] at h
  | k + 1 => by
    have ih0 := rosettelaw05_Few.mono_l k
    · intro y0 y1
      unfold rosettelaw05_Few.l0
      repeat' first
      | (with_reducible exact ih0 _ _)
      | (with_reducible exact LeO.refl _)
      | (with_reducible exact LeO.none _)
      | (with_reducible refine LeO.ite ?_ ?_)
      | (with_reducible refine LeO.bind ?_ (fun _ => ?_))
      | exact ih0 _ _
      | exact LeO.none _
      | refine LeO.ite ?_ ?_
      | refine LeO.bind ?_ (fun _ => ?_)
theorem rosettelaw05_Few.mono : ∀ a0 k, LeO (rosettelaw05_Few.f k a0) (rosettelaw05_Few.f (k + 1) a0) := by
  intro a0 k
  have ih0 := rosettelaw05_Few.mono_l k
  unfold rosettelaw05_Few.f
  repeat' first
      | (with_reducible exact ih0 _ _)
      | (with_reducible exact LeO.refl _)
      | (with_reducible exact LeO.none _)
      | (with_reducible refine LeO.ite ?_ ?_)
      | (with_reducible refine LeO.bind ?_ (fun _ => ?_))
      | exact ih0 _ _
      | exact LeO.none _
      | refine LeO.ite ?_ ?_
      | refine LeO.bind ?_ (fun _ => ?_)
set_option maxHeartbeats 8000000 in
set_option maxRecDepth 100000 in
theorem rosettelaw05_Few.calls (k : Nat) (A0 : Option Addr) (c0 : Nat) (l0 : List (S52)) (r : Bool) (w : World) (hr0 : Kd.C k52 w A0 l0.length l0) (hc0 : l0.length ≤ c0) (h : rosettelaw05_Few.f k l0 = some r) :
    Calls Try.prog 9 #[.slice A0 l0.length c0] w fun e w' => e = .returned (.bool r) ∧ Drawn0 w w' := by
  have HR0 := Aside0.mk hr0
  have HC0 := Aside0.mk hc0
  clear hr0 hc0
  have H : (rosettelaw05_Few.l0 k l0 0) = some r := h
  clear h
  have H' := Aside0.mk H
  clear H
  go_enter Try.func9, Try.ntmps9
  go_wp2
  go_loopg [3] k (fun kq v3 w' => ∃ (x3_1 : Int), v3 = .int .i64 x3_1 ∧ Aside0 (rosettelaw05_Few.l0 kq l0 x3_1 = some r) ∧ Aside0 (kq ≤ k) ∧ Drawn0 w w')
  case atStart => exact ⟨(0), (by first | rfl | (simp; done) | (simp [*]; done)), H', ⟨Nat.le_refl _⟩, by repeat (first | exact Drawn0.refl _ | apply Drawn0.step)⟩
  case round =>
    clear H'
    obtain ⟨x3_1, rfl, HA, HK1, ⟨m1, rfl⟩⟩ := hrel
    cases gk with
    | zero => exact absurd HA.out (by simp [rosettelaw05_Few.l0])
    | succ k1 =>
      have H := HA.out
      clear HA
      simp only [rosettelaw05_Few.l0] at H
      by_cases c2 : x3_1 < (l0.length : Int)
      · rw [if_pos c2] at H
        have c2b0 : decide (x3_1 < (l0.length : Int)) = true := decide_eq_true c2
        clear c2
        by_cases c3 : 0 ≤ x3_1
        · rw [if_pos c3] at H
          have c3b0 : decide (0 ≤ x3_1) = true := decide_eq_true c3
          clear c3
          by_cases c4 : (((rd_T52 l0 x3_1).f0).size : Int) > 100
          · rw [if_pos c4] at H
            have c4b0 : decide (100 < (((rd_T52 l0 x3_1).f0).size : Int)) = true := decide_eq_true c4
            have c4b1 : decide (100 < ((rd_T52 l0 x3_1).f0).size) = true := decide_eq_true (by omega)
            clear c4
            obtain rfl := Option.some.inj H
            have p178 : 0 ≤ (x3_1 : Int) := of_decide_eq_true (by first | (with_reducible assumption) | assumption)
            have q178 : x3_1 < (l0.length : Int) := of_decide_eq_true (by first | (with_reducible assumption) | assumption)
            obtain ⟨ad178, e178, hx178_0, hx178_1, hx178_2, hx178_3⟩ := at_T52 HR0.out x3_1 p178 q178
            cases e178
            replace p178 := eq_true p178
            replace q178 := eq_true q178
            go_wp2
            go_ret
            exact ⟨by first | rfl | (simp; done) | (simp [*]; done), by repeat (first | exact Drawn0.refl _ | apply Drawn0.step)⟩
          · rw [if_neg c4] at H
            have c4b0 : decide (100 < (((rd_T52 l0 x3_1).f0).size : Int)) = false := decide_eq_false c4
            have c4b1 : decide (100 < ((rd_T52 l0 x3_1).f0).size) = false := decide_eq_false (by omega)
            clear c4
            by_cases c5 : (((rd_T52 l0 x3_1).f1.f2).size : Int) > 300
            · rw [if_pos c5] at H
              have c5b0 : decide (300 < (((rd_T52 l0 x3_1).f1.f2).size : Int)) = true := decide_eq_true c5
              have c5b1 : decide (300 < ((rd_T52 l0 x3_1).f1.f2).size) = true := decide_eq_true (by omega)
              clear c5
              obtain rfl := Option.some.inj H
              have p178 : 0 ≤ (x3_1 : Int) := of_decide_eq_true (by first | (with_reducible assumption) | assumption)
              have q178 : x3_1 < (l0.length : Int) := of_decide_eq_true (by first | (with_reducible assumption) | assumption)
              obtain ⟨ad178, e178, hx178_0, hx178_1, hx178_2, hx178_3⟩ := at_T52 HR0.out x3_1 p178 q178
              cases e178
              replace p178 := eq_true p178
              replace q178 := eq_true q178
              have p179 : 0 ≤ (x3_1 : Int) := of_decide_eq_true (by first | (with_reducible assumption) | assumption)
              have q179 : x3_1 < (l0.length : Int) := of_decide_eq_true (by first | (with_reducible assumption) | assumption)
              obtain ⟨ad179, e179, hx179_0, hx179_1, hx179_2, hx179_3⟩ := at_T52 HR0.out x3_1 p179 q179
              obtain rfl : ad178 = ad179 := (by injection e179)
              replace p179 := eq_true p179
              replace q179 := eq_true q179
              go_wp2
              go_ret
              exact ⟨by first | rfl | (simp; done) | (simp [*]; done), by repeat (first | exact Drawn0.refl _ | apply Drawn0.step)⟩
            · rw [if_neg c5] at H
              have c5b0 : decide (300 < (((rd_T52 l0 x3_1).f1.f2).size : Int)) = false := decide_eq_false c5
              have c5b1 : decide (300 < ((rd_T52 l0 x3_1).f1.f2).size) = false := decide_eq_false (by omega)
              clear c5
              have H' := Aside0.mk H
              clear H
              have p178 : 0 ≤ (x3_1 : Int) := of_decide_eq_true (by first | (with_reducible assumption) | assumption)
              have q178 : x3_1 < (l0.length : Int) := of_decide_eq_true (by first | (with_reducible assumption) | assumption)
              obtain ⟨ad178, e178, hx178_0, hx178_1, hx178_2, hx178_3⟩ := at_T52 HR0.out x3_1 p178 q178
              cases e178
              replace p178 := eq_true p178
              replace q178 := eq_true q178
              have p179 : 0 ≤ (x3_1 : Int) := of_decide_eq_true (by first | (with_reducible assumption) | assumption)
              have q179 : x3_1 < (l0.length : Int) := of_decide_eq_true (by first | (with_reducible assumption) | assumption)
              obtain ⟨ad179, e179, hx179_0, hx179_1, hx179_2, hx179_3⟩ := at_T52 HR0.out x3_1 p179 q179
              obtain rfl : ad178 = ad179 := (by injection e179)
              replace p179 := eq_true p179
              replace q179 := eq_true q179
              go_wp2
              go_roundg k1
              case measure => have := HK1.out; omega
              case rel => exact ⟨(wrap64 (x3_1 + 1)), (by first | rfl | (simp; done) | (simp [*]; done)), H', ⟨by have := HK1.out; omega⟩, by repeat (first | exact Drawn0.refl _ | apply Drawn0.step)⟩
        · rw [if_neg c3] at H
          exact absurd H (by simp)
      · rw [if_neg c2] at H
        have c2b0 : decide (x3_1 < (l0.length : Int)) = false := decide_eq_false c2
        clear c2
        obtain rfl := Option.some.inj H
        go_wp2
        go_ret
        exact ⟨by first | rfl | (simp; done) | (simp [*]; done), by repeat (first | exact Drawn0.refl _ | apply Drawn0.step)⟩

end Go.Proofs.Ytojefdnngkcaoaa.G
end

section
/- events over lists: what is looked up; which are few -/
set_option linter.unusedVariables false
set_option linter.unusedSimpArgs false
set_option autoImplicit false
namespace Go.Proofs.Ytojefdnngkcaoaa
open Go.RowKit Go.Proofs.YtojefdnngkcaoaaW.PrintWords Go.Proofs.YtojefdnngkcaoaaW.PrintLast Go.Proofs.YtojefdnngkcaoaaW.PrintMore Go.Proofs.Ytojefdnngkcaoaa.G

theorem wrap_s (x : Int) (h0 : -9223372036854775808 ≤ x) (h1 : x < 9223372036854775808) : wrap64 x = x := by unfold wrap64; omega
theorem rd_attr (l : List S52) (k : Nat) (hk : k < l.length) : rd_T52 l (k : Int) = l[k] := by simp [rd_T52, List.getD_eq_getElem?_getD, hk]
theorem rget_go (l : List S52) (n : ByteArray) (hl : l.length ≤ 9223372036854775806) : ∀ (d K k : Nat), k + d = l.length → d < K → rosetteref05_Get.l0 K l n (k : Int) = event_Get.f (l.drop k) n := by
  intro d
  induction d with
  | zero =>
    intro K k h1 h2
    obtain ⟨K, rfl⟩ : ∃ m, K = m + 1 := ⟨K - 1, by omega⟩
    rw [rosetteref05_Get.l0, if_neg (by omega), List.drop_of_length_le (by omega)]
    rfl
  | succ d ih =>
    intro K k h1 h2
    obtain ⟨K, rfl⟩ : ∃ m, K = m + 1 := ⟨K - 1, by omega⟩
    have hk : k < l.length := by omega
    rw [rosetteref05_Get.l0, if_pos (by omega), if_pos (by omega), rd_attr l k hk, List.drop_eq_getElem_cons hk]
    unfold event_Get.f
    rw [List.find?_cons]
    by_cases hn : l[k].f0.toList = n.toList
    · rw [if_pos hn, beq_iff_eq.mpr hn]
    · rw [if_neg hn, beq_eq_false_iff_ne.mpr hn, wrap_s _ (by omega) (by omega), show (k : Int) + 1 = ((k + 1 : Nat) : Int) by omega]
      exact ih K (k + 1) (by omega) (by omega)
theorem rget_f (l : List S52) (n : ByteArray) (hl : l.length ≤ 9223372036854775806) (K : Nat) (hK : l.length < K) : rosetteref05_Get.f K l n = event_Get.f l n := by
  unfold rosetteref05_Get.f
  have := rget_go l n hl l.length K 0 (by omega) hK
  simpa using this
theorem get_some (l : List S52) (n : ByteArray) (hw : ∀ x ∈ l, (Lit.int .i64 x.f1.f1).wf = true) : ∃ r, event_Get.f l n = some r ∧ -9223372036854775808 ≤ r.2.1 ∧ r.2.1 < 9223372036854775808 := by
  unfold event_Get.f
  cases h : l.find? (fun a => a.f0.toList == n.toList) with
  | none => exact ⟨_, rfl, by decide, by decide⟩
  | some a =>
    have := Go.bounds_i64 (hw a (List.mem_of_find?_eq_some h))
    exact ⟨_, rfl, by simp only; omega, by simp only; omega⟩
def fewB (l : List S52) : Bool := (l.all fun a => decide (a.f0.size ≤ 100) && decide (a.f1.f2.size ≤ 300)) && decide (l.length ≤ 40)
theorem few_go (l : List S52) (hl : l.length ≤ 9223372036854775806) : ∀ (d K k : Nat), k + d = l.length → d < K → rosettelaw05_Few.l0 K l (k : Int) = some (((l.drop k).all fun a => decide (a.f0.size ≤ 100) && decide (a.f1.f2.size ≤ 300)) && decide (l.length ≤ 40)) := by
  intro d
  induction d with
  | zero =>
    intro K k h1 h2
    obtain ⟨K, rfl⟩ : ∃ m, K = m + 1 := ⟨K - 1, by omega⟩
    rw [rosettelaw05_Few.l0, if_neg (by omega), List.drop_of_length_le (by omega)]
    simp only [List.all_nil, Bool.true_and]
    congr 1
    rw [decide_eq_decide]
    omega
  | succ d ih =>
    intro K k h1 h2
    obtain ⟨K, rfl⟩ : ∃ m, K = m + 1 := ⟨K - 1, by omega⟩
    have hk : k < l.length := by omega
    rw [rosettelaw05_Few.l0, if_pos (by omega), if_pos (by omega), rd_attr l k hk, List.drop_eq_getElem_cons hk, List.all_cons]
    by_cases a1 : (l[k].f0.size : Int) > 100
    · rw [if_pos a1, decide_eq_false (by omega)]; simp
    rw [if_neg a1, decide_eq_true (show l[k].f0.size ≤ 100 by omega)]
    by_cases a2 : (l[k].f1.f2.size : Int) > 300
    · rw [if_pos a2, decide_eq_false (by omega)]; simp
    rw [if_neg a2, decide_eq_true (show l[k].f1.f2.size ≤ 300 by omega), wrap_s _ (by omega) (by omega), show (k : Int) + 1 = ((k + 1 : Nat) : Int) by omega]
    simp only [Bool.true_and]
    exact ih K (k + 1) (by omega) (by omega)
theorem few_f (l : List S52) (hl : l.length ≤ 9223372036854775806) (K : Nat) (hK : l.length < K) : rosettelaw05_Few.f K l = some (fewB l) := by
  unfold rosettelaw05_Few.f
  have := few_go l hl l.length K 0 (by omega) hK
  rw [List.drop_zero] at this
  exact this
theorem few_len {l : List S52} (h : fewB l = true) : l.length ≤ 40 := by
  unfold fewB at h
  rw [Bool.and_eq_true, decide_eq_true_eq] at h
  exact h.2
theorem get_size {l : List S52} (h : fewB l = true) {n : ByteArray} {r : Int × Int × ByteArray × Bool} (hr : event_Get.f l n = some r) : r.2.2.1.size ≤ 300 := by
  unfold event_Get.f at hr
  cases hf : l.find? (fun a => a.f0.toList == n.toList) with
  | none => rw [hf] at hr; cases hr; decide
  | some a =>
    rw [hf] at hr
    cases hr
    unfold fewB at h
    rw [Bool.and_eq_true, List.all_eq_true] at h
    have := h.1 a (List.mem_of_find?_eq_some hf)
    simp only [Bool.and_eq_true, decide_eq_true_eq] at this
    exact this.2
end Go.Proofs.Ytojefdnngkcaoaa
end
