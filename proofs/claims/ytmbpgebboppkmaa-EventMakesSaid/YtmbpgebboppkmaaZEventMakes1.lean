import Derived.Test.YtmbpgebboppkmaaZEventMakes0
import Derived.WalkKit
section
-- Written by a program of this session (wip/tools/myprint.py), over the kit's print.
namespace Go.Proofs.Ytmbpgebboppkmaa.G
open Go.RowKit Go.Proofs.YtmbpgebboppkmaaW.PrintWords Go.Proofs.YtmbpgebboppkmaaW.PrintLast Go.Proofs.YtmbpgebboppkmaaW.PrintMore
attribute [local go_sem] max2_int min2_int max_two min_two max_three min_three max_four min_four   -- for this text's walks alone
set_option linter.unusedVariables false
set_option linter.unusedSimpArgs false

/-! ### rosetteref04_Text: function 25 -/
def rosetteref04_Text.f (k : Nat) (a0 : ByteArray) (a1 : ByteArray) : Option (Int) := if a0.toList = a1.toList then (some 0) else ((rosetteref04_less.f k a0 a1).bind fun t116 => (if t116 = true then (some (-1)) else (some 1)))
theorem rosetteref04_Text.mono : ∀ a0 a1 k, LeO (rosetteref04_Text.f k a0 a1) (rosetteref04_Text.f (k + 1) a0 a1) := by
  intro a0 a1 k
  unfold rosetteref04_Text.f
  repeat' first
      | (with_reducible exact rosetteref04_less.mono _ _ _)
      | (with_reducible exact LeO.refl _)
      | (with_reducible exact LeO.none _)
      | (with_reducible refine LeO.ite ?_ ?_)
      | (with_reducible refine LeO.bind ?_ (fun _ => ?_))
      | exact rosetteref04_less.mono _ _ _
      | exact LeO.none _
      | refine LeO.ite ?_ ?_
      | refine LeO.bind ?_ (fun _ => ?_)
set_option maxHeartbeats 8000000 in
set_option maxRecDepth 100000 in
theorem rosetteref04_Text.calls (k : Nat) (a0 : ByteArray) (a1 : ByteArray) (r : Int) (w : World) (h : rosetteref04_Text.f k a0 a1 = some r) :
    Calls Try.prog 25 #[.string a0, .string a1] w fun e w' => e = .returned (.int .i64 r) ∧ Drawn0 w w' := by
  have H : (if a0.toList = a1.toList then (some 0) else ((rosetteref04_less.f k a0 a1).bind fun t116 => (if t116 = true then (some (-1)) else (some 1)))) = some r := h
  clear h
  by_cases c3 : a0.toList = a1.toList
  · rw [if_pos c3] at H
    have c3b0 : (a0.toList == a1.toList) = true := beq_iff_eq.mpr c3
    have c3b1 : (a0.toList != a1.toList) = false := bne_eq_false_iff_eq.mpr c3
    clear c3
    obtain rfl := Option.some.inj H
    go_enter Try.func25, Try.ntmps25
    go_wp2
    go_ret
    exact ⟨by first | rfl | (simp; done) | (simp [*]; done), by repeat (first | exact Drawn0.refl _ | apply Drawn0.step)⟩
  · rw [if_neg c3] at H
    have c3b0 : (a0.toList == a1.toList) = false := beq_eq_false_iff_ne.mpr c3
    have c3b1 : (a0.toList != a1.toList) = true := bne_iff_ne.mpr c3
    replace H := Option.bind_eq_some_iff.mp H
    obtain ⟨t116, A40, H⟩ := H
    replace H : (if t116 = true then (some (-1)) else (some 1)) = some r := H
    have A4 := Aside0.mk A40
    clear A40
    by_cases c5 : t116 = true
    · subst c5
      have H1 : (some (-1)) = some r := by rw [if_pos rfl] at H; exact H
      clear H
      have H := H1
      clear H1
      obtain rfl := Option.some.inj H
      go_enter Try.func25, Try.ntmps25
      go_wp2_with (first | ((with_reducible refine gate_callee (f := 34) rfl ?_); refine goesL_ (some 10) rfl rfl Try.func34 (by kernel_rfl) rfl #[.string a0, .string a1] rfl (by (try simp only [List.map_toArray, List.map_cons, List.map_nil]); first | done | rfl | (simp only [List.length_drop, List.length_take]; rfl)) ?_; (with_reducible refine (rosetteref04_less.calls k a0 a1 true _ A4.out).mono ?_); rintro e w' ⟨rfl, ⟨nd, rfl⟩⟩; refine ⟨_, rfl, ?_⟩))
      go_ret
      exact ⟨by first | rfl | (simp; done) | (simp [*]; done), by repeat (first | exact Drawn0.refl _ | apply Drawn0.step)⟩
    · replace c5 := Bool.eq_false_iff.mpr c5
      subst c5
      have H1 : (some 1) = some r := by rw [if_neg (show ¬ (false = true) by decide)] at H; exact H
      clear H
      have H := H1
      clear H1
      obtain rfl := Option.some.inj H
      go_enter Try.func25, Try.ntmps25
      go_wp2_with (first | ((with_reducible refine gate_callee (f := 34) rfl ?_); refine goesL_ (some 10) rfl rfl Try.func34 (by kernel_rfl) rfl #[.string a0, .string a1] rfl (by (try simp only [List.map_toArray, List.map_cons, List.map_nil]); first | done | rfl | (simp only [List.length_drop, List.length_take]; rfl)) ?_; (with_reducible refine (rosetteref04_less.calls k a0 a1 false _ A4.out).mono ?_); rintro e w' ⟨rfl, ⟨nd, rfl⟩⟩; refine ⟨_, rfl, ?_⟩))
      go_ret
      exact ⟨by first | rfl | (simp; done) | (simp [*]; done), by repeat (first | exact Drawn0.refl _ | apply Drawn0.step)⟩

end Go.Proofs.Ytmbpgebboppkmaa.G
end

section
-- Written by a program of this session (wip/tools/myprint.py), over the kit's print.
namespace Go.Proofs.Ytmbpgebboppkmaa.G
open Go.RowKit Go.Proofs.YtmbpgebboppkmaaW.PrintWords Go.Proofs.YtmbpgebboppkmaaW.PrintLast Go.Proofs.YtmbpgebboppkmaaW.PrintMore
attribute [local go_sem] max2_int min2_int max_two min_two max_three min_three max_four min_four   -- for this text's walks alone
set_option linter.unusedVariables false
set_option linter.unusedSimpArgs false

/-! ### rosetteref05_Make: function 11 -/
mutual
def rosetteref05_Make.l0 : Nat → List (S32) → Int → Option ((List (S32)) × Int)
  | 0, _, _ => none
  | k + 1, x0, x4 => if x4 < (x0.length : Int) then (if 0 ≤ x4 then ((rosetteref05_one.f ((rd_T32 x0 x4).f0) ((rd_T32 x0 x4).f1.f0) ((rd_T32 x0 x4).f1.f1) ((rd_T32 x0 x4).f1.f2)).bind fun t118 => (if t118 = true then (rosetteref05_Make.l0 k x0 (wrap64 (x4 + 1))) else (some (([] : List (S32)), 1)))) else (none)) else (rosetteref05_Make.l1 k x0 ([] : List (S32)) 0)
def rosetteref05_Make.l1 : Nat → List (S32) → List (S32) → Int → Option ((List (S32)) × Int)
  | 0, _, _, _ => none
  | k + 1, x0, x6, x7 => if x7 < (x0.length : Int) then (rosetteref05_Make.l2 k x0 x6 x7 0) else (some (x6, 0))
def rosetteref05_Make.l2 : Nat → List (S32) → List (S32) → Int → Int → Option ((List (S32)) × Int)
  | 0, _, _, _, _ => none
  | k + 1, x0, x6, x7, x8 => if x8 < (x6.length : Int) then (if 0 ≤ x8 then (if 0 ≤ x7 then (if x7 < (x0.length : Int) then ((rosetteref04_Text.f k ((rd_T32 x6 x8).f0) ((rd_T32 x0 x7).f0)).bind fun t121 => (if t121 < 0 then (rosetteref05_Make.l2 k x0 x6 x7 (wrap64 (x8 + 1))) else (if ((rd_T32 x6 x8).f0).toList = ((rd_T32 x0 x7).f0).toList then (some (([] : List (S32)), 8)) else ((some (([] : List (S32)) : List (S32))).bind fun y124 => (if x8 ≤ (x6.length : Int) then ((some (x6.take (x8 : Int).toNat : List (S32))).bind fun y127 => (if y124.length + y127.length < 2932031007402 then ((some (y124 ++ y127 : List (S32))).bind fun y131 => (if y131.length < 2932031007402 then ((some (y131 ++ [(⟨(rd_T32 x0 x7).f0, (⟨(rd_T32 x0 x7).f1.f0, (rd_T32 x0 x7).f1.f1, (rd_T32 x0 x7).f1.f2⟩ : S30)⟩ : S32)] : List (S32))).bind fun y135 => ((some (x6.drop (x8 : Int).toNat : List (S32))).bind fun y138 => (if y135.length + y138.length < 2932031007402 then (rosetteref05_Make.l1 k x0 (y135 ++ y138) (wrap64 (x7 + 1))) else (none)))) else (none))) else (none))) else (none)))))) else (none)) else (none)) else (none)) else ((some (([] : List (S32)) : List (S32))).bind fun y145 => (if 0 ≤ x8 then (if x8 ≤ (x6.length : Int) then ((some (x6.take (x8 : Int).toNat : List (S32))).bind fun y148 => (if y145.length + y148.length < 2932031007402 then ((some (y145 ++ y148 : List (S32))).bind fun y152 => (if 0 ≤ x7 then (if x7 < (x0.length : Int) then (if y152.length < 2932031007402 then ((some (y152 ++ [(⟨(rd_T32 x0 x7).f0, (⟨(rd_T32 x0 x7).f1.f0, (rd_T32 x0 x7).f1.f1, (rd_T32 x0 x7).f1.f2⟩ : S30)⟩ : S32)] : List (S32))).bind fun y156 => ((some (x6.drop (x8 : Int).toNat : List (S32))).bind fun y159 => (if y156.length + y159.length < 2932031007402 then (rosetteref05_Make.l1 k x0 (y156 ++ y159) (wrap64 (x7 + 1))) else (none)))) else (none)) else (none)) else (none))) else (none))) else (none)) else (none)))
end
def rosetteref05_Make.f (k : Nat) (l0 : List (S32)) : Option ((List (S32)) × Int) := if (l0.length : Int) > 24 then (some (([] : List (S32)), 4)) else (rosetteref05_Make.l0 k l0 0)
theorem rosetteref05_Make.mono_l : ∀ k, (∀ y0 y1, LeO (rosetteref05_Make.l0 k y0 y1) (rosetteref05_Make.l0 (k + 1) y0 y1)) ∧ (∀ y0 y1 y2, LeO (rosetteref05_Make.l1 k y0 y1 y2) (rosetteref05_Make.l1 (k + 1) y0 y1 y2)) ∧ (∀ y0 y1 y2 y3, LeO (rosetteref05_Make.l2 k y0 y1 y2 y3) (rosetteref05_Make.l2 (k + 1) y0 y1 y2 y3))
  | 0 => ⟨fun _ _ r h => by simp [rosetteref05_Make.l0] at h, fun _ _ _ r h => by simp [rosetteref05_Make.l1] at h, fun _ _ _ _ r h => by simp [rosetteref05_Make.l2] at h⟩
  | k + 1 => by
    obtain ⟨ih0, ih1, ih2⟩ := rosetteref05_Make.mono_l k
    refine ⟨?_, ?_, ?_⟩
    · intro y0 y1
      unfold rosetteref05_Make.l0
      repeat' first
      | (with_reducible exact ih0 _ _)
      | (with_reducible exact ih1 _ _ _)
      | (with_reducible exact ih2 _ _ _ _)
      | (with_reducible exact rosetteref04_Text.mono _ _ _)
      | (with_reducible exact LeO.refl _)
      | (with_reducible exact LeO.none _)
      | (with_reducible refine LeO.ite ?_ ?_)
      | (with_reducible refine LeO.bind ?_ (fun _ => ?_))
      | exact ih0 _ _
      | exact ih1 _ _ _
      | exact ih2 _ _ _ _
      | exact rosetteref04_Text.mono _ _ _
      | exact LeO.none _
      | refine LeO.ite ?_ ?_
      | refine LeO.bind ?_ (fun _ => ?_)
    · intro y0 y1 y2
      unfold rosetteref05_Make.l1
      repeat' first
      | (with_reducible exact ih0 _ _)
      | (with_reducible exact ih1 _ _ _)
      | (with_reducible exact ih2 _ _ _ _)
      | (with_reducible exact rosetteref04_Text.mono _ _ _)
      | (with_reducible exact LeO.refl _)
      | (with_reducible exact LeO.none _)
      | (with_reducible refine LeO.ite ?_ ?_)
      | (with_reducible refine LeO.bind ?_ (fun _ => ?_))
      | exact ih0 _ _
      | exact ih1 _ _ _
      | exact ih2 _ _ _ _
      | exact rosetteref04_Text.mono _ _ _
      | exact LeO.none _
      | refine LeO.ite ?_ ?_
      | refine LeO.bind ?_ (fun _ => ?_)
    · intro y0 y1 y2 y3
      unfold rosetteref05_Make.l2
      repeat' first
      | (with_reducible exact ih0 _ _)
      | (with_reducible exact ih1 _ _ _)
      | (with_reducible exact ih2 _ _ _ _)
      | (with_reducible exact rosetteref04_Text.mono _ _ _)
      | (with_reducible exact LeO.refl _)
      | (with_reducible exact LeO.none _)
      | (with_reducible refine LeO.ite ?_ ?_)
      | (with_reducible refine LeO.bind ?_ (fun _ => ?_))
      | exact ih0 _ _
      | exact ih1 _ _ _
      | exact ih2 _ _ _ _
      | exact rosetteref04_Text.mono _ _ _
      | exact LeO.none _
      | refine LeO.ite ?_ ?_
      | refine LeO.bind ?_ (fun _ => ?_)
theorem rosetteref05_Make.mono : ∀ a0 k, LeO (rosetteref05_Make.f k a0) (rosetteref05_Make.f (k + 1) a0) := by
  intro a0 k
  obtain ⟨ih0, ih1, ih2⟩ := rosetteref05_Make.mono_l k
  unfold rosetteref05_Make.f
  repeat' first
      | (with_reducible exact ih0 _ _)
      | (with_reducible exact ih1 _ _ _)
      | (with_reducible exact ih2 _ _ _ _)
      | (with_reducible exact rosetteref04_Text.mono _ _ _)
      | (with_reducible exact LeO.refl _)
      | (with_reducible exact LeO.none _)
      | (with_reducible refine LeO.ite ?_ ?_)
      | (with_reducible refine LeO.bind ?_ (fun _ => ?_))
      | exact ih0 _ _
      | exact ih1 _ _ _
      | exact ih2 _ _ _ _
      | exact rosetteref04_Text.mono _ _ _
      | exact LeO.none _
      | refine LeO.ite ?_ ?_
      | refine LeO.bind ?_ (fun _ => ?_)
set_option maxHeartbeats 8000000 in
set_option maxRecDepth 100000 in
theorem rosetteref05_Make.calls (k : Nat) (A0 : Option Addr) (c0 : Nat) (l0 : List (S32)) (r1 : List (S32)) (r2 : Int) (w : World) (hr0 : Kd.C k32 w A0 l0.length l0) (hc0 : l0.length ≤ c0) (h : rosetteref05_Make.f k l0 = some (r1, r2)) :
    Calls Try.prog 11 #[.slice A0 l0.length c0] w fun e w' => ∃ v0_ : Value, e = .returned (.tuple #[v0_, .int .i64 r2]) ∧ Kd.R k32 32 w' w.heap.size (fun _ => True) v0_ r1 ∧ Below w.heap.size w w' := by
  have hu32 := Try.underlying32
  have HR0 := Aside0.mk hr0
  have HC0 := Aside0.mk hc0
  clear hr0 hc0
  have HB := Aside0.mk (Below.refl w.heap.size w)
  have H : (if (l0.length : Int) > 24 then (some (([] : List (S32)), 4)) else (rosetteref05_Make.l0 k l0 0)) = some (r1, r2) := h
  clear h
  by_cases c2 : (l0.length : Int) > 24
  · rw [if_pos c2] at H
    have c2b0 : decide (24 < (l0.length : Int)) = true := decide_eq_true c2
    have c2b1 : decide (24 < l0.length) = true := decide_eq_true (by omega)
    clear c2
    simp only [Option.some.injEq, Prod.mk.injEq] at H
    obtain ⟨rfl, rfl⟩ := H
    go_enter Try.func11, Try.ntmps11
    go_wp2
    repeat (go_quiet (fail); try go_wp2)
    go_ret2
    exact ⟨_, by first | rfl | (simp [errW_none, errW_some] <;> rfl) | (simp [*, errW_none, errW_some] <;> rfl), by first | exact Kd.R_nil _ _ _ _ _ | exact Kd.N_nil _ _ _ _ _ | exact Kd.V_nil _ _ _ _ _ | exact Kd.Q_nil _ _ _ _ _ | exact Kd.S_nil _ _ _ _ _, by repeat (first | (with_reducible first | exact HB.out | apply below_alloc | apply pw_below_drewN | apply below_drew1) | exact HB.out)⟩
  · rw [if_neg c2] at H
    have c2b0 : decide (24 < (l0.length : Int)) = false := decide_eq_false c2
    have c2b1 : decide (24 < l0.length) = false := decide_eq_false (by omega)
    clear c2
    have H' := Aside0.mk H
    clear H
    go_enter Try.func11, Try.ntmps11
    go_wp2
    repeat (go_quiet (fail); try go_wp2)
    go_loopg [4] k (fun kq v4 w' => ∃ (x4_1 : Int), v4 = .int .i64 x4_1 ∧ Aside0 (rosetteref05_Make.l0 kq l0 x4_1 = some (r1, r2)) ∧ Aside0 (kq ≤ k) ∧ Aside0 (Below w.heap.size w w'))
    case atStart => exact ⟨(0), (by first | rfl | (simp; done) | (simp [*]; done)), H', ⟨Nat.le_refl _⟩, ⟨by repeat (first | (with_reducible first | exact HB.out | apply below_alloc | apply pw_below_drewN | apply below_drew1) | exact HB.out)⟩⟩
    case round =>
      clear H'
      try clear c1
      try clear c2
      try clear c2b0
      try clear c2b1
      try clear p2
      obtain ⟨x4_1, rfl, HA, HK1, HB⟩ := hrel
      cases gk with
      | zero => exact absurd HA.out (by simp [rosetteref05_Make.l0])
      | succ k1 =>
        have H := HA.out
        clear HA
        simp only [rosetteref05_Make.l0] at H
        by_cases c3 : x4_1 < (l0.length : Int)
        · rw [if_pos c3] at H
          have c3b0 : decide (x4_1 < (l0.length : Int)) = true := decide_eq_true c3
          clear c3
          by_cases c4 : 0 ≤ x4_1
          · rw [if_pos c4] at H
            have c4b0 : decide (0 ≤ x4_1) = true := decide_eq_true c4
            clear c4
            replace H := Option.bind_eq_some_iff.mp H
            obtain ⟨t118, A50, H⟩ := H
            replace H : (if t118 = true then (rosetteref05_Make.l0 k1 l0 (wrap64 (x4_1 + 1))) else (some (([] : List (S32)), 1))) = some (r1, r2) := H
            have A5 := Aside0.mk A50
            clear A50
            by_cases c6 : t118 = true
            · subst c6
              have H1 : (rosetteref05_Make.l0 k1 l0 (wrap64 (x4_1 + 1))) = some (r1, r2) := by rw [if_pos rfl] at H; exact H
              clear H
              have H := H1
              clear H1
              have H' := Aside0.mk H
              clear H
              have p117 : 0 ≤ (x4_1 : Int) := of_decide_eq_true (by first | (with_reducible assumption) | assumption)
              have q117 : x4_1 < (l0.length : Int) := of_decide_eq_true (by first | (with_reducible assumption) | assumption)
              obtain ⟨ad117, e117, hx117_0, hx117_1, hx117_2, hx117_3⟩ := at_T32 HR0.out x4_1 p117 q117
              cases e117
              replace hx117_0 := (HB.out.cell (World.block_lt_of_cell? w _ hx117_0)).trans hx117_0
              replace hx117_1 := (HB.out.cell (World.block_lt_of_cell? w _ hx117_1)).trans hx117_1
              replace hx117_2 := (HB.out.cell (World.block_lt_of_cell? w _ hx117_2)).trans hx117_2
              replace hx117_3 := (HB.out.cell (World.block_lt_of_cell? w _ hx117_3)).trans hx117_3
              replace p117 := eq_true p117
              replace q117 := eq_true q117
              go_wp2_with (first | (go_at_call 24; (with_reducible refine (rosetteref05_one.calls ((rd_T32 l0 x4_1).f0) ((rd_T32 l0 x4_1).f1.f0) ((rd_T32 l0 x4_1).f1.f1) ((rd_T32 l0 x4_1).f1.f2) true _ A5.out).mono ?_); rintro e w7 ⟨rfl, hb⟩; have n0_ := Aside0.mk (below_step (by repeat (first | (with_reducible first | exact HB.out | apply below_alloc | apply pw_below_drewN | apply below_drew1) | exact HB.out)) hb); clear HB; have HB := n0_; clear n0_; (try clear hb); (try clear hb2); (try clear hk); (try clear hi)))
              repeat (go_quiet (first | (go_at_call 24; (with_reducible refine (rosetteref05_one.calls ((rd_T32 l0 x4_1).f0) ((rd_T32 l0 x4_1).f1.f0) ((rd_T32 l0 x4_1).f1.f1) ((rd_T32 l0 x4_1).f1.f2) true _ A5.out).mono ?_); rintro e w7 ⟨rfl, hb⟩; have n0_ := Aside0.mk (below_step (by repeat (first | (with_reducible first | exact HB.out | apply below_alloc | apply pw_below_drewN | apply below_drew1) | exact HB.out)) hb); clear HB; have HB := n0_; clear n0_; (try clear hb); (try clear hb2); (try clear hk); (try clear hi))); try go_wp2_with (first | (go_at_call 24; (with_reducible refine (rosetteref05_one.calls ((rd_T32 l0 x4_1).f0) ((rd_T32 l0 x4_1).f1.f0) ((rd_T32 l0 x4_1).f1.f1) ((rd_T32 l0 x4_1).f1.f2) true _ A5.out).mono ?_); rintro e w7 ⟨rfl, hb⟩; have n0_ := Aside0.mk (below_step (by repeat (first | (with_reducible first | exact HB.out | apply below_alloc | apply pw_below_drewN | apply below_drew1) | exact HB.out)) hb); clear HB; have HB := n0_; clear n0_; (try clear hb); (try clear hb2); (try clear hk); (try clear hi))))
              go_roundg k1
              case measure => have := HK1.out; omega
              case rel => exact ⟨(wrap64 (x4_1 + 1)), (by first | rfl | (simp; done) | (simp [*]; done)), H', ⟨by have := HK1.out; omega⟩, ⟨by repeat (first | (with_reducible first | exact HB.out | apply below_alloc | apply pw_below_drewN | apply below_drew1) | exact HB.out)⟩⟩
            · replace c6 := Bool.eq_false_iff.mpr c6
              subst c6
              have H1 : (some (([] : List (S32)), 1)) = some (r1, r2) := by rw [if_neg (show ¬ (false = true) by decide)] at H; exact H
              clear H
              have H := H1
              clear H1
              simp only [Option.some.injEq, Prod.mk.injEq] at H
              obtain ⟨rfl, rfl⟩ := H
              have p117 : 0 ≤ (x4_1 : Int) := of_decide_eq_true (by first | (with_reducible assumption) | assumption)
              have q117 : x4_1 < (l0.length : Int) := of_decide_eq_true (by first | (with_reducible assumption) | assumption)
              obtain ⟨ad117, e117, hx117_0, hx117_1, hx117_2, hx117_3⟩ := at_T32 HR0.out x4_1 p117 q117
              cases e117
              replace hx117_0 := (HB.out.cell (World.block_lt_of_cell? w _ hx117_0)).trans hx117_0
              replace hx117_1 := (HB.out.cell (World.block_lt_of_cell? w _ hx117_1)).trans hx117_1
              replace hx117_2 := (HB.out.cell (World.block_lt_of_cell? w _ hx117_2)).trans hx117_2
              replace hx117_3 := (HB.out.cell (World.block_lt_of_cell? w _ hx117_3)).trans hx117_3
              replace p117 := eq_true p117
              replace q117 := eq_true q117
              go_wp2_with (first | (go_at_call 24; (with_reducible refine (rosetteref05_one.calls ((rd_T32 l0 x4_1).f0) ((rd_T32 l0 x4_1).f1.f0) ((rd_T32 l0 x4_1).f1.f1) ((rd_T32 l0 x4_1).f1.f2) false _ A5.out).mono ?_); rintro e w8 ⟨rfl, hb⟩; have n0_ := Aside0.mk (below_step (by repeat (first | (with_reducible first | exact HB.out | apply below_alloc | apply pw_below_drewN | apply below_drew1) | exact HB.out)) hb); clear HB; have HB := n0_; clear n0_; (try clear hb); (try clear hb2); (try clear hk); (try clear hi)))
              repeat (go_quiet (first | (go_at_call 24; (with_reducible refine (rosetteref05_one.calls ((rd_T32 l0 x4_1).f0) ((rd_T32 l0 x4_1).f1.f0) ((rd_T32 l0 x4_1).f1.f1) ((rd_T32 l0 x4_1).f1.f2) false _ A5.out).mono ?_); rintro e w8 ⟨rfl, hb⟩; have n0_ := Aside0.mk (below_step (by repeat (first | (with_reducible first | exact HB.out | apply below_alloc | apply pw_below_drewN | apply below_drew1) | exact HB.out)) hb); clear HB; have HB := n0_; clear n0_; (try clear hb); (try clear hb2); (try clear hk); (try clear hi))); try go_wp2_with (first | (go_at_call 24; (with_reducible refine (rosetteref05_one.calls ((rd_T32 l0 x4_1).f0) ((rd_T32 l0 x4_1).f1.f0) ((rd_T32 l0 x4_1).f1.f1) ((rd_T32 l0 x4_1).f1.f2) false _ A5.out).mono ?_); rintro e w8 ⟨rfl, hb⟩; have n0_ := Aside0.mk (below_step (by repeat (first | (with_reducible first | exact HB.out | apply below_alloc | apply pw_below_drewN | apply below_drew1) | exact HB.out)) hb); clear HB; have HB := n0_; clear n0_; (try clear hb); (try clear hb2); (try clear hk); (try clear hi))))
              go_ret2
              exact ⟨_, by first | rfl | (simp [errW_none, errW_some] <;> rfl) | (simp [*, errW_none, errW_some] <;> rfl), by first | exact Kd.R_nil _ _ _ _ _ | exact Kd.N_nil _ _ _ _ _ | exact Kd.V_nil _ _ _ _ _ | exact Kd.Q_nil _ _ _ _ _ | exact Kd.S_nil _ _ _ _ _, by repeat (first | (with_reducible first | exact HB.out | apply below_alloc | apply pw_below_drewN | apply below_drew1) | exact HB.out)⟩
          · rw [if_neg c4] at H
            exact absurd H (by simp)
        · rw [if_neg c3] at H
          have c3b0 : decide (x4_1 < (l0.length : Int)) = false := decide_eq_false c3
          clear c3
          have H' := Aside0.mk H
          clear H
          go_wp2
          repeat (go_quiet (fail); try go_wp2)
          go_loopg [6, 7] k1 (fun kq v6 v7 w' => ∃ (x6_2 : List (S32)) (x7_2 : Int), v7 = .int .i64 x7_2 ∧ Aside0 (rosetteref05_Make.l1 kq l0 x6_2 x7_2 = some (r1, r2)) ∧ Aside0 (kq ≤ k1) ∧ Aside0 (Kd.R k32 32 w' w.heap.size (fun _ => True) v6 x6_2) ∧ Aside0 (Below w.heap.size w w'))
          case atStart => exact ⟨(([] : List (S32))), (0), (by first | rfl | (simp; done) | (simp [*]; done)), H', ⟨Nat.le_refl _⟩, ⟨by first | exact Kd.R_nil _ _ _ _ _ | exact Kd.N_nil _ _ _ _ _ | exact Kd.V_nil _ _ _ _ _ | exact Kd.Q_nil _ _ _ _ _ | exact Kd.S_nil _ _ _ _ _⟩, ⟨by repeat (first | (with_reducible first | exact HB.out | apply below_alloc | apply pw_below_drewN | apply below_drew1) | exact HB.out)⟩⟩
          case round =>
            clear H'
            try clear c1
            try clear p1
            try clear q1
            try clear hx1
            try clear c2
            try clear c2b0
            try clear c2b1
            try clear p2
            try clear c3
            try clear c3b0
            try clear c4
            try clear c4b0
            try clear c6
            try clear p6
            try clear hx117_0
            try clear hx117_1
            try clear hx117_2
            try clear hx117_3
            try clear p117
            try clear p2
            try clear q117
            obtain ⟨x6_2, x7_2, rfl, HA, HK2, HO_6, HB⟩ := hrel
            cases gk with
            | zero => exact absurd HA.out (by simp [rosetteref05_Make.l1])
            | succ k2 =>
              have H := HA.out
              clear HA
              simp only [rosetteref05_Make.l1] at H
              by_cases c9 : x7_2 < (l0.length : Int)
              · rw [if_pos c9] at H
                have c9b0 : decide (x7_2 < (l0.length : Int)) = true := decide_eq_true c9
                clear c9
                have H' := Aside0.mk H
                clear H
                go_wp2
                repeat (go_quiet (fail); try go_wp2)
                go_loopg [8] k2 (fun kq v8 w' => ∃ (x8_3 : Int), v8 = .int .i64 x8_3 ∧ Aside0 (rosetteref05_Make.l2 kq l0 x6_2 x7_2 x8_3 = some (r1, r2)) ∧ Aside0 (kq ≤ k2) ∧ Aside0 (Kd.R k32 32 w' w.heap.size (fun _ => True) u6 x6_2) ∧ Aside0 (Below w.heap.size w w'))
                case atStart => exact ⟨(0), (by first | rfl | (simp; done) | (simp [*]; done)), H', ⟨Nat.le_refl _⟩, ⟨by (with_reducible repeat (first | apply Kd.R_alloc | apply Kd.R_drewN | apply Kd.R_drew)); exact HO_6.out⟩, ⟨by repeat (first | (with_reducible first | exact HB.out | apply below_alloc | apply pw_below_drewN | apply below_drew1) | exact HB.out)⟩⟩
                case round =>
                  clear H'
                  try clear c1
                  try clear p1
                  try clear q1
                  try clear hx1
                  try clear c2
                  try clear c2b0
                  try clear c2b1
                  try clear p2
                  try clear c3
                  try clear c3b0
                  try clear c4
                  try clear c4b0
                  try clear c6
                  try clear p6
                  try clear c9
                  try clear c9b0
                  try clear hx117_0
                  try clear hx117_1
                  try clear hx117_2
                  try clear hx117_3
                  try clear p1
                  try clear p117
                  try clear p2
                  try clear p6
                  try clear q1
                  try clear q117
                  obtain ⟨x8_3, rfl, HA, HK3, HO_6, HB⟩ := hrel
                  cases gk with
                  | zero => exact absurd HA.out (by simp [rosetteref05_Make.l2])
                  | succ k3 =>
                    have H := HA.out
                    clear HA
                    simp only [rosetteref05_Make.l2] at H
                    by_cases c10 : x8_3 < (x6_2.length : Int)
                    · rw [if_pos c10] at H
                      have c10b0 : decide (x8_3 < (x6_2.length : Int)) = true := decide_eq_true c10
                      clear c10
                      by_cases c11 : 0 ≤ x8_3
                      · rw [if_pos c11] at H
                        have c11b0 : decide (0 ≤ x8_3) = true := decide_eq_true c11
                        clear c11
                        by_cases c12 : 0 ≤ x7_2
                        · rw [if_pos c12] at H
                          have c12b0 : decide (0 ≤ x7_2) = true := decide_eq_true c12
                          clear c12
                          by_cases c13 : x7_2 < (l0.length : Int)
                          · rw [if_pos c13] at H
                            have c13b0 : decide (x7_2 < (l0.length : Int)) = true := decide_eq_true c13
                            clear c13
                            replace H := Option.bind_eq_some_iff.mp H
                            obtain ⟨t121, A140, H⟩ := H
                            replace H : (if t121 < 0 then (rosetteref05_Make.l2 k3 l0 x6_2 x7_2 (wrap64 (x8_3 + 1))) else (if ((rd_T32 x6_2 x8_3).f0).toList = ((rd_T32 l0 x7_2).f0).toList then (some (([] : List (S32)), 8)) else ((some (([] : List (S32)) : List (S32))).bind fun y124 => (if x8_3 ≤ (x6_2.length : Int) then ((some (x6_2.take (x8_3 : Int).toNat : List (S32))).bind fun y127 => (if y124.length + y127.length < 2932031007402 then ((some (y124 ++ y127 : List (S32))).bind fun y131 => (if y131.length < 2932031007402 then ((some (y131 ++ [(⟨(rd_T32 l0 x7_2).f0, (⟨(rd_T32 l0 x7_2).f1.f0, (rd_T32 l0 x7_2).f1.f1, (rd_T32 l0 x7_2).f1.f2⟩ : S30)⟩ : S32)] : List (S32))).bind fun y135 => ((some (x6_2.drop (x8_3 : Int).toNat : List (S32))).bind fun y138 => (if y135.length + y138.length < 2932031007402 then (rosetteref05_Make.l1 k3 l0 (y135 ++ y138) (wrap64 (x7_2 + 1))) else (none)))) else (none))) else (none))) else (none))))) = some (r1, r2) := H
                            have A14 := Aside0.mk A140
                            clear A140
                            by_cases c15 : t121 < 0
                            · rw [if_pos c15] at H
                              have c15b0 : decide (t121 < 0) = true := decide_eq_true c15
                              clear c15
                              have H' := Aside0.mk H
                              clear H
                              obtain ⟨Ao16, co16, eo16⟩ := Kd.R_slice HO_6.out
                              subst eo16
                              have p119 : 0 ≤ (x8_3 : Int) := of_decide_eq_true (by first | (with_reducible assumption) | assumption)
                              have q119 : x8_3 < (x6_2.length : Int) := of_decide_eq_true (by first | (with_reducible assumption) | assumption)
                              obtain ⟨ad119, e119, hx119_0, hx119_1, hx119_2, hx119_3⟩ := at_T32 (Kd.R_reads' HO_6.out).2.2 x8_3 p119 q119
                              cases e119
                              replace p119 := eq_true p119
                              replace q119 := eq_true q119
                              have p120 : 0 ≤ (x7_2 : Int) := of_decide_eq_true (by first | (with_reducible assumption) | assumption)
                              have q120 : x7_2 < (l0.length : Int) := of_decide_eq_true (by first | (with_reducible assumption) | assumption)
                              obtain ⟨ad120, e120, hx120_0, hx120_1, hx120_2, hx120_3⟩ := at_T32 HR0.out x7_2 p120 q120
                              cases e120
                              replace hx120_0 := (HB.out.cell (World.block_lt_of_cell? w _ hx120_0)).trans hx120_0
                              replace hx120_1 := (HB.out.cell (World.block_lt_of_cell? w _ hx120_1)).trans hx120_1
                              replace hx120_2 := (HB.out.cell (World.block_lt_of_cell? w _ hx120_2)).trans hx120_2
                              replace hx120_3 := (HB.out.cell (World.block_lt_of_cell? w _ hx120_3)).trans hx120_3
                              replace p120 := eq_true p120
                              replace q120 := eq_true q120
                              go_wp2_with (first | (go_at_call 25; (with_reducible refine (rosetteref04_Text.calls k3 ((rd_T32 x6_2 x8_3).f0) ((rd_T32 l0 x7_2).f0) t121 _ A14.out).mono ?_); rintro e w' ⟨rfl, ⟨nd, rfl⟩⟩; (try first | exact ⟨rfl, _, World.drewN_drewN _ _ _⟩ | exact ⟨rfl, _, Eq.trans (World.drewN_drewN _ _ _) (congrArg (World.drewN _) (Nat.add_assoc _ _ _))⟩)))
                              repeat (go_quiet (first | (go_at_call 25; (with_reducible refine (rosetteref04_Text.calls k3 ((rd_T32 x6_2 x8_3).f0) ((rd_T32 l0 x7_2).f0) t121 _ A14.out).mono ?_); rintro e w' ⟨rfl, ⟨nd, rfl⟩⟩; (try first | exact ⟨rfl, _, World.drewN_drewN _ _ _⟩ | exact ⟨rfl, _, Eq.trans (World.drewN_drewN _ _ _) (congrArg (World.drewN _) (Nat.add_assoc _ _ _))⟩))); try go_wp2_with (first | (go_at_call 25; (with_reducible refine (rosetteref04_Text.calls k3 ((rd_T32 x6_2 x8_3).f0) ((rd_T32 l0 x7_2).f0) t121 _ A14.out).mono ?_); rintro e w' ⟨rfl, ⟨nd, rfl⟩⟩; (try first | exact ⟨rfl, _, World.drewN_drewN _ _ _⟩ | exact ⟨rfl, _, Eq.trans (World.drewN_drewN _ _ _) (congrArg (World.drewN _) (Nat.add_assoc _ _ _))⟩))))
                              go_roundg k3
                              case measure => have := HK1.out; have := HK2.out; have := HK3.out; omega
                              case rel => exact ⟨(wrap64 (x8_3 + 1)), (by first | rfl | (simp; done) | (simp [*]; done)), H', ⟨by have := HK1.out; have := HK2.out; have := HK3.out; omega⟩, ⟨by (with_reducible repeat (first | apply Kd.R_alloc | apply Kd.R_drewN | apply Kd.R_drew)); exact HO_6.out⟩, ⟨by repeat (first | (with_reducible first | exact HB.out | apply below_alloc | apply pw_below_drewN | apply below_drew1) | exact HB.out)⟩⟩
                            · rw [if_neg c15] at H
                              have c15b0 : decide (t121 < 0) = false := decide_eq_false c15
                              clear c15
                              by_cases c17 : ((rd_T32 x6_2 x8_3).f0).toList = ((rd_T32 l0 x7_2).f0).toList
                              · rw [if_pos c17] at H
                                have c17b0 : (((rd_T32 x6_2 x8_3).f0).toList == ((rd_T32 l0 x7_2).f0).toList) = true := beq_iff_eq.mpr c17
                                have c17b1 : (((rd_T32 x6_2 x8_3).f0).toList != ((rd_T32 l0 x7_2).f0).toList) = false := bne_eq_false_iff_eq.mpr c17
                                clear c17
                                simp only [Option.some.injEq, Prod.mk.injEq] at H
                                obtain ⟨rfl, rfl⟩ := H
                                obtain ⟨Ao18, co18, eo18⟩ := Kd.R_slice HO_6.out
                                subst eo18
                                have p119 : 0 ≤ (x8_3 : Int) := of_decide_eq_true (by first | (with_reducible assumption) | assumption)
                                have q119 : x8_3 < (x6_2.length : Int) := of_decide_eq_true (by first | (with_reducible assumption) | assumption)
                                obtain ⟨ad119, e119, hx119_0, hx119_1, hx119_2, hx119_3⟩ := at_T32 (Kd.R_reads' HO_6.out).2.2 x8_3 p119 q119
                                cases e119
                                replace p119 := eq_true p119
                                replace q119 := eq_true q119
                                have p120 : 0 ≤ (x7_2 : Int) := of_decide_eq_true (by first | (with_reducible assumption) | assumption)
                                have q120 : x7_2 < (l0.length : Int) := of_decide_eq_true (by first | (with_reducible assumption) | assumption)
                                obtain ⟨ad120, e120, hx120_0, hx120_1, hx120_2, hx120_3⟩ := at_T32 HR0.out x7_2 p120 q120
                                cases e120
                                replace hx120_0 := (HB.out.cell (World.block_lt_of_cell? w _ hx120_0)).trans hx120_0
                                replace hx120_1 := (HB.out.cell (World.block_lt_of_cell? w _ hx120_1)).trans hx120_1
                                replace hx120_2 := (HB.out.cell (World.block_lt_of_cell? w _ hx120_2)).trans hx120_2
                                replace hx120_3 := (HB.out.cell (World.block_lt_of_cell? w _ hx120_3)).trans hx120_3
                                replace p120 := eq_true p120
                                replace q120 := eq_true q120
                                go_wp2_with (first | (go_at_call 25; (with_reducible refine (rosetteref04_Text.calls k3 ((rd_T32 x6_2 x8_3).f0) ((rd_T32 l0 x7_2).f0) t121 _ A14.out).mono ?_); rintro e w' ⟨rfl, ⟨nd, rfl⟩⟩; (try first | exact ⟨rfl, _, World.drewN_drewN _ _ _⟩ | exact ⟨rfl, _, Eq.trans (World.drewN_drewN _ _ _) (congrArg (World.drewN _) (Nat.add_assoc _ _ _))⟩); have p122 : 0 ≤ (x8_3 : Int) := of_decide_eq_true (by first | (with_reducible assumption) | assumption); have q122 : x8_3 < (x6_2.length : Int) := of_decide_eq_true (by first | (with_reducible assumption) | assumption); obtain ⟨ad122, e122, hx122_0, hx122_1, hx122_2, hx122_3⟩ := at_T32 (Kd.R_reads' HO_6.out).2.2 x8_3 p122 q122; obtain rfl : ad119 = ad122 := (by injection e122); replace p122 := eq_true p122; replace q122 := eq_true q122; have p123 : 0 ≤ (x7_2 : Int) := of_decide_eq_true (by first | (with_reducible assumption) | assumption); have q123 : x7_2 < (l0.length : Int) := of_decide_eq_true (by first | (with_reducible assumption) | assumption); obtain ⟨ad123, e123, hx123_0, hx123_1, hx123_2, hx123_3⟩ := at_T32 HR0.out x7_2 p123 q123; obtain rfl : ad120 = ad123 := (by injection e123); replace hx123_0 := (HB.out.cell (World.block_lt_of_cell? w _ hx123_0)).trans hx123_0; replace hx123_1 := (HB.out.cell (World.block_lt_of_cell? w _ hx123_1)).trans hx123_1; replace hx123_2 := (HB.out.cell (World.block_lt_of_cell? w _ hx123_2)).trans hx123_2; replace hx123_3 := (HB.out.cell (World.block_lt_of_cell? w _ hx123_3)).trans hx123_3; replace p123 := eq_true p123; replace q123 := eq_true q123))
                                repeat (go_quiet (first | (go_at_call 25; (with_reducible refine (rosetteref04_Text.calls k3 ((rd_T32 x6_2 x8_3).f0) ((rd_T32 l0 x7_2).f0) t121 _ A14.out).mono ?_); rintro e w' ⟨rfl, ⟨nd, rfl⟩⟩; (try first | exact ⟨rfl, _, World.drewN_drewN _ _ _⟩ | exact ⟨rfl, _, Eq.trans (World.drewN_drewN _ _ _) (congrArg (World.drewN _) (Nat.add_assoc _ _ _))⟩); have p122 : 0 ≤ (x8_3 : Int) := of_decide_eq_true (by first | (with_reducible assumption) | assumption); have q122 : x8_3 < (x6_2.length : Int) := of_decide_eq_true (by first | (with_reducible assumption) | assumption); obtain ⟨ad122, e122, hx122_0, hx122_1, hx122_2, hx122_3⟩ := at_T32 (Kd.R_reads' HO_6.out).2.2 x8_3 p122 q122; obtain rfl : ad119 = ad122 := (by injection e122); replace p122 := eq_true p122; replace q122 := eq_true q122; have p123 : 0 ≤ (x7_2 : Int) := of_decide_eq_true (by first | (with_reducible assumption) | assumption); have q123 : x7_2 < (l0.length : Int) := of_decide_eq_true (by first | (with_reducible assumption) | assumption); obtain ⟨ad123, e123, hx123_0, hx123_1, hx123_2, hx123_3⟩ := at_T32 HR0.out x7_2 p123 q123; obtain rfl : ad120 = ad123 := (by injection e123); replace hx123_0 := (HB.out.cell (World.block_lt_of_cell? w _ hx123_0)).trans hx123_0; replace hx123_1 := (HB.out.cell (World.block_lt_of_cell? w _ hx123_1)).trans hx123_1; replace hx123_2 := (HB.out.cell (World.block_lt_of_cell? w _ hx123_2)).trans hx123_2; replace hx123_3 := (HB.out.cell (World.block_lt_of_cell? w _ hx123_3)).trans hx123_3; replace p123 := eq_true p123; replace q123 := eq_true q123)); try go_wp2_with (first | (go_at_call 25; (with_reducible refine (rosetteref04_Text.calls k3 ((rd_T32 x6_2 x8_3).f0) ((rd_T32 l0 x7_2).f0) t121 _ A14.out).mono ?_); rintro e w' ⟨rfl, ⟨nd, rfl⟩⟩; (try first | exact ⟨rfl, _, World.drewN_drewN _ _ _⟩ | exact ⟨rfl, _, Eq.trans (World.drewN_drewN _ _ _) (congrArg (World.drewN _) (Nat.add_assoc _ _ _))⟩); have p122 : 0 ≤ (x8_3 : Int) := of_decide_eq_true (by first | (with_reducible assumption) | assumption); have q122 : x8_3 < (x6_2.length : Int) := of_decide_eq_true (by first | (with_reducible assumption) | assumption); obtain ⟨ad122, e122, hx122_0, hx122_1, hx122_2, hx122_3⟩ := at_T32 (Kd.R_reads' HO_6.out).2.2 x8_3 p122 q122; obtain rfl : ad119 = ad122 := (by injection e122); replace p122 := eq_true p122; replace q122 := eq_true q122; have p123 : 0 ≤ (x7_2 : Int) := of_decide_eq_true (by first | (with_reducible assumption) | assumption); have q123 : x7_2 < (l0.length : Int) := of_decide_eq_true (by first | (with_reducible assumption) | assumption); obtain ⟨ad123, e123, hx123_0, hx123_1, hx123_2, hx123_3⟩ := at_T32 HR0.out x7_2 p123 q123; obtain rfl : ad120 = ad123 := (by injection e123); replace hx123_0 := (HB.out.cell (World.block_lt_of_cell? w _ hx123_0)).trans hx123_0; replace hx123_1 := (HB.out.cell (World.block_lt_of_cell? w _ hx123_1)).trans hx123_1; replace hx123_2 := (HB.out.cell (World.block_lt_of_cell? w _ hx123_2)).trans hx123_2; replace hx123_3 := (HB.out.cell (World.block_lt_of_cell? w _ hx123_3)).trans hx123_3; replace p123 := eq_true p123; replace q123 := eq_true q123)))
                                go_ret2
                                exact ⟨_, by first | rfl | (simp [errW_none, errW_some] <;> rfl) | (simp [*, errW_none, errW_some] <;> rfl), by first | exact Kd.R_nil _ _ _ _ _ | exact Kd.N_nil _ _ _ _ _ | exact Kd.V_nil _ _ _ _ _ | exact Kd.Q_nil _ _ _ _ _ | exact Kd.S_nil _ _ _ _ _, by repeat (first | (with_reducible first | exact HB.out | apply below_alloc | apply pw_below_drewN | apply below_drew1) | exact HB.out)⟩
                              · rw [if_neg c17] at H
                                have c17b0 : (((rd_T32 x6_2 x8_3).f0).toList == ((rd_T32 l0 x7_2).f0).toList) = false := beq_eq_false_iff_ne.mpr c17
                                have c17b1 : (((rd_T32 x6_2 x8_3).f0).toList != ((rd_T32 l0 x7_2).f0).toList) = true := bne_iff_ne.mpr c17
                                obtain ⟨y124, hy124⟩ : ∃ y_ : List (S32), y_ = (([] : List (S32))) := ⟨_, rfl⟩
                                replace H : (if x8_3 ≤ (x6_2.length : Int) then ((some (x6_2.take (x8_3 : Int).toNat : List (S32))).bind fun y127 => (if y124.length + y127.length < 2932031007402 then ((some (y124 ++ y127 : List (S32))).bind fun y131 => (if y131.length < 2932031007402 then ((some (y131 ++ [(⟨(rd_T32 l0 x7_2).f0, (⟨(rd_T32 l0 x7_2).f1.f0, (rd_T32 l0 x7_2).f1.f1, (rd_T32 l0 x7_2).f1.f2⟩ : S30)⟩ : S32)] : List (S32))).bind fun y135 => ((some (x6_2.drop (x8_3 : Int).toNat : List (S32))).bind fun y138 => (if y135.length + y138.length < 2932031007402 then (rosetteref05_Make.l1 k3 l0 (y135 ++ y138) (wrap64 (x7_2 + 1))) else (none)))) else (none))) else (none))) else (none)) = some (r1, r2) := by first | (rw [hy124]; with_reducible exact H) | (have H2_ := (Option.bind_some _ _).symm.trans H; rw [hy124]; with_reducible exact H2_) | (have H2_ := (Option.bind_some _ _).symm.trans H; with_reducible exact H2_) | with_reducible exact H | (rw [hy124]; exact H) | exact H
                                have Ny124 := Aside0.mk hy124
                                clear hy124
                                have c19b0 := eq_true (of_decide_eq_true (by first | (with_reducible assumption) | assumption) : 0 ≤ x8_3)
                                by_cases c20 : x8_3 ≤ (x6_2.length : Int)
                                · rw [if_pos c20] at H
                                  have c20b0 := eq_true c20
                                  have c20b1 : decide (x8_3 ≤ (x6_2.length : Int)) = true := decide_eq_true c20
                                  clear c20
                                  obtain ⟨y127, hy127⟩ : ∃ y_ : List (S32), y_ = (x6_2.take (x8_3 : Int).toNat) := ⟨_, rfl⟩
                                  replace H : (if y124.length + y127.length < 2932031007402 then ((some (y124 ++ y127 : List (S32))).bind fun y131 => (if y131.length < 2932031007402 then ((some (y131 ++ [(⟨(rd_T32 l0 x7_2).f0, (⟨(rd_T32 l0 x7_2).f1.f0, (rd_T32 l0 x7_2).f1.f1, (rd_T32 l0 x7_2).f1.f2⟩ : S30)⟩ : S32)] : List (S32))).bind fun y135 => ((some (x6_2.drop (x8_3 : Int).toNat : List (S32))).bind fun y138 => (if y135.length + y138.length < 2932031007402 then (rosetteref05_Make.l1 k3 l0 (y135 ++ y138) (wrap64 (x7_2 + 1))) else (none)))) else (none))) else (none)) = some (r1, r2) := by first | (rw [hy127]; with_reducible exact H) | (have H2_ := (Option.bind_some _ _).symm.trans H; rw [hy127]; with_reducible exact H2_) | (have H2_ := (Option.bind_some _ _).symm.trans H; with_reducible exact H2_) | with_reducible exact H | (rw [hy127]; exact H) | exact H
                                  have Ny127 := Aside0.mk hy127
                                  clear hy127
                                  by_cases c21 : y124.length + y127.length < 2932031007402
                                  · rw [if_pos c21] at H
                                    have LMc21 := Aside0.mk c21
                                    clear c21
                                    obtain ⟨y131, hy131⟩ : ∃ y_ : List (S32), y_ = (y124 ++ y127) := ⟨_, rfl⟩
                                    replace H : (if y131.length < 2932031007402 then ((some (y131 ++ [(⟨(rd_T32 l0 x7_2).f0, (⟨(rd_T32 l0 x7_2).f1.f0, (rd_T32 l0 x7_2).f1.f1, (rd_T32 l0 x7_2).f1.f2⟩ : S30)⟩ : S32)] : List (S32))).bind fun y135 => ((some (x6_2.drop (x8_3 : Int).toNat : List (S32))).bind fun y138 => (if y135.length + y138.length < 2932031007402 then (rosetteref05_Make.l1 k3 l0 (y135 ++ y138) (wrap64 (x7_2 + 1))) else (none)))) else (none)) = some (r1, r2) := by first | (rw [hy131]; with_reducible exact H) | (have H2_ := (Option.bind_some _ _).symm.trans H; rw [hy131]; with_reducible exact H2_) | (have H2_ := (Option.bind_some _ _).symm.trans H; with_reducible exact H2_) | with_reducible exact H | (rw [hy131]; exact H) | exact H
                                    have Ny131 := Aside0.mk hy131
                                    clear hy131
                                    by_cases c22 : y131.length < 2932031007402
                                    · rw [if_pos c22] at H
                                      have LMc22 := Aside0.mk c22
                                      clear c22
                                      obtain ⟨y135, hy135⟩ : ∃ y_ : List (S32), y_ = (y131 ++ [(⟨(rd_T32 l0 x7_2).f0, (⟨(rd_T32 l0 x7_2).f1.f0, (rd_T32 l0 x7_2).f1.f1, (rd_T32 l0 x7_2).f1.f2⟩ : S30)⟩ : S32)]) := ⟨_, rfl⟩
                                      replace H : ((some (x6_2.drop (x8_3 : Int).toNat : List (S32))).bind fun y138 => (if y135.length + y138.length < 2932031007402 then (rosetteref05_Make.l1 k3 l0 (y135 ++ y138) (wrap64 (x7_2 + 1))) else (none))) = some (r1, r2) := by first | (rw [hy135]; with_reducible exact H) | (have H2_ := (Option.bind_some _ _).symm.trans H; rw [hy135]; with_reducible exact H2_) | (have H2_ := (Option.bind_some _ _).symm.trans H; with_reducible exact H2_) | with_reducible exact H | (rw [hy135]; exact H) | exact H
                                      have Ny135 := Aside0.mk hy135
                                      clear hy135
                                      have c23b0 := eq_true (of_decide_eq_true (by first | (with_reducible assumption) | assumption) : 0 ≤ x8_3)
                                      have c24b0 := eq_true (of_decide_eq_true (by first | (with_reducible assumption) | assumption) : x8_3 ≤ (x6_2.length : Int))
                                      obtain ⟨y138, hy138⟩ : ∃ y_ : List (S32), y_ = (x6_2.drop (x8_3 : Int).toNat) := ⟨_, rfl⟩
                                      replace H : (if y135.length + y138.length < 2932031007402 then (rosetteref05_Make.l1 k3 l0 (y135 ++ y138) (wrap64 (x7_2 + 1))) else (none)) = some (r1, r2) := by first | (rw [hy138]; with_reducible exact H) | (have H2_ := (Option.bind_some _ _).symm.trans H; rw [hy138]; with_reducible exact H2_) | (have H2_ := (Option.bind_some _ _).symm.trans H; with_reducible exact H2_) | with_reducible exact H | (rw [hy138]; exact H) | exact H
                                      have Ny138 := Aside0.mk hy138
                                      clear hy138
                                      by_cases c25 : y135.length + y138.length < 2932031007402
                                      · rw [if_pos c25] at H
                                        have LMc25 := Aside0.mk c25
                                        clear c25
                                        obtain ⟨y142, hy142⟩ : ∃ y_ : List (S32), y_ = (y135 ++ y138) := ⟨_, rfl⟩
                                        replace H : (rosetteref05_Make.l1 k3 l0 y142 (wrap64 (x7_2 + 1))) = some (r1, r2) := by first | (rw [hy142]; with_reducible exact H) | (have H2_ := (Option.bind_some _ _).symm.trans H; rw [hy142]; with_reducible exact H2_) | (have H2_ := (Option.bind_some _ _).symm.trans H; with_reducible exact H2_) | with_reducible exact H | (rw [hy142]; exact H) | exact H
                                        have Ny142 := Aside0.mk hy142
                                        clear hy142
                                        have H' := Aside0.mk H
                                        clear H
                                        obtain ⟨Ao26, co26, eo26⟩ := Kd.R_slice HO_6.out
                                        subst eo26
                                        have p119 : 0 ≤ (x8_3 : Int) := of_decide_eq_true (by first | (with_reducible assumption) | assumption)
                                        have q119 : x8_3 < (x6_2.length : Int) := of_decide_eq_true (by first | (with_reducible assumption) | assumption)
                                        obtain ⟨ad119, e119, hx119_0, hx119_1, hx119_2, hx119_3⟩ := at_T32 (Kd.R_reads' HO_6.out).2.2 x8_3 p119 q119
                                        cases e119
                                        replace p119 := eq_true p119
                                        replace q119 := eq_true q119
                                        have p120 : 0 ≤ (x7_2 : Int) := of_decide_eq_true (by first | (with_reducible assumption) | assumption)
                                        have q120 : x7_2 < (l0.length : Int) := of_decide_eq_true (by first | (with_reducible assumption) | assumption)
                                        obtain ⟨ad120, e120, hx120_0, hx120_1, hx120_2, hx120_3⟩ := at_T32 HR0.out x7_2 p120 q120
                                        cases e120
                                        replace hx120_0 := (HB.out.cell (World.block_lt_of_cell? w _ hx120_0)).trans hx120_0
                                        replace hx120_1 := (HB.out.cell (World.block_lt_of_cell? w _ hx120_1)).trans hx120_1
                                        replace hx120_2 := (HB.out.cell (World.block_lt_of_cell? w _ hx120_2)).trans hx120_2
                                        replace hx120_3 := (HB.out.cell (World.block_lt_of_cell? w _ hx120_3)).trans hx120_3
                                        replace p120 := eq_true p120
                                        replace q120 := eq_true q120
                                        go_wp2_with (first | (go_at_call 25; (with_reducible refine (rosetteref04_Text.calls k3 ((rd_T32 x6_2 x8_3).f0) ((rd_T32 l0 x7_2).f0) t121 _ A14.out).mono ?_); rintro e w' ⟨rfl, ⟨nd, rfl⟩⟩; (try first | exact ⟨rfl, _, World.drewN_drewN _ _ _⟩ | exact ⟨rfl, _, Eq.trans (World.drewN_drewN _ _ _) (congrArg (World.drewN _) (Nat.add_assoc _ _ _))⟩); have p122 : 0 ≤ (x8_3 : Int) := of_decide_eq_true (by first | (with_reducible assumption) | assumption); have q122 : x8_3 < (x6_2.length : Int) := of_decide_eq_true (by first | (with_reducible assumption) | assumption); obtain ⟨ad122, e122, hx122_0, hx122_1, hx122_2, hx122_3⟩ := at_T32 (Kd.R_reads' HO_6.out).2.2 x8_3 p122 q122; obtain rfl : ad119 = ad122 := (by injection e122); replace p122 := eq_true p122; replace q122 := eq_true q122; have p123 : 0 ≤ (x7_2 : Int) := of_decide_eq_true (by first | (with_reducible assumption) | assumption); have q123 : x7_2 < (l0.length : Int) := of_decide_eq_true (by first | (with_reducible assumption) | assumption); obtain ⟨ad123, e123, hx123_0, hx123_1, hx123_2, hx123_3⟩ := at_T32 HR0.out x7_2 p123 q123; obtain rfl : ad120 = ad123 := (by injection e123); replace hx123_0 := (HB.out.cell (World.block_lt_of_cell? w _ hx123_0)).trans hx123_0; replace hx123_1 := (HB.out.cell (World.block_lt_of_cell? w _ hx123_1)).trans hx123_1; replace hx123_2 := (HB.out.cell (World.block_lt_of_cell? w _ hx123_2)).trans hx123_2; replace hx123_3 := (HB.out.cell (World.block_lt_of_cell? w _ hx123_3)).trans hx123_3; replace p123 := eq_true p123; replace q123 := eq_true q123) | ((with_reducible refine gate_dst (N := 69) rfl ?_); refine Kd.R_lit k32 _ 32 ?hg (N := 69) ?hd (xs := ([] : List (S32))) (inner := []) (ok := fun _ => True) (okp := fun _ => True) ?hr ?hp (fun _ hk => hk) trivial (Below.refl _ _) (Nat.le_refl _) (by simp) ?_; (case hd => rfl); (case hg => rfl); (case hr => first | (go_simp; done) | (go_simp; rfl)); (case hp => exact (Reps.none _ _)); intro v125 w27 ho28 hb hg_ hnew_; clear hg_ hnew_; (first | rw [← Ny124.out] at ho28 | (simp only [Int.reduceToNat] at ho28; rw [← Ny124.out] at ho28)); have n0_ := Aside0.mk (Kd.R_elder' (by (with_reducible repeat (first | apply Kd.R_alloc | apply Kd.R_drewN | apply Kd.R_drew)); exact HO_6.out) (Kd.R_base ho28) hb); have n1_ := Aside0.mk (Kd.R_lower (Kd.R_new' ho28 (Kd.R_lt (by (with_reducible repeat (first | apply Kd.R_alloc | apply Kd.R_drewN | apply Kd.R_drew)); exact HO_6.out))) (below_size (by repeat (first | (with_reducible first | exact HB.out | apply below_alloc | apply pw_below_drewN | apply below_drew1) | exact HB.out)))); have n2_ := Aside0.mk (below_step (by repeat (first | (with_reducible first | exact HB.out | apply below_alloc | apply pw_below_drewN | apply below_drew1) | exact HB.out)) hb); clear HO_6; clear HB; have HO_6 := n0_; have HO126 := n1_; have HB := n2_; clear n0_ n1_ n2_; clear hb ho28; have q29 : (x8_3 : Int) ≤ ((x6_2.length : Int) : Int) := of_decide_eq_true (by first | (with_reducible assumption) | assumption); obtain ⟨i029, hi029, _, hsz29, _⟩ := info_parts info32; have hroom29 : x6_2.length ≤ co26 := (Kd.R_reads' HO_6.out).2.1; have hC29 : Kd.C k32 _ (some ad119) x6_2.length x6_2 := (Kd.R_reads' HO_6.out).2.2; have hcut29 := cut_to (P := Try.prog) 22 32 .i64 Try.underlying22 hi029 (some ad119) x6_2.length co26 x8_3 (of_decide_eq_true (by first | (with_reducible assumption) | assumption)) q29 hroom29; have hr29 := Kd.C_take (m := (x8_3 : Int).toNat) hC29 (by omega); have hy29 : y127.length = (x8_3 : Int).toNat := (by rw [Ny127.out, List.length_take]; omega); rw [← Ny127.out] at hr29; rw [← hy29] at hcut29; have HR130 := Aside0.mk hr29; have HC130 := Aside0.mk (show y127.length ≤ co26 from by omega); clear hr29 hC29 hroom29 hi029 hsz29; have KY29 := Aside0.mk hy29; clear hy29; have KL29 := Aside0.mk (show (x8_3 : Int).toNat ≤ x6_2.length from by omega); replace q29 := eq_true q29) | ((with_reducible refine gate_builtin (b := .append) (xs := #[.tmp 69, .tmp 72]) rfl ?_); at_builtin; refine Kd.R_append_rows k32 (w0 := w) w.heap.size rfl (.tmp 69) (.tmp 72) 22 32 (.agg #[(.string ⟨#[]⟩), (.int .i64 0), (.int .i64 0), (.string ⟨#[]⟩)]) 48 rfl Try.underlying22 info32 rfl (by decide) (by decide) v125 y124 y127 _ _ _ (fun k_ => some k_ ≠ (.slice (some ad119) x6_2.length co26 : Value).ownBlock) (fun _ => False) rfl rfl ?aO ?aR (fun _ _ h => h) (fun _ h => h.elim) ?aF ?aB ?aS ?aL ?_; (case aR => repeat (first | exact (by repeat (first | (with_reducible exact HR130.out) | (with_reducible refine Kd.C_alloc ?_ _) | (with_reducible refine Kd.C_drewN ?_ _) | (with_reducible refine Kd.C_drew ?_) | exact HR130.out)) | (with_reducible refine Kd.C_alloc ?_ _) | (with_reducible refine Kd.C_drewN ?_ _) | (with_reducible refine Kd.C_drew ?_))); (case aB => exact (by repeat (first | (with_reducible first | exact HB.out | apply below_alloc | apply pw_below_drewN | apply below_drew1) | exact HB.out))); (case aF => exact (fun k_ hk => Kd.fresh' (Kd.R_lt (by (with_reducible repeat (first | apply Kd.R_alloc | apply Kd.R_drewN | apply Kd.R_drew)); exact HO_6.out)) k_ hk)); (case aO => exact (by (with_reducible repeat (first | apply Kd.R_alloc | apply Kd.R_drewN | apply Kd.R_drew)); exact Kd.R_mono HO126.out (fun _ hk => hk.2))); (case aS => exact (below_size (by repeat (first | (with_reducible first | exact HB.out | apply below_alloc | apply pw_below_drewN | apply below_drew1) | exact HB.out)))); (case aL => have := LMc21.out; omega); intro v132 w30 ho hb hg hat; rw [← Ny131.out] at ho; have n0_ := Aside0.mk (Kd.R_after (ok := (fun _ => True)) (by (with_reducible repeat (first | apply Kd.R_alloc | apply Kd.R_drewN | apply Kd.R_drew)); exact HO_6.out) hg hat); have n1_ := Aside0.mk (hb); have n2_ := Aside0.mk ((show Kd.C k32 w30 (some ad119) y127.length y127 from by rw [Ny127.out]; exact Kd.C_take (m := (x8_3 : Int).toNat) ((Kd.R_reads' (Kd.R_after (ok := (fun _ => True)) (by (with_reducible repeat (first | apply Kd.R_alloc | apply Kd.R_drewN | apply Kd.R_drew)); exact HO_6.out) hg hat)).2.2) KL29.out)); have n3_ := Aside0.mk (ho); clear HO_6; clear HB; clear HR130; clear HO126; have HO_6 := n0_; have HB := n1_; have HR130 := n2_; have HO133 := n3_; clear n0_ n1_ n2_ n3_; clear ho hb hg hat; have p134 : 0 ≤ (x7_2 : Int) := of_decide_eq_true (by first | (with_reducible assumption) | assumption); have q134 : x7_2 < (l0.length : Int) := of_decide_eq_true (by first | (with_reducible assumption) | assumption); obtain ⟨ad134, e134, hx134_0, hx134_1, hx134_2, hx134_3⟩ := at_T32 HR0.out x7_2 p134 q134; obtain rfl : ad120 = ad134 := (by injection e134); replace hx134_0 := (HB.out.cell (World.block_lt_of_cell? w _ hx134_0)).trans hx134_0; replace hx134_1 := (HB.out.cell (World.block_lt_of_cell? w _ hx134_1)).trans hx134_1; replace hx134_2 := (HB.out.cell (World.block_lt_of_cell? w _ hx134_2)).trans hx134_2; replace hx134_3 := (HB.out.cell (World.block_lt_of_cell? w _ hx134_3)).trans hx134_3; replace p134 := eq_true p134; replace q134 := eq_true q134) | ((with_reducible refine gate_builtin (b := .append) (xs := #[.tmp 74, .tmp 79]) rfl ?_); at_builtin; refine Kd.R_append k32 (w0 := w) w.heap.size rfl (.tmp 74) (.tmp 79) 22 32 (.agg #[(.string ⟨#[]⟩), (.int .i64 0), (.int .i64 0), (.string ⟨#[]⟩)]) 48 rfl Try.underlying22 info32 rfl (by decide) (by decide) v132 y131 (⟨(rd_T32 l0 x7_2).f0, (⟨(rd_T32 l0 x7_2).f1.f0, (rd_T32 l0 x7_2).f1.f1, (rd_T32 l0 x7_2).f1.f2⟩ : S30)⟩ : S32) [.string ((rd_T32 l0 x7_2).f0), .int .i64 ((rd_T32 l0 x7_2).f1.f0), .int .i64 ((rd_T32 l0 x7_2).f1.f1), .string ((rd_T32 l0 x7_2).f1.f2)] (fun k_ => some k_ ≠ (.slice (some ad119) x6_2.length co26 : Value).ownBlock) (fun _ => False) rfl rfl ?aP (fun _ hk => hk.elim) ?aF ?aO ?aB ?aS ?aL ?_; (case aP => exact k32_mkM _ _ _ (⟨(rd_T32 l0 x7_2).f0, (⟨(rd_T32 l0 x7_2).f1.f0, (rd_T32 l0 x7_2).f1.f1, (rd_T32 l0 x7_2).f1.f2⟩ : S30)⟩ : S32)); (case aB => exact (by repeat (first | (with_reducible first | exact HB.out | apply below_alloc | apply pw_below_drewN | apply below_drew1) | exact HB.out))); (case aF => exact (fun k_ hk => Kd.fresh' (Kd.R_lt (by (with_reducible repeat (first | apply Kd.R_alloc | apply Kd.R_drewN | apply Kd.R_drew)); exact HO_6.out)) k_ hk)); (case aO => exact (by (with_reducible repeat (first | apply Kd.R_alloc | apply Kd.R_drewN | apply Kd.R_drew)); exact HO133.out)); (case aS => exact (below_size (by repeat (first | (with_reducible first | exact HB.out | apply below_alloc | apply pw_below_drewN | apply below_drew1) | exact HB.out)))); (case aL => have := LMc22.out; omega); intro v136 w31 ho hb hg hat; rw [← Ny135.out] at ho; have n0_ := Aside0.mk (Kd.R_after (ok := (fun _ => True)) (by (with_reducible repeat (first | apply Kd.R_alloc | apply Kd.R_drewN | apply Kd.R_drew)); exact HO_6.out) hg hat); have n1_ := Aside0.mk (hb); have n2_ := Aside0.mk ((show Kd.C k32 w31 (some ad119) y127.length y127 from by rw [Ny127.out]; exact Kd.C_take (m := (x8_3 : Int).toNat) ((Kd.R_reads' (Kd.R_after (ok := (fun _ => True)) (by (with_reducible repeat (first | apply Kd.R_alloc | apply Kd.R_drewN | apply Kd.R_drew)); exact HO_6.out) hg hat)).2.2) KL29.out)); have n3_ := Aside0.mk (ho); clear HO_6; clear HB; clear HR130; clear HO133; have HO_6 := n0_; have HB := n1_; have HR130 := n2_; have HO137 := n3_; clear n0_ n1_ n2_ n3_; clear ho hb hg hat; have q32 : (x8_3 : Int) ≤ ((x6_2.length : Int) : Int) := of_decide_eq_true (by first | (with_reducible assumption) | assumption); obtain ⟨i032, hi032, _, hsz32, _⟩ := info_parts info32; have hroom32 : x6_2.length ≤ co26 := (Kd.R_reads' HO_6.out).2.1; have hC32 : Kd.C k32 _ (some ad119) x6_2.length x6_2 := (Kd.R_reads' HO_6.out).2.2; have q032 : (0 : Int) ≤ (x8_3 : Int) := of_decide_eq_true (by first | (with_reducible assumption) | assumption); have hcut32 := cut_from (P := Try.prog) 22 32 .i64 Try.underlying22 hi032 4 hsz32 (some ad119) x6_2.length co26 x8_3 q032 q32; have hr32 := Kd.C_drop (m := (x8_3 : Int).toNat) (c := co26) hC32 (by omega) hroom32; obtain ⟨A32, hA32⟩ : ∃ A1, A1 = (if co26 = (x8_3 : Int).toNat then (some ad119) else ((some ad119) : Option Addr).map (·.add ((x8_3 : Int).toNat * 4))) := ⟨_, rfl⟩; obtain ⟨c32, hc32⟩ : ∃ c1, c1 = co26 - (x8_3 : Int).toNat := ⟨_, rfl⟩; have hy32 : y138.length = x6_2.length - (x8_3 : Int).toNat := (by rw [Ny138.out, List.length_drop] <;> omega); rw [show (x6_2).drop (x8_3 : Int).toNat = y138 from Ny138.out.symm] at hr32; replace hr32 : Kd.C k32 _ A32 y138.length y138 := (by rw [hA32]; exact hr32); rw [← hy32, ← hA32, ← hc32] at hcut32; have HR141 := Aside0.mk hr32; have HC141 := Aside0.mk (show y138.length ≤ c32 from by rw [hy32, hc32]; exact Nat.sub_le_sub_right hroom32 _); clear hr32 hC32 hroom32 hi032 hsz32 hc32; have KY32 := Aside0.mk hy32; have KA32 := Aside0.mk hA32; clear hy32 hA32; have KL32 := Aside0.mk (show (x8_3 : Int).toNat ≤ x6_2.length from by omega); replace q32 := eq_true q32) | ((with_reducible refine gate_builtin (b := .append) (xs := #[.tmp 81, .tmp 84]) rfl ?_); at_builtin; refine Kd.R_append_rows k32 (w0 := w) w.heap.size rfl (.tmp 81) (.tmp 84) 22 32 (.agg #[(.string ⟨#[]⟩), (.int .i64 0), (.int .i64 0), (.string ⟨#[]⟩)]) 48 rfl Try.underlying22 info32 rfl (by decide) (by decide) v136 y135 y138 _ _ _ (fun k_ => some k_ ≠ (.slice (some ad119) x6_2.length co26 : Value).ownBlock) (fun _ => False) rfl rfl ?aO ?aR (fun _ _ h => h) (fun _ h => h.elim) ?aF ?aB ?aS ?aL ?_; (case aR => repeat (first | exact (by repeat (first | (with_reducible exact HR141.out) | (with_reducible refine Kd.C_alloc ?_ _) | (with_reducible refine Kd.C_drewN ?_ _) | (with_reducible refine Kd.C_drew ?_) | exact HR141.out)) | (with_reducible refine Kd.C_alloc ?_ _) | (with_reducible refine Kd.C_drewN ?_ _) | (with_reducible refine Kd.C_drew ?_))); (case aB => exact (by repeat (first | (with_reducible first | exact HB.out | apply below_alloc | apply pw_below_drewN | apply below_drew1) | exact HB.out))); (case aF => exact (fun k_ hk => Kd.fresh' (Kd.R_lt (by (with_reducible repeat (first | apply Kd.R_alloc | apply Kd.R_drewN | apply Kd.R_drew)); exact HO_6.out)) k_ hk)); (case aO => exact (by (with_reducible repeat (first | apply Kd.R_alloc | apply Kd.R_drewN | apply Kd.R_drew)); exact HO137.out)); (case aS => exact (below_size (by repeat (first | (with_reducible first | exact HB.out | apply below_alloc | apply pw_below_drewN | apply below_drew1) | exact HB.out)))); (case aL => have := LMc25.out; omega); intro v143 w33 ho hb hg hat; rw [← Ny142.out] at ho; have n0_ := Aside0.mk (Kd.R_after (ok := (fun _ => True)) (by (with_reducible repeat (first | apply Kd.R_alloc | apply Kd.R_drewN | apply Kd.R_drew)); exact HO_6.out) hg hat); have n1_ := Aside0.mk (hb); have n2_ := Aside0.mk ((show Kd.C k32 w33 (some ad119) y127.length y127 from by rw [Ny127.out]; exact Kd.C_take (m := (x8_3 : Int).toNat) ((Kd.R_reads' (Kd.R_after (ok := (fun _ => True)) (by (with_reducible repeat (first | apply Kd.R_alloc | apply Kd.R_drewN | apply Kd.R_drew)); exact HO_6.out) hg hat)).2.2) KL29.out)); have n3_ := Aside0.mk ((show Kd.C k32 w33 A32 y138.length y138 from by rw [Ny138.out, KA32.out]; exact Kd.C_drop (m := (x8_3 : Int).toNat) (c := co26) ((Kd.R_reads' (Kd.R_after (ok := (fun _ => True)) (by (with_reducible repeat (first | apply Kd.R_alloc | apply Kd.R_drewN | apply Kd.R_drew)); exact HO_6.out) hg hat)).2.2) KL32.out ((Kd.R_reads' (Kd.R_after (ok := (fun _ => True)) (by (with_reducible repeat (first | apply Kd.R_alloc | apply Kd.R_drewN | apply Kd.R_drew)); exact HO_6.out) hg hat)).2.1))); have n4_ := Aside0.mk (ho); clear HO_6; clear HB; clear HR130; clear HR141; clear HO137; have HO_6 := n0_; have HB := n1_; have HR130 := n2_; have HR141 := n3_; have HO144 := n4_; clear n0_ n1_ n2_ n3_ n4_; clear ho hb hg hat))
                                        repeat (go_quiet (first | (go_at_call 25; (with_reducible refine (rosetteref04_Text.calls k3 ((rd_T32 x6_2 x8_3).f0) ((rd_T32 l0 x7_2).f0) t121 _ A14.out).mono ?_); rintro e w' ⟨rfl, ⟨nd, rfl⟩⟩; (try first | exact ⟨rfl, _, World.drewN_drewN _ _ _⟩ | exact ⟨rfl, _, Eq.trans (World.drewN_drewN _ _ _) (congrArg (World.drewN _) (Nat.add_assoc _ _ _))⟩); have p122 : 0 ≤ (x8_3 : Int) := of_decide_eq_true (by first | (with_reducible assumption) | assumption); have q122 : x8_3 < (x6_2.length : Int) := of_decide_eq_true (by first | (with_reducible assumption) | assumption); obtain ⟨ad122, e122, hx122_0, hx122_1, hx122_2, hx122_3⟩ := at_T32 (Kd.R_reads' HO_6.out).2.2 x8_3 p122 q122; obtain rfl : ad119 = ad122 := (by injection e122); replace p122 := eq_true p122; replace q122 := eq_true q122; have p123 : 0 ≤ (x7_2 : Int) := of_decide_eq_true (by first | (with_reducible assumption) | assumption); have q123 : x7_2 < (l0.length : Int) := of_decide_eq_true (by first | (with_reducible assumption) | assumption); obtain ⟨ad123, e123, hx123_0, hx123_1, hx123_2, hx123_3⟩ := at_T32 HR0.out x7_2 p123 q123; obtain rfl : ad120 = ad123 := (by injection e123); replace hx123_0 := (HB.out.cell (World.block_lt_of_cell? w _ hx123_0)).trans hx123_0; replace hx123_1 := (HB.out.cell (World.block_lt_of_cell? w _ hx123_1)).trans hx123_1; replace hx123_2 := (HB.out.cell (World.block_lt_of_cell? w _ hx123_2)).trans hx123_2; replace hx123_3 := (HB.out.cell (World.block_lt_of_cell? w _ hx123_3)).trans hx123_3; replace p123 := eq_true p123; replace q123 := eq_true q123) | ((with_reducible refine gate_dst (N := 69) rfl ?_); refine Kd.R_lit k32 _ 32 ?hg (N := 69) ?hd (xs := ([] : List (S32))) (inner := []) (ok := fun _ => True) (okp := fun _ => True) ?hr ?hp (fun _ hk => hk) trivial (Below.refl _ _) (Nat.le_refl _) (by simp) ?_; (case hd => rfl); (case hg => rfl); (case hr => first | (go_simp; done) | (go_simp; rfl)); (case hp => exact (Reps.none _ _)); intro v125 w27 ho28 hb hg_ hnew_; clear hg_ hnew_; (first | rw [← Ny124.out] at ho28 | (simp only [Int.reduceToNat] at ho28; rw [← Ny124.out] at ho28)); have n0_ := Aside0.mk (Kd.R_elder' (by (with_reducible repeat (first | apply Kd.R_alloc | apply Kd.R_drewN | apply Kd.R_drew)); exact HO_6.out) (Kd.R_base ho28) hb); have n1_ := Aside0.mk (Kd.R_lower (Kd.R_new' ho28 (Kd.R_lt (by (with_reducible repeat (first | apply Kd.R_alloc | apply Kd.R_drewN | apply Kd.R_drew)); exact HO_6.out))) (below_size (by repeat (first | (with_reducible first | exact HB.out | apply below_alloc | apply pw_below_drewN | apply below_drew1) | exact HB.out)))); have n2_ := Aside0.mk (below_step (by repeat (first | (with_reducible first | exact HB.out | apply below_alloc | apply pw_below_drewN | apply below_drew1) | exact HB.out)) hb); clear HO_6; clear HB; have HO_6 := n0_; have HO126 := n1_; have HB := n2_; clear n0_ n1_ n2_; clear hb ho28; have q29 : (x8_3 : Int) ≤ ((x6_2.length : Int) : Int) := of_decide_eq_true (by first | (with_reducible assumption) | assumption); obtain ⟨i029, hi029, _, hsz29, _⟩ := info_parts info32; have hroom29 : x6_2.length ≤ co26 := (Kd.R_reads' HO_6.out).2.1; have hC29 : Kd.C k32 _ (some ad119) x6_2.length x6_2 := (Kd.R_reads' HO_6.out).2.2; have hcut29 := cut_to (P := Try.prog) 22 32 .i64 Try.underlying22 hi029 (some ad119) x6_2.length co26 x8_3 (of_decide_eq_true (by first | (with_reducible assumption) | assumption)) q29 hroom29; have hr29 := Kd.C_take (m := (x8_3 : Int).toNat) hC29 (by omega); have hy29 : y127.length = (x8_3 : Int).toNat := (by rw [Ny127.out, List.length_take]; omega); rw [← Ny127.out] at hr29; rw [← hy29] at hcut29; have HR130 := Aside0.mk hr29; have HC130 := Aside0.mk (show y127.length ≤ co26 from by omega); clear hr29 hC29 hroom29 hi029 hsz29; have KY29 := Aside0.mk hy29; clear hy29; have KL29 := Aside0.mk (show (x8_3 : Int).toNat ≤ x6_2.length from by omega); replace q29 := eq_true q29) | ((with_reducible refine gate_builtin (b := .append) (xs := #[.tmp 69, .tmp 72]) rfl ?_); at_builtin; refine Kd.R_append_rows k32 (w0 := w) w.heap.size rfl (.tmp 69) (.tmp 72) 22 32 (.agg #[(.string ⟨#[]⟩), (.int .i64 0), (.int .i64 0), (.string ⟨#[]⟩)]) 48 rfl Try.underlying22 info32 rfl (by decide) (by decide) v125 y124 y127 _ _ _ (fun k_ => some k_ ≠ (.slice (some ad119) x6_2.length co26 : Value).ownBlock) (fun _ => False) rfl rfl ?aO ?aR (fun _ _ h => h) (fun _ h => h.elim) ?aF ?aB ?aS ?aL ?_; (case aR => repeat (first | exact (by repeat (first | (with_reducible exact HR130.out) | (with_reducible refine Kd.C_alloc ?_ _) | (with_reducible refine Kd.C_drewN ?_ _) | (with_reducible refine Kd.C_drew ?_) | exact HR130.out)) | (with_reducible refine Kd.C_alloc ?_ _) | (with_reducible refine Kd.C_drewN ?_ _) | (with_reducible refine Kd.C_drew ?_))); (case aB => exact (by repeat (first | (with_reducible first | exact HB.out | apply below_alloc | apply pw_below_drewN | apply below_drew1) | exact HB.out))); (case aF => exact (fun k_ hk => Kd.fresh' (Kd.R_lt (by (with_reducible repeat (first | apply Kd.R_alloc | apply Kd.R_drewN | apply Kd.R_drew)); exact HO_6.out)) k_ hk)); (case aO => exact (by (with_reducible repeat (first | apply Kd.R_alloc | apply Kd.R_drewN | apply Kd.R_drew)); exact Kd.R_mono HO126.out (fun _ hk => hk.2))); (case aS => exact (below_size (by repeat (first | (with_reducible first | exact HB.out | apply below_alloc | apply pw_below_drewN | apply below_drew1) | exact HB.out)))); (case aL => have := LMc21.out; omega); intro v132 w30 ho hb hg hat; rw [← Ny131.out] at ho; have n0_ := Aside0.mk (Kd.R_after (ok := (fun _ => True)) (by (with_reducible repeat (first | apply Kd.R_alloc | apply Kd.R_drewN | apply Kd.R_drew)); exact HO_6.out) hg hat); have n1_ := Aside0.mk (hb); have n2_ := Aside0.mk ((show Kd.C k32 w30 (some ad119) y127.length y127 from by rw [Ny127.out]; exact Kd.C_take (m := (x8_3 : Int).toNat) ((Kd.R_reads' (Kd.R_after (ok := (fun _ => True)) (by (with_reducible repeat (first | apply Kd.R_alloc | apply Kd.R_drewN | apply Kd.R_drew)); exact HO_6.out) hg hat)).2.2) KL29.out)); have n3_ := Aside0.mk (ho); clear HO_6; clear HB; clear HR130; clear HO126; have HO_6 := n0_; have HB := n1_; have HR130 := n2_; have HO133 := n3_; clear n0_ n1_ n2_ n3_; clear ho hb hg hat; have p134 : 0 ≤ (x7_2 : Int) := of_decide_eq_true (by first | (with_reducible assumption) | assumption); have q134 : x7_2 < (l0.length : Int) := of_decide_eq_true (by first | (with_reducible assumption) | assumption); obtain ⟨ad134, e134, hx134_0, hx134_1, hx134_2, hx134_3⟩ := at_T32 HR0.out x7_2 p134 q134; obtain rfl : ad120 = ad134 := (by injection e134); replace hx134_0 := (HB.out.cell (World.block_lt_of_cell? w _ hx134_0)).trans hx134_0; replace hx134_1 := (HB.out.cell (World.block_lt_of_cell? w _ hx134_1)).trans hx134_1; replace hx134_2 := (HB.out.cell (World.block_lt_of_cell? w _ hx134_2)).trans hx134_2; replace hx134_3 := (HB.out.cell (World.block_lt_of_cell? w _ hx134_3)).trans hx134_3; replace p134 := eq_true p134; replace q134 := eq_true q134) | ((with_reducible refine gate_builtin (b := .append) (xs := #[.tmp 74, .tmp 79]) rfl ?_); at_builtin; refine Kd.R_append k32 (w0 := w) w.heap.size rfl (.tmp 74) (.tmp 79) 22 32 (.agg #[(.string ⟨#[]⟩), (.int .i64 0), (.int .i64 0), (.string ⟨#[]⟩)]) 48 rfl Try.underlying22 info32 rfl (by decide) (by decide) v132 y131 (⟨(rd_T32 l0 x7_2).f0, (⟨(rd_T32 l0 x7_2).f1.f0, (rd_T32 l0 x7_2).f1.f1, (rd_T32 l0 x7_2).f1.f2⟩ : S30)⟩ : S32) [.string ((rd_T32 l0 x7_2).f0), .int .i64 ((rd_T32 l0 x7_2).f1.f0), .int .i64 ((rd_T32 l0 x7_2).f1.f1), .string ((rd_T32 l0 x7_2).f1.f2)] (fun k_ => some k_ ≠ (.slice (some ad119) x6_2.length co26 : Value).ownBlock) (fun _ => False) rfl rfl ?aP (fun _ hk => hk.elim) ?aF ?aO ?aB ?aS ?aL ?_; (case aP => exact k32_mkM _ _ _ (⟨(rd_T32 l0 x7_2).f0, (⟨(rd_T32 l0 x7_2).f1.f0, (rd_T32 l0 x7_2).f1.f1, (rd_T32 l0 x7_2).f1.f2⟩ : S30)⟩ : S32)); (case aB => exact (by repeat (first | (with_reducible first | exact HB.out | apply below_alloc | apply pw_below_drewN | apply below_drew1) | exact HB.out))); (case aF => exact (fun k_ hk => Kd.fresh' (Kd.R_lt (by (with_reducible repeat (first | apply Kd.R_alloc | apply Kd.R_drewN | apply Kd.R_drew)); exact HO_6.out)) k_ hk)); (case aO => exact (by (with_reducible repeat (first | apply Kd.R_alloc | apply Kd.R_drewN | apply Kd.R_drew)); exact HO133.out)); (case aS => exact (below_size (by repeat (first | (with_reducible first | exact HB.out | apply below_alloc | apply pw_below_drewN | apply below_drew1) | exact HB.out)))); (case aL => have := LMc22.out; omega); intro v136 w31 ho hb hg hat; rw [← Ny135.out] at ho; have n0_ := Aside0.mk (Kd.R_after (ok := (fun _ => True)) (by (with_reducible repeat (first | apply Kd.R_alloc | apply Kd.R_drewN | apply Kd.R_drew)); exact HO_6.out) hg hat); have n1_ := Aside0.mk (hb); have n2_ := Aside0.mk ((show Kd.C k32 w31 (some ad119) y127.length y127 from by rw [Ny127.out]; exact Kd.C_take (m := (x8_3 : Int).toNat) ((Kd.R_reads' (Kd.R_after (ok := (fun _ => True)) (by (with_reducible repeat (first | apply Kd.R_alloc | apply Kd.R_drewN | apply Kd.R_drew)); exact HO_6.out) hg hat)).2.2) KL29.out)); have n3_ := Aside0.mk (ho); clear HO_6; clear HB; clear HR130; clear HO133; have HO_6 := n0_; have HB := n1_; have HR130 := n2_; have HO137 := n3_; clear n0_ n1_ n2_ n3_; clear ho hb hg hat; have q32 : (x8_3 : Int) ≤ ((x6_2.length : Int) : Int) := of_decide_eq_true (by first | (with_reducible assumption) | assumption); obtain ⟨i032, hi032, _, hsz32, _⟩ := info_parts info32; have hroom32 : x6_2.length ≤ co26 := (Kd.R_reads' HO_6.out).2.1; have hC32 : Kd.C k32 _ (some ad119) x6_2.length x6_2 := (Kd.R_reads' HO_6.out).2.2; have q032 : (0 : Int) ≤ (x8_3 : Int) := of_decide_eq_true (by first | (with_reducible assumption) | assumption); have hcut32 := cut_from (P := Try.prog) 22 32 .i64 Try.underlying22 hi032 4 hsz32 (some ad119) x6_2.length co26 x8_3 q032 q32; have hr32 := Kd.C_drop (m := (x8_3 : Int).toNat) (c := co26) hC32 (by omega) hroom32; obtain ⟨A32, hA32⟩ : ∃ A1, A1 = (if co26 = (x8_3 : Int).toNat then (some ad119) else ((some ad119) : Option Addr).map (·.add ((x8_3 : Int).toNat * 4))) := ⟨_, rfl⟩; obtain ⟨c32, hc32⟩ : ∃ c1, c1 = co26 - (x8_3 : Int).toNat := ⟨_, rfl⟩; have hy32 : y138.length = x6_2.length - (x8_3 : Int).toNat := (by rw [Ny138.out, List.length_drop] <;> omega); rw [show (x6_2).drop (x8_3 : Int).toNat = y138 from Ny138.out.symm] at hr32; replace hr32 : Kd.C k32 _ A32 y138.length y138 := (by rw [hA32]; exact hr32); rw [← hy32, ← hA32, ← hc32] at hcut32; have HR141 := Aside0.mk hr32; have HC141 := Aside0.mk (show y138.length ≤ c32 from by rw [hy32, hc32]; exact Nat.sub_le_sub_right hroom32 _); clear hr32 hC32 hroom32 hi032 hsz32 hc32; have KY32 := Aside0.mk hy32; have KA32 := Aside0.mk hA32; clear hy32 hA32; have KL32 := Aside0.mk (show (x8_3 : Int).toNat ≤ x6_2.length from by omega); replace q32 := eq_true q32) | ((with_reducible refine gate_builtin (b := .append) (xs := #[.tmp 81, .tmp 84]) rfl ?_); at_builtin; refine Kd.R_append_rows k32 (w0 := w) w.heap.size rfl (.tmp 81) (.tmp 84) 22 32 (.agg #[(.string ⟨#[]⟩), (.int .i64 0), (.int .i64 0), (.string ⟨#[]⟩)]) 48 rfl Try.underlying22 info32 rfl (by decide) (by decide) v136 y135 y138 _ _ _ (fun k_ => some k_ ≠ (.slice (some ad119) x6_2.length co26 : Value).ownBlock) (fun _ => False) rfl rfl ?aO ?aR (fun _ _ h => h) (fun _ h => h.elim) ?aF ?aB ?aS ?aL ?_; (case aR => repeat (first | exact (by repeat (first | (with_reducible exact HR141.out) | (with_reducible refine Kd.C_alloc ?_ _) | (with_reducible refine Kd.C_drewN ?_ _) | (with_reducible refine Kd.C_drew ?_) | exact HR141.out)) | (with_reducible refine Kd.C_alloc ?_ _) | (with_reducible refine Kd.C_drewN ?_ _) | (with_reducible refine Kd.C_drew ?_))); (case aB => exact (by repeat (first | (with_reducible first | exact HB.out | apply below_alloc | apply pw_below_drewN | apply below_drew1) | exact HB.out))); (case aF => exact (fun k_ hk => Kd.fresh' (Kd.R_lt (by (with_reducible repeat (first | apply Kd.R_alloc | apply Kd.R_drewN | apply Kd.R_drew)); exact HO_6.out)) k_ hk)); (case aO => exact (by (with_reducible repeat (first | apply Kd.R_alloc | apply Kd.R_drewN | apply Kd.R_drew)); exact HO137.out)); (case aS => exact (below_size (by repeat (first | (with_reducible first | exact HB.out | apply below_alloc | apply pw_below_drewN | apply below_drew1) | exact HB.out)))); (case aL => have := LMc25.out; omega); intro v143 w33 ho hb hg hat; rw [← Ny142.out] at ho; have n0_ := Aside0.mk (Kd.R_after (ok := (fun _ => True)) (by (with_reducible repeat (first | apply Kd.R_alloc | apply Kd.R_drewN | apply Kd.R_drew)); exact HO_6.out) hg hat); have n1_ := Aside0.mk (hb); have n2_ := Aside0.mk ((show Kd.C k32 w33 (some ad119) y127.length y127 from by rw [Ny127.out]; exact Kd.C_take (m := (x8_3 : Int).toNat) ((Kd.R_reads' (Kd.R_after (ok := (fun _ => True)) (by (with_reducible repeat (first | apply Kd.R_alloc | apply Kd.R_drewN | apply Kd.R_drew)); exact HO_6.out) hg hat)).2.2) KL29.out)); have n3_ := Aside0.mk ((show Kd.C k32 w33 A32 y138.length y138 from by rw [Ny138.out, KA32.out]; exact Kd.C_drop (m := (x8_3 : Int).toNat) (c := co26) ((Kd.R_reads' (Kd.R_after (ok := (fun _ => True)) (by (with_reducible repeat (first | apply Kd.R_alloc | apply Kd.R_drewN | apply Kd.R_drew)); exact HO_6.out) hg hat)).2.2) KL32.out ((Kd.R_reads' (Kd.R_after (ok := (fun _ => True)) (by (with_reducible repeat (first | apply Kd.R_alloc | apply Kd.R_drewN | apply Kd.R_drew)); exact HO_6.out) hg hat)).2.1))); have n4_ := Aside0.mk (ho); clear HO_6; clear HB; clear HR130; clear HR141; clear HO137; have HO_6 := n0_; have HB := n1_; have HR130 := n2_; have HR141 := n3_; have HO144 := n4_; clear n0_ n1_ n2_ n3_ n4_; clear ho hb hg hat)); try go_wp2_with (first | (go_at_call 25; (with_reducible refine (rosetteref04_Text.calls k3 ((rd_T32 x6_2 x8_3).f0) ((rd_T32 l0 x7_2).f0) t121 _ A14.out).mono ?_); rintro e w' ⟨rfl, ⟨nd, rfl⟩⟩; (try first | exact ⟨rfl, _, World.drewN_drewN _ _ _⟩ | exact ⟨rfl, _, Eq.trans (World.drewN_drewN _ _ _) (congrArg (World.drewN _) (Nat.add_assoc _ _ _))⟩); have p122 : 0 ≤ (x8_3 : Int) := of_decide_eq_true (by first | (with_reducible assumption) | assumption); have q122 : x8_3 < (x6_2.length : Int) := of_decide_eq_true (by first | (with_reducible assumption) | assumption); obtain ⟨ad122, e122, hx122_0, hx122_1, hx122_2, hx122_3⟩ := at_T32 (Kd.R_reads' HO_6.out).2.2 x8_3 p122 q122; obtain rfl : ad119 = ad122 := (by injection e122); replace p122 := eq_true p122; replace q122 := eq_true q122; have p123 : 0 ≤ (x7_2 : Int) := of_decide_eq_true (by first | (with_reducible assumption) | assumption); have q123 : x7_2 < (l0.length : Int) := of_decide_eq_true (by first | (with_reducible assumption) | assumption); obtain ⟨ad123, e123, hx123_0, hx123_1, hx123_2, hx123_3⟩ := at_T32 HR0.out x7_2 p123 q123; obtain rfl : ad120 = ad123 := (by injection e123); replace hx123_0 := (HB.out.cell (World.block_lt_of_cell? w _ hx123_0)).trans hx123_0; replace hx123_1 := (HB.out.cell (World.block_lt_of_cell? w _ hx123_1)).trans hx123_1; replace hx123_2 := (HB.out.cell (World.block_lt_of_cell? w _ hx123_2)).trans hx123_2; replace hx123_3 := (HB.out.cell (World.block_lt_of_cell? w _ hx123_3)).trans hx123_3; replace p123 := eq_true p123; replace q123 := eq_true q123) | ((with_reducible refine gate_dst (N := 69) rfl ?_); refine Kd.R_lit k32 _ 32 ?hg (N := 69) ?hd (xs := ([] : List (S32))) (inner := []) (ok := fun _ => True) (okp := fun _ => True) ?hr ?hp (fun _ hk => hk) trivial (Below.refl _ _) (Nat.le_refl _) (by simp) ?_; (case hd => rfl); (case hg => rfl); (case hr => first | (go_simp; done) | (go_simp; rfl)); (case hp => exact (Reps.none _ _)); intro v125 w27 ho28 hb hg_ hnew_; clear hg_ hnew_; (first | rw [← Ny124.out] at ho28 | (simp only [Int.reduceToNat] at ho28; rw [← Ny124.out] at ho28)); have n0_ := Aside0.mk (Kd.R_elder' (by (with_reducible repeat (first | apply Kd.R_alloc | apply Kd.R_drewN | apply Kd.R_drew)); exact HO_6.out) (Kd.R_base ho28) hb); have n1_ := Aside0.mk (Kd.R_lower (Kd.R_new' ho28 (Kd.R_lt (by (with_reducible repeat (first | apply Kd.R_alloc | apply Kd.R_drewN | apply Kd.R_drew)); exact HO_6.out))) (below_size (by repeat (first | (with_reducible first | exact HB.out | apply below_alloc | apply pw_below_drewN | apply below_drew1) | exact HB.out)))); have n2_ := Aside0.mk (below_step (by repeat (first | (with_reducible first | exact HB.out | apply below_alloc | apply pw_below_drewN | apply below_drew1) | exact HB.out)) hb); clear HO_6; clear HB; have HO_6 := n0_; have HO126 := n1_; have HB := n2_; clear n0_ n1_ n2_; clear hb ho28; have q29 : (x8_3 : Int) ≤ ((x6_2.length : Int) : Int) := of_decide_eq_true (by first | (with_reducible assumption) | assumption); obtain ⟨i029, hi029, _, hsz29, _⟩ := info_parts info32; have hroom29 : x6_2.length ≤ co26 := (Kd.R_reads' HO_6.out).2.1; have hC29 : Kd.C k32 _ (some ad119) x6_2.length x6_2 := (Kd.R_reads' HO_6.out).2.2; have hcut29 := cut_to (P := Try.prog) 22 32 .i64 Try.underlying22 hi029 (some ad119) x6_2.length co26 x8_3 (of_decide_eq_true (by first | (with_reducible assumption) | assumption)) q29 hroom29; have hr29 := Kd.C_take (m := (x8_3 : Int).toNat) hC29 (by omega); have hy29 : y127.length = (x8_3 : Int).toNat := (by rw [Ny127.out, List.length_take]; omega); rw [← Ny127.out] at hr29; rw [← hy29] at hcut29; have HR130 := Aside0.mk hr29; have HC130 := Aside0.mk (show y127.length ≤ co26 from by omega); clear hr29 hC29 hroom29 hi029 hsz29; have KY29 := Aside0.mk hy29; clear hy29; have KL29 := Aside0.mk (show (x8_3 : Int).toNat ≤ x6_2.length from by omega); replace q29 := eq_true q29) | ((with_reducible refine gate_builtin (b := .append) (xs := #[.tmp 69, .tmp 72]) rfl ?_); at_builtin; refine Kd.R_append_rows k32 (w0 := w) w.heap.size rfl (.tmp 69) (.tmp 72) 22 32 (.agg #[(.string ⟨#[]⟩), (.int .i64 0), (.int .i64 0), (.string ⟨#[]⟩)]) 48 rfl Try.underlying22 info32 rfl (by decide) (by decide) v125 y124 y127 _ _ _ (fun k_ => some k_ ≠ (.slice (some ad119) x6_2.length co26 : Value).ownBlock) (fun _ => False) rfl rfl ?aO ?aR (fun _ _ h => h) (fun _ h => h.elim) ?aF ?aB ?aS ?aL ?_; (case aR => repeat (first | exact (by repeat (first | (with_reducible exact HR130.out) | (with_reducible refine Kd.C_alloc ?_ _) | (with_reducible refine Kd.C_drewN ?_ _) | (with_reducible refine Kd.C_drew ?_) | exact HR130.out)) | (with_reducible refine Kd.C_alloc ?_ _) | (with_reducible refine Kd.C_drewN ?_ _) | (with_reducible refine Kd.C_drew ?_))); (case aB => exact (by repeat (first | (with_reducible first | exact HB.out | apply below_alloc | apply pw_below_drewN | apply below_drew1) | exact HB.out))); (case aF => exact (fun k_ hk => Kd.fresh' (Kd.R_lt (by (with_reducible repeat (first | apply Kd.R_alloc | apply Kd.R_drewN | apply Kd.R_drew)); exact HO_6.out)) k_ hk)); (case aO => exact (by (with_reducible repeat (first | apply Kd.R_alloc | apply Kd.R_drewN | apply Kd.R_drew)); exact Kd.R_mono HO126.out (fun _ hk => hk.2))); (case aS => exact (below_size (by repeat (first | (with_reducible first | exact HB.out | apply below_alloc | apply pw_below_drewN | apply below_drew1) | exact HB.out)))); (case aL => have := LMc21.out; omega); intro v132 w30 ho hb hg hat; rw [← Ny131.out] at ho; have n0_ := Aside0.mk (Kd.R_after (ok := (fun _ => True)) (by (with_reducible repeat (first | apply Kd.R_alloc | apply Kd.R_drewN | apply Kd.R_drew)); exact HO_6.out) hg hat); have n1_ := Aside0.mk (hb); have n2_ := Aside0.mk ((show Kd.C k32 w30 (some ad119) y127.length y127 from by rw [Ny127.out]; exact Kd.C_take (m := (x8_3 : Int).toNat) ((Kd.R_reads' (Kd.R_after (ok := (fun _ => True)) (by (with_reducible repeat (first | apply Kd.R_alloc | apply Kd.R_drewN | apply Kd.R_drew)); exact HO_6.out) hg hat)).2.2) KL29.out)); have n3_ := Aside0.mk (ho); clear HO_6; clear HB; clear HR130; clear HO126; have HO_6 := n0_; have HB := n1_; have HR130 := n2_; have HO133 := n3_; clear n0_ n1_ n2_ n3_; clear ho hb hg hat; have p134 : 0 ≤ (x7_2 : Int) := of_decide_eq_true (by first | (with_reducible assumption) | assumption); have q134 : x7_2 < (l0.length : Int) := of_decide_eq_true (by first | (with_reducible assumption) | assumption); obtain ⟨ad134, e134, hx134_0, hx134_1, hx134_2, hx134_3⟩ := at_T32 HR0.out x7_2 p134 q134; obtain rfl : ad120 = ad134 := (by injection e134); replace hx134_0 := (HB.out.cell (World.block_lt_of_cell? w _ hx134_0)).trans hx134_0; replace hx134_1 := (HB.out.cell (World.block_lt_of_cell? w _ hx134_1)).trans hx134_1; replace hx134_2 := (HB.out.cell (World.block_lt_of_cell? w _ hx134_2)).trans hx134_2; replace hx134_3 := (HB.out.cell (World.block_lt_of_cell? w _ hx134_3)).trans hx134_3; replace p134 := eq_true p134; replace q134 := eq_true q134) | ((with_reducible refine gate_builtin (b := .append) (xs := #[.tmp 74, .tmp 79]) rfl ?_); at_builtin; refine Kd.R_append k32 (w0 := w) w.heap.size rfl (.tmp 74) (.tmp 79) 22 32 (.agg #[(.string ⟨#[]⟩), (.int .i64 0), (.int .i64 0), (.string ⟨#[]⟩)]) 48 rfl Try.underlying22 info32 rfl (by decide) (by decide) v132 y131 (⟨(rd_T32 l0 x7_2).f0, (⟨(rd_T32 l0 x7_2).f1.f0, (rd_T32 l0 x7_2).f1.f1, (rd_T32 l0 x7_2).f1.f2⟩ : S30)⟩ : S32) [.string ((rd_T32 l0 x7_2).f0), .int .i64 ((rd_T32 l0 x7_2).f1.f0), .int .i64 ((rd_T32 l0 x7_2).f1.f1), .string ((rd_T32 l0 x7_2).f1.f2)] (fun k_ => some k_ ≠ (.slice (some ad119) x6_2.length co26 : Value).ownBlock) (fun _ => False) rfl rfl ?aP (fun _ hk => hk.elim) ?aF ?aO ?aB ?aS ?aL ?_; (case aP => exact k32_mkM _ _ _ (⟨(rd_T32 l0 x7_2).f0, (⟨(rd_T32 l0 x7_2).f1.f0, (rd_T32 l0 x7_2).f1.f1, (rd_T32 l0 x7_2).f1.f2⟩ : S30)⟩ : S32)); (case aB => exact (by repeat (first | (with_reducible first | exact HB.out | apply below_alloc | apply pw_below_drewN | apply below_drew1) | exact HB.out))); (case aF => exact (fun k_ hk => Kd.fresh' (Kd.R_lt (by (with_reducible repeat (first | apply Kd.R_alloc | apply Kd.R_drewN | apply Kd.R_drew)); exact HO_6.out)) k_ hk)); (case aO => exact (by (with_reducible repeat (first | apply Kd.R_alloc | apply Kd.R_drewN | apply Kd.R_drew)); exact HO133.out)); (case aS => exact (below_size (by repeat (first | (with_reducible first | exact HB.out | apply below_alloc | apply pw_below_drewN | apply below_drew1) | exact HB.out)))); (case aL => have := LMc22.out; omega); intro v136 w31 ho hb hg hat; rw [← Ny135.out] at ho; have n0_ := Aside0.mk (Kd.R_after (ok := (fun _ => True)) (by (with_reducible repeat (first | apply Kd.R_alloc | apply Kd.R_drewN | apply Kd.R_drew)); exact HO_6.out) hg hat); have n1_ := Aside0.mk (hb); have n2_ := Aside0.mk ((show Kd.C k32 w31 (some ad119) y127.length y127 from by rw [Ny127.out]; exact Kd.C_take (m := (x8_3 : Int).toNat) ((Kd.R_reads' (Kd.R_after (ok := (fun _ => True)) (by (with_reducible repeat (first | apply Kd.R_alloc | apply Kd.R_drewN | apply Kd.R_drew)); exact HO_6.out) hg hat)).2.2) KL29.out)); have n3_ := Aside0.mk (ho); clear HO_6; clear HB; clear HR130; clear HO133; have HO_6 := n0_; have HB := n1_; have HR130 := n2_; have HO137 := n3_; clear n0_ n1_ n2_ n3_; clear ho hb hg hat; have q32 : (x8_3 : Int) ≤ ((x6_2.length : Int) : Int) := of_decide_eq_true (by first | (with_reducible assumption) | assumption); obtain ⟨i032, hi032, _, hsz32, _⟩ := info_parts info32; have hroom32 : x6_2.length ≤ co26 := (Kd.R_reads' HO_6.out).2.1; have hC32 : Kd.C k32 _ (some ad119) x6_2.length x6_2 := (Kd.R_reads' HO_6.out).2.2; have q032 : (0 : Int) ≤ (x8_3 : Int) := of_decide_eq_true (by first | (with_reducible assumption) | assumption); have hcut32 := cut_from (P := Try.prog) 22 32 .i64 Try.underlying22 hi032 4 hsz32 (some ad119) x6_2.length co26 x8_3 q032 q32; have hr32 := Kd.C_drop (m := (x8_3 : Int).toNat) (c := co26) hC32 (by omega) hroom32; obtain ⟨A32, hA32⟩ : ∃ A1, A1 = (if co26 = (x8_3 : Int).toNat then (some ad119) else ((some ad119) : Option Addr).map (·.add ((x8_3 : Int).toNat * 4))) := ⟨_, rfl⟩; obtain ⟨c32, hc32⟩ : ∃ c1, c1 = co26 - (x8_3 : Int).toNat := ⟨_, rfl⟩; have hy32 : y138.length = x6_2.length - (x8_3 : Int).toNat := (by rw [Ny138.out, List.length_drop] <;> omega); rw [show (x6_2).drop (x8_3 : Int).toNat = y138 from Ny138.out.symm] at hr32; replace hr32 : Kd.C k32 _ A32 y138.length y138 := (by rw [hA32]; exact hr32); rw [← hy32, ← hA32, ← hc32] at hcut32; have HR141 := Aside0.mk hr32; have HC141 := Aside0.mk (show y138.length ≤ c32 from by rw [hy32, hc32]; exact Nat.sub_le_sub_right hroom32 _); clear hr32 hC32 hroom32 hi032 hsz32 hc32; have KY32 := Aside0.mk hy32; have KA32 := Aside0.mk hA32; clear hy32 hA32; have KL32 := Aside0.mk (show (x8_3 : Int).toNat ≤ x6_2.length from by omega); replace q32 := eq_true q32) | ((with_reducible refine gate_builtin (b := .append) (xs := #[.tmp 81, .tmp 84]) rfl ?_); at_builtin; refine Kd.R_append_rows k32 (w0 := w) w.heap.size rfl (.tmp 81) (.tmp 84) 22 32 (.agg #[(.string ⟨#[]⟩), (.int .i64 0), (.int .i64 0), (.string ⟨#[]⟩)]) 48 rfl Try.underlying22 info32 rfl (by decide) (by decide) v136 y135 y138 _ _ _ (fun k_ => some k_ ≠ (.slice (some ad119) x6_2.length co26 : Value).ownBlock) (fun _ => False) rfl rfl ?aO ?aR (fun _ _ h => h) (fun _ h => h.elim) ?aF ?aB ?aS ?aL ?_; (case aR => repeat (first | exact (by repeat (first | (with_reducible exact HR141.out) | (with_reducible refine Kd.C_alloc ?_ _) | (with_reducible refine Kd.C_drewN ?_ _) | (with_reducible refine Kd.C_drew ?_) | exact HR141.out)) | (with_reducible refine Kd.C_alloc ?_ _) | (with_reducible refine Kd.C_drewN ?_ _) | (with_reducible refine Kd.C_drew ?_))); (case aB => exact (by repeat (first | (with_reducible first | exact HB.out | apply below_alloc | apply pw_below_drewN | apply below_drew1) | exact HB.out))); (case aF => exact (fun k_ hk => Kd.fresh' (Kd.R_lt (by (with_reducible repeat (first | apply Kd.R_alloc | apply Kd.R_drewN | apply Kd.R_drew)); exact HO_6.out)) k_ hk)); (case aO => exact (by (with_reducible repeat (first | apply Kd.R_alloc | apply Kd.R_drewN | apply Kd.R_drew)); exact HO137.out)); (case aS => exact (below_size (by repeat (first | (with_reducible first | exact HB.out | apply below_alloc | apply pw_below_drewN | apply below_drew1) | exact HB.out)))); (case aL => have := LMc25.out; omega); intro v143 w33 ho hb hg hat; rw [← Ny142.out] at ho; have n0_ := Aside0.mk (Kd.R_after (ok := (fun _ => True)) (by (with_reducible repeat (first | apply Kd.R_alloc | apply Kd.R_drewN | apply Kd.R_drew)); exact HO_6.out) hg hat); have n1_ := Aside0.mk (hb); have n2_ := Aside0.mk ((show Kd.C k32 w33 (some ad119) y127.length y127 from by rw [Ny127.out]; exact Kd.C_take (m := (x8_3 : Int).toNat) ((Kd.R_reads' (Kd.R_after (ok := (fun _ => True)) (by (with_reducible repeat (first | apply Kd.R_alloc | apply Kd.R_drewN | apply Kd.R_drew)); exact HO_6.out) hg hat)).2.2) KL29.out)); have n3_ := Aside0.mk ((show Kd.C k32 w33 A32 y138.length y138 from by rw [Ny138.out, KA32.out]; exact Kd.C_drop (m := (x8_3 : Int).toNat) (c := co26) ((Kd.R_reads' (Kd.R_after (ok := (fun _ => True)) (by (with_reducible repeat (first | apply Kd.R_alloc | apply Kd.R_drewN | apply Kd.R_drew)); exact HO_6.out) hg hat)).2.2) KL32.out ((Kd.R_reads' (Kd.R_after (ok := (fun _ => True)) (by (with_reducible repeat (first | apply Kd.R_alloc | apply Kd.R_drewN | apply Kd.R_drew)); exact HO_6.out) hg hat)).2.1))); have n4_ := Aside0.mk (ho); clear HO_6; clear HB; clear HR130; clear HR141; clear HO137; have HO_6 := n0_; have HB := n1_; have HR130 := n2_; have HR141 := n3_; have HO144 := n4_; clear n0_ n1_ n2_ n3_ n4_; clear ho hb hg hat)))
                                        go_roundg k3
                                        case measure => have := HK1.out; have := HK2.out; have := HK3.out; omega
                                        case rel => exact ⟨(y142), (wrap64 (x7_2 + 1)), (by first | rfl | (simp; done) | (simp [*]; done)), H', ⟨by have := HK1.out; have := HK2.out; have := HK3.out; omega⟩, ⟨by (with_reducible repeat (first | apply Kd.R_alloc | apply Kd.R_drewN | apply Kd.R_drew)); exact Kd.R_mono HO144.out (fun _ hk => trivial)⟩, ⟨by repeat (first | (with_reducible first | exact HB.out | apply below_alloc | apply pw_below_drewN | apply below_drew1) | exact HB.out)⟩⟩
                                      · rw [if_neg c25] at H
                                        exact absurd H (by simp)
                                    · rw [if_neg c22] at H
                                      exact absurd H (by simp)
                                  · rw [if_neg c21] at H
                                    exact absurd H (by simp)
                                · rw [if_neg c20] at H
                                  exact absurd H (by simp)
                          · rw [if_neg c13] at H
                            exact absurd H (by simp)
                        · rw [if_neg c12] at H
                          exact absurd H (by simp)
                      · rw [if_neg c11] at H
                        exact absurd H (by simp)
                    · rw [if_neg c10] at H
                      have c10b0 : decide (x8_3 < (x6_2.length : Int)) = false := decide_eq_false c10
                      clear c10
                      obtain ⟨y145, hy145⟩ : ∃ y_ : List (S32), y_ = (([] : List (S32))) := ⟨_, rfl⟩
                      replace H : (if 0 ≤ x8_3 then (if x8_3 ≤ (x6_2.length : Int) then ((some (x6_2.take (x8_3 : Int).toNat : List (S32))).bind fun y148 => (if y145.length + y148.length < 2932031007402 then ((some (y145 ++ y148 : List (S32))).bind fun y152 => (if 0 ≤ x7_2 then (if x7_2 < (l0.length : Int) then (if y152.length < 2932031007402 then ((some (y152 ++ [(⟨(rd_T32 l0 x7_2).f0, (⟨(rd_T32 l0 x7_2).f1.f0, (rd_T32 l0 x7_2).f1.f1, (rd_T32 l0 x7_2).f1.f2⟩ : S30)⟩ : S32)] : List (S32))).bind fun y156 => ((some (x6_2.drop (x8_3 : Int).toNat : List (S32))).bind fun y159 => (if y156.length + y159.length < 2932031007402 then (rosetteref05_Make.l1 k3 l0 (y156 ++ y159) (wrap64 (x7_2 + 1))) else (none)))) else (none)) else (none)) else (none))) else (none))) else (none)) else (none)) = some (r1, r2) := by first | (rw [hy145]; with_reducible exact H) | (have H2_ := (Option.bind_some _ _).symm.trans H; rw [hy145]; with_reducible exact H2_) | (have H2_ := (Option.bind_some _ _).symm.trans H; with_reducible exact H2_) | with_reducible exact H | (rw [hy145]; exact H) | exact H
                      have Ny145 := Aside0.mk hy145
                      clear hy145
                      by_cases c34 : 0 ≤ x8_3
                      · rw [if_pos c34] at H
                        have c34b0 := eq_true c34
                        have c34b1 : decide (0 ≤ x8_3) = true := decide_eq_true c34
                        clear c34
                        by_cases c35 : x8_3 ≤ (x6_2.length : Int)
                        · rw [if_pos c35] at H
                          have c35b0 := eq_true c35
                          have c35b1 : decide (x8_3 ≤ (x6_2.length : Int)) = true := decide_eq_true c35
                          clear c35
                          obtain ⟨y148, hy148⟩ : ∃ y_ : List (S32), y_ = (x6_2.take (x8_3 : Int).toNat) := ⟨_, rfl⟩
                          replace H : (if y145.length + y148.length < 2932031007402 then ((some (y145 ++ y148 : List (S32))).bind fun y152 => (if 0 ≤ x7_2 then (if x7_2 < (l0.length : Int) then (if y152.length < 2932031007402 then ((some (y152 ++ [(⟨(rd_T32 l0 x7_2).f0, (⟨(rd_T32 l0 x7_2).f1.f0, (rd_T32 l0 x7_2).f1.f1, (rd_T32 l0 x7_2).f1.f2⟩ : S30)⟩ : S32)] : List (S32))).bind fun y156 => ((some (x6_2.drop (x8_3 : Int).toNat : List (S32))).bind fun y159 => (if y156.length + y159.length < 2932031007402 then (rosetteref05_Make.l1 k3 l0 (y156 ++ y159) (wrap64 (x7_2 + 1))) else (none)))) else (none)) else (none)) else (none))) else (none)) = some (r1, r2) := by first | (rw [hy148]; with_reducible exact H) | (have H2_ := (Option.bind_some _ _).symm.trans H; rw [hy148]; with_reducible exact H2_) | (have H2_ := (Option.bind_some _ _).symm.trans H; with_reducible exact H2_) | with_reducible exact H | (rw [hy148]; exact H) | exact H
                          have Ny148 := Aside0.mk hy148
                          clear hy148
                          by_cases c36 : y145.length + y148.length < 2932031007402
                          · rw [if_pos c36] at H
                            have LMc36 := Aside0.mk c36
                            clear c36
                            obtain ⟨y152, hy152⟩ : ∃ y_ : List (S32), y_ = (y145 ++ y148) := ⟨_, rfl⟩
                            replace H : (if 0 ≤ x7_2 then (if x7_2 < (l0.length : Int) then (if y152.length < 2932031007402 then ((some (y152 ++ [(⟨(rd_T32 l0 x7_2).f0, (⟨(rd_T32 l0 x7_2).f1.f0, (rd_T32 l0 x7_2).f1.f1, (rd_T32 l0 x7_2).f1.f2⟩ : S30)⟩ : S32)] : List (S32))).bind fun y156 => ((some (x6_2.drop (x8_3 : Int).toNat : List (S32))).bind fun y159 => (if y156.length + y159.length < 2932031007402 then (rosetteref05_Make.l1 k3 l0 (y156 ++ y159) (wrap64 (x7_2 + 1))) else (none)))) else (none)) else (none)) else (none)) = some (r1, r2) := by first | (rw [hy152]; with_reducible exact H) | (have H2_ := (Option.bind_some _ _).symm.trans H; rw [hy152]; with_reducible exact H2_) | (have H2_ := (Option.bind_some _ _).symm.trans H; with_reducible exact H2_) | with_reducible exact H | (rw [hy152]; exact H) | exact H
                            have Ny152 := Aside0.mk hy152
                            clear hy152
                            by_cases c37 : 0 ≤ x7_2
                            · rw [if_pos c37] at H
                              have c37b0 : decide (0 ≤ x7_2) = true := decide_eq_true c37
                              clear c37
                              by_cases c38 : x7_2 < (l0.length : Int)
                              · rw [if_pos c38] at H
                                have c38b0 : decide (x7_2 < (l0.length : Int)) = true := decide_eq_true c38
                                clear c38
                                by_cases c39 : y152.length < 2932031007402
                                · rw [if_pos c39] at H
                                  have LMc39 := Aside0.mk c39
                                  clear c39
                                  obtain ⟨y156, hy156⟩ : ∃ y_ : List (S32), y_ = (y152 ++ [(⟨(rd_T32 l0 x7_2).f0, (⟨(rd_T32 l0 x7_2).f1.f0, (rd_T32 l0 x7_2).f1.f1, (rd_T32 l0 x7_2).f1.f2⟩ : S30)⟩ : S32)]) := ⟨_, rfl⟩
                                  replace H : ((some (x6_2.drop (x8_3 : Int).toNat : List (S32))).bind fun y159 => (if y156.length + y159.length < 2932031007402 then (rosetteref05_Make.l1 k3 l0 (y156 ++ y159) (wrap64 (x7_2 + 1))) else (none))) = some (r1, r2) := by first | (rw [hy156]; with_reducible exact H) | (have H2_ := (Option.bind_some _ _).symm.trans H; rw [hy156]; with_reducible exact H2_) | (have H2_ := (Option.bind_some _ _).symm.trans H; with_reducible exact H2_) | with_reducible exact H | (rw [hy156]; exact H) | exact H
                                  have Ny156 := Aside0.mk hy156
                                  clear hy156
                                  have c40b0 := eq_true (of_decide_eq_true (by first | (with_reducible assumption) | assumption) : 0 ≤ x8_3)
                                  have c41b0 := eq_true (of_decide_eq_true (by first | (with_reducible assumption) | assumption) : x8_3 ≤ (x6_2.length : Int))
                                  obtain ⟨y159, hy159⟩ : ∃ y_ : List (S32), y_ = (x6_2.drop (x8_3 : Int).toNat) := ⟨_, rfl⟩
                                  replace H : (if y156.length + y159.length < 2932031007402 then (rosetteref05_Make.l1 k3 l0 (y156 ++ y159) (wrap64 (x7_2 + 1))) else (none)) = some (r1, r2) := by first | (rw [hy159]; with_reducible exact H) | (have H2_ := (Option.bind_some _ _).symm.trans H; rw [hy159]; with_reducible exact H2_) | (have H2_ := (Option.bind_some _ _).symm.trans H; with_reducible exact H2_) | with_reducible exact H | (rw [hy159]; exact H) | exact H
                                  have Ny159 := Aside0.mk hy159
                                  clear hy159
                                  by_cases c42 : y156.length + y159.length < 2932031007402
                                  · rw [if_pos c42] at H
                                    have LMc42 := Aside0.mk c42
                                    clear c42
                                    obtain ⟨y163, hy163⟩ : ∃ y_ : List (S32), y_ = (y156 ++ y159) := ⟨_, rfl⟩
                                    replace H : (rosetteref05_Make.l1 k3 l0 y163 (wrap64 (x7_2 + 1))) = some (r1, r2) := by first | (rw [hy163]; with_reducible exact H) | (have H2_ := (Option.bind_some _ _).symm.trans H; rw [hy163]; with_reducible exact H2_) | (have H2_ := (Option.bind_some _ _).symm.trans H; with_reducible exact H2_) | with_reducible exact H | (rw [hy163]; exact H) | exact H
                                    have Ny163 := Aside0.mk hy163
                                    clear hy163
                                    have H' := Aside0.mk H
                                    clear H
                                    obtain ⟨Ao43, co43, eo43⟩ := Kd.R_slice HO_6.out
                                    subst eo43
                                    go_wp2_with (first | ((with_reducible refine gate_dst (N := 69) rfl ?_); refine Kd.R_lit k32 _ 32 ?hg (N := 69) ?hd (xs := ([] : List (S32))) (inner := []) (ok := fun _ => True) (okp := fun _ => True) ?hr ?hp (fun _ hk => hk) trivial (Below.refl _ _) (Nat.le_refl _) (by simp) ?_; (case hd => rfl); (case hg => rfl); (case hr => first | (go_simp; done) | (go_simp; rfl)); (case hp => exact (Reps.none _ _)); intro v146 w44 ho45 hb hg_ hnew_; clear hg_ hnew_; (first | rw [← Ny145.out] at ho45 | (simp only [Int.reduceToNat] at ho45; rw [← Ny145.out] at ho45)); have n0_ := Aside0.mk (Kd.R_elder' (by (with_reducible repeat (first | apply Kd.R_alloc | apply Kd.R_drewN | apply Kd.R_drew)); exact HO_6.out) (Kd.R_base ho45) hb); have n1_ := Aside0.mk (Kd.R_lower (Kd.R_new' ho45 (Kd.R_lt (by (with_reducible repeat (first | apply Kd.R_alloc | apply Kd.R_drewN | apply Kd.R_drew)); exact HO_6.out))) (below_size (by repeat (first | (with_reducible first | exact HB.out | apply below_alloc | apply pw_below_drewN | apply below_drew1) | exact HB.out)))); have n2_ := Aside0.mk (below_step (by repeat (first | (with_reducible first | exact HB.out | apply below_alloc | apply pw_below_drewN | apply below_drew1) | exact HB.out)) hb); clear HO_6; clear HB; have HO_6 := n0_; have HO147 := n1_; have HB := n2_; clear n0_ n1_ n2_; clear hb ho45; have q46 : (x8_3 : Int) ≤ ((x6_2.length : Int) : Int) := of_decide_eq_true (by first | (with_reducible assumption) | assumption); obtain ⟨i046, hi046, _, hsz46, _⟩ := info_parts info32; have hroom46 : x6_2.length ≤ co43 := (Kd.R_reads' HO_6.out).2.1; have hC46 : Kd.C k32 _ Ao43 x6_2.length x6_2 := (Kd.R_reads' HO_6.out).2.2; have hcut46 := cut_to (P := Try.prog) 22 32 .i64 Try.underlying22 hi046 Ao43 x6_2.length co43 x8_3 (of_decide_eq_true (by first | (with_reducible assumption) | assumption)) q46 hroom46; have hr46 := Kd.C_take (m := (x8_3 : Int).toNat) hC46 (by omega); have hy46 : y148.length = (x8_3 : Int).toNat := (by rw [Ny148.out, List.length_take]; omega); rw [← Ny148.out] at hr46; rw [← hy46] at hcut46; have HR151 := Aside0.mk hr46; have HC151 := Aside0.mk (show y148.length ≤ co43 from by omega); clear hr46 hC46 hroom46 hi046 hsz46; have KY46 := Aside0.mk hy46; clear hy46; have KL46 := Aside0.mk (show (x8_3 : Int).toNat ≤ x6_2.length from by omega); replace q46 := eq_true q46) | ((with_reducible refine gate_builtin (b := .append) (xs := #[.tmp 69, .tmp 72]) rfl ?_); at_builtin; refine Kd.R_append_rows k32 (w0 := w) w.heap.size rfl (.tmp 69) (.tmp 72) 22 32 (.agg #[(.string ⟨#[]⟩), (.int .i64 0), (.int .i64 0), (.string ⟨#[]⟩)]) 48 rfl Try.underlying22 info32 rfl (by decide) (by decide) v146 y145 y148 _ _ _ (fun k_ => some k_ ≠ (.slice Ao43 x6_2.length co43 : Value).ownBlock) (fun _ => False) rfl rfl ?aO ?aR (fun _ _ h => h) (fun _ h => h.elim) ?aF ?aB ?aS ?aL ?_; (case aR => repeat (first | exact (by repeat (first | (with_reducible exact HR151.out) | (with_reducible refine Kd.C_alloc ?_ _) | (with_reducible refine Kd.C_drewN ?_ _) | (with_reducible refine Kd.C_drew ?_) | exact HR151.out)) | (with_reducible refine Kd.C_alloc ?_ _) | (with_reducible refine Kd.C_drewN ?_ _) | (with_reducible refine Kd.C_drew ?_))); (case aB => exact (by repeat (first | (with_reducible first | exact HB.out | apply below_alloc | apply pw_below_drewN | apply below_drew1) | exact HB.out))); (case aF => exact (fun k_ hk => Kd.fresh' (Kd.R_lt (by (with_reducible repeat (first | apply Kd.R_alloc | apply Kd.R_drewN | apply Kd.R_drew)); exact HO_6.out)) k_ hk)); (case aO => exact (by (with_reducible repeat (first | apply Kd.R_alloc | apply Kd.R_drewN | apply Kd.R_drew)); exact Kd.R_mono HO147.out (fun _ hk => hk.2))); (case aS => exact (below_size (by repeat (first | (with_reducible first | exact HB.out | apply below_alloc | apply pw_below_drewN | apply below_drew1) | exact HB.out)))); (case aL => have := LMc36.out; omega); intro v153 w47 ho hb hg hat; rw [← Ny152.out] at ho; have n0_ := Aside0.mk (Kd.R_after (ok := (fun _ => True)) (by (with_reducible repeat (first | apply Kd.R_alloc | apply Kd.R_drewN | apply Kd.R_drew)); exact HO_6.out) hg hat); have n1_ := Aside0.mk (hb); have n2_ := Aside0.mk ((show Kd.C k32 w47 Ao43 y148.length y148 from by rw [Ny148.out]; exact Kd.C_take (m := (x8_3 : Int).toNat) ((Kd.R_reads' (Kd.R_after (ok := (fun _ => True)) (by (with_reducible repeat (first | apply Kd.R_alloc | apply Kd.R_drewN | apply Kd.R_drew)); exact HO_6.out) hg hat)).2.2) KL46.out)); have n3_ := Aside0.mk (ho); clear HO_6; clear HB; clear HR151; clear HO147; have HO_6 := n0_; have HB := n1_; have HR151 := n2_; have HO154 := n3_; clear n0_ n1_ n2_ n3_; clear ho hb hg hat; have p155 : 0 ≤ (x7_2 : Int) := of_decide_eq_true (by first | (with_reducible assumption) | assumption); have q155 : x7_2 < (l0.length : Int) := of_decide_eq_true (by first | (with_reducible assumption) | assumption); obtain ⟨ad155, e155, hx155_0, hx155_1, hx155_2, hx155_3⟩ := at_T32 HR0.out x7_2 p155 q155; cases e155; replace hx155_0 := (HB.out.cell (World.block_lt_of_cell? w _ hx155_0)).trans hx155_0; replace hx155_1 := (HB.out.cell (World.block_lt_of_cell? w _ hx155_1)).trans hx155_1; replace hx155_2 := (HB.out.cell (World.block_lt_of_cell? w _ hx155_2)).trans hx155_2; replace hx155_3 := (HB.out.cell (World.block_lt_of_cell? w _ hx155_3)).trans hx155_3; replace p155 := eq_true p155; replace q155 := eq_true q155) | ((with_reducible refine gate_builtin (b := .append) (xs := #[.tmp 74, .tmp 79]) rfl ?_); at_builtin; refine Kd.R_append k32 (w0 := w) w.heap.size rfl (.tmp 74) (.tmp 79) 22 32 (.agg #[(.string ⟨#[]⟩), (.int .i64 0), (.int .i64 0), (.string ⟨#[]⟩)]) 48 rfl Try.underlying22 info32 rfl (by decide) (by decide) v153 y152 (⟨(rd_T32 l0 x7_2).f0, (⟨(rd_T32 l0 x7_2).f1.f0, (rd_T32 l0 x7_2).f1.f1, (rd_T32 l0 x7_2).f1.f2⟩ : S30)⟩ : S32) [.string ((rd_T32 l0 x7_2).f0), .int .i64 ((rd_T32 l0 x7_2).f1.f0), .int .i64 ((rd_T32 l0 x7_2).f1.f1), .string ((rd_T32 l0 x7_2).f1.f2)] (fun k_ => some k_ ≠ (.slice Ao43 x6_2.length co43 : Value).ownBlock) (fun _ => False) rfl rfl ?aP (fun _ hk => hk.elim) ?aF ?aO ?aB ?aS ?aL ?_; (case aP => exact k32_mkM _ _ _ (⟨(rd_T32 l0 x7_2).f0, (⟨(rd_T32 l0 x7_2).f1.f0, (rd_T32 l0 x7_2).f1.f1, (rd_T32 l0 x7_2).f1.f2⟩ : S30)⟩ : S32)); (case aB => exact (by repeat (first | (with_reducible first | exact HB.out | apply below_alloc | apply pw_below_drewN | apply below_drew1) | exact HB.out))); (case aF => exact (fun k_ hk => Kd.fresh' (Kd.R_lt (by (with_reducible repeat (first | apply Kd.R_alloc | apply Kd.R_drewN | apply Kd.R_drew)); exact HO_6.out)) k_ hk)); (case aO => exact (by (with_reducible repeat (first | apply Kd.R_alloc | apply Kd.R_drewN | apply Kd.R_drew)); exact HO154.out)); (case aS => exact (below_size (by repeat (first | (with_reducible first | exact HB.out | apply below_alloc | apply pw_below_drewN | apply below_drew1) | exact HB.out)))); (case aL => have := LMc39.out; omega); intro v157 w48 ho hb hg hat; rw [← Ny156.out] at ho; have n0_ := Aside0.mk (Kd.R_after (ok := (fun _ => True)) (by (with_reducible repeat (first | apply Kd.R_alloc | apply Kd.R_drewN | apply Kd.R_drew)); exact HO_6.out) hg hat); have n1_ := Aside0.mk (hb); have n2_ := Aside0.mk ((show Kd.C k32 w48 Ao43 y148.length y148 from by rw [Ny148.out]; exact Kd.C_take (m := (x8_3 : Int).toNat) ((Kd.R_reads' (Kd.R_after (ok := (fun _ => True)) (by (with_reducible repeat (first | apply Kd.R_alloc | apply Kd.R_drewN | apply Kd.R_drew)); exact HO_6.out) hg hat)).2.2) KL46.out)); have n3_ := Aside0.mk (ho); clear HO_6; clear HB; clear HR151; clear HO154; have HO_6 := n0_; have HB := n1_; have HR151 := n2_; have HO158 := n3_; clear n0_ n1_ n2_ n3_; clear ho hb hg hat; have q49 : (x8_3 : Int) ≤ ((x6_2.length : Int) : Int) := of_decide_eq_true (by first | (with_reducible assumption) | assumption); obtain ⟨i049, hi049, _, hsz49, _⟩ := info_parts info32; have hroom49 : x6_2.length ≤ co43 := (Kd.R_reads' HO_6.out).2.1; have hC49 : Kd.C k32 _ Ao43 x6_2.length x6_2 := (Kd.R_reads' HO_6.out).2.2; have q049 : (0 : Int) ≤ (x8_3 : Int) := of_decide_eq_true (by first | (with_reducible assumption) | assumption); have hcut49 := cut_from (P := Try.prog) 22 32 .i64 Try.underlying22 hi049 4 hsz49 Ao43 x6_2.length co43 x8_3 q049 q49; have hr49 := Kd.C_drop (m := (x8_3 : Int).toNat) (c := co43) hC49 (by omega) hroom49; obtain ⟨A49, hA49⟩ : ∃ A1, A1 = (if co43 = (x8_3 : Int).toNat then Ao43 else (Ao43 : Option Addr).map (·.add ((x8_3 : Int).toNat * 4))) := ⟨_, rfl⟩; obtain ⟨c49, hc49⟩ : ∃ c1, c1 = co43 - (x8_3 : Int).toNat := ⟨_, rfl⟩; have hy49 : y159.length = x6_2.length - (x8_3 : Int).toNat := (by rw [Ny159.out, List.length_drop] <;> omega); rw [show (x6_2).drop (x8_3 : Int).toNat = y159 from Ny159.out.symm] at hr49; replace hr49 : Kd.C k32 _ A49 y159.length y159 := (by rw [hA49]; exact hr49); rw [← hy49, ← hA49, ← hc49] at hcut49; have HR162 := Aside0.mk hr49; have HC162 := Aside0.mk (show y159.length ≤ c49 from by rw [hy49, hc49]; exact Nat.sub_le_sub_right hroom49 _); clear hr49 hC49 hroom49 hi049 hsz49 hc49; have KY49 := Aside0.mk hy49; have KA49 := Aside0.mk hA49; clear hy49 hA49; have KL49 := Aside0.mk (show (x8_3 : Int).toNat ≤ x6_2.length from by omega); replace q49 := eq_true q49) | ((with_reducible refine gate_builtin (b := .append) (xs := #[.tmp 81, .tmp 84]) rfl ?_); at_builtin; refine Kd.R_append_rows k32 (w0 := w) w.heap.size rfl (.tmp 81) (.tmp 84) 22 32 (.agg #[(.string ⟨#[]⟩), (.int .i64 0), (.int .i64 0), (.string ⟨#[]⟩)]) 48 rfl Try.underlying22 info32 rfl (by decide) (by decide) v157 y156 y159 _ _ _ (fun k_ => some k_ ≠ (.slice Ao43 x6_2.length co43 : Value).ownBlock) (fun _ => False) rfl rfl ?aO ?aR (fun _ _ h => h) (fun _ h => h.elim) ?aF ?aB ?aS ?aL ?_; (case aR => repeat (first | exact (by repeat (first | (with_reducible exact HR162.out) | (with_reducible refine Kd.C_alloc ?_ _) | (with_reducible refine Kd.C_drewN ?_ _) | (with_reducible refine Kd.C_drew ?_) | exact HR162.out)) | (with_reducible refine Kd.C_alloc ?_ _) | (with_reducible refine Kd.C_drewN ?_ _) | (with_reducible refine Kd.C_drew ?_))); (case aB => exact (by repeat (first | (with_reducible first | exact HB.out | apply below_alloc | apply pw_below_drewN | apply below_drew1) | exact HB.out))); (case aF => exact (fun k_ hk => Kd.fresh' (Kd.R_lt (by (with_reducible repeat (first | apply Kd.R_alloc | apply Kd.R_drewN | apply Kd.R_drew)); exact HO_6.out)) k_ hk)); (case aO => exact (by (with_reducible repeat (first | apply Kd.R_alloc | apply Kd.R_drewN | apply Kd.R_drew)); exact HO158.out)); (case aS => exact (below_size (by repeat (first | (with_reducible first | exact HB.out | apply below_alloc | apply pw_below_drewN | apply below_drew1) | exact HB.out)))); (case aL => have := LMc42.out; omega); intro v164 w50 ho hb hg hat; rw [← Ny163.out] at ho; have n0_ := Aside0.mk (Kd.R_after (ok := (fun _ => True)) (by (with_reducible repeat (first | apply Kd.R_alloc | apply Kd.R_drewN | apply Kd.R_drew)); exact HO_6.out) hg hat); have n1_ := Aside0.mk (hb); have n2_ := Aside0.mk ((show Kd.C k32 w50 Ao43 y148.length y148 from by rw [Ny148.out]; exact Kd.C_take (m := (x8_3 : Int).toNat) ((Kd.R_reads' (Kd.R_after (ok := (fun _ => True)) (by (with_reducible repeat (first | apply Kd.R_alloc | apply Kd.R_drewN | apply Kd.R_drew)); exact HO_6.out) hg hat)).2.2) KL46.out)); have n3_ := Aside0.mk ((show Kd.C k32 w50 A49 y159.length y159 from by rw [Ny159.out, KA49.out]; exact Kd.C_drop (m := (x8_3 : Int).toNat) (c := co43) ((Kd.R_reads' (Kd.R_after (ok := (fun _ => True)) (by (with_reducible repeat (first | apply Kd.R_alloc | apply Kd.R_drewN | apply Kd.R_drew)); exact HO_6.out) hg hat)).2.2) KL49.out ((Kd.R_reads' (Kd.R_after (ok := (fun _ => True)) (by (with_reducible repeat (first | apply Kd.R_alloc | apply Kd.R_drewN | apply Kd.R_drew)); exact HO_6.out) hg hat)).2.1))); have n4_ := Aside0.mk (ho); clear HO_6; clear HB; clear HR151; clear HR162; clear HO158; have HO_6 := n0_; have HB := n1_; have HR151 := n2_; have HR162 := n3_; have HO165 := n4_; clear n0_ n1_ n2_ n3_ n4_; clear ho hb hg hat))
                                    repeat (go_quiet (first | ((with_reducible refine gate_dst (N := 69) rfl ?_); refine Kd.R_lit k32 _ 32 ?hg (N := 69) ?hd (xs := ([] : List (S32))) (inner := []) (ok := fun _ => True) (okp := fun _ => True) ?hr ?hp (fun _ hk => hk) trivial (Below.refl _ _) (Nat.le_refl _) (by simp) ?_; (case hd => rfl); (case hg => rfl); (case hr => first | (go_simp; done) | (go_simp; rfl)); (case hp => exact (Reps.none _ _)); intro v146 w44 ho45 hb hg_ hnew_; clear hg_ hnew_; (first | rw [← Ny145.out] at ho45 | (simp only [Int.reduceToNat] at ho45; rw [← Ny145.out] at ho45)); have n0_ := Aside0.mk (Kd.R_elder' (by (with_reducible repeat (first | apply Kd.R_alloc | apply Kd.R_drewN | apply Kd.R_drew)); exact HO_6.out) (Kd.R_base ho45) hb); have n1_ := Aside0.mk (Kd.R_lower (Kd.R_new' ho45 (Kd.R_lt (by (with_reducible repeat (first | apply Kd.R_alloc | apply Kd.R_drewN | apply Kd.R_drew)); exact HO_6.out))) (below_size (by repeat (first | (with_reducible first | exact HB.out | apply below_alloc | apply pw_below_drewN | apply below_drew1) | exact HB.out)))); have n2_ := Aside0.mk (below_step (by repeat (first | (with_reducible first | exact HB.out | apply below_alloc | apply pw_below_drewN | apply below_drew1) | exact HB.out)) hb); clear HO_6; clear HB; have HO_6 := n0_; have HO147 := n1_; have HB := n2_; clear n0_ n1_ n2_; clear hb ho45; have q46 : (x8_3 : Int) ≤ ((x6_2.length : Int) : Int) := of_decide_eq_true (by first | (with_reducible assumption) | assumption); obtain ⟨i046, hi046, _, hsz46, _⟩ := info_parts info32; have hroom46 : x6_2.length ≤ co43 := (Kd.R_reads' HO_6.out).2.1; have hC46 : Kd.C k32 _ Ao43 x6_2.length x6_2 := (Kd.R_reads' HO_6.out).2.2; have hcut46 := cut_to (P := Try.prog) 22 32 .i64 Try.underlying22 hi046 Ao43 x6_2.length co43 x8_3 (of_decide_eq_true (by first | (with_reducible assumption) | assumption)) q46 hroom46; have hr46 := Kd.C_take (m := (x8_3 : Int).toNat) hC46 (by omega); have hy46 : y148.length = (x8_3 : Int).toNat := (by rw [Ny148.out, List.length_take]; omega); rw [← Ny148.out] at hr46; rw [← hy46] at hcut46; have HR151 := Aside0.mk hr46; have HC151 := Aside0.mk (show y148.length ≤ co43 from by omega); clear hr46 hC46 hroom46 hi046 hsz46; have KY46 := Aside0.mk hy46; clear hy46; have KL46 := Aside0.mk (show (x8_3 : Int).toNat ≤ x6_2.length from by omega); replace q46 := eq_true q46) | ((with_reducible refine gate_builtin (b := .append) (xs := #[.tmp 69, .tmp 72]) rfl ?_); at_builtin; refine Kd.R_append_rows k32 (w0 := w) w.heap.size rfl (.tmp 69) (.tmp 72) 22 32 (.agg #[(.string ⟨#[]⟩), (.int .i64 0), (.int .i64 0), (.string ⟨#[]⟩)]) 48 rfl Try.underlying22 info32 rfl (by decide) (by decide) v146 y145 y148 _ _ _ (fun k_ => some k_ ≠ (.slice Ao43 x6_2.length co43 : Value).ownBlock) (fun _ => False) rfl rfl ?aO ?aR (fun _ _ h => h) (fun _ h => h.elim) ?aF ?aB ?aS ?aL ?_; (case aR => repeat (first | exact (by repeat (first | (with_reducible exact HR151.out) | (with_reducible refine Kd.C_alloc ?_ _) | (with_reducible refine Kd.C_drewN ?_ _) | (with_reducible refine Kd.C_drew ?_) | exact HR151.out)) | (with_reducible refine Kd.C_alloc ?_ _) | (with_reducible refine Kd.C_drewN ?_ _) | (with_reducible refine Kd.C_drew ?_))); (case aB => exact (by repeat (first | (with_reducible first | exact HB.out | apply below_alloc | apply pw_below_drewN | apply below_drew1) | exact HB.out))); (case aF => exact (fun k_ hk => Kd.fresh' (Kd.R_lt (by (with_reducible repeat (first | apply Kd.R_alloc | apply Kd.R_drewN | apply Kd.R_drew)); exact HO_6.out)) k_ hk)); (case aO => exact (by (with_reducible repeat (first | apply Kd.R_alloc | apply Kd.R_drewN | apply Kd.R_drew)); exact Kd.R_mono HO147.out (fun _ hk => hk.2))); (case aS => exact (below_size (by repeat (first | (with_reducible first | exact HB.out | apply below_alloc | apply pw_below_drewN | apply below_drew1) | exact HB.out)))); (case aL => have := LMc36.out; omega); intro v153 w47 ho hb hg hat; rw [← Ny152.out] at ho; have n0_ := Aside0.mk (Kd.R_after (ok := (fun _ => True)) (by (with_reducible repeat (first | apply Kd.R_alloc | apply Kd.R_drewN | apply Kd.R_drew)); exact HO_6.out) hg hat); have n1_ := Aside0.mk (hb); have n2_ := Aside0.mk ((show Kd.C k32 w47 Ao43 y148.length y148 from by rw [Ny148.out]; exact Kd.C_take (m := (x8_3 : Int).toNat) ((Kd.R_reads' (Kd.R_after (ok := (fun _ => True)) (by (with_reducible repeat (first | apply Kd.R_alloc | apply Kd.R_drewN | apply Kd.R_drew)); exact HO_6.out) hg hat)).2.2) KL46.out)); have n3_ := Aside0.mk (ho); clear HO_6; clear HB; clear HR151; clear HO147; have HO_6 := n0_; have HB := n1_; have HR151 := n2_; have HO154 := n3_; clear n0_ n1_ n2_ n3_; clear ho hb hg hat; have p155 : 0 ≤ (x7_2 : Int) := of_decide_eq_true (by first | (with_reducible assumption) | assumption); have q155 : x7_2 < (l0.length : Int) := of_decide_eq_true (by first | (with_reducible assumption) | assumption); obtain ⟨ad155, e155, hx155_0, hx155_1, hx155_2, hx155_3⟩ := at_T32 HR0.out x7_2 p155 q155; cases e155; replace hx155_0 := (HB.out.cell (World.block_lt_of_cell? w _ hx155_0)).trans hx155_0; replace hx155_1 := (HB.out.cell (World.block_lt_of_cell? w _ hx155_1)).trans hx155_1; replace hx155_2 := (HB.out.cell (World.block_lt_of_cell? w _ hx155_2)).trans hx155_2; replace hx155_3 := (HB.out.cell (World.block_lt_of_cell? w _ hx155_3)).trans hx155_3; replace p155 := eq_true p155; replace q155 := eq_true q155) | ((with_reducible refine gate_builtin (b := .append) (xs := #[.tmp 74, .tmp 79]) rfl ?_); at_builtin; refine Kd.R_append k32 (w0 := w) w.heap.size rfl (.tmp 74) (.tmp 79) 22 32 (.agg #[(.string ⟨#[]⟩), (.int .i64 0), (.int .i64 0), (.string ⟨#[]⟩)]) 48 rfl Try.underlying22 info32 rfl (by decide) (by decide) v153 y152 (⟨(rd_T32 l0 x7_2).f0, (⟨(rd_T32 l0 x7_2).f1.f0, (rd_T32 l0 x7_2).f1.f1, (rd_T32 l0 x7_2).f1.f2⟩ : S30)⟩ : S32) [.string ((rd_T32 l0 x7_2).f0), .int .i64 ((rd_T32 l0 x7_2).f1.f0), .int .i64 ((rd_T32 l0 x7_2).f1.f1), .string ((rd_T32 l0 x7_2).f1.f2)] (fun k_ => some k_ ≠ (.slice Ao43 x6_2.length co43 : Value).ownBlock) (fun _ => False) rfl rfl ?aP (fun _ hk => hk.elim) ?aF ?aO ?aB ?aS ?aL ?_; (case aP => exact k32_mkM _ _ _ (⟨(rd_T32 l0 x7_2).f0, (⟨(rd_T32 l0 x7_2).f1.f0, (rd_T32 l0 x7_2).f1.f1, (rd_T32 l0 x7_2).f1.f2⟩ : S30)⟩ : S32)); (case aB => exact (by repeat (first | (with_reducible first | exact HB.out | apply below_alloc | apply pw_below_drewN | apply below_drew1) | exact HB.out))); (case aF => exact (fun k_ hk => Kd.fresh' (Kd.R_lt (by (with_reducible repeat (first | apply Kd.R_alloc | apply Kd.R_drewN | apply Kd.R_drew)); exact HO_6.out)) k_ hk)); (case aO => exact (by (with_reducible repeat (first | apply Kd.R_alloc | apply Kd.R_drewN | apply Kd.R_drew)); exact HO154.out)); (case aS => exact (below_size (by repeat (first | (with_reducible first | exact HB.out | apply below_alloc | apply pw_below_drewN | apply below_drew1) | exact HB.out)))); (case aL => have := LMc39.out; omega); intro v157 w48 ho hb hg hat; rw [← Ny156.out] at ho; have n0_ := Aside0.mk (Kd.R_after (ok := (fun _ => True)) (by (with_reducible repeat (first | apply Kd.R_alloc | apply Kd.R_drewN | apply Kd.R_drew)); exact HO_6.out) hg hat); have n1_ := Aside0.mk (hb); have n2_ := Aside0.mk ((show Kd.C k32 w48 Ao43 y148.length y148 from by rw [Ny148.out]; exact Kd.C_take (m := (x8_3 : Int).toNat) ((Kd.R_reads' (Kd.R_after (ok := (fun _ => True)) (by (with_reducible repeat (first | apply Kd.R_alloc | apply Kd.R_drewN | apply Kd.R_drew)); exact HO_6.out) hg hat)).2.2) KL46.out)); have n3_ := Aside0.mk (ho); clear HO_6; clear HB; clear HR151; clear HO154; have HO_6 := n0_; have HB := n1_; have HR151 := n2_; have HO158 := n3_; clear n0_ n1_ n2_ n3_; clear ho hb hg hat; have q49 : (x8_3 : Int) ≤ ((x6_2.length : Int) : Int) := of_decide_eq_true (by first | (with_reducible assumption) | assumption); obtain ⟨i049, hi049, _, hsz49, _⟩ := info_parts info32; have hroom49 : x6_2.length ≤ co43 := (Kd.R_reads' HO_6.out).2.1; have hC49 : Kd.C k32 _ Ao43 x6_2.length x6_2 := (Kd.R_reads' HO_6.out).2.2; have q049 : (0 : Int) ≤ (x8_3 : Int) := of_decide_eq_true (by first | (with_reducible assumption) | assumption); have hcut49 := cut_from (P := Try.prog) 22 32 .i64 Try.underlying22 hi049 4 hsz49 Ao43 x6_2.length co43 x8_3 q049 q49; have hr49 := Kd.C_drop (m := (x8_3 : Int).toNat) (c := co43) hC49 (by omega) hroom49; obtain ⟨A49, hA49⟩ : ∃ A1, A1 = (if co43 = (x8_3 : Int).toNat then Ao43 else (Ao43 : Option Addr).map (·.add ((x8_3 : Int).toNat * 4))) := ⟨_, rfl⟩; obtain ⟨c49, hc49⟩ : ∃ c1, c1 = co43 - (x8_3 : Int).toNat := ⟨_, rfl⟩; have hy49 : y159.length = x6_2.length - (x8_3 : Int).toNat := (by rw [Ny159.out, List.length_drop] <;> omega); rw [show (x6_2).drop (x8_3 : Int).toNat = y159 from Ny159.out.symm] at hr49; replace hr49 : Kd.C k32 _ A49 y159.length y159 := (by rw [hA49]; exact hr49); rw [← hy49, ← hA49, ← hc49] at hcut49; have HR162 := Aside0.mk hr49; have HC162 := Aside0.mk (show y159.length ≤ c49 from by rw [hy49, hc49]; exact Nat.sub_le_sub_right hroom49 _); clear hr49 hC49 hroom49 hi049 hsz49 hc49; have KY49 := Aside0.mk hy49; have KA49 := Aside0.mk hA49; clear hy49 hA49; have KL49 := Aside0.mk (show (x8_3 : Int).toNat ≤ x6_2.length from by omega); replace q49 := eq_true q49) | ((with_reducible refine gate_builtin (b := .append) (xs := #[.tmp 81, .tmp 84]) rfl ?_); at_builtin; refine Kd.R_append_rows k32 (w0 := w) w.heap.size rfl (.tmp 81) (.tmp 84) 22 32 (.agg #[(.string ⟨#[]⟩), (.int .i64 0), (.int .i64 0), (.string ⟨#[]⟩)]) 48 rfl Try.underlying22 info32 rfl (by decide) (by decide) v157 y156 y159 _ _ _ (fun k_ => some k_ ≠ (.slice Ao43 x6_2.length co43 : Value).ownBlock) (fun _ => False) rfl rfl ?aO ?aR (fun _ _ h => h) (fun _ h => h.elim) ?aF ?aB ?aS ?aL ?_; (case aR => repeat (first | exact (by repeat (first | (with_reducible exact HR162.out) | (with_reducible refine Kd.C_alloc ?_ _) | (with_reducible refine Kd.C_drewN ?_ _) | (with_reducible refine Kd.C_drew ?_) | exact HR162.out)) | (with_reducible refine Kd.C_alloc ?_ _) | (with_reducible refine Kd.C_drewN ?_ _) | (with_reducible refine Kd.C_drew ?_))); (case aB => exact (by repeat (first | (with_reducible first | exact HB.out | apply below_alloc | apply pw_below_drewN | apply below_drew1) | exact HB.out))); (case aF => exact (fun k_ hk => Kd.fresh' (Kd.R_lt (by (with_reducible repeat (first | apply Kd.R_alloc | apply Kd.R_drewN | apply Kd.R_drew)); exact HO_6.out)) k_ hk)); (case aO => exact (by (with_reducible repeat (first | apply Kd.R_alloc | apply Kd.R_drewN | apply Kd.R_drew)); exact HO158.out)); (case aS => exact (below_size (by repeat (first | (with_reducible first | exact HB.out | apply below_alloc | apply pw_below_drewN | apply below_drew1) | exact HB.out)))); (case aL => have := LMc42.out; omega); intro v164 w50 ho hb hg hat; rw [← Ny163.out] at ho; have n0_ := Aside0.mk (Kd.R_after (ok := (fun _ => True)) (by (with_reducible repeat (first | apply Kd.R_alloc | apply Kd.R_drewN | apply Kd.R_drew)); exact HO_6.out) hg hat); have n1_ := Aside0.mk (hb); have n2_ := Aside0.mk ((show Kd.C k32 w50 Ao43 y148.length y148 from by rw [Ny148.out]; exact Kd.C_take (m := (x8_3 : Int).toNat) ((Kd.R_reads' (Kd.R_after (ok := (fun _ => True)) (by (with_reducible repeat (first | apply Kd.R_alloc | apply Kd.R_drewN | apply Kd.R_drew)); exact HO_6.out) hg hat)).2.2) KL46.out)); have n3_ := Aside0.mk ((show Kd.C k32 w50 A49 y159.length y159 from by rw [Ny159.out, KA49.out]; exact Kd.C_drop (m := (x8_3 : Int).toNat) (c := co43) ((Kd.R_reads' (Kd.R_after (ok := (fun _ => True)) (by (with_reducible repeat (first | apply Kd.R_alloc | apply Kd.R_drewN | apply Kd.R_drew)); exact HO_6.out) hg hat)).2.2) KL49.out ((Kd.R_reads' (Kd.R_after (ok := (fun _ => True)) (by (with_reducible repeat (first | apply Kd.R_alloc | apply Kd.R_drewN | apply Kd.R_drew)); exact HO_6.out) hg hat)).2.1))); have n4_ := Aside0.mk (ho); clear HO_6; clear HB; clear HR151; clear HR162; clear HO158; have HO_6 := n0_; have HB := n1_; have HR151 := n2_; have HR162 := n3_; have HO165 := n4_; clear n0_ n1_ n2_ n3_ n4_; clear ho hb hg hat)); try go_wp2_with (first | ((with_reducible refine gate_dst (N := 69) rfl ?_); refine Kd.R_lit k32 _ 32 ?hg (N := 69) ?hd (xs := ([] : List (S32))) (inner := []) (ok := fun _ => True) (okp := fun _ => True) ?hr ?hp (fun _ hk => hk) trivial (Below.refl _ _) (Nat.le_refl _) (by simp) ?_; (case hd => rfl); (case hg => rfl); (case hr => first | (go_simp; done) | (go_simp; rfl)); (case hp => exact (Reps.none _ _)); intro v146 w44 ho45 hb hg_ hnew_; clear hg_ hnew_; (first | rw [← Ny145.out] at ho45 | (simp only [Int.reduceToNat] at ho45; rw [← Ny145.out] at ho45)); have n0_ := Aside0.mk (Kd.R_elder' (by (with_reducible repeat (first | apply Kd.R_alloc | apply Kd.R_drewN | apply Kd.R_drew)); exact HO_6.out) (Kd.R_base ho45) hb); have n1_ := Aside0.mk (Kd.R_lower (Kd.R_new' ho45 (Kd.R_lt (by (with_reducible repeat (first | apply Kd.R_alloc | apply Kd.R_drewN | apply Kd.R_drew)); exact HO_6.out))) (below_size (by repeat (first | (with_reducible first | exact HB.out | apply below_alloc | apply pw_below_drewN | apply below_drew1) | exact HB.out)))); have n2_ := Aside0.mk (below_step (by repeat (first | (with_reducible first | exact HB.out | apply below_alloc | apply pw_below_drewN | apply below_drew1) | exact HB.out)) hb); clear HO_6; clear HB; have HO_6 := n0_; have HO147 := n1_; have HB := n2_; clear n0_ n1_ n2_; clear hb ho45; have q46 : (x8_3 : Int) ≤ ((x6_2.length : Int) : Int) := of_decide_eq_true (by first | (with_reducible assumption) | assumption); obtain ⟨i046, hi046, _, hsz46, _⟩ := info_parts info32; have hroom46 : x6_2.length ≤ co43 := (Kd.R_reads' HO_6.out).2.1; have hC46 : Kd.C k32 _ Ao43 x6_2.length x6_2 := (Kd.R_reads' HO_6.out).2.2; have hcut46 := cut_to (P := Try.prog) 22 32 .i64 Try.underlying22 hi046 Ao43 x6_2.length co43 x8_3 (of_decide_eq_true (by first | (with_reducible assumption) | assumption)) q46 hroom46; have hr46 := Kd.C_take (m := (x8_3 : Int).toNat) hC46 (by omega); have hy46 : y148.length = (x8_3 : Int).toNat := (by rw [Ny148.out, List.length_take]; omega); rw [← Ny148.out] at hr46; rw [← hy46] at hcut46; have HR151 := Aside0.mk hr46; have HC151 := Aside0.mk (show y148.length ≤ co43 from by omega); clear hr46 hC46 hroom46 hi046 hsz46; have KY46 := Aside0.mk hy46; clear hy46; have KL46 := Aside0.mk (show (x8_3 : Int).toNat ≤ x6_2.length from by omega); replace q46 := eq_true q46) | ((with_reducible refine gate_builtin (b := .append) (xs := #[.tmp 69, .tmp 72]) rfl ?_); at_builtin; refine Kd.R_append_rows k32 (w0 := w) w.heap.size rfl (.tmp 69) (.tmp 72) 22 32 (.agg #[(.string ⟨#[]⟩), (.int .i64 0), (.int .i64 0), (.string ⟨#[]⟩)]) 48 rfl Try.underlying22 info32 rfl (by decide) (by decide) v146 y145 y148 _ _ _ (fun k_ => some k_ ≠ (.slice Ao43 x6_2.length co43 : Value).ownBlock) (fun _ => False) rfl rfl ?aO ?aR (fun _ _ h => h) (fun _ h => h.elim) ?aF ?aB ?aS ?aL ?_; (case aR => repeat (first | exact (by repeat (first | (with_reducible exact HR151.out) | (with_reducible refine Kd.C_alloc ?_ _) | (with_reducible refine Kd.C_drewN ?_ _) | (with_reducible refine Kd.C_drew ?_) | exact HR151.out)) | (with_reducible refine Kd.C_alloc ?_ _) | (with_reducible refine Kd.C_drewN ?_ _) | (with_reducible refine Kd.C_drew ?_))); (case aB => exact (by repeat (first | (with_reducible first | exact HB.out | apply below_alloc | apply pw_below_drewN | apply below_drew1) | exact HB.out))); (case aF => exact (fun k_ hk => Kd.fresh' (Kd.R_lt (by (with_reducible repeat (first | apply Kd.R_alloc | apply Kd.R_drewN | apply Kd.R_drew)); exact HO_6.out)) k_ hk)); (case aO => exact (by (with_reducible repeat (first | apply Kd.R_alloc | apply Kd.R_drewN | apply Kd.R_drew)); exact Kd.R_mono HO147.out (fun _ hk => hk.2))); (case aS => exact (below_size (by repeat (first | (with_reducible first | exact HB.out | apply below_alloc | apply pw_below_drewN | apply below_drew1) | exact HB.out)))); (case aL => have := LMc36.out; omega); intro v153 w47 ho hb hg hat; rw [← Ny152.out] at ho; have n0_ := Aside0.mk (Kd.R_after (ok := (fun _ => True)) (by (with_reducible repeat (first | apply Kd.R_alloc | apply Kd.R_drewN | apply Kd.R_drew)); exact HO_6.out) hg hat); have n1_ := Aside0.mk (hb); have n2_ := Aside0.mk ((show Kd.C k32 w47 Ao43 y148.length y148 from by rw [Ny148.out]; exact Kd.C_take (m := (x8_3 : Int).toNat) ((Kd.R_reads' (Kd.R_after (ok := (fun _ => True)) (by (with_reducible repeat (first | apply Kd.R_alloc | apply Kd.R_drewN | apply Kd.R_drew)); exact HO_6.out) hg hat)).2.2) KL46.out)); have n3_ := Aside0.mk (ho); clear HO_6; clear HB; clear HR151; clear HO147; have HO_6 := n0_; have HB := n1_; have HR151 := n2_; have HO154 := n3_; clear n0_ n1_ n2_ n3_; clear ho hb hg hat; have p155 : 0 ≤ (x7_2 : Int) := of_decide_eq_true (by first | (with_reducible assumption) | assumption); have q155 : x7_2 < (l0.length : Int) := of_decide_eq_true (by first | (with_reducible assumption) | assumption); obtain ⟨ad155, e155, hx155_0, hx155_1, hx155_2, hx155_3⟩ := at_T32 HR0.out x7_2 p155 q155; cases e155; replace hx155_0 := (HB.out.cell (World.block_lt_of_cell? w _ hx155_0)).trans hx155_0; replace hx155_1 := (HB.out.cell (World.block_lt_of_cell? w _ hx155_1)).trans hx155_1; replace hx155_2 := (HB.out.cell (World.block_lt_of_cell? w _ hx155_2)).trans hx155_2; replace hx155_3 := (HB.out.cell (World.block_lt_of_cell? w _ hx155_3)).trans hx155_3; replace p155 := eq_true p155; replace q155 := eq_true q155) | ((with_reducible refine gate_builtin (b := .append) (xs := #[.tmp 74, .tmp 79]) rfl ?_); at_builtin; refine Kd.R_append k32 (w0 := w) w.heap.size rfl (.tmp 74) (.tmp 79) 22 32 (.agg #[(.string ⟨#[]⟩), (.int .i64 0), (.int .i64 0), (.string ⟨#[]⟩)]) 48 rfl Try.underlying22 info32 rfl (by decide) (by decide) v153 y152 (⟨(rd_T32 l0 x7_2).f0, (⟨(rd_T32 l0 x7_2).f1.f0, (rd_T32 l0 x7_2).f1.f1, (rd_T32 l0 x7_2).f1.f2⟩ : S30)⟩ : S32) [.string ((rd_T32 l0 x7_2).f0), .int .i64 ((rd_T32 l0 x7_2).f1.f0), .int .i64 ((rd_T32 l0 x7_2).f1.f1), .string ((rd_T32 l0 x7_2).f1.f2)] (fun k_ => some k_ ≠ (.slice Ao43 x6_2.length co43 : Value).ownBlock) (fun _ => False) rfl rfl ?aP (fun _ hk => hk.elim) ?aF ?aO ?aB ?aS ?aL ?_; (case aP => exact k32_mkM _ _ _ (⟨(rd_T32 l0 x7_2).f0, (⟨(rd_T32 l0 x7_2).f1.f0, (rd_T32 l0 x7_2).f1.f1, (rd_T32 l0 x7_2).f1.f2⟩ : S30)⟩ : S32)); (case aB => exact (by repeat (first | (with_reducible first | exact HB.out | apply below_alloc | apply pw_below_drewN | apply below_drew1) | exact HB.out))); (case aF => exact (fun k_ hk => Kd.fresh' (Kd.R_lt (by (with_reducible repeat (first | apply Kd.R_alloc | apply Kd.R_drewN | apply Kd.R_drew)); exact HO_6.out)) k_ hk)); (case aO => exact (by (with_reducible repeat (first | apply Kd.R_alloc | apply Kd.R_drewN | apply Kd.R_drew)); exact HO154.out)); (case aS => exact (below_size (by repeat (first | (with_reducible first | exact HB.out | apply below_alloc | apply pw_below_drewN | apply below_drew1) | exact HB.out)))); (case aL => have := LMc39.out; omega); intro v157 w48 ho hb hg hat; rw [← Ny156.out] at ho; have n0_ := Aside0.mk (Kd.R_after (ok := (fun _ => True)) (by (with_reducible repeat (first | apply Kd.R_alloc | apply Kd.R_drewN | apply Kd.R_drew)); exact HO_6.out) hg hat); have n1_ := Aside0.mk (hb); have n2_ := Aside0.mk ((show Kd.C k32 w48 Ao43 y148.length y148 from by rw [Ny148.out]; exact Kd.C_take (m := (x8_3 : Int).toNat) ((Kd.R_reads' (Kd.R_after (ok := (fun _ => True)) (by (with_reducible repeat (first | apply Kd.R_alloc | apply Kd.R_drewN | apply Kd.R_drew)); exact HO_6.out) hg hat)).2.2) KL46.out)); have n3_ := Aside0.mk (ho); clear HO_6; clear HB; clear HR151; clear HO154; have HO_6 := n0_; have HB := n1_; have HR151 := n2_; have HO158 := n3_; clear n0_ n1_ n2_ n3_; clear ho hb hg hat; have q49 : (x8_3 : Int) ≤ ((x6_2.length : Int) : Int) := of_decide_eq_true (by first | (with_reducible assumption) | assumption); obtain ⟨i049, hi049, _, hsz49, _⟩ := info_parts info32; have hroom49 : x6_2.length ≤ co43 := (Kd.R_reads' HO_6.out).2.1; have hC49 : Kd.C k32 _ Ao43 x6_2.length x6_2 := (Kd.R_reads' HO_6.out).2.2; have q049 : (0 : Int) ≤ (x8_3 : Int) := of_decide_eq_true (by first | (with_reducible assumption) | assumption); have hcut49 := cut_from (P := Try.prog) 22 32 .i64 Try.underlying22 hi049 4 hsz49 Ao43 x6_2.length co43 x8_3 q049 q49; have hr49 := Kd.C_drop (m := (x8_3 : Int).toNat) (c := co43) hC49 (by omega) hroom49; obtain ⟨A49, hA49⟩ : ∃ A1, A1 = (if co43 = (x8_3 : Int).toNat then Ao43 else (Ao43 : Option Addr).map (·.add ((x8_3 : Int).toNat * 4))) := ⟨_, rfl⟩; obtain ⟨c49, hc49⟩ : ∃ c1, c1 = co43 - (x8_3 : Int).toNat := ⟨_, rfl⟩; have hy49 : y159.length = x6_2.length - (x8_3 : Int).toNat := (by rw [Ny159.out, List.length_drop] <;> omega); rw [show (x6_2).drop (x8_3 : Int).toNat = y159 from Ny159.out.symm] at hr49; replace hr49 : Kd.C k32 _ A49 y159.length y159 := (by rw [hA49]; exact hr49); rw [← hy49, ← hA49, ← hc49] at hcut49; have HR162 := Aside0.mk hr49; have HC162 := Aside0.mk (show y159.length ≤ c49 from by rw [hy49, hc49]; exact Nat.sub_le_sub_right hroom49 _); clear hr49 hC49 hroom49 hi049 hsz49 hc49; have KY49 := Aside0.mk hy49; have KA49 := Aside0.mk hA49; clear hy49 hA49; have KL49 := Aside0.mk (show (x8_3 : Int).toNat ≤ x6_2.length from by omega); replace q49 := eq_true q49) | ((with_reducible refine gate_builtin (b := .append) (xs := #[.tmp 81, .tmp 84]) rfl ?_); at_builtin; refine Kd.R_append_rows k32 (w0 := w) w.heap.size rfl (.tmp 81) (.tmp 84) 22 32 (.agg #[(.string ⟨#[]⟩), (.int .i64 0), (.int .i64 0), (.string ⟨#[]⟩)]) 48 rfl Try.underlying22 info32 rfl (by decide) (by decide) v157 y156 y159 _ _ _ (fun k_ => some k_ ≠ (.slice Ao43 x6_2.length co43 : Value).ownBlock) (fun _ => False) rfl rfl ?aO ?aR (fun _ _ h => h) (fun _ h => h.elim) ?aF ?aB ?aS ?aL ?_; (case aR => repeat (first | exact (by repeat (first | (with_reducible exact HR162.out) | (with_reducible refine Kd.C_alloc ?_ _) | (with_reducible refine Kd.C_drewN ?_ _) | (with_reducible refine Kd.C_drew ?_) | exact HR162.out)) | (with_reducible refine Kd.C_alloc ?_ _) | (with_reducible refine Kd.C_drewN ?_ _) | (with_reducible refine Kd.C_drew ?_))); (case aB => exact (by repeat (first | (with_reducible first | exact HB.out | apply below_alloc | apply pw_below_drewN | apply below_drew1) | exact HB.out))); (case aF => exact (fun k_ hk => Kd.fresh' (Kd.R_lt (by (with_reducible repeat (first | apply Kd.R_alloc | apply Kd.R_drewN | apply Kd.R_drew)); exact HO_6.out)) k_ hk)); (case aO => exact (by (with_reducible repeat (first | apply Kd.R_alloc | apply Kd.R_drewN | apply Kd.R_drew)); exact HO158.out)); (case aS => exact (below_size (by repeat (first | (with_reducible first | exact HB.out | apply below_alloc | apply pw_below_drewN | apply below_drew1) | exact HB.out)))); (case aL => have := LMc42.out; omega); intro v164 w50 ho hb hg hat; rw [← Ny163.out] at ho; have n0_ := Aside0.mk (Kd.R_after (ok := (fun _ => True)) (by (with_reducible repeat (first | apply Kd.R_alloc | apply Kd.R_drewN | apply Kd.R_drew)); exact HO_6.out) hg hat); have n1_ := Aside0.mk (hb); have n2_ := Aside0.mk ((show Kd.C k32 w50 Ao43 y148.length y148 from by rw [Ny148.out]; exact Kd.C_take (m := (x8_3 : Int).toNat) ((Kd.R_reads' (Kd.R_after (ok := (fun _ => True)) (by (with_reducible repeat (first | apply Kd.R_alloc | apply Kd.R_drewN | apply Kd.R_drew)); exact HO_6.out) hg hat)).2.2) KL46.out)); have n3_ := Aside0.mk ((show Kd.C k32 w50 A49 y159.length y159 from by rw [Ny159.out, KA49.out]; exact Kd.C_drop (m := (x8_3 : Int).toNat) (c := co43) ((Kd.R_reads' (Kd.R_after (ok := (fun _ => True)) (by (with_reducible repeat (first | apply Kd.R_alloc | apply Kd.R_drewN | apply Kd.R_drew)); exact HO_6.out) hg hat)).2.2) KL49.out ((Kd.R_reads' (Kd.R_after (ok := (fun _ => True)) (by (with_reducible repeat (first | apply Kd.R_alloc | apply Kd.R_drewN | apply Kd.R_drew)); exact HO_6.out) hg hat)).2.1))); have n4_ := Aside0.mk (ho); clear HO_6; clear HB; clear HR151; clear HR162; clear HO158; have HO_6 := n0_; have HB := n1_; have HR151 := n2_; have HR162 := n3_; have HO165 := n4_; clear n0_ n1_ n2_ n3_ n4_; clear ho hb hg hat)))
                                    go_roundg k3
                                    case measure => have := HK1.out; have := HK2.out; have := HK3.out; omega
                                    case rel => exact ⟨(y163), (wrap64 (x7_2 + 1)), (by first | rfl | (simp; done) | (simp [*]; done)), H', ⟨by have := HK1.out; have := HK2.out; have := HK3.out; omega⟩, ⟨by (with_reducible repeat (first | apply Kd.R_alloc | apply Kd.R_drewN | apply Kd.R_drew)); exact Kd.R_mono HO165.out (fun _ hk => trivial)⟩, ⟨by repeat (first | (with_reducible first | exact HB.out | apply below_alloc | apply pw_below_drewN | apply below_drew1) | exact HB.out)⟩⟩
                                  · rw [if_neg c42] at H
                                    exact absurd H (by simp)
                                · rw [if_neg c39] at H
                                  exact absurd H (by simp)
                              · rw [if_neg c38] at H
                                exact absurd H (by simp)
                            · rw [if_neg c37] at H
                              exact absurd H (by simp)
                          · rw [if_neg c36] at H
                            exact absurd H (by simp)
                        · rw [if_neg c35] at H
                          exact absurd H (by simp)
                      · rw [if_neg c34] at H
                        exact absurd H (by simp)
              · rw [if_neg c9] at H
                have c9b0 : decide (x7_2 < (l0.length : Int)) = false := decide_eq_false c9
                clear c9
                simp only [Option.some.injEq, Prod.mk.injEq] at H
                obtain ⟨rfl, rfl⟩ := H
                go_wp2
                repeat (go_quiet (fail); try go_wp2)
                go_ret2
                exact ⟨_, by first | rfl | (simp [errW_none, errW_some] <;> rfl) | (simp [*, errW_none, errW_some] <;> rfl), by (with_reducible repeat (first | apply Kd.R_alloc | apply Kd.R_drewN | apply Kd.R_drew)); exact HO_6.out, by repeat (first | (with_reducible first | exact HB.out | apply below_alloc | apply pw_below_drewN | apply below_drew1) | exact HB.out)⟩

end Go.Proofs.Ytmbpgebboppkmaa.G
end

section
-- Written by a program of this session (wip/tools/myprint.py), over the kit's print.
namespace Go.Proofs.Ytmbpgebboppkmaa.G
open Go.RowKit Go.Proofs.YtmbpgebboppkmaaW.PrintWords Go.Proofs.YtmbpgebboppkmaaW.PrintLast Go.Proofs.YtmbpgebboppkmaaW.PrintMore
attribute [local go_sem] max2_int min2_int max_two min_two max_three min_three max_four min_four   -- for this text's walks alone
set_option linter.unusedVariables false
set_option linter.unusedSimpArgs false

/-! ### rosetteref05_Right: function 14 -/
def rosetteref05_Right.l0 : Nat → List (S32) → Int → Option (Bool)
  | 0, _, _ => none
  | k + 1, x0, x3 => if x3 < (x0.length : Int) then (if 0 ≤ x3 then ((rosetteref05_one.f ((rd_T32 x0 x3).f0) ((rd_T32 x0 x3).f1.f0) ((rd_T32 x0 x3).f1.f1) ((rd_T32 x0 x3).f1.f2)).bind fun t167 => (if t167 = true then (if x3 > 0 then (if 0 ≤ (wrap64 (x3 - 1)) then (if (wrap64 (x3 - 1)) < (x0.length : Int) then ((rosetteref04_Text.f k ((rd_T32 x0 (wrap64 (x3 - 1))).f0) ((rd_T32 x0 x3).f0)).bind fun t170 => (if t170 ≥ 0 then (some false) else (rosetteref05_Right.l0 k x0 (wrap64 (x3 + 1))))) else (none)) else (none)) else (rosetteref05_Right.l0 k x0 (wrap64 (x3 + 1)))) else (some false))) else (none)) else (some (decide ((x0.length : Int) ≤ 24)))
def rosetteref05_Right.f (k : Nat) (l0 : List (S32)) : Option (Bool) := rosetteref05_Right.l0 k l0 0
theorem rosetteref05_Right.mono_l : ∀ k, (∀ y0 y1, LeO (rosetteref05_Right.l0 k y0 y1) (rosetteref05_Right.l0 (k + 1) y0 y1))
  | 0 => fun _ _ r h => by simp [rosetteref05_Right.l0] at h
  | k + 1 => by
    have ih0 := rosetteref05_Right.mono_l k
    · intro y0 y1
      unfold rosetteref05_Right.l0
      repeat' first
      | (with_reducible exact ih0 _ _)
      | (with_reducible exact rosetteref04_Text.mono _ _ _)
      | (with_reducible exact LeO.refl _)
      | (with_reducible exact LeO.none _)
      | (with_reducible refine LeO.ite ?_ ?_)
      | (with_reducible refine LeO.bind ?_ (fun _ => ?_))
      | exact ih0 _ _
      | exact rosetteref04_Text.mono _ _ _
      | exact LeO.none _
      | refine LeO.ite ?_ ?_
      | refine LeO.bind ?_ (fun _ => ?_)
theorem rosetteref05_Right.mono : ∀ a0 k, LeO (rosetteref05_Right.f k a0) (rosetteref05_Right.f (k + 1) a0) := by
  intro a0 k
  have ih0 := rosetteref05_Right.mono_l k
  unfold rosetteref05_Right.f
  repeat' first
      | (with_reducible exact ih0 _ _)
      | (with_reducible exact rosetteref04_Text.mono _ _ _)
      | (with_reducible exact LeO.refl _)
      | (with_reducible exact LeO.none _)
      | (with_reducible refine LeO.ite ?_ ?_)
      | (with_reducible refine LeO.bind ?_ (fun _ => ?_))
      | exact ih0 _ _
      | exact rosetteref04_Text.mono _ _ _
      | exact LeO.none _
      | refine LeO.ite ?_ ?_
      | refine LeO.bind ?_ (fun _ => ?_)
set_option maxHeartbeats 8000000 in
set_option maxRecDepth 100000 in
theorem rosetteref05_Right.calls (k : Nat) (A0 : Option Addr) (c0 : Nat) (l0 : List (S32)) (r : Bool) (w : World) (hr0 : Kd.C k32 w A0 l0.length l0) (hc0 : l0.length ≤ c0) (h : rosetteref05_Right.f k l0 = some r) :
    Calls Try.prog 14 #[.slice A0 l0.length c0] w fun e w' => e = .returned (.bool r) ∧ Below w.heap.size w w' := by
  have hu32 := Try.underlying32
  have HR0 := Aside0.mk hr0
  have HC0 := Aside0.mk hc0
  clear hr0 hc0
  have HB := Aside0.mk (Below.refl w.heap.size w)
  have H : (rosetteref05_Right.l0 k l0 0) = some r := h
  clear h
  have H' := Aside0.mk H
  clear H
  go_enter Try.func14, Try.ntmps14
  go_wp2
  repeat (go_quiet (fail); try go_wp2)
  go_loopg [3] k (fun kq v3 w' => ∃ (x3_1 : Int), v3 = .int .i64 x3_1 ∧ Aside0 (rosetteref05_Right.l0 kq l0 x3_1 = some r) ∧ Aside0 (kq ≤ k) ∧ Aside0 (Below w.heap.size w w'))
  case atStart => exact ⟨(0), (by first | rfl | (simp; done) | (simp [*]; done)), H', ⟨Nat.le_refl _⟩, ⟨by repeat (first | (with_reducible first | exact HB.out | apply below_alloc | apply pw_below_drewN | apply below_drew1) | exact HB.out)⟩⟩
  case round =>
    clear H'
    try clear c1
    obtain ⟨x3_1, rfl, HA, HK1, HB⟩ := hrel
    cases gk with
    | zero => exact absurd HA.out (by simp [rosetteref05_Right.l0])
    | succ k1 =>
      have H := HA.out
      clear HA
      simp only [rosetteref05_Right.l0] at H
      by_cases c2 : x3_1 < (l0.length : Int)
      · rw [if_pos c2] at H
        have c2b0 : decide (x3_1 < (l0.length : Int)) = true := decide_eq_true c2
        clear c2
        by_cases c3 : 0 ≤ x3_1
        · rw [if_pos c3] at H
          have c3b0 : decide (0 ≤ x3_1) = true := decide_eq_true c3
          clear c3
          replace H := Option.bind_eq_some_iff.mp H
          obtain ⟨t167, A40, H⟩ := H
          replace H : (if t167 = true then (if x3_1 > 0 then (if 0 ≤ (wrap64 (x3_1 - 1)) then (if (wrap64 (x3_1 - 1)) < (l0.length : Int) then ((rosetteref04_Text.f k1 ((rd_T32 l0 (wrap64 (x3_1 - 1))).f0) ((rd_T32 l0 x3_1).f0)).bind fun t170 => (if t170 ≥ 0 then (some false) else (rosetteref05_Right.l0 k1 l0 (wrap64 (x3_1 + 1))))) else (none)) else (none)) else (rosetteref05_Right.l0 k1 l0 (wrap64 (x3_1 + 1)))) else (some false)) = some r := H
          have A4 := Aside0.mk A40
          clear A40
          by_cases c5 : t167 = true
          · subst c5
            have H1 : (if x3_1 > 0 then (if 0 ≤ (wrap64 (x3_1 - 1)) then (if (wrap64 (x3_1 - 1)) < (l0.length : Int) then ((rosetteref04_Text.f k1 ((rd_T32 l0 (wrap64 (x3_1 - 1))).f0) ((rd_T32 l0 x3_1).f0)).bind fun t170 => (if t170 ≥ 0 then (some false) else (rosetteref05_Right.l0 k1 l0 (wrap64 (x3_1 + 1))))) else (none)) else (none)) else (rosetteref05_Right.l0 k1 l0 (wrap64 (x3_1 + 1)))) = some r := by rw [if_pos rfl] at H; exact H
            clear H
            have H := H1
            clear H1
            by_cases c6 : x3_1 > 0
            · rw [if_pos c6] at H
              have c6b0 : decide (0 < x3_1) = true := decide_eq_true c6
              clear c6
              obtain ⟨ji7, hji7⟩ : ∃ j_ : Int, (wrap64 (x3_1 - 1)) = j_ := ⟨_, rfl⟩
              replace H : (if 0 ≤ (ji7) then (if (ji7) < (l0.length : Int) then ((rosetteref04_Text.f k1 ((rd_T32 l0 (ji7)).f0) ((rd_T32 l0 x3_1).f0)).bind fun t170 => (if t170 ≥ 0 then (some false) else (rosetteref05_Right.l0 k1 l0 (wrap64 (x3_1 + 1))))) else (none)) else (none)) = some r := by first | (rw [hji7] at H; exact H) | (simp only [hji7] at H ⊢; exact H)
              (try rw [hji7] at A4)
              have hji7w : (IntKind.i64.wrap (x3_1 - 1)) = ji7 := (i64_w _).trans hji7
              by_cases c8 : 0 ≤ (ji7)
              · rw [if_pos c8] at H
                have c8b0 : decide (0 ≤ (ji7)) = true := decide_eq_true c8
                clear c8
                by_cases c9 : (ji7) < (l0.length : Int)
                · rw [if_pos c9] at H
                  have c9b0 : decide ((ji7) < (l0.length : Int)) = true := decide_eq_true c9
                  clear c9
                  replace H := Option.bind_eq_some_iff.mp H
                  obtain ⟨t170, A100, H⟩ := H
                  replace H : (if t170 ≥ 0 then (some false) else (rosetteref05_Right.l0 k1 l0 (wrap64 (x3_1 + 1)))) = some r := H
                  have A10 := Aside0.mk A100
                  clear A100
                  by_cases c11 : t170 ≥ 0
                  · rw [if_pos c11] at H
                    have c11b0 : decide (0 ≤ t170) = true := decide_eq_true c11
                    clear c11
                    obtain rfl := Option.some.inj H
                    have p166 : 0 ≤ (x3_1 : Int) := of_decide_eq_true (by first | (with_reducible assumption) | assumption)
                    have q166 : x3_1 < (l0.length : Int) := of_decide_eq_true (by first | (with_reducible assumption) | assumption)
                    obtain ⟨ad166, e166, hx166_0, hx166_1, hx166_2, hx166_3⟩ := at_T32 HR0.out x3_1 p166 q166
                    cases e166
                    replace hx166_0 := (HB.out.cell (World.block_lt_of_cell? w _ hx166_0)).trans hx166_0
                    replace hx166_1 := (HB.out.cell (World.block_lt_of_cell? w _ hx166_1)).trans hx166_1
                    replace hx166_2 := (HB.out.cell (World.block_lt_of_cell? w _ hx166_2)).trans hx166_2
                    replace hx166_3 := (HB.out.cell (World.block_lt_of_cell? w _ hx166_3)).trans hx166_3
                    replace p166 := eq_true p166
                    replace q166 := eq_true q166
                    go_wp2_with (first | (go_at_call 24; (with_reducible refine (rosetteref05_one.calls ((rd_T32 l0 x3_1).f0) ((rd_T32 l0 x3_1).f1.f0) ((rd_T32 l0 x3_1).f1.f1) ((rd_T32 l0 x3_1).f1.f2) true _ A4.out).mono ?_); rintro e w12 ⟨rfl, hb⟩; have n0_ := Aside0.mk (below_step (by repeat (first | (with_reducible first | exact HB.out | apply below_alloc | apply pw_below_drewN | apply below_drew1) | exact HB.out)) hb); clear HB; have HB := n0_; clear n0_; (try clear hb); (try clear hb2); (try clear hk); (try clear hi); have p168 : 0 ≤ ((ji7) : Int) := of_decide_eq_true (by first | (with_reducible assumption) | assumption); have q168 : (ji7) < (l0.length : Int) := of_decide_eq_true (by first | (with_reducible assumption) | assumption); obtain ⟨ad168, e168, hx168_0, hx168_1, hx168_2, hx168_3⟩ := at_T32 HR0.out (ji7) p168 q168; obtain rfl : ad166 = ad168 := (by injection e168); replace hx168_0 := (HB.out.cell (World.block_lt_of_cell? w _ hx168_0)).trans hx168_0; replace hx168_1 := (HB.out.cell (World.block_lt_of_cell? w _ hx168_1)).trans hx168_1; replace hx168_2 := (HB.out.cell (World.block_lt_of_cell? w _ hx168_2)).trans hx168_2; replace hx168_3 := (HB.out.cell (World.block_lt_of_cell? w _ hx168_3)).trans hx168_3; replace p168 := eq_true p168; replace q168 := eq_true q168; have p169 : 0 ≤ (x3_1 : Int) := of_decide_eq_true (by first | (with_reducible assumption) | assumption); have q169 : x3_1 < (l0.length : Int) := of_decide_eq_true (by first | (with_reducible assumption) | assumption); obtain ⟨ad169, e169, hx169_0, hx169_1, hx169_2, hx169_3⟩ := at_T32 HR0.out x3_1 p169 q169; obtain rfl : ad166 = ad169 := (by injection e169); replace hx169_0 := (HB.out.cell (World.block_lt_of_cell? w _ hx169_0)).trans hx169_0; replace hx169_1 := (HB.out.cell (World.block_lt_of_cell? w _ hx169_1)).trans hx169_1; replace hx169_2 := (HB.out.cell (World.block_lt_of_cell? w _ hx169_2)).trans hx169_2; replace hx169_3 := (HB.out.cell (World.block_lt_of_cell? w _ hx169_3)).trans hx169_3; replace p169 := eq_true p169; replace q169 := eq_true q169) | (go_at_call 25; (with_reducible refine (rosetteref04_Text.calls k1 ((rd_T32 l0 (ji7)).f0) ((rd_T32 l0 x3_1).f0) t170 _ A10.out).mono ?_); rintro e w' ⟨rfl, ⟨nd, rfl⟩⟩; (try first | exact ⟨rfl, _, World.drewN_drewN _ _ _⟩ | exact ⟨rfl, _, Eq.trans (World.drewN_drewN _ _ _) (congrArg (World.drewN _) (Nat.add_assoc _ _ _))⟩)))
                    repeat (go_quiet (first | (go_at_call 24; (with_reducible refine (rosetteref05_one.calls ((rd_T32 l0 x3_1).f0) ((rd_T32 l0 x3_1).f1.f0) ((rd_T32 l0 x3_1).f1.f1) ((rd_T32 l0 x3_1).f1.f2) true _ A4.out).mono ?_); rintro e w12 ⟨rfl, hb⟩; have n0_ := Aside0.mk (below_step (by repeat (first | (with_reducible first | exact HB.out | apply below_alloc | apply pw_below_drewN | apply below_drew1) | exact HB.out)) hb); clear HB; have HB := n0_; clear n0_; (try clear hb); (try clear hb2); (try clear hk); (try clear hi); have p168 : 0 ≤ ((ji7) : Int) := of_decide_eq_true (by first | (with_reducible assumption) | assumption); have q168 : (ji7) < (l0.length : Int) := of_decide_eq_true (by first | (with_reducible assumption) | assumption); obtain ⟨ad168, e168, hx168_0, hx168_1, hx168_2, hx168_3⟩ := at_T32 HR0.out (ji7) p168 q168; obtain rfl : ad166 = ad168 := (by injection e168); replace hx168_0 := (HB.out.cell (World.block_lt_of_cell? w _ hx168_0)).trans hx168_0; replace hx168_1 := (HB.out.cell (World.block_lt_of_cell? w _ hx168_1)).trans hx168_1; replace hx168_2 := (HB.out.cell (World.block_lt_of_cell? w _ hx168_2)).trans hx168_2; replace hx168_3 := (HB.out.cell (World.block_lt_of_cell? w _ hx168_3)).trans hx168_3; replace p168 := eq_true p168; replace q168 := eq_true q168; have p169 : 0 ≤ (x3_1 : Int) := of_decide_eq_true (by first | (with_reducible assumption) | assumption); have q169 : x3_1 < (l0.length : Int) := of_decide_eq_true (by first | (with_reducible assumption) | assumption); obtain ⟨ad169, e169, hx169_0, hx169_1, hx169_2, hx169_3⟩ := at_T32 HR0.out x3_1 p169 q169; obtain rfl : ad166 = ad169 := (by injection e169); replace hx169_0 := (HB.out.cell (World.block_lt_of_cell? w _ hx169_0)).trans hx169_0; replace hx169_1 := (HB.out.cell (World.block_lt_of_cell? w _ hx169_1)).trans hx169_1; replace hx169_2 := (HB.out.cell (World.block_lt_of_cell? w _ hx169_2)).trans hx169_2; replace hx169_3 := (HB.out.cell (World.block_lt_of_cell? w _ hx169_3)).trans hx169_3; replace p169 := eq_true p169; replace q169 := eq_true q169) | (go_at_call 25; (with_reducible refine (rosetteref04_Text.calls k1 ((rd_T32 l0 (ji7)).f0) ((rd_T32 l0 x3_1).f0) t170 _ A10.out).mono ?_); rintro e w' ⟨rfl, ⟨nd, rfl⟩⟩; (try first | exact ⟨rfl, _, World.drewN_drewN _ _ _⟩ | exact ⟨rfl, _, Eq.trans (World.drewN_drewN _ _ _) (congrArg (World.drewN _) (Nat.add_assoc _ _ _))⟩))); try go_wp2_with (first | (go_at_call 24; (with_reducible refine (rosetteref05_one.calls ((rd_T32 l0 x3_1).f0) ((rd_T32 l0 x3_1).f1.f0) ((rd_T32 l0 x3_1).f1.f1) ((rd_T32 l0 x3_1).f1.f2) true _ A4.out).mono ?_); rintro e w12 ⟨rfl, hb⟩; have n0_ := Aside0.mk (below_step (by repeat (first | (with_reducible first | exact HB.out | apply below_alloc | apply pw_below_drewN | apply below_drew1) | exact HB.out)) hb); clear HB; have HB := n0_; clear n0_; (try clear hb); (try clear hb2); (try clear hk); (try clear hi); have p168 : 0 ≤ ((ji7) : Int) := of_decide_eq_true (by first | (with_reducible assumption) | assumption); have q168 : (ji7) < (l0.length : Int) := of_decide_eq_true (by first | (with_reducible assumption) | assumption); obtain ⟨ad168, e168, hx168_0, hx168_1, hx168_2, hx168_3⟩ := at_T32 HR0.out (ji7) p168 q168; obtain rfl : ad166 = ad168 := (by injection e168); replace hx168_0 := (HB.out.cell (World.block_lt_of_cell? w _ hx168_0)).trans hx168_0; replace hx168_1 := (HB.out.cell (World.block_lt_of_cell? w _ hx168_1)).trans hx168_1; replace hx168_2 := (HB.out.cell (World.block_lt_of_cell? w _ hx168_2)).trans hx168_2; replace hx168_3 := (HB.out.cell (World.block_lt_of_cell? w _ hx168_3)).trans hx168_3; replace p168 := eq_true p168; replace q168 := eq_true q168; have p169 : 0 ≤ (x3_1 : Int) := of_decide_eq_true (by first | (with_reducible assumption) | assumption); have q169 : x3_1 < (l0.length : Int) := of_decide_eq_true (by first | (with_reducible assumption) | assumption); obtain ⟨ad169, e169, hx169_0, hx169_1, hx169_2, hx169_3⟩ := at_T32 HR0.out x3_1 p169 q169; obtain rfl : ad166 = ad169 := (by injection e169); replace hx169_0 := (HB.out.cell (World.block_lt_of_cell? w _ hx169_0)).trans hx169_0; replace hx169_1 := (HB.out.cell (World.block_lt_of_cell? w _ hx169_1)).trans hx169_1; replace hx169_2 := (HB.out.cell (World.block_lt_of_cell? w _ hx169_2)).trans hx169_2; replace hx169_3 := (HB.out.cell (World.block_lt_of_cell? w _ hx169_3)).trans hx169_3; replace p169 := eq_true p169; replace q169 := eq_true q169) | (go_at_call 25; (with_reducible refine (rosetteref04_Text.calls k1 ((rd_T32 l0 (ji7)).f0) ((rd_T32 l0 x3_1).f0) t170 _ A10.out).mono ?_); rintro e w' ⟨rfl, ⟨nd, rfl⟩⟩; (try first | exact ⟨rfl, _, World.drewN_drewN _ _ _⟩ | exact ⟨rfl, _, Eq.trans (World.drewN_drewN _ _ _) (congrArg (World.drewN _) (Nat.add_assoc _ _ _))⟩))))
                    go_ret
                    exact ⟨by first | rfl | (simp [errW_none, errW_some] <;> rfl) | (simp only [← hji7]; first | rfl | (simp [errW_none, errW_some] <;> rfl)) | (simp [*, errW_none, errW_some] <;> rfl), by repeat (first | (with_reducible first | exact HB.out | apply below_alloc | apply pw_below_drewN | apply below_drew1) | exact HB.out)⟩
                  · rw [if_neg c11] at H
                    have c11b0 : decide (0 ≤ t170) = false := decide_eq_false c11
                    clear c11
                    have H' := Aside0.mk H
                    clear H
                    have p166 : 0 ≤ (x3_1 : Int) := of_decide_eq_true (by first | (with_reducible assumption) | assumption)
                    have q166 : x3_1 < (l0.length : Int) := of_decide_eq_true (by first | (with_reducible assumption) | assumption)
                    obtain ⟨ad166, e166, hx166_0, hx166_1, hx166_2, hx166_3⟩ := at_T32 HR0.out x3_1 p166 q166
                    cases e166
                    replace hx166_0 := (HB.out.cell (World.block_lt_of_cell? w _ hx166_0)).trans hx166_0
                    replace hx166_1 := (HB.out.cell (World.block_lt_of_cell? w _ hx166_1)).trans hx166_1
                    replace hx166_2 := (HB.out.cell (World.block_lt_of_cell? w _ hx166_2)).trans hx166_2
                    replace hx166_3 := (HB.out.cell (World.block_lt_of_cell? w _ hx166_3)).trans hx166_3
                    replace p166 := eq_true p166
                    replace q166 := eq_true q166
                    go_wp2_with (first | (go_at_call 24; (with_reducible refine (rosetteref05_one.calls ((rd_T32 l0 x3_1).f0) ((rd_T32 l0 x3_1).f1.f0) ((rd_T32 l0 x3_1).f1.f1) ((rd_T32 l0 x3_1).f1.f2) true _ A4.out).mono ?_); rintro e w13 ⟨rfl, hb⟩; have n0_ := Aside0.mk (below_step (by repeat (first | (with_reducible first | exact HB.out | apply below_alloc | apply pw_below_drewN | apply below_drew1) | exact HB.out)) hb); clear HB; have HB := n0_; clear n0_; (try clear hb); (try clear hb2); (try clear hk); (try clear hi); have p168 : 0 ≤ ((ji7) : Int) := of_decide_eq_true (by first | (with_reducible assumption) | assumption); have q168 : (ji7) < (l0.length : Int) := of_decide_eq_true (by first | (with_reducible assumption) | assumption); obtain ⟨ad168, e168, hx168_0, hx168_1, hx168_2, hx168_3⟩ := at_T32 HR0.out (ji7) p168 q168; obtain rfl : ad166 = ad168 := (by injection e168); replace hx168_0 := (HB.out.cell (World.block_lt_of_cell? w _ hx168_0)).trans hx168_0; replace hx168_1 := (HB.out.cell (World.block_lt_of_cell? w _ hx168_1)).trans hx168_1; replace hx168_2 := (HB.out.cell (World.block_lt_of_cell? w _ hx168_2)).trans hx168_2; replace hx168_3 := (HB.out.cell (World.block_lt_of_cell? w _ hx168_3)).trans hx168_3; replace p168 := eq_true p168; replace q168 := eq_true q168; have p169 : 0 ≤ (x3_1 : Int) := of_decide_eq_true (by first | (with_reducible assumption) | assumption); have q169 : x3_1 < (l0.length : Int) := of_decide_eq_true (by first | (with_reducible assumption) | assumption); obtain ⟨ad169, e169, hx169_0, hx169_1, hx169_2, hx169_3⟩ := at_T32 HR0.out x3_1 p169 q169; obtain rfl : ad166 = ad169 := (by injection e169); replace hx169_0 := (HB.out.cell (World.block_lt_of_cell? w _ hx169_0)).trans hx169_0; replace hx169_1 := (HB.out.cell (World.block_lt_of_cell? w _ hx169_1)).trans hx169_1; replace hx169_2 := (HB.out.cell (World.block_lt_of_cell? w _ hx169_2)).trans hx169_2; replace hx169_3 := (HB.out.cell (World.block_lt_of_cell? w _ hx169_3)).trans hx169_3; replace p169 := eq_true p169; replace q169 := eq_true q169) | (go_at_call 25; (with_reducible refine (rosetteref04_Text.calls k1 ((rd_T32 l0 (ji7)).f0) ((rd_T32 l0 x3_1).f0) t170 _ A10.out).mono ?_); rintro e w' ⟨rfl, ⟨nd, rfl⟩⟩; (try first | exact ⟨rfl, _, World.drewN_drewN _ _ _⟩ | exact ⟨rfl, _, Eq.trans (World.drewN_drewN _ _ _) (congrArg (World.drewN _) (Nat.add_assoc _ _ _))⟩)))
                    repeat (go_quiet (first | (go_at_call 24; (with_reducible refine (rosetteref05_one.calls ((rd_T32 l0 x3_1).f0) ((rd_T32 l0 x3_1).f1.f0) ((rd_T32 l0 x3_1).f1.f1) ((rd_T32 l0 x3_1).f1.f2) true _ A4.out).mono ?_); rintro e w13 ⟨rfl, hb⟩; have n0_ := Aside0.mk (below_step (by repeat (first | (with_reducible first | exact HB.out | apply below_alloc | apply pw_below_drewN | apply below_drew1) | exact HB.out)) hb); clear HB; have HB := n0_; clear n0_; (try clear hb); (try clear hb2); (try clear hk); (try clear hi); have p168 : 0 ≤ ((ji7) : Int) := of_decide_eq_true (by first | (with_reducible assumption) | assumption); have q168 : (ji7) < (l0.length : Int) := of_decide_eq_true (by first | (with_reducible assumption) | assumption); obtain ⟨ad168, e168, hx168_0, hx168_1, hx168_2, hx168_3⟩ := at_T32 HR0.out (ji7) p168 q168; obtain rfl : ad166 = ad168 := (by injection e168); replace hx168_0 := (HB.out.cell (World.block_lt_of_cell? w _ hx168_0)).trans hx168_0; replace hx168_1 := (HB.out.cell (World.block_lt_of_cell? w _ hx168_1)).trans hx168_1; replace hx168_2 := (HB.out.cell (World.block_lt_of_cell? w _ hx168_2)).trans hx168_2; replace hx168_3 := (HB.out.cell (World.block_lt_of_cell? w _ hx168_3)).trans hx168_3; replace p168 := eq_true p168; replace q168 := eq_true q168; have p169 : 0 ≤ (x3_1 : Int) := of_decide_eq_true (by first | (with_reducible assumption) | assumption); have q169 : x3_1 < (l0.length : Int) := of_decide_eq_true (by first | (with_reducible assumption) | assumption); obtain ⟨ad169, e169, hx169_0, hx169_1, hx169_2, hx169_3⟩ := at_T32 HR0.out x3_1 p169 q169; obtain rfl : ad166 = ad169 := (by injection e169); replace hx169_0 := (HB.out.cell (World.block_lt_of_cell? w _ hx169_0)).trans hx169_0; replace hx169_1 := (HB.out.cell (World.block_lt_of_cell? w _ hx169_1)).trans hx169_1; replace hx169_2 := (HB.out.cell (World.block_lt_of_cell? w _ hx169_2)).trans hx169_2; replace hx169_3 := (HB.out.cell (World.block_lt_of_cell? w _ hx169_3)).trans hx169_3; replace p169 := eq_true p169; replace q169 := eq_true q169) | (go_at_call 25; (with_reducible refine (rosetteref04_Text.calls k1 ((rd_T32 l0 (ji7)).f0) ((rd_T32 l0 x3_1).f0) t170 _ A10.out).mono ?_); rintro e w' ⟨rfl, ⟨nd, rfl⟩⟩; (try first | exact ⟨rfl, _, World.drewN_drewN _ _ _⟩ | exact ⟨rfl, _, Eq.trans (World.drewN_drewN _ _ _) (congrArg (World.drewN _) (Nat.add_assoc _ _ _))⟩))); try go_wp2_with (first | (go_at_call 24; (with_reducible refine (rosetteref05_one.calls ((rd_T32 l0 x3_1).f0) ((rd_T32 l0 x3_1).f1.f0) ((rd_T32 l0 x3_1).f1.f1) ((rd_T32 l0 x3_1).f1.f2) true _ A4.out).mono ?_); rintro e w13 ⟨rfl, hb⟩; have n0_ := Aside0.mk (below_step (by repeat (first | (with_reducible first | exact HB.out | apply below_alloc | apply pw_below_drewN | apply below_drew1) | exact HB.out)) hb); clear HB; have HB := n0_; clear n0_; (try clear hb); (try clear hb2); (try clear hk); (try clear hi); have p168 : 0 ≤ ((ji7) : Int) := of_decide_eq_true (by first | (with_reducible assumption) | assumption); have q168 : (ji7) < (l0.length : Int) := of_decide_eq_true (by first | (with_reducible assumption) | assumption); obtain ⟨ad168, e168, hx168_0, hx168_1, hx168_2, hx168_3⟩ := at_T32 HR0.out (ji7) p168 q168; obtain rfl : ad166 = ad168 := (by injection e168); replace hx168_0 := (HB.out.cell (World.block_lt_of_cell? w _ hx168_0)).trans hx168_0; replace hx168_1 := (HB.out.cell (World.block_lt_of_cell? w _ hx168_1)).trans hx168_1; replace hx168_2 := (HB.out.cell (World.block_lt_of_cell? w _ hx168_2)).trans hx168_2; replace hx168_3 := (HB.out.cell (World.block_lt_of_cell? w _ hx168_3)).trans hx168_3; replace p168 := eq_true p168; replace q168 := eq_true q168; have p169 : 0 ≤ (x3_1 : Int) := of_decide_eq_true (by first | (with_reducible assumption) | assumption); have q169 : x3_1 < (l0.length : Int) := of_decide_eq_true (by first | (with_reducible assumption) | assumption); obtain ⟨ad169, e169, hx169_0, hx169_1, hx169_2, hx169_3⟩ := at_T32 HR0.out x3_1 p169 q169; obtain rfl : ad166 = ad169 := (by injection e169); replace hx169_0 := (HB.out.cell (World.block_lt_of_cell? w _ hx169_0)).trans hx169_0; replace hx169_1 := (HB.out.cell (World.block_lt_of_cell? w _ hx169_1)).trans hx169_1; replace hx169_2 := (HB.out.cell (World.block_lt_of_cell? w _ hx169_2)).trans hx169_2; replace hx169_3 := (HB.out.cell (World.block_lt_of_cell? w _ hx169_3)).trans hx169_3; replace p169 := eq_true p169; replace q169 := eq_true q169) | (go_at_call 25; (with_reducible refine (rosetteref04_Text.calls k1 ((rd_T32 l0 (ji7)).f0) ((rd_T32 l0 x3_1).f0) t170 _ A10.out).mono ?_); rintro e w' ⟨rfl, ⟨nd, rfl⟩⟩; (try first | exact ⟨rfl, _, World.drewN_drewN _ _ _⟩ | exact ⟨rfl, _, Eq.trans (World.drewN_drewN _ _ _) (congrArg (World.drewN _) (Nat.add_assoc _ _ _))⟩))))
                    go_roundg k1
                    case measure => have := HK1.out; omega
                    case rel => exact ⟨(wrap64 (x3_1 + 1)), (by first | rfl | (simp; done) | (simp [*]; done)), H', ⟨by have := HK1.out; omega⟩, ⟨by repeat (first | (with_reducible first | exact HB.out | apply below_alloc | apply pw_below_drewN | apply below_drew1) | exact HB.out)⟩⟩
                · rw [if_neg c9] at H
                  exact absurd H (by simp)
              · rw [if_neg c8] at H
                exact absurd H (by simp)
            · rw [if_neg c6] at H
              have c6b0 : decide (0 < x3_1) = false := decide_eq_false c6
              clear c6
              have H' := Aside0.mk H
              clear H
              have p166 : 0 ≤ (x3_1 : Int) := of_decide_eq_true (by first | (with_reducible assumption) | assumption)
              have q166 : x3_1 < (l0.length : Int) := of_decide_eq_true (by first | (with_reducible assumption) | assumption)
              obtain ⟨ad166, e166, hx166_0, hx166_1, hx166_2, hx166_3⟩ := at_T32 HR0.out x3_1 p166 q166
              cases e166
              replace hx166_0 := (HB.out.cell (World.block_lt_of_cell? w _ hx166_0)).trans hx166_0
              replace hx166_1 := (HB.out.cell (World.block_lt_of_cell? w _ hx166_1)).trans hx166_1
              replace hx166_2 := (HB.out.cell (World.block_lt_of_cell? w _ hx166_2)).trans hx166_2
              replace hx166_3 := (HB.out.cell (World.block_lt_of_cell? w _ hx166_3)).trans hx166_3
              replace p166 := eq_true p166
              replace q166 := eq_true q166
              go_wp2_with (first | (go_at_call 24; (with_reducible refine (rosetteref05_one.calls ((rd_T32 l0 x3_1).f0) ((rd_T32 l0 x3_1).f1.f0) ((rd_T32 l0 x3_1).f1.f1) ((rd_T32 l0 x3_1).f1.f2) true _ A4.out).mono ?_); rintro e w14 ⟨rfl, hb⟩; have n0_ := Aside0.mk (below_step (by repeat (first | (with_reducible first | exact HB.out | apply below_alloc | apply pw_below_drewN | apply below_drew1) | exact HB.out)) hb); clear HB; have HB := n0_; clear n0_; (try clear hb); (try clear hb2); (try clear hk); (try clear hi)))
              repeat (go_quiet (first | (go_at_call 24; (with_reducible refine (rosetteref05_one.calls ((rd_T32 l0 x3_1).f0) ((rd_T32 l0 x3_1).f1.f0) ((rd_T32 l0 x3_1).f1.f1) ((rd_T32 l0 x3_1).f1.f2) true _ A4.out).mono ?_); rintro e w14 ⟨rfl, hb⟩; have n0_ := Aside0.mk (below_step (by repeat (first | (with_reducible first | exact HB.out | apply below_alloc | apply pw_below_drewN | apply below_drew1) | exact HB.out)) hb); clear HB; have HB := n0_; clear n0_; (try clear hb); (try clear hb2); (try clear hk); (try clear hi))); try go_wp2_with (first | (go_at_call 24; (with_reducible refine (rosetteref05_one.calls ((rd_T32 l0 x3_1).f0) ((rd_T32 l0 x3_1).f1.f0) ((rd_T32 l0 x3_1).f1.f1) ((rd_T32 l0 x3_1).f1.f2) true _ A4.out).mono ?_); rintro e w14 ⟨rfl, hb⟩; have n0_ := Aside0.mk (below_step (by repeat (first | (with_reducible first | exact HB.out | apply below_alloc | apply pw_below_drewN | apply below_drew1) | exact HB.out)) hb); clear HB; have HB := n0_; clear n0_; (try clear hb); (try clear hb2); (try clear hk); (try clear hi))))
              go_roundg k1
              case measure => have := HK1.out; omega
              case rel => exact ⟨(wrap64 (x3_1 + 1)), (by first | rfl | (simp; done) | (simp [*]; done)), H', ⟨by have := HK1.out; omega⟩, ⟨by repeat (first | (with_reducible first | exact HB.out | apply below_alloc | apply pw_below_drewN | apply below_drew1) | exact HB.out)⟩⟩
          · replace c5 := Bool.eq_false_iff.mpr c5
            subst c5
            have H1 : (some false) = some r := by rw [if_neg (show ¬ (false = true) by decide)] at H; exact H
            clear H
            have H := H1
            clear H1
            obtain rfl := Option.some.inj H
            have p166 : 0 ≤ (x3_1 : Int) := of_decide_eq_true (by first | (with_reducible assumption) | assumption)
            have q166 : x3_1 < (l0.length : Int) := of_decide_eq_true (by first | (with_reducible assumption) | assumption)
            obtain ⟨ad166, e166, hx166_0, hx166_1, hx166_2, hx166_3⟩ := at_T32 HR0.out x3_1 p166 q166
            cases e166
            replace hx166_0 := (HB.out.cell (World.block_lt_of_cell? w _ hx166_0)).trans hx166_0
            replace hx166_1 := (HB.out.cell (World.block_lt_of_cell? w _ hx166_1)).trans hx166_1
            replace hx166_2 := (HB.out.cell (World.block_lt_of_cell? w _ hx166_2)).trans hx166_2
            replace hx166_3 := (HB.out.cell (World.block_lt_of_cell? w _ hx166_3)).trans hx166_3
            replace p166 := eq_true p166
            replace q166 := eq_true q166
            go_wp2_with (first | (go_at_call 24; (with_reducible refine (rosetteref05_one.calls ((rd_T32 l0 x3_1).f0) ((rd_T32 l0 x3_1).f1.f0) ((rd_T32 l0 x3_1).f1.f1) ((rd_T32 l0 x3_1).f1.f2) false _ A4.out).mono ?_); rintro e w15 ⟨rfl, hb⟩; have n0_ := Aside0.mk (below_step (by repeat (first | (with_reducible first | exact HB.out | apply below_alloc | apply pw_below_drewN | apply below_drew1) | exact HB.out)) hb); clear HB; have HB := n0_; clear n0_; (try clear hb); (try clear hb2); (try clear hk); (try clear hi)))
            repeat (go_quiet (first | (go_at_call 24; (with_reducible refine (rosetteref05_one.calls ((rd_T32 l0 x3_1).f0) ((rd_T32 l0 x3_1).f1.f0) ((rd_T32 l0 x3_1).f1.f1) ((rd_T32 l0 x3_1).f1.f2) false _ A4.out).mono ?_); rintro e w15 ⟨rfl, hb⟩; have n0_ := Aside0.mk (below_step (by repeat (first | (with_reducible first | exact HB.out | apply below_alloc | apply pw_below_drewN | apply below_drew1) | exact HB.out)) hb); clear HB; have HB := n0_; clear n0_; (try clear hb); (try clear hb2); (try clear hk); (try clear hi))); try go_wp2_with (first | (go_at_call 24; (with_reducible refine (rosetteref05_one.calls ((rd_T32 l0 x3_1).f0) ((rd_T32 l0 x3_1).f1.f0) ((rd_T32 l0 x3_1).f1.f1) ((rd_T32 l0 x3_1).f1.f2) false _ A4.out).mono ?_); rintro e w15 ⟨rfl, hb⟩; have n0_ := Aside0.mk (below_step (by repeat (first | (with_reducible first | exact HB.out | apply below_alloc | apply pw_below_drewN | apply below_drew1) | exact HB.out)) hb); clear HB; have HB := n0_; clear n0_; (try clear hb); (try clear hb2); (try clear hk); (try clear hi))))
            go_ret
            exact ⟨by first | rfl | (simp [errW_none, errW_some] <;> rfl) | (simp [*, errW_none, errW_some] <;> rfl), by repeat (first | (with_reducible first | exact HB.out | apply below_alloc | apply pw_below_drewN | apply below_drew1) | exact HB.out)⟩
        · rw [if_neg c3] at H
          exact absurd H (by simp)
      · rw [if_neg c2] at H
        have c2b0 : decide (x3_1 < (l0.length : Int)) = false := decide_eq_false c2
        clear c2
        obtain rfl := Option.some.inj H
        go_wp2
        repeat (go_quiet (fail); try go_wp2)
        go_ret
        exact ⟨by first | rfl | (simp [errW_none, errW_some] <;> rfl) | (simp [*, errW_none, errW_some] <;> rfl), by repeat (first | (with_reducible first | exact HB.out | apply below_alloc | apply pw_below_drewN | apply below_drew1) | exact HB.out)⟩

end Go.Proofs.Ytmbpgebboppkmaa.G
end

section
-- Written by a program of this session (wip/tools/myprint.py), over the kit's print.
namespace Go.Proofs.Ytmbpgebboppkmaa.G
open Go.RowKit Go.Proofs.YtmbpgebboppkmaaW.PrintWords Go.Proofs.YtmbpgebboppkmaaW.PrintLast Go.Proofs.YtmbpgebboppkmaaW.PrintMore
attribute [local go_sem] max2_int min2_int max_two min_two max_three min_three max_four min_four   -- for this text's walks alone
set_option linter.unusedVariables false
set_option linter.unusedSimpArgs false

/-! ### rosettelaw05_EventMakes: function 3 -/
def rosettelaw05_EventMakes.l0 : Nat → List (S32) → Bool → List (S32) → List (S32) → Int → Int → Bool → Int → Option (Bool)
  | 0, _, _, _, _, _, _, _, _ => none
  | k + 1, x0, x3, x5, x6, x7, x9, x10, x11 => if x11 < (x6.length : Int) then (if 0 ≤ x11 then (rosettelaw05_EventMakes.l0 k x0 x3 x5 (x6.set (x11 : Int).toNat (⟨(⟨#[122, 122]⟩ : ByteArray), (⟨0, 0, (⟨#[]⟩ : ByteArray)⟩ : S30)⟩ : S32)) x7 x9 x10 (wrap64 (x11 + 1))) else (none)) else (if x3 = true then (if x10 = true then (if x7 = x9 then ((event_Right.f x0).bind fun t189 => ((rosetteref05_Right.f k x0).bind fun t190 => (if (t189 == t190) = true then ((rosetteref05_Same.f k x5 x0).bind fun t191 => (some t191)) else (some false)))) else (some false)) else (some false)) else (some false))
def rosettelaw05_EventMakes.f (k : Nat) (l0 : List (S32)) : Option (Bool) := (rosettelaw05_small.f).bind fun t171 => ((rosettelaw05_Few.f k l0).bind fun t172 => (if t172 = true then ((some (([] : List (S32)) : List (S32))).bind fun y173 => (if y173.length + l0.length < 2932031007402 then ((some (y173 ++ l0 : List (S32))).bind fun y176 => ((event_Make.f y176).bind fun bt179 => ((rosetteref05_Make.f k l0).bind fun bt183 => ((rosetteref05_Same.f k bt179.1 bt183.1).bind fun t187 => (rosettelaw05_EventMakes.l0 k l0 t171 y176 bt179.1 bt179.2 bt183.2 t187 0))))) else (none))) else (some t171)))
theorem rosettelaw05_EventMakes.mono_l : ∀ k, (∀ y0 y1 y2 y3 y4 y5 y6 y7, LeO (rosettelaw05_EventMakes.l0 k y0 y1 y2 y3 y4 y5 y6 y7) (rosettelaw05_EventMakes.l0 (k + 1) y0 y1 y2 y3 y4 y5 y6 y7))
  | 0 => fun _ _ _ _ _ _ _ _ r h => by simp [rosettelaw05_EventMakes.l0] at h
  | k + 1 => by
    have ih0 := rosettelaw05_EventMakes.mono_l k
    · intro y0 y1 y2 y3 y4 y5 y6 y7
      unfold rosettelaw05_EventMakes.l0
      repeat' first
      | (with_reducible exact ih0 _ _ _ _ _ _ _ _)
      | (with_reducible exact rosettelaw05_Few.mono _ _)
      | (with_reducible exact rosetteref05_Make.mono _ _)
      | (with_reducible exact rosetteref05_Right.mono _ _)
      | (with_reducible exact rosetteref05_Same.mono _ _ _)
      | (with_reducible exact LeO.refl _)
      | (with_reducible exact LeO.none _)
      | (with_reducible refine LeO.ite ?_ ?_)
      | (with_reducible refine LeO.bind ?_ (fun _ => ?_))
      | exact ih0 _ _ _ _ _ _ _ _
      | exact rosettelaw05_Few.mono _ _
      | exact rosetteref05_Make.mono _ _
      | exact rosetteref05_Right.mono _ _
      | exact rosetteref05_Same.mono _ _ _
      | exact LeO.none _
      | refine LeO.ite ?_ ?_
      | refine LeO.bind ?_ (fun _ => ?_)
theorem rosettelaw05_EventMakes.mono : ∀ a0 k, LeO (rosettelaw05_EventMakes.f k a0) (rosettelaw05_EventMakes.f (k + 1) a0) := by
  intro a0 k
  have ih0 := rosettelaw05_EventMakes.mono_l k
  unfold rosettelaw05_EventMakes.f
  repeat' first
      | (with_reducible exact ih0 _ _ _ _ _ _ _ _)
      | (with_reducible exact rosettelaw05_Few.mono _ _)
      | (with_reducible exact rosetteref05_Make.mono _ _)
      | (with_reducible exact rosetteref05_Right.mono _ _)
      | (with_reducible exact rosetteref05_Same.mono _ _ _)
      | (with_reducible exact LeO.refl _)
      | (with_reducible exact LeO.none _)
      | (with_reducible refine LeO.ite ?_ ?_)
      | (with_reducible refine LeO.bind ?_ (fun _ => ?_))
      | exact ih0 _ _ _ _ _ _ _ _
      | exact rosettelaw05_Few.mono _ _
      | exact rosetteref05_Make.mono _ _
      | exact rosetteref05_Right.mono _ _
      | exact rosetteref05_Same.mono _ _ _
      | exact LeO.none _
      | refine LeO.ite ?_ ?_
      | refine LeO.bind ?_ (fun _ => ?_)
set_option maxHeartbeats 8000000 in
set_option maxRecDepth 100000 in
theorem rosettelaw05_EventMakes.calls (k : Nat) (A0 : Option Addr) (c0 : Nat) (l0 : List (S32)) (r : Bool) (w : World) (hr0 : Kd.C k32 w A0 l0.length l0) (hc0 : l0.length ≤ c0) (h : rosettelaw05_EventMakes.f k l0 = some r) :
    Calls Try.prog 3 #[.slice A0 l0.length c0] w fun e w' => e = .returned (.bool r) ∧ Below w.heap.size w w' := by
  have hu32 := Try.underlying32
  have HR0 := Aside0.mk hr0
  have HC0 := Aside0.mk hc0
  clear hr0 hc0
  have HB := Aside0.mk (Below.refl w.heap.size w)
  have H : ((rosettelaw05_small.f).bind fun t171 => ((rosettelaw05_Few.f k l0).bind fun t172 => (if t172 = true then ((some (([] : List (S32)) : List (S32))).bind fun y173 => (if y173.length + l0.length < 2932031007402 then ((some (y173 ++ l0 : List (S32))).bind fun y176 => ((event_Make.f y176).bind fun bt179 => ((rosetteref05_Make.f k l0).bind fun bt183 => ((rosetteref05_Same.f k bt179.1 bt183.1).bind fun t187 => (rosettelaw05_EventMakes.l0 k l0 t171 y176 bt179.1 bt179.2 bt183.2 t187 0))))) else (none))) else (some t171)))) = some r := h
  clear h
  replace H := Option.bind_eq_some_iff.mp H
  obtain ⟨t171, A20, H⟩ := H
  replace H : ((rosettelaw05_Few.f k l0).bind fun t172 => (if t172 = true then ((some (([] : List (S32)) : List (S32))).bind fun y173 => (if y173.length + l0.length < 2932031007402 then ((some (y173 ++ l0 : List (S32))).bind fun y176 => ((event_Make.f y176).bind fun bt179 => ((rosetteref05_Make.f k l0).bind fun bt183 => ((rosetteref05_Same.f k bt179.1 bt183.1).bind fun t187 => (rosettelaw05_EventMakes.l0 k l0 t171 y176 bt179.1 bt179.2 bt183.2 t187 0))))) else (none))) else (some t171))) = some r := H
  have A2 := Aside0.mk A20
  clear A20
  replace H := Option.bind_eq_some_iff.mp H
  obtain ⟨t172, A30, H⟩ := H
  replace H : (if t172 = true then ((some (([] : List (S32)) : List (S32))).bind fun y173 => (if y173.length + l0.length < 2932031007402 then ((some (y173 ++ l0 : List (S32))).bind fun y176 => ((event_Make.f y176).bind fun bt179 => ((rosetteref05_Make.f k l0).bind fun bt183 => ((rosetteref05_Same.f k bt179.1 bt183.1).bind fun t187 => (rosettelaw05_EventMakes.l0 k l0 t171 y176 bt179.1 bt179.2 bt183.2 t187 0))))) else (none))) else (some t171)) = some r := H
  have A3 := Aside0.mk A30
  clear A30
  by_cases c4 : t172 = true
  · subst c4
    have H1 : ((some (([] : List (S32)) : List (S32))).bind fun y173 => (if y173.length + l0.length < 2932031007402 then ((some (y173 ++ l0 : List (S32))).bind fun y176 => ((event_Make.f y176).bind fun bt179 => ((rosetteref05_Make.f k l0).bind fun bt183 => ((rosetteref05_Same.f k bt179.1 bt183.1).bind fun t187 => (rosettelaw05_EventMakes.l0 k l0 t171 y176 bt179.1 bt179.2 bt183.2 t187 0))))) else (none))) = some r := by rw [if_pos rfl] at H; exact H
    clear H
    have H := H1
    clear H1
    obtain ⟨y173, hy173⟩ : ∃ y_ : List (S32), y_ = (([] : List (S32))) := ⟨_, rfl⟩
    replace H : (if y173.length + l0.length < 2932031007402 then ((some (y173 ++ l0 : List (S32))).bind fun y176 => ((event_Make.f y176).bind fun bt179 => ((rosetteref05_Make.f k l0).bind fun bt183 => ((rosetteref05_Same.f k bt179.1 bt183.1).bind fun t187 => (rosettelaw05_EventMakes.l0 k l0 t171 y176 bt179.1 bt179.2 bt183.2 t187 0))))) else (none)) = some r := by first | (rw [hy173]; with_reducible exact H) | (have H2_ := (Option.bind_some _ _).symm.trans H; rw [hy173]; with_reducible exact H2_) | (have H2_ := (Option.bind_some _ _).symm.trans H; with_reducible exact H2_) | with_reducible exact H | (rw [hy173]; exact H) | exact H
    have Ny173 := Aside0.mk hy173
    clear hy173
    by_cases c5 : y173.length + l0.length < 2932031007402
    · rw [if_pos c5] at H
      have LMc5 := Aside0.mk c5
      clear c5
      obtain ⟨y176, hy176⟩ : ∃ y_ : List (S32), y_ = (y173 ++ l0) := ⟨_, rfl⟩
      replace H : ((event_Make.f y176).bind fun bt179 => ((rosetteref05_Make.f k l0).bind fun bt183 => ((rosetteref05_Same.f k bt179.1 bt183.1).bind fun t187 => (rosettelaw05_EventMakes.l0 k l0 t171 y176 bt179.1 bt179.2 bt183.2 t187 0)))) = some r := by first | (rw [hy176]; with_reducible exact H) | (have H2_ := (Option.bind_some _ _).symm.trans H; rw [hy176]; with_reducible exact H2_) | (have H2_ := (Option.bind_some _ _).symm.trans H; with_reducible exact H2_) | with_reducible exact H | (rw [hy176]; exact H) | exact H
      have Ny176 := Aside0.mk hy176
      clear hy176
      replace H := Option.bind_eq_some_iff.mp H
      obtain ⟨⟨t179, t180⟩, A60, H⟩ := H
      replace H : ((rosetteref05_Make.f k l0).bind fun bt183 => ((rosetteref05_Same.f k t179 bt183.1).bind fun t187 => (rosettelaw05_EventMakes.l0 k l0 t171 y176 t179 t180 bt183.2 t187 0))) = some r := H
      have A6 := Aside0.mk A60
      clear A60
      replace H := Option.bind_eq_some_iff.mp H
      obtain ⟨⟨t183, t184⟩, A70, H⟩ := H
      replace H : ((rosetteref05_Same.f k t179 t183).bind fun t187 => (rosettelaw05_EventMakes.l0 k l0 t171 y176 t179 t180 t184 t187 0)) = some r := H
      have A7 := Aside0.mk A70
      clear A70
      replace H := Option.bind_eq_some_iff.mp H
      obtain ⟨t187, A80, H⟩ := H
      replace H : (rosettelaw05_EventMakes.l0 k l0 t171 y176 t179 t180 t184 t187 0) = some r := H
      have A8 := Aside0.mk A80
      clear A80
      have H' := Aside0.mk H
      clear H
      go_enter Try.func3, Try.ntmps3
      go_wp2_with (first | ((with_reducible refine gate_callee (f := 8) rfl ?_); refine goesL_ (some 12) rfl rfl Try.func8 (by kernel_rfl) rfl #[] rfl (by (try simp only [List.map_toArray, List.map_cons, List.map_nil]); first | done | rfl | (simp only [List.length_drop, List.length_take]; rfl)) ?_; (with_reducible refine (rosettelaw05_small.calls  t171 _ A2.out).mono ?_); rintro e w9 ⟨rfl, hb⟩; refine ⟨_, rfl, ?_⟩; have n0_ := Aside0.mk (below_step (by repeat (first | (with_reducible first | exact HB.out | apply below_alloc | apply pw_below_drewN | apply below_drew1) | exact HB.out)) hb); clear HB; have HB := n0_; clear n0_; (try clear hb); (try clear hb2); (try clear hk); (try clear hi)) | ((with_reducible refine gate_callee (f := 9) rfl ?_); refine goesL_ (some 14) rfl rfl Try.func9 (by kernel_rfl) rfl #[.slice A0 l0.length c0] rfl (by (try simp only [List.map_toArray, List.map_cons, List.map_nil]); first | done | rfl | (simp only [List.length_drop, List.length_take]; rfl)) ?_; (with_reducible refine (rosettelaw05_Few.calls k _ _ l0 true _ ?side1 ?side2 A3.out).mono ?_); (case side1 => repeat (first | exact (Kd.C_below HR0.out HB.out) | (with_reducible refine Kd.C_alloc ?_ _) | (with_reducible refine Kd.C_drewN ?_ _) | (with_reducible refine Kd.C_drew ?_))); (case side2 => exact HC0.out); rintro e w' ⟨rfl, ⟨nd, rfl⟩⟩; refine ⟨_, rfl, ?_⟩) | ((with_reducible refine gate_dst (N := 18) rfl ?_); refine Kd.R_lit k32 _ 32 ?hg (N := 18) ?hd (xs := ([] : List (S32))) (inner := []) (ok := fun _ => True) (okp := fun _ => True) ?hr ?hp (fun _ hk => hk) trivial (Below.refl _ _) (Nat.le_refl _) (by simp) ?_; (case hd => rfl); (case hg => rfl); (case hr => first | (go_simp; done) | (go_simp; rfl)); (case hp => exact (Reps.none _ _)); intro v174 w10 ho11 hb hg_ hnew_; clear hg_ hnew_; (first | rw [← Ny173.out] at ho11 | (simp only [Int.reduceToNat] at ho11; rw [← Ny173.out] at ho11)); have n0_ := Aside0.mk (Kd.R_lower ho11 (below_size (by repeat (first | (with_reducible first | exact HB.out | apply below_alloc | apply pw_below_drewN | apply below_drew1) | exact HB.out)))); have n1_ := Aside0.mk (below_step (by repeat (first | (with_reducible first | exact HB.out | apply below_alloc | apply pw_below_drewN | apply below_drew1) | exact HB.out)) hb); clear HB; have HO175 := n0_; have HB := n1_; clear n0_ n1_; clear hb ho11) | ((with_reducible refine gate_builtin (b := .append) (xs := #[.tmp 18, .tmp 19]) rfl ?_); at_builtin; refine Kd.R_append_rows k32 (w0 := w) w.heap.size rfl (.tmp 18) (.tmp 19) 22 32 (.agg #[(.string ⟨#[]⟩), (.int .i64 0), (.int .i64 0), (.string ⟨#[]⟩)]) 48 rfl Try.underlying22 info32 rfl (by decide) (by decide) v174 y173 l0 _ _ _ (fun _ => True) (fun _ => False) rfl rfl ?aO ?aR (fun _ _ h => h) (fun _ h => h.elim) ?aF ?aB ?aS ?aL ?_; (case aR => repeat (first | exact (Kd.C_below HR0.out HB.out) | (with_reducible refine Kd.C_alloc ?_ _) | (with_reducible refine Kd.C_drewN ?_ _) | (with_reducible refine Kd.C_drew ?_))); (case aB => exact (by repeat (first | (with_reducible first | exact HB.out | apply below_alloc | apply pw_below_drewN | apply below_drew1) | exact HB.out))); (case aF => exact (fun _ _ => trivial)); (case aO => exact (by (with_reducible repeat (first | apply Kd.R_alloc | apply Kd.R_drewN | apply Kd.R_drew)); exact HO175.out)); (case aS => exact (below_size (by repeat (first | (with_reducible first | exact HB.out | apply below_alloc | apply pw_below_drewN | apply below_drew1) | exact HB.out)))); (case aL => have := LMc5.out; omega); intro v177 w12 ho hb hg hat; rw [← Ny176.out] at ho; have n0_ := Aside0.mk (hb); have n1_ := Aside0.mk (ho); clear HB; clear HO175; have HB := n0_; have HO178 := n1_; clear n0_ n1_; clear ho hb hg hat; obtain ⟨Ao13, co13, eo13⟩ := Kd.R_slice HO178.out; subst eo13) | ((with_reducible refine gate_callee (f := 10) rfl ?_); refine goesL_ (some 23) rfl rfl Try.func10 (by kernel_rfl) rfl #[.slice Ao13 y176.length co13] rfl (by (try simp only [List.map_toArray, List.map_cons, List.map_nil]); first | done | rfl | (simp only [List.length_drop, List.length_take]; rfl)) ?_; (with_reducible refine (event_Make.calls _ _ y176 t179 t180 _ ?side1 ?side2 A6.out).mono ?_); (case side1 => repeat (first | exact (Kd.R_reads' HO178.out).2.2 | (with_reducible refine Kd.C_alloc ?_ _) | (with_reducible refine Kd.C_drewN ?_ _) | (with_reducible refine Kd.C_drew ?_))); (case side2 => exact (Kd.R_reads' HO178.out).2.1); rintro e w14 ⟨v181, rfl, ho0, hb⟩; refine ⟨_, rfl, ?_⟩; have n0_ := Aside0.mk (Kd.R_elder' (by (with_reducible repeat (first | apply Kd.R_alloc | apply Kd.R_drewN | apply Kd.R_drew)); exact HO178.out) (Kd.R_base ho0) hb); have n1_ := Aside0.mk (Kd.R_lower (Kd.R_new' ho0 (Kd.R_lt (by (with_reducible repeat (first | apply Kd.R_alloc | apply Kd.R_drewN | apply Kd.R_drew)); exact HO178.out))) (below_size (by repeat (first | (with_reducible first | exact HB.out | apply below_alloc | apply pw_below_drewN | apply below_drew1) | exact HB.out)))); have n2_ := Aside0.mk (below_step (by repeat (first | (with_reducible first | exact HB.out | apply below_alloc | apply pw_below_drewN | apply below_drew1) | exact HB.out)) hb); clear HO178; clear HB; have HO178 := n0_; have HO182 := n1_; have HB := n2_; clear n0_ n1_ n2_; (try clear hb); (try clear hb2); (try clear hk); (try clear hi); (try clear ho0)) | ((with_reducible refine gate_callee (f := 11) rfl ?_); refine goesL_ (some 28) rfl rfl Try.func11 (by kernel_rfl) rfl #[.slice A0 l0.length c0] rfl (by (try simp only [List.map_toArray, List.map_cons, List.map_nil]); first | done | rfl | (simp only [List.length_drop, List.length_take]; rfl)) ?_; (with_reducible refine (rosetteref05_Make.calls k _ _ l0 t183 t184 _ ?side1 ?side2 A7.out).mono ?_); (case side1 => repeat (first | exact (Kd.C_below HR0.out HB.out) | (with_reducible refine Kd.C_alloc ?_ _) | (with_reducible refine Kd.C_drewN ?_ _) | (with_reducible refine Kd.C_drew ?_))); (case side2 => exact HC0.out); rintro e w15 ⟨v185, rfl, ho0, hb⟩; refine ⟨_, rfl, ?_⟩; have n0_ := Aside0.mk (Kd.R_elder' (by (with_reducible repeat (first | apply Kd.R_alloc | apply Kd.R_drewN | apply Kd.R_drew)); exact HO178.out) (Kd.R_base ho0) hb); have n1_ := Aside0.mk (Kd.R_elder' (by (with_reducible repeat (first | apply Kd.R_alloc | apply Kd.R_drewN | apply Kd.R_drew)); exact HO182.out) (Kd.R_base ho0) hb); have n2_ := Aside0.mk (Kd.R_lower (Kd.R_new' (Kd.R_new' ho0 (Kd.R_lt (by (with_reducible repeat (first | apply Kd.R_alloc | apply Kd.R_drewN | apply Kd.R_drew)); exact HO178.out))) (Kd.R_lt (by (with_reducible repeat (first | apply Kd.R_alloc | apply Kd.R_drewN | apply Kd.R_drew)); exact HO182.out))) (below_size (by repeat (first | (with_reducible first | exact HB.out | apply below_alloc | apply pw_below_drewN | apply below_drew1) | exact HB.out)))); have n3_ := Aside0.mk (below_step (by repeat (first | (with_reducible first | exact HB.out | apply below_alloc | apply pw_below_drewN | apply below_drew1) | exact HB.out)) hb); clear HO178; clear HO182; clear HB; have HO178 := n0_; have HO182 := n1_; have HO186 := n2_; have HB := n3_; clear n0_ n1_ n2_ n3_; (try clear hb); (try clear hb2); (try clear hk); (try clear hi); (try clear ho0); obtain ⟨Ao16, co16, eo16⟩ := Kd.R_slice HO182.out; subst eo16; obtain ⟨Ao17, co17, eo17⟩ := Kd.R_slice HO186.out; subst eo17) | ((with_reducible refine gate_callee (f := 12) rfl ?_); refine goesL_ (some 33) rfl rfl Try.func12 (by kernel_rfl) rfl #[.slice Ao16 t179.length co16, .slice Ao17 t183.length co17] rfl (by (try simp only [List.map_toArray, List.map_cons, List.map_nil]); first | done | rfl | (simp only [List.length_drop, List.length_take]; rfl)) ?_; (with_reducible refine (rosetteref05_Same.calls k _ _ t179 _ _ t183 t187 _ ?side1 ?side2 ?side3 ?side4 A8.out).mono ?_); (case side1 => repeat (first | exact (Kd.R_reads' HO182.out).2.2 | (with_reducible refine Kd.C_alloc ?_ _) | (with_reducible refine Kd.C_drewN ?_ _) | (with_reducible refine Kd.C_drew ?_))); (case side2 => exact (Kd.R_reads' HO182.out).2.1); (case side3 => repeat (first | exact (Kd.R_reads' HO186.out).2.2 | (with_reducible refine Kd.C_alloc ?_ _) | (with_reducible refine Kd.C_drewN ?_ _) | (with_reducible refine Kd.C_drew ?_))); (case side4 => exact (Kd.R_reads' HO186.out).2.1); rintro e w' ⟨rfl, ⟨nd, rfl⟩⟩; refine ⟨_, rfl, ?_⟩))
      go_loopg [11] k (fun kq v11 w' => ∃ (x6_1 : List (S32)) (x11_1 : Int), v11 = .int .i64 x11_1 ∧ Aside0 (rosettelaw05_EventMakes.l0 kq l0 t171 y176 x6_1 t180 t184 t187 x11_1 = some r) ∧ Aside0 (kq ≤ k) ∧ Aside0 (Kd.R k32 32 w' w.heap.size (fun k_ => some k_ ≠ ((.slice Ao16 t179.length co16) : Value).ownBlock) (.slice Ao13 y176.length co13) y176) ∧ Aside0 (Kd.R k32 32 w' w.heap.size (fun k_ => some k_ ≠ ((.slice Ao13 y176.length co13) : Value).ownBlock) (.slice Ao16 t179.length co16) x6_1) ∧ Aside0 (Below w.heap.size w w'))
      case atStart => exact ⟨(t179), (0), (by first | rfl | (simp; done) | (simp [*]; done)), H', ⟨Nat.le_refl _⟩, ⟨by (with_reducible repeat (first | apply Kd.R_alloc | apply Kd.R_drewN | apply Kd.R_drew)); exact Kd.R_mono HO178.out (fun _ hk => hk.1.2)⟩, ⟨by (with_reducible repeat (first | apply Kd.R_alloc | apply Kd.R_drewN | apply Kd.R_drew)); exact Kd.R_mono HO182.out (fun _ hk => hk.1.2)⟩, ⟨by repeat (first | (with_reducible first | exact HB.out | apply below_alloc | apply pw_below_drewN | apply below_drew1) | exact HB.out)⟩⟩
      case round =>
        clear H'
        try clear c1
        try clear p2
        try clear c3
        try clear c4
        try clear c5
        try clear c8
        try clear c9
        try clear c10
        try clear c11
        try clear c12
        obtain ⟨x6_1, x11_1, rfl, HA, HK1, HO_5, HO_6, HB⟩ := hrel
        have hl6_1 := (Kd.R_reads' HO_6.out).1
        rw [hl6_1] at HO_6
        (try simp only [hl6_1])
        (try simp only [hl6_1] at HO_5)
        cases gk with
        | zero => exact absurd HA.out (by simp [rosettelaw05_EventMakes.l0])
        | succ k1 =>
          have H := HA.out
          clear HA
          simp only [rosettelaw05_EventMakes.l0] at H
          by_cases c18 : x11_1 < (x6_1.length : Int)
          · rw [if_pos c18] at H
            have c18b0 : decide (x11_1 < (x6_1.length : Int)) = true := decide_eq_true c18
            clear c18
            by_cases c19 : 0 ≤ x11_1
            · rw [if_pos c19] at H
              have c19b0 : decide (0 ≤ x11_1) = true := decide_eq_true c19
              clear c19
              obtain ⟨y188, hy188⟩ : ∃ y_ : List (S32), y_ = (x6_1.set (x11_1 : Int).toNat (⟨(⟨#[122, 122]⟩ : ByteArray), (⟨0, 0, (⟨#[]⟩ : ByteArray)⟩ : S30)⟩ : S32)) := ⟨_, rfl⟩
              replace H : (rosettelaw05_EventMakes.l0 k1 l0 t171 y176 y188 t180 t184 t187 (wrap64 (x11_1 + 1))) = some r := by first | (rw [hy188]; with_reducible exact H) | (have H2_ := (Option.bind_some _ _).symm.trans H; rw [hy188]; with_reducible exact H2_) | (have H2_ := (Option.bind_some _ _).symm.trans H; with_reducible exact H2_) | with_reducible exact H | (rw [hy188]; exact H) | exact H
              have Ny188 := Aside0.mk hy188
              clear hy188
              have H' := Aside0.mk H
              clear H
              have p20 : 0 ≤ (x11_1 : Int) := of_decide_eq_true (by first | (with_reducible assumption) | assumption)
              have q20 : (x11_1 : Int) < ((x6_1.length : Int) : Int) := of_decide_eq_true (by first | (with_reducible assumption) | assumption)
              obtain ⟨go20, co20, eo20, gb20, gl20, cl20, HG20⟩ := Kd.R_form HO_6.out (by omega)
              (first | cases eo20 | (injection eo20 with ea_ en_ ec_; (first | subst ea_ | (injection ea_ with ea_; subst ea_)); subst ec_; clear en_))
              have GB20 := Aside0.mk gb20
              have GG20 := Aside0.mk HG20
              clear gb20 gl20 HG20
              obtain ⟨ce20, hcl20, hM20, hcc20, hfr20⟩ := Kd.R_elem HO_6.out z32 (x11_1 : Int) p20 q20
              obtain rfl := k32_openM hM20
              have hx20_0 : wr.cell? ⟨go20, (x11_1 : Int).toNat * 4, none⟩ = some (.string ((rd_T32 x6_1 x11_1).f0)) := hcc20 0 _ rfl
              have hx20_1 : wr.cell? ⟨go20, (x11_1 : Int).toNat * 4 + 1, none⟩ = some (.int .i64 ((rd_T32 x6_1 x11_1).f1.f0)) := hcc20 1 _ rfl
              have hx20_2 : wr.cell? ⟨go20, (x11_1 : Int).toNat * 4 + 2, none⟩ = some (.int .i64 ((rd_T32 x6_1 x11_1).f1.f1)) := hcc20 2 _ rfl
              have hx20_3 : wr.cell? ⟨go20, (x11_1 : Int).toNat * 4 + 3, none⟩ = some (.string ((rd_T32 x6_1 x11_1).f1.f2)) := hcc20 3 _ rfl
              have hf20_0 : wr.frozen? ⟨go20, (x11_1 : Int).toNat * 4, none⟩ = false := hfr20 0
              have hf20_1 : wr.frozen? ⟨go20, (x11_1 : Int).toNat * 4 + 1, none⟩ = false := hfr20 1
              have hf20_2 : wr.frozen? ⟨go20, (x11_1 : Int).toNat * 4 + 2, none⟩ = false := hfr20 2
              have hf20_3 : wr.frozen? ⟨go20, (x11_1 : Int).toNat * 4 + 3, none⟩ = false := hfr20 3
              clear hcl20 hcc20 hfr20 hM20
              replace p20 := eq_true p20
              replace q20 := eq_true q20
              have HX21 := Aside0.mk (show Kd.R k32 32 wr w.heap.size (fun k_ => some k_ ≠ (.slice Ao13 y176.length co13 : Value).ownBlock) (.slice (some ⟨go20, 0, none⟩) x6_1.length co16) x6_1 from (by (with_reducible repeat (first | apply Kd.R_alloc | apply Kd.R_drewN | apply Kd.R_drew)); exact HO_6.out))
              obtain ⟨ce21, hcl21, hM21, hcc21, hfr21⟩ := Kd.R_elem HX21.out z32 (x11_1 : Int) (of_decide_eq_true (by first | (with_reducible assumption) | assumption)) (by have h_ : (x11_1 : Int) < ((x6_1.length : Int) : Int) := of_decide_eq_true (by first | (with_reducible assumption) | assumption); first | exact h_ | (have e_ := (Kd.R_reads' HO_6.out).1; omega) | simpa using h_)
              obtain rfl := k32_openM hM21
              have HP21 := Kd.R_seg HX21.out (x11_1 : Int) (of_decide_eq_true (by first | (with_reducible assumption) | assumption)) (by have h_ : (x11_1 : Int) < ((x6_1.length : Int) : Int) := of_decide_eq_true (by first | (with_reducible assumption) | assumption); first | exact h_ | (have e_ := (Kd.R_reads' HO_6.out).1; omega) | simpa using h_) (seg := [.string (⟨#[122, 122]⟩ : ByteArray), .int .i64 0, .int .i64 0, .string (⟨#[]⟩ : ByteArray)]) (j := 0) hcl21 hcc21 (show 4 ≤ 4 from by decide) (x' := (⟨(⟨#[122, 122]⟩ : ByteArray), (⟨0, 0, (⟨#[]⟩ : ByteArray)⟩ : S30)⟩ : S32)) (k32_mkM _ _ _ (⟨(⟨#[122, 122]⟩ : ByteArray), (⟨0, 0, (⟨#[]⟩ : ByteArray)⟩ : S30)⟩ : S32) ) (fun _ hk => hk)
              have hx21_0 := hcc21 0 _ rfl
              (try simp only [show (k32).sz = 4 from rfl, Nat.mul_one, Nat.add_zero] at hx21_0)
              have hf21_0 := hfr21 0
              (try simp only [show (k32).sz = 4 from rfl, Nat.mul_one, Nat.add_zero] at hf21_0)
              have hx21_1 := hcc21 1 _ rfl
              (try simp only [show (k32).sz = 4 from rfl, Nat.mul_one, Nat.add_zero] at hx21_1)
              have hf21_1 := hfr21 1
              (try simp only [show (k32).sz = 4 from rfl, Nat.mul_one, Nat.add_zero] at hf21_1)
              have hx21_2 := hcc21 2 _ rfl
              (try simp only [show (k32).sz = 4 from rfl, Nat.mul_one, Nat.add_zero] at hx21_2)
              have hf21_2 := hfr21 2
              (try simp only [show (k32).sz = 4 from rfl, Nat.mul_one, Nat.add_zero] at hf21_2)
              have hx21_3 := hcc21 3 _ rfl
              (try simp only [show (k32).sz = 4 from rfl, Nat.mul_one, Nat.add_zero] at hx21_3)
              have hf21_3 := hfr21 3
              (try simp only [show (k32).sz = 4 from rfl, Nat.mul_one, Nat.add_zero] at hf21_3)
              clear hcl21 hcc21 hfr21 hM21
              go_wp2_with (first | ((with_reducible refine gate_store (t := 32) (p := 43) rfl ?_); refine store_event (t := 32) (p := 43) (v := ?vo_w22) (w1 := ((((wr.setCell ⟨go20, (x11_1 : Int).toNat * 4, none⟩ (.string (⟨#[122, 122]⟩ : ByteArray))).setCell ⟨go20, (x11_1 : Int).toNat * 4 + 1, none⟩ (.int .i64 0)).setCell ⟨go20, (x11_1 : Int).toNat * 4 + 2, none⟩ (.int .i64 0)).setCell ⟨go20, (x11_1 : Int).toNat * 4 + 3, none⟩ (.string (⟨#[]⟩ : ByteArray)))) ?hg ?ho ?hn ?hr ?_; (case ho => rfl); (case hg => rfl); (case hn => rfl); (case hr => first | (go_simp; done) | (go_simp; rfl)); intro w22 hw; have hg : wr.grownBy w22 (some go20) := (by rw [hw]; exact HP21.2); have hp_ : Kd.R k32 32 w22 w.heap.size (fun k_ => some k_ ≠ (.slice Ao13 y176.length co13 : Value).ownBlock) (.slice (some ⟨go20, 0, none⟩) x6_1.length co16) y188 := (by rw [hw, Ny188.out]; exact HP21.1); clear HP21; have n0_ := Aside0.mk (Kd.R_after (v := (.slice (some ⟨go20, 0, none⟩) x6_1.length co16)) (v1 := (.slice (some ⟨go20, 0, none⟩) x6_1.length co16)) (ok := (fun _ => True)) (by (with_reducible repeat (first | apply Kd.R_alloc | apply Kd.R_drewN | apply Kd.R_drew)); exact Kd.R_mono HO_5.out (fun _ hk => ⟨trivial, hk⟩)) hg (.inl rfl)); have n1_ := Aside0.mk (hp_); have n2_ := Aside0.mk ((by rw [hw]; exact below_set (below_set (below_set (below_set (HB.out) GB20.out) GB20.out) GB20.out) GB20.out : Below w.heap.size w w22)); clear HO_5; clear HO_6; clear HB; have HO_5 := n0_; have HO_6 := n1_; have HB := n2_; clear n0_ n1_ n2_; clear hg hw hp_))
              (try simp only [← hl6_1])
              go_roundg k1
              case measure => have := HK1.out; omega
              case rel => exact ⟨(y188), (wrap64 (x11_1 + 1)), (by first | rfl | (simp; done) | (simp [*]; done)), H', ⟨by have := HK1.out; omega⟩, ⟨by (try simp only [hl6_1]); (with_reducible repeat (first | apply Kd.R_alloc | apply Kd.R_drewN | apply Kd.R_drew)); exact Kd.R_mono HO_5.out (fun _ hk => hk.2)⟩, ⟨by (try simp only [hl6_1]); (with_reducible repeat (first | apply Kd.R_alloc | apply Kd.R_drewN | apply Kd.R_drew)); exact HO_6.out⟩, ⟨by repeat (first | (with_reducible first | exact HB.out | apply below_alloc | apply pw_below_drewN | apply below_drew1) | exact HB.out)⟩⟩
            · rw [if_neg c19] at H
              exact absurd H (by simp)
          · rw [if_neg c18] at H
            have c18b0 : decide (x11_1 < (x6_1.length : Int)) = false := decide_eq_false c18
            clear c18
            by_cases c23 : t171 = true
            · subst c23
              have H1 : (if t187 = true then (if t180 = t184 then ((event_Right.f l0).bind fun t189 => ((rosetteref05_Right.f k1 l0).bind fun t190 => (if (t189 == t190) = true then ((rosetteref05_Same.f k1 y176 l0).bind fun t191 => (some t191)) else (some false)))) else (some false)) else (some false)) = some r := by rw [if_pos rfl] at H; exact H
              clear H
              have H := H1
              clear H1
              by_cases c24 : t187 = true
              · subst c24
                have H1 : (if t180 = t184 then ((event_Right.f l0).bind fun t189 => ((rosetteref05_Right.f k1 l0).bind fun t190 => (if (t189 == t190) = true then ((rosetteref05_Same.f k1 y176 l0).bind fun t191 => (some t191)) else (some false)))) else (some false)) = some r := by rw [if_pos rfl] at H; exact H
                clear H
                have H := H1
                clear H1
                by_cases c25 : t180 = t184
                · rw [if_pos c25] at H
                  have c25b0 : (t180 == t184) = true := beq_iff_eq.mpr c25
                  have c25b1 : (t180 != t184) = false := bne_eq_false_iff_eq.mpr c25
                  clear c25
                  replace H := Option.bind_eq_some_iff.mp H
                  obtain ⟨t189, A260, H⟩ := H
                  replace H : ((rosetteref05_Right.f k1 l0).bind fun t190 => (if (t189 == t190) = true then ((rosetteref05_Same.f k1 y176 l0).bind fun t191 => (some t191)) else (some false))) = some r := H
                  have A26 := Aside0.mk A260
                  clear A260
                  replace H := Option.bind_eq_some_iff.mp H
                  obtain ⟨t190, A270, H⟩ := H
                  replace H : (if (t189 == t190) = true then ((rosetteref05_Same.f k1 y176 l0).bind fun t191 => (some t191)) else (some false)) = some r := H
                  have A27 := Aside0.mk A270
                  clear A270
                  by_cases c28 : (t189 == t190) = true
                  · rw [if_pos c28] at H
                    have c28b0 : (t189 == t190) = true := c28
                    (try (have c28b1 : decide (t189 = t190) = true := by simpa using c28))
                    (try (have c28b2 : (t189 == t190) = true := by simpa using c28))
                    clear c28
                    replace H := Option.bind_eq_some_iff.mp H
                    obtain ⟨t191, A290, H⟩ := H
                    replace H : (some t191) = some r := H
                    have A29 := Aside0.mk A290
                    clear A290
                    obtain rfl := Option.some.inj H
                    go_wp2_with (first | (go_at_call 13; (with_reducible refine (event_Right.calls _ _ l0 t189 _ ?side1 ?side2 A26.out).mono ?_); (case side1 => repeat (first | exact (Kd.C_below HR0.out HB.out) | (with_reducible refine Kd.C_alloc ?_ _) | (with_reducible refine Kd.C_drewN ?_ _) | (with_reducible refine Kd.C_drew ?_))); (case side2 => exact HC0.out); rintro e w30 ⟨rfl, hb⟩; have n0_ := Aside0.mk (Kd.R_below (by (with_reducible repeat (first | apply Kd.R_alloc | apply Kd.R_drewN | apply Kd.R_drew)); exact HO_5.out) hb); have n1_ := Aside0.mk (Kd.R_below (by (with_reducible repeat (first | apply Kd.R_alloc | apply Kd.R_drewN | apply Kd.R_drew)); exact HO_6.out) hb); have n2_ := Aside0.mk (below_step (by repeat (first | (with_reducible first | exact HB.out | apply below_alloc | apply pw_below_drewN | apply below_drew1) | exact HB.out)) hb); clear HO_5; clear HO_6; clear HB; have HO_5 := n0_; have HO_6 := n1_; have HB := n2_; clear n0_ n1_ n2_; (try clear hb); (try clear hb2); (try clear hk); (try clear hi)) | (go_at_call 14; (with_reducible refine (rosetteref05_Right.calls k1 _ _ l0 t190 _ ?side1 ?side2 A27.out).mono ?_); (case side1 => repeat (first | exact (Kd.C_below HR0.out HB.out) | (with_reducible refine Kd.C_alloc ?_ _) | (with_reducible refine Kd.C_drewN ?_ _) | (with_reducible refine Kd.C_drew ?_))); (case side2 => exact HC0.out); rintro e w31 ⟨rfl, hb⟩; have n0_ := Aside0.mk (Kd.R_below (by (with_reducible repeat (first | apply Kd.R_alloc | apply Kd.R_drewN | apply Kd.R_drew)); exact HO_5.out) hb); have n1_ := Aside0.mk (Kd.R_below (by (with_reducible repeat (first | apply Kd.R_alloc | apply Kd.R_drewN | apply Kd.R_drew)); exact HO_6.out) hb); have n2_ := Aside0.mk (below_step (by repeat (first | (with_reducible first | exact HB.out | apply below_alloc | apply pw_below_drewN | apply below_drew1) | exact HB.out)) hb); clear HO_5; clear HO_6; clear HB; have HO_5 := n0_; have HO_6 := n1_; have HB := n2_; clear n0_ n1_ n2_; (try clear hb); (try clear hb2); (try clear hk); (try clear hi)) | (go_at_call 12; (with_reducible refine (rosetteref05_Same.calls k1 _ _ y176 _ _ l0 t191 _ ?side1 ?side2 ?side3 ?side4 A29.out).mono ?_); (case side1 => repeat (first | exact (Kd.R_reads' HO_5.out).2.2 | (with_reducible refine Kd.C_alloc ?_ _) | (with_reducible refine Kd.C_drewN ?_ _) | (with_reducible refine Kd.C_drew ?_))); (case side2 => exact (Kd.R_reads' HO_5.out).2.1); (case side3 => repeat (first | exact (Kd.C_below HR0.out HB.out) | (with_reducible refine Kd.C_alloc ?_ _) | (with_reducible refine Kd.C_drewN ?_ _) | (with_reducible refine Kd.C_drew ?_))); (case side4 => exact HC0.out); rintro e w' ⟨rfl, ⟨nd, rfl⟩⟩))
                    go_ret
                    exact ⟨by first | rfl | (simp [errW_none, errW_some] <;> rfl) | (simp [*, errW_none, errW_some] <;> rfl), by repeat (first | (with_reducible first | exact HB.out | apply below_alloc | apply pw_below_drewN | apply below_drew1) | exact HB.out)⟩
                  · rw [if_neg c28] at H
                    have c28b0 : (t189 == t190) = false := by simpa using c28
                    (try (have c28b1 : decide (t189 = t190) = false := by simpa using c28))
                    (try (have c28b2 : (t189 == t190) = false := by simpa using c28))
                    (try (have c28b3 : ¬ (t189 = t190) := by simpa using c28))
                    clear c28
                    obtain rfl := Option.some.inj H
                    go_wp2_with (first | (go_at_call 13; (with_reducible refine (event_Right.calls _ _ l0 t189 _ ?side1 ?side2 A26.out).mono ?_); (case side1 => repeat (first | exact (Kd.C_below HR0.out HB.out) | (with_reducible refine Kd.C_alloc ?_ _) | (with_reducible refine Kd.C_drewN ?_ _) | (with_reducible refine Kd.C_drew ?_))); (case side2 => exact HC0.out); rintro e w32 ⟨rfl, hb⟩; have n0_ := Aside0.mk (Kd.R_below (by (with_reducible repeat (first | apply Kd.R_alloc | apply Kd.R_drewN | apply Kd.R_drew)); exact HO_5.out) hb); have n1_ := Aside0.mk (Kd.R_below (by (with_reducible repeat (first | apply Kd.R_alloc | apply Kd.R_drewN | apply Kd.R_drew)); exact HO_6.out) hb); have n2_ := Aside0.mk (below_step (by repeat (first | (with_reducible first | exact HB.out | apply below_alloc | apply pw_below_drewN | apply below_drew1) | exact HB.out)) hb); clear HO_5; clear HO_6; clear HB; have HO_5 := n0_; have HO_6 := n1_; have HB := n2_; clear n0_ n1_ n2_; (try clear hb); (try clear hb2); (try clear hk); (try clear hi)) | (go_at_call 14; (with_reducible refine (rosetteref05_Right.calls k1 _ _ l0 t190 _ ?side1 ?side2 A27.out).mono ?_); (case side1 => repeat (first | exact (Kd.C_below HR0.out HB.out) | (with_reducible refine Kd.C_alloc ?_ _) | (with_reducible refine Kd.C_drewN ?_ _) | (with_reducible refine Kd.C_drew ?_))); (case side2 => exact HC0.out); rintro e w33 ⟨rfl, hb⟩; have n0_ := Aside0.mk (Kd.R_below (by (with_reducible repeat (first | apply Kd.R_alloc | apply Kd.R_drewN | apply Kd.R_drew)); exact HO_5.out) hb); have n1_ := Aside0.mk (Kd.R_below (by (with_reducible repeat (first | apply Kd.R_alloc | apply Kd.R_drewN | apply Kd.R_drew)); exact HO_6.out) hb); have n2_ := Aside0.mk (below_step (by repeat (first | (with_reducible first | exact HB.out | apply below_alloc | apply pw_below_drewN | apply below_drew1) | exact HB.out)) hb); clear HO_5; clear HO_6; clear HB; have HO_5 := n0_; have HO_6 := n1_; have HB := n2_; clear n0_ n1_ n2_; (try clear hb); (try clear hb2); (try clear hk); (try clear hi)))
                    go_ret
                    exact ⟨by first | rfl | (simp [errW_none, errW_some] <;> rfl) | (simp [*, errW_none, errW_some] <;> rfl), by repeat (first | (with_reducible first | exact HB.out | apply below_alloc | apply pw_below_drewN | apply below_drew1) | exact HB.out)⟩
                · rw [if_neg c25] at H
                  have c25b0 : (t180 == t184) = false := beq_eq_false_iff_ne.mpr c25
                  have c25b1 : (t180 != t184) = true := bne_iff_ne.mpr c25
                  obtain rfl := Option.some.inj H
                  go_wp2
                  go_ret
                  exact ⟨by first | rfl | (simp [errW_none, errW_some] <;> rfl) | (simp [*, errW_none, errW_some] <;> rfl), by repeat (first | (with_reducible first | exact HB.out | apply below_alloc | apply pw_below_drewN | apply below_drew1) | exact HB.out)⟩
              · replace c24 := Bool.eq_false_iff.mpr c24
                subst c24
                have H1 : (some false) = some r := by rw [if_neg (show ¬ (false = true) by decide)] at H; exact H
                clear H
                have H := H1
                clear H1
                obtain rfl := Option.some.inj H
                go_wp2
                go_ret
                exact ⟨by first | rfl | (simp [errW_none, errW_some] <;> rfl) | (simp [*, errW_none, errW_some] <;> rfl), by repeat (first | (with_reducible first | exact HB.out | apply below_alloc | apply pw_below_drewN | apply below_drew1) | exact HB.out)⟩
            · replace c23 := Bool.eq_false_iff.mpr c23
              subst c23
              have H1 : (some false) = some r := by rw [if_neg (show ¬ (false = true) by decide)] at H; exact H
              clear H
              have H := H1
              clear H1
              obtain rfl := Option.some.inj H
              go_wp2
              go_ret
              exact ⟨by first | rfl | (simp [errW_none, errW_some] <;> rfl) | (simp [*, errW_none, errW_some] <;> rfl), by repeat (first | (with_reducible first | exact HB.out | apply below_alloc | apply pw_below_drewN | apply below_drew1) | exact HB.out)⟩
    · rw [if_neg c5] at H
      exact absurd H (by simp)
  · replace c4 := Bool.eq_false_iff.mpr c4
    subst c4
    have H1 : (some t171) = some r := by rw [if_neg (show ¬ (false = true) by decide)] at H; exact H
    clear H
    have H := H1
    clear H1
    obtain rfl := Option.some.inj H
    go_enter Try.func3, Try.ntmps3
    go_wp2_with (first | ((with_reducible refine gate_callee (f := 8) rfl ?_); refine goesL_ (some 12) rfl rfl Try.func8 (by kernel_rfl) rfl #[] rfl (by (try simp only [List.map_toArray, List.map_cons, List.map_nil]); first | done | rfl | (simp only [List.length_drop, List.length_take]; rfl)) ?_; (with_reducible refine (rosettelaw05_small.calls  t171 _ A2.out).mono ?_); rintro e w34 ⟨rfl, hb⟩; refine ⟨_, rfl, ?_⟩; have n0_ := Aside0.mk (below_step (by repeat (first | (with_reducible first | exact HB.out | apply below_alloc | apply pw_below_drewN | apply below_drew1) | exact HB.out)) hb); clear HB; have HB := n0_; clear n0_; (try clear hb); (try clear hb2); (try clear hk); (try clear hi)) | ((with_reducible refine gate_callee (f := 9) rfl ?_); refine goesL_ (some 14) rfl rfl Try.func9 (by kernel_rfl) rfl #[.slice A0 l0.length c0] rfl (by (try simp only [List.map_toArray, List.map_cons, List.map_nil]); first | done | rfl | (simp only [List.length_drop, List.length_take]; rfl)) ?_; (with_reducible refine (rosettelaw05_Few.calls k _ _ l0 false _ ?side1 ?side2 A3.out).mono ?_); (case side1 => repeat (first | exact (Kd.C_below HR0.out HB.out) | (with_reducible refine Kd.C_alloc ?_ _) | (with_reducible refine Kd.C_drewN ?_ _) | (with_reducible refine Kd.C_drew ?_))); (case side2 => exact HC0.out); rintro e w' ⟨rfl, ⟨nd, rfl⟩⟩; refine ⟨_, rfl, ?_⟩))
    go_ret
    exact ⟨by first | rfl | (simp [errW_none, errW_some] <;> rfl) | (simp [*, errW_none, errW_some] <;> rfl), by repeat (first | (with_reducible first | exact HB.out | apply below_alloc | apply pw_below_drewN | apply below_drew1) | exact HB.out)⟩

end Go.Proofs.Ytmbpgebboppkmaa.G
end

section
namespace Go.Proofs.Ytmbpgebboppkmaa.G
open Go.RowKit Go.Proofs.Ytmbpgebboppkmaa Go.Proofs.Ytmbpgebboppkmaa.G Go.Proofs.YtmbpgebboppkmaaW.PrintWords Go.Proofs.YtmbpgebboppkmaaW.PrintLast

/-- The pure statement of rosettelaw05_EventMakes. -/
def rosettelaw05_EventMakes.Pure : Prop := ∀ (l0 : (List S32)), ((l0.length ≤ maxLen ∧ l0.length * 48 ≤ 140737488351232) ∧ ∀ x0 ∈ l0, (x0.f0.size ≤ 140737488351232 ∧ ((Lit.int .i64 x0.f1.f0).wf = true ∧ ((Lit.int .i64 x0.f1.f1).wf = true ∧ x0.f1.f2.size ≤ 140737488351232)))) → ∃ k, rosettelaw05_EventMakes.f k l0 = some true
end Go.Proofs.Ytmbpgebboppkmaa.G
end

section
/- the common form of what the laws of events ask -/
set_option linter.unusedVariables false
set_option linter.unusedSimpArgs false
set_option autoImplicit false
namespace Go.Proofs.Ytmbpgebboppkmaa
open Go Go.RowKit Go.Proofs.YtmbpgebboppkmaaW.PrintWords Go.Proofs.YtmbpgebboppkmaaW.PrintLast Go.Proofs.YtmbpgebboppkmaaW.PrintMore Go.Proofs.Ytmbpgebboppkmaa.G

def GoodE (e : List S32) : Prop := e.length ≤ 40 ∧ ∀ a ∈ e, a.f0.size ≤ maxLen
instance (e : List S32) : Decidable (GoodE e) := by unfold GoodE; exact inferInstance
def lawF (k : Nat) (e : List S32) (OK : Prop) [Decidable OK] : Option Bool :=
  (rosettelaw05_Few.f k e).bind fun f5 => if f5 = true → GoodE e ∧ OK then some true else none
theorem lawF_open {k : Nat} {e : List S32} {OK : Prop} [Decidable OK] {r : Bool} (h : lawF k e OK = some r) :
    ∃ f5, rosettelaw05_Few.f k e = some f5 ∧ r = true ∧ (f5 = true → GoodE e ∧ OK) := by
  unfold lawF at h
  obtain ⟨f5, h5, h⟩ := Option.bind_eq_some_iff.mp h
  split at h
  · rename_i hc
    exact ⟨f5, h5, (Option.some.inj h).symm, hc⟩
  · cases h
/-- what comes in reads so -/
def GoodA (e : List S32) : Prop := (e.length ≤ maxLen ∧ e.length * 48 ≤ 140737488351232) ∧ ∀ x0 ∈ e, (x0.f0.size ≤ 140737488351232 ∧ ((Lit.int .i64 x0.f1.f0).wf = true ∧ ((Lit.int .i64 x0.f1.f1).wf = true ∧ x0.f1.f2.size ≤ 140737488351232)))
theorem few5_go (e : List S32) (he : e.length ≤ 4611686018427387904) : ∀ (d k i : Nat), i + d = e.length → d < k → ∃ b, rosettelaw05_Few.l0 k e (i : Int) = some b ∧ (b = true → e.length ≤ 40) := by
  intro d
  induction d with
  | zero =>
    intro k i hi hk
    obtain ⟨k, rfl⟩ : ∃ m, k = m + 1 := ⟨k - 1, by omega⟩
    simp only [rosettelaw05_Few.l0]
    rw [if_neg (by omega)]
    exact ⟨_, rfl, fun h => by have := of_decide_eq_true h; omega⟩
  | succ d ih =>
    intro k i hi hk
    obtain ⟨k, rfl⟩ : ∃ m, k = m + 1 := ⟨k - 1, by omega⟩
    simp only [rosettelaw05_Few.l0]
    rw [if_pos (by omega), if_pos (by omega)]
    split
    · exact ⟨_, rfl, fun h => by cases h⟩
    · split
      · exact ⟨_, rfl, fun h => by cases h⟩
      · rw [show wrap64 ((i : Int) + 1) = ((i + 1 : Nat) : Int) by unfold wrap64; omega]
        exact ih k (i + 1) (by omega) (by omega)
/-- from some fuel on -/
def Ev (P : Nat → Prop) : Prop := ∃ K, ∀ k, K ≤ k → P k
theorem Ev.and {P Q : Nat → Prop} (h1 : Ev P) (h2 : Ev Q) : Ev fun k => P k ∧ Q k := by
  obtain ⟨a, h1⟩ := h1
  obtain ⟨b, h2⟩ := h2
  exact ⟨a + b, fun k hk => ⟨h1 k (by omega), h2 k (by omega)⟩⟩
theorem Ev.succ {P Q : Nat → Prop} (h1 : Ev P) (h : ∀ k, P k → Q (k + 1)) : Ev Q := by
  obtain ⟨a, h1⟩ := h1
  refine ⟨a + 1, fun k hk => ?_⟩
  obtain ⟨k, rfl⟩ : ∃ m, k = m + 1 := ⟨k - 1, by omega⟩
  exact h k (h1 k (by omega))
theorem Ev.mono {P Q : Nat → Prop} (h1 : Ev P) (h : ∀ k, P k → Q k) : Ev Q := by
  obtain ⟨a, h1⟩ := h1
  exact ⟨a, fun k hk => h k (h1 k hk)⟩
theorem Ev.now {P : Nat → Prop} (h : ∀ k, P (k + 1)) : Ev P := ⟨1, fun k hk => by
  obtain ⟨k, rfl⟩ : ∃ m, k = m + 1 := ⟨k - 1, by omega⟩
  exact h k⟩
theorem good_of {e : List S32} (h : GoodA e) (h40 : e.length ≤ 40) : GoodE e := ⟨h40, fun a ha => by have := (h.2 a ha).1; simp only [maxLen]; omega⟩
/-- a law of the common form holds, if what it says does from some fuel on -/
theorem lawF_some {e : List S32} (he : GoodA e) (OK : Nat → Prop) (D : ∀ k, Decidable (OK k)) (h : e.length ≤ 40 → Ev OK) : ∃ k, @lawF k e (OK k) (D k) = some true := by
  by_cases h40 : e.length ≤ 40
  · obtain ⟨K, hK⟩ := h h40
    obtain ⟨b, hb, _⟩ := few5_go e (by have := he.1.2; omega) e.length (e.length + 1 + K) 0 (by omega) (by omega)
    refine ⟨e.length + 1 + K, ?_⟩
    have hb' : rosettelaw05_Few.f (e.length + 1 + K) e = some b := hb
    unfold lawF
    rw [hb', Option.bind_some]
    exact if_pos fun _ => ⟨good_of he h40, hK _ (by omega)⟩
  · obtain ⟨b, hb, hb2⟩ := few5_go e (by have := he.1.2; omega) e.length (e.length + 1) 0 (by omega) (by omega)
    refine ⟨e.length + 1, ?_⟩
    have hb' : rosettelaw05_Few.f (e.length + 1) e = some b := hb
    unfold lawF
    rw [hb', Option.bind_some]
    exact if_pos fun h => absurd (hb2 h) h40
end Go.Proofs.Ytmbpgebboppkmaa
end

section
/- the reference: which attributes may be; plain laws -/
set_option linter.unusedVariables false
set_option linter.unusedSimpArgs false
set_option autoImplicit false
namespace Go.Proofs.Ytmbpgebboppkmaa
open Go Go.RowKit Go.Proofs.YtmbpgebboppkmaaW.PrintWords Go.Proofs.YtmbpgebboppkmaaW.PrintLast Go.Proofs.Ytmbpgebboppkmaa.G

theorem andNot_one (i : Int) (h0 : -9223372036854775808 ≤ i) (h1 : i < 9223372036854775808) : (bits .andNot .i64 i 1 = 0) ↔ (0 ≤ i ∧ i ≤ 1) := by
  obtain ⟨X, hX⟩ : ∃ X, (BitVec.ofInt 64 i).toNat = X := ⟨_, rfl⟩
  have hb : bits .andNot .i64 i 1 = IntKind.i64.wrap ((X &&& 18446744073709551614 : Nat) : Int) := by
    show IntKind.i64.wrap ((BitVec.ofInt 64 i &&& ~~~BitVec.ofInt 64 1).toNat : Int) = _
    rw [BitVec.toNat_and, hX]
    rfl
  have hx : (X : Int) = i % 18446744073709551616 := by
    rw [← hX, BitVec.toNat_ofInt]
    omega
  have hd : (X &&& 18446744073709551614) / 2 = X / 2 := by
    rw [Nat.and_div_two, show 18446744073709551614 / 2 = 2 ^ 63 - 1 from rfl, Nat.and_two_pow_sub_one_eq_mod]
    omega
  have hm : (X &&& 18446744073709551614) % 2 = 0 := by
    have := Nat.and_mod_two_pow (a := X) (b := 18446744073709551614) (n := 1)
    simp only [show (2 : Nat) ^ 1 = 2 from rfl] at this
    rw [this]
    simp
  rw [hb, IntKind.wrap_i64]
  generalize X &&& 18446744073709551614 = Y at *
  omega
theorem size_nil (n : ByteArray) : n.toList = [] ↔ n.size = 0 := by
  rw [ByteArray.toList_eq]
  constructor
  · intro h
    have := congrArg List.length h
    rw [Array.length_toList] at this
    exact this
  · intro h
    apply List.eq_nil_of_length_eq_zero
    rw [Array.length_toList]
    exact h
theorem ref_right (k i : Int) (t : ByteArray) (h0 : -9223372036854775808 ≤ i) (h1 : i < 9223372036854775808) : rosetteref04_Right.f k i t = some (vrightB k i t) := by
  unfold rosetteref04_Right.f vrightB
  by_cases k1 : k = 1
  · rw [if_pos k1, if_pos k1]
  · rw [if_neg k1, if_neg k1]
    by_cases k2 : k = 2
    · rw [if_pos k2, if_pos k2]; split <;> rfl
    · rw [if_neg k2, if_neg k2]
      by_cases k3 : k = 3
      · rw [if_pos k3, if_pos k3]
        by_cases ht : t.toList = []
        · rw [if_pos ht, if_pos ht]
          have hb := andNot_one i h0 h1
          by_cases hi : i ≥ 0
          · rw [if_pos hi]
            congr 1
            by_cases h2 : i ≤ 1
            · rw [decide_eq_true h2, hb.2 ⟨hi, h2⟩]; rfl
            · rw [decide_eq_false h2]
              have : ¬ Go.bits .andNot .i64 i 1 = 0 := fun e => h2 (hb.1 e).2
              simp [this]
          · rw [if_neg hi]
            have : ¬ Go.bits .andNot .i64 i 1 = 0 := fun e => hi (hb.1 e).1
            simp [this]
        · rw [if_neg ht, if_neg ht]
      · rw [if_neg k3, if_neg k3]
theorem one_f (x : S32) (h0 : -9223372036854775808 ≤ x.f1.f1) (h1 : x.f1.f1 < 9223372036854775808) : rosetteref05_one.f x.f0 x.f1.f0 x.f1.f1 x.f1.f2 = some (!wrongA x) := by
  unfold rosetteref05_one.f wrongA
  rw [ref_right _ _ _ h0 h1, Option.bind_some]
  have hs := size_nil x.f0
  cases hv : vrightB x.f1.f0 x.f1.f1 x.f1.f2 with
  | false =>
    rw [if_neg (by decide)]
    split
    · rfl
    · split <;> rfl
  | true =>
    rw [if_pos rfl]
    by_cases hn : x.f0.toList = []
    · rw [if_pos hn, if_neg (by have := hs.1 hn; omega)]; rfl
    · have : ¬ x.f0.size = 0 := fun e => hn (hs.2 e)
      rw [if_neg hn, if_pos (by omega)]
      by_cases h16 : (x.f0.size : Int) > 16
      · rw [if_pos h16, decide_eq_false (by omega)]; rfl
      · rw [if_neg h16, decide_eq_true (by omega)]; rfl
end Go.Proofs.Ytmbpgebboppkmaa
end

section
/- which events are right; plain laws -/
set_option linter.unusedVariables false
set_option linter.unusedSimpArgs false
set_option autoImplicit false
namespace Go.Proofs.Ytmbpgebboppkmaa
open Go Go.RowKit Go.Shelf Go.Sort Go.Proofs.YtmbpgebboppkmaaW.PrintWords Go.Proofs.YtmbpgebboppkmaaW.PrintLast Go.Proofs.Ytmbpgebboppkmaa.G

theorem rdA (l : List S32) (i : Nat) (hi : i < l.length) : rd_T32 l (i : Int) = l[i] := by simp [rd_T32, List.getD_eq_getElem?_getD, hi]
theorem sortedTo_iff (l : List S32) : ∀ n, n < l.length ∨ n = 0 → (sortedTo l n = true ↔ ∀ i, i < n → ltOf cmpN (rd_T32 l ((i + 1 : Nat) : Int)) (rd_T32 l (i : Int)) = false) := by
  intro n
  induction n with
  | zero => intro _; exact ⟨fun _ i hi => by omega, fun _ => rfl⟩
  | succ n ih =>
    intro hn
    rw [sortedTo]
    have e : nameLt (rd_T32 l ((n + 1 : Nat) : Int)) (rd_T32 l (n : Int)) = ltOf cmpN (rd_T32 l ((n + 1 : Nat) : Int)) (rd_T32 l (n : Int)) := rfl
    rw [e]
    by_cases h : ltOf cmpN (rd_T32 l ((n + 1 : Nat) : Int)) (rd_T32 l (n : Int)) = true
    · rw [if_pos h]
      exact ⟨fun hh => absurd hh (by decide), fun hh => absurd (hh n (by omega)) (by rw [h]; decide)⟩
    · rw [if_neg h, ih (by omega)]
      refine ⟨fun hh i hi => ?_, fun hh i hi => hh i (by omega)⟩
      by_cases hin : i = n
      · subst hin; simpa using h
      · exact hh i (by omega)
theorem sorted_ord (l : List S32) : sortedE l = true ↔ OrdN l := by
  unfold sortedE
  rw [sortedTo_iff l (l.length - 1) (by omega)]
  unfold OrdN
  rw [List.pairwise_iff_getElem]
  constructor
  · intro h i j hi hj hij
    have hg : ∀ d, ∀ j (hj : j < l.length), j = i + 1 + d → ltOf cmpN l[j] l[i] = false := by
      intro d
      induction d with
      | zero =>
        intro j hj e
        subst e
        have := h i (by omega)
        rw [rdA l i hi, rdA l (i + 1) hj] at this
        exact this
      | succ d ih =>
        intro j hj e
        subst e
        have h1 := ih (i + 1 + d) (by omega) rfl
        have h2 := h (i + 1 + d) (by omega)
        rw [rdA l (i + 1 + d) (by omega), rdA l (i + 1 + d + 1) (by omega)] at h2
        exact swoN.ntrans _ _ _ h2 h1
    exact hg (j - (i + 1)) j hj (by omega)
  · intro h i hi
    have := h i (i + 1) (by omega) (by omega) (by omega)
    rw [rdA l i (by omega), rdA l (i + 1) (by omega)]
    exact this
theorem addG_full : ∀ (l : List S32) (ns : List ByteArray), (l.map (·.f0)).Nodup → (∀ x ∈ l, x.f0 ∉ ns) → (l.foldl (fun ns x => addG ns x.f0) ns).length = ns.length + l.length := by
  intro l
  induction l with
  | nil => intro ns _ _; simp
  | cons x l ih =>
    intro ns hn hd
    rw [List.map_cons, List.nodup_cons] at hn
    have hg : addG ns x.f0 = ns ++ [x.f0] := by unfold addG; rw [if_neg (hd x (by simp))]
    rw [List.foldl_cons, hg, ih (ns ++ [x.f0]) hn.2 (fun y hy hm => ?_)]
    · simp; omega
    · rcases List.mem_append.1 hm with h | h
      · exact hd y (by simp [hy]) h
      · rw [List.mem_singleton] at h
        exact hn.1 (List.mem_map.2 ⟨y, hy, h⟩)
theorem nodup_twice {l : List S32} (h : (l.map (·.f0)).Nodup) : twiceE l = false := by
  unfold twiceE namesD
  rw [addG_full l [] h (fun x _ => by simp)]
  simp
theorem right_iff (l : List S32) : rightE l = true ↔ l.length ≤ 24 ∧ l.any wrongA = false ∧ OrdN l ∧ (l.map (·.f0)).Nodup := by
  unfold rightE
  simp only [Bool.and_eq_true, Bool.not_eq_true', decide_eq_true_eq]
  rw [sorted_ord]
  exact ⟨fun ⟨a, b, c, d⟩ => ⟨a, b, c, twice_nodup d⟩, fun ⟨a, b, c, d⟩ => ⟨a, b, c, nodup_twice d⟩⟩
theorem right_sub {l m : List S32} (h : rightE l = true) (hs : m.Sublist l) : rightE m = true := by
  obtain ⟨a, b, c, d⟩ := (right_iff l).1 h
  refine (right_iff m).2 ⟨Nat.le_trans hs.length_le a, ?_, List.Pairwise.sublist hs c, (hs.map _).nodup d⟩
  rw [List.any_eq_false] at b ⊢
  exact fun x hx => b x (hs.subset hx)
theorem toL_inj {a b : ByteArray} (e : a.toList = b.toList) : a = b := by
  rw [ByteArray.toList_eq, ByteArray.toList_eq] at e
  have h := Array.toList_inj.1 e
  cases a; cases b; simp at h; rw [h]
theorem get_none {l : List S32} {n : ByteArray} (h : n ∉ l.map (·.f0)) : event_Get.f l n = some (0, 0, ⟨#[]⟩, false) := by
  have : l.find? (fun a => a.f0.toList == n.toList) = none := by
    rw [List.find?_eq_none]
    intro x hx hh
    exact h (List.mem_map.2 ⟨x, hx, toL_inj (by simpa using hh)⟩)
  unfold event_Get.f
  rw [this]
theorem get_mem {l : List S32} (hn : (l.map (·.f0)).Nodup) {x : S32} (hx : x ∈ l) : event_Get.f l x.f0 = some (x.f1.f0, x.f1.f1, x.f1.f2, true) := by
  unfold event_Get.f
  cases hf : l.find? (fun a => a.f0.toList == x.f0.toList) with
  | none =>
    rw [List.find?_eq_none] at hf
    exact absurd (by simp) (hf x hx)
  | some a =>
    have h1 := List.mem_of_find?_eq_some hf
    have h2 := List.find?_some hf
    obtain rfl := name_inj hn h1 hx (toL_inj (by simpa using h2))
    rfl
end Go.Proofs.Ytmbpgebboppkmaa
end

section
-- Written by a program of this session (wip/tools/myprint.py), over the kit's print.
namespace Go.Proofs.Ytmbpgebboppkmaa.G
open Go.RowKit Go.Proofs.YtmbpgebboppkmaaW.PrintWords Go.Proofs.YtmbpgebboppkmaaW.PrintLast Go.Proofs.YtmbpgebboppkmaaW.PrintMore
attribute [local go_sem] max2_int min2_int max_two min_two max_three min_three max_four min_four   -- for this text's walks alone
set_option linter.unusedVariables false
set_option linter.unusedSimpArgs false

/-! ### rosetteref05_Get: function 16 -/
def rosetteref05_Get.l0 : Nat → List (S32) → ByteArray → Int → Option (Int × Int × ByteArray × Bool)
  | 0, _, _, _ => none
  | k + 1, x0, x1, x6 => if x6 < (x0.length : Int) then (if 0 ≤ x6 then (if ((rd_T32 x0 x6).f0).toList = x1.toList then (some ((rd_T32 x0 x6).f1.f0, (rd_T32 x0 x6).f1.f1, (rd_T32 x0 x6).f1.f2, true)) else (rosetteref05_Get.l0 k x0 x1 (wrap64 (x6 + 1)))) else (none)) else (some (0, 0, (⟨#[]⟩ : ByteArray), false))
def rosetteref05_Get.f (k : Nat) (l0 : List (S32)) (a1 : ByteArray) : Option (Int × Int × ByteArray × Bool) := rosetteref05_Get.l0 k l0 a1 0
theorem rosetteref05_Get.mono_l : ∀ k, (∀ y0 y1 y2, LeO (rosetteref05_Get.l0 k y0 y1 y2) (rosetteref05_Get.l0 (k + 1) y0 y1 y2))
  | 0 => fun _ _ _ r h => by simp [rosetteref05_Get.l0] at h
  | k + 1 => by
    have ih0 := rosetteref05_Get.mono_l k
    · intro y0 y1 y2
      unfold rosetteref05_Get.l0
      repeat' first
      | (with_reducible exact ih0 _ _ _)
      | (with_reducible exact LeO.refl _)
      | (with_reducible exact LeO.none _)
      | (with_reducible refine LeO.ite ?_ ?_)
      | (with_reducible refine LeO.bind ?_ (fun _ => ?_))
      | exact ih0 _ _ _
      | exact LeO.none _
      | refine LeO.ite ?_ ?_
      | refine LeO.bind ?_ (fun _ => ?_)
theorem rosetteref05_Get.mono : ∀ a0 a1 k, LeO (rosetteref05_Get.f k a0 a1) (rosetteref05_Get.f (k + 1) a0 a1) := by
  intro a0 a1 k
  have ih0 := rosetteref05_Get.mono_l k
  unfold rosetteref05_Get.f
  repeat' first
      | (with_reducible exact ih0 _ _ _)
      | (with_reducible exact LeO.refl _)
      | (with_reducible exact LeO.none _)
      | (with_reducible refine LeO.ite ?_ ?_)
      | (with_reducible refine LeO.bind ?_ (fun _ => ?_))
      | exact ih0 _ _ _
      | exact LeO.none _
      | refine LeO.ite ?_ ?_
      | refine LeO.bind ?_ (fun _ => ?_)
set_option maxHeartbeats 8000000 in
set_option maxRecDepth 100000 in
theorem rosetteref05_Get.calls (k : Nat) (A0 : Option Addr) (c0 : Nat) (l0 : List (S32)) (a1 : ByteArray) (r1 : Int) (r2 : Int) (r3 : ByteArray) (r4 : Bool) (w : World) (hr0 : Kd.C k32 w A0 l0.length l0) (hc0 : l0.length ≤ c0) (h : rosetteref05_Get.f k l0 a1 = some (r1, r2, r3, r4)) :
    Calls Try.prog 16 #[.slice A0 l0.length c0, .string a1] w fun e w' => e = .returned (.tuple #[.agg #[.int .i64 r1, .int .i64 r2, .string r3], .bool r4]) ∧ Below w.heap.size w w' := by
  have hu30 := Try.underlying30
  have HR0 := Aside0.mk hr0
  have HC0 := Aside0.mk hc0
  clear hr0 hc0
  have HB := Aside0.mk (Below.refl w.heap.size w)
  have H : (rosetteref05_Get.l0 k l0 a1 0) = some (r1, r2, r3, r4) := h
  clear h
  have H' := Aside0.mk H
  clear H
  go_enter Try.func16, Try.ntmps16
  go_wp2_with (first | ((with_reducible refine gate_dst (N := 4) rfl ?_); refine box_event ?hg (N := 4) ?hd (cs := #[.int .i64 0, .int .i64 0, .string (⟨#[]⟩ : ByteArray)]) (t := 30) ?hr ?_; (case hd => rfl); (case hg => rfl); (case hr => first | (go_simp; done) | (go_simp; rfl)); intro gb192 hg w3 hbox hb; have n0_ := Aside0.mk (below_step (by repeat (first | (with_reducible first | exact HB.out | apply below_alloc | apply pw_below_drewN | apply below_drew1) | exact HB.out)) hb); have n1_ := Aside0.mk (hbox); have n2_ := Aside0.mk ((by rw [hg]; exact (below_size (by repeat (first | (with_reducible first | exact HB.out | apply below_alloc | apply pw_below_drewN | apply below_drew1) | exact HB.out))) : w.heap.size ≤ gb192)); have n3_ := Aside0.mk ((by rw [hg]; exact (below_size (by repeat (first | (with_reducible first | exact HB.out | apply below_alloc | apply pw_below_drewN | apply below_drew1) | exact HB.out))) : w.heap.size ≤ gb192)); clear HB; have HB := n0_; have BK192 := n1_; have GW192 := n2_; have GE192 := n3_; clear n0_ n1_ n2_ n3_; clear hb hbox hg))
  go_loopg [6] k (fun kq v6 w' => ∃ (x6_1 : Int) (x193000_1 : Int) (x193001_1 : Int) (x193002_1 : ByteArray), v6 = .int .i64 x6_1 ∧ Aside0 (rosetteref05_Get.l0 kq l0 a1 x6_1 = some (r1, r2, r3, r4)) ∧ Aside0 (kq ≤ k) ∧ Aside0 (w'.heap[gb192]? = some (.cells #[.int .i64 x193000_1, .int .i64 x193001_1, .string x193002_1] 30 (0, 0))) ∧ Aside0 (Below w.heap.size w w'))
  case atStart => exact ⟨(0), (0), (0), ((⟨#[]⟩ : ByteArray)), (by first | rfl | (simp; done) | (simp [*]; done)), H', ⟨Nat.le_refl _⟩, ⟨by (with_reducible repeat (first | refine blk_drewN ?_ _ | refine blk_drew ?_ | refine blk_alloc ?_ _)); exact BK192.out⟩, ⟨by repeat (first | (with_reducible first | exact HB.out | apply below_alloc | apply pw_below_drewN | apply below_drew1 | refine below_set ?_ GE192.out) | exact HB.out)⟩⟩
  case round =>
    clear H'
    try clear c1
    try clear p2
    obtain ⟨x6_1, x193000_1, x193001_1, x193002_1, rfl, HA, HK1, BK192, HB⟩ := hrel
    cases gk with
    | zero => exact absurd HA.out (by simp [rosetteref05_Get.l0])
    | succ k1 =>
      have H := HA.out
      clear HA
      simp only [rosetteref05_Get.l0] at H
      by_cases c4 : x6_1 < (l0.length : Int)
      · rw [if_pos c4] at H
        have c4b0 : decide (x6_1 < (l0.length : Int)) = true := decide_eq_true c4
        clear c4
        by_cases c5 : 0 ≤ x6_1
        · rw [if_pos c5] at H
          have c5b0 : decide (0 ≤ x6_1) = true := decide_eq_true c5
          clear c5
          by_cases c6 : ((rd_T32 l0 x6_1).f0).toList = a1.toList
          · rw [if_pos c6] at H
            have c6b0 : (((rd_T32 l0 x6_1).f0).toList == a1.toList) = true := beq_iff_eq.mpr c6
            have c6b1 : (((rd_T32 l0 x6_1).f0).toList != a1.toList) = false := bne_eq_false_iff_eq.mpr c6
            clear c6
            simp only [Option.some.injEq, Prod.mk.injEq] at H
            obtain ⟨rfl, rfl, rfl, rfl⟩ := H
            have p193 : 0 ≤ (x6_1 : Int) := of_decide_eq_true (by first | (with_reducible assumption) | assumption)
            have q193 : x6_1 < (l0.length : Int) := of_decide_eq_true (by first | (with_reducible assumption) | assumption)
            obtain ⟨ad193, e193, hx193_0, hx193_1, hx193_2, hx193_3⟩ := at_T32 HR0.out x6_1 p193 q193
            cases e193
            replace hx193_0 := (HB.out.cell (World.block_lt_of_cell? w _ hx193_0)).trans hx193_0
            replace hx193_1 := (HB.out.cell (World.block_lt_of_cell? w _ hx193_1)).trans hx193_1
            replace hx193_2 := (HB.out.cell (World.block_lt_of_cell? w _ hx193_2)).trans hx193_2
            replace hx193_3 := (HB.out.cell (World.block_lt_of_cell? w _ hx193_3)).trans hx193_3
            replace p193 := eq_true p193
            replace q193 := eq_true q193
            have p194 : 0 ≤ (x6_1 : Int) := of_decide_eq_true (by first | (with_reducible assumption) | assumption)
            have q194 : x6_1 < (l0.length : Int) := of_decide_eq_true (by first | (with_reducible assumption) | assumption)
            obtain ⟨ad194, e194, hx194_0, hx194_1, hx194_2, hx194_3⟩ := at_T32 HR0.out x6_1 p194 q194
            obtain rfl : ad193 = ad194 := (by injection e194)
            replace hx194_0 := (HB.out.cell (World.block_lt_of_cell? w _ hx194_0)).trans hx194_0
            replace hx194_1 := (HB.out.cell (World.block_lt_of_cell? w _ hx194_1)).trans hx194_1
            replace hx194_2 := (HB.out.cell (World.block_lt_of_cell? w _ hx194_2)).trans hx194_2
            replace hx194_3 := (HB.out.cell (World.block_lt_of_cell? w _ hx194_3)).trans hx194_3
            replace p194 := eq_true p194
            replace q194 := eq_true q194
            have hcz7_0 : wr.cell? ⟨gb192, 0, none⟩ = some (.int .i64 x193000_1) := (blk_cell BK192.out 0).trans rfl
            have hcz7_1 : wr.cell? ⟨gb192, 1, none⟩ = some (.int .i64 x193001_1) := (blk_cell BK192.out 1).trans rfl
            have hcz7_2 : wr.cell? ⟨gb192, 2, none⟩ = some (.string x193002_1) := (blk_cell BK192.out 2).trans rfl
            have hfz7_0 := blk_frozen BK192.out 0
            have hfz7_1 := blk_frozen BK192.out 1
            have hfz7_2 := blk_frozen BK192.out 2
            go_wp2
            refine bodyPost_ret (results_ct rfl _ _ gb192 30 #[.int .i64 ((rd_T32 l0 x6_1).f1.f0), .int .i64 ((rd_T32 l0 x6_1).f1.f1), .string ((rd_T32 l0 x6_1).f1.f2)] (0, 0) _ rfl (by (with_reducible repeat (first | refine blk_drewN ?_ _ | refine blk_drew ?_ | refine blk_alloc ?_ _)); refine blk_put (cs := #[.int .i64 ((rd_T32 l0 x6_1).f1.f0), .int .i64 ((rd_T32 l0 x6_1).f1.f1), .string x193002_1]) ?_ 2 _ rfl; (with_reducible repeat (first | refine blk_drewN ?_ _ | refine blk_drew ?_ | refine blk_alloc ?_ _)); refine blk_put (cs := #[.int .i64 ((rd_T32 l0 x6_1).f1.f0), .int .i64 x193001_1, .string x193002_1]) ?_ 1 _ rfl; (with_reducible repeat (first | refine blk_drewN ?_ _ | refine blk_drew ?_ | refine blk_alloc ?_ _)); refine blk_put (cs := #[.int .i64 x193000_1, .int .i64 x193001_1, .string x193002_1]) ?_ 0 _ rfl; (with_reducible repeat (first | refine blk_drewN ?_ _ | refine blk_drew ?_ | refine blk_alloc ?_ _)); exact BK192.out) Try.underlying30 rfl (by kernel_rfl)) rfl ?_
            exact ⟨by first | rfl | (simp [errW_none, errW_some] <;> rfl) | (simp [*, errW_none, errW_some] <;> rfl), by repeat (first | (with_reducible first | exact HB.out | apply below_alloc | apply pw_below_drewN | apply below_drew1 | refine below_set ?_ GE192.out) | exact HB.out)⟩
          · rw [if_neg c6] at H
            have c6b0 : (((rd_T32 l0 x6_1).f0).toList == a1.toList) = false := beq_eq_false_iff_ne.mpr c6
            have c6b1 : (((rd_T32 l0 x6_1).f0).toList != a1.toList) = true := bne_iff_ne.mpr c6
            have H' := Aside0.mk H
            clear H
            have p193 : 0 ≤ (x6_1 : Int) := of_decide_eq_true (by first | (with_reducible assumption) | assumption)
            have q193 : x6_1 < (l0.length : Int) := of_decide_eq_true (by first | (with_reducible assumption) | assumption)
            obtain ⟨ad193, e193, hx193_0, hx193_1, hx193_2, hx193_3⟩ := at_T32 HR0.out x6_1 p193 q193
            cases e193
            replace hx193_0 := (HB.out.cell (World.block_lt_of_cell? w _ hx193_0)).trans hx193_0
            replace hx193_1 := (HB.out.cell (World.block_lt_of_cell? w _ hx193_1)).trans hx193_1
            replace hx193_2 := (HB.out.cell (World.block_lt_of_cell? w _ hx193_2)).trans hx193_2
            replace hx193_3 := (HB.out.cell (World.block_lt_of_cell? w _ hx193_3)).trans hx193_3
            replace p193 := eq_true p193
            replace q193 := eq_true q193
            go_wp2
            go_roundg k1
            case measure => have := HK1.out; omega
            case rel => exact ⟨(wrap64 (x6_1 + 1)), (x193000_1), (x193001_1), (x193002_1), (by first | rfl | (simp; done) | (simp [*]; done)), H', ⟨by have := HK1.out; omega⟩, ⟨by (with_reducible repeat (first | refine blk_drewN ?_ _ | refine blk_drew ?_ | refine blk_alloc ?_ _)); exact BK192.out⟩, ⟨by repeat (first | (with_reducible first | exact HB.out | apply below_alloc | apply pw_below_drewN | apply below_drew1 | refine below_set ?_ GE192.out) | exact HB.out)⟩⟩
        · rw [if_neg c5] at H
          exact absurd H (by simp)
      · rw [if_neg c4] at H
        have c4b0 : decide (x6_1 < (l0.length : Int)) = false := decide_eq_false c4
        clear c4
        simp only [Option.some.injEq, Prod.mk.injEq] at H
        obtain ⟨rfl, rfl, rfl, rfl⟩ := H
        have hcz8_0 : wr.cell? ⟨gb192, 0, none⟩ = some (.int .i64 x193000_1) := (blk_cell BK192.out 0).trans rfl
        have hcz8_1 : wr.cell? ⟨gb192, 1, none⟩ = some (.int .i64 x193001_1) := (blk_cell BK192.out 1).trans rfl
        have hcz8_2 : wr.cell? ⟨gb192, 2, none⟩ = some (.string x193002_1) := (blk_cell BK192.out 2).trans rfl
        have hfz8_0 := blk_frozen BK192.out 0
        have hfz8_1 := blk_frozen BK192.out 1
        have hfz8_2 := blk_frozen BK192.out 2
        go_wp2
        refine bodyPost_ret (results_ct rfl _ _ gb192 30 #[.int .i64 0, .int .i64 0, .string (⟨#[]⟩ : ByteArray)] (0, 0) _ rfl (by (with_reducible repeat (first | refine blk_drewN ?_ _ | refine blk_drew ?_ | refine blk_alloc ?_ _)); refine blk_put (cs := #[.int .i64 0, .int .i64 0, .string x193002_1]) ?_ 2 _ rfl; (with_reducible repeat (first | refine blk_drewN ?_ _ | refine blk_drew ?_ | refine blk_alloc ?_ _)); refine blk_put (cs := #[.int .i64 0, .int .i64 x193001_1, .string x193002_1]) ?_ 1 _ rfl; (with_reducible repeat (first | refine blk_drewN ?_ _ | refine blk_drew ?_ | refine blk_alloc ?_ _)); refine blk_put (cs := #[.int .i64 x193000_1, .int .i64 x193001_1, .string x193002_1]) ?_ 0 _ rfl; (with_reducible repeat (first | refine blk_drewN ?_ _ | refine blk_drew ?_ | refine blk_alloc ?_ _)); exact BK192.out) Try.underlying30 rfl (by kernel_rfl)) rfl ?_
        exact ⟨by first | rfl | (simp [errW_none, errW_some] <;> rfl) | (simp [*, errW_none, errW_some] <;> rfl), by repeat (first | (with_reducible first | exact HB.out | apply below_alloc | apply pw_below_drewN | apply below_drew1 | refine below_set ?_ GE192.out) | exact HB.out)⟩

end Go.Proofs.Ytmbpgebboppkmaa.G
end

section
/- what the reference looks up; plain laws -/
set_option linter.unusedVariables false
set_option linter.unusedSimpArgs false
set_option autoImplicit false
namespace Go.Proofs.Ytmbpgebboppkmaa
open Go Go.RowKit Go.Proofs.YtmbpgebboppkmaaW.PrintWords Go.Proofs.YtmbpgebboppkmaaW.PrintLast Go.Proofs.Ytmbpgebboppkmaa.G

theorem w_next (i : Nat) (h : i ≤ 4611686018427387904) : wrap64 ((i : Int) + 1) = ((i + 1 : Nat) : Int) := by unfold wrap64; omega
theorem get_ev (e : List S32) (n : ByteArray) (he : e.length ≤ 4611686018427387904) : ∀ (d i : Nat), i + d = e.length → Ev fun k => rosetteref05_Get.l0 k e n (i : Int) = event_Get.f (e.drop i) n := by
  intro d
  induction d with
  | zero =>
    intro i hi
    refine Ev.now fun k => ?_
    simp only [rosetteref05_Get.l0]
    rw [if_neg (by omega), List.drop_eq_nil_of_le (by omega)]
    rfl
  | succ d ih =>
    intro i hi
    refine (ih (i + 1) (by omega)).succ fun k hk => ?_
    have hlt : i < e.length := by omega
    have hx : rd_T32 e (i : Int) = e[i] := by simp [rd_T32, List.getD_eq_getElem?_getD, hlt]
    simp only [rosetteref05_Get.l0]
    rw [if_pos (by omega), if_pos (by omega), hx, List.drop_eq_getElem_cons hlt, w_next i (by omega), hk]
    unfold event_Get.f
    rw [List.find?_cons]
    by_cases h : e[i].f0.toList = n.toList
    · rw [if_pos h]; simp [h]
    · rw [if_neg h, show (e[i].f0.toList == n.toList) = false by simpa using h]
theorem get5_ev (e : List S32) (n : ByteArray) (he : GoodA e) : Ev fun k => rosetteref05_Get.f k e n = event_Get.f e n :=
  (get_ev e n (by have := he.1.2; omega) e.length 0 (by omega)).mono fun k hk => hk
end Go.Proofs.Ytmbpgebboppkmaa
end

section
/- the reference: which events are right; plain laws -/
set_option linter.unusedVariables false
set_option linter.unusedSimpArgs false
set_option autoImplicit false
namespace Go.Proofs.Ytmbpgebboppkmaa
open Go Go.RowKit Go.Shelf Go.Sort Go.Proofs.YtmbpgebboppkmaaW.PrintWords Go.Proofs.YtmbpgebboppkmaaW.PrintLast Go.Proofs.Ytmbpgebboppkmaa.G

theorem bt_list (s : ByteArray) (i : Nat) (h : i < s.data.toList.length) : bt s (i : Int) = (s.data.toList[i].toNat : Int) := by
  have hs : i < s.size := by rw [Array.length_toList] at h; exact h
  unfold bt
  rw [dif_pos (by rw [Int.toNat_natCast]; exact hs)]
  simp only [Int.toNat_natCast]
  rfl
theorem less_go (a b : ByteArray) (ha : a.size < 9223372036854775807) : ∀ (f i e : Nat), i ≤ a.size → i ≤ b.size → i + f = a.size → rosetteref04_less.l0 (2 * f + 2 + e) a b (i : Int) = some (decide (Lib.compareBytes (a.data.toList.drop i) (b.data.toList.drop i) = -1)) := by
  have hla : a.data.toList.length = a.size := by rw [Array.length_toList]; rfl
  have hlb : b.data.toList.length = b.size := by rw [Array.length_toList]; rfl
  intro f
  induction f with
  | zero =>
    intro i e hi hj h
    rw [show 2 * 0 + 2 + e = (e + 1) + 1 by omega, rosetteref04_less.l0, if_neg (by omega), rosetteref04_less.j1, if_neg (by decide)]
    rw [List.drop_of_length_le (by omega)]
    congr 1
    rw [Bool.eq_iff_iff]
    simp only [decide_eq_true_eq]
    by_cases hb : i < b.size
    · rw [List.drop_eq_getElem_cons (by omega)]
      simp only [Lib.compareBytes]
      exact ⟨fun _ => trivial, fun _ => by omega⟩
    · rw [List.drop_of_length_le (l := b.data.toList) (by omega)]
      simp only [Lib.compareBytes]
      exact ⟨fun h => by omega, fun h => absurd h (by decide)⟩
  | succ f ih =>
    intro i e hi hj h
    have hw : wrap64 ((i : Int) + 1) = ((i + 1 : Nat) : Int) := by unfold wrap64; omega
    rw [show 2 * (f + 1) + 2 + e = (2 * f + 2 + e + 1) + 1 by omega, rosetteref04_less.l0, if_pos (by omega), rosetteref04_less.j1]
    by_cases hb : i < b.size
    · rw [if_pos (by simpa using hb), if_pos (by omega), if_pos (by omega), if_pos (by omega), hw, bt_list a i (by omega), bt_list b i (by omega)]
      rw [List.drop_eq_getElem_cons (l := a.data.toList) (by omega), List.drop_eq_getElem_cons (l := b.data.toList) (by omega)]
      simp only [Lib.compareBytes, UInt8.lt_iff_toNat_lt]
      generalize ha' : (a.data.toList[i]'(by omega)).toNat = x
      generalize hb' : (b.data.toList[i]'(by omega)).toNat = y
      by_cases hxy : x = y
      · subst hxy
        rw [if_pos rfl, if_neg (by omega), if_neg (by omega)]
        exact ih (i + 1) e (by omega) (by omega) (by omega)
      · rw [if_neg (by omega)]
        congr 1
        rw [Bool.eq_iff_iff]
        simp only [decide_eq_true_eq]
        by_cases hlt : x < y
        · rw [if_pos hlt]; omega
        · rw [if_neg hlt, if_pos (by omega)]; omega
    · rw [if_neg (by simpa using hb)]
      rw [List.drop_of_length_le (l := b.data.toList) (by omega), List.drop_eq_getElem_cons (l := a.data.toList) (by omega)]
      congr 1
      rw [Bool.eq_iff_iff]
      simp [Lib.compareBytes]
      omega
theorem less_f (a b : ByteArray) (ha : a.size < 9223372036854775807) (k : Nat) (hk : 2 * a.size + 2 ≤ k) : rosetteref04_less.f k a b = some (decide (Lib.compareBytes a.data.toList b.data.toList = -1)) := by
  have := less_go a b ha a.size 0 (k - (2 * a.size + 2)) (Nat.zero_le _) (Nat.zero_le _) (by omega)
  rw [show 2 * a.size + 2 + (k - (2 * a.size + 2)) = k by omega] at this
  exact this
theorem text_f (a b : ByteArray) (ha : a.size < 9223372036854775807) (k : Nat) (hk : 2 * a.size + 2 ≤ k) : rosetteref04_Text.f k a b = some (Lib.compareBytes a.data.toList b.data.toList) := by
  unfold rosetteref04_Text.f
  have hz := cmpB_zero a.data.toList b.data.toList
  have hin := cmpB_in a.data.toList b.data.toList
  have e1 : (a.toList = b.toList) ↔ (a.data.toList = b.data.toList) := by rw [ByteArray.toList_eq, ByteArray.toList_eq]
  rw [less_f a b ha k hk]
  simp only [Option.bind_some]
  by_cases h : a.data.toList = b.data.toList
  · rw [if_pos (e1.2 h), hz.2 h]
  · rw [if_neg (fun hh => h (e1.1 hh))]
    have : Lib.compareBytes a.data.toList b.data.toList ≠ 0 := fun hh => h (hz.1 hh)
    by_cases h1 : Lib.compareBytes a.data.toList b.data.toList = -1
    · rw [if_pos (by simpa using h1), h1]
    · rw [if_neg (by simpa using h1)]
      congr 1
      omega
theorem text_ev (a b : ByteArray) (ha : a.size < 9223372036854775807) : Ev fun k => rosetteref04_Text.f k a b = some (Lib.compareBytes a.data.toList b.data.toList) := ⟨2 * a.size + 2, fun k hk => text_f a b ha k hk⟩
end Go.Proofs.Ytmbpgebboppkmaa
end
