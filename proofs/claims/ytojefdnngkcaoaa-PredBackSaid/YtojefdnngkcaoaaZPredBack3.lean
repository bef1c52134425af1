import Derived.Test.YtojefdnngkcaoaaZPredBack0
import Derived.Test.YtojefdnngkcaoaaZPredBack1
import Derived.Test.YtojefdnngkcaoaaZPredBack2
import Derived.Deep.RegionHeld3
import Derived.Deep.CutRange
import Derived.WalkKit
section
-- Written by a program of this session (wip/tools/myprint.py), over the kit's print.
namespace Go.Proofs.Ytojefdnngkcaoaa.G
open Go.RowKit Go.Proofs.YtojefdnngkcaoaaW.PrintWords Go.Proofs.YtojefdnngkcaoaaW.PrintLast Go.Proofs.YtojefdnngkcaoaaW.PrintMore
attribute [local go_sem] max2_int min2_int max_two min_two max_three min_three max_four min_four   -- for this text's walks alone
set_option linter.unusedVariables false
set_option linter.unusedSimpArgs false

/-! ### rosetteref06_Holds: function 13 -/
def rosetteref06_Holds.j0 : Nat → Bool → ByteArray → Int → Int → Int → ByteArray → Int → Int → ByteArray → Option (Bool)
  | 0, _, _, _, _, _, _, _, _, _ => none
  | k + 1, x18, x188000, x188001, x188002, x188003, x188004, x189000, x189001, x189002 => if x18 = true then (some false) else (if x188001 = 8 then (some true) else (if x189000 = x188002 then ((rosetteref04_Compare.f k x189000 x189001 x189002 x188002 x188003 x188004).bind fun t192 => (if x188001 = 1 then (some (t192 == 0)) else (if x188001 = 2 then (some (t192 != 0)) else (if x188001 = 3 then (some (decide (t192 < 0))) else (if x188001 = 4 then (some (decide (t192 ≤ 0))) else (if x188001 = 5 then (some (decide (t192 > 0))) else (if x188001 = 6 then (some (decide (t192 ≥ 0))) else (if (x189002.size : Int) ≥ (x188004.size : Int) then (if 0 ≤ (x188004.size : Int) then (if (x188004.size : Int) ≤ (x189002.size : Int) then (some ((x189002.extract 0 ((x188004.size : Int) : Int).toNat).toList == x188004.toList)) else (none)) else (none)) else (some false))))))))) else (some false)))
def rosetteref06_Holds.f (k : Nat) (a0_0 : ByteArray) (a0_1 : Int) (a0_2 : Int) (a0_3 : Int) (a0_4 : ByteArray) (a1_0 : Int) (a1_1 : Int) (a1_2 : ByteArray) : Option (Bool) := (rosetteref06_Right.f k a0_0 a0_1 a0_2 a0_3 a0_4).bind fun t189 => ((rosetteref04_Right.f a1_0 a1_1 a1_2).bind fun t190 => (if t189 = true then (rosetteref06_Holds.j0 k (!t190) a0_0 a0_1 a0_2 a0_3 a0_4 a1_0 a1_1 a1_2) else (rosetteref06_Holds.j0 k true a0_0 a0_1 a0_2 a0_3 a0_4 a1_0 a1_1 a1_2)))
theorem rosetteref06_Holds.mono_l : ∀ k, (∀ y0 y1 y2 y3 y4 y5 y6 y7 y8, LeO (rosetteref06_Holds.j0 k y0 y1 y2 y3 y4 y5 y6 y7 y8) (rosetteref06_Holds.j0 (k + 1) y0 y1 y2 y3 y4 y5 y6 y7 y8))
  | 0 => fun _ _ _ _ _ _ _ _ _ r h => by simp [rosetteref06_Holds.j0] at h
  | k + 1 => by
    have ih0 := rosetteref06_Holds.mono_l k
    · intro y0 y1 y2 y3 y4 y5 y6 y7 y8
      unfold rosetteref06_Holds.j0
      repeat' first
      | (with_reducible exact ih0 _ _ _ _ _ _ _ _ _)
      | (with_reducible exact rosetteref04_Compare.mono _ _ _ _ _ _ _)
      | (with_reducible exact rosetteref06_Right.mono _ _ _ _ _ _)
      | (with_reducible exact LeO.refl _)
      | (with_reducible exact LeO.none _)
      | (with_reducible refine LeO.ite ?_ ?_)
      | (with_reducible refine LeO.bind ?_ (fun _ => ?_))
      | exact ih0 _ _ _ _ _ _ _ _ _
      | exact rosetteref04_Compare.mono _ _ _ _ _ _ _
      | exact rosetteref06_Right.mono _ _ _ _ _ _
      | exact LeO.none _
      | refine LeO.ite ?_ ?_
      | refine LeO.bind ?_ (fun _ => ?_)
theorem rosetteref06_Holds.mono : ∀ a0 a1 a2 a3 a4 a5 a6 a7 k, LeO (rosetteref06_Holds.f k a0 a1 a2 a3 a4 a5 a6 a7) (rosetteref06_Holds.f (k + 1) a0 a1 a2 a3 a4 a5 a6 a7) := by
  intro a0 a1 a2 a3 a4 a5 a6 a7 k
  have ih0 := rosetteref06_Holds.mono_l k
  unfold rosetteref06_Holds.f
  repeat' first
      | (with_reducible exact ih0 _ _ _ _ _ _ _ _ _)
      | (with_reducible exact rosetteref04_Compare.mono _ _ _ _ _ _ _)
      | (with_reducible exact rosetteref06_Right.mono _ _ _ _ _ _)
      | (with_reducible exact LeO.refl _)
      | (with_reducible exact LeO.none _)
      | (with_reducible refine LeO.ite ?_ ?_)
      | (with_reducible refine LeO.bind ?_ (fun _ => ?_))
      | exact ih0 _ _ _ _ _ _ _ _ _
      | exact rosetteref04_Compare.mono _ _ _ _ _ _ _
      | exact rosetteref06_Right.mono _ _ _ _ _ _
      | exact LeO.none _
      | refine LeO.ite ?_ ?_
      | refine LeO.bind ?_ (fun _ => ?_)
set_option maxHeartbeats 8000000 in
set_option maxRecDepth 100000 in
theorem rosetteref06_Holds.calls (k : Nat) (a0_0 : ByteArray) (a0_1 : Int) (a0_2 : Int) (a0_3 : Int) (a0_4 : ByteArray) (a1_0 : Int) (a1_1 : Int) (a1_2 : ByteArray) (r : Bool) (w : World) (h : rosetteref06_Holds.f k a0_0 a0_1 a0_2 a0_3 a0_4 a1_0 a1_1 a1_2 = some r) :
    Calls Try.prog 13 #[.agg #[.string a0_0, .int .i64 a0_1, .int .i64 a0_2, .int .i64 a0_3, .string a0_4], .agg #[.int .i64 a1_0, .int .i64 a1_1, .string a1_2]] w fun e w' => e = .returned (.bool r) ∧ Below w.heap.size w w' := by
  have hu25 := Try.underlying25
  have hu23 := Try.underlying23
  have HB := Aside0.mk (Below.refl w.heap.size w)
  have H : ((rosetteref06_Right.f k a0_0 a0_1 a0_2 a0_3 a0_4).bind fun t189 => ((rosetteref04_Right.f a1_0 a1_1 a1_2).bind fun t190 => (if t189 = true then (rosetteref06_Holds.j0 k (!t190) a0_0 a0_1 a0_2 a0_3 a0_4 a1_0 a1_1 a1_2) else (rosetteref06_Holds.j0 k true a0_0 a0_1 a0_2 a0_3 a0_4 a1_0 a1_1 a1_2)))) = some r := h
  clear h
  replace H := Option.bind_eq_some_iff.mp H
  obtain ⟨t189, A30, H⟩ := H
  replace H : ((rosetteref04_Right.f a1_0 a1_1 a1_2).bind fun t190 => (if t189 = true then (rosetteref06_Holds.j0 k (!t190) a0_0 a0_1 a0_2 a0_3 a0_4 a1_0 a1_1 a1_2) else (rosetteref06_Holds.j0 k true a0_0 a0_1 a0_2 a0_3 a0_4 a1_0 a1_1 a1_2))) = some r := H
  have A3 := Aside0.mk A30
  clear A30
  replace H := Option.bind_eq_some_iff.mp H
  obtain ⟨t190, A40, H⟩ := H
  replace H : (if t189 = true then (rosetteref06_Holds.j0 k (!t190) a0_0 a0_1 a0_2 a0_3 a0_4 a1_0 a1_1 a1_2) else (rosetteref06_Holds.j0 k true a0_0 a0_1 a0_2 a0_3 a0_4 a1_0 a1_1 a1_2)) = some r := H
  have A4 := Aside0.mk A40
  clear A40
  have HC5 := Aside0.mk H
  clear H
  go_enter Try.func13, Try.ntmps13
  go_upto_region 3 with (first | ((with_reducible refine gate_dst (N := 2) rfl ?_); (try (refine gate_guard (by rfl) ?_; dsimp only)); refine box_event ?hg (N := 2) ?hd (cs := #[.string a0_0, .int .i64 a0_1, .int .i64 a0_2, .int .i64 a0_3, .string a0_4]) (t := 25) ?hr ?_; (case hd => rfl); (case hg => rfl); (case hr => first | (go_simp; done) | (go_simp; rfl)); intro gb187 hg w6 hbox hb; have n0_ := Aside0.mk (below_step (by repeat (first | (with_reducible first | exact HB.out | apply below_alloc | apply pw_below_drewN | apply below_drew1) | exact HB.out)) hb); have n1_ := Aside0.mk (hbox); have n2_ := Aside0.mk ((by rw [hg]; exact (below_size (by repeat (first | (with_reducible first | exact HB.out | apply below_alloc | apply pw_below_drewN | apply below_drew1) | exact HB.out))) : w.heap.size ≤ gb187)); have n3_ := Aside0.mk ((by rw [hg]; exact (below_size (by repeat (first | (with_reducible first | exact HB.out | apply below_alloc | apply pw_below_drewN | apply below_drew1) | exact HB.out))) : w.heap.size ≤ gb187)); clear HB; have HB := n0_; have BK187 := n1_; have GW187 := n2_; have GE187 := n3_; clear n0_ n1_ n2_ n3_; clear hb hbox hg) | ((with_reducible refine gate_dst (N := 3) rfl ?_); (try (refine gate_guard (by rfl) ?_; dsimp only)); refine box_event ?hg (N := 3) ?hd (cs := #[.int .i64 a1_0, .int .i64 a1_1, .string a1_2]) (t := 23) ?hr ?_; (case hd => rfl); (case hg => rfl); (case hr => first | (go_simp; done) | (go_simp; rfl)); intro gb188 hg w7 hbox hb; have n0_ := Aside0.mk (blk_below (g := gb187) (o := .cells #[.string a0_0, .int .i64 a0_1, .int .i64 a0_2, .int .i64 a0_3, .string a0_4] 25 (0, 0)) (by (with_reducible repeat (first | refine blk_drewN ?_ _ | refine blk_drew ?_ | refine blk_alloc ?_ _)); exact BK187.out) hb); have n1_ := Aside0.mk (below_step (by repeat (first | (with_reducible first | exact HB.out | apply below_alloc | apply pw_below_drewN | apply below_drew1 | refine below_set ?_ GE187.out) | exact HB.out)) hb); have n2_ := Aside0.mk (hbox); have n3_ := Aside0.mk ((by rw [hg]; exact (below_size (by repeat (first | (with_reducible first | exact HB.out | apply below_alloc | apply pw_below_drewN | apply below_drew1 | refine below_set ?_ GE187.out) | exact HB.out))) : w.heap.size ≤ gb188)); have n4_ := Aside0.mk ((by rw [hg]; exact (below_size (by repeat (first | (with_reducible first | exact HB.out | apply below_alloc | apply pw_below_drewN | apply below_drew1 | refine below_set ?_ GE187.out) | exact HB.out))) : w.heap.size ≤ gb188)); have n5_ := Aside0.mk ((by rw [hg]; exact Nat.ne_of_lt (blk_lt (g := gb187) (o := .cells #[.string a0_0, .int .i64 a0_1, .int .i64 a0_2, .int .i64 a0_3, .string a0_4] 25 (0, 0)) (by (with_reducible repeat (first | refine blk_drewN ?_ _ | refine blk_drew ?_ | refine blk_alloc ?_ _)); exact BK187.out)) : gb187 ≠ gb188)); have n6_ := Aside0.mk ((by rw [hg]; exact Nat.ne_of_gt (blk_lt (g := gb187) (o := .cells #[.string a0_0, .int .i64 a0_1, .int .i64 a0_2, .int .i64 a0_3, .string a0_4] 25 (0, 0)) (by (with_reducible repeat (first | refine blk_drewN ?_ _ | refine blk_drew ?_ | refine blk_alloc ?_ _)); exact BK187.out)) : gb188 ≠ gb187)); clear BK187; clear HB; have BK187 := n0_; have HB := n1_; have BK188 := n2_; have GW188 := n3_; have GE188 := n4_; have NB187_188 := n5_; have NB188_187 := n6_; clear n0_ n1_ n2_ n3_ n4_ n5_ n6_; clear hb hbox hg; have hnb8 := NB187_188.out; have hnc8 := NB188_187.out; have hcz9_0 : w7.cell? ⟨gb187, 0, none⟩ = some (.string a0_0) := (blk_cell BK187.out 0).trans rfl; have hcz9_1 : w7.cell? ⟨gb187, 1, none⟩ = some (.int .i64 a0_1) := (blk_cell BK187.out 1).trans rfl; have hcz9_2 : w7.cell? ⟨gb187, 2, none⟩ = some (.int .i64 a0_2) := (blk_cell BK187.out 2).trans rfl; have hcz9_3 : w7.cell? ⟨gb187, 3, none⟩ = some (.int .i64 a0_3) := (blk_cell BK187.out 3).trans rfl; have hcz9_4 : w7.cell? ⟨gb187, 4, none⟩ = some (.string a0_4) := (blk_cell BK187.out 4).trans rfl; have hfz9_0 := blk_frozen BK187.out 0; have hfz9_1 := blk_frozen BK187.out 1; have hfz9_2 := blk_frozen BK187.out 2; have hfz9_3 := blk_frozen BK187.out 3; have hfz9_4 := blk_frozen BK187.out 4) | (go_at_call 11; (with_reducible refine (rosetteref06_Right.calls k a0_0 a0_1 a0_2 a0_3 a0_4 t189 _ A3.out).mono ?_); rintro e w10 ⟨rfl, hb⟩; have n0_ := Aside0.mk (blk_below (g := gb187) (o := .cells #[.string a0_0, .int .i64 a0_1, .int .i64 a0_2, .int .i64 a0_3, .string a0_4] 25 (0, 0)) (by (with_reducible repeat (first | refine blk_drewN ?_ _ | refine blk_drew ?_ | refine blk_alloc ?_ _)); exact BK187.out) hb); have n1_ := Aside0.mk (blk_below (g := gb188) (o := .cells #[.int .i64 a1_0, .int .i64 a1_1, .string a1_2] 23 (0, 0)) (by (with_reducible repeat (first | refine blk_drewN ?_ _ | refine blk_drew ?_ | refine blk_alloc ?_ _)); exact BK188.out) hb); have n2_ := Aside0.mk (below_step (by repeat (first | (with_reducible first | exact HB.out | apply below_alloc | apply pw_below_drewN | apply below_drew1 | refine below_set ?_ GE187.out | refine below_set ?_ GE188.out) | exact HB.out)) hb); clear BK187; clear BK188; clear HB; have BK187 := n0_; have BK188 := n1_; have HB := n2_; clear n0_ n1_ n2_; (try clear hb); (try clear hb2); (try clear hk); (try clear hi); have hcz11_0 : w10.cell? ⟨gb188, 0, none⟩ = some (.int .i64 a1_0) := (blk_cell BK188.out 0).trans rfl; have hcz11_1 : w10.cell? ⟨gb188, 1, none⟩ = some (.int .i64 a1_1) := (blk_cell BK188.out 1).trans rfl; have hcz11_2 : w10.cell? ⟨gb188, 2, none⟩ = some (.string a1_2) := (blk_cell BK188.out 2).trans rfl; have hfz11_0 := blk_frozen BK188.out 0; have hfz11_1 := blk_frozen BK188.out 1; have hfz11_2 := blk_frozen BK188.out 2) | (go_at_call 25; (with_reducible refine (rosetteref04_Right.calls a1_0 a1_1 a1_2 t190 _ A4.out).mono ?_); rintro e w12 ⟨rfl, hb⟩; have n0_ := Aside0.mk (blk_below (g := gb187) (o := .cells #[.string a0_0, .int .i64 a0_1, .int .i64 a0_2, .int .i64 a0_3, .string a0_4] 25 (0, 0)) (by (with_reducible repeat (first | refine blk_drewN ?_ _ | refine blk_drew ?_ | refine blk_alloc ?_ _)); exact BK187.out) hb); have n1_ := Aside0.mk (blk_below (g := gb188) (o := .cells #[.int .i64 a1_0, .int .i64 a1_1, .string a1_2] 23 (0, 0)) (by (with_reducible repeat (first | refine blk_drewN ?_ _ | refine blk_drew ?_ | refine blk_alloc ?_ _)); exact BK188.out) hb); have n2_ := Aside0.mk (below_step (by repeat (first | (with_reducible first | exact HB.out | apply below_alloc | apply pw_below_drewN | apply below_drew1 | refine below_set ?_ GE187.out | refine below_set ?_ GE188.out) | exact HB.out)) hb); clear BK187; clear BK188; clear HB; have BK187 := n0_; have BK188 := n1_; have HB := n2_; clear n0_ n1_ n2_; (try clear hb); (try clear hb2); (try clear hk); (try clear hi)))
  (try simp only [Act.put, List.setIfInBounds_toArray, List.set_cons_zero, List.set_cons_succ])
  go_cut [18] (fun v18 wc => ∃ (kq : Nat) (x18_4 : Bool), v18 = .bool x18_4 ∧ Aside0 (rosetteref06_Holds.j0 kq x18_4 a0_0 a0_1 a0_2 a0_3 a0_4 a1_0 a1_1 a1_2 = some r) ∧ Aside0 (kq ≤ k) ∧ Aside0 (wc.heap[gb187]? = some (.cells #[.string a0_0, .int .i64 a0_1, .int .i64 a0_2, .int .i64 a0_3, .string a0_4] 25 (0, 0))) ∧ Aside0 (wc.heap[gb188]? = some (.cells #[.int .i64 a1_0, .int .i64 a1_1, .string a1_2] 23 (0, 0))) ∧ Aside0 (Below w.heap.size w wc))
  case first =>
    have H := HC5.out
    clear HC5
    by_cases c13 : t189 = true
    · subst c13
      have H1 : (rosetteref06_Holds.j0 k (!t190) a0_0 a0_1 a0_2 a0_3 a0_4 a1_0 a1_1 a1_2) = some r := by rw [if_pos rfl] at H; exact H
      clear H
      have H := H1
      clear H1
      have H' := Aside0.mk H
      clear H
      go_wp2
      go_meet
      case rel => exact ⟨_, (!t190), (by first | rfl | (simp; done) | (simp [*]; done)), H', ⟨by first | omega | exact Nat.le_refl _⟩, ⟨by (with_reducible repeat (first | refine blk_drewN ?_ _ | refine blk_drew ?_ | refine blk_alloc ?_ _)); exact BK187.out⟩, ⟨by (with_reducible repeat (first | refine blk_drewN ?_ _ | refine blk_drew ?_ | refine blk_alloc ?_ _)); exact BK188.out⟩, ⟨by repeat (first | (with_reducible first | exact HB.out | apply below_alloc | apply pw_below_drewN | apply below_drew1 | refine below_set ?_ GE187.out | refine below_set ?_ GE188.out) | exact HB.out)⟩⟩
    · replace c13 := Bool.eq_false_iff.mpr c13
      subst c13
      have H1 : (rosetteref06_Holds.j0 k true a0_0 a0_1 a0_2 a0_3 a0_4 a1_0 a1_1 a1_2) = some r := by rw [if_neg (show ¬ (false = true) by decide)] at H; exact H
      clear H
      have H := H1
      clear H1
      have H' := Aside0.mk H
      clear H
      go_wp2
      go_meet
      case rel => exact ⟨_, (true), (by first | rfl | (simp; done) | (simp [*]; done)), H', ⟨by first | omega | exact Nat.le_refl _⟩, ⟨by (with_reducible repeat (first | refine blk_drewN ?_ _ | refine blk_drew ?_ | refine blk_alloc ?_ _)); exact BK187.out⟩, ⟨by (with_reducible repeat (first | refine blk_drewN ?_ _ | refine blk_drew ?_ | refine blk_alloc ?_ _)); exact BK188.out⟩, ⟨by repeat (first | (with_reducible first | exact HB.out | apply below_alloc | apply pw_below_drewN | apply below_drew1 | refine below_set ?_ GE187.out | refine below_set ?_ GE188.out) | exact HB.out)⟩⟩
  case rest =>
    clear HC5
    try clear c1
    try clear p2
    try clear c8
    try clear c13
    try clear hcz11_0
    try clear hcz11_1
    try clear hcz11_2
    try clear hcz9_0
    try clear hcz9_1
    try clear hcz9_2
    try clear hcz9_3
    try clear hcz9_4
    try clear hfz11_0
    try clear hfz11_1
    try clear hfz11_2
    try clear hfz9_0
    try clear hfz9_1
    try clear hfz9_2
    try clear hfz9_3
    try clear hfz9_4
    obtain ⟨kq, x18_4, rfl, HA, HJ4, BK187, BK188, HB⟩ := hcut
    cases kq with
    | zero => exact absurd HA.out (by simp [rosetteref06_Holds.j0])
    | succ kj4 =>
      have H := HA.out
      clear HA
      simp only [rosetteref06_Holds.j0] at H
      by_cases c14 : x18_4 = true
      · subst c14
        have H1 : (some false) = some r := by rw [if_pos rfl] at H; exact H
        clear H
        have H := H1
        clear H1
        obtain rfl := Option.some.inj H
        go_wp2
        go_ret
        exact ⟨by first | rfl | (simp [errW_none, errW_some] <;> rfl) | (simp [*, errW_none, errW_some] <;> rfl), by repeat (first | (with_reducible first | exact HB.out | apply below_alloc | apply pw_below_drewN | apply below_drew1 | refine below_set ?_ GE187.out | refine below_set ?_ GE188.out) | exact HB.out)⟩
      · replace c14 := Bool.eq_false_iff.mpr c14
        subst c14
        have H1 : (if a0_1 = 8 then (some true) else (if a1_0 = a0_2 then ((rosetteref04_Compare.f kj4 a1_0 a1_1 a1_2 a0_2 a0_3 a0_4).bind fun t192 => (if a0_1 = 1 then (some (t192 == 0)) else (if a0_1 = 2 then (some (t192 != 0)) else (if a0_1 = 3 then (some (decide (t192 < 0))) else (if a0_1 = 4 then (some (decide (t192 ≤ 0))) else (if a0_1 = 5 then (some (decide (t192 > 0))) else (if a0_1 = 6 then (some (decide (t192 ≥ 0))) else (if (a1_2.size : Int) ≥ (a0_4.size : Int) then (if 0 ≤ (a0_4.size : Int) then (if (a0_4.size : Int) ≤ (a1_2.size : Int) then (some ((a1_2.extract 0 ((a0_4.size : Int) : Int).toNat).toList == a0_4.toList)) else (none)) else (none)) else (some false))))))))) else (some false))) = some r := by rw [if_neg (show ¬ (false = true) by decide)] at H; exact H
        clear H
        have H := H1
        clear H1
        by_cases c15 : a0_1 = 8
        · rw [if_pos c15] at H
          have c15b0 : (a0_1 == 8) = true := beq_iff_eq.mpr c15
          have c15b1 : (a0_1 != 8) = false := bne_eq_false_iff_eq.mpr c15
          clear c15
          obtain rfl := Option.some.inj H
          have hnb16 := NB187_188.out
          have hnc16 := NB188_187.out
          have hcz17_0 : wc.cell? ⟨gb187, 0, none⟩ = some (.string a0_0) := (blk_cell BK187.out 0).trans rfl
          have hcz17_1 : wc.cell? ⟨gb187, 1, none⟩ = some (.int .i64 a0_1) := (blk_cell BK187.out 1).trans rfl
          have hcz17_2 : wc.cell? ⟨gb187, 2, none⟩ = some (.int .i64 a0_2) := (blk_cell BK187.out 2).trans rfl
          have hcz17_3 : wc.cell? ⟨gb187, 3, none⟩ = some (.int .i64 a0_3) := (blk_cell BK187.out 3).trans rfl
          have hcz17_4 : wc.cell? ⟨gb187, 4, none⟩ = some (.string a0_4) := (blk_cell BK187.out 4).trans rfl
          have hfz17_0 := blk_frozen BK187.out 0
          have hfz17_1 := blk_frozen BK187.out 1
          have hfz17_2 := blk_frozen BK187.out 2
          have hfz17_3 := blk_frozen BK187.out 3
          have hfz17_4 := blk_frozen BK187.out 4
          go_wp2
          go_ret
          exact ⟨by first | rfl | (simp [errW_none, errW_some] <;> rfl) | (simp [*, errW_none, errW_some] <;> rfl), by repeat (first | (with_reducible first | exact HB.out | apply below_alloc | apply pw_below_drewN | apply below_drew1 | refine below_set ?_ GE187.out | refine below_set ?_ GE188.out) | exact HB.out)⟩
        · rw [if_neg c15] at H
          have c15b0 : (a0_1 == 8) = false := beq_eq_false_iff_ne.mpr c15
          have c15b1 : (a0_1 != 8) = true := bne_iff_ne.mpr c15
          by_cases c18 : a1_0 = a0_2
          · rw [if_pos c18] at H
            have c18b0 : (a1_0 == a0_2) = true := beq_iff_eq.mpr c18
            have c18b1 : (a1_0 != a0_2) = false := bne_eq_false_iff_eq.mpr c18
            clear c18
            replace H := Option.bind_eq_some_iff.mp H
            obtain ⟨t192, A190, H⟩ := H
            replace H : (if a0_1 = 1 then (some (t192 == 0)) else (if a0_1 = 2 then (some (t192 != 0)) else (if a0_1 = 3 then (some (decide (t192 < 0))) else (if a0_1 = 4 then (some (decide (t192 ≤ 0))) else (if a0_1 = 5 then (some (decide (t192 > 0))) else (if a0_1 = 6 then (some (decide (t192 ≥ 0))) else (if (a1_2.size : Int) ≥ (a0_4.size : Int) then (if 0 ≤ (a0_4.size : Int) then (if (a0_4.size : Int) ≤ (a1_2.size : Int) then (some ((a1_2.extract 0 ((a0_4.size : Int) : Int).toNat).toList == a0_4.toList)) else (none)) else (none)) else (some false)))))))) = some r := H
            have A19 := Aside0.mk A190
            clear A190
            by_cases c20 : a0_1 = 1
            · rw [if_pos c20] at H
              have c20b0 : (a0_1 == 1) = true := beq_iff_eq.mpr c20
              have c20b1 : (a0_1 != 1) = false := bne_eq_false_iff_eq.mpr c20
              clear c20
              obtain rfl := Option.some.inj H
              have hnb21 := NB187_188.out
              have hnc21 := NB188_187.out
              have hcz22_0 : wc.cell? ⟨gb187, 0, none⟩ = some (.string a0_0) := (blk_cell BK187.out 0).trans rfl
              have hcz22_1 : wc.cell? ⟨gb187, 1, none⟩ = some (.int .i64 a0_1) := (blk_cell BK187.out 1).trans rfl
              have hcz22_2 : wc.cell? ⟨gb187, 2, none⟩ = some (.int .i64 a0_2) := (blk_cell BK187.out 2).trans rfl
              have hcz22_3 : wc.cell? ⟨gb187, 3, none⟩ = some (.int .i64 a0_3) := (blk_cell BK187.out 3).trans rfl
              have hcz22_4 : wc.cell? ⟨gb187, 4, none⟩ = some (.string a0_4) := (blk_cell BK187.out 4).trans rfl
              have hfz22_0 := blk_frozen BK187.out 0
              have hfz22_1 := blk_frozen BK187.out 1
              have hfz22_2 := blk_frozen BK187.out 2
              have hfz22_3 := blk_frozen BK187.out 3
              have hfz22_4 := blk_frozen BK187.out 4
              go_wp2_with (first | ((with_reducible refine gate_dst (N := 7) rfl ?_); (try (refine gate_guard (by rfl) ?_; dsimp only)); refine box_event ?hg (N := 7) ?hd (cs := #[.int .i64 0, .int .i64 0, .string (⟨#[]⟩ : ByteArray)]) (t := 23) ?hr ?_; (case hd => rfl); (case hg => rfl); (case hr => first | (go_simp; done) | (go_simp; rfl)); intro gb191 hg w23 hbox hb; have n0_ := Aside0.mk (blk_below (g := gb187) (o := .cells #[.string a0_0, .int .i64 a0_1, .int .i64 a0_2, .int .i64 a0_3, .string a0_4] 25 (0, 0)) (by (with_reducible repeat (first | refine blk_drewN ?_ _ | refine blk_drew ?_ | refine blk_alloc ?_ _)); exact BK187.out) hb); have n1_ := Aside0.mk (blk_below (g := gb188) (o := .cells #[.int .i64 a1_0, .int .i64 a1_1, .string a1_2] 23 (0, 0)) (by (with_reducible repeat (first | refine blk_drewN ?_ _ | refine blk_drew ?_ | refine blk_alloc ?_ _)); exact BK188.out) hb); have n2_ := Aside0.mk (below_step (by repeat (first | (with_reducible first | exact HB.out | apply below_alloc | apply pw_below_drewN | apply below_drew1 | refine below_set ?_ GE187.out | refine below_set ?_ GE188.out) | exact HB.out)) hb); have n3_ := Aside0.mk (hbox); have n4_ := Aside0.mk ((by rw [hg]; exact (below_size (by repeat (first | (with_reducible first | exact HB.out | apply below_alloc | apply pw_below_drewN | apply below_drew1 | refine below_set ?_ GE187.out | refine below_set ?_ GE188.out) | exact HB.out))) : w.heap.size ≤ gb191)); have n5_ := Aside0.mk ((by rw [hg]; exact (below_size (by repeat (first | (with_reducible first | exact HB.out | apply below_alloc | apply pw_below_drewN | apply below_drew1 | refine below_set ?_ GE187.out | refine below_set ?_ GE188.out) | exact HB.out))) : w.heap.size ≤ gb191)); have n6_ := Aside0.mk ((by rw [hg]; exact Nat.ne_of_lt (blk_lt (g := gb187) (o := .cells #[.string a0_0, .int .i64 a0_1, .int .i64 a0_2, .int .i64 a0_3, .string a0_4] 25 (0, 0)) (by (with_reducible repeat (first | refine blk_drewN ?_ _ | refine blk_drew ?_ | refine blk_alloc ?_ _)); exact BK187.out)) : gb187 ≠ gb191)); have n7_ := Aside0.mk ((by rw [hg]; exact Nat.ne_of_gt (blk_lt (g := gb187) (o := .cells #[.string a0_0, .int .i64 a0_1, .int .i64 a0_2, .int .i64 a0_3, .string a0_4] 25 (0, 0)) (by (with_reducible repeat (first | refine blk_drewN ?_ _ | refine blk_drew ?_ | refine blk_alloc ?_ _)); exact BK187.out)) : gb191 ≠ gb187)); have n8_ := Aside0.mk ((by rw [hg]; exact Nat.ne_of_lt (blk_lt (g := gb188) (o := .cells #[.int .i64 a1_0, .int .i64 a1_1, .string a1_2] 23 (0, 0)) (by (with_reducible repeat (first | refine blk_drewN ?_ _ | refine blk_drew ?_ | refine blk_alloc ?_ _)); exact BK188.out)) : gb188 ≠ gb191)); have n9_ := Aside0.mk ((by rw [hg]; exact Nat.ne_of_gt (blk_lt (g := gb188) (o := .cells #[.int .i64 a1_0, .int .i64 a1_1, .string a1_2] 23 (0, 0)) (by (with_reducible repeat (first | refine blk_drewN ?_ _ | refine blk_drew ?_ | refine blk_alloc ?_ _)); exact BK188.out)) : gb191 ≠ gb188)); clear BK187; clear BK188; clear HB; have BK187 := n0_; have BK188 := n1_; have HB := n2_; have BK191 := n3_; have GW191 := n4_; have GE191 := n5_; have NB187_191 := n6_; have NB191_187 := n7_; have NB188_191 := n8_; have NB191_188 := n9_; clear n0_ n1_ n2_ n3_ n4_ n5_ n6_ n7_ n8_ n9_; clear hb hbox hg; have hnb24 := NB191_187.out; have hnc24 := NB187_191.out; have hnb25 := NB191_188.out; have hnc25 := NB188_191.out; have hcz26_0 : w23.cell? ⟨gb191, 0, none⟩ = some (.int .i64 0) := (blk_cell BK191.out 0).trans rfl; have hcz26_1 : w23.cell? ⟨gb191, 1, none⟩ = some (.int .i64 0) := (blk_cell BK191.out 1).trans rfl; have hcz26_2 : w23.cell? ⟨gb191, 2, none⟩ = some (.string (⟨#[]⟩ : ByteArray)) := (blk_cell BK191.out 2).trans rfl; have hfz26_0 := blk_frozen BK191.out 0; have hfz26_1 := blk_frozen BK191.out 1; have hfz26_2 := blk_frozen BK191.out 2; have hcz27_0 : w23.cell? ⟨gb188, 0, none⟩ = some (.int .i64 a1_0) := (blk_cell BK188.out 0).trans rfl; have hcz27_1 : w23.cell? ⟨gb188, 1, none⟩ = some (.int .i64 a1_1) := (blk_cell BK188.out 1).trans rfl; have hcz27_2 : w23.cell? ⟨gb188, 2, none⟩ = some (.string a1_2) := (blk_cell BK188.out 2).trans rfl; have hfz27_0 := blk_frozen BK188.out 0; have hfz27_1 := blk_frozen BK188.out 1; have hfz27_2 := blk_frozen BK188.out 2) | (go_at_call 28; (with_reducible refine (rosetteref04_Compare.calls kj4 a1_0 a1_1 a1_2 a0_2 a0_3 a0_4 t192 _ A19.out).mono ?_); rintro e w28 ⟨rfl, hb⟩; have n0_ := Aside0.mk (blk_below (g := gb187) (o := .cells #[.string a0_0, .int .i64 a0_1, .int .i64 a0_2, .int .i64 a0_3, .string a0_4] 25 (0, 0)) (by (with_reducible repeat (first | refine blk_drewN ?_ _ | refine blk_drew ?_ | refine blk_alloc ?_ _)); refine blk_far ?_ NB187_191.out _; (with_reducible repeat (first | refine blk_drewN ?_ _ | refine blk_drew ?_ | refine blk_alloc ?_ _)); refine blk_far ?_ NB187_191.out _; (with_reducible repeat (first | refine blk_drewN ?_ _ | refine blk_drew ?_ | refine blk_alloc ?_ _)); refine blk_far ?_ NB187_191.out _; (with_reducible repeat (first | refine blk_drewN ?_ _ | refine blk_drew ?_ | refine blk_alloc ?_ _)); exact BK187.out) hb); have n1_ := Aside0.mk (blk_below (g := gb188) (o := .cells #[.int .i64 a1_0, .int .i64 a1_1, .string a1_2] 23 (0, 0)) (by (with_reducible repeat (first | refine blk_drewN ?_ _ | refine blk_drew ?_ | refine blk_alloc ?_ _)); refine blk_far ?_ NB188_191.out _; (with_reducible repeat (first | refine blk_drewN ?_ _ | refine blk_drew ?_ | refine blk_alloc ?_ _)); refine blk_far ?_ NB188_191.out _; (with_reducible repeat (first | refine blk_drewN ?_ _ | refine blk_drew ?_ | refine blk_alloc ?_ _)); refine blk_far ?_ NB188_191.out _; (with_reducible repeat (first | refine blk_drewN ?_ _ | refine blk_drew ?_ | refine blk_alloc ?_ _)); exact BK188.out) hb); have n2_ := Aside0.mk (blk_below (g := gb191) (o := .cells #[.int .i64 a0_2, .int .i64 a0_3, .string a0_4] 23 (0, 0)) (by (with_reducible repeat (first | refine blk_drewN ?_ _ | refine blk_drew ?_ | refine blk_alloc ?_ _)); refine blk_put (cs := #[.int .i64 a0_2, .int .i64 a0_3, .string (⟨#[]⟩ : ByteArray)]) ?_ 2 _ rfl; (with_reducible repeat (first | refine blk_drewN ?_ _ | refine blk_drew ?_ | refine blk_alloc ?_ _)); refine blk_put (cs := #[.int .i64 a0_2, .int .i64 0, .string (⟨#[]⟩ : ByteArray)]) ?_ 1 _ rfl; (with_reducible repeat (first | refine blk_drewN ?_ _ | refine blk_drew ?_ | refine blk_alloc ?_ _)); refine blk_put (cs := #[.int .i64 0, .int .i64 0, .string (⟨#[]⟩ : ByteArray)]) ?_ 0 _ rfl; (with_reducible repeat (first | refine blk_drewN ?_ _ | refine blk_drew ?_ | refine blk_alloc ?_ _)); exact BK191.out) hb); have n3_ := Aside0.mk (below_step (by repeat (first | (with_reducible first | exact HB.out | apply below_alloc | apply pw_below_drewN | apply below_drew1 | refine below_set ?_ GE187.out | refine below_set ?_ GE188.out | refine below_set ?_ GE191.out) | exact HB.out)) hb); clear BK187; clear BK188; clear BK191; clear HB; have BK187 := n0_; have BK188 := n1_; have BK191 := n2_; have HB := n3_; clear n0_ n1_ n2_ n3_; (try clear hb); (try clear hb2); (try clear hk); (try clear hi); have hcz29_0 : w28.cell? ⟨gb187, 0, none⟩ = some (.string a0_0) := (blk_cell BK187.out 0).trans rfl; have hcz29_1 : w28.cell? ⟨gb187, 1, none⟩ = some (.int .i64 a0_1) := (blk_cell BK187.out 1).trans rfl; have hcz29_2 : w28.cell? ⟨gb187, 2, none⟩ = some (.int .i64 a0_2) := (blk_cell BK187.out 2).trans rfl; have hcz29_3 : w28.cell? ⟨gb187, 3, none⟩ = some (.int .i64 a0_3) := (blk_cell BK187.out 3).trans rfl; have hcz29_4 : w28.cell? ⟨gb187, 4, none⟩ = some (.string a0_4) := (blk_cell BK187.out 4).trans rfl; have hfz29_0 := blk_frozen BK187.out 0; have hfz29_1 := blk_frozen BK187.out 1; have hfz29_2 := blk_frozen BK187.out 2; have hfz29_3 := blk_frozen BK187.out 3; have hfz29_4 := blk_frozen BK187.out 4))
              go_ret
              exact ⟨by first | rfl | (simp [errW_none, errW_some] <;> rfl) | (simp [*, errW_none, errW_some] <;> rfl), by repeat (first | (with_reducible first | exact HB.out | apply below_alloc | apply pw_below_drewN | apply below_drew1 | refine below_set ?_ GE187.out | refine below_set ?_ GE188.out | refine below_set ?_ GE191.out) | exact HB.out)⟩
            · rw [if_neg c20] at H
              have c20b0 : (a0_1 == 1) = false := beq_eq_false_iff_ne.mpr c20
              have c20b1 : (a0_1 != 1) = true := bne_iff_ne.mpr c20
              by_cases c30 : a0_1 = 2
              · rw [if_pos c30] at H
                have c30b0 : (a0_1 == 2) = true := beq_iff_eq.mpr c30
                have c30b1 : (a0_1 != 2) = false := bne_eq_false_iff_eq.mpr c30
                clear c30
                obtain rfl := Option.some.inj H
                have hnb31 := NB187_188.out
                have hnc31 := NB188_187.out
                have hcz32_0 : wc.cell? ⟨gb187, 0, none⟩ = some (.string a0_0) := (blk_cell BK187.out 0).trans rfl
                have hcz32_1 : wc.cell? ⟨gb187, 1, none⟩ = some (.int .i64 a0_1) := (blk_cell BK187.out 1).trans rfl
                have hcz32_2 : wc.cell? ⟨gb187, 2, none⟩ = some (.int .i64 a0_2) := (blk_cell BK187.out 2).trans rfl
                have hcz32_3 : wc.cell? ⟨gb187, 3, none⟩ = some (.int .i64 a0_3) := (blk_cell BK187.out 3).trans rfl
                have hcz32_4 : wc.cell? ⟨gb187, 4, none⟩ = some (.string a0_4) := (blk_cell BK187.out 4).trans rfl
                have hfz32_0 := blk_frozen BK187.out 0
                have hfz32_1 := blk_frozen BK187.out 1
                have hfz32_2 := blk_frozen BK187.out 2
                have hfz32_3 := blk_frozen BK187.out 3
                have hfz32_4 := blk_frozen BK187.out 4
                go_wp2_with (first | ((with_reducible refine gate_dst (N := 7) rfl ?_); (try (refine gate_guard (by rfl) ?_; dsimp only)); refine box_event ?hg (N := 7) ?hd (cs := #[.int .i64 0, .int .i64 0, .string (⟨#[]⟩ : ByteArray)]) (t := 23) ?hr ?_; (case hd => rfl); (case hg => rfl); (case hr => first | (go_simp; done) | (go_simp; rfl)); intro gb191 hg w33 hbox hb; have n0_ := Aside0.mk (blk_below (g := gb187) (o := .cells #[.string a0_0, .int .i64 a0_1, .int .i64 a0_2, .int .i64 a0_3, .string a0_4] 25 (0, 0)) (by (with_reducible repeat (first | refine blk_drewN ?_ _ | refine blk_drew ?_ | refine blk_alloc ?_ _)); exact BK187.out) hb); have n1_ := Aside0.mk (blk_below (g := gb188) (o := .cells #[.int .i64 a1_0, .int .i64 a1_1, .string a1_2] 23 (0, 0)) (by (with_reducible repeat (first | refine blk_drewN ?_ _ | refine blk_drew ?_ | refine blk_alloc ?_ _)); exact BK188.out) hb); have n2_ := Aside0.mk (below_step (by repeat (first | (with_reducible first | exact HB.out | apply below_alloc | apply pw_below_drewN | apply below_drew1 | refine below_set ?_ GE187.out | refine below_set ?_ GE188.out) | exact HB.out)) hb); have n3_ := Aside0.mk (hbox); have n4_ := Aside0.mk ((by rw [hg]; exact (below_size (by repeat (first | (with_reducible first | exact HB.out | apply below_alloc | apply pw_below_drewN | apply below_drew1 | refine below_set ?_ GE187.out | refine below_set ?_ GE188.out) | exact HB.out))) : w.heap.size ≤ gb191)); have n5_ := Aside0.mk ((by rw [hg]; exact (below_size (by repeat (first | (with_reducible first | exact HB.out | apply below_alloc | apply pw_below_drewN | apply below_drew1 | refine below_set ?_ GE187.out | refine below_set ?_ GE188.out) | exact HB.out))) : w.heap.size ≤ gb191)); have n6_ := Aside0.mk ((by rw [hg]; exact Nat.ne_of_lt (blk_lt (g := gb187) (o := .cells #[.string a0_0, .int .i64 a0_1, .int .i64 a0_2, .int .i64 a0_3, .string a0_4] 25 (0, 0)) (by (with_reducible repeat (first | refine blk_drewN ?_ _ | refine blk_drew ?_ | refine blk_alloc ?_ _)); exact BK187.out)) : gb187 ≠ gb191)); have n7_ := Aside0.mk ((by rw [hg]; exact Nat.ne_of_gt (blk_lt (g := gb187) (o := .cells #[.string a0_0, .int .i64 a0_1, .int .i64 a0_2, .int .i64 a0_3, .string a0_4] 25 (0, 0)) (by (with_reducible repeat (first | refine blk_drewN ?_ _ | refine blk_drew ?_ | refine blk_alloc ?_ _)); exact BK187.out)) : gb191 ≠ gb187)); have n8_ := Aside0.mk ((by rw [hg]; exact Nat.ne_of_lt (blk_lt (g := gb188) (o := .cells #[.int .i64 a1_0, .int .i64 a1_1, .string a1_2] 23 (0, 0)) (by (with_reducible repeat (first | refine blk_drewN ?_ _ | refine blk_drew ?_ | refine blk_alloc ?_ _)); exact BK188.out)) : gb188 ≠ gb191)); have n9_ := Aside0.mk ((by rw [hg]; exact Nat.ne_of_gt (blk_lt (g := gb188) (o := .cells #[.int .i64 a1_0, .int .i64 a1_1, .string a1_2] 23 (0, 0)) (by (with_reducible repeat (first | refine blk_drewN ?_ _ | refine blk_drew ?_ | refine blk_alloc ?_ _)); exact BK188.out)) : gb191 ≠ gb188)); clear BK187; clear BK188; clear HB; have BK187 := n0_; have BK188 := n1_; have HB := n2_; have BK191 := n3_; have GW191 := n4_; have GE191 := n5_; have NB187_191 := n6_; have NB191_187 := n7_; have NB188_191 := n8_; have NB191_188 := n9_; clear n0_ n1_ n2_ n3_ n4_ n5_ n6_ n7_ n8_ n9_; clear hb hbox hg; have hnb34 := NB191_187.out; have hnc34 := NB187_191.out; have hnb35 := NB191_188.out; have hnc35 := NB188_191.out; have hcz36_0 : w33.cell? ⟨gb191, 0, none⟩ = some (.int .i64 0) := (blk_cell BK191.out 0).trans rfl; have hcz36_1 : w33.cell? ⟨gb191, 1, none⟩ = some (.int .i64 0) := (blk_cell BK191.out 1).trans rfl; have hcz36_2 : w33.cell? ⟨gb191, 2, none⟩ = some (.string (⟨#[]⟩ : ByteArray)) := (blk_cell BK191.out 2).trans rfl; have hfz36_0 := blk_frozen BK191.out 0; have hfz36_1 := blk_frozen BK191.out 1; have hfz36_2 := blk_frozen BK191.out 2; have hcz37_0 : w33.cell? ⟨gb188, 0, none⟩ = some (.int .i64 a1_0) := (blk_cell BK188.out 0).trans rfl; have hcz37_1 : w33.cell? ⟨gb188, 1, none⟩ = some (.int .i64 a1_1) := (blk_cell BK188.out 1).trans rfl; have hcz37_2 : w33.cell? ⟨gb188, 2, none⟩ = some (.string a1_2) := (blk_cell BK188.out 2).trans rfl; have hfz37_0 := blk_frozen BK188.out 0; have hfz37_1 := blk_frozen BK188.out 1; have hfz37_2 := blk_frozen BK188.out 2) | (go_at_call 28; (with_reducible refine (rosetteref04_Compare.calls kj4 a1_0 a1_1 a1_2 a0_2 a0_3 a0_4 t192 _ A19.out).mono ?_); rintro e w38 ⟨rfl, hb⟩; have n0_ := Aside0.mk (blk_below (g := gb187) (o := .cells #[.string a0_0, .int .i64 a0_1, .int .i64 a0_2, .int .i64 a0_3, .string a0_4] 25 (0, 0)) (by (with_reducible repeat (first | refine blk_drewN ?_ _ | refine blk_drew ?_ | refine blk_alloc ?_ _)); refine blk_far ?_ NB187_191.out _; (with_reducible repeat (first | refine blk_drewN ?_ _ | refine blk_drew ?_ | refine blk_alloc ?_ _)); refine blk_far ?_ NB187_191.out _; (with_reducible repeat (first | refine blk_drewN ?_ _ | refine blk_drew ?_ | refine blk_alloc ?_ _)); refine blk_far ?_ NB187_191.out _; (with_reducible repeat (first | refine blk_drewN ?_ _ | refine blk_drew ?_ | refine blk_alloc ?_ _)); exact BK187.out) hb); have n1_ := Aside0.mk (blk_below (g := gb188) (o := .cells #[.int .i64 a1_0, .int .i64 a1_1, .string a1_2] 23 (0, 0)) (by (with_reducible repeat (first | refine blk_drewN ?_ _ | refine blk_drew ?_ | refine blk_alloc ?_ _)); refine blk_far ?_ NB188_191.out _; (with_reducible repeat (first | refine blk_drewN ?_ _ | refine blk_drew ?_ | refine blk_alloc ?_ _)); refine blk_far ?_ NB188_191.out _; (with_reducible repeat (first | refine blk_drewN ?_ _ | refine blk_drew ?_ | refine blk_alloc ?_ _)); refine blk_far ?_ NB188_191.out _; (with_reducible repeat (first | refine blk_drewN ?_ _ | refine blk_drew ?_ | refine blk_alloc ?_ _)); exact BK188.out) hb); have n2_ := Aside0.mk (blk_below (g := gb191) (o := .cells #[.int .i64 a0_2, .int .i64 a0_3, .string a0_4] 23 (0, 0)) (by (with_reducible repeat (first | refine blk_drewN ?_ _ | refine blk_drew ?_ | refine blk_alloc ?_ _)); refine blk_put (cs := #[.int .i64 a0_2, .int .i64 a0_3, .string (⟨#[]⟩ : ByteArray)]) ?_ 2 _ rfl; (with_reducible repeat (first | refine blk_drewN ?_ _ | refine blk_drew ?_ | refine blk_alloc ?_ _)); refine blk_put (cs := #[.int .i64 a0_2, .int .i64 0, .string (⟨#[]⟩ : ByteArray)]) ?_ 1 _ rfl; (with_reducible repeat (first | refine blk_drewN ?_ _ | refine blk_drew ?_ | refine blk_alloc ?_ _)); refine blk_put (cs := #[.int .i64 0, .int .i64 0, .string (⟨#[]⟩ : ByteArray)]) ?_ 0 _ rfl; (with_reducible repeat (first | refine blk_drewN ?_ _ | refine blk_drew ?_ | refine blk_alloc ?_ _)); exact BK191.out) hb); have n3_ := Aside0.mk (below_step (by repeat (first | (with_reducible first | exact HB.out | apply below_alloc | apply pw_below_drewN | apply below_drew1 | refine below_set ?_ GE187.out | refine below_set ?_ GE188.out | refine below_set ?_ GE191.out) | exact HB.out)) hb); clear BK187; clear BK188; clear BK191; clear HB; have BK187 := n0_; have BK188 := n1_; have BK191 := n2_; have HB := n3_; clear n0_ n1_ n2_ n3_; (try clear hb); (try clear hb2); (try clear hk); (try clear hi); have hcz39_0 : w38.cell? ⟨gb187, 0, none⟩ = some (.string a0_0) := (blk_cell BK187.out 0).trans rfl; have hcz39_1 : w38.cell? ⟨gb187, 1, none⟩ = some (.int .i64 a0_1) := (blk_cell BK187.out 1).trans rfl; have hcz39_2 : w38.cell? ⟨gb187, 2, none⟩ = some (.int .i64 a0_2) := (blk_cell BK187.out 2).trans rfl; have hcz39_3 : w38.cell? ⟨gb187, 3, none⟩ = some (.int .i64 a0_3) := (blk_cell BK187.out 3).trans rfl; have hcz39_4 : w38.cell? ⟨gb187, 4, none⟩ = some (.string a0_4) := (blk_cell BK187.out 4).trans rfl; have hfz39_0 := blk_frozen BK187.out 0; have hfz39_1 := blk_frozen BK187.out 1; have hfz39_2 := blk_frozen BK187.out 2; have hfz39_3 := blk_frozen BK187.out 3; have hfz39_4 := blk_frozen BK187.out 4))
                go_ret
                exact ⟨by first | rfl | (simp [errW_none, errW_some] <;> rfl) | (simp [*, errW_none, errW_some] <;> rfl), by repeat (first | (with_reducible first | exact HB.out | apply below_alloc | apply pw_below_drewN | apply below_drew1 | refine below_set ?_ GE187.out | refine below_set ?_ GE188.out | refine below_set ?_ GE191.out) | exact HB.out)⟩
              · rw [if_neg c30] at H
                have c30b0 : (a0_1 == 2) = false := beq_eq_false_iff_ne.mpr c30
                have c30b1 : (a0_1 != 2) = true := bne_iff_ne.mpr c30
                by_cases c40 : a0_1 = 3
                · rw [if_pos c40] at H
                  have c40b0 : (a0_1 == 3) = true := beq_iff_eq.mpr c40
                  have c40b1 : (a0_1 != 3) = false := bne_eq_false_iff_eq.mpr c40
                  clear c40
                  obtain rfl := Option.some.inj H
                  have hnb41 := NB187_188.out
                  have hnc41 := NB188_187.out
                  have hcz42_0 : wc.cell? ⟨gb187, 0, none⟩ = some (.string a0_0) := (blk_cell BK187.out 0).trans rfl
                  have hcz42_1 : wc.cell? ⟨gb187, 1, none⟩ = some (.int .i64 a0_1) := (blk_cell BK187.out 1).trans rfl
                  have hcz42_2 : wc.cell? ⟨gb187, 2, none⟩ = some (.int .i64 a0_2) := (blk_cell BK187.out 2).trans rfl
                  have hcz42_3 : wc.cell? ⟨gb187, 3, none⟩ = some (.int .i64 a0_3) := (blk_cell BK187.out 3).trans rfl
                  have hcz42_4 : wc.cell? ⟨gb187, 4, none⟩ = some (.string a0_4) := (blk_cell BK187.out 4).trans rfl
                  have hfz42_0 := blk_frozen BK187.out 0
                  have hfz42_1 := blk_frozen BK187.out 1
                  have hfz42_2 := blk_frozen BK187.out 2
                  have hfz42_3 := blk_frozen BK187.out 3
                  have hfz42_4 := blk_frozen BK187.out 4
                  go_wp2_with (first | ((with_reducible refine gate_dst (N := 7) rfl ?_); (try (refine gate_guard (by rfl) ?_; dsimp only)); refine box_event ?hg (N := 7) ?hd (cs := #[.int .i64 0, .int .i64 0, .string (⟨#[]⟩ : ByteArray)]) (t := 23) ?hr ?_; (case hd => rfl); (case hg => rfl); (case hr => first | (go_simp; done) | (go_simp; rfl)); intro gb191 hg w43 hbox hb; have n0_ := Aside0.mk (blk_below (g := gb187) (o := .cells #[.string a0_0, .int .i64 a0_1, .int .i64 a0_2, .int .i64 a0_3, .string a0_4] 25 (0, 0)) (by (with_reducible repeat (first | refine blk_drewN ?_ _ | refine blk_drew ?_ | refine blk_alloc ?_ _)); exact BK187.out) hb); have n1_ := Aside0.mk (blk_below (g := gb188) (o := .cells #[.int .i64 a1_0, .int .i64 a1_1, .string a1_2] 23 (0, 0)) (by (with_reducible repeat (first | refine blk_drewN ?_ _ | refine blk_drew ?_ | refine blk_alloc ?_ _)); exact BK188.out) hb); have n2_ := Aside0.mk (below_step (by repeat (first | (with_reducible first | exact HB.out | apply below_alloc | apply pw_below_drewN | apply below_drew1 | refine below_set ?_ GE187.out | refine below_set ?_ GE188.out) | exact HB.out)) hb); have n3_ := Aside0.mk (hbox); have n4_ := Aside0.mk ((by rw [hg]; exact (below_size (by repeat (first | (with_reducible first | exact HB.out | apply below_alloc | apply pw_below_drewN | apply below_drew1 | refine below_set ?_ GE187.out | refine below_set ?_ GE188.out) | exact HB.out))) : w.heap.size ≤ gb191)); have n5_ := Aside0.mk ((by rw [hg]; exact (below_size (by repeat (first | (with_reducible first | exact HB.out | apply below_alloc | apply pw_below_drewN | apply below_drew1 | refine below_set ?_ GE187.out | refine below_set ?_ GE188.out) | exact HB.out))) : w.heap.size ≤ gb191)); have n6_ := Aside0.mk ((by rw [hg]; exact Nat.ne_of_lt (blk_lt (g := gb187) (o := .cells #[.string a0_0, .int .i64 a0_1, .int .i64 a0_2, .int .i64 a0_3, .string a0_4] 25 (0, 0)) (by (with_reducible repeat (first | refine blk_drewN ?_ _ | refine blk_drew ?_ | refine blk_alloc ?_ _)); exact BK187.out)) : gb187 ≠ gb191)); have n7_ := Aside0.mk ((by rw [hg]; exact Nat.ne_of_gt (blk_lt (g := gb187) (o := .cells #[.string a0_0, .int .i64 a0_1, .int .i64 a0_2, .int .i64 a0_3, .string a0_4] 25 (0, 0)) (by (with_reducible repeat (first | refine blk_drewN ?_ _ | refine blk_drew ?_ | refine blk_alloc ?_ _)); exact BK187.out)) : gb191 ≠ gb187)); have n8_ := Aside0.mk ((by rw [hg]; exact Nat.ne_of_lt (blk_lt (g := gb188) (o := .cells #[.int .i64 a1_0, .int .i64 a1_1, .string a1_2] 23 (0, 0)) (by (with_reducible repeat (first | refine blk_drewN ?_ _ | refine blk_drew ?_ | refine blk_alloc ?_ _)); exact BK188.out)) : gb188 ≠ gb191)); have n9_ := Aside0.mk ((by rw [hg]; exact Nat.ne_of_gt (blk_lt (g := gb188) (o := .cells #[.int .i64 a1_0, .int .i64 a1_1, .string a1_2] 23 (0, 0)) (by (with_reducible repeat (first | refine blk_drewN ?_ _ | refine blk_drew ?_ | refine blk_alloc ?_ _)); exact BK188.out)) : gb191 ≠ gb188)); clear BK187; clear BK188; clear HB; have BK187 := n0_; have BK188 := n1_; have HB := n2_; have BK191 := n3_; have GW191 := n4_; have GE191 := n5_; have NB187_191 := n6_; have NB191_187 := n7_; have NB188_191 := n8_; have NB191_188 := n9_; clear n0_ n1_ n2_ n3_ n4_ n5_ n6_ n7_ n8_ n9_; clear hb hbox hg; have hnb44 := NB191_187.out; have hnc44 := NB187_191.out; have hnb45 := NB191_188.out; have hnc45 := NB188_191.out; have hcz46_0 : w43.cell? ⟨gb191, 0, none⟩ = some (.int .i64 0) := (blk_cell BK191.out 0).trans rfl; have hcz46_1 : w43.cell? ⟨gb191, 1, none⟩ = some (.int .i64 0) := (blk_cell BK191.out 1).trans rfl; have hcz46_2 : w43.cell? ⟨gb191, 2, none⟩ = some (.string (⟨#[]⟩ : ByteArray)) := (blk_cell BK191.out 2).trans rfl; have hfz46_0 := blk_frozen BK191.out 0; have hfz46_1 := blk_frozen BK191.out 1; have hfz46_2 := blk_frozen BK191.out 2; have hcz47_0 : w43.cell? ⟨gb188, 0, none⟩ = some (.int .i64 a1_0) := (blk_cell BK188.out 0).trans rfl; have hcz47_1 : w43.cell? ⟨gb188, 1, none⟩ = some (.int .i64 a1_1) := (blk_cell BK188.out 1).trans rfl; have hcz47_2 : w43.cell? ⟨gb188, 2, none⟩ = some (.string a1_2) := (blk_cell BK188.out 2).trans rfl; have hfz47_0 := blk_frozen BK188.out 0; have hfz47_1 := blk_frozen BK188.out 1; have hfz47_2 := blk_frozen BK188.out 2) | (go_at_call 28; (with_reducible refine (rosetteref04_Compare.calls kj4 a1_0 a1_1 a1_2 a0_2 a0_3 a0_4 t192 _ A19.out).mono ?_); rintro e w48 ⟨rfl, hb⟩; have n0_ := Aside0.mk (blk_below (g := gb187) (o := .cells #[.string a0_0, .int .i64 a0_1, .int .i64 a0_2, .int .i64 a0_3, .string a0_4] 25 (0, 0)) (by (with_reducible repeat (first | refine blk_drewN ?_ _ | refine blk_drew ?_ | refine blk_alloc ?_ _)); refine blk_far ?_ NB187_191.out _; (with_reducible repeat (first | refine blk_drewN ?_ _ | refine blk_drew ?_ | refine blk_alloc ?_ _)); refine blk_far ?_ NB187_191.out _; (with_reducible repeat (first | refine blk_drewN ?_ _ | refine blk_drew ?_ | refine blk_alloc ?_ _)); refine blk_far ?_ NB187_191.out _; (with_reducible repeat (first | refine blk_drewN ?_ _ | refine blk_drew ?_ | refine blk_alloc ?_ _)); exact BK187.out) hb); have n1_ := Aside0.mk (blk_below (g := gb188) (o := .cells #[.int .i64 a1_0, .int .i64 a1_1, .string a1_2] 23 (0, 0)) (by (with_reducible repeat (first | refine blk_drewN ?_ _ | refine blk_drew ?_ | refine blk_alloc ?_ _)); refine blk_far ?_ NB188_191.out _; (with_reducible repeat (first | refine blk_drewN ?_ _ | refine blk_drew ?_ | refine blk_alloc ?_ _)); refine blk_far ?_ NB188_191.out _; (with_reducible repeat (first | refine blk_drewN ?_ _ | refine blk_drew ?_ | refine blk_alloc ?_ _)); refine blk_far ?_ NB188_191.out _; (with_reducible repeat (first | refine blk_drewN ?_ _ | refine blk_drew ?_ | refine blk_alloc ?_ _)); exact BK188.out) hb); have n2_ := Aside0.mk (blk_below (g := gb191) (o := .cells #[.int .i64 a0_2, .int .i64 a0_3, .string a0_4] 23 (0, 0)) (by (with_reducible repeat (first | refine blk_drewN ?_ _ | refine blk_drew ?_ | refine blk_alloc ?_ _)); refine blk_put (cs := #[.int .i64 a0_2, .int .i64 a0_3, .string (⟨#[]⟩ : ByteArray)]) ?_ 2 _ rfl; (with_reducible repeat (first | refine blk_drewN ?_ _ | refine blk_drew ?_ | refine blk_alloc ?_ _)); refine blk_put (cs := #[.int .i64 a0_2, .int .i64 0, .string (⟨#[]⟩ : ByteArray)]) ?_ 1 _ rfl; (with_reducible repeat (first | refine blk_drewN ?_ _ | refine blk_drew ?_ | refine blk_alloc ?_ _)); refine blk_put (cs := #[.int .i64 0, .int .i64 0, .string (⟨#[]⟩ : ByteArray)]) ?_ 0 _ rfl; (with_reducible repeat (first | refine blk_drewN ?_ _ | refine blk_drew ?_ | refine blk_alloc ?_ _)); exact BK191.out) hb); have n3_ := Aside0.mk (below_step (by repeat (first | (with_reducible first | exact HB.out | apply below_alloc | apply pw_below_drewN | apply below_drew1 | refine below_set ?_ GE187.out | refine below_set ?_ GE188.out | refine below_set ?_ GE191.out) | exact HB.out)) hb); clear BK187; clear BK188; clear BK191; clear HB; have BK187 := n0_; have BK188 := n1_; have BK191 := n2_; have HB := n3_; clear n0_ n1_ n2_ n3_; (try clear hb); (try clear hb2); (try clear hk); (try clear hi); have hcz49_0 : w48.cell? ⟨gb187, 0, none⟩ = some (.string a0_0) := (blk_cell BK187.out 0).trans rfl; have hcz49_1 : w48.cell? ⟨gb187, 1, none⟩ = some (.int .i64 a0_1) := (blk_cell BK187.out 1).trans rfl; have hcz49_2 : w48.cell? ⟨gb187, 2, none⟩ = some (.int .i64 a0_2) := (blk_cell BK187.out 2).trans rfl; have hcz49_3 : w48.cell? ⟨gb187, 3, none⟩ = some (.int .i64 a0_3) := (blk_cell BK187.out 3).trans rfl; have hcz49_4 : w48.cell? ⟨gb187, 4, none⟩ = some (.string a0_4) := (blk_cell BK187.out 4).trans rfl; have hfz49_0 := blk_frozen BK187.out 0; have hfz49_1 := blk_frozen BK187.out 1; have hfz49_2 := blk_frozen BK187.out 2; have hfz49_3 := blk_frozen BK187.out 3; have hfz49_4 := blk_frozen BK187.out 4))
                  go_ret
                  exact ⟨by first | rfl | (simp [errW_none, errW_some] <;> rfl) | (simp [*, errW_none, errW_some] <;> rfl), by repeat (first | (with_reducible first | exact HB.out | apply below_alloc | apply pw_below_drewN | apply below_drew1 | refine below_set ?_ GE187.out | refine below_set ?_ GE188.out | refine below_set ?_ GE191.out) | exact HB.out)⟩
                · rw [if_neg c40] at H
                  have c40b0 : (a0_1 == 3) = false := beq_eq_false_iff_ne.mpr c40
                  have c40b1 : (a0_1 != 3) = true := bne_iff_ne.mpr c40
                  by_cases c50 : a0_1 = 4
                  · rw [if_pos c50] at H
                    have c50b0 : (a0_1 == 4) = true := beq_iff_eq.mpr c50
                    have c50b1 : (a0_1 != 4) = false := bne_eq_false_iff_eq.mpr c50
                    clear c50
                    obtain rfl := Option.some.inj H
                    have hnb51 := NB187_188.out
                    have hnc51 := NB188_187.out
                    have hcz52_0 : wc.cell? ⟨gb187, 0, none⟩ = some (.string a0_0) := (blk_cell BK187.out 0).trans rfl
                    have hcz52_1 : wc.cell? ⟨gb187, 1, none⟩ = some (.int .i64 a0_1) := (blk_cell BK187.out 1).trans rfl
                    have hcz52_2 : wc.cell? ⟨gb187, 2, none⟩ = some (.int .i64 a0_2) := (blk_cell BK187.out 2).trans rfl
                    have hcz52_3 : wc.cell? ⟨gb187, 3, none⟩ = some (.int .i64 a0_3) := (blk_cell BK187.out 3).trans rfl
                    have hcz52_4 : wc.cell? ⟨gb187, 4, none⟩ = some (.string a0_4) := (blk_cell BK187.out 4).trans rfl
                    have hfz52_0 := blk_frozen BK187.out 0
                    have hfz52_1 := blk_frozen BK187.out 1
                    have hfz52_2 := blk_frozen BK187.out 2
                    have hfz52_3 := blk_frozen BK187.out 3
                    have hfz52_4 := blk_frozen BK187.out 4
                    go_wp2_with (first | ((with_reducible refine gate_dst (N := 7) rfl ?_); (try (refine gate_guard (by rfl) ?_; dsimp only)); refine box_event ?hg (N := 7) ?hd (cs := #[.int .i64 0, .int .i64 0, .string (⟨#[]⟩ : ByteArray)]) (t := 23) ?hr ?_; (case hd => rfl); (case hg => rfl); (case hr => first | (go_simp; done) | (go_simp; rfl)); intro gb191 hg w53 hbox hb; have n0_ := Aside0.mk (blk_below (g := gb187) (o := .cells #[.string a0_0, .int .i64 a0_1, .int .i64 a0_2, .int .i64 a0_3, .string a0_4] 25 (0, 0)) (by (with_reducible repeat (first | refine blk_drewN ?_ _ | refine blk_drew ?_ | refine blk_alloc ?_ _)); exact BK187.out) hb); have n1_ := Aside0.mk (blk_below (g := gb188) (o := .cells #[.int .i64 a1_0, .int .i64 a1_1, .string a1_2] 23 (0, 0)) (by (with_reducible repeat (first | refine blk_drewN ?_ _ | refine blk_drew ?_ | refine blk_alloc ?_ _)); exact BK188.out) hb); have n2_ := Aside0.mk (below_step (by repeat (first | (with_reducible first | exact HB.out | apply below_alloc | apply pw_below_drewN | apply below_drew1 | refine below_set ?_ GE187.out | refine below_set ?_ GE188.out) | exact HB.out)) hb); have n3_ := Aside0.mk (hbox); have n4_ := Aside0.mk ((by rw [hg]; exact (below_size (by repeat (first | (with_reducible first | exact HB.out | apply below_alloc | apply pw_below_drewN | apply below_drew1 | refine below_set ?_ GE187.out | refine below_set ?_ GE188.out) | exact HB.out))) : w.heap.size ≤ gb191)); have n5_ := Aside0.mk ((by rw [hg]; exact (below_size (by repeat (first | (with_reducible first | exact HB.out | apply below_alloc | apply pw_below_drewN | apply below_drew1 | refine below_set ?_ GE187.out | refine below_set ?_ GE188.out) | exact HB.out))) : w.heap.size ≤ gb191)); have n6_ := Aside0.mk ((by rw [hg]; exact Nat.ne_of_lt (blk_lt (g := gb187) (o := .cells #[.string a0_0, .int .i64 a0_1, .int .i64 a0_2, .int .i64 a0_3, .string a0_4] 25 (0, 0)) (by (with_reducible repeat (first | refine blk_drewN ?_ _ | refine blk_drew ?_ | refine blk_alloc ?_ _)); exact BK187.out)) : gb187 ≠ gb191)); have n7_ := Aside0.mk ((by rw [hg]; exact Nat.ne_of_gt (blk_lt (g := gb187) (o := .cells #[.string a0_0, .int .i64 a0_1, .int .i64 a0_2, .int .i64 a0_3, .string a0_4] 25 (0, 0)) (by (with_reducible repeat (first | refine blk_drewN ?_ _ | refine blk_drew ?_ | refine blk_alloc ?_ _)); exact BK187.out)) : gb191 ≠ gb187)); have n8_ := Aside0.mk ((by rw [hg]; exact Nat.ne_of_lt (blk_lt (g := gb188) (o := .cells #[.int .i64 a1_0, .int .i64 a1_1, .string a1_2] 23 (0, 0)) (by (with_reducible repeat (first | refine blk_drewN ?_ _ | refine blk_drew ?_ | refine blk_alloc ?_ _)); exact BK188.out)) : gb188 ≠ gb191)); have n9_ := Aside0.mk ((by rw [hg]; exact Nat.ne_of_gt (blk_lt (g := gb188) (o := .cells #[.int .i64 a1_0, .int .i64 a1_1, .string a1_2] 23 (0, 0)) (by (with_reducible repeat (first | refine blk_drewN ?_ _ | refine blk_drew ?_ | refine blk_alloc ?_ _)); exact BK188.out)) : gb191 ≠ gb188)); clear BK187; clear BK188; clear HB; have BK187 := n0_; have BK188 := n1_; have HB := n2_; have BK191 := n3_; have GW191 := n4_; have GE191 := n5_; have NB187_191 := n6_; have NB191_187 := n7_; have NB188_191 := n8_; have NB191_188 := n9_; clear n0_ n1_ n2_ n3_ n4_ n5_ n6_ n7_ n8_ n9_; clear hb hbox hg; have hnb54 := NB191_187.out; have hnc54 := NB187_191.out; have hnb55 := NB191_188.out; have hnc55 := NB188_191.out; have hcz56_0 : w53.cell? ⟨gb191, 0, none⟩ = some (.int .i64 0) := (blk_cell BK191.out 0).trans rfl; have hcz56_1 : w53.cell? ⟨gb191, 1, none⟩ = some (.int .i64 0) := (blk_cell BK191.out 1).trans rfl; have hcz56_2 : w53.cell? ⟨gb191, 2, none⟩ = some (.string (⟨#[]⟩ : ByteArray)) := (blk_cell BK191.out 2).trans rfl; have hfz56_0 := blk_frozen BK191.out 0; have hfz56_1 := blk_frozen BK191.out 1; have hfz56_2 := blk_frozen BK191.out 2; have hcz57_0 : w53.cell? ⟨gb188, 0, none⟩ = some (.int .i64 a1_0) := (blk_cell BK188.out 0).trans rfl; have hcz57_1 : w53.cell? ⟨gb188, 1, none⟩ = some (.int .i64 a1_1) := (blk_cell BK188.out 1).trans rfl; have hcz57_2 : w53.cell? ⟨gb188, 2, none⟩ = some (.string a1_2) := (blk_cell BK188.out 2).trans rfl; have hfz57_0 := blk_frozen BK188.out 0; have hfz57_1 := blk_frozen BK188.out 1; have hfz57_2 := blk_frozen BK188.out 2) | (go_at_call 28; (with_reducible refine (rosetteref04_Compare.calls kj4 a1_0 a1_1 a1_2 a0_2 a0_3 a0_4 t192 _ A19.out).mono ?_); rintro e w58 ⟨rfl, hb⟩; have n0_ := Aside0.mk (blk_below (g := gb187) (o := .cells #[.string a0_0, .int .i64 a0_1, .int .i64 a0_2, .int .i64 a0_3, .string a0_4] 25 (0, 0)) (by (with_reducible repeat (first | refine blk_drewN ?_ _ | refine blk_drew ?_ | refine blk_alloc ?_ _)); refine blk_far ?_ NB187_191.out _; (with_reducible repeat (first | refine blk_drewN ?_ _ | refine blk_drew ?_ | refine blk_alloc ?_ _)); refine blk_far ?_ NB187_191.out _; (with_reducible repeat (first | refine blk_drewN ?_ _ | refine blk_drew ?_ | refine blk_alloc ?_ _)); refine blk_far ?_ NB187_191.out _; (with_reducible repeat (first | refine blk_drewN ?_ _ | refine blk_drew ?_ | refine blk_alloc ?_ _)); exact BK187.out) hb); have n1_ := Aside0.mk (blk_below (g := gb188) (o := .cells #[.int .i64 a1_0, .int .i64 a1_1, .string a1_2] 23 (0, 0)) (by (with_reducible repeat (first | refine blk_drewN ?_ _ | refine blk_drew ?_ | refine blk_alloc ?_ _)); refine blk_far ?_ NB188_191.out _; (with_reducible repeat (first | refine blk_drewN ?_ _ | refine blk_drew ?_ | refine blk_alloc ?_ _)); refine blk_far ?_ NB188_191.out _; (with_reducible repeat (first | refine blk_drewN ?_ _ | refine blk_drew ?_ | refine blk_alloc ?_ _)); refine blk_far ?_ NB188_191.out _; (with_reducible repeat (first | refine blk_drewN ?_ _ | refine blk_drew ?_ | refine blk_alloc ?_ _)); exact BK188.out) hb); have n2_ := Aside0.mk (blk_below (g := gb191) (o := .cells #[.int .i64 a0_2, .int .i64 a0_3, .string a0_4] 23 (0, 0)) (by (with_reducible repeat (first | refine blk_drewN ?_ _ | refine blk_drew ?_ | refine blk_alloc ?_ _)); refine blk_put (cs := #[.int .i64 a0_2, .int .i64 a0_3, .string (⟨#[]⟩ : ByteArray)]) ?_ 2 _ rfl; (with_reducible repeat (first | refine blk_drewN ?_ _ | refine blk_drew ?_ | refine blk_alloc ?_ _)); refine blk_put (cs := #[.int .i64 a0_2, .int .i64 0, .string (⟨#[]⟩ : ByteArray)]) ?_ 1 _ rfl; (with_reducible repeat (first | refine blk_drewN ?_ _ | refine blk_drew ?_ | refine blk_alloc ?_ _)); refine blk_put (cs := #[.int .i64 0, .int .i64 0, .string (⟨#[]⟩ : ByteArray)]) ?_ 0 _ rfl; (with_reducible repeat (first | refine blk_drewN ?_ _ | refine blk_drew ?_ | refine blk_alloc ?_ _)); exact BK191.out) hb); have n3_ := Aside0.mk (below_step (by repeat (first | (with_reducible first | exact HB.out | apply below_alloc | apply pw_below_drewN | apply below_drew1 | refine below_set ?_ GE187.out | refine below_set ?_ GE188.out | refine below_set ?_ GE191.out) | exact HB.out)) hb); clear BK187; clear BK188; clear BK191; clear HB; have BK187 := n0_; have BK188 := n1_; have BK191 := n2_; have HB := n3_; clear n0_ n1_ n2_ n3_; (try clear hb); (try clear hb2); (try clear hk); (try clear hi); have hcz59_0 : w58.cell? ⟨gb187, 0, none⟩ = some (.string a0_0) := (blk_cell BK187.out 0).trans rfl; have hcz59_1 : w58.cell? ⟨gb187, 1, none⟩ = some (.int .i64 a0_1) := (blk_cell BK187.out 1).trans rfl; have hcz59_2 : w58.cell? ⟨gb187, 2, none⟩ = some (.int .i64 a0_2) := (blk_cell BK187.out 2).trans rfl; have hcz59_3 : w58.cell? ⟨gb187, 3, none⟩ = some (.int .i64 a0_3) := (blk_cell BK187.out 3).trans rfl; have hcz59_4 : w58.cell? ⟨gb187, 4, none⟩ = some (.string a0_4) := (blk_cell BK187.out 4).trans rfl; have hfz59_0 := blk_frozen BK187.out 0; have hfz59_1 := blk_frozen BK187.out 1; have hfz59_2 := blk_frozen BK187.out 2; have hfz59_3 := blk_frozen BK187.out 3; have hfz59_4 := blk_frozen BK187.out 4))
                    go_ret
                    exact ⟨by first | rfl | (simp [errW_none, errW_some] <;> rfl) | (simp [*, errW_none, errW_some] <;> rfl), by repeat (first | (with_reducible first | exact HB.out | apply below_alloc | apply pw_below_drewN | apply below_drew1 | refine below_set ?_ GE187.out | refine below_set ?_ GE188.out | refine below_set ?_ GE191.out) | exact HB.out)⟩
                  · rw [if_neg c50] at H
                    have c50b0 : (a0_1 == 4) = false := beq_eq_false_iff_ne.mpr c50
                    have c50b1 : (a0_1 != 4) = true := bne_iff_ne.mpr c50
                    by_cases c60 : a0_1 = 5
                    · rw [if_pos c60] at H
                      have c60b0 : (a0_1 == 5) = true := beq_iff_eq.mpr c60
                      have c60b1 : (a0_1 != 5) = false := bne_eq_false_iff_eq.mpr c60
                      clear c60
                      obtain rfl := Option.some.inj H
                      have hnb61 := NB187_188.out
                      have hnc61 := NB188_187.out
                      have hcz62_0 : wc.cell? ⟨gb187, 0, none⟩ = some (.string a0_0) := (blk_cell BK187.out 0).trans rfl
                      have hcz62_1 : wc.cell? ⟨gb187, 1, none⟩ = some (.int .i64 a0_1) := (blk_cell BK187.out 1).trans rfl
                      have hcz62_2 : wc.cell? ⟨gb187, 2, none⟩ = some (.int .i64 a0_2) := (blk_cell BK187.out 2).trans rfl
                      have hcz62_3 : wc.cell? ⟨gb187, 3, none⟩ = some (.int .i64 a0_3) := (blk_cell BK187.out 3).trans rfl
                      have hcz62_4 : wc.cell? ⟨gb187, 4, none⟩ = some (.string a0_4) := (blk_cell BK187.out 4).trans rfl
                      have hfz62_0 := blk_frozen BK187.out 0
                      have hfz62_1 := blk_frozen BK187.out 1
                      have hfz62_2 := blk_frozen BK187.out 2
                      have hfz62_3 := blk_frozen BK187.out 3
                      have hfz62_4 := blk_frozen BK187.out 4
                      go_wp2_with (first | ((with_reducible refine gate_dst (N := 7) rfl ?_); (try (refine gate_guard (by rfl) ?_; dsimp only)); refine box_event ?hg (N := 7) ?hd (cs := #[.int .i64 0, .int .i64 0, .string (⟨#[]⟩ : ByteArray)]) (t := 23) ?hr ?_; (case hd => rfl); (case hg => rfl); (case hr => first | (go_simp; done) | (go_simp; rfl)); intro gb191 hg w63 hbox hb; have n0_ := Aside0.mk (blk_below (g := gb187) (o := .cells #[.string a0_0, .int .i64 a0_1, .int .i64 a0_2, .int .i64 a0_3, .string a0_4] 25 (0, 0)) (by (with_reducible repeat (first | refine blk_drewN ?_ _ | refine blk_drew ?_ | refine blk_alloc ?_ _)); exact BK187.out) hb); have n1_ := Aside0.mk (blk_below (g := gb188) (o := .cells #[.int .i64 a1_0, .int .i64 a1_1, .string a1_2] 23 (0, 0)) (by (with_reducible repeat (first | refine blk_drewN ?_ _ | refine blk_drew ?_ | refine blk_alloc ?_ _)); exact BK188.out) hb); have n2_ := Aside0.mk (below_step (by repeat (first | (with_reducible first | exact HB.out | apply below_alloc | apply pw_below_drewN | apply below_drew1 | refine below_set ?_ GE187.out | refine below_set ?_ GE188.out) | exact HB.out)) hb); have n3_ := Aside0.mk (hbox); have n4_ := Aside0.mk ((by rw [hg]; exact (below_size (by repeat (first | (with_reducible first | exact HB.out | apply below_alloc | apply pw_below_drewN | apply below_drew1 | refine below_set ?_ GE187.out | refine below_set ?_ GE188.out) | exact HB.out))) : w.heap.size ≤ gb191)); have n5_ := Aside0.mk ((by rw [hg]; exact (below_size (by repeat (first | (with_reducible first | exact HB.out | apply below_alloc | apply pw_below_drewN | apply below_drew1 | refine below_set ?_ GE187.out | refine below_set ?_ GE188.out) | exact HB.out))) : w.heap.size ≤ gb191)); have n6_ := Aside0.mk ((by rw [hg]; exact Nat.ne_of_lt (blk_lt (g := gb187) (o := .cells #[.string a0_0, .int .i64 a0_1, .int .i64 a0_2, .int .i64 a0_3, .string a0_4] 25 (0, 0)) (by (with_reducible repeat (first | refine blk_drewN ?_ _ | refine blk_drew ?_ | refine blk_alloc ?_ _)); exact BK187.out)) : gb187 ≠ gb191)); have n7_ := Aside0.mk ((by rw [hg]; exact Nat.ne_of_gt (blk_lt (g := gb187) (o := .cells #[.string a0_0, .int .i64 a0_1, .int .i64 a0_2, .int .i64 a0_3, .string a0_4] 25 (0, 0)) (by (with_reducible repeat (first | refine blk_drewN ?_ _ | refine blk_drew ?_ | refine blk_alloc ?_ _)); exact BK187.out)) : gb191 ≠ gb187)); have n8_ := Aside0.mk ((by rw [hg]; exact Nat.ne_of_lt (blk_lt (g := gb188) (o := .cells #[.int .i64 a1_0, .int .i64 a1_1, .string a1_2] 23 (0, 0)) (by (with_reducible repeat (first | refine blk_drewN ?_ _ | refine blk_drew ?_ | refine blk_alloc ?_ _)); exact BK188.out)) : gb188 ≠ gb191)); have n9_ := Aside0.mk ((by rw [hg]; exact Nat.ne_of_gt (blk_lt (g := gb188) (o := .cells #[.int .i64 a1_0, .int .i64 a1_1, .string a1_2] 23 (0, 0)) (by (with_reducible repeat (first | refine blk_drewN ?_ _ | refine blk_drew ?_ | refine blk_alloc ?_ _)); exact BK188.out)) : gb191 ≠ gb188)); clear BK187; clear BK188; clear HB; have BK187 := n0_; have BK188 := n1_; have HB := n2_; have BK191 := n3_; have GW191 := n4_; have GE191 := n5_; have NB187_191 := n6_; have NB191_187 := n7_; have NB188_191 := n8_; have NB191_188 := n9_; clear n0_ n1_ n2_ n3_ n4_ n5_ n6_ n7_ n8_ n9_; clear hb hbox hg; have hnb64 := NB191_187.out; have hnc64 := NB187_191.out; have hnb65 := NB191_188.out; have hnc65 := NB188_191.out; have hcz66_0 : w63.cell? ⟨gb191, 0, none⟩ = some (.int .i64 0) := (blk_cell BK191.out 0).trans rfl; have hcz66_1 : w63.cell? ⟨gb191, 1, none⟩ = some (.int .i64 0) := (blk_cell BK191.out 1).trans rfl; have hcz66_2 : w63.cell? ⟨gb191, 2, none⟩ = some (.string (⟨#[]⟩ : ByteArray)) := (blk_cell BK191.out 2).trans rfl; have hfz66_0 := blk_frozen BK191.out 0; have hfz66_1 := blk_frozen BK191.out 1; have hfz66_2 := blk_frozen BK191.out 2; have hcz67_0 : w63.cell? ⟨gb188, 0, none⟩ = some (.int .i64 a1_0) := (blk_cell BK188.out 0).trans rfl; have hcz67_1 : w63.cell? ⟨gb188, 1, none⟩ = some (.int .i64 a1_1) := (blk_cell BK188.out 1).trans rfl; have hcz67_2 : w63.cell? ⟨gb188, 2, none⟩ = some (.string a1_2) := (blk_cell BK188.out 2).trans rfl; have hfz67_0 := blk_frozen BK188.out 0; have hfz67_1 := blk_frozen BK188.out 1; have hfz67_2 := blk_frozen BK188.out 2) | (go_at_call 28; (with_reducible refine (rosetteref04_Compare.calls kj4 a1_0 a1_1 a1_2 a0_2 a0_3 a0_4 t192 _ A19.out).mono ?_); rintro e w68 ⟨rfl, hb⟩; have n0_ := Aside0.mk (blk_below (g := gb187) (o := .cells #[.string a0_0, .int .i64 a0_1, .int .i64 a0_2, .int .i64 a0_3, .string a0_4] 25 (0, 0)) (by (with_reducible repeat (first | refine blk_drewN ?_ _ | refine blk_drew ?_ | refine blk_alloc ?_ _)); refine blk_far ?_ NB187_191.out _; (with_reducible repeat (first | refine blk_drewN ?_ _ | refine blk_drew ?_ | refine blk_alloc ?_ _)); refine blk_far ?_ NB187_191.out _; (with_reducible repeat (first | refine blk_drewN ?_ _ | refine blk_drew ?_ | refine blk_alloc ?_ _)); refine blk_far ?_ NB187_191.out _; (with_reducible repeat (first | refine blk_drewN ?_ _ | refine blk_drew ?_ | refine blk_alloc ?_ _)); exact BK187.out) hb); have n1_ := Aside0.mk (blk_below (g := gb188) (o := .cells #[.int .i64 a1_0, .int .i64 a1_1, .string a1_2] 23 (0, 0)) (by (with_reducible repeat (first | refine blk_drewN ?_ _ | refine blk_drew ?_ | refine blk_alloc ?_ _)); refine blk_far ?_ NB188_191.out _; (with_reducible repeat (first | refine blk_drewN ?_ _ | refine blk_drew ?_ | refine blk_alloc ?_ _)); refine blk_far ?_ NB188_191.out _; (with_reducible repeat (first | refine blk_drewN ?_ _ | refine blk_drew ?_ | refine blk_alloc ?_ _)); refine blk_far ?_ NB188_191.out _; (with_reducible repeat (first | refine blk_drewN ?_ _ | refine blk_drew ?_ | refine blk_alloc ?_ _)); exact BK188.out) hb); have n2_ := Aside0.mk (blk_below (g := gb191) (o := .cells #[.int .i64 a0_2, .int .i64 a0_3, .string a0_4] 23 (0, 0)) (by (with_reducible repeat (first | refine blk_drewN ?_ _ | refine blk_drew ?_ | refine blk_alloc ?_ _)); refine blk_put (cs := #[.int .i64 a0_2, .int .i64 a0_3, .string (⟨#[]⟩ : ByteArray)]) ?_ 2 _ rfl; (with_reducible repeat (first | refine blk_drewN ?_ _ | refine blk_drew ?_ | refine blk_alloc ?_ _)); refine blk_put (cs := #[.int .i64 a0_2, .int .i64 0, .string (⟨#[]⟩ : ByteArray)]) ?_ 1 _ rfl; (with_reducible repeat (first | refine blk_drewN ?_ _ | refine blk_drew ?_ | refine blk_alloc ?_ _)); refine blk_put (cs := #[.int .i64 0, .int .i64 0, .string (⟨#[]⟩ : ByteArray)]) ?_ 0 _ rfl; (with_reducible repeat (first | refine blk_drewN ?_ _ | refine blk_drew ?_ | refine blk_alloc ?_ _)); exact BK191.out) hb); have n3_ := Aside0.mk (below_step (by repeat (first | (with_reducible first | exact HB.out | apply below_alloc | apply pw_below_drewN | apply below_drew1 | refine below_set ?_ GE187.out | refine below_set ?_ GE188.out | refine below_set ?_ GE191.out) | exact HB.out)) hb); clear BK187; clear BK188; clear BK191; clear HB; have BK187 := n0_; have BK188 := n1_; have BK191 := n2_; have HB := n3_; clear n0_ n1_ n2_ n3_; (try clear hb); (try clear hb2); (try clear hk); (try clear hi); have hcz69_0 : w68.cell? ⟨gb187, 0, none⟩ = some (.string a0_0) := (blk_cell BK187.out 0).trans rfl; have hcz69_1 : w68.cell? ⟨gb187, 1, none⟩ = some (.int .i64 a0_1) := (blk_cell BK187.out 1).trans rfl; have hcz69_2 : w68.cell? ⟨gb187, 2, none⟩ = some (.int .i64 a0_2) := (blk_cell BK187.out 2).trans rfl; have hcz69_3 : w68.cell? ⟨gb187, 3, none⟩ = some (.int .i64 a0_3) := (blk_cell BK187.out 3).trans rfl; have hcz69_4 : w68.cell? ⟨gb187, 4, none⟩ = some (.string a0_4) := (blk_cell BK187.out 4).trans rfl; have hfz69_0 := blk_frozen BK187.out 0; have hfz69_1 := blk_frozen BK187.out 1; have hfz69_2 := blk_frozen BK187.out 2; have hfz69_3 := blk_frozen BK187.out 3; have hfz69_4 := blk_frozen BK187.out 4))
                      go_ret
                      exact ⟨by first | rfl | (simp [errW_none, errW_some] <;> rfl) | (simp [*, errW_none, errW_some] <;> rfl), by repeat (first | (with_reducible first | exact HB.out | apply below_alloc | apply pw_below_drewN | apply below_drew1 | refine below_set ?_ GE187.out | refine below_set ?_ GE188.out | refine below_set ?_ GE191.out) | exact HB.out)⟩
                    · rw [if_neg c60] at H
                      have c60b0 : (a0_1 == 5) = false := beq_eq_false_iff_ne.mpr c60
                      have c60b1 : (a0_1 != 5) = true := bne_iff_ne.mpr c60
                      by_cases c70 : a0_1 = 6
                      · rw [if_pos c70] at H
                        have c70b0 : (a0_1 == 6) = true := beq_iff_eq.mpr c70
                        have c70b1 : (a0_1 != 6) = false := bne_eq_false_iff_eq.mpr c70
                        clear c70
                        obtain rfl := Option.some.inj H
                        have hnb71 := NB187_188.out
                        have hnc71 := NB188_187.out
                        have hcz72_0 : wc.cell? ⟨gb187, 0, none⟩ = some (.string a0_0) := (blk_cell BK187.out 0).trans rfl
                        have hcz72_1 : wc.cell? ⟨gb187, 1, none⟩ = some (.int .i64 a0_1) := (blk_cell BK187.out 1).trans rfl
                        have hcz72_2 : wc.cell? ⟨gb187, 2, none⟩ = some (.int .i64 a0_2) := (blk_cell BK187.out 2).trans rfl
                        have hcz72_3 : wc.cell? ⟨gb187, 3, none⟩ = some (.int .i64 a0_3) := (blk_cell BK187.out 3).trans rfl
                        have hcz72_4 : wc.cell? ⟨gb187, 4, none⟩ = some (.string a0_4) := (blk_cell BK187.out 4).trans rfl
                        have hfz72_0 := blk_frozen BK187.out 0
                        have hfz72_1 := blk_frozen BK187.out 1
                        have hfz72_2 := blk_frozen BK187.out 2
                        have hfz72_3 := blk_frozen BK187.out 3
                        have hfz72_4 := blk_frozen BK187.out 4
                        go_wp2_with (first | ((with_reducible refine gate_dst (N := 7) rfl ?_); (try (refine gate_guard (by rfl) ?_; dsimp only)); refine box_event ?hg (N := 7) ?hd (cs := #[.int .i64 0, .int .i64 0, .string (⟨#[]⟩ : ByteArray)]) (t := 23) ?hr ?_; (case hd => rfl); (case hg => rfl); (case hr => first | (go_simp; done) | (go_simp; rfl)); intro gb191 hg w73 hbox hb; have n0_ := Aside0.mk (blk_below (g := gb187) (o := .cells #[.string a0_0, .int .i64 a0_1, .int .i64 a0_2, .int .i64 a0_3, .string a0_4] 25 (0, 0)) (by (with_reducible repeat (first | refine blk_drewN ?_ _ | refine blk_drew ?_ | refine blk_alloc ?_ _)); exact BK187.out) hb); have n1_ := Aside0.mk (blk_below (g := gb188) (o := .cells #[.int .i64 a1_0, .int .i64 a1_1, .string a1_2] 23 (0, 0)) (by (with_reducible repeat (first | refine blk_drewN ?_ _ | refine blk_drew ?_ | refine blk_alloc ?_ _)); exact BK188.out) hb); have n2_ := Aside0.mk (below_step (by repeat (first | (with_reducible first | exact HB.out | apply below_alloc | apply pw_below_drewN | apply below_drew1 | refine below_set ?_ GE187.out | refine below_set ?_ GE188.out) | exact HB.out)) hb); have n3_ := Aside0.mk (hbox); have n4_ := Aside0.mk ((by rw [hg]; exact (below_size (by repeat (first | (with_reducible first | exact HB.out | apply below_alloc | apply pw_below_drewN | apply below_drew1 | refine below_set ?_ GE187.out | refine below_set ?_ GE188.out) | exact HB.out))) : w.heap.size ≤ gb191)); have n5_ := Aside0.mk ((by rw [hg]; exact (below_size (by repeat (first | (with_reducible first | exact HB.out | apply below_alloc | apply pw_below_drewN | apply below_drew1 | refine below_set ?_ GE187.out | refine below_set ?_ GE188.out) | exact HB.out))) : w.heap.size ≤ gb191)); have n6_ := Aside0.mk ((by rw [hg]; exact Nat.ne_of_lt (blk_lt (g := gb187) (o := .cells #[.string a0_0, .int .i64 a0_1, .int .i64 a0_2, .int .i64 a0_3, .string a0_4] 25 (0, 0)) (by (with_reducible repeat (first | refine blk_drewN ?_ _ | refine blk_drew ?_ | refine blk_alloc ?_ _)); exact BK187.out)) : gb187 ≠ gb191)); have n7_ := Aside0.mk ((by rw [hg]; exact Nat.ne_of_gt (blk_lt (g := gb187) (o := .cells #[.string a0_0, .int .i64 a0_1, .int .i64 a0_2, .int .i64 a0_3, .string a0_4] 25 (0, 0)) (by (with_reducible repeat (first | refine blk_drewN ?_ _ | refine blk_drew ?_ | refine blk_alloc ?_ _)); exact BK187.out)) : gb191 ≠ gb187)); have n8_ := Aside0.mk ((by rw [hg]; exact Nat.ne_of_lt (blk_lt (g := gb188) (o := .cells #[.int .i64 a1_0, .int .i64 a1_1, .string a1_2] 23 (0, 0)) (by (with_reducible repeat (first | refine blk_drewN ?_ _ | refine blk_drew ?_ | refine blk_alloc ?_ _)); exact BK188.out)) : gb188 ≠ gb191)); have n9_ := Aside0.mk ((by rw [hg]; exact Nat.ne_of_gt (blk_lt (g := gb188) (o := .cells #[.int .i64 a1_0, .int .i64 a1_1, .string a1_2] 23 (0, 0)) (by (with_reducible repeat (first | refine blk_drewN ?_ _ | refine blk_drew ?_ | refine blk_alloc ?_ _)); exact BK188.out)) : gb191 ≠ gb188)); clear BK187; clear BK188; clear HB; have BK187 := n0_; have BK188 := n1_; have HB := n2_; have BK191 := n3_; have GW191 := n4_; have GE191 := n5_; have NB187_191 := n6_; have NB191_187 := n7_; have NB188_191 := n8_; have NB191_188 := n9_; clear n0_ n1_ n2_ n3_ n4_ n5_ n6_ n7_ n8_ n9_; clear hb hbox hg; have hnb74 := NB191_187.out; have hnc74 := NB187_191.out; have hnb75 := NB191_188.out; have hnc75 := NB188_191.out; have hcz76_0 : w73.cell? ⟨gb191, 0, none⟩ = some (.int .i64 0) := (blk_cell BK191.out 0).trans rfl; have hcz76_1 : w73.cell? ⟨gb191, 1, none⟩ = some (.int .i64 0) := (blk_cell BK191.out 1).trans rfl; have hcz76_2 : w73.cell? ⟨gb191, 2, none⟩ = some (.string (⟨#[]⟩ : ByteArray)) := (blk_cell BK191.out 2).trans rfl; have hfz76_0 := blk_frozen BK191.out 0; have hfz76_1 := blk_frozen BK191.out 1; have hfz76_2 := blk_frozen BK191.out 2; have hcz77_0 : w73.cell? ⟨gb188, 0, none⟩ = some (.int .i64 a1_0) := (blk_cell BK188.out 0).trans rfl; have hcz77_1 : w73.cell? ⟨gb188, 1, none⟩ = some (.int .i64 a1_1) := (blk_cell BK188.out 1).trans rfl; have hcz77_2 : w73.cell? ⟨gb188, 2, none⟩ = some (.string a1_2) := (blk_cell BK188.out 2).trans rfl; have hfz77_0 := blk_frozen BK188.out 0; have hfz77_1 := blk_frozen BK188.out 1; have hfz77_2 := blk_frozen BK188.out 2) | (go_at_call 28; (with_reducible refine (rosetteref04_Compare.calls kj4 a1_0 a1_1 a1_2 a0_2 a0_3 a0_4 t192 _ A19.out).mono ?_); rintro e w78 ⟨rfl, hb⟩; have n0_ := Aside0.mk (blk_below (g := gb187) (o := .cells #[.string a0_0, .int .i64 a0_1, .int .i64 a0_2, .int .i64 a0_3, .string a0_4] 25 (0, 0)) (by (with_reducible repeat (first | refine blk_drewN ?_ _ | refine blk_drew ?_ | refine blk_alloc ?_ _)); refine blk_far ?_ NB187_191.out _; (with_reducible repeat (first | refine blk_drewN ?_ _ | refine blk_drew ?_ | refine blk_alloc ?_ _)); refine blk_far ?_ NB187_191.out _; (with_reducible repeat (first | refine blk_drewN ?_ _ | refine blk_drew ?_ | refine blk_alloc ?_ _)); refine blk_far ?_ NB187_191.out _; (with_reducible repeat (first | refine blk_drewN ?_ _ | refine blk_drew ?_ | refine blk_alloc ?_ _)); exact BK187.out) hb); have n1_ := Aside0.mk (blk_below (g := gb188) (o := .cells #[.int .i64 a1_0, .int .i64 a1_1, .string a1_2] 23 (0, 0)) (by (with_reducible repeat (first | refine blk_drewN ?_ _ | refine blk_drew ?_ | refine blk_alloc ?_ _)); refine blk_far ?_ NB188_191.out _; (with_reducible repeat (first | refine blk_drewN ?_ _ | refine blk_drew ?_ | refine blk_alloc ?_ _)); refine blk_far ?_ NB188_191.out _; (with_reducible repeat (first | refine blk_drewN ?_ _ | refine blk_drew ?_ | refine blk_alloc ?_ _)); refine blk_far ?_ NB188_191.out _; (with_reducible repeat (first | refine blk_drewN ?_ _ | refine blk_drew ?_ | refine blk_alloc ?_ _)); exact BK188.out) hb); have n2_ := Aside0.mk (blk_below (g := gb191) (o := .cells #[.int .i64 a0_2, .int .i64 a0_3, .string a0_4] 23 (0, 0)) (by (with_reducible repeat (first | refine blk_drewN ?_ _ | refine blk_drew ?_ | refine blk_alloc ?_ _)); refine blk_put (cs := #[.int .i64 a0_2, .int .i64 a0_3, .string (⟨#[]⟩ : ByteArray)]) ?_ 2 _ rfl; (with_reducible repeat (first | refine blk_drewN ?_ _ | refine blk_drew ?_ | refine blk_alloc ?_ _)); refine blk_put (cs := #[.int .i64 a0_2, .int .i64 0, .string (⟨#[]⟩ : ByteArray)]) ?_ 1 _ rfl; (with_reducible repeat (first | refine blk_drewN ?_ _ | refine blk_drew ?_ | refine blk_alloc ?_ _)); refine blk_put (cs := #[.int .i64 0, .int .i64 0, .string (⟨#[]⟩ : ByteArray)]) ?_ 0 _ rfl; (with_reducible repeat (first | refine blk_drewN ?_ _ | refine blk_drew ?_ | refine blk_alloc ?_ _)); exact BK191.out) hb); have n3_ := Aside0.mk (below_step (by repeat (first | (with_reducible first | exact HB.out | apply below_alloc | apply pw_below_drewN | apply below_drew1 | refine below_set ?_ GE187.out | refine below_set ?_ GE188.out | refine below_set ?_ GE191.out) | exact HB.out)) hb); clear BK187; clear BK188; clear BK191; clear HB; have BK187 := n0_; have BK188 := n1_; have BK191 := n2_; have HB := n3_; clear n0_ n1_ n2_ n3_; (try clear hb); (try clear hb2); (try clear hk); (try clear hi); have hcz79_0 : w78.cell? ⟨gb187, 0, none⟩ = some (.string a0_0) := (blk_cell BK187.out 0).trans rfl; have hcz79_1 : w78.cell? ⟨gb187, 1, none⟩ = some (.int .i64 a0_1) := (blk_cell BK187.out 1).trans rfl; have hcz79_2 : w78.cell? ⟨gb187, 2, none⟩ = some (.int .i64 a0_2) := (blk_cell BK187.out 2).trans rfl; have hcz79_3 : w78.cell? ⟨gb187, 3, none⟩ = some (.int .i64 a0_3) := (blk_cell BK187.out 3).trans rfl; have hcz79_4 : w78.cell? ⟨gb187, 4, none⟩ = some (.string a0_4) := (blk_cell BK187.out 4).trans rfl; have hfz79_0 := blk_frozen BK187.out 0; have hfz79_1 := blk_frozen BK187.out 1; have hfz79_2 := blk_frozen BK187.out 2; have hfz79_3 := blk_frozen BK187.out 3; have hfz79_4 := blk_frozen BK187.out 4))
                        go_ret
                        exact ⟨by first | rfl | (simp [errW_none, errW_some] <;> rfl) | (simp [*, errW_none, errW_some] <;> rfl), by repeat (first | (with_reducible first | exact HB.out | apply below_alloc | apply pw_below_drewN | apply below_drew1 | refine below_set ?_ GE187.out | refine below_set ?_ GE188.out | refine below_set ?_ GE191.out) | exact HB.out)⟩
                      · rw [if_neg c70] at H
                        have c70b0 : (a0_1 == 6) = false := beq_eq_false_iff_ne.mpr c70
                        have c70b1 : (a0_1 != 6) = true := bne_iff_ne.mpr c70
                        by_cases c80 : (a1_2.size : Int) ≥ (a0_4.size : Int)
                        · rw [if_pos c80] at H
                          have c80b0 : decide ((a0_4.size : Int) ≤ (a1_2.size : Int)) = true := decide_eq_true c80
                          have c80b1 : decide (a0_4.size ≤ a1_2.size) = true := decide_eq_true (Int.ofNat_le.mp c80)
                          clear c80
                          by_cases c81 : 0 ≤ (a0_4.size : Int)
                          · rw [if_pos c81] at H
                            have c81b0 := eq_true c81
                            have c81b1 : decide (0 ≤ (a0_4.size : Int)) = true := decide_eq_true c81
                            clear c81
                            by_cases c82 : (a0_4.size : Int) ≤ (a1_2.size : Int)
                            · rw [if_pos c82] at H
                              have c82b0 := eq_true c82
                              have c82b1 : decide ((a0_4.size : Int) ≤ (a1_2.size : Int)) = true := decide_eq_true c82
                              clear c82
                              obtain rfl := Option.some.inj H
                              have hnb83 := NB187_188.out
                              have hnc83 := NB188_187.out
                              have hcz84_0 : wc.cell? ⟨gb187, 0, none⟩ = some (.string a0_0) := (blk_cell BK187.out 0).trans rfl
                              have hcz84_1 : wc.cell? ⟨gb187, 1, none⟩ = some (.int .i64 a0_1) := (blk_cell BK187.out 1).trans rfl
                              have hcz84_2 : wc.cell? ⟨gb187, 2, none⟩ = some (.int .i64 a0_2) := (blk_cell BK187.out 2).trans rfl
                              have hcz84_3 : wc.cell? ⟨gb187, 3, none⟩ = some (.int .i64 a0_3) := (blk_cell BK187.out 3).trans rfl
                              have hcz84_4 : wc.cell? ⟨gb187, 4, none⟩ = some (.string a0_4) := (blk_cell BK187.out 4).trans rfl
                              have hfz84_0 := blk_frozen BK187.out 0
                              have hfz84_1 := blk_frozen BK187.out 1
                              have hfz84_2 := blk_frozen BK187.out 2
                              have hfz84_3 := blk_frozen BK187.out 3
                              have hfz84_4 := blk_frozen BK187.out 4
                              go_wp2_with (first | ((with_reducible refine gate_dst (N := 7) rfl ?_); (try (refine gate_guard (by rfl) ?_; dsimp only)); refine box_event ?hg (N := 7) ?hd (cs := #[.int .i64 0, .int .i64 0, .string (⟨#[]⟩ : ByteArray)]) (t := 23) ?hr ?_; (case hd => rfl); (case hg => rfl); (case hr => first | (go_simp; done) | (go_simp; rfl)); intro gb191 hg w85 hbox hb; have n0_ := Aside0.mk (blk_below (g := gb187) (o := .cells #[.string a0_0, .int .i64 a0_1, .int .i64 a0_2, .int .i64 a0_3, .string a0_4] 25 (0, 0)) (by (with_reducible repeat (first | refine blk_drewN ?_ _ | refine blk_drew ?_ | refine blk_alloc ?_ _)); exact BK187.out) hb); have n1_ := Aside0.mk (blk_below (g := gb188) (o := .cells #[.int .i64 a1_0, .int .i64 a1_1, .string a1_2] 23 (0, 0)) (by (with_reducible repeat (first | refine blk_drewN ?_ _ | refine blk_drew ?_ | refine blk_alloc ?_ _)); exact BK188.out) hb); have n2_ := Aside0.mk (below_step (by repeat (first | (with_reducible first | exact HB.out | apply below_alloc | apply pw_below_drewN | apply below_drew1 | refine below_set ?_ GE187.out | refine below_set ?_ GE188.out) | exact HB.out)) hb); have n3_ := Aside0.mk (hbox); have n4_ := Aside0.mk ((by rw [hg]; exact (below_size (by repeat (first | (with_reducible first | exact HB.out | apply below_alloc | apply pw_below_drewN | apply below_drew1 | refine below_set ?_ GE187.out | refine below_set ?_ GE188.out) | exact HB.out))) : w.heap.size ≤ gb191)); have n5_ := Aside0.mk ((by rw [hg]; exact (below_size (by repeat (first | (with_reducible first | exact HB.out | apply below_alloc | apply pw_below_drewN | apply below_drew1 | refine below_set ?_ GE187.out | refine below_set ?_ GE188.out) | exact HB.out))) : w.heap.size ≤ gb191)); have n6_ := Aside0.mk ((by rw [hg]; exact Nat.ne_of_lt (blk_lt (g := gb187) (o := .cells #[.string a0_0, .int .i64 a0_1, .int .i64 a0_2, .int .i64 a0_3, .string a0_4] 25 (0, 0)) (by (with_reducible repeat (first | refine blk_drewN ?_ _ | refine blk_drew ?_ | refine blk_alloc ?_ _)); exact BK187.out)) : gb187 ≠ gb191)); have n7_ := Aside0.mk ((by rw [hg]; exact Nat.ne_of_gt (blk_lt (g := gb187) (o := .cells #[.string a0_0, .int .i64 a0_1, .int .i64 a0_2, .int .i64 a0_3, .string a0_4] 25 (0, 0)) (by (with_reducible repeat (first | refine blk_drewN ?_ _ | refine blk_drew ?_ | refine blk_alloc ?_ _)); exact BK187.out)) : gb191 ≠ gb187)); have n8_ := Aside0.mk ((by rw [hg]; exact Nat.ne_of_lt (blk_lt (g := gb188) (o := .cells #[.int .i64 a1_0, .int .i64 a1_1, .string a1_2] 23 (0, 0)) (by (with_reducible repeat (first | refine blk_drewN ?_ _ | refine blk_drew ?_ | refine blk_alloc ?_ _)); exact BK188.out)) : gb188 ≠ gb191)); have n9_ := Aside0.mk ((by rw [hg]; exact Nat.ne_of_gt (blk_lt (g := gb188) (o := .cells #[.int .i64 a1_0, .int .i64 a1_1, .string a1_2] 23 (0, 0)) (by (with_reducible repeat (first | refine blk_drewN ?_ _ | refine blk_drew ?_ | refine blk_alloc ?_ _)); exact BK188.out)) : gb191 ≠ gb188)); clear BK187; clear BK188; clear HB; have BK187 := n0_; have BK188 := n1_; have HB := n2_; have BK191 := n3_; have GW191 := n4_; have GE191 := n5_; have NB187_191 := n6_; have NB191_187 := n7_; have NB188_191 := n8_; have NB191_188 := n9_; clear n0_ n1_ n2_ n3_ n4_ n5_ n6_ n7_ n8_ n9_; clear hb hbox hg; have hnb86 := NB191_187.out; have hnc86 := NB187_191.out; have hnb87 := NB191_188.out; have hnc87 := NB188_191.out; have hcz88_0 : w85.cell? ⟨gb191, 0, none⟩ = some (.int .i64 0) := (blk_cell BK191.out 0).trans rfl; have hcz88_1 : w85.cell? ⟨gb191, 1, none⟩ = some (.int .i64 0) := (blk_cell BK191.out 1).trans rfl; have hcz88_2 : w85.cell? ⟨gb191, 2, none⟩ = some (.string (⟨#[]⟩ : ByteArray)) := (blk_cell BK191.out 2).trans rfl; have hfz88_0 := blk_frozen BK191.out 0; have hfz88_1 := blk_frozen BK191.out 1; have hfz88_2 := blk_frozen BK191.out 2; have hcz89_0 : w85.cell? ⟨gb188, 0, none⟩ = some (.int .i64 a1_0) := (blk_cell BK188.out 0).trans rfl; have hcz89_1 : w85.cell? ⟨gb188, 1, none⟩ = some (.int .i64 a1_1) := (blk_cell BK188.out 1).trans rfl; have hcz89_2 : w85.cell? ⟨gb188, 2, none⟩ = some (.string a1_2) := (blk_cell BK188.out 2).trans rfl; have hfz89_0 := blk_frozen BK188.out 0; have hfz89_1 := blk_frozen BK188.out 1; have hfz89_2 := blk_frozen BK188.out 2) | (go_at_call 28; (with_reducible refine (rosetteref04_Compare.calls kj4 a1_0 a1_1 a1_2 a0_2 a0_3 a0_4 t192 _ A19.out).mono ?_); rintro e w90 ⟨rfl, hb⟩; have n0_ := Aside0.mk (blk_below (g := gb187) (o := .cells #[.string a0_0, .int .i64 a0_1, .int .i64 a0_2, .int .i64 a0_3, .string a0_4] 25 (0, 0)) (by (with_reducible repeat (first | refine blk_drewN ?_ _ | refine blk_drew ?_ | refine blk_alloc ?_ _)); refine blk_far ?_ NB187_191.out _; (with_reducible repeat (first | refine blk_drewN ?_ _ | refine blk_drew ?_ | refine blk_alloc ?_ _)); refine blk_far ?_ NB187_191.out _; (with_reducible repeat (first | refine blk_drewN ?_ _ | refine blk_drew ?_ | refine blk_alloc ?_ _)); refine blk_far ?_ NB187_191.out _; (with_reducible repeat (first | refine blk_drewN ?_ _ | refine blk_drew ?_ | refine blk_alloc ?_ _)); exact BK187.out) hb); have n1_ := Aside0.mk (blk_below (g := gb188) (o := .cells #[.int .i64 a1_0, .int .i64 a1_1, .string a1_2] 23 (0, 0)) (by (with_reducible repeat (first | refine blk_drewN ?_ _ | refine blk_drew ?_ | refine blk_alloc ?_ _)); refine blk_far ?_ NB188_191.out _; (with_reducible repeat (first | refine blk_drewN ?_ _ | refine blk_drew ?_ | refine blk_alloc ?_ _)); refine blk_far ?_ NB188_191.out _; (with_reducible repeat (first | refine blk_drewN ?_ _ | refine blk_drew ?_ | refine blk_alloc ?_ _)); refine blk_far ?_ NB188_191.out _; (with_reducible repeat (first | refine blk_drewN ?_ _ | refine blk_drew ?_ | refine blk_alloc ?_ _)); exact BK188.out) hb); have n2_ := Aside0.mk (blk_below (g := gb191) (o := .cells #[.int .i64 a0_2, .int .i64 a0_3, .string a0_4] 23 (0, 0)) (by (with_reducible repeat (first | refine blk_drewN ?_ _ | refine blk_drew ?_ | refine blk_alloc ?_ _)); refine blk_put (cs := #[.int .i64 a0_2, .int .i64 a0_3, .string (⟨#[]⟩ : ByteArray)]) ?_ 2 _ rfl; (with_reducible repeat (first | refine blk_drewN ?_ _ | refine blk_drew ?_ | refine blk_alloc ?_ _)); refine blk_put (cs := #[.int .i64 a0_2, .int .i64 0, .string (⟨#[]⟩ : ByteArray)]) ?_ 1 _ rfl; (with_reducible repeat (first | refine blk_drewN ?_ _ | refine blk_drew ?_ | refine blk_alloc ?_ _)); refine blk_put (cs := #[.int .i64 0, .int .i64 0, .string (⟨#[]⟩ : ByteArray)]) ?_ 0 _ rfl; (with_reducible repeat (first | refine blk_drewN ?_ _ | refine blk_drew ?_ | refine blk_alloc ?_ _)); exact BK191.out) hb); have n3_ := Aside0.mk (below_step (by repeat (first | (with_reducible first | exact HB.out | apply below_alloc | apply pw_below_drewN | apply below_drew1 | refine below_set ?_ GE187.out | refine below_set ?_ GE188.out | refine below_set ?_ GE191.out) | exact HB.out)) hb); clear BK187; clear BK188; clear BK191; clear HB; have BK187 := n0_; have BK188 := n1_; have BK191 := n2_; have HB := n3_; clear n0_ n1_ n2_ n3_; (try clear hb); (try clear hb2); (try clear hk); (try clear hi); have hcz91_0 : w90.cell? ⟨gb187, 0, none⟩ = some (.string a0_0) := (blk_cell BK187.out 0).trans rfl; have hcz91_1 : w90.cell? ⟨gb187, 1, none⟩ = some (.int .i64 a0_1) := (blk_cell BK187.out 1).trans rfl; have hcz91_2 : w90.cell? ⟨gb187, 2, none⟩ = some (.int .i64 a0_2) := (blk_cell BK187.out 2).trans rfl; have hcz91_3 : w90.cell? ⟨gb187, 3, none⟩ = some (.int .i64 a0_3) := (blk_cell BK187.out 3).trans rfl; have hcz91_4 : w90.cell? ⟨gb187, 4, none⟩ = some (.string a0_4) := (blk_cell BK187.out 4).trans rfl; have hfz91_0 := blk_frozen BK187.out 0; have hfz91_1 := blk_frozen BK187.out 1; have hfz91_2 := blk_frozen BK187.out 2; have hfz91_3 := blk_frozen BK187.out 3; have hfz91_4 := blk_frozen BK187.out 4; have hcz92_0 : w90.cell? ⟨gb188, 0, none⟩ = some (.int .i64 a1_0) := (blk_cell BK188.out 0).trans rfl; have hcz92_1 : w90.cell? ⟨gb188, 1, none⟩ = some (.int .i64 a1_1) := (blk_cell BK188.out 1).trans rfl; have hcz92_2 : w90.cell? ⟨gb188, 2, none⟩ = some (.string a1_2) := (blk_cell BK188.out 2).trans rfl; have hfz92_0 := blk_frozen BK188.out 0; have hfz92_1 := blk_frozen BK188.out 1; have hfz92_2 := blk_frozen BK188.out 2; have hcz93_0 : w90.cell? ⟨gb191, 0, none⟩ = some (.int .i64 a0_2) := (blk_cell BK191.out 0).trans rfl; have hcz93_1 : w90.cell? ⟨gb191, 1, none⟩ = some (.int .i64 a0_3) := (blk_cell BK191.out 1).trans rfl; have hcz93_2 : w90.cell? ⟨gb191, 2, none⟩ = some (.string a0_4) := (blk_cell BK191.out 2).trans rfl; have hfz93_0 := blk_frozen BK191.out 0; have hfz93_1 := blk_frozen BK191.out 1; have hfz93_2 := blk_frozen BK191.out 2))
                              repeat (go_quiet (first | ((with_reducible refine gate_dst (N := 7) rfl ?_); (try (refine gate_guard (by rfl) ?_; dsimp only)); refine box_event ?hg (N := 7) ?hd (cs := #[.int .i64 0, .int .i64 0, .string (⟨#[]⟩ : ByteArray)]) (t := 23) ?hr ?_; (case hd => rfl); (case hg => rfl); (case hr => first | (go_simp; done) | (go_simp; rfl)); intro gb191 hg w85 hbox hb; have n0_ := Aside0.mk (blk_below (g := gb187) (o := .cells #[.string a0_0, .int .i64 a0_1, .int .i64 a0_2, .int .i64 a0_3, .string a0_4] 25 (0, 0)) (by (with_reducible repeat (first | refine blk_drewN ?_ _ | refine blk_drew ?_ | refine blk_alloc ?_ _)); exact BK187.out) hb); have n1_ := Aside0.mk (blk_below (g := gb188) (o := .cells #[.int .i64 a1_0, .int .i64 a1_1, .string a1_2] 23 (0, 0)) (by (with_reducible repeat (first | refine blk_drewN ?_ _ | refine blk_drew ?_ | refine blk_alloc ?_ _)); exact BK188.out) hb); have n2_ := Aside0.mk (below_step (by repeat (first | (with_reducible first | exact HB.out | apply below_alloc | apply pw_below_drewN | apply below_drew1 | refine below_set ?_ GE187.out | refine below_set ?_ GE188.out) | exact HB.out)) hb); have n3_ := Aside0.mk (hbox); have n4_ := Aside0.mk ((by rw [hg]; exact (below_size (by repeat (first | (with_reducible first | exact HB.out | apply below_alloc | apply pw_below_drewN | apply below_drew1 | refine below_set ?_ GE187.out | refine below_set ?_ GE188.out) | exact HB.out))) : w.heap.size ≤ gb191)); have n5_ := Aside0.mk ((by rw [hg]; exact (below_size (by repeat (first | (with_reducible first | exact HB.out | apply below_alloc | apply pw_below_drewN | apply below_drew1 | refine below_set ?_ GE187.out | refine below_set ?_ GE188.out) | exact HB.out))) : w.heap.size ≤ gb191)); have n6_ := Aside0.mk ((by rw [hg]; exact Nat.ne_of_lt (blk_lt (g := gb187) (o := .cells #[.string a0_0, .int .i64 a0_1, .int .i64 a0_2, .int .i64 a0_3, .string a0_4] 25 (0, 0)) (by (with_reducible repeat (first | refine blk_drewN ?_ _ | refine blk_drew ?_ | refine blk_alloc ?_ _)); exact BK187.out)) : gb187 ≠ gb191)); have n7_ := Aside0.mk ((by rw [hg]; exact Nat.ne_of_gt (blk_lt (g := gb187) (o := .cells #[.string a0_0, .int .i64 a0_1, .int .i64 a0_2, .int .i64 a0_3, .string a0_4] 25 (0, 0)) (by (with_reducible repeat (first | refine blk_drewN ?_ _ | refine blk_drew ?_ | refine blk_alloc ?_ _)); exact BK187.out)) : gb191 ≠ gb187)); have n8_ := Aside0.mk ((by rw [hg]; exact Nat.ne_of_lt (blk_lt (g := gb188) (o := .cells #[.int .i64 a1_0, .int .i64 a1_1, .string a1_2] 23 (0, 0)) (by (with_reducible repeat (first | refine blk_drewN ?_ _ | refine blk_drew ?_ | refine blk_alloc ?_ _)); exact BK188.out)) : gb188 ≠ gb191)); have n9_ := Aside0.mk ((by rw [hg]; exact Nat.ne_of_gt (blk_lt (g := gb188) (o := .cells #[.int .i64 a1_0, .int .i64 a1_1, .string a1_2] 23 (0, 0)) (by (with_reducible repeat (first | refine blk_drewN ?_ _ | refine blk_drew ?_ | refine blk_alloc ?_ _)); exact BK188.out)) : gb191 ≠ gb188)); clear BK187; clear BK188; clear HB; have BK187 := n0_; have BK188 := n1_; have HB := n2_; have BK191 := n3_; have GW191 := n4_; have GE191 := n5_; have NB187_191 := n6_; have NB191_187 := n7_; have NB188_191 := n8_; have NB191_188 := n9_; clear n0_ n1_ n2_ n3_ n4_ n5_ n6_ n7_ n8_ n9_; clear hb hbox hg; have hnb86 := NB191_187.out; have hnc86 := NB187_191.out; have hnb87 := NB191_188.out; have hnc87 := NB188_191.out; have hcz88_0 : w85.cell? ⟨gb191, 0, none⟩ = some (.int .i64 0) := (blk_cell BK191.out 0).trans rfl; have hcz88_1 : w85.cell? ⟨gb191, 1, none⟩ = some (.int .i64 0) := (blk_cell BK191.out 1).trans rfl; have hcz88_2 : w85.cell? ⟨gb191, 2, none⟩ = some (.string (⟨#[]⟩ : ByteArray)) := (blk_cell BK191.out 2).trans rfl; have hfz88_0 := blk_frozen BK191.out 0; have hfz88_1 := blk_frozen BK191.out 1; have hfz88_2 := blk_frozen BK191.out 2; have hcz89_0 : w85.cell? ⟨gb188, 0, none⟩ = some (.int .i64 a1_0) := (blk_cell BK188.out 0).trans rfl; have hcz89_1 : w85.cell? ⟨gb188, 1, none⟩ = some (.int .i64 a1_1) := (blk_cell BK188.out 1).trans rfl; have hcz89_2 : w85.cell? ⟨gb188, 2, none⟩ = some (.string a1_2) := (blk_cell BK188.out 2).trans rfl; have hfz89_0 := blk_frozen BK188.out 0; have hfz89_1 := blk_frozen BK188.out 1; have hfz89_2 := blk_frozen BK188.out 2) | (go_at_call 28; (with_reducible refine (rosetteref04_Compare.calls kj4 a1_0 a1_1 a1_2 a0_2 a0_3 a0_4 t192 _ A19.out).mono ?_); rintro e w90 ⟨rfl, hb⟩; have n0_ := Aside0.mk (blk_below (g := gb187) (o := .cells #[.string a0_0, .int .i64 a0_1, .int .i64 a0_2, .int .i64 a0_3, .string a0_4] 25 (0, 0)) (by (with_reducible repeat (first | refine blk_drewN ?_ _ | refine blk_drew ?_ | refine blk_alloc ?_ _)); refine blk_far ?_ NB187_191.out _; (with_reducible repeat (first | refine blk_drewN ?_ _ | refine blk_drew ?_ | refine blk_alloc ?_ _)); refine blk_far ?_ NB187_191.out _; (with_reducible repeat (first | refine blk_drewN ?_ _ | refine blk_drew ?_ | refine blk_alloc ?_ _)); refine blk_far ?_ NB187_191.out _; (with_reducible repeat (first | refine blk_drewN ?_ _ | refine blk_drew ?_ | refine blk_alloc ?_ _)); exact BK187.out) hb); have n1_ := Aside0.mk (blk_below (g := gb188) (o := .cells #[.int .i64 a1_0, .int .i64 a1_1, .string a1_2] 23 (0, 0)) (by (with_reducible repeat (first | refine blk_drewN ?_ _ | refine blk_drew ?_ | refine blk_alloc ?_ _)); refine blk_far ?_ NB188_191.out _; (with_reducible repeat (first | refine blk_drewN ?_ _ | refine blk_drew ?_ | refine blk_alloc ?_ _)); refine blk_far ?_ NB188_191.out _; (with_reducible repeat (first | refine blk_drewN ?_ _ | refine blk_drew ?_ | refine blk_alloc ?_ _)); refine blk_far ?_ NB188_191.out _; (with_reducible repeat (first | refine blk_drewN ?_ _ | refine blk_drew ?_ | refine blk_alloc ?_ _)); exact BK188.out) hb); have n2_ := Aside0.mk (blk_below (g := gb191) (o := .cells #[.int .i64 a0_2, .int .i64 a0_3, .string a0_4] 23 (0, 0)) (by (with_reducible repeat (first | refine blk_drewN ?_ _ | refine blk_drew ?_ | refine blk_alloc ?_ _)); refine blk_put (cs := #[.int .i64 a0_2, .int .i64 a0_3, .string (⟨#[]⟩ : ByteArray)]) ?_ 2 _ rfl; (with_reducible repeat (first | refine blk_drewN ?_ _ | refine blk_drew ?_ | refine blk_alloc ?_ _)); refine blk_put (cs := #[.int .i64 a0_2, .int .i64 0, .string (⟨#[]⟩ : ByteArray)]) ?_ 1 _ rfl; (with_reducible repeat (first | refine blk_drewN ?_ _ | refine blk_drew ?_ | refine blk_alloc ?_ _)); refine blk_put (cs := #[.int .i64 0, .int .i64 0, .string (⟨#[]⟩ : ByteArray)]) ?_ 0 _ rfl; (with_reducible repeat (first | refine blk_drewN ?_ _ | refine blk_drew ?_ | refine blk_alloc ?_ _)); exact BK191.out) hb); have n3_ := Aside0.mk (below_step (by repeat (first | (with_reducible first | exact HB.out | apply below_alloc | apply pw_below_drewN | apply below_drew1 | refine below_set ?_ GE187.out | refine below_set ?_ GE188.out | refine below_set ?_ GE191.out) | exact HB.out)) hb); clear BK187; clear BK188; clear BK191; clear HB; have BK187 := n0_; have BK188 := n1_; have BK191 := n2_; have HB := n3_; clear n0_ n1_ n2_ n3_; (try clear hb); (try clear hb2); (try clear hk); (try clear hi); have hcz91_0 : w90.cell? ⟨gb187, 0, none⟩ = some (.string a0_0) := (blk_cell BK187.out 0).trans rfl; have hcz91_1 : w90.cell? ⟨gb187, 1, none⟩ = some (.int .i64 a0_1) := (blk_cell BK187.out 1).trans rfl; have hcz91_2 : w90.cell? ⟨gb187, 2, none⟩ = some (.int .i64 a0_2) := (blk_cell BK187.out 2).trans rfl; have hcz91_3 : w90.cell? ⟨gb187, 3, none⟩ = some (.int .i64 a0_3) := (blk_cell BK187.out 3).trans rfl; have hcz91_4 : w90.cell? ⟨gb187, 4, none⟩ = some (.string a0_4) := (blk_cell BK187.out 4).trans rfl; have hfz91_0 := blk_frozen BK187.out 0; have hfz91_1 := blk_frozen BK187.out 1; have hfz91_2 := blk_frozen BK187.out 2; have hfz91_3 := blk_frozen BK187.out 3; have hfz91_4 := blk_frozen BK187.out 4; have hcz92_0 : w90.cell? ⟨gb188, 0, none⟩ = some (.int .i64 a1_0) := (blk_cell BK188.out 0).trans rfl; have hcz92_1 : w90.cell? ⟨gb188, 1, none⟩ = some (.int .i64 a1_1) := (blk_cell BK188.out 1).trans rfl; have hcz92_2 : w90.cell? ⟨gb188, 2, none⟩ = some (.string a1_2) := (blk_cell BK188.out 2).trans rfl; have hfz92_0 := blk_frozen BK188.out 0; have hfz92_1 := blk_frozen BK188.out 1; have hfz92_2 := blk_frozen BK188.out 2; have hcz93_0 : w90.cell? ⟨gb191, 0, none⟩ = some (.int .i64 a0_2) := (blk_cell BK191.out 0).trans rfl; have hcz93_1 : w90.cell? ⟨gb191, 1, none⟩ = some (.int .i64 a0_3) := (blk_cell BK191.out 1).trans rfl; have hcz93_2 : w90.cell? ⟨gb191, 2, none⟩ = some (.string a0_4) := (blk_cell BK191.out 2).trans rfl; have hfz93_0 := blk_frozen BK191.out 0; have hfz93_1 := blk_frozen BK191.out 1; have hfz93_2 := blk_frozen BK191.out 2)); try go_wp2_with (first | (go_at_call 28; (with_reducible refine (rosetteref04_Compare.calls kj4 a1_0 a1_1 a1_2 a0_2 a0_3 a0_4 t192 _ A19.out).mono ?_); rintro e w90 ⟨rfl, hb⟩; have n0_ := Aside0.mk (blk_below (g := gb187) (o := .cells #[.string a0_0, .int .i64 a0_1, .int .i64 a0_2, .int .i64 a0_3, .string a0_4] 25 (0, 0)) (by (with_reducible repeat (first | refine blk_drewN ?_ _ | refine blk_drew ?_ | refine blk_alloc ?_ _)); refine blk_far ?_ NB187_191.out _; (with_reducible repeat (first | refine blk_drewN ?_ _ | refine blk_drew ?_ | refine blk_alloc ?_ _)); refine blk_far ?_ NB187_191.out _; (with_reducible repeat (first | refine blk_drewN ?_ _ | refine blk_drew ?_ | refine blk_alloc ?_ _)); refine blk_far ?_ NB187_191.out _; (with_reducible repeat (first | refine blk_drewN ?_ _ | refine blk_drew ?_ | refine blk_alloc ?_ _)); exact BK187.out) hb); have n1_ := Aside0.mk (blk_below (g := gb188) (o := .cells #[.int .i64 a1_0, .int .i64 a1_1, .string a1_2] 23 (0, 0)) (by (with_reducible repeat (first | refine blk_drewN ?_ _ | refine blk_drew ?_ | refine blk_alloc ?_ _)); refine blk_far ?_ NB188_191.out _; (with_reducible repeat (first | refine blk_drewN ?_ _ | refine blk_drew ?_ | refine blk_alloc ?_ _)); refine blk_far ?_ NB188_191.out _; (with_reducible repeat (first | refine blk_drewN ?_ _ | refine blk_drew ?_ | refine blk_alloc ?_ _)); refine blk_far ?_ NB188_191.out _; (with_reducible repeat (first | refine blk_drewN ?_ _ | refine blk_drew ?_ | refine blk_alloc ?_ _)); exact BK188.out) hb); have n2_ := Aside0.mk (blk_below (g := gb191) (o := .cells #[.int .i64 a0_2, .int .i64 a0_3, .string a0_4] 23 (0, 0)) (by (with_reducible repeat (first | refine blk_drewN ?_ _ | refine blk_drew ?_ | refine blk_alloc ?_ _)); refine blk_put (cs := #[.int .i64 a0_2, .int .i64 a0_3, .string (⟨#[]⟩ : ByteArray)]) ?_ 2 _ rfl; (with_reducible repeat (first | refine blk_drewN ?_ _ | refine blk_drew ?_ | refine blk_alloc ?_ _)); refine blk_put (cs := #[.int .i64 a0_2, .int .i64 0, .string (⟨#[]⟩ : ByteArray)]) ?_ 1 _ rfl; (with_reducible repeat (first | refine blk_drewN ?_ _ | refine blk_drew ?_ | refine blk_alloc ?_ _)); refine blk_put (cs := #[.int .i64 0, .int .i64 0, .string (⟨#[]⟩ : ByteArray)]) ?_ 0 _ rfl; (with_reducible repeat (first | refine blk_drewN ?_ _ | refine blk_drew ?_ | refine blk_alloc ?_ _)); exact BK191.out) hb); have n3_ := Aside0.mk (below_step (by repeat (first | (with_reducible first | exact HB.out | apply below_alloc | apply pw_below_drewN | apply below_drew1 | refine below_set ?_ GE187.out | refine below_set ?_ GE188.out | refine below_set ?_ GE191.out) | exact HB.out)) hb); clear BK187; clear BK188; clear BK191; clear HB; have BK187 := n0_; have BK188 := n1_; have BK191 := n2_; have HB := n3_; clear n0_ n1_ n2_ n3_; (try clear hb); (try clear hb2); (try clear hk); (try clear hi); have hcz91_0 : w90.cell? ⟨gb187, 0, none⟩ = some (.string a0_0) := (blk_cell BK187.out 0).trans rfl; have hcz91_1 : w90.cell? ⟨gb187, 1, none⟩ = some (.int .i64 a0_1) := (blk_cell BK187.out 1).trans rfl; have hcz91_2 : w90.cell? ⟨gb187, 2, none⟩ = some (.int .i64 a0_2) := (blk_cell BK187.out 2).trans rfl; have hcz91_3 : w90.cell? ⟨gb187, 3, none⟩ = some (.int .i64 a0_3) := (blk_cell BK187.out 3).trans rfl; have hcz91_4 : w90.cell? ⟨gb187, 4, none⟩ = some (.string a0_4) := (blk_cell BK187.out 4).trans rfl; have hfz91_0 := blk_frozen BK187.out 0; have hfz91_1 := blk_frozen BK187.out 1; have hfz91_2 := blk_frozen BK187.out 2; have hfz91_3 := blk_frozen BK187.out 3; have hfz91_4 := blk_frozen BK187.out 4; have hcz92_0 : w90.cell? ⟨gb188, 0, none⟩ = some (.int .i64 a1_0) := (blk_cell BK188.out 0).trans rfl; have hcz92_1 : w90.cell? ⟨gb188, 1, none⟩ = some (.int .i64 a1_1) := (blk_cell BK188.out 1).trans rfl; have hcz92_2 : w90.cell? ⟨gb188, 2, none⟩ = some (.string a1_2) := (blk_cell BK188.out 2).trans rfl; have hfz92_0 := blk_frozen BK188.out 0; have hfz92_1 := blk_frozen BK188.out 1; have hfz92_2 := blk_frozen BK188.out 2; have hcz93_0 : w90.cell? ⟨gb191, 0, none⟩ = some (.int .i64 a0_2) := (blk_cell BK191.out 0).trans rfl; have hcz93_1 : w90.cell? ⟨gb191, 1, none⟩ = some (.int .i64 a0_3) := (blk_cell BK191.out 1).trans rfl; have hcz93_2 : w90.cell? ⟨gb191, 2, none⟩ = some (.string a0_4) := (blk_cell BK191.out 2).trans rfl; have hfz93_0 := blk_frozen BK191.out 0; have hfz93_1 := blk_frozen BK191.out 1; have hfz93_2 := blk_frozen BK191.out 2)))
                              go_ret
                              exact ⟨by first | rfl | (simp [errW_none, errW_some] <;> rfl) | (simp [*, errW_none, errW_some] <;> rfl), by repeat (first | (with_reducible first | exact HB.out | apply below_alloc | apply pw_below_drewN | apply below_drew1 | refine below_set ?_ GE187.out | refine below_set ?_ GE188.out | refine below_set ?_ GE191.out) | exact HB.out)⟩
                            · rw [if_neg c82] at H
                              exact absurd H (by simp)
                          · rw [if_neg c81] at H
                            exact absurd H (by simp)
                        · rw [if_neg c80] at H
                          have c80b0 : decide ((a0_4.size : Int) ≤ (a1_2.size : Int)) = false := decide_eq_false c80
                          have c80b1 : decide (a0_4.size ≤ a1_2.size) = false := decide_eq_false (fun h => c80 (Int.ofNat_le.mpr h))
                          clear c80
                          obtain rfl := Option.some.inj H
                          have hnb94 := NB187_188.out
                          have hnc94 := NB188_187.out
                          have hcz95_0 : wc.cell? ⟨gb187, 0, none⟩ = some (.string a0_0) := (blk_cell BK187.out 0).trans rfl
                          have hcz95_1 : wc.cell? ⟨gb187, 1, none⟩ = some (.int .i64 a0_1) := (blk_cell BK187.out 1).trans rfl
                          have hcz95_2 : wc.cell? ⟨gb187, 2, none⟩ = some (.int .i64 a0_2) := (blk_cell BK187.out 2).trans rfl
                          have hcz95_3 : wc.cell? ⟨gb187, 3, none⟩ = some (.int .i64 a0_3) := (blk_cell BK187.out 3).trans rfl
                          have hcz95_4 : wc.cell? ⟨gb187, 4, none⟩ = some (.string a0_4) := (blk_cell BK187.out 4).trans rfl
                          have hfz95_0 := blk_frozen BK187.out 0
                          have hfz95_1 := blk_frozen BK187.out 1
                          have hfz95_2 := blk_frozen BK187.out 2
                          have hfz95_3 := blk_frozen BK187.out 3
                          have hfz95_4 := blk_frozen BK187.out 4
                          go_wp2_with (first | ((with_reducible refine gate_dst (N := 7) rfl ?_); (try (refine gate_guard (by rfl) ?_; dsimp only)); refine box_event ?hg (N := 7) ?hd (cs := #[.int .i64 0, .int .i64 0, .string (⟨#[]⟩ : ByteArray)]) (t := 23) ?hr ?_; (case hd => rfl); (case hg => rfl); (case hr => first | (go_simp; done) | (go_simp; rfl)); intro gb191 hg w96 hbox hb; have n0_ := Aside0.mk (blk_below (g := gb187) (o := .cells #[.string a0_0, .int .i64 a0_1, .int .i64 a0_2, .int .i64 a0_3, .string a0_4] 25 (0, 0)) (by (with_reducible repeat (first | refine blk_drewN ?_ _ | refine blk_drew ?_ | refine blk_alloc ?_ _)); exact BK187.out) hb); have n1_ := Aside0.mk (blk_below (g := gb188) (o := .cells #[.int .i64 a1_0, .int .i64 a1_1, .string a1_2] 23 (0, 0)) (by (with_reducible repeat (first | refine blk_drewN ?_ _ | refine blk_drew ?_ | refine blk_alloc ?_ _)); exact BK188.out) hb); have n2_ := Aside0.mk (below_step (by repeat (first | (with_reducible first | exact HB.out | apply below_alloc | apply pw_below_drewN | apply below_drew1 | refine below_set ?_ GE187.out | refine below_set ?_ GE188.out) | exact HB.out)) hb); have n3_ := Aside0.mk (hbox); have n4_ := Aside0.mk ((by rw [hg]; exact (below_size (by repeat (first | (with_reducible first | exact HB.out | apply below_alloc | apply pw_below_drewN | apply below_drew1 | refine below_set ?_ GE187.out | refine below_set ?_ GE188.out) | exact HB.out))) : w.heap.size ≤ gb191)); have n5_ := Aside0.mk ((by rw [hg]; exact (below_size (by repeat (first | (with_reducible first | exact HB.out | apply below_alloc | apply pw_below_drewN | apply below_drew1 | refine below_set ?_ GE187.out | refine below_set ?_ GE188.out) | exact HB.out))) : w.heap.size ≤ gb191)); have n6_ := Aside0.mk ((by rw [hg]; exact Nat.ne_of_lt (blk_lt (g := gb187) (o := .cells #[.string a0_0, .int .i64 a0_1, .int .i64 a0_2, .int .i64 a0_3, .string a0_4] 25 (0, 0)) (by (with_reducible repeat (first | refine blk_drewN ?_ _ | refine blk_drew ?_ | refine blk_alloc ?_ _)); exact BK187.out)) : gb187 ≠ gb191)); have n7_ := Aside0.mk ((by rw [hg]; exact Nat.ne_of_gt (blk_lt (g := gb187) (o := .cells #[.string a0_0, .int .i64 a0_1, .int .i64 a0_2, .int .i64 a0_3, .string a0_4] 25 (0, 0)) (by (with_reducible repeat (first | refine blk_drewN ?_ _ | refine blk_drew ?_ | refine blk_alloc ?_ _)); exact BK187.out)) : gb191 ≠ gb187)); have n8_ := Aside0.mk ((by rw [hg]; exact Nat.ne_of_lt (blk_lt (g := gb188) (o := .cells #[.int .i64 a1_0, .int .i64 a1_1, .string a1_2] 23 (0, 0)) (by (with_reducible repeat (first | refine blk_drewN ?_ _ | refine blk_drew ?_ | refine blk_alloc ?_ _)); exact BK188.out)) : gb188 ≠ gb191)); have n9_ := Aside0.mk ((by rw [hg]; exact Nat.ne_of_gt (blk_lt (g := gb188) (o := .cells #[.int .i64 a1_0, .int .i64 a1_1, .string a1_2] 23 (0, 0)) (by (with_reducible repeat (first | refine blk_drewN ?_ _ | refine blk_drew ?_ | refine blk_alloc ?_ _)); exact BK188.out)) : gb191 ≠ gb188)); clear BK187; clear BK188; clear HB; have BK187 := n0_; have BK188 := n1_; have HB := n2_; have BK191 := n3_; have GW191 := n4_; have GE191 := n5_; have NB187_191 := n6_; have NB191_187 := n7_; have NB188_191 := n8_; have NB191_188 := n9_; clear n0_ n1_ n2_ n3_ n4_ n5_ n6_ n7_ n8_ n9_; clear hb hbox hg; have hnb97 := NB191_187.out; have hnc97 := NB187_191.out; have hnb98 := NB191_188.out; have hnc98 := NB188_191.out; have hcz99_0 : w96.cell? ⟨gb191, 0, none⟩ = some (.int .i64 0) := (blk_cell BK191.out 0).trans rfl; have hcz99_1 : w96.cell? ⟨gb191, 1, none⟩ = some (.int .i64 0) := (blk_cell BK191.out 1).trans rfl; have hcz99_2 : w96.cell? ⟨gb191, 2, none⟩ = some (.string (⟨#[]⟩ : ByteArray)) := (blk_cell BK191.out 2).trans rfl; have hfz99_0 := blk_frozen BK191.out 0; have hfz99_1 := blk_frozen BK191.out 1; have hfz99_2 := blk_frozen BK191.out 2; have hcz100_0 : w96.cell? ⟨gb188, 0, none⟩ = some (.int .i64 a1_0) := (blk_cell BK188.out 0).trans rfl; have hcz100_1 : w96.cell? ⟨gb188, 1, none⟩ = some (.int .i64 a1_1) := (blk_cell BK188.out 1).trans rfl; have hcz100_2 : w96.cell? ⟨gb188, 2, none⟩ = some (.string a1_2) := (blk_cell BK188.out 2).trans rfl; have hfz100_0 := blk_frozen BK188.out 0; have hfz100_1 := blk_frozen BK188.out 1; have hfz100_2 := blk_frozen BK188.out 2) | (go_at_call 28; (with_reducible refine (rosetteref04_Compare.calls kj4 a1_0 a1_1 a1_2 a0_2 a0_3 a0_4 t192 _ A19.out).mono ?_); rintro e w101 ⟨rfl, hb⟩; have n0_ := Aside0.mk (blk_below (g := gb187) (o := .cells #[.string a0_0, .int .i64 a0_1, .int .i64 a0_2, .int .i64 a0_3, .string a0_4] 25 (0, 0)) (by (with_reducible repeat (first | refine blk_drewN ?_ _ | refine blk_drew ?_ | refine blk_alloc ?_ _)); refine blk_far ?_ NB187_191.out _; (with_reducible repeat (first | refine blk_drewN ?_ _ | refine blk_drew ?_ | refine blk_alloc ?_ _)); refine blk_far ?_ NB187_191.out _; (with_reducible repeat (first | refine blk_drewN ?_ _ | refine blk_drew ?_ | refine blk_alloc ?_ _)); refine blk_far ?_ NB187_191.out _; (with_reducible repeat (first | refine blk_drewN ?_ _ | refine blk_drew ?_ | refine blk_alloc ?_ _)); exact BK187.out) hb); have n1_ := Aside0.mk (blk_below (g := gb188) (o := .cells #[.int .i64 a1_0, .int .i64 a1_1, .string a1_2] 23 (0, 0)) (by (with_reducible repeat (first | refine blk_drewN ?_ _ | refine blk_drew ?_ | refine blk_alloc ?_ _)); refine blk_far ?_ NB188_191.out _; (with_reducible repeat (first | refine blk_drewN ?_ _ | refine blk_drew ?_ | refine blk_alloc ?_ _)); refine blk_far ?_ NB188_191.out _; (with_reducible repeat (first | refine blk_drewN ?_ _ | refine blk_drew ?_ | refine blk_alloc ?_ _)); refine blk_far ?_ NB188_191.out _; (with_reducible repeat (first | refine blk_drewN ?_ _ | refine blk_drew ?_ | refine blk_alloc ?_ _)); exact BK188.out) hb); have n2_ := Aside0.mk (blk_below (g := gb191) (o := .cells #[.int .i64 a0_2, .int .i64 a0_3, .string a0_4] 23 (0, 0)) (by (with_reducible repeat (first | refine blk_drewN ?_ _ | refine blk_drew ?_ | refine blk_alloc ?_ _)); refine blk_put (cs := #[.int .i64 a0_2, .int .i64 a0_3, .string (⟨#[]⟩ : ByteArray)]) ?_ 2 _ rfl; (with_reducible repeat (first | refine blk_drewN ?_ _ | refine blk_drew ?_ | refine blk_alloc ?_ _)); refine blk_put (cs := #[.int .i64 a0_2, .int .i64 0, .string (⟨#[]⟩ : ByteArray)]) ?_ 1 _ rfl; (with_reducible repeat (first | refine blk_drewN ?_ _ | refine blk_drew ?_ | refine blk_alloc ?_ _)); refine blk_put (cs := #[.int .i64 0, .int .i64 0, .string (⟨#[]⟩ : ByteArray)]) ?_ 0 _ rfl; (with_reducible repeat (first | refine blk_drewN ?_ _ | refine blk_drew ?_ | refine blk_alloc ?_ _)); exact BK191.out) hb); have n3_ := Aside0.mk (below_step (by repeat (first | (with_reducible first | exact HB.out | apply below_alloc | apply pw_below_drewN | apply below_drew1 | refine below_set ?_ GE187.out | refine below_set ?_ GE188.out | refine below_set ?_ GE191.out) | exact HB.out)) hb); clear BK187; clear BK188; clear BK191; clear HB; have BK187 := n0_; have BK188 := n1_; have BK191 := n2_; have HB := n3_; clear n0_ n1_ n2_ n3_; (try clear hb); (try clear hb2); (try clear hk); (try clear hi); have hcz102_0 : w101.cell? ⟨gb187, 0, none⟩ = some (.string a0_0) := (blk_cell BK187.out 0).trans rfl; have hcz102_1 : w101.cell? ⟨gb187, 1, none⟩ = some (.int .i64 a0_1) := (blk_cell BK187.out 1).trans rfl; have hcz102_2 : w101.cell? ⟨gb187, 2, none⟩ = some (.int .i64 a0_2) := (blk_cell BK187.out 2).trans rfl; have hcz102_3 : w101.cell? ⟨gb187, 3, none⟩ = some (.int .i64 a0_3) := (blk_cell BK187.out 3).trans rfl; have hcz102_4 : w101.cell? ⟨gb187, 4, none⟩ = some (.string a0_4) := (blk_cell BK187.out 4).trans rfl; have hfz102_0 := blk_frozen BK187.out 0; have hfz102_1 := blk_frozen BK187.out 1; have hfz102_2 := blk_frozen BK187.out 2; have hfz102_3 := blk_frozen BK187.out 3; have hfz102_4 := blk_frozen BK187.out 4; have hcz103_0 : w101.cell? ⟨gb188, 0, none⟩ = some (.int .i64 a1_0) := (blk_cell BK188.out 0).trans rfl; have hcz103_1 : w101.cell? ⟨gb188, 1, none⟩ = some (.int .i64 a1_1) := (blk_cell BK188.out 1).trans rfl; have hcz103_2 : w101.cell? ⟨gb188, 2, none⟩ = some (.string a1_2) := (blk_cell BK188.out 2).trans rfl; have hfz103_0 := blk_frozen BK188.out 0; have hfz103_1 := blk_frozen BK188.out 1; have hfz103_2 := blk_frozen BK188.out 2; have hcz104_0 : w101.cell? ⟨gb191, 0, none⟩ = some (.int .i64 a0_2) := (blk_cell BK191.out 0).trans rfl; have hcz104_1 : w101.cell? ⟨gb191, 1, none⟩ = some (.int .i64 a0_3) := (blk_cell BK191.out 1).trans rfl; have hcz104_2 : w101.cell? ⟨gb191, 2, none⟩ = some (.string a0_4) := (blk_cell BK191.out 2).trans rfl; have hfz104_0 := blk_frozen BK191.out 0; have hfz104_1 := blk_frozen BK191.out 1; have hfz104_2 := blk_frozen BK191.out 2))
                          repeat (go_quiet (first | ((with_reducible refine gate_dst (N := 7) rfl ?_); (try (refine gate_guard (by rfl) ?_; dsimp only)); refine box_event ?hg (N := 7) ?hd (cs := #[.int .i64 0, .int .i64 0, .string (⟨#[]⟩ : ByteArray)]) (t := 23) ?hr ?_; (case hd => rfl); (case hg => rfl); (case hr => first | (go_simp; done) | (go_simp; rfl)); intro gb191 hg w96 hbox hb; have n0_ := Aside0.mk (blk_below (g := gb187) (o := .cells #[.string a0_0, .int .i64 a0_1, .int .i64 a0_2, .int .i64 a0_3, .string a0_4] 25 (0, 0)) (by (with_reducible repeat (first | refine blk_drewN ?_ _ | refine blk_drew ?_ | refine blk_alloc ?_ _)); exact BK187.out) hb); have n1_ := Aside0.mk (blk_below (g := gb188) (o := .cells #[.int .i64 a1_0, .int .i64 a1_1, .string a1_2] 23 (0, 0)) (by (with_reducible repeat (first | refine blk_drewN ?_ _ | refine blk_drew ?_ | refine blk_alloc ?_ _)); exact BK188.out) hb); have n2_ := Aside0.mk (below_step (by repeat (first | (with_reducible first | exact HB.out | apply below_alloc | apply pw_below_drewN | apply below_drew1 | refine below_set ?_ GE187.out | refine below_set ?_ GE188.out) | exact HB.out)) hb); have n3_ := Aside0.mk (hbox); have n4_ := Aside0.mk ((by rw [hg]; exact (below_size (by repeat (first | (with_reducible first | exact HB.out | apply below_alloc | apply pw_below_drewN | apply below_drew1 | refine below_set ?_ GE187.out | refine below_set ?_ GE188.out) | exact HB.out))) : w.heap.size ≤ gb191)); have n5_ := Aside0.mk ((by rw [hg]; exact (below_size (by repeat (first | (with_reducible first | exact HB.out | apply below_alloc | apply pw_below_drewN | apply below_drew1 | refine below_set ?_ GE187.out | refine below_set ?_ GE188.out) | exact HB.out))) : w.heap.size ≤ gb191)); have n6_ := Aside0.mk ((by rw [hg]; exact Nat.ne_of_lt (blk_lt (g := gb187) (o := .cells #[.string a0_0, .int .i64 a0_1, .int .i64 a0_2, .int .i64 a0_3, .string a0_4] 25 (0, 0)) (by (with_reducible repeat (first | refine blk_drewN ?_ _ | refine blk_drew ?_ | refine blk_alloc ?_ _)); exact BK187.out)) : gb187 ≠ gb191)); have n7_ := Aside0.mk ((by rw [hg]; exact Nat.ne_of_gt (blk_lt (g := gb187) (o := .cells #[.string a0_0, .int .i64 a0_1, .int .i64 a0_2, .int .i64 a0_3, .string a0_4] 25 (0, 0)) (by (with_reducible repeat (first | refine blk_drewN ?_ _ | refine blk_drew ?_ | refine blk_alloc ?_ _)); exact BK187.out)) : gb191 ≠ gb187)); have n8_ := Aside0.mk ((by rw [hg]; exact Nat.ne_of_lt (blk_lt (g := gb188) (o := .cells #[.int .i64 a1_0, .int .i64 a1_1, .string a1_2] 23 (0, 0)) (by (with_reducible repeat (first | refine blk_drewN ?_ _ | refine blk_drew ?_ | refine blk_alloc ?_ _)); exact BK188.out)) : gb188 ≠ gb191)); have n9_ := Aside0.mk ((by rw [hg]; exact Nat.ne_of_gt (blk_lt (g := gb188) (o := .cells #[.int .i64 a1_0, .int .i64 a1_1, .string a1_2] 23 (0, 0)) (by (with_reducible repeat (first | refine blk_drewN ?_ _ | refine blk_drew ?_ | refine blk_alloc ?_ _)); exact BK188.out)) : gb191 ≠ gb188)); clear BK187; clear BK188; clear HB; have BK187 := n0_; have BK188 := n1_; have HB := n2_; have BK191 := n3_; have GW191 := n4_; have GE191 := n5_; have NB187_191 := n6_; have NB191_187 := n7_; have NB188_191 := n8_; have NB191_188 := n9_; clear n0_ n1_ n2_ n3_ n4_ n5_ n6_ n7_ n8_ n9_; clear hb hbox hg; have hnb97 := NB191_187.out; have hnc97 := NB187_191.out; have hnb98 := NB191_188.out; have hnc98 := NB188_191.out; have hcz99_0 : w96.cell? ⟨gb191, 0, none⟩ = some (.int .i64 0) := (blk_cell BK191.out 0).trans rfl; have hcz99_1 : w96.cell? ⟨gb191, 1, none⟩ = some (.int .i64 0) := (blk_cell BK191.out 1).trans rfl; have hcz99_2 : w96.cell? ⟨gb191, 2, none⟩ = some (.string (⟨#[]⟩ : ByteArray)) := (blk_cell BK191.out 2).trans rfl; have hfz99_0 := blk_frozen BK191.out 0; have hfz99_1 := blk_frozen BK191.out 1; have hfz99_2 := blk_frozen BK191.out 2; have hcz100_0 : w96.cell? ⟨gb188, 0, none⟩ = some (.int .i64 a1_0) := (blk_cell BK188.out 0).trans rfl; have hcz100_1 : w96.cell? ⟨gb188, 1, none⟩ = some (.int .i64 a1_1) := (blk_cell BK188.out 1).trans rfl; have hcz100_2 : w96.cell? ⟨gb188, 2, none⟩ = some (.string a1_2) := (blk_cell BK188.out 2).trans rfl; have hfz100_0 := blk_frozen BK188.out 0; have hfz100_1 := blk_frozen BK188.out 1; have hfz100_2 := blk_frozen BK188.out 2) | (go_at_call 28; (with_reducible refine (rosetteref04_Compare.calls kj4 a1_0 a1_1 a1_2 a0_2 a0_3 a0_4 t192 _ A19.out).mono ?_); rintro e w101 ⟨rfl, hb⟩; have n0_ := Aside0.mk (blk_below (g := gb187) (o := .cells #[.string a0_0, .int .i64 a0_1, .int .i64 a0_2, .int .i64 a0_3, .string a0_4] 25 (0, 0)) (by (with_reducible repeat (first | refine blk_drewN ?_ _ | refine blk_drew ?_ | refine blk_alloc ?_ _)); refine blk_far ?_ NB187_191.out _; (with_reducible repeat (first | refine blk_drewN ?_ _ | refine blk_drew ?_ | refine blk_alloc ?_ _)); refine blk_far ?_ NB187_191.out _; (with_reducible repeat (first | refine blk_drewN ?_ _ | refine blk_drew ?_ | refine blk_alloc ?_ _)); refine blk_far ?_ NB187_191.out _; (with_reducible repeat (first | refine blk_drewN ?_ _ | refine blk_drew ?_ | refine blk_alloc ?_ _)); exact BK187.out) hb); have n1_ := Aside0.mk (blk_below (g := gb188) (o := .cells #[.int .i64 a1_0, .int .i64 a1_1, .string a1_2] 23 (0, 0)) (by (with_reducible repeat (first | refine blk_drewN ?_ _ | refine blk_drew ?_ | refine blk_alloc ?_ _)); refine blk_far ?_ NB188_191.out _; (with_reducible repeat (first | refine blk_drewN ?_ _ | refine blk_drew ?_ | refine blk_alloc ?_ _)); refine blk_far ?_ NB188_191.out _; (with_reducible repeat (first | refine blk_drewN ?_ _ | refine blk_drew ?_ | refine blk_alloc ?_ _)); refine blk_far ?_ NB188_191.out _; (with_reducible repeat (first | refine blk_drewN ?_ _ | refine blk_drew ?_ | refine blk_alloc ?_ _)); exact BK188.out) hb); have n2_ := Aside0.mk (blk_below (g := gb191) (o := .cells #[.int .i64 a0_2, .int .i64 a0_3, .string a0_4] 23 (0, 0)) (by (with_reducible repeat (first | refine blk_drewN ?_ _ | refine blk_drew ?_ | refine blk_alloc ?_ _)); refine blk_put (cs := #[.int .i64 a0_2, .int .i64 a0_3, .string (⟨#[]⟩ : ByteArray)]) ?_ 2 _ rfl; (with_reducible repeat (first | refine blk_drewN ?_ _ | refine blk_drew ?_ | refine blk_alloc ?_ _)); refine blk_put (cs := #[.int .i64 a0_2, .int .i64 0, .string (⟨#[]⟩ : ByteArray)]) ?_ 1 _ rfl; (with_reducible repeat (first | refine blk_drewN ?_ _ | refine blk_drew ?_ | refine blk_alloc ?_ _)); refine blk_put (cs := #[.int .i64 0, .int .i64 0, .string (⟨#[]⟩ : ByteArray)]) ?_ 0 _ rfl; (with_reducible repeat (first | refine blk_drewN ?_ _ | refine blk_drew ?_ | refine blk_alloc ?_ _)); exact BK191.out) hb); have n3_ := Aside0.mk (below_step (by repeat (first | (with_reducible first | exact HB.out | apply below_alloc | apply pw_below_drewN | apply below_drew1 | refine below_set ?_ GE187.out | refine below_set ?_ GE188.out | refine below_set ?_ GE191.out) | exact HB.out)) hb); clear BK187; clear BK188; clear BK191; clear HB; have BK187 := n0_; have BK188 := n1_; have BK191 := n2_; have HB := n3_; clear n0_ n1_ n2_ n3_; (try clear hb); (try clear hb2); (try clear hk); (try clear hi); have hcz102_0 : w101.cell? ⟨gb187, 0, none⟩ = some (.string a0_0) := (blk_cell BK187.out 0).trans rfl; have hcz102_1 : w101.cell? ⟨gb187, 1, none⟩ = some (.int .i64 a0_1) := (blk_cell BK187.out 1).trans rfl; have hcz102_2 : w101.cell? ⟨gb187, 2, none⟩ = some (.int .i64 a0_2) := (blk_cell BK187.out 2).trans rfl; have hcz102_3 : w101.cell? ⟨gb187, 3, none⟩ = some (.int .i64 a0_3) := (blk_cell BK187.out 3).trans rfl; have hcz102_4 : w101.cell? ⟨gb187, 4, none⟩ = some (.string a0_4) := (blk_cell BK187.out 4).trans rfl; have hfz102_0 := blk_frozen BK187.out 0; have hfz102_1 := blk_frozen BK187.out 1; have hfz102_2 := blk_frozen BK187.out 2; have hfz102_3 := blk_frozen BK187.out 3; have hfz102_4 := blk_frozen BK187.out 4; have hcz103_0 : w101.cell? ⟨gb188, 0, none⟩ = some (.int .i64 a1_0) := (blk_cell BK188.out 0).trans rfl; have hcz103_1 : w101.cell? ⟨gb188, 1, none⟩ = some (.int .i64 a1_1) := (blk_cell BK188.out 1).trans rfl; have hcz103_2 : w101.cell? ⟨gb188, 2, none⟩ = some (.string a1_2) := (blk_cell BK188.out 2).trans rfl; have hfz103_0 := blk_frozen BK188.out 0; have hfz103_1 := blk_frozen BK188.out 1; have hfz103_2 := blk_frozen BK188.out 2; have hcz104_0 : w101.cell? ⟨gb191, 0, none⟩ = some (.int .i64 a0_2) := (blk_cell BK191.out 0).trans rfl; have hcz104_1 : w101.cell? ⟨gb191, 1, none⟩ = some (.int .i64 a0_3) := (blk_cell BK191.out 1).trans rfl; have hcz104_2 : w101.cell? ⟨gb191, 2, none⟩ = some (.string a0_4) := (blk_cell BK191.out 2).trans rfl; have hfz104_0 := blk_frozen BK191.out 0; have hfz104_1 := blk_frozen BK191.out 1; have hfz104_2 := blk_frozen BK191.out 2)); try go_wp2_with (first | (go_at_call 28; (with_reducible refine (rosetteref04_Compare.calls kj4 a1_0 a1_1 a1_2 a0_2 a0_3 a0_4 t192 _ A19.out).mono ?_); rintro e w101 ⟨rfl, hb⟩; have n0_ := Aside0.mk (blk_below (g := gb187) (o := .cells #[.string a0_0, .int .i64 a0_1, .int .i64 a0_2, .int .i64 a0_3, .string a0_4] 25 (0, 0)) (by (with_reducible repeat (first | refine blk_drewN ?_ _ | refine blk_drew ?_ | refine blk_alloc ?_ _)); refine blk_far ?_ NB187_191.out _; (with_reducible repeat (first | refine blk_drewN ?_ _ | refine blk_drew ?_ | refine blk_alloc ?_ _)); refine blk_far ?_ NB187_191.out _; (with_reducible repeat (first | refine blk_drewN ?_ _ | refine blk_drew ?_ | refine blk_alloc ?_ _)); refine blk_far ?_ NB187_191.out _; (with_reducible repeat (first | refine blk_drewN ?_ _ | refine blk_drew ?_ | refine blk_alloc ?_ _)); exact BK187.out) hb); have n1_ := Aside0.mk (blk_below (g := gb188) (o := .cells #[.int .i64 a1_0, .int .i64 a1_1, .string a1_2] 23 (0, 0)) (by (with_reducible repeat (first | refine blk_drewN ?_ _ | refine blk_drew ?_ | refine blk_alloc ?_ _)); refine blk_far ?_ NB188_191.out _; (with_reducible repeat (first | refine blk_drewN ?_ _ | refine blk_drew ?_ | refine blk_alloc ?_ _)); refine blk_far ?_ NB188_191.out _; (with_reducible repeat (first | refine blk_drewN ?_ _ | refine blk_drew ?_ | refine blk_alloc ?_ _)); refine blk_far ?_ NB188_191.out _; (with_reducible repeat (first | refine blk_drewN ?_ _ | refine blk_drew ?_ | refine blk_alloc ?_ _)); exact BK188.out) hb); have n2_ := Aside0.mk (blk_below (g := gb191) (o := .cells #[.int .i64 a0_2, .int .i64 a0_3, .string a0_4] 23 (0, 0)) (by (with_reducible repeat (first | refine blk_drewN ?_ _ | refine blk_drew ?_ | refine blk_alloc ?_ _)); refine blk_put (cs := #[.int .i64 a0_2, .int .i64 a0_3, .string (⟨#[]⟩ : ByteArray)]) ?_ 2 _ rfl; (with_reducible repeat (first | refine blk_drewN ?_ _ | refine blk_drew ?_ | refine blk_alloc ?_ _)); refine blk_put (cs := #[.int .i64 a0_2, .int .i64 0, .string (⟨#[]⟩ : ByteArray)]) ?_ 1 _ rfl; (with_reducible repeat (first | refine blk_drewN ?_ _ | refine blk_drew ?_ | refine blk_alloc ?_ _)); refine blk_put (cs := #[.int .i64 0, .int .i64 0, .string (⟨#[]⟩ : ByteArray)]) ?_ 0 _ rfl; (with_reducible repeat (first | refine blk_drewN ?_ _ | refine blk_drew ?_ | refine blk_alloc ?_ _)); exact BK191.out) hb); have n3_ := Aside0.mk (below_step (by repeat (first | (with_reducible first | exact HB.out | apply below_alloc | apply pw_below_drewN | apply below_drew1 | refine below_set ?_ GE187.out | refine below_set ?_ GE188.out | refine below_set ?_ GE191.out) | exact HB.out)) hb); clear BK187; clear BK188; clear BK191; clear HB; have BK187 := n0_; have BK188 := n1_; have BK191 := n2_; have HB := n3_; clear n0_ n1_ n2_ n3_; (try clear hb); (try clear hb2); (try clear hk); (try clear hi); have hcz102_0 : w101.cell? ⟨gb187, 0, none⟩ = some (.string a0_0) := (blk_cell BK187.out 0).trans rfl; have hcz102_1 : w101.cell? ⟨gb187, 1, none⟩ = some (.int .i64 a0_1) := (blk_cell BK187.out 1).trans rfl; have hcz102_2 : w101.cell? ⟨gb187, 2, none⟩ = some (.int .i64 a0_2) := (blk_cell BK187.out 2).trans rfl; have hcz102_3 : w101.cell? ⟨gb187, 3, none⟩ = some (.int .i64 a0_3) := (blk_cell BK187.out 3).trans rfl; have hcz102_4 : w101.cell? ⟨gb187, 4, none⟩ = some (.string a0_4) := (blk_cell BK187.out 4).trans rfl; have hfz102_0 := blk_frozen BK187.out 0; have hfz102_1 := blk_frozen BK187.out 1; have hfz102_2 := blk_frozen BK187.out 2; have hfz102_3 := blk_frozen BK187.out 3; have hfz102_4 := blk_frozen BK187.out 4; have hcz103_0 : w101.cell? ⟨gb188, 0, none⟩ = some (.int .i64 a1_0) := (blk_cell BK188.out 0).trans rfl; have hcz103_1 : w101.cell? ⟨gb188, 1, none⟩ = some (.int .i64 a1_1) := (blk_cell BK188.out 1).trans rfl; have hcz103_2 : w101.cell? ⟨gb188, 2, none⟩ = some (.string a1_2) := (blk_cell BK188.out 2).trans rfl; have hfz103_0 := blk_frozen BK188.out 0; have hfz103_1 := blk_frozen BK188.out 1; have hfz103_2 := blk_frozen BK188.out 2; have hcz104_0 : w101.cell? ⟨gb191, 0, none⟩ = some (.int .i64 a0_2) := (blk_cell BK191.out 0).trans rfl; have hcz104_1 : w101.cell? ⟨gb191, 1, none⟩ = some (.int .i64 a0_3) := (blk_cell BK191.out 1).trans rfl; have hcz104_2 : w101.cell? ⟨gb191, 2, none⟩ = some (.string a0_4) := (blk_cell BK191.out 2).trans rfl; have hfz104_0 := blk_frozen BK191.out 0; have hfz104_1 := blk_frozen BK191.out 1; have hfz104_2 := blk_frozen BK191.out 2)))
                          go_ret
                          exact ⟨by first | rfl | (simp [errW_none, errW_some] <;> rfl) | (simp [*, errW_none, errW_some] <;> rfl), by repeat (first | (with_reducible first | exact HB.out | apply below_alloc | apply pw_below_drewN | apply below_drew1 | refine below_set ?_ GE187.out | refine below_set ?_ GE188.out | refine below_set ?_ GE191.out) | exact HB.out)⟩
          · rw [if_neg c18] at H
            have c18b0 : (a1_0 == a0_2) = false := beq_eq_false_iff_ne.mpr c18
            have c18b1 : (a1_0 != a0_2) = true := bne_iff_ne.mpr c18
            obtain rfl := Option.some.inj H
            have hnb105 := NB187_188.out
            have hnc105 := NB188_187.out
            have hcz106_0 : wc.cell? ⟨gb187, 0, none⟩ = some (.string a0_0) := (blk_cell BK187.out 0).trans rfl
            have hcz106_1 : wc.cell? ⟨gb187, 1, none⟩ = some (.int .i64 a0_1) := (blk_cell BK187.out 1).trans rfl
            have hcz106_2 : wc.cell? ⟨gb187, 2, none⟩ = some (.int .i64 a0_2) := (blk_cell BK187.out 2).trans rfl
            have hcz106_3 : wc.cell? ⟨gb187, 3, none⟩ = some (.int .i64 a0_3) := (blk_cell BK187.out 3).trans rfl
            have hcz106_4 : wc.cell? ⟨gb187, 4, none⟩ = some (.string a0_4) := (blk_cell BK187.out 4).trans rfl
            have hfz106_0 := blk_frozen BK187.out 0
            have hfz106_1 := blk_frozen BK187.out 1
            have hfz106_2 := blk_frozen BK187.out 2
            have hfz106_3 := blk_frozen BK187.out 3
            have hfz106_4 := blk_frozen BK187.out 4
            go_wp2_with (first | ((with_reducible refine gate_dst (N := 7) rfl ?_); (try (refine gate_guard (by rfl) ?_; dsimp only)); refine box_event ?hg (N := 7) ?hd (cs := #[.int .i64 0, .int .i64 0, .string (⟨#[]⟩ : ByteArray)]) (t := 23) ?hr ?_; (case hd => rfl); (case hg => rfl); (case hr => first | (go_simp; done) | (go_simp; rfl)); intro gb191 hg w107 hbox hb; have n0_ := Aside0.mk (blk_below (g := gb187) (o := .cells #[.string a0_0, .int .i64 a0_1, .int .i64 a0_2, .int .i64 a0_3, .string a0_4] 25 (0, 0)) (by (with_reducible repeat (first | refine blk_drewN ?_ _ | refine blk_drew ?_ | refine blk_alloc ?_ _)); exact BK187.out) hb); have n1_ := Aside0.mk (blk_below (g := gb188) (o := .cells #[.int .i64 a1_0, .int .i64 a1_1, .string a1_2] 23 (0, 0)) (by (with_reducible repeat (first | refine blk_drewN ?_ _ | refine blk_drew ?_ | refine blk_alloc ?_ _)); exact BK188.out) hb); have n2_ := Aside0.mk (below_step (by repeat (first | (with_reducible first | exact HB.out | apply below_alloc | apply pw_below_drewN | apply below_drew1 | refine below_set ?_ GE187.out | refine below_set ?_ GE188.out) | exact HB.out)) hb); have n3_ := Aside0.mk (hbox); have n4_ := Aside0.mk ((by rw [hg]; exact (below_size (by repeat (first | (with_reducible first | exact HB.out | apply below_alloc | apply pw_below_drewN | apply below_drew1 | refine below_set ?_ GE187.out | refine below_set ?_ GE188.out) | exact HB.out))) : w.heap.size ≤ gb191)); have n5_ := Aside0.mk ((by rw [hg]; exact (below_size (by repeat (first | (with_reducible first | exact HB.out | apply below_alloc | apply pw_below_drewN | apply below_drew1 | refine below_set ?_ GE187.out | refine below_set ?_ GE188.out) | exact HB.out))) : w.heap.size ≤ gb191)); have n6_ := Aside0.mk ((by rw [hg]; exact Nat.ne_of_lt (blk_lt (g := gb187) (o := .cells #[.string a0_0, .int .i64 a0_1, .int .i64 a0_2, .int .i64 a0_3, .string a0_4] 25 (0, 0)) (by (with_reducible repeat (first | refine blk_drewN ?_ _ | refine blk_drew ?_ | refine blk_alloc ?_ _)); exact BK187.out)) : gb187 ≠ gb191)); have n7_ := Aside0.mk ((by rw [hg]; exact Nat.ne_of_gt (blk_lt (g := gb187) (o := .cells #[.string a0_0, .int .i64 a0_1, .int .i64 a0_2, .int .i64 a0_3, .string a0_4] 25 (0, 0)) (by (with_reducible repeat (first | refine blk_drewN ?_ _ | refine blk_drew ?_ | refine blk_alloc ?_ _)); exact BK187.out)) : gb191 ≠ gb187)); have n8_ := Aside0.mk ((by rw [hg]; exact Nat.ne_of_lt (blk_lt (g := gb188) (o := .cells #[.int .i64 a1_0, .int .i64 a1_1, .string a1_2] 23 (0, 0)) (by (with_reducible repeat (first | refine blk_drewN ?_ _ | refine blk_drew ?_ | refine blk_alloc ?_ _)); exact BK188.out)) : gb188 ≠ gb191)); have n9_ := Aside0.mk ((by rw [hg]; exact Nat.ne_of_gt (blk_lt (g := gb188) (o := .cells #[.int .i64 a1_0, .int .i64 a1_1, .string a1_2] 23 (0, 0)) (by (with_reducible repeat (first | refine blk_drewN ?_ _ | refine blk_drew ?_ | refine blk_alloc ?_ _)); exact BK188.out)) : gb191 ≠ gb188)); clear BK187; clear BK188; clear HB; have BK187 := n0_; have BK188 := n1_; have HB := n2_; have BK191 := n3_; have GW191 := n4_; have GE191 := n5_; have NB187_191 := n6_; have NB191_187 := n7_; have NB188_191 := n8_; have NB191_188 := n9_; clear n0_ n1_ n2_ n3_ n4_ n5_ n6_ n7_ n8_ n9_; clear hb hbox hg; have hnb108 := NB191_187.out; have hnc108 := NB187_191.out; have hnb109 := NB191_188.out; have hnc109 := NB188_191.out; have hcz110_0 : w107.cell? ⟨gb191, 0, none⟩ = some (.int .i64 0) := (blk_cell BK191.out 0).trans rfl; have hcz110_1 : w107.cell? ⟨gb191, 1, none⟩ = some (.int .i64 0) := (blk_cell BK191.out 1).trans rfl; have hcz110_2 : w107.cell? ⟨gb191, 2, none⟩ = some (.string (⟨#[]⟩ : ByteArray)) := (blk_cell BK191.out 2).trans rfl; have hfz110_0 := blk_frozen BK191.out 0; have hfz110_1 := blk_frozen BK191.out 1; have hfz110_2 := blk_frozen BK191.out 2; have hcz111_0 : w107.cell? ⟨gb188, 0, none⟩ = some (.int .i64 a1_0) := (blk_cell BK188.out 0).trans rfl; have hcz111_1 : w107.cell? ⟨gb188, 1, none⟩ = some (.int .i64 a1_1) := (blk_cell BK188.out 1).trans rfl; have hcz111_2 : w107.cell? ⟨gb188, 2, none⟩ = some (.string a1_2) := (blk_cell BK188.out 2).trans rfl; have hfz111_0 := blk_frozen BK188.out 0; have hfz111_1 := blk_frozen BK188.out 1; have hfz111_2 := blk_frozen BK188.out 2))
            go_ret
            exact ⟨by first | rfl | (simp [errW_none, errW_some] <;> rfl) | (simp [*, errW_none, errW_some] <;> rfl), by repeat (first | (with_reducible first | exact HB.out | apply below_alloc | apply pw_below_drewN | apply below_drew1 | refine below_set ?_ GE187.out | refine below_set ?_ GE188.out | refine below_set ?_ GE191.out) | exact HB.out)⟩

end Go.Proofs.Ytojefdnngkcaoaa.G
end

section
-- Written by a program of this session (wip/tools/myprint.py), over the kit's print.
namespace Go.Proofs.Ytojefdnngkcaoaa.G
open Go.RowKit Go.Proofs.YtojefdnngkcaoaaW.PrintWords Go.Proofs.YtojefdnngkcaoaaW.PrintLast Go.Proofs.YtojefdnngkcaoaaW.PrintMore
attribute [local go_sem] max2_int min2_int max_two min_two max_three min_three max_four min_four   -- for this text's walks alone
set_option linter.unusedVariables false
set_option linter.unusedSimpArgs false

/-! ### rosetteref06_Meets: function 15 -/
def rosetteref06_Meets.f (k : Nat) (a0_0 : ByteArray) (a0_1 : Int) (a0_2 : Int) (a0_3 : Int) (a0_4 : ByteArray) (l1 : List (S52)) : Option (Bool) := (rosetteref05_Get.f k l1 a0_0).bind fun bt197 => (if bt197.2.2.2 = true then ((rosetteref06_Holds.f k a0_0 a0_1 a0_2 a0_3 a0_4 bt197.1 bt197.2.1 bt197.2.2.1).bind fun t202 => (some t202)) else (some false))
theorem rosetteref06_Meets.mono : ∀ a0 a1 a2 a3 a4 a5 k, LeO (rosetteref06_Meets.f k a0 a1 a2 a3 a4 a5) (rosetteref06_Meets.f (k + 1) a0 a1 a2 a3 a4 a5) := by
  intro a0 a1 a2 a3 a4 a5 k
  unfold rosetteref06_Meets.f
  repeat' first
      | (with_reducible exact rosetteref05_Get.mono _ _ _)
      | (with_reducible exact rosetteref06_Holds.mono _ _ _ _ _ _ _ _ _)
      | (with_reducible exact LeO.refl _)
      | (with_reducible exact LeO.none _)
      | (with_reducible refine LeO.ite ?_ ?_)
      | (with_reducible refine LeO.bind ?_ (fun _ => ?_))
      | exact rosetteref05_Get.mono _ _ _
      | exact rosetteref06_Holds.mono _ _ _ _ _ _ _ _ _
      | exact LeO.none _
      | refine LeO.ite ?_ ?_
      | refine LeO.bind ?_ (fun _ => ?_)
set_option maxHeartbeats 8000000 in
set_option maxRecDepth 100000 in
theorem rosetteref06_Meets.calls (k : Nat) (a0_0 : ByteArray) (a0_1 : Int) (a0_2 : Int) (a0_3 : Int) (a0_4 : ByteArray) (A1 : Option Addr) (c1 : Nat) (l1 : List (S52)) (r : Bool) (w : World) (hr1 : Kd.C k52 w A1 l1.length l1) (hc1 : l1.length ≤ c1) (h : rosetteref06_Meets.f k a0_0 a0_1 a0_2 a0_3 a0_4 l1 = some r) :
    Calls Try.prog 15 #[.agg #[.string a0_0, .int .i64 a0_1, .int .i64 a0_2, .int .i64 a0_3, .string a0_4], .slice A1 l1.length c1] w fun e w' => e = .returned (.bool r) ∧ Below w.heap.size w w' := by
  have hu25 := Try.underlying25
  have hu23 := Try.underlying23
  have HR1 := Aside0.mk hr1
  have HC1 := Aside0.mk hc1
  clear hr1 hc1
  have HB := Aside0.mk (Below.refl w.heap.size w)
  have H : ((rosetteref05_Get.f k l1 a0_0).bind fun bt197 => (if bt197.2.2.2 = true then ((rosetteref06_Holds.f k a0_0 a0_1 a0_2 a0_3 a0_4 bt197.1 bt197.2.1 bt197.2.2.1).bind fun t202 => (some t202)) else (some false))) = some r := h
  clear h
  replace H := Option.bind_eq_some_iff.mp H
  obtain ⟨⟨t197, t198, t199, t200⟩, A30, H⟩ := H
  replace H : (if t200 = true then ((rosetteref06_Holds.f k a0_0 a0_1 a0_2 a0_3 a0_4 t197 t198 t199).bind fun t202 => (some t202)) else (some false)) = some r := H
  have A3 := Aside0.mk A30
  clear A30
  by_cases c4 : t200 = true
  · subst c4
    have H1 : ((rosetteref06_Holds.f k a0_0 a0_1 a0_2 a0_3 a0_4 t197 t198 t199).bind fun t202 => (some t202)) = some r := by rw [if_pos rfl] at H; exact H
    clear H
    have H := H1
    clear H1
    replace H := Option.bind_eq_some_iff.mp H
    obtain ⟨t202, A50, H⟩ := H
    replace H : (some t202) = some r := H
    have A5 := Aside0.mk A50
    clear A50
    obtain rfl := Option.some.inj H
    go_enter Try.func15, Try.ntmps15
    go_wp2_with (first | ((with_reducible refine gate_dst (N := 2) rfl ?_); refine box_event ?hg (N := 2) ?hd (cs := #[.string a0_0, .int .i64 a0_1, .int .i64 a0_2, .int .i64 a0_3, .string a0_4]) (t := 25) ?hr ?_; (case hd => rfl); (case hg => rfl); (case hr => first | (go_simp; done) | (go_simp; rfl)); intro gb196 hg w6 hbox hb; have n0_ := Aside0.mk (below_step (by repeat (first | (with_reducible first | exact HB.out | apply below_alloc | apply pw_below_drewN | apply below_drew1) | exact HB.out)) hb); have n1_ := Aside0.mk (hbox); have n2_ := Aside0.mk ((by rw [hg]; exact (below_size (by repeat (first | (with_reducible first | exact HB.out | apply below_alloc | apply pw_below_drewN | apply below_drew1) | exact HB.out))) : w.heap.size ≤ gb196)); have n3_ := Aside0.mk ((by rw [hg]; exact (below_size (by repeat (first | (with_reducible first | exact HB.out | apply below_alloc | apply pw_below_drewN | apply below_drew1) | exact HB.out))) : w.heap.size ≤ gb196)); clear HB; have HB := n0_; have BK196 := n1_; have GW196 := n2_; have GE196 := n3_; clear n0_ n1_ n2_ n3_; clear hb hbox hg; have hcz7_0 : w6.cell? ⟨gb196, 0, none⟩ = some (.string a0_0) := (blk_cell BK196.out 0).trans rfl; have hcz7_1 : w6.cell? ⟨gb196, 1, none⟩ = some (.int .i64 a0_1) := (blk_cell BK196.out 1).trans rfl; have hcz7_2 : w6.cell? ⟨gb196, 2, none⟩ = some (.int .i64 a0_2) := (blk_cell BK196.out 2).trans rfl; have hcz7_3 : w6.cell? ⟨gb196, 3, none⟩ = some (.int .i64 a0_3) := (blk_cell BK196.out 3).trans rfl; have hcz7_4 : w6.cell? ⟨gb196, 4, none⟩ = some (.string a0_4) := (blk_cell BK196.out 4).trans rfl; have hfz7_0 := blk_frozen BK196.out 0; have hfz7_1 := blk_frozen BK196.out 1; have hfz7_2 := blk_frozen BK196.out 2; have hfz7_3 := blk_frozen BK196.out 3; have hfz7_4 := blk_frozen BK196.out 4) | ((with_reducible refine gate_callee (f := 30) rfl ?_); refine goesL_ (some 11) rfl rfl Try.func30 (by kernel_rfl) rfl #[.slice A1 l1.length c1, .string a0_0] rfl (by (try simp only [List.map_toArray, List.map_cons, List.map_nil]); first | done | rfl | (simp only [List.length_drop, List.length_take]; rfl)) ?_; (with_reducible refine (rosetteref05_Get.calls k _ _ l1 a0_0 t197 t198 t199 true _ ?side1 ?side2 A3.out).mono ?_); (case side1 => repeat (first | exact (Kd.C_below HR1.out HB.out) | (with_reducible refine Kd.C_alloc ?_ _) | (with_reducible refine Kd.C_drewN ?_ _) | (with_reducible refine Kd.C_drew ?_))); (case side2 => exact HC1.out); rintro e w8 ⟨rfl, hb⟩; refine ⟨_, rfl, ?_⟩; have n0_ := Aside0.mk (blk_below (g := gb196) (o := .cells #[.string a0_0, .int .i64 a0_1, .int .i64 a0_2, .int .i64 a0_3, .string a0_4] 25 (0, 0)) (by (with_reducible repeat (first | refine blk_drewN ?_ _ | refine blk_drew ?_ | refine blk_alloc ?_ _)); exact BK196.out) hb); have n1_ := Aside0.mk (below_step (by repeat (first | (with_reducible first | exact HB.out | apply below_alloc | apply pw_below_drewN | apply below_drew1 | refine below_set ?_ GE196.out) | exact HB.out)) hb); clear BK196; clear HB; have BK196 := n0_; have HB := n1_; clear n0_ n1_; (try clear hb); (try clear hb2); (try clear hk); (try clear hi)) | ((with_reducible refine gate_dst (N := 5) rfl ?_); refine box_event ?hg (N := 5) ?hd (cs := #[.int .i64 0, .int .i64 0, .string (⟨#[]⟩ : ByteArray)]) (t := 23) ?hr ?_; (case hd => rfl); (case hg => rfl); (case hr => first | (go_simp; done) | (go_simp; rfl)); intro gb201 hg w9 hbox hb; have n0_ := Aside0.mk (blk_below (g := gb196) (o := .cells #[.string a0_0, .int .i64 a0_1, .int .i64 a0_2, .int .i64 a0_3, .string a0_4] 25 (0, 0)) (by (with_reducible repeat (first | refine blk_drewN ?_ _ | refine blk_drew ?_ | refine blk_alloc ?_ _)); exact BK196.out) hb); have n1_ := Aside0.mk (below_step (by repeat (first | (with_reducible first | exact HB.out | apply below_alloc | apply pw_below_drewN | apply below_drew1 | refine below_set ?_ GE196.out) | exact HB.out)) hb); have n2_ := Aside0.mk (hbox); have n3_ := Aside0.mk ((by rw [hg]; exact (below_size (by repeat (first | (with_reducible first | exact HB.out | apply below_alloc | apply pw_below_drewN | apply below_drew1 | refine below_set ?_ GE196.out) | exact HB.out))) : w.heap.size ≤ gb201)); have n4_ := Aside0.mk ((by rw [hg]; exact (below_size (by repeat (first | (with_reducible first | exact HB.out | apply below_alloc | apply pw_below_drewN | apply below_drew1 | refine below_set ?_ GE196.out) | exact HB.out))) : w.heap.size ≤ gb201)); have n5_ := Aside0.mk ((by rw [hg]; exact Nat.ne_of_lt (blk_lt (g := gb196) (o := .cells #[.string a0_0, .int .i64 a0_1, .int .i64 a0_2, .int .i64 a0_3, .string a0_4] 25 (0, 0)) (by (with_reducible repeat (first | refine blk_drewN ?_ _ | refine blk_drew ?_ | refine blk_alloc ?_ _)); exact BK196.out)) : gb196 ≠ gb201)); have n6_ := Aside0.mk ((by rw [hg]; exact Nat.ne_of_gt (blk_lt (g := gb196) (o := .cells #[.string a0_0, .int .i64 a0_1, .int .i64 a0_2, .int .i64 a0_3, .string a0_4] 25 (0, 0)) (by (with_reducible repeat (first | refine blk_drewN ?_ _ | refine blk_drew ?_ | refine blk_alloc ?_ _)); exact BK196.out)) : gb201 ≠ gb196)); clear BK196; clear HB; have BK196 := n0_; have HB := n1_; have BK201 := n2_; have GW201 := n3_; have GE201 := n4_; have NB196_201 := n5_; have NB201_196 := n6_; clear n0_ n1_ n2_ n3_ n4_ n5_ n6_; clear hb hbox hg; have hnb10 := NB201_196.out; have hnc10 := NB196_201.out; have hcz11_0 : w9.cell? ⟨gb201, 0, none⟩ = some (.int .i64 0) := (blk_cell BK201.out 0).trans rfl; have hcz11_1 : w9.cell? ⟨gb201, 1, none⟩ = some (.int .i64 0) := (blk_cell BK201.out 1).trans rfl; have hcz11_2 : w9.cell? ⟨gb201, 2, none⟩ = some (.string (⟨#[]⟩ : ByteArray)) := (blk_cell BK201.out 2).trans rfl; have hfz11_0 := blk_frozen BK201.out 0; have hfz11_1 := blk_frozen BK201.out 1; have hfz11_2 := blk_frozen BK201.out 2; have hcz12_0 : w9.cell? ⟨gb196, 0, none⟩ = some (.string a0_0) := (blk_cell BK196.out 0).trans rfl; have hcz12_1 : w9.cell? ⟨gb196, 1, none⟩ = some (.int .i64 a0_1) := (blk_cell BK196.out 1).trans rfl; have hcz12_2 : w9.cell? ⟨gb196, 2, none⟩ = some (.int .i64 a0_2) := (blk_cell BK196.out 2).trans rfl; have hcz12_3 : w9.cell? ⟨gb196, 3, none⟩ = some (.int .i64 a0_3) := (blk_cell BK196.out 3).trans rfl; have hcz12_4 : w9.cell? ⟨gb196, 4, none⟩ = some (.string a0_4) := (blk_cell BK196.out 4).trans rfl; have hfz12_0 := blk_frozen BK196.out 0; have hfz12_1 := blk_frozen BK196.out 1; have hfz12_2 := blk_frozen BK196.out 2; have hfz12_3 := blk_frozen BK196.out 3; have hfz12_4 := blk_frozen BK196.out 4) | (go_at_call 13; (with_reducible refine (rosetteref06_Holds.calls k a0_0 a0_1 a0_2 a0_3 a0_4 t197 t198 t199 t202 _ A5.out).mono ?_); rintro e w13 ⟨rfl, hb⟩; have n0_ := Aside0.mk (blk_below (g := gb196) (o := .cells #[.string a0_0, .int .i64 a0_1, .int .i64 a0_2, .int .i64 a0_3, .string a0_4] 25 (0, 0)) (by (with_reducible repeat (first | refine blk_drewN ?_ _ | refine blk_drew ?_ | refine blk_alloc ?_ _)); refine blk_far ?_ NB196_201.out _; (with_reducible repeat (first | refine blk_drewN ?_ _ | refine blk_drew ?_ | refine blk_alloc ?_ _)); refine blk_far ?_ NB196_201.out _; (with_reducible repeat (first | refine blk_drewN ?_ _ | refine blk_drew ?_ | refine blk_alloc ?_ _)); refine blk_far ?_ NB196_201.out _; (with_reducible repeat (first | refine blk_drewN ?_ _ | refine blk_drew ?_ | refine blk_alloc ?_ _)); exact BK196.out) hb); have n1_ := Aside0.mk (blk_below (g := gb201) (o := .cells #[.int .i64 t197, .int .i64 t198, .string t199] 23 (0, 0)) (by (with_reducible repeat (first | refine blk_drewN ?_ _ | refine blk_drew ?_ | refine blk_alloc ?_ _)); refine blk_put (cs := #[.int .i64 t197, .int .i64 t198, .string (⟨#[]⟩ : ByteArray)]) ?_ 2 _ rfl; (with_reducible repeat (first | refine blk_drewN ?_ _ | refine blk_drew ?_ | refine blk_alloc ?_ _)); refine blk_put (cs := #[.int .i64 t197, .int .i64 0, .string (⟨#[]⟩ : ByteArray)]) ?_ 1 _ rfl; (with_reducible repeat (first | refine blk_drewN ?_ _ | refine blk_drew ?_ | refine blk_alloc ?_ _)); refine blk_put (cs := #[.int .i64 0, .int .i64 0, .string (⟨#[]⟩ : ByteArray)]) ?_ 0 _ rfl; (with_reducible repeat (first | refine blk_drewN ?_ _ | refine blk_drew ?_ | refine blk_alloc ?_ _)); exact BK201.out) hb); have n2_ := Aside0.mk (below_step (by repeat (first | (with_reducible first | exact HB.out | apply below_alloc | apply pw_below_drewN | apply below_drew1 | refine below_set ?_ GE196.out | refine below_set ?_ GE201.out) | exact HB.out)) hb); clear BK196; clear BK201; clear HB; have BK196 := n0_; have BK201 := n1_; have HB := n2_; clear n0_ n1_ n2_; (try clear hb); (try clear hb2); (try clear hk); (try clear hi)))
    go_ret
    exact ⟨by first | rfl | (simp [errW_none, errW_some] <;> rfl) | (simp [*, errW_none, errW_some] <;> rfl), by repeat (first | (with_reducible first | exact HB.out | apply below_alloc | apply pw_below_drewN | apply below_drew1 | refine below_set ?_ GE196.out | refine below_set ?_ GE201.out) | exact HB.out)⟩
  · replace c4 := Bool.eq_false_iff.mpr c4
    subst c4
    have H1 : (some false) = some r := by rw [if_neg (show ¬ (false = true) by decide)] at H; exact H
    clear H
    have H := H1
    clear H1
    obtain rfl := Option.some.inj H
    go_enter Try.func15, Try.ntmps15
    go_wp2_with (first | ((with_reducible refine gate_dst (N := 2) rfl ?_); refine box_event ?hg (N := 2) ?hd (cs := #[.string a0_0, .int .i64 a0_1, .int .i64 a0_2, .int .i64 a0_3, .string a0_4]) (t := 25) ?hr ?_; (case hd => rfl); (case hg => rfl); (case hr => first | (go_simp; done) | (go_simp; rfl)); intro gb196 hg w14 hbox hb; have n0_ := Aside0.mk (below_step (by repeat (first | (with_reducible first | exact HB.out | apply below_alloc | apply pw_below_drewN | apply below_drew1) | exact HB.out)) hb); have n1_ := Aside0.mk (hbox); have n2_ := Aside0.mk ((by rw [hg]; exact (below_size (by repeat (first | (with_reducible first | exact HB.out | apply below_alloc | apply pw_below_drewN | apply below_drew1) | exact HB.out))) : w.heap.size ≤ gb196)); have n3_ := Aside0.mk ((by rw [hg]; exact (below_size (by repeat (first | (with_reducible first | exact HB.out | apply below_alloc | apply pw_below_drewN | apply below_drew1) | exact HB.out))) : w.heap.size ≤ gb196)); clear HB; have HB := n0_; have BK196 := n1_; have GW196 := n2_; have GE196 := n3_; clear n0_ n1_ n2_ n3_; clear hb hbox hg; have hcz15_0 : w14.cell? ⟨gb196, 0, none⟩ = some (.string a0_0) := (blk_cell BK196.out 0).trans rfl; have hcz15_1 : w14.cell? ⟨gb196, 1, none⟩ = some (.int .i64 a0_1) := (blk_cell BK196.out 1).trans rfl; have hcz15_2 : w14.cell? ⟨gb196, 2, none⟩ = some (.int .i64 a0_2) := (blk_cell BK196.out 2).trans rfl; have hcz15_3 : w14.cell? ⟨gb196, 3, none⟩ = some (.int .i64 a0_3) := (blk_cell BK196.out 3).trans rfl; have hcz15_4 : w14.cell? ⟨gb196, 4, none⟩ = some (.string a0_4) := (blk_cell BK196.out 4).trans rfl; have hfz15_0 := blk_frozen BK196.out 0; have hfz15_1 := blk_frozen BK196.out 1; have hfz15_2 := blk_frozen BK196.out 2; have hfz15_3 := blk_frozen BK196.out 3; have hfz15_4 := blk_frozen BK196.out 4) | ((with_reducible refine gate_callee (f := 30) rfl ?_); refine goesL_ (some 11) rfl rfl Try.func30 (by kernel_rfl) rfl #[.slice A1 l1.length c1, .string a0_0] rfl (by (try simp only [List.map_toArray, List.map_cons, List.map_nil]); first | done | rfl | (simp only [List.length_drop, List.length_take]; rfl)) ?_; (with_reducible refine (rosetteref05_Get.calls k _ _ l1 a0_0 t197 t198 t199 false _ ?side1 ?side2 A3.out).mono ?_); (case side1 => repeat (first | exact (Kd.C_below HR1.out HB.out) | (with_reducible refine Kd.C_alloc ?_ _) | (with_reducible refine Kd.C_drewN ?_ _) | (with_reducible refine Kd.C_drew ?_))); (case side2 => exact HC1.out); rintro e w16 ⟨rfl, hb⟩; refine ⟨_, rfl, ?_⟩; have n0_ := Aside0.mk (blk_below (g := gb196) (o := .cells #[.string a0_0, .int .i64 a0_1, .int .i64 a0_2, .int .i64 a0_3, .string a0_4] 25 (0, 0)) (by (with_reducible repeat (first | refine blk_drewN ?_ _ | refine blk_drew ?_ | refine blk_alloc ?_ _)); exact BK196.out) hb); have n1_ := Aside0.mk (below_step (by repeat (first | (with_reducible first | exact HB.out | apply below_alloc | apply pw_below_drewN | apply below_drew1 | refine below_set ?_ GE196.out) | exact HB.out)) hb); clear BK196; clear HB; have BK196 := n0_; have HB := n1_; clear n0_ n1_; (try clear hb); (try clear hb2); (try clear hk); (try clear hi)) | ((with_reducible refine gate_dst (N := 5) rfl ?_); refine box_event ?hg (N := 5) ?hd (cs := #[.int .i64 0, .int .i64 0, .string (⟨#[]⟩ : ByteArray)]) (t := 23) ?hr ?_; (case hd => rfl); (case hg => rfl); (case hr => first | (go_simp; done) | (go_simp; rfl)); intro gb201 hg w17 hbox hb; have n0_ := Aside0.mk (blk_below (g := gb196) (o := .cells #[.string a0_0, .int .i64 a0_1, .int .i64 a0_2, .int .i64 a0_3, .string a0_4] 25 (0, 0)) (by (with_reducible repeat (first | refine blk_drewN ?_ _ | refine blk_drew ?_ | refine blk_alloc ?_ _)); exact BK196.out) hb); have n1_ := Aside0.mk (below_step (by repeat (first | (with_reducible first | exact HB.out | apply below_alloc | apply pw_below_drewN | apply below_drew1 | refine below_set ?_ GE196.out) | exact HB.out)) hb); have n2_ := Aside0.mk (hbox); have n3_ := Aside0.mk ((by rw [hg]; exact (below_size (by repeat (first | (with_reducible first | exact HB.out | apply below_alloc | apply pw_below_drewN | apply below_drew1 | refine below_set ?_ GE196.out) | exact HB.out))) : w.heap.size ≤ gb201)); have n4_ := Aside0.mk ((by rw [hg]; exact (below_size (by repeat (first | (with_reducible first | exact HB.out | apply below_alloc | apply pw_below_drewN | apply below_drew1 | refine below_set ?_ GE196.out) | exact HB.out))) : w.heap.size ≤ gb201)); have n5_ := Aside0.mk ((by rw [hg]; exact Nat.ne_of_lt (blk_lt (g := gb196) (o := .cells #[.string a0_0, .int .i64 a0_1, .int .i64 a0_2, .int .i64 a0_3, .string a0_4] 25 (0, 0)) (by (with_reducible repeat (first | refine blk_drewN ?_ _ | refine blk_drew ?_ | refine blk_alloc ?_ _)); exact BK196.out)) : gb196 ≠ gb201)); have n6_ := Aside0.mk ((by rw [hg]; exact Nat.ne_of_gt (blk_lt (g := gb196) (o := .cells #[.string a0_0, .int .i64 a0_1, .int .i64 a0_2, .int .i64 a0_3, .string a0_4] 25 (0, 0)) (by (with_reducible repeat (first | refine blk_drewN ?_ _ | refine blk_drew ?_ | refine blk_alloc ?_ _)); exact BK196.out)) : gb201 ≠ gb196)); clear BK196; clear HB; have BK196 := n0_; have HB := n1_; have BK201 := n2_; have GW201 := n3_; have GE201 := n4_; have NB196_201 := n5_; have NB201_196 := n6_; clear n0_ n1_ n2_ n3_ n4_ n5_ n6_; clear hb hbox hg; have hnb18 := NB201_196.out; have hnc18 := NB196_201.out; have hcz19_0 : w17.cell? ⟨gb201, 0, none⟩ = some (.int .i64 0) := (blk_cell BK201.out 0).trans rfl; have hcz19_1 : w17.cell? ⟨gb201, 1, none⟩ = some (.int .i64 0) := (blk_cell BK201.out 1).trans rfl; have hcz19_2 : w17.cell? ⟨gb201, 2, none⟩ = some (.string (⟨#[]⟩ : ByteArray)) := (blk_cell BK201.out 2).trans rfl; have hfz19_0 := blk_frozen BK201.out 0; have hfz19_1 := blk_frozen BK201.out 1; have hfz19_2 := blk_frozen BK201.out 2))
    go_ret
    exact ⟨by first | rfl | (simp [errW_none, errW_some] <;> rfl) | (simp [*, errW_none, errW_some] <;> rfl), by repeat (first | (with_reducible first | exact HB.out | apply below_alloc | apply pw_below_drewN | apply below_drew1 | refine below_set ?_ GE196.out | refine below_set ?_ GE201.out) | exact HB.out)⟩

end Go.Proofs.Ytojefdnngkcaoaa.G
end

section
/- predicates over numbers and lists: which are right, of what they hold, their bytes -/
set_option linter.unusedVariables false
set_option linter.unusedSimpArgs false
set_option autoImplicit false
namespace Go.Proofs.Ytojefdnngkcaoaa
open Go.RowKit Go.Proofs.YtojefdnngkcaoaaW.PrintWords Go.Proofs.YtojefdnngkcaoaaW.PrintLast Go.Proofs.YtojefdnngkcaoaaW.PrintMore Go.Proofs.Ytojefdnngkcaoaa.G

theorem pright_at {K : Nat} (hK : 0 < K) (n : ByteArray) (o k i : Int) (t : ByteArray) (h0 : -9223372036854775808 ≤ i) (h1 : i < 9223372036854775808) : pred_Right.f K n o k i t = some (prightB n o k i t) := by
  obtain ⟨K, rfl⟩ : ∃ m, K = m + 1 := ⟨K - 1, by omega⟩
  exact pright_f K n o k i t h0 h1
theorem size_nil (n : ByteArray) : n.toList = [] ↔ n.size = 0 := by
  rw [ByteArray.toList_eq]
  constructor
  · intro h
    have := congrArg List.length h
    rw [Array.length_toList] at this
    exact this
  · intro h
    apply List.eq_nil_of_length_eq_zero
    rw [Array.length_toList]
    exact h
theorem pnamed_eq (n t : ByteArray) : pnamed n t = (decide (1 ≤ n.size ∧ n.size ≤ 16) && decide (t.size ≤ 32)) := by
  unfold pnamed
  by_cases h0 : n.toList = []
  · rw [if_pos h0, decide_eq_false (by have := (size_nil n).1 h0; omega)]; rfl
  · rw [if_neg h0]
    have hp : n.size ≠ 0 := fun h => h0 ((size_nil n).2 h)
    by_cases h1 : (n.size : Int) ≤ 16
    · rw [if_pos h1, decide_eq_true (show 1 ≤ n.size ∧ n.size ≤ 16 by omega), Bool.true_and, decide_eq_decide]; omega
    · rw [if_neg h1, decide_eq_false (show ¬ (1 ≤ n.size ∧ n.size ≤ 16) by omega)]; rfl
theorem rpright_f {K : Nat} (hK : 0 < K) (n : ByteArray) (o k i : Int) (t : ByteArray) (h0 : -9223372036854775808 ≤ i) (h1 : i < 9223372036854775808) : rosetteref06_Right.f K n o k i t = some (prightB n o k i t) := by
  obtain ⟨K, rfl⟩ : ∃ m, K = m + 1 := ⟨K - 1, by omega⟩
  have J : ∀ b, rosetteref06_Right.j0 (K + 1) b n o k i t = some (if b = true then false else if o = 8 then (k == 0 && (i == 0 && t.toList == [])) else if o = 7 ∧ k ≠ 2 then false else decide (t.size ≤ 32) && (decide (1 ≤ o) && decide (o ≤ 7) && vright k i t)) := by
    intro b
    simp only [rosetteref06_Right.j0]
    rw [rright_f]
    simp only [Option.bind_some]
    cases b with
    | true => rfl
    | false =>
      simp only [Bool.false_eq_true, if_false]
      by_cases a8 : o = 8
      · rw [if_pos a8, if_pos a8]
      rw [if_neg a8, if_neg a8]
      by_cases o1 : 1 ≤ o <;> by_cases o7 : o ≤ 7 <;> by_cases a7 : o = 7 <;> by_cases k2 : k = 2 <;> by_cases t3 : t.size ≤ 32 <;> cases vright k i t <;> simp [o1, o7, a7, k2, t3] <;> omega
  unfold rosetteref06_Right.f prightB
  rw [pnamed_eq]
  have hz : (k == 0 && (i == 0 && t.toList == [])) = true → t.size ≤ 32 := by
    intro h
    simp only [Bool.and_eq_true, beq_iff_eq] at h
    have := (size_nil t).1 h.2.2
    omega
  by_cases a1 : (n.size : Int) < 1
  · rw [if_pos a1, J, if_pos rfl, decide_eq_false (show ¬ (1 ≤ n.size ∧ n.size ≤ 16) by omega)]
    simp
  · rw [if_neg a1, J]
    by_cases a2 : (n.size : Int) > 16
    · rw [decide_eq_true a2, if_pos rfl, decide_eq_false (show ¬ (1 ≤ n.size ∧ n.size ≤ 16) by omega)]
      simp
    · rw [decide_eq_false a2, if_neg (by decide), decide_eq_true (show 1 ≤ n.size ∧ n.size ≤ 16 by omega)]
      congr 1
      by_cases a8 : o = 8
      · rw [if_pos a8, if_pos a8]
        cases hq : (k == 0 && (i == 0 && t.toList == [])) with
        | true => rw [decide_eq_true (hz hq)]; rfl
        | false => simp
      · rw [if_neg a8, if_neg a8]
        simp only [Bool.true_and]

def hasPre (s p : ByteArray) : Bool := if p.size ≤ s.size then (s.extract 0 p.size).toList == p.toList else false
theorem hasPrefix_f (s p : ByteArray) : strings_HasPrefix.f s p = some (hasPre s p) := by
  unfold strings_HasPrefix.f stringslite_HasPrefix.f hasPre
  by_cases h : p.size ≤ s.size
  · rw [if_pos (by omega), if_pos (by omega), if_pos (by omega), if_pos h]; rfl
  · rw [if_neg (by omega), if_neg h]; rfl
def askB (o c : Int) : Bool := if o = 1 then c == 0 else if o = 2 then c != 0 else if o = 3 then decide (c < 0) else if o = 4 then decide (c ≤ 0) else if o = 5 then decide (c > 0) else decide (c ≥ 0)
def holdsB (n : ByteArray) (o k i : Int) (t : ByteArray) (vk vi : Int) (vt : ByteArray) : Bool :=
  if prightB n o k i t = true then (if vright vk vi vt = true then (if o = 8 then true else if vk = k then (if o = 7 then hasPre vt t else askB o (vcmp vk vi vt k i t)) else false) else false) else false
theorem pright_op {n : ByteArray} {o k i : Int} {t : ByteArray} (h : prightB n o k i t = true) : 1 ≤ o ∧ o ≤ 8 := by
  unfold prightB at h
  by_cases a8 : o = 8
  · omega
  · rw [if_neg a8] at h
    split at h
    · cases h
    · simp only [Bool.and_eq_true, decide_eq_true_eq] at h
      omega
theorem holds_f {K : Nat} (hK : 6 ≤ K) (n : ByteArray) (o k i : Int) (t : ByteArray) (vk vi : Int) (vt : ByteArray) (h0 : -9223372036854775808 ≤ i) (h1 : i < 9223372036854775808) (g0 : -9223372036854775808 ≤ vi) (g1 : vi < 9223372036854775808) :
    pred_Holds.f K n o k i t vk vi vt = some (holdsB n o k i t vk vi vt) := by
  obtain ⟨K, rfl⟩ : ∃ m, K = m + 1 := ⟨K - 1, by omega⟩
  unfold pred_Holds.f holdsB
  rw [pright_f K n o k i t h0 h1]
  simp only [Option.bind_some]
  by_cases hp : prightB n o k i t = true
  · rw [if_pos hp, if_pos hp, right_f vk vi vt g0 g1]
    simp only [Option.bind_some, pred_Holds.j0]
    by_cases hv : vright vk vi vt = true
    · obtain ⟨o1, o8⟩ := pright_op hp
      rw [if_neg (by rw [hv]; decide), if_pos hv, compare_f K (by omega)]
      simp only [Option.bind_some]
      rw [hasPrefix_f]
      simp only [Option.bind_some]
      by_cases a8 : o = 8
      · rw [if_pos a8, if_pos a8]
      rw [if_neg a8, if_neg a8]
      by_cases ek : vk = k
      · rw [if_pos ek, if_pos ek]
        by_cases a7 : o = 7
        · rw [if_pos a7, if_pos a7]
        rw [if_neg a7, if_neg a7]
        generalize vcmp vk vi vt k i t = c
        have ho : o = 1 ∨ o = 2 ∨ o = 3 ∨ o = 4 ∨ o = 5 ∨ o = 6 := by omega
        have hc : c < 0 ∨ c = 0 ∨ c > 0 := by omega
        unfold askB
        rcases hc with hc | hc | hc
        · rcases ho with rfl | rfl | rfl | rfl | rfl | rfl <;> simp [hc, show ¬ (c > 0) by omega, show c ≠ 0 by omega, show c ≤ 0 by omega, show ¬ (0 ≤ c) by omega]
        · subst hc
          rcases ho with rfl | rfl | rfl | rfl | rfl | rfl <;> simp
        · rcases ho with rfl | rfl | rfl | rfl | rfl | rfl <;> simp [show c > 0 by omega, show ¬ (c < 0) by omega, show c ≠ 0 by omega, show ¬ (c ≤ 0) by omega, show 0 ≤ c by omega]
      · rw [if_neg ek, if_neg ek]
    · rw [if_pos (by simpa using hv), if_neg hv]
  · rw [if_neg hp, if_neg hp]
    simp only [pred_Holds.j0]
    rw [if_pos trivial]
theorem rholds_f {K : Nat} (n : ByteArray) (o k i : Int) (t : ByteArray) (vk vi : Int) (vt : ByteArray) (h0 : -9223372036854775808 ≤ i) (h1 : i < 9223372036854775808) (g0 : -9223372036854775808 ≤ vi) (g1 : vi < 9223372036854775808) (hs : vt.size < 9223372036854775807) (hK : 2 * vt.size + 5 ≤ K) :
    rosetteref06_Holds.f K n o k i t vk vi vt = some (holdsB n o k i t vk vi vt) := by
  obtain ⟨K, rfl⟩ : ∃ m, K = m + 1 := ⟨K - 1, by omega⟩
  unfold rosetteref06_Holds.f holdsB
  rw [rpright_f (by omega) n o k i t h0 h1, rright_f]
  simp only [Option.bind_some]
  by_cases hp : prightB n o k i t = true
  · rw [if_pos hp, if_pos hp]
    simp only [rosetteref06_Holds.j0]
    by_cases hv : vright vk vi vt = true
    · obtain ⟨o1, o8⟩ := pright_op hp
      rw [if_neg (by rw [hv]; decide), if_pos hv, rcompare_f K _ _ _ _ _ _ hs (by omega)]
      simp only [Option.bind_some]
      by_cases a8 : o = 8
      · rw [if_pos a8, if_pos a8]
      rw [if_neg a8, if_neg a8]
      by_cases ek : vk = k
      · rw [if_pos ek, if_pos ek]
        by_cases a7 : o = 7
        · subst a7
          simp only [show ¬ ((7 : Int) = 1) by decide, show ¬ ((7 : Int) = 2) by decide, show ¬ ((7 : Int) = 3) by decide, show ¬ ((7 : Int) = 4) by decide, show ¬ ((7 : Int) = 5) by decide, show ¬ ((7 : Int) = 6) by decide, if_false, if_true]
          unfold hasPre
          by_cases h : t.size ≤ vt.size
          · rw [if_pos (by omega), if_pos (by omega), if_pos (by omega), if_pos h]; rfl
          · rw [if_neg (by omega), if_neg h]
        rw [if_neg a7]
        generalize vcmp vk vi vt k i t = c
        have ho : o = 1 ∨ o = 2 ∨ o = 3 ∨ o = 4 ∨ o = 5 ∨ o = 6 := by omega
        unfold askB
        rcases ho with rfl | rfl | rfl | rfl | rfl | rfl <;> simp
      · rw [if_neg ek, if_neg ek]
    · rw [if_pos (by simpa using hv), if_neg hv]
  · rw [if_neg hp, if_neg hp]
    simp only [rosetteref06_Holds.j0]
    rw [if_pos trivial]
def pbytes (n : ByteArray) (o k i : Int) (t : ByteArray) : List Int := if prightB n o k i t = true then putL n.size ++ bytesOf n ++ putL o ++ vbytes k i t else []
theorem putL_small (o : Int) (h1 : 1 ≤ o) (h8 : o ≤ 8) : putL o = [o] := by
  have ho : o = 1 ∨ o = 2 ∨ o = 3 ∨ o = 4 ∨ o = 5 ∨ o = 6 ∨ o = 7 ∨ o = 8 := by omega
  rcases ho with rfl | rfl | rfl | rfl | rfl | rfl | rfl | rfl <;> decide +kernel
theorem pright_size {n : ByteArray} {o k i : Int} {t : ByteArray} (h : prightB n o k i t = true) : 1 ≤ n.size ∧ n.size ≤ 16 ∧ t.size ≤ 32 := by
  unfold prightB at h
  rw [pnamed_eq] at h
  split at h
  · simp only [Bool.and_eq_true, decide_eq_true_eq] at h; omega
  · split at h
    · cases h
    · simp only [Bool.and_eq_true, decide_eq_true_eq] at h; omega
theorem pput_f {K : Nat} (hK : 0 < K) (l : List Int) (n : ByteArray) (o k i : Int) (t : ByteArray) (hl : l.length ≤ 100000) (h0 : -9223372036854775808 ≤ i) (h1 : i < 9223372036854775808) :
    pred_Put.f K l n o k i t = some (l ++ pbytes n o k i t) := by
  unfold pred_Put.f pbytes
  refine (bind_of (pright_at hK n o k i t h0 h1)).trans ?_
  by_cases hp : prightB n o k i t = true
  · rw [if_pos hp, if_pos hp]
    obtain ⟨o1, o8⟩ := pright_op hp
    obtain ⟨n1, n16, _⟩ := pright_size hp
    have e1 := bytes_len n
    have e2 := putL_len (n.size : Int)
    have e3 := putL_len o
    refine (bind_of (putText_f l n (by omega) (by omega))).trans ?_
    rw [wrap_k o (by omega) (by omega)]
    refine (bind_of (put_f (l ++ putL n.size ++ bytesOf n) o (by omega) (by omega) (by simp only [List.length_append]; omega))).trans ?_
    refine (bind_of (put_val _ k i t (by simp only [List.length_append]; omega) h0 h1)).trans ?_
    simp only [List.append_assoc]
  · rw [if_neg hp, if_neg hp, List.append_nil]
    have : slices_Clone_byte_byte.f l = some l := by unfold slices_Clone_byte_byte.f; rw [if_pos (by omega)]
    exact (bind_of this).trans rfl
theorem rpput_f {K : Nat} (hK : 0 < K) (l : List Int) (n : ByteArray) (o k i : Int) (t : ByteArray) (hl : l.length ≤ 100000) (h0 : -9223372036854775808 ≤ i) (h1 : i < 9223372036854775808) :
    rosetteref06_Put.f K l n o k i t = some (l ++ pbytes n o k i t) := by
  unfold rosetteref06_Put.f pbytes
  simp only [Option.bind_some, List.nil_append]
  rw [if_pos (by simp; omega)]
  refine (bind_of (rpright_f hK n o k i t h0 h1)).trans ?_
  by_cases hp : prightB n o k i t = true
  · rw [if_pos hp, if_pos hp]
    obtain ⟨o1, o8⟩ := pright_op hp
    obtain ⟨n1, n16, _⟩ := pright_size hp
    have e1 := bytes_len n
    have e2 := putL_len (n.size : Int)
    refine (bind_of (rputText_f l n (by omega) (by omega))).trans ?_
    rw [if_pos (by simp only [List.length_append, List.length_cons, List.length_nil]; omega), show o % 256 = o by omega]
    refine (bind_of (rput_val _ k i t (by simp only [List.length_append, List.length_cons, List.length_nil]; omega) h0 h1)).trans ?_
    rw [putL_small o o1 o8]
    simp only [List.append_assoc]
  · rw [if_neg hp, if_neg hp, List.append_nil]
end Go.Proofs.Ytojefdnngkcaoaa
end

section
/- what is read as a predicate was laid just so, and what was laid is read as it was -/
set_option linter.unusedVariables false
set_option linter.unusedSimpArgs false
set_option autoImplicit false
namespace Go.Proofs.Ytojefdnngkcaoaa
open Go.RowKit Go.Proofs.YtojefdnngkcaoaaW.PrintWords Go.Proofs.YtojefdnngkcaoaaW.PrintLast Go.Proofs.YtojefdnngkcaoaaW.PrintMore Go.Proofs.Ytojefdnngkcaoaa.G

theorem vb_u8s (k i : Int) (t : ByteArray) (h0 : -9223372036854775808 ≤ i) (h1 : i < 9223372036854775808) : u8s (vbytes k i t) := by
  unfold vbytes
  split
  · rename_i h
    rcases vright_k h with ⟨hk, ht⟩ | ⟨hk, hi, ht⟩ | ⟨hk, ht, hi, hj⟩
    · rw [if_pos hk]; exact u8s_append.2 ⟨put_u8s _ (by decide), put_u8s _ (zig_lt _ h0 h1).1⟩
    · rw [if_neg (by omega), if_pos hk]; exact u8s_append.2 ⟨u8s_append.2 ⟨put_u8s _ (by decide), put_u8s _ (by omega)⟩, bytes_u8s _⟩
    · rw [if_neg (by omega), if_neg (by omega)]; exact u8s_append.2 ⟨put_u8s _ (by decide), put_u8s _ hi⟩
  · exact u8s_nil
theorem vbytes_0 (i : Int) (t : ByteArray) : vbytes 0 i t = [] := by
  unfold vbytes
  rw [if_neg]
  intro h
  rcases vright_k h with ⟨hk, _⟩ | ⟨hk, _⟩ | ⟨hk, _⟩ <;> cases hk
theorem pred_chain (s : Sc) (hu : u8s s.l) (o : Int) (v : Vl) (s3 : Sc) (h2 : s.p1.2.p2.1 = o) (h3 : s.p1.2.p2.2.p3 o = (v, s3)) (h0 : s3.e = 0) :
    s.l = putL s.p1.1.size ++ bytesOf s.p1.1 ++ putL o ++ vbytes v.k v.i v.t ++ s3.l ∧ -9223372036854775808 ≤ v.i ∧ v.i < 9223372036854775808 := by
  have e2 : s.p1.2.p2.2.e = 0 := by
    refine Classical.byContradiction fun h => ?_
    have h4 := congrArg (fun q => q.2.e) h3
    simp only [Sc.p3] at h4
    split at h4
    · exact h (h4.trans h0)
    · exact val_err _ h (h4.trans h0)
  have e1 : s.p1.2.e = 0 := by
    refine Classical.byContradiction fun h => ?_
    have := upto_err s.p1.2 8 h
    unfold Sc.p2 at e2
    simp only at e2
    split at e2
    · exact fail_ne _ 3 (by decide) e2
    · exact this e2
  have hn : (strOfNums (s.text 16).1).toList.isEmpty = false ∧ (s.text 16).2.e = 0 := by
    unfold Sc.p1 at e1
    simp only at e1
    split at e1
    · exact absurd e1 (fail_ne _ 3 (by decide))
    · rename_i hq
      exact ⟨by simpa using hq, e1⟩
  have es : s.e = 0 := Classical.byContradiction fun h => text_err s 16 h hn.2
  have hs := eta0 s es
  have ht := text_once s.l hu 16 (by decide) (by rw [← hs]; exact hn.2)
  rw [← hs] at ht
  have hnm : s.p1.1 = strOfNums (s.text 16).1 := rfl
  have h5 : s.p1.2 = (s.text 16).2 := by
    show (if (strOfNums (s.text 16).1).toList.isEmpty = true then (s.text 16).2.fail 3 else (s.text 16).2) = _
    rw [if_neg (by rw [hn.1]; decide)]
  have hu1 : u8s s.p1.2.l := by
    rw [h5]
    exact u8s_right (by rw [← ht.1]; exact hu)
  have hux : u8s (s.text 16).1 := by
    have h6 := hu
    rw [ht.1] at h6
    exact u8s_right (u8s_left h6)
  have h1s := eta0 s.p1.2 e1
  have ho : o ≠ 0 ∧ (s.p1.2.upto 8).2.e = 0 := by
    unfold Sc.p2 at e2 h2
    simp only at e2 h2
    rw [← h2]
    split at e2
    · exact absurd e2 (fail_ne _ 3 (by decide))
    · rename_i hq; exact ⟨hq, e2⟩
  have hup := upto_once s.p1.2.l hu1 8 (by decide) (by rw [← h1s]; exact ho.2)
  rw [← h1s] at hup
  have ho2 : (s.p1.2.upto 8).1 = o := h2
  rw [ho2] at hup
  have hsc : s.p1.2.p2.2 = (s.p1.2.upto 8).2 := by
    show (if (s.p1.2.upto 8).1 = 0 then (s.p1.2.upto 8).2.fail 3 else (s.p1.2.upto 8).2) = _
    rw [if_neg (by rw [ho2]; exact ho.1)]
  have hu2 : u8s s.p1.2.p2.2.l := by rw [hsc]; exact u8s_right (by rw [← hup.1]; exact hu1)
  have h2s := eta0 s.p1.2.p2.2 e2
  have head : ∀ X : List Int, s.p1.2.p2.2.l = X → s.l = putL s.p1.1.size ++ bytesOf s.p1.1 ++ putL o ++ X := fun X hX => by
    rw [hnm, str_size, str_bytes _ hux, ← hX, hsc, List.append_assoc, ← hup.1, h5]
    exact ht.1
  by_cases h8 : o = 8
  · have hv : (vl0, s.p1.2.p2.2) = (v, s3) := by
      unfold Sc.p3 at h3
      rw [if_pos h8] at h3
      exact h3
    obtain ⟨rfl, rfl⟩ := Prod.mk.inj hv
    refine ⟨?_, by decide, by decide⟩
    rw [head _ rfl]
    show _ = _ ++ vbytes 0 0 ByteArray.empty ++ _
    rw [vbytes_0, List.append_nil]
  · have hv : s.p1.2.p2.2.val = (v, s3) := by
      unfold Sc.p3 at h3
      rw [if_neg h8] at h3
      exact h3
    have hval := val_once s.p1.2.p2.2.l hu2 (by rw [← h2s, hv]; exact h0)
    rw [← h2s, hv] at hval
    simp only at hval
    refine ⟨?_, hval.2.2⟩
    rw [head _ hval.2.1]
    simp only [List.append_assoc]
theorem pred_once (l : List Int) (hu : u8s l) {p : Pd} {s4 : Sc} (hp : Sc.pred ⟨l, 0⟩ = (p, s4)) (he : s4.e = 0) :
    prightB p.n p.o p.v.k p.v.i p.v.t = true ∧ l = pbytes p.n p.o p.v.k p.v.i p.v.t ++ s4.l ∧ -9223372036854775808 ≤ p.v.i ∧ p.v.i < 9223372036854775808 := by
  obtain ⟨s, hs⟩ : ∃ s : Sc, s = ⟨l, 0⟩ := ⟨_, rfl⟩
  have hl : s.l = l := by rw [hs]
  rw [← hs] at hp
  rw [← hl] at hu ⊢
  obtain ⟨v, s3, h3⟩ : ∃ v s3, s.p1.2.p2.2.p3 s.p1.2.p2.1 = (v, s3) := ⟨_, _, rfl⟩
  unfold Sc.pred at hp
  rw [h3] at hp
  simp only at hp
  obtain ⟨q, hq⟩ : ∃ q : Pd, q = ⟨s.p1.1, s.p1.2.p2.1, v⟩ := ⟨_, rfl⟩
  rw [← hq] at hp
  unfold Sc.p5 at hp
  split at hp
  · rename_i h4
    obtain ⟨rfl, rfl⟩ := Prod.mk.inj hp
    unfold Sc.p4 at h4 ⊢
    split at h4
    · rename_i hr
      rw [if_pos hr]
      have hc := pred_chain s hu s.p1.2.p2.1 v s3 rfl h3 h4
      unfold pright at hr
      refine ⟨hr, ?_, by rw [hq]; exact hc.2⟩
      unfold pbytes
      rw [if_pos hr, hq]
      exact hc.1
    · exact absurd h4 (fail_ne _ 3 (by decide))
  · rename_i h4
    obtain ⟨_, rfl⟩ := Prod.mk.inj hp
    exact absurd he h4
theorem pred_zero (s : Sc) {p : Pd} {s4 : Sc} (hp : s.pred = (p, s4)) (h : s4.e ≠ 0) : p = pd0 := by
  unfold Sc.pred Sc.p5 at hp
  split at hp
  · rename_i h4
    obtain ⟨_, rfl⟩ := Prod.mk.inj hp
    exact absurd h4 h
  · exact (Prod.mk.inj hp).1.symm
theorem pred_back (n : ByteArray) (o k i : Int) (t : ByteArray) (h : prightB n o k i t = true) (h0 : -9223372036854775808 ≤ i) (h1 : i < 9223372036854775808) : Sc.pred ⟨pbytes n o k i t, 0⟩ = (⟨n, o, ⟨k, i, t⟩⟩, ⟨[], 0⟩) := by
  obtain ⟨o1, o8⟩ := pright_op h
  obtain ⟨n1, n16, _⟩ := pright_size h
  have hl := bytes_len n
  have hb := text_back (bytesOf n) (putL o ++ vbytes k i t) 16 (by omega) (by omega)
  rw [hl] at hb
  have hne : n.toList.isEmpty = false := by
    rw [List.isEmpty_eq_false_iff]
    intro hh
    have := (size_nil n).1 hh
    omega
  have P1 : Sc.p1 ⟨pbytes n o k i t, 0⟩ = (n, ⟨putL o ++ vbytes k i t, 0⟩) := by
    unfold Sc.p1 pbytes
    rw [if_pos h, List.append_assoc, List.append_assoc, hb, str_of_bytes]
    simp only
    rw [if_neg (by rw [hne]; decide)]
  have P2 : Sc.p2 ⟨putL o ++ vbytes k i t, 0⟩ = (o, ⟨vbytes k i t, 0⟩) := by
    have hu : Sc.upto ⟨putL o ++ vbytes k i t, 0⟩ 8 = (o, ⟨vbytes k i t, 0⟩) := by
      unfold Sc.upto
      rw [num_back o _ (by omega) (by omega)]
      rw [if_neg (fun hh => by rcases hh.2 with hh | hh <;> simp at hh; omega)]
      simp only [Prod.mk.injEq, and_true]
      unfold wrap64
      omega
    unfold Sc.p2
    rw [hu]
    simp only
    rw [if_neg (by omega)]
  have P3 : Sc.p3 o ⟨vbytes k i t, 0⟩ = (⟨k, i, t⟩, ⟨[], 0⟩) := by
    unfold Sc.p3
    unfold prightB at h
    by_cases h8 : o = 8
    · rw [if_pos h8] at h ⊢
      simp only [Bool.and_eq_true, beq_iff_eq] at h
      obtain ⟨_, rfl, rfl, ht⟩ := h
      rw [vbytes_0, empty_of ht]
      rfl
    · rw [if_neg h8] at h ⊢
      split at h
      · cases h
      · simp only [Bool.and_eq_true, decide_eq_true_eq] at h
        have := val_back k i t [] h.2.2 h0 h1
        rwa [List.append_nil] at this
  unfold Sc.pred
  rw [P1]
  simp only
  rw [P2]
  simp only
  rw [P3]
  simp only
  unfold Sc.p4 pright
  simp only
  rw [if_pos h]
  unfold Sc.p5
  rw [if_pos rfl]
theorem pb_u8s (n : ByteArray) (o k i : Int) (t : ByteArray) (h0 : -9223372036854775808 ≤ i) (h1 : i < 9223372036854775808) : u8s (pbytes n o k i t) := by
  unfold pbytes
  split
  · rename_i h
    obtain ⟨o1, o8⟩ := pright_op h
    exact u8s_append.2 ⟨u8s_append.2 ⟨u8s_append.2 ⟨put_u8s _ (by omega), bytes_u8s _⟩, put_u8s _ (by omega)⟩, vb_u8s k i t h0 h1⟩
  · exact u8s_nil
theorem pbytes_len (n : ByteArray) (o k i : Int) (t : ByteArray) : (pbytes n o k i t).length ≤ 200 := by
  unfold pbytes
  split
  · rename_i h
    obtain ⟨n1, n16, _⟩ := pright_size h
    have a := putL_len (n.size : Int)
    have b := putL_len o
    have c := vbytes_len k i t
    have d := bytes_len n
    simp only [List.length_append]
    omega
  · simp
theorem pbytes_pos (n : ByteArray) (o k i : Int) (t : ByteArray) : (0 < (pbytes n o k i t).length) ↔ prightB n o k i t = true := by
  unfold pbytes
  split
  · rename_i h
    obtain ⟨n1, n16, _⟩ := pright_size h
    have d := bytes_len n
    simp only [h, iff_true, List.length_append]
    omega
  · rename_i h
    simp [h]
end Go.Proofs.Ytojefdnngkcaoaa
end

section
/- what was laid is read as it was, and what is read was laid just so: the law's walk -/
set_option linter.unusedVariables false
set_option linter.unusedSimpArgs false
set_option autoImplicit false
namespace Go.Proofs.Ytojefdnngkcaoaa
open Go.RowKit Go.Proofs.YtojefdnngkcaoaaW.PrintWords Go.Proofs.YtojefdnngkcaoaaW.PrintLast Go.Proofs.YtojefdnngkcaoaaW.PrintMore Go.Proofs.Ytojefdnngkcaoaa.G

theorem below_via2 {w W W' : World} (h0 : Below w.heap.size w W) (h : Below W.heap.size W W') : Below w.heap.size w W' := h0.trans (h.mono h0.size)
theorem strA {w : World} {A : Option Addr} {l : List Int} (h : (Kd.int .u8).C w A l.length l) (c : Nat) : (convert 27 9 (.slice A l.length c)).run Try.prog w = .ok (.string (strOfNums l)) w :=
  Kd.C_string (P := Try.prog) (A := A) (c := c) Try.underlying27 Try.underlying5 Try.underlying9 h
set_option maxRecDepth 100000 in
set_option maxHeartbeats 4000000 in
theorem predBack_any (nm : ByteArray) (o k i : Int) (t : ByteArray) (A1 : Option Addr) (c1 : Nat) (l1 : List Int) (w : World) (hi : -9223372036854775808 ≤ i ∧ i < 9223372036854775808) (hr1 : (Kd.int .u8).C w A1 l1.length l1) (hc1 : l1.length ≤ c1) (hl1 : l1.length ≤ 140737488351232) (hu1 : u8s l1) :
    Calls Try.prog 7 #[.agg #[.string nm, .int .i64 o, .int .i64 k, .int .i64 i, .string t], .slice A1 l1.length c1] w fun e w' => e = .returned (.bool true) ∧ Below w.heap.size w w' := by
  have HR0 := Aside0.mk (HeldB.low hr1)
  have HU := Aside0.mk hu1
  have HL1 := Aside0.mk hl1
  have HI := Aside0.mk hi
  clear hr1 hu1 hl1
  have hput := pput_f (K := 9) (by decide) [] nm o k i t (by simp) hi.1 hi.2
  have hxu := pb_u8s nm o k i t hi.1 hi.2
  have hxl := pbytes_len nm o k i t
  have hxp := pbytes_pos nm o k i t
  have hxb : prightB nm o k i t = true → Sc.pred ⟨pbytes nm o k i t, 0⟩ = (⟨nm, o, ⟨k, i, t⟩⟩, ⟨[], 0⟩) := fun h => pred_back nm o k i t h hi.1 hi.2
  rw [List.nil_append] at hput
  generalize pbytes nm o k i t = X at *
  have EX := Aside0.mk hput
  have XU := Aside0.mk hxu
  have XL := Aside0.mk hxl
  have XP := Aside0.mk hxp
  have XB := Aside0.mk hxb
  clear hput hxu hxl hxp hxb hi
  have hA := heap_alloc_new w (.cells #[.string nm, .int .i64 o, .int .i64 k, .int .i64 i, .string t] 25)
  have hb := (Below.refl w.heap.size w).alloc (Nat.le_refl _) (.cells #[.string nm, .int .i64 o, .int .i64 k, .int .i64 i, .string t] 25)
  have HAa := Aside0.mk hA
  have HBa := Aside0.mk hb
  clear hA hb
  go_enter Try.func7, Try.ntmps7
  go_upto_region 1 with fail
  have hs1 := lt_of_heap HAa.out
  have HRa := Aside0.mk (HR0.out.below ((Below.refl w.heap.size w).alloc (Nat.le_refl _) (.cells #[.string nm, .int .i64 o, .int .i64 k, .int .i64 i, .string t] 25)))
  generalize w.alloc (.cells #[.string nm, .int .i64 o, .int .i64 k, .int .i64 i, .string t] 25) = wa at HAa HBa HRa hs1 ⊢
  clear HR0
  go_wp2_with fail
  refine (small_any _).mono ?_
  rintro e w4 ⟨rfl, hX⟩
  have HB4 := Aside0.mk (below_via2 HBa.out hX)
  have HA4 := Aside0.mk (vkeepB HAa.out hX)
  have HR4 := Aside0.mk (HRa.out.below hX)
  have o4 := hX.size
  clear hX HBa HAa HRa
  obtain ⟨p0, p1, p2, p3, p4⟩ := vcells5 HA4.out
  go_wp2_with fail
  refine (pred_Put.calls 9 none 0 [] nm o k i t X _ (nil_C _ .u8) (Nat.le_refl _) EX.out).mono ?_
  rintro e w5 ⟨v5, rfl, hR, hX⟩
  obtain ⟨Ax, nx, rfl, hcx, _, hH, _⟩ := held_own hR
  have HB5 := Aside0.mk (below_via2 HB4.out hX)
  have HA5 := Aside0.mk (vkeepB HA4.out hX)
  have HR5 := Aside0.mk (HR4.out.below hX)
  have HX5 := Aside0.mk hH
  have o5 := hX.size
  clear hX hR hH HB4 HA4 HR4 p0 p1 p2 p3 p4
  go_wp2_with fail
  refine (won Ax nx X w5 (HX5.out.C (by have := XL.out; omega)) hcx XU.out (by have := XL.out; omega)).mono ?_
  rintro e w6 ⟨gs, rfl, hgs, hS, hX⟩
  have HB6 := Aside0.mk (below_via2 HB5.out hX)
  have HA6 := Aside0.mk (vkeepB HA5.out hX)
  have HR6 := Aside0.mk (HR5.out.below hX)
  have HS6 := Aside0.mk hS
  clear hX hS HB5 HA5 HR5 HX5
  go_wp2_with fail
  refine (won A1 c1 l1 w6 (HR6.out.C (by have := HL1.out; omega)) hc1 HU.out (by have := HL1.out; omega)).mono ?_
  rintro e w7 ⟨gt, rfl, hgt, hT, hX⟩
  have HB7 := Aside0.mk (below_via2 HB6.out hX)
  have HA7 := Aside0.mk (vkeepB HA6.out hX)
  have HR7 := Aside0.mk (HR6.out.below hX)
  have HS7 := Aside0.mk (HS6.out.below hX)
  have HT7 := Aside0.mk hT
  have ORD := Aside0.mk (show w.heap.size < w5.heap.size ∧ w5.heap.size ≤ gs ∧ gs < w6.heap.size ∧ w6.heap.size ≤ gt from ⟨by omega, hgs, HS6.out.lt, hgt⟩)
  clear hX hT HB6 HA6 HR6 HS6 hgs hgt o4 o5 hs1
  obtain ⟨p0, p1, p2, p3, p4⟩ := vcells5 HA7.out
  by_cases hg1 : l1.length ≤ 300
  · by_cases hg2 : nm.size ≤ 300 ∧ t.size ≤ 300
    · obtain ⟨hg2, hg3⟩ := hg2
      go_upto_region 7 with fail
      go_cut [71] from 51 to 71 (fun s wx => s = .bool false ∧ Aside0 (Below w.heap.size w wx) ∧ Aside0 (HeldB wx (fun k => k < w.heap.size) A1 l1) ∧ Aside0 (Scn 63 (fun k => w6.heap.size ≤ k ∧ k < gt) wx gt ⟨l1, 0⟩))
      case first =>
        have HBc := Aside0.mk (below_drew HB7.out)
        have HAc := Aside0.mk (vkeepB HA7.out (below_drew (Below.refl _ _)))
        have HRc := Aside0.mk (HR7.out.below (below_drew (Below.refl _ _)))
        have HSc := Aside0.mk (HS7.out.below (below_drew (Below.refl _ _)))
        have HTc := Aside0.mk (HT7.out.below (below_drew (Below.refl _ _)))
        clear HB7 HA7 HR7 HS7 HT7 p0 p1 p2 p3 p4
        by_cases hr : prightB nm o k i t = true
        · have RT : Aside0 (pred_Right.f 9 nm o k i t = some true) := ⟨by rw [pright_f 8 nm o k i t HI.out.1 HI.out.2, hr]⟩
          have XBK := Aside0.mk (XB.out hr)
          have hpos : 0 < X.length := XP.out.2 hr
          have f0 : decide (0 < X.length) = true := decide_eq_true hpos
          have f2 : Sc.endE ⟨[], 0⟩ = 0 := rfl
          clear hr XB XP
          refine wp_region_held_drew (S := (fun W => W.cell? ⟨w.heap.size, 0, none⟩ = some (.string nm) ∧ W.cell? ⟨w.heap.size, 1, none⟩ = some (.int .i64 o) ∧ W.cell? ⟨w.heap.size, 2, none⟩ = some (.int .i64 k) ∧ W.cell? ⟨w.heap.size, 3, none⟩ = some (.int .i64 i) ∧ W.cell? ⟨w.heap.size, 4, none⟩ = some (.string t))) (by kernel_rfl) (vcells5 HAc.out) (fun hHeld => ?_)
          refine wpAnyH_take (i := 0) (oi := { dst := some 51, op := Op.load 25 (Operand.tmp 2), type := 25, pos := "law.go:67", after := #[], guard := none }) (v := ?_) rfl (by kernel_rfl) (by kernel_rfl) (by kernel_rfl) (fun _ _ _ h => h) (Or.inl ⟨by rfl, ?_⟩) (by assumption) ?_
          rotate_left
          · intro w hSw
            try dsimp only at hSw
            go_simp
            all_goals with_reducible rfl
          try simp only [Act.put, List.setIfInBounds_toArray, List.set_cons_zero, List.set_cons_succ]
          refine wpAnyH_take (i := 2) (oi := { dst := some 53, op := Op.move (Operand.tmp 6), type := 27, pos := "law.go:67", after := #[], guard := none }) (v := ?_) rfl (by kernel_rfl) (by kernel_rfl) (by kernel_rfl) (fun _ _ _ h => h) (Or.inl ⟨by rfl, ?_⟩) (by assumption) ?_
          rotate_left
          · intro w hSw
            try dsimp only at hSw
            go_simp
            all_goals with_reducible rfl
          try simp only [Act.put, List.setIfInBounds_toArray, List.set_cons_zero, List.set_cons_succ]
          refine wpAnyH_take (i := 3) (oi := { dst := some 54, op := Op.call { callee := Callee.builtin Builtin.len, args := #[Operand.tmp 53], argTypes := #[27] }, type := 3, pos := "law.go:67", after := #[{ on := 2, ground := Ground.data }], guard := none }) (v := ?_) rfl (by kernel_rfl) (by kernel_rfl) (by kernel_rfl) (fun _ _ _ h => h) (Or.inl ⟨by rfl, ?_⟩) (by assumption) ?_
          rotate_left
          · intro w hSw
            try dsimp only at hSw
            go_simp
            all_goals with_reducible rfl
          try simp only [Act.put, List.setIfInBounds_toArray, List.set_cons_zero, List.set_cons_succ]
          refine wpAnyH_take (i := 4) (oi := { dst := some 55, op := Op.binOp BinOp.gtr 3 (Operand.tmp 54) (Operand.const (Value.int IntKind.i64 0)) 3, type := 4, pos := "law.go:67", after := #[{ on := 3, ground := Ground.data }], guard := none }) (v := ?_) rfl (by kernel_rfl) (by kernel_rfl) (by kernel_rfl) (fun _ _ _ h => h) (Or.inl ⟨by rfl, ?_⟩) (by assumption) ?_
          rotate_left
          · intro w hSw
            try dsimp only at hSw
            go_simp
            all_goals with_reducible rfl
          try simp only [Act.put, List.setIfInBounds_toArray, List.set_cons_zero, List.set_cons_succ]
          refine wpAnyH_ready (rs := [1]) (by kernel_rfl) (by simp) ?_
          refine AllReadyH.cons (o := { dst := some 52, op := Op.call { callee := Callee.value (Operand.func 10), args := #[Operand.tmp 51], argTypes := #[25] }, type := 4, pos := "law.go:67", after := #[{ on := 0, ground := Ground.data }], guard := none }) rfl (fun K hK => ?_) AllReadyH.nil
          go_simp
          (go_at_call 10; refine Calls.mono (pred_Right.calls 9 nm o k i t true _ RT.out) ?_; rintro e wn ⟨rfl, hX⟩; have HB' := Aside0.mk (below_via2 HBc.out hX); have HA' := Aside0.mk (vkeepB HAc.out hX); have HS' := Aside0.mk (HSc.out.below hX); have HT' := Aside0.mk (HTc.out.below hX); have HR' := Aside0.mk (HRc.out.below hX); clear hX HBc HAc HSc HTc HRc; have HBc := HB'; have HAc := HA'; have HSc := HS'; have HTc := HT'; have HRc := HR'; clear HB' HA' HS' HT' HR')
          go_wp2_with fail
          refine hK.out _ _ (vcells5 HAc.out) (fun hHeld => ?_)
          clear hK K
          try simp only [Act.put, List.setIfInBounds_toArray, List.set_cons_zero, List.set_cons_succ]
          refine wpAnyH_take (i := 5) (oi := { dst := some 56, op := Op.binOp BinOp.neq 4 (Operand.tmp 52) (Operand.tmp 55) 4, type := 4, pos := "law.go:67", after := #[{ on := 1, ground := Ground.data }, { on := 4, ground := Ground.data }], guard := none }) (v := ?_) rfl (by kernel_rfl) (by kernel_rfl) (by kernel_rfl) (fun _ _ _ h => h) (Or.inl ⟨by rfl, ?_⟩) (by assumption) ?_
          rotate_left
          · intro w hSw
            try dsimp only at hSw
            go_simp
            all_goals with_reducible rfl
          try simp only [Act.put, List.setIfInBounds_toArray, List.set_cons_zero, List.set_cons_succ]
          refine wpAnyH_take (i := 6) (oi := { dst := some 57, op := Op.move (Operand.tmp 56), type := 4, pos := "law.go:67", after := #[{ on := 5, ground := Ground.data }, { on := 1, ground := Ground.chain }], guard := none }) (v := ?_) rfl (by kernel_rfl) (by kernel_rfl) (by kernel_rfl) (fun _ _ _ h => h) (Or.inl ⟨by rfl, ?_⟩) (by assumption) ?_
          rotate_left
          · intro w hSw
            try dsimp only at hSw
            go_simp
            all_goals with_reducible rfl
          try simp only [Act.put, List.setIfInBounds_toArray, List.set_cons_zero, List.set_cons_succ]
          refine wpAnyH_take (i := 7) (oi := { dst := some 58, op := Op.load 25 (Operand.tmp 2), type := 25, pos := "law.go:67", after := #[{ on := 6, ground := Ground.guard }], guard := some (6, false) }) (v := ?_) rfl (by kernel_rfl) (by kernel_rfl) (by kernel_rfl) (fun _ _ _ h => h) (Or.inl ⟨by rfl, ?_⟩) (by assumption) ?_
          rotate_left
          · intro w hSw
            try dsimp only at hSw
            go_simp
            all_goals with_reducible rfl
          try simp only [Act.put, List.setIfInBounds_toArray, List.set_cons_zero, List.set_cons_succ]
          refine wpAnyH_ready (rs := [8]) (by kernel_rfl) (by simp) ?_
          refine AllReadyH.cons (o := { dst := some 59, op := Op.call { callee := Callee.value (Operand.func 10), args := #[Operand.tmp 58], argTypes := #[25] }, type := 4, pos := "law.go:67", after := #[{ on := 7, ground := Ground.data }, { on := 6, ground := Ground.chain }, { on := 6, ground := Ground.guard }], guard := some (6, false) }) rfl (fun K hK => ?_) AllReadyH.nil
          go_simp
          (go_at_call 10; refine Calls.mono (pred_Right.calls 9 nm o k i t true _ RT.out) ?_; rintro e wn ⟨rfl, hX⟩; have HB' := Aside0.mk (below_via2 HBc.out hX); have HA' := Aside0.mk (vkeepB HAc.out hX); have HS' := Aside0.mk (HSc.out.below hX); have HT' := Aside0.mk (HTc.out.below hX); have HR' := Aside0.mk (HRc.out.below hX); clear hX HBc HAc HSc HTc HRc; have HBc := HB'; have HAc := HA'; have HSc := HS'; have HTc := HT'; have HRc := HR'; clear HB' HA' HS' HT' HR')
          go_wp2_with fail
          refine hK.out _ _ (vcells5 HAc.out) (fun hHeld => ?_)
          clear hK K
          try simp only [Act.put, List.setIfInBounds_toArray, List.set_cons_zero, List.set_cons_succ]
          refine wpAnyH_take (i := 9) (oi := { dst := some 60, op := Op.move (Operand.tmp 59), type := 4, pos := "law.go:67", after := #[{ on := 8, ground := Ground.data }, { on := 8, ground := Ground.chain }, { on := 6, ground := Ground.guard }], guard := some (6, false) }) (v := ?_) rfl (by kernel_rfl) (by kernel_rfl) (by kernel_rfl) (fun _ _ _ h => h) (Or.inl ⟨by rfl, ?_⟩) (by assumption) ?_
          rotate_left
          · intro w hSw
            try dsimp only at hSw
            go_simp
            all_goals with_reducible rfl
          try simp only [Act.put, List.setIfInBounds_toArray, List.set_cons_zero, List.set_cons_succ]
          refine wpAnyH_take (i := 10) (oi := { dst := some 61, op := Op.move (Operand.tmp 7), type := 39, pos := "law.go:67", after := #[{ on := 9, ground := Ground.guard }], guard := some (9, true) }) (v := ?_) rfl (by kernel_rfl) (by kernel_rfl) (by kernel_rfl) (fun _ _ _ h => h) (Or.inl ⟨by rfl, ?_⟩) (by assumption) ?_
          rotate_left
          · intro w hSw
            try dsimp only at hSw
            go_simp
            all_goals with_reducible rfl
          try simp only [Act.put, List.setIfInBounds_toArray, List.set_cons_zero, List.set_cons_succ]
          refine wpAnyH_take (i := 12) (oi := { dst := some 63, op := Op.load 25 (Operand.tmp 2), type := 25, pos := "law.go:67", after := #[{ on := 9, ground := Ground.guard }], guard := some (9, true) }) (v := ?_) rfl (by kernel_rfl) (by kernel_rfl) (by kernel_rfl) (fun _ _ _ h => h) (Or.inl ⟨by rfl, ?_⟩) (by assumption) ?_
          rotate_left
          · intro w hSw
            try dsimp only at hSw
            go_simp
            all_goals with_reducible rfl
          try simp only [Act.put, List.setIfInBounds_toArray, List.set_cons_zero, List.set_cons_succ]
          refine wpAnyH_ready (rs := [11]) (by kernel_rfl) (by simp) ?_
          refine AllReadyH.cons (o := { dst := some 62, op := Op.call { callee := Callee.value (Operand.func 20), args := #[Operand.tmp 61], argTypes := #[39] }, type := 25, pos := "law.go:67", after := #[{ on := 10, ground := Ground.data }, { on := 9, ground := Ground.chain }, { on := 9, ground := Ground.guard }], guard := some (9, true) }) rfl (fun K hK => ?_) AllReadyH.nil
          go_simp
          (go_at_call 20; refine Calls.mono (wpget HSc.out) ?_; rintro e wn ⟨rfl, hz, hG⟩; rw [XBK.out] at hz ⊢; simp only [Pd.c]; have ord := ORD.out; have HB' : Aside0 (Below w.heap.size w wn) := ⟨below_of_grown HBc.out hG (by omega)⟩; have HA' := Aside0.mk (vkeepG HAc.out hG (by omega)); have HS' := Aside0.mk hz; have HT' := Aside0.mk (HTc.out.grown hG (by omega) (by omega)); have HR' := Aside0.mk (HRc.out.grown hG (by omega)); clear ord hz hG HBc HAc HSc HTc HRc; have HBc := HB'; have HAc := HA'; have HSc := HS'; have HTc := HT'; have HRc := HR'; clear HB' HA' HS' HT' HR')
          go_wp2_with fail
          refine hK.out _ _ (vcells5 HAc.out) (fun hHeld => ?_)
          clear hK K
          try simp only [Act.put, List.setIfInBounds_toArray, List.set_cons_zero, List.set_cons_succ]
          refine wpAnyH_take (i := 13) (oi := { dst := some 64, op := Op.binOp BinOp.neq 25 (Operand.tmp 62) (Operand.tmp 63) 25, type := 4, pos := "law.go:67", after := #[{ on := 11, ground := Ground.data }, { on := 12, ground := Ground.data }, { on := 9, ground := Ground.guard }], guard := some (9, true) }) (v := ?_) rfl (by kernel_rfl) (by kernel_rfl) (by kernel_rfl) (fun _ _ _ h => h) (Or.inl ⟨by rfl, ?_⟩) (by assumption) ?_
          rotate_left
          · intro w hSw
            try dsimp only at hSw
            go_simp
            all_goals with_reducible rfl
          try simp only [Act.put, List.setIfInBounds_toArray, List.set_cons_zero, List.set_cons_succ]
          refine wpAnyH_take (i := 14) (oi := { dst := some 65, op := Op.move (Operand.tmp 64), type := 4, pos := "law.go:67", after := #[{ on := 13, ground := Ground.data }, { on := 11, ground := Ground.chain }, { on := 9, ground := Ground.guard }], guard := some (9, true) }) (v := ?_) rfl (by kernel_rfl) (by kernel_rfl) (by kernel_rfl) (fun _ _ _ h => h) (Or.inl ⟨by rfl, ?_⟩) (by assumption) ?_
          rotate_left
          · intro w hSw
            try dsimp only at hSw
            go_simp
            all_goals with_reducible rfl
          try simp only [Act.put, List.setIfInBounds_toArray, List.set_cons_zero, List.set_cons_succ]
          refine wpAnyH_take (i := 15) (oi := { dst := some 66, op := Op.move (Operand.tmp 7), type := 39, pos := "law.go:67", after := #[{ on := 14, ground := Ground.guard }], guard := some (14, false) }) (v := ?_) rfl (by kernel_rfl) (by kernel_rfl) (by kernel_rfl) (fun _ _ _ h => h) (Or.inl ⟨by rfl, ?_⟩) (by assumption) ?_
          rotate_left
          · intro w hSw
            try dsimp only at hSw
            go_simp
            all_goals with_reducible rfl
          try simp only [Act.put, List.setIfInBounds_toArray, List.set_cons_zero, List.set_cons_succ]
          refine wpAnyH_ready (rs := [16]) (by kernel_rfl) (by simp) ?_
          refine AllReadyH.cons (o := { dst := some 67, op := Op.call { callee := Callee.value (Operand.func 24), args := #[Operand.tmp 66], argTypes := #[39] }, type := 42, pos := "law.go:67", after := #[{ on := 15, ground := Ground.data }, { on := 14, ground := Ground.chain }, { on := 14, ground := Ground.guard }], guard := some (14, false) }) rfl (fun K hK => ?_) AllReadyH.nil
          go_simp
          (go_at_call 24; have hop := wend HSc.out; refine hop.mono ?_; rintro e wn ⟨rfl, rfl⟩; clear hop)
          go_wp2_with fail
          refine hK.out _ _ (vcells5 HAc.out) (fun hHeld => ?_)
          clear hK K
          try simp only [Act.put, List.setIfInBounds_toArray, List.set_cons_zero, List.set_cons_succ]
          refine wpAnyH_take (i := 17) (oi := { dst := some 68, op := Op.binOp BinOp.neq 42 (Operand.tmp 67) (Operand.const (Value.int IntKind.i64 0)) 42, type := 4, pos := "law.go:67", after := #[{ on := 16, ground := Ground.data }, { on := 14, ground := Ground.guard }], guard := some (14, false) }) (v := ?_) rfl (by kernel_rfl) (by kernel_rfl) (by kernel_rfl) (fun _ _ _ h => h) (Or.inl ⟨by rfl, ?_⟩) (by assumption) ?_
          rotate_left
          · intro w hSw
            try dsimp only at hSw
            go_simp
            all_goals with_reducible rfl
          try simp only [Act.put, List.setIfInBounds_toArray, List.set_cons_zero, List.set_cons_succ]
          refine wpAnyH_take (i := 18) (oi := { dst := some 69, op := Op.pick (Operand.tmp 65) (Operand.const (Value.bool true)) (Operand.tmp 68), type := 4, pos := "law.go:67", after := #[{ on := 14, ground := Ground.data }, { on := 17, ground := Ground.data }, { on := 9, ground := Ground.guard }], guard := some (9, true) }) (v := ?_) rfl (by kernel_rfl) (by kernel_rfl) (by kernel_rfl) (fun _ _ _ h => h) (Or.inl ⟨by rfl, ?_⟩) (by assumption) ?_
          rotate_left
          · intro w hSw
            try dsimp only at hSw
            go_simp
            all_goals with_reducible rfl
          try simp only [Act.put, List.setIfInBounds_toArray, List.set_cons_zero, List.set_cons_succ]
          refine wpAnyH_take (i := 19) (oi := { dst := some 70, op := Op.pick (Operand.tmp 60) (Operand.tmp 69) (Operand.const (Value.bool false)), type := 4, pos := "law.go:67", after := #[{ on := 9, ground := Ground.data }, { on := 18, ground := Ground.data }, { on := 6, ground := Ground.guard }], guard := some (6, false) }) (v := ?_) rfl (by kernel_rfl) (by kernel_rfl) (by kernel_rfl) (fun _ _ _ h => h) (Or.inl ⟨by rfl, ?_⟩) (by assumption) ?_
          rotate_left
          · intro w hSw
            try dsimp only at hSw
            go_simp
            all_goals with_reducible rfl
          try simp only [Act.put, List.setIfInBounds_toArray, List.set_cons_zero, List.set_cons_succ]
          refine wpAnyH_take (i := 20) (oi := { dst := some 71, op := Op.pick (Operand.tmp 57) (Operand.const (Value.bool true)) (Operand.tmp 70), type := 4, pos := "law.go:67", after := #[{ on := 6, ground := Ground.data }, { on := 19, ground := Ground.data }], guard := none }) (v := ?_) rfl (by kernel_rfl) (by kernel_rfl) (by kernel_rfl) (fun _ _ _ h => h) (Or.inl ⟨by rfl, ?_⟩) (by assumption) ?_
          rotate_left
          · intro w hSw
            try dsimp only at hSw
            go_simp
            all_goals with_reducible rfl
          try simp only [Act.put, List.setIfInBounds_toArray, List.set_cons_zero, List.set_cons_succ]
          refine wpAnyH_done (by kernel_rfl) ?_ _
          go_wp2_with fail
          go_meet
          exact ⟨rfl, HBc, HRc, HTc⟩
        · have RT : Aside0 (pred_Right.f 9 nm o k i t = some false) := ⟨by rw [pright_f 8 nm o k i t HI.out.1 HI.out.2]; congr 1; simpa using hr⟩
          have hpos : X.length = 0 := by have := mt XP.out.1 hr; omega
          have f0 : decide (0 < X.length) = false := decide_eq_false (by omega)
          clear hr hpos XB XP
          refine wp_region_held_drew (S := (fun W => W.cell? ⟨w.heap.size, 0, none⟩ = some (.string nm) ∧ W.cell? ⟨w.heap.size, 1, none⟩ = some (.int .i64 o) ∧ W.cell? ⟨w.heap.size, 2, none⟩ = some (.int .i64 k) ∧ W.cell? ⟨w.heap.size, 3, none⟩ = some (.int .i64 i) ∧ W.cell? ⟨w.heap.size, 4, none⟩ = some (.string t))) (by kernel_rfl) (vcells5 HAc.out) (fun hHeld => ?_)
          refine wpAnyH_take (i := 0) (oi := { dst := some 51, op := Op.load 25 (Operand.tmp 2), type := 25, pos := "law.go:67", after := #[], guard := none }) (v := ?_) rfl (by kernel_rfl) (by kernel_rfl) (by kernel_rfl) (fun _ _ _ h => h) (Or.inl ⟨by rfl, ?_⟩) (by assumption) ?_
          rotate_left
          · intro w hSw
            try dsimp only at hSw
            go_simp
            all_goals with_reducible rfl
          try simp only [Act.put, List.setIfInBounds_toArray, List.set_cons_zero, List.set_cons_succ]
          refine wpAnyH_take (i := 2) (oi := { dst := some 53, op := Op.move (Operand.tmp 6), type := 27, pos := "law.go:67", after := #[], guard := none }) (v := ?_) rfl (by kernel_rfl) (by kernel_rfl) (by kernel_rfl) (fun _ _ _ h => h) (Or.inl ⟨by rfl, ?_⟩) (by assumption) ?_
          rotate_left
          · intro w hSw
            try dsimp only at hSw
            go_simp
            all_goals with_reducible rfl
          try simp only [Act.put, List.setIfInBounds_toArray, List.set_cons_zero, List.set_cons_succ]
          refine wpAnyH_take (i := 3) (oi := { dst := some 54, op := Op.call { callee := Callee.builtin Builtin.len, args := #[Operand.tmp 53], argTypes := #[27] }, type := 3, pos := "law.go:67", after := #[{ on := 2, ground := Ground.data }], guard := none }) (v := ?_) rfl (by kernel_rfl) (by kernel_rfl) (by kernel_rfl) (fun _ _ _ h => h) (Or.inl ⟨by rfl, ?_⟩) (by assumption) ?_
          rotate_left
          · intro w hSw
            try dsimp only at hSw
            go_simp
            all_goals with_reducible rfl
          try simp only [Act.put, List.setIfInBounds_toArray, List.set_cons_zero, List.set_cons_succ]
          refine wpAnyH_take (i := 4) (oi := { dst := some 55, op := Op.binOp BinOp.gtr 3 (Operand.tmp 54) (Operand.const (Value.int IntKind.i64 0)) 3, type := 4, pos := "law.go:67", after := #[{ on := 3, ground := Ground.data }], guard := none }) (v := ?_) rfl (by kernel_rfl) (by kernel_rfl) (by kernel_rfl) (fun _ _ _ h => h) (Or.inl ⟨by rfl, ?_⟩) (by assumption) ?_
          rotate_left
          · intro w hSw
            try dsimp only at hSw
            go_simp
            all_goals with_reducible rfl
          try simp only [Act.put, List.setIfInBounds_toArray, List.set_cons_zero, List.set_cons_succ]
          refine wpAnyH_ready (rs := [1]) (by kernel_rfl) (by simp) ?_
          refine AllReadyH.cons (o := { dst := some 52, op := Op.call { callee := Callee.value (Operand.func 10), args := #[Operand.tmp 51], argTypes := #[25] }, type := 4, pos := "law.go:67", after := #[{ on := 0, ground := Ground.data }], guard := none }) rfl (fun K hK => ?_) AllReadyH.nil
          go_simp
          (go_at_call 10; refine Calls.mono (pred_Right.calls 9 nm o k i t false _ RT.out) ?_; rintro e wn ⟨rfl, hX⟩; have HB' := Aside0.mk (below_via2 HBc.out hX); have HA' := Aside0.mk (vkeepB HAc.out hX); have HS' := Aside0.mk (HSc.out.below hX); have HT' := Aside0.mk (HTc.out.below hX); have HR' := Aside0.mk (HRc.out.below hX); clear hX HBc HAc HSc HTc HRc; have HBc := HB'; have HAc := HA'; have HSc := HS'; have HTc := HT'; have HRc := HR'; clear HB' HA' HS' HT' HR')
          go_wp2_with fail
          refine hK.out _ _ (vcells5 HAc.out) (fun hHeld => ?_)
          clear hK K
          try simp only [Act.put, List.setIfInBounds_toArray, List.set_cons_zero, List.set_cons_succ]
          refine wpAnyH_take (i := 5) (oi := { dst := some 56, op := Op.binOp BinOp.neq 4 (Operand.tmp 52) (Operand.tmp 55) 4, type := 4, pos := "law.go:67", after := #[{ on := 1, ground := Ground.data }, { on := 4, ground := Ground.data }], guard := none }) (v := ?_) rfl (by kernel_rfl) (by kernel_rfl) (by kernel_rfl) (fun _ _ _ h => h) (Or.inl ⟨by rfl, ?_⟩) (by assumption) ?_
          rotate_left
          · intro w hSw
            try dsimp only at hSw
            go_simp
            all_goals with_reducible rfl
          try simp only [Act.put, List.setIfInBounds_toArray, List.set_cons_zero, List.set_cons_succ]
          refine wpAnyH_take (i := 6) (oi := { dst := some 57, op := Op.move (Operand.tmp 56), type := 4, pos := "law.go:67", after := #[{ on := 5, ground := Ground.data }, { on := 1, ground := Ground.chain }], guard := none }) (v := ?_) rfl (by kernel_rfl) (by kernel_rfl) (by kernel_rfl) (fun _ _ _ h => h) (Or.inl ⟨by rfl, ?_⟩) (by assumption) ?_
          rotate_left
          · intro w hSw
            try dsimp only at hSw
            go_simp
            all_goals with_reducible rfl
          try simp only [Act.put, List.setIfInBounds_toArray, List.set_cons_zero, List.set_cons_succ]
          refine wpAnyH_take (i := 7) (oi := { dst := some 58, op := Op.load 25 (Operand.tmp 2), type := 25, pos := "law.go:67", after := #[{ on := 6, ground := Ground.guard }], guard := some (6, false) }) (v := ?_) rfl (by kernel_rfl) (by kernel_rfl) (by kernel_rfl) (fun _ _ _ h => h) (Or.inl ⟨by rfl, ?_⟩) (by assumption) ?_
          rotate_left
          · intro w hSw
            try dsimp only at hSw
            go_simp
            all_goals with_reducible rfl
          try simp only [Act.put, List.setIfInBounds_toArray, List.set_cons_zero, List.set_cons_succ]
          refine wpAnyH_ready (rs := [8]) (by kernel_rfl) (by simp) ?_
          refine AllReadyH.cons (o := { dst := some 59, op := Op.call { callee := Callee.value (Operand.func 10), args := #[Operand.tmp 58], argTypes := #[25] }, type := 4, pos := "law.go:67", after := #[{ on := 7, ground := Ground.data }, { on := 6, ground := Ground.chain }, { on := 6, ground := Ground.guard }], guard := some (6, false) }) rfl (fun K hK => ?_) AllReadyH.nil
          go_simp
          (go_at_call 10; refine Calls.mono (pred_Right.calls 9 nm o k i t false _ RT.out) ?_; rintro e wn ⟨rfl, hX⟩; have HB' := Aside0.mk (below_via2 HBc.out hX); have HA' := Aside0.mk (vkeepB HAc.out hX); have HS' := Aside0.mk (HSc.out.below hX); have HT' := Aside0.mk (HTc.out.below hX); have HR' := Aside0.mk (HRc.out.below hX); clear hX HBc HAc HSc HTc HRc; have HBc := HB'; have HAc := HA'; have HSc := HS'; have HTc := HT'; have HRc := HR'; clear HB' HA' HS' HT' HR')
          go_wp2_with fail
          refine hK.out _ _ (vcells5 HAc.out) (fun hHeld => ?_)
          clear hK K
          try simp only [Act.put, List.setIfInBounds_toArray, List.set_cons_zero, List.set_cons_succ]
          refine wpAnyH_take (i := 9) (oi := { dst := some 60, op := Op.move (Operand.tmp 59), type := 4, pos := "law.go:67", after := #[{ on := 8, ground := Ground.data }, { on := 8, ground := Ground.chain }, { on := 6, ground := Ground.guard }], guard := some (6, false) }) (v := ?_) rfl (by kernel_rfl) (by kernel_rfl) (by kernel_rfl) (fun _ _ _ h => h) (Or.inl ⟨by rfl, ?_⟩) (by assumption) ?_
          rotate_left
          · intro w hSw
            try dsimp only at hSw
            go_simp
            all_goals with_reducible rfl
          try simp only [Act.put, List.setIfInBounds_toArray, List.set_cons_zero, List.set_cons_succ]
          refine wpAnyH_take (i := 10) (oi := { dst := some 61, op := Op.move (Operand.tmp 7), type := 39, pos := "law.go:67", after := #[{ on := 9, ground := Ground.guard }], guard := some (9, true) }) (v := undef) rfl (by kernel_rfl) (by kernel_rfl) (by kernel_rfl) (fun _ _ _ h => h) (Or.inr ⟨by rfl, rfl⟩) (by assumption) ?_
          try simp only [Act.put, List.setIfInBounds_toArray, List.set_cons_zero, List.set_cons_succ]
          refine wpAnyH_take (i := 11) (oi := { dst := some 62, op := Op.call { callee := Callee.value (Operand.func 20), args := #[Operand.tmp 61], argTypes := #[39] }, type := 25, pos := "law.go:67", after := #[{ on := 10, ground := Ground.data }, { on := 9, ground := Ground.chain }, { on := 9, ground := Ground.guard }], guard := some (9, true) }) (v := undef) rfl (by kernel_rfl) (by kernel_rfl) (by kernel_rfl) (fun _ _ _ h => h) (Or.inr ⟨by rfl, rfl⟩) (by assumption) ?_
          try simp only [Act.put, List.setIfInBounds_toArray, List.set_cons_zero, List.set_cons_succ]
          refine wpAnyH_take (i := 12) (oi := { dst := some 63, op := Op.load 25 (Operand.tmp 2), type := 25, pos := "law.go:67", after := #[{ on := 9, ground := Ground.guard }], guard := some (9, true) }) (v := undef) rfl (by kernel_rfl) (by kernel_rfl) (by kernel_rfl) (fun _ _ _ h => h) (Or.inr ⟨by rfl, rfl⟩) (by assumption) ?_
          try simp only [Act.put, List.setIfInBounds_toArray, List.set_cons_zero, List.set_cons_succ]
          refine wpAnyH_take (i := 13) (oi := { dst := some 64, op := Op.binOp BinOp.neq 25 (Operand.tmp 62) (Operand.tmp 63) 25, type := 4, pos := "law.go:67", after := #[{ on := 11, ground := Ground.data }, { on := 12, ground := Ground.data }, { on := 9, ground := Ground.guard }], guard := some (9, true) }) (v := undef) rfl (by kernel_rfl) (by kernel_rfl) (by kernel_rfl) (fun _ _ _ h => h) (Or.inr ⟨by rfl, rfl⟩) (by assumption) ?_
          try simp only [Act.put, List.setIfInBounds_toArray, List.set_cons_zero, List.set_cons_succ]
          refine wpAnyH_take (i := 14) (oi := { dst := some 65, op := Op.move (Operand.tmp 64), type := 4, pos := "law.go:67", after := #[{ on := 13, ground := Ground.data }, { on := 11, ground := Ground.chain }, { on := 9, ground := Ground.guard }], guard := some (9, true) }) (v := undef) rfl (by kernel_rfl) (by kernel_rfl) (by kernel_rfl) (fun _ _ _ h => h) (Or.inr ⟨by rfl, rfl⟩) (by assumption) ?_
          try simp only [Act.put, List.setIfInBounds_toArray, List.set_cons_zero, List.set_cons_succ]
          refine wpAnyH_take (i := 15) (oi := { dst := some 66, op := Op.move (Operand.tmp 7), type := 39, pos := "law.go:67", after := #[{ on := 14, ground := Ground.guard }], guard := some (14, false) }) (v := undef) rfl (by kernel_rfl) (by kernel_rfl) (by kernel_rfl) (fun _ _ _ h => h) (Or.inr ⟨by rfl, rfl⟩) (by assumption) ?_
          try simp only [Act.put, List.setIfInBounds_toArray, List.set_cons_zero, List.set_cons_succ]
          refine wpAnyH_take (i := 16) (oi := { dst := some 67, op := Op.call { callee := Callee.value (Operand.func 24), args := #[Operand.tmp 66], argTypes := #[39] }, type := 42, pos := "law.go:67", after := #[{ on := 15, ground := Ground.data }, { on := 14, ground := Ground.chain }, { on := 14, ground := Ground.guard }], guard := some (14, false) }) (v := undef) rfl (by kernel_rfl) (by kernel_rfl) (by kernel_rfl) (fun _ _ _ h => h) (Or.inr ⟨by rfl, rfl⟩) (by assumption) ?_
          try simp only [Act.put, List.setIfInBounds_toArray, List.set_cons_zero, List.set_cons_succ]
          refine wpAnyH_take (i := 17) (oi := { dst := some 68, op := Op.binOp BinOp.neq 42 (Operand.tmp 67) (Operand.const (Value.int IntKind.i64 0)) 42, type := 4, pos := "law.go:67", after := #[{ on := 16, ground := Ground.data }, { on := 14, ground := Ground.guard }], guard := some (14, false) }) (v := undef) rfl (by kernel_rfl) (by kernel_rfl) (by kernel_rfl) (fun _ _ _ h => h) (Or.inr ⟨by rfl, rfl⟩) (by assumption) ?_
          try simp only [Act.put, List.setIfInBounds_toArray, List.set_cons_zero, List.set_cons_succ]
          refine wpAnyH_take (i := 18) (oi := { dst := some 69, op := Op.pick (Operand.tmp 65) (Operand.const (Value.bool true)) (Operand.tmp 68), type := 4, pos := "law.go:67", after := #[{ on := 14, ground := Ground.data }, { on := 17, ground := Ground.data }, { on := 9, ground := Ground.guard }], guard := some (9, true) }) (v := undef) rfl (by kernel_rfl) (by kernel_rfl) (by kernel_rfl) (fun _ _ _ h => h) (Or.inr ⟨by rfl, rfl⟩) (by assumption) ?_
          try simp only [Act.put, List.setIfInBounds_toArray, List.set_cons_zero, List.set_cons_succ]
          refine wpAnyH_take (i := 19) (oi := { dst := some 70, op := Op.pick (Operand.tmp 60) (Operand.tmp 69) (Operand.const (Value.bool false)), type := 4, pos := "law.go:67", after := #[{ on := 9, ground := Ground.data }, { on := 18, ground := Ground.data }, { on := 6, ground := Ground.guard }], guard := some (6, false) }) (v := ?_) rfl (by kernel_rfl) (by kernel_rfl) (by kernel_rfl) (fun _ _ _ h => h) (Or.inl ⟨by rfl, ?_⟩) (by assumption) ?_
          rotate_left
          · intro w hSw
            try dsimp only at hSw
            go_simp
            all_goals with_reducible rfl
          try simp only [Act.put, List.setIfInBounds_toArray, List.set_cons_zero, List.set_cons_succ]
          refine wpAnyH_take (i := 20) (oi := { dst := some 71, op := Op.pick (Operand.tmp 57) (Operand.const (Value.bool true)) (Operand.tmp 70), type := 4, pos := "law.go:67", after := #[{ on := 6, ground := Ground.data }, { on := 19, ground := Ground.data }], guard := none }) (v := ?_) rfl (by kernel_rfl) (by kernel_rfl) (by kernel_rfl) (fun _ _ _ h => h) (Or.inl ⟨by rfl, ?_⟩) (by assumption) ?_
          rotate_left
          · intro w hSw
            try dsimp only at hSw
            go_simp
            all_goals with_reducible rfl
          try simp only [Act.put, List.setIfInBounds_toArray, List.set_cons_zero, List.set_cons_succ]
          refine wpAnyH_done (by kernel_rfl) ?_ _
          go_wp2_with fail
          go_meet
          exact ⟨rfl, HBc, HRc, HTc⟩
      case rest =>
        obtain ⟨rfl, HB8, HR8, HT8⟩ := hcut
        clear HB7 HA7 HR7 HS7 HT7 p0 p1 p2 p3 p4 XB XP EX XU XL
        obtain ⟨yn, yo, yk, yi, yt, s2, hv⟩ : ∃ yn yo yk yi yt s2, Sc.pred ⟨l1, 0⟩ = (⟨yn, yo, ⟨yk, yi, yt⟩⟩, s2) := ⟨_, _, _, _, _, _, rfl⟩
        have honce : s2.e = 0 → prightB yn yo yk yi yt = true ∧ l1 = pbytes yn yo yk yi yt ++ s2.l ∧ -9223372036854775808 ≤ yi ∧ yi < 9223372036854775808 := fun h => pred_once l1 HU.out hv h
        have hzero : s2.e ≠ 0 → yn = ByteArray.empty ∧ yo = 0 ∧ yk = 0 ∧ yi = 0 ∧ yt = ByteArray.empty := fun h => by
          have := pred_zero ⟨l1, 0⟩ hv h
          simp only [pd0, vl0, Pd.mk.injEq, Vl.mk.injEq] at this
          exact this
        have HV := Aside0.mk hv
        have HO := Aside0.mk honce
        have HZ := Aside0.mk hzero
        clear hv honce hzero
        go_wp2_with fail
        refine (wpget HT8.out).mono ?_
        rintro e w9 ⟨rfl, hz, hG⟩
        rw [HV.out] at hz ⊢
        simp only [Pd.c]
        have ord := ORD.out
        have hB9 : Below w.heap.size w w9 := below_of_grown HB8.out hG (by omega)
        have hb9 := (Below.refl w9.heap.size w9).alloc (Nat.le_refl _) (.cells #[.string yn, .int .i64 yo, .int .i64 yk, .int .i64 yi, .string yt] 25)
        have HY9 := Aside0.mk (heap_alloc_new w9 (.cells #[.string yn, .int .i64 yo, .int .i64 yk, .int .i64 yi, .string yt] 25))
        have HB9 := Aside0.mk (below_via2 hB9 hb9)
        have HR9 := Aside0.mk ((HR8.out.grown hG (by omega)).below hb9)
        have HT9 := Aside0.mk (hz.below hb9)
        clear hz hG ord hB9 hb9 HB8 HR8 HT8
        go_upto_region 10 with fail
        generalize w9.alloc (.cells #[.string yn, .int .i64 yo, .int .i64 yk, .int .i64 yi, .string yt] 25) = wz at HY9 HB9 HR9 HT9 ⊢
        generalize w9.heap.size = gy at HY9 ⊢
        obtain ⟨y0, y1, y2, y3, y4⟩ := vcells5 HY9.out
        by_cases e0 : s2.e = 0
        · have b0 : (s2.e != 0) = false := by simp [e0]
          obtain ⟨hyr, hyl, hy0, hy1⟩ := HO.out e0
          have hput := pput_f (K := 9) (by decide) [] yn yo yk yi yt (by simp) hy0 hy1
          have hxu := pb_u8s yn yo yk yi yt hy0 hy1
          have hxl := pbytes_len yn yo yk yi yt
          rw [List.nil_append] at hput
          generalize pbytes yn yo yk yi yt = Y at *
          have EY := Aside0.mk hput
          have YL := Aside0.mk hxl
          have YE := Aside0.mk hyl
          have YR : Aside0 (pred_Right.f 9 yn yo yk yi yt = some true) := ⟨by rw [pright_f 8 yn yo yk yi yt hy0 hy1, hyr]⟩
          have HLE : Aside0 (l1.length = Y.length + s2.l.length) := ⟨by rw [hyl, List.length_append]⟩
          clear hput hxu hxl hyl hyr hy0 hy1 e0 HZ HO
          go_wp2_with (go_at_call 23; have hop := werr HT9.out; refine hop.mono ?_; rintro e wq ⟨rfl, rfl⟩; clear hop)
          refine (pred_Put.calls 9 none 0 [] yn yo yk yi yt Y _ (nil_C _ .u8) (Nat.le_refl _) EY.out).mono ?_
          rintro e w10 ⟨v10, rfl, hR, hX⟩
          obtain ⟨Ay, ny, rfl, hcy, _, hH, _⟩ := held_own hR
          have HB10 := Aside0.mk (below_via2 HB9.out hX)
          have HR10 := Aside0.mk (HR9.out.below hX)
          have HTz := Aside0.mk (HT9.out.below hX)
          have HYz := Aside0.mk (vkeepB HY9.out hX)
          have HH10 := Aside0.mk hH
          clear hX hR hH HB9 HR9 HT9 HY9 y0 y1 y2 y3 y4
          go_wp2_with fail
          clear b0
          have HRY : Aside0 (HeldB w10 (fun k => k < w.heap.size) A1 Y) := ⟨by have h := HR10.out; rw [YE.out] at h; exact h.take⟩
          have hlen := HLE.out
          have SZ : Aside0 (∀ W : World, Below w10.heap.size w10 W → Below w10.heap.size w10 W ∧ W.cell? ⟨gy, 0, none⟩ = some (.string yn) ∧ W.cell? ⟨gy, 1, none⟩ = some (.int .i64 yo) ∧ W.cell? ⟨gy, 2, none⟩ = some (.int .i64 yk) ∧ W.cell? ⟨gy, 3, none⟩ = some (.int .i64 yi) ∧ W.cell? ⟨gy, 4, none⟩ = some (.string yt) ∧ (∀ c : Nat, (convert 27 9 (.slice Ay Y.length c)).run Try.prog W = .ok (.string (strOfNums Y)) W) ∧ (∀ c : Nat, (convert 27 9 (.slice A1 Y.length c)).run Try.prog W = .ok (.string (strOfNums Y)) W)) := ⟨fun W hW => ⟨hW, (vcells5 (vkeepB HYz.out hW)).1, (vcells5 (vkeepB HYz.out hW)).2.1, (vcells5 (vkeepB HYz.out hW)).2.2.1, (vcells5 (vkeepB HYz.out hW)).2.2.2.1, (vcells5 (vkeepB HYz.out hW)).2.2.2.2, fun c => strA ((HH10.out.below hW).C (by have := YL.out; omega)) c, fun c => strA ((HRY.out.below hW).C (by have := YL.out; omega)) c⟩⟩
          have g1 : (Y.length : Int) ≤ (l1.length : Int) := by omega
          have g2 : decide ((Y.length : Int) ≤ (l1.length : Int)) = true := decide_eq_true g1
          have g3 : IntKind.i64.wrap ((l1.length : Int) - (s2.l.length : Int)) = (Y.length : Int) := by rw [IntKind.wrap_i64]; omega
          have g4 : (0 : Int) ≤ (Y.length : Int) := by omega
          have g5 : (Y.length : Int) ≤ (c1 : Int) := by omega
          clear hlen
          refine wp_region_held_drew (S := (fun W => Below w10.heap.size w10 W ∧ W.cell? ⟨gy, 0, none⟩ = some (.string yn) ∧ W.cell? ⟨gy, 1, none⟩ = some (.int .i64 yo) ∧ W.cell? ⟨gy, 2, none⟩ = some (.int .i64 yk) ∧ W.cell? ⟨gy, 3, none⟩ = some (.int .i64 yi) ∧ W.cell? ⟨gy, 4, none⟩ = some (.string yt) ∧ (∀ c : Nat, (convert 27 9 (.slice Ay Y.length c)).run Try.prog W = .ok (.string (strOfNums Y)) W) ∧ (∀ c : Nat, (convert 27 9 (.slice A1 Y.length c)).run Try.prog W = .ok (.string (strOfNums Y)) W))) (by kernel_rfl) (SZ.out _ (below_drew (Below.refl _ _))) (fun hHeld => ?_)
          refine wpAnyH_take (i := 0) (oi := { dst := some 85, op := Op.move (Operand.tmp 5), type := 4, pos := "law.go:75", after := #[], guard := none }) (v := ?_) rfl (by kernel_rfl) (by kernel_rfl) (by kernel_rfl) (fun _ _ _ h => h) (Or.inl ⟨by rfl, ?_⟩) (by assumption) ?_
          rotate_left
          · intro w hSw
            try dsimp only at hSw
            go_simp
            all_goals with_reducible rfl
          try simp only [Act.put, List.setIfInBounds_toArray, List.set_cons_zero, List.set_cons_succ]
          refine wpAnyH_take (i := 1) (oi := { dst := some 86, op := Op.move (Operand.tmp 85), type := 4, pos := "law.go:75", after := #[{ on := 0, ground := Ground.data }], guard := none }) (v := ?_) rfl (by kernel_rfl) (by kernel_rfl) (by kernel_rfl) (fun _ _ _ h => h) (Or.inl ⟨by rfl, ?_⟩) (by assumption) ?_
          rotate_left
          · intro w hSw
            try dsimp only at hSw
            go_simp
            all_goals with_reducible rfl
          try simp only [Act.put, List.setIfInBounds_toArray, List.set_cons_zero, List.set_cons_succ]
          refine wpAnyH_take (i := 2) (oi := { dst := some 87, op := Op.load 25 (Operand.tmp 9), type := 25, pos := "law.go:75", after := #[{ on := 1, ground := Ground.guard }], guard := some (1, true) }) (v := ?_) rfl (by kernel_rfl) (by kernel_rfl) (by kernel_rfl) (fun _ _ _ h => h) (Or.inl ⟨by rfl, ?_⟩) (by assumption) ?_
          rotate_left
          · intro w hSw
            try dsimp only at hSw
            go_simp
            all_goals with_reducible rfl
          try simp only [Act.put, List.setIfInBounds_toArray, List.set_cons_zero, List.set_cons_succ]
          refine wpAnyH_ready (rs := [3]) (by kernel_rfl) (by simp) ?_
          refine AllReadyH.cons (o := { dst := some 88, op := Op.call { callee := Callee.value (Operand.func 10), args := #[Operand.tmp 87], argTypes := #[25] }, type := 4, pos := "law.go:75", after := #[{ on := 2, ground := Ground.data }, { on := 1, ground := Ground.chain }, { on := 1, ground := Ground.guard }], guard := some (1, true) }) rfl (fun K hK => ?_) AllReadyH.nil
          go_simp
          (go_at_call 10; refine Calls.mono (pred_Right.calls 9 yn yo yk yi yt true _ YR.out) ?_; rintro e wn ⟨rfl, hX⟩; have hb6 := below_via2 hHeld.1 hX; have HTn := Aside0.mk (HTz.out.below hb6); clear hX hHeld)
          go_wp2_with fail
          refine hK.out _ _ (SZ.out _ (by first | assumption | exact hHeld.1)) (fun hHeld => ?_)
          clear hK K
          try simp only [Act.put, List.setIfInBounds_toArray, List.set_cons_zero, List.set_cons_succ]
          refine wpAnyH_take (i := 4) (oi := { dst := some 89, op := Op.pick (Operand.tmp 86) (Operand.tmp 88) (Operand.const (Value.bool false)), type := 4, pos := "law.go:75", after := #[{ on := 1, ground := Ground.data }, { on := 3, ground := Ground.data }], guard := none }) (v := ?_) rfl (by kernel_rfl) (by kernel_rfl) (by kernel_rfl) (fun _ _ _ h => h) (Or.inl ⟨by rfl, ?_⟩) (by assumption) ?_
          rotate_left
          · intro w hSw
            try dsimp only at hSw
            go_simp
            all_goals with_reducible rfl
          try simp only [Act.put, List.setIfInBounds_toArray, List.set_cons_zero, List.set_cons_succ]
          refine wpAnyH_take (i := 5) (oi := { dst := some 90, op := Op.move (Operand.tmp 89), type := 4, pos := "law.go:75", after := #[{ on := 4, ground := Ground.data }, { on := 3, ground := Ground.chain }], guard := none }) (v := ?_) rfl (by kernel_rfl) (by kernel_rfl) (by kernel_rfl) (fun _ _ _ h => h) (Or.inl ⟨by rfl, ?_⟩) (by assumption) ?_
          rotate_left
          · intro w hSw
            try dsimp only at hSw
            go_simp
            all_goals with_reducible rfl
          try simp only [Act.put, List.setIfInBounds_toArray, List.set_cons_zero, List.set_cons_succ]
          refine wpAnyH_take (i := 6) (oi := { dst := some 91, op := Op.move (Operand.tmp 10), type := 27, pos := "law.go:75", after := #[{ on := 5, ground := Ground.guard }], guard := some (5, true) }) (v := ?_) rfl (by kernel_rfl) (by kernel_rfl) (by kernel_rfl) (fun _ _ _ h => h) (Or.inl ⟨by rfl, ?_⟩) (by assumption) ?_
          rotate_left
          · intro w hSw
            try dsimp only at hSw
            go_simp
            all_goals with_reducible rfl
          try simp only [Act.put, List.setIfInBounds_toArray, List.set_cons_zero, List.set_cons_succ]
          refine wpAnyH_take (i := 7) (oi := { dst := some 92, op := Op.call { callee := Callee.builtin Builtin.len, args := #[Operand.tmp 91], argTypes := #[27] }, type := 3, pos := "law.go:75", after := #[{ on := 6, ground := Ground.data }, { on := 5, ground := Ground.guard }], guard := some (5, true) }) (v := ?_) rfl (by kernel_rfl) (by kernel_rfl) (by kernel_rfl) (fun _ _ _ h => h) (Or.inl ⟨by rfl, ?_⟩) (by assumption) ?_
          rotate_left
          · intro w hSw
            try dsimp only at hSw
            go_simp
            all_goals with_reducible rfl
          try simp only [Act.put, List.setIfInBounds_toArray, List.set_cons_zero, List.set_cons_succ]
          refine wpAnyH_take (i := 8) (oi := { dst := some 93, op := Op.move (Operand.tmp 1), type := 27, pos := "law.go:75", after := #[{ on := 5, ground := Ground.guard }], guard := some (5, true) }) (v := ?_) rfl (by kernel_rfl) (by kernel_rfl) (by kernel_rfl) (fun _ _ _ h => h) (Or.inl ⟨by rfl, ?_⟩) (by assumption) ?_
          rotate_left
          · intro w hSw
            try dsimp only at hSw
            go_simp
            all_goals with_reducible rfl
          try simp only [Act.put, List.setIfInBounds_toArray, List.set_cons_zero, List.set_cons_succ]
          refine wpAnyH_take (i := 9) (oi := { dst := some 94, op := Op.call { callee := Callee.builtin Builtin.len, args := #[Operand.tmp 93], argTypes := #[27] }, type := 3, pos := "law.go:75", after := #[{ on := 8, ground := Ground.data }, { on := 5, ground := Ground.guard }], guard := some (5, true) }) (v := ?_) rfl (by kernel_rfl) (by kernel_rfl) (by kernel_rfl) (fun _ _ _ h => h) (Or.inl ⟨by rfl, ?_⟩) (by assumption) ?_
          rotate_left
          · intro w hSw
            try dsimp only at hSw
            go_simp
            all_goals with_reducible rfl
          try simp only [Act.put, List.setIfInBounds_toArray, List.set_cons_zero, List.set_cons_succ]
          refine wpAnyH_take (i := 10) (oi := { dst := some 95, op := Op.binOp BinOp.leq 3 (Operand.tmp 92) (Operand.tmp 94) 3, type := 4, pos := "law.go:75", after := #[{ on := 7, ground := Ground.data }, { on := 9, ground := Ground.data }, { on := 5, ground := Ground.guard }], guard := some (5, true) }) (v := ?_) rfl (by kernel_rfl) (by kernel_rfl) (by kernel_rfl) (fun _ _ _ h => h) (Or.inl ⟨by rfl, ?_⟩) (by assumption) ?_
          rotate_left
          · intro w hSw
            try dsimp only at hSw
            go_simp
            all_goals with_reducible rfl
          try simp only [Act.put, List.setIfInBounds_toArray, List.set_cons_zero, List.set_cons_succ]
          refine wpAnyH_take (i := 11) (oi := { dst := some 96, op := Op.pick (Operand.tmp 90) (Operand.tmp 95) (Operand.const (Value.bool false)), type := 4, pos := "law.go:75", after := #[{ on := 5, ground := Ground.data }, { on := 10, ground := Ground.data }], guard := none }) (v := ?_) rfl (by kernel_rfl) (by kernel_rfl) (by kernel_rfl) (fun _ _ _ h => h) (Or.inl ⟨by rfl, ?_⟩) (by assumption) ?_
          rotate_left
          · intro w hSw
            try dsimp only at hSw
            go_simp
            all_goals with_reducible rfl
          try simp only [Act.put, List.setIfInBounds_toArray, List.set_cons_zero, List.set_cons_succ]
          refine wpAnyH_take (i := 12) (oi := { dst := some 97, op := Op.move (Operand.tmp 96), type := 4, pos := "law.go:75", after := #[{ on := 11, ground := Ground.data }, { on := 5, ground := Ground.chain }], guard := none }) (v := ?_) rfl (by kernel_rfl) (by kernel_rfl) (by kernel_rfl) (fun _ _ _ h => h) (Or.inl ⟨by rfl, ?_⟩) (by assumption) ?_
          rotate_left
          · intro w hSw
            try dsimp only at hSw
            go_simp
            all_goals with_reducible rfl
          try simp only [Act.put, List.setIfInBounds_toArray, List.set_cons_zero, List.set_cons_succ]
          refine wpAnyH_take (i := 13) (oi := { dst := some 98, op := Op.move (Operand.tmp 10), type := 27, pos := "law.go:75", after := #[{ on := 12, ground := Ground.guard }], guard := some (12, true) }) (v := ?_) rfl (by kernel_rfl) (by kernel_rfl) (by kernel_rfl) (fun _ _ _ h => h) (Or.inl ⟨by rfl, ?_⟩) (by assumption) ?_
          rotate_left
          · intro w hSw
            try dsimp only at hSw
            go_simp
            all_goals with_reducible rfl
          try simp only [Act.put, List.setIfInBounds_toArray, List.set_cons_zero, List.set_cons_succ]
          refine wpAnyH_take (i := 14) (oi := { dst := some 99, op := Op.call { callee := Callee.builtin Builtin.len, args := #[Operand.tmp 98], argTypes := #[27] }, type := 3, pos := "law.go:75", after := #[{ on := 13, ground := Ground.data }, { on := 12, ground := Ground.guard }], guard := some (12, true) }) (v := ?_) rfl (by kernel_rfl) (by kernel_rfl) (by kernel_rfl) (fun _ _ _ h => h) (Or.inl ⟨by rfl, ?_⟩) (by assumption) ?_
          rotate_left
          · intro w hSw
            try dsimp only at hSw
            go_simp
            all_goals with_reducible rfl
          try simp only [Act.put, List.setIfInBounds_toArray, List.set_cons_zero, List.set_cons_succ]
          refine wpAnyH_take (i := 15) (oi := { dst := some 100, op := Op.move (Operand.tmp 1), type := 27, pos := "law.go:75", after := #[{ on := 12, ground := Ground.guard }], guard := some (12, true) }) (v := ?_) rfl (by kernel_rfl) (by kernel_rfl) (by kernel_rfl) (fun _ _ _ h => h) (Or.inl ⟨by rfl, ?_⟩) (by assumption) ?_
          rotate_left
          · intro w hSw
            try dsimp only at hSw
            go_simp
            all_goals with_reducible rfl
          try simp only [Act.put, List.setIfInBounds_toArray, List.set_cons_zero, List.set_cons_succ]
          refine wpAnyH_take (i := 16) (oi := { dst := some 101, op := Op.call { callee := Callee.builtin Builtin.len, args := #[Operand.tmp 100], argTypes := #[27] }, type := 3, pos := "law.go:75", after := #[{ on := 15, ground := Ground.data }, { on := 12, ground := Ground.guard }], guard := some (12, true) }) (v := ?_) rfl (by kernel_rfl) (by kernel_rfl) (by kernel_rfl) (fun _ _ _ h => h) (Or.inl ⟨by rfl, ?_⟩) (by assumption) ?_
          rotate_left
          · intro w hSw
            try dsimp only at hSw
            go_simp
            all_goals with_reducible rfl
          try simp only [Act.put, List.setIfInBounds_toArray, List.set_cons_zero, List.set_cons_succ]
          refine wpAnyH_take (i := 17) (oi := { dst := some 102, op := Op.move (Operand.tmp 8), type := 39, pos := "law.go:75", after := #[{ on := 12, ground := Ground.guard }], guard := some (12, true) }) (v := ?_) rfl (by kernel_rfl) (by kernel_rfl) (by kernel_rfl) (fun _ _ _ h => h) (Or.inl ⟨by rfl, ?_⟩) (by assumption) ?_
          rotate_left
          · intro w hSw
            try dsimp only at hSw
            go_simp
            all_goals with_reducible rfl
          try simp only [Act.put, List.setIfInBounds_toArray, List.set_cons_zero, List.set_cons_succ]
          refine wpAnyH_ready (rs := [18]) (by kernel_rfl) (by simp) ?_
          refine AllReadyH.cons (o := { dst := some 103, op := Op.call { callee := Callee.value (Operand.func 22), args := #[Operand.tmp 102], argTypes := #[39] }, type := 3, pos := "law.go:75", after := #[{ on := 17, ground := Ground.data }, { on := 12, ground := Ground.chain }, { on := 12, ground := Ground.guard }], guard := some (12, true) }) rfl (fun K hK => ?_) AllReadyH.nil
          go_simp
          (go_at_call 22; have hop := wleft HTn.out; refine hop.mono ?_; rintro e wm ⟨rfl, rfl⟩; clear hop)
          go_wp2_with fail
          refine hK.out _ _ (SZ.out _ (by first | assumption | exact hHeld.1)) (fun hHeld => ?_)
          clear hK K
          try simp only [Act.put, List.setIfInBounds_toArray, List.set_cons_zero, List.set_cons_succ]
          refine wpAnyH_take (i := 19) (oi := { dst := some 104, op := Op.binOp BinOp.sub 3 (Operand.tmp 101) (Operand.tmp 103) 3, type := 3, pos := "law.go:75", after := #[{ on := 16, ground := Ground.data }, { on := 18, ground := Ground.data }, { on := 12, ground := Ground.guard }], guard := some (12, true) }) (v := ?_) rfl (by kernel_rfl) (by kernel_rfl) (by kernel_rfl) (fun _ _ _ h => h) (Or.inl ⟨by rfl, ?_⟩) (by assumption) ?_
          rotate_left
          · intro w hSw
            try dsimp only at hSw
            go_simp
            all_goals with_reducible rfl
          try simp only [Act.put, List.setIfInBounds_toArray, List.set_cons_zero, List.set_cons_succ]
          refine wpAnyH_take (i := 20) (oi := { dst := some 105, op := Op.binOp BinOp.eql 3 (Operand.tmp 99) (Operand.tmp 104) 3, type := 4, pos := "law.go:75", after := #[{ on := 14, ground := Ground.data }, { on := 19, ground := Ground.data }, { on := 12, ground := Ground.guard }], guard := some (12, true) }) (v := ?_) rfl (by kernel_rfl) (by kernel_rfl) (by kernel_rfl) (fun _ _ _ h => h) (Or.inl ⟨by rfl, ?_⟩) (by assumption) ?_
          rotate_left
          · intro w hSw
            try dsimp only at hSw
            go_simp
            all_goals with_reducible rfl
          try simp only [Act.put, List.setIfInBounds_toArray, List.set_cons_zero, List.set_cons_succ]
          refine wpAnyH_take (i := 21) (oi := { dst := some 106, op := Op.pick (Operand.tmp 97) (Operand.tmp 105) (Operand.const (Value.bool false)), type := 4, pos := "law.go:75", after := #[{ on := 12, ground := Ground.data }, { on := 20, ground := Ground.data }], guard := none }) (v := ?_) rfl (by kernel_rfl) (by kernel_rfl) (by kernel_rfl) (fun _ _ _ h => h) (Or.inl ⟨by rfl, ?_⟩) (by assumption) ?_
          rotate_left
          · intro w hSw
            try dsimp only at hSw
            go_simp
            all_goals with_reducible rfl
          try simp only [Act.put, List.setIfInBounds_toArray, List.set_cons_zero, List.set_cons_succ]
          refine wpAnyH_take (i := 22) (oi := { dst := some 107, op := Op.move (Operand.tmp 106), type := 4, pos := "law.go:75", after := #[{ on := 21, ground := Ground.data }, { on := 18, ground := Ground.chain }], guard := none }) (v := ?_) rfl (by kernel_rfl) (by kernel_rfl) (by kernel_rfl) (fun _ _ _ h => h) (Or.inl ⟨by rfl, ?_⟩) (by assumption) ?_
          rotate_left
          · intro w hSw
            try dsimp only at hSw
            go_simp
            all_goals with_reducible rfl
          try simp only [Act.put, List.setIfInBounds_toArray, List.set_cons_zero, List.set_cons_succ]
          refine wpAnyH_take (i := 23) (oi := { dst := some 108, op := Op.move (Operand.tmp 10), type := 27, pos := "law.go:75", after := #[{ on := 22, ground := Ground.guard }], guard := some (22, true) }) (v := ?_) rfl (by kernel_rfl) (by kernel_rfl) (by kernel_rfl) (fun _ _ _ h => h) (Or.inl ⟨by rfl, ?_⟩) (by assumption) ?_
          rotate_left
          · intro w hSw
            try dsimp only at hSw
            go_simp
            all_goals with_reducible rfl
          try simp only [Act.put, List.setIfInBounds_toArray, List.set_cons_zero, List.set_cons_succ]
          refine wpAnyH_take (i := 24) (oi := { dst := some 109, op := Op.convert 27 9 (Operand.tmp 108), type := 9, pos := "law.go:75", after := #[{ on := 23, ground := Ground.data }, { on := 22, ground := Ground.guard }], guard := some (22, true) }) (v := ?_) rfl (by kernel_rfl) (by kernel_rfl) (by kernel_rfl) (fun _ _ _ h => h) (Or.inl ⟨by rfl, ?_⟩) (by assumption) ?_
          rotate_left
          · intro w hSw
            try dsimp only at hSw
            go_simp
            all_goals with_reducible rfl
          try simp only [Act.put, List.setIfInBounds_toArray, List.set_cons_zero, List.set_cons_succ]
          refine wpAnyH_take (i := 25) (oi := { dst := some 110, op := Op.move (Operand.tmp 1), type := 27, pos := "law.go:75", after := #[{ on := 22, ground := Ground.guard }], guard := some (22, true) }) (v := ?_) rfl (by kernel_rfl) (by kernel_rfl) (by kernel_rfl) (fun _ _ _ h => h) (Or.inl ⟨by rfl, ?_⟩) (by assumption) ?_
          rotate_left
          · intro w hSw
            try dsimp only at hSw
            go_simp
            all_goals with_reducible rfl
          try simp only [Act.put, List.setIfInBounds_toArray, List.set_cons_zero, List.set_cons_succ]
          refine wpAnyH_take (i := 26) (oi := { dst := some 111, op := Op.move (Operand.tmp 10), type := 27, pos := "law.go:75", after := #[{ on := 22, ground := Ground.guard }], guard := some (22, true) }) (v := ?_) rfl (by kernel_rfl) (by kernel_rfl) (by kernel_rfl) (fun _ _ _ h => h) (Or.inl ⟨by rfl, ?_⟩) (by assumption) ?_
          rotate_left
          · intro w hSw
            try dsimp only at hSw
            go_simp
            all_goals with_reducible rfl
          try simp only [Act.put, List.setIfInBounds_toArray, List.set_cons_zero, List.set_cons_succ]
          refine wpAnyH_take (i := 27) (oi := { dst := some 112, op := Op.call { callee := Callee.builtin Builtin.len, args := #[Operand.tmp 111], argTypes := #[27] }, type := 3, pos := "law.go:75", after := #[{ on := 26, ground := Ground.data }, { on := 22, ground := Ground.guard }], guard := some (22, true) }) (v := ?_) rfl (by kernel_rfl) (by kernel_rfl) (by kernel_rfl) (fun _ _ _ h => h) (Or.inl ⟨by rfl, ?_⟩) (by assumption) ?_
          rotate_left
          · intro w hSw
            try dsimp only at hSw
            go_simp
            all_goals with_reducible rfl
          try simp only [Act.put, List.setIfInBounds_toArray, List.set_cons_zero, List.set_cons_succ]
          refine wpAnyH_take (i := 28) (oi := { dst := some 113, op := Op.slice 27 (Operand.tmp 110) none (some (Operand.tmp 112)) none, type := 27, pos := "law.go:75", after := #[{ on := 25, ground := Ground.data }, { on := 27, ground := Ground.data }, { on := 22, ground := Ground.guard }], guard := some (22, true) }) (v := ?_) rfl (by kernel_rfl) (by kernel_rfl) (by kernel_rfl) (fun _ _ _ h => h) (Or.inl ⟨by rfl, ?_⟩) (by assumption) ?_
          rotate_left
          · intro w hSw
            try dsimp only at hSw
            go_simp
            all_goals with_reducible rfl
          try simp only [Act.put, List.setIfInBounds_toArray, List.set_cons_zero, List.set_cons_succ]
          refine wpAnyH_take (i := 29) (oi := { dst := some 114, op := Op.convert 27 9 (Operand.tmp 113), type := 9, pos := "law.go:75", after := #[{ on := 28, ground := Ground.data }, { on := 22, ground := Ground.guard }], guard := some (22, true) }) (v := ?_) rfl (by kernel_rfl) (by kernel_rfl) (by kernel_rfl) (fun _ _ _ h => h) (Or.inl ⟨by rfl, ?_⟩) (by assumption) ?_
          rotate_left
          · intro w hSw
            try dsimp only at hSw
            go_simp
            all_goals with_reducible rfl
          try simp only [Act.put, List.setIfInBounds_toArray, List.set_cons_zero, List.set_cons_succ]
          refine wpAnyH_take (i := 30) (oi := { dst := some 115, op := Op.binOp BinOp.eql 9 (Operand.tmp 109) (Operand.tmp 114) 9, type := 4, pos := "law.go:75", after := #[{ on := 24, ground := Ground.data }, { on := 29, ground := Ground.data }, { on := 22, ground := Ground.guard }], guard := some (22, true) }) (v := ?_) rfl (by kernel_rfl) (by kernel_rfl) (by kernel_rfl) (fun _ _ _ h => h) (Or.inl ⟨by rfl, ?_⟩) (by assumption) ?_
          rotate_left
          · intro w hSw
            try dsimp only at hSw
            go_simp
            all_goals with_reducible rfl
          try simp only [Act.put, List.setIfInBounds_toArray, List.set_cons_zero, List.set_cons_succ]
          refine wpAnyH_take (i := 31) (oi := { dst := some 116, op := Op.pick (Operand.tmp 107) (Operand.tmp 115) (Operand.const (Value.bool false)), type := 4, pos := "law.go:75", after := #[{ on := 22, ground := Ground.data }, { on := 30, ground := Ground.data }], guard := none }) (v := ?_) rfl (by kernel_rfl) (by kernel_rfl) (by kernel_rfl) (fun _ _ _ h => h) (Or.inl ⟨by rfl, ?_⟩) (by assumption) ?_
          rotate_left
          · intro w hSw
            try dsimp only at hSw
            go_simp
            all_goals with_reducible rfl
          try simp only [Act.put, List.setIfInBounds_toArray, List.set_cons_zero, List.set_cons_succ]
          refine wpAnyH_take (i := 32) (oi := { dst := some 4, op := Op.assign (Operand.tmp 116), type := 4, pos := "law.go:75", after := #[{ on := 31, ground := Ground.data }, { on := 22, ground := Ground.chain }, { on := 0, ground := Ground.phase }, { on := 1, ground := Ground.phase }, { on := 2, ground := Ground.phase }, { on := 3, ground := Ground.phase }, { on := 4, ground := Ground.phase }, { on := 5, ground := Ground.phase }, { on := 6, ground := Ground.phase }, { on := 7, ground := Ground.phase }, { on := 8, ground := Ground.phase }, { on := 9, ground := Ground.phase }, { on := 10, ground := Ground.phase }, { on := 11, ground := Ground.phase }, { on := 12, ground := Ground.phase }, { on := 13, ground := Ground.phase }, { on := 14, ground := Ground.phase }, { on := 15, ground := Ground.phase }, { on := 16, ground := Ground.phase }, { on := 17, ground := Ground.phase }, { on := 18, ground := Ground.phase }, { on := 19, ground := Ground.phase }, { on := 20, ground := Ground.phase }, { on := 21, ground := Ground.phase }, { on := 22, ground := Ground.phase }, { on := 23, ground := Ground.phase }, { on := 24, ground := Ground.phase }, { on := 25, ground := Ground.phase }, { on := 26, ground := Ground.phase }, { on := 27, ground := Ground.phase }, { on := 28, ground := Ground.phase }, { on := 29, ground := Ground.phase }, { on := 30, ground := Ground.phase }, { on := 31, ground := Ground.phase }], guard := none }) (v := ?_) rfl (by kernel_rfl) (by kernel_rfl) (by kernel_rfl) (fun _ _ _ h => h) (Or.inl ⟨by rfl, ?_⟩) (by assumption) ?_
          rotate_left
          · intro w hSw
            try dsimp only at hSw
            go_simp
            all_goals with_reducible rfl
          try simp only [Act.put, List.setIfInBounds_toArray, List.set_cons_zero, List.set_cons_succ]
          refine wpAnyH_done (by kernel_rfl) ?_ _
          go_wp2
          go_ret
          exact ⟨rfl, below_via2 HB10.out hHeld.1⟩
        · have b0 : (s2.e != 0) = true := by simp [e0]
          obtain ⟨rfl, rfl, rfl, rfl, rfl⟩ := HZ.out e0
          clear e0 HZ HO
          go_wp2_with (go_at_call 23; have hop := werr HT9.out; refine hop.mono ?_; rintro e wq ⟨rfl, rfl⟩; clear hop)
          go_ret
          exact ⟨rfl, HB9.out⟩
    · by_cases hg3 : nm.size ≤ 300
      · have hg4 : ¬ t.size ≤ 300 := fun h => hg2 ⟨hg3, h⟩
        clear hg2
        go_wp2
        go_ret
        exact ⟨rfl, HB7.out⟩
      · clear hg2
        go_wp2
        go_ret
        exact ⟨rfl, HB7.out⟩
  · go_wp2
    go_ret
    exact ⟨rfl, HB7.out⟩
end Go.Proofs.Ytojefdnngkcaoaa
namespace Go.Proofs.Ytojefdnngkcaoaa.G
open Go.RowKit Go.Proofs.Ytojefdnngkcaoaa Go.Proofs.YtojefdnngkcaoaaW.PrintWords Go.Proofs.YtojefdnngkcaoaaW.PrintLast Go.Proofs.YtojefdnngkcaoaaW.PrintMore
def rosettelaw06_PredBack.f (b0 : ByteArray) (b1 a0_0 a0_1 : Int) (a0_2 : ByteArray) (l1 : List Int) : Option Bool := if l1.length ≤ 140737488351232 ∧ u8s l1 ∧ (-9223372036854775808 ≤ a0_1 ∧ a0_1 < 9223372036854775808) then some true else none
theorem rosettelaw06_PredBack.calls (b0 : ByteArray) (b1 a0_0 a0_1 : Int) (a0_2 : ByteArray) (A1 : Option Addr) (c1 : Nat) (l1 : List Int) (r : Bool) (w : World) (hr1 : (Kd.int .u8).C w A1 l1.length l1) (hc1 : l1.length ≤ c1) (h : rosettelaw06_PredBack.f b0 b1 a0_0 a0_1 a0_2 l1 = some r) :
    Calls Try.prog 7 #[.agg #[.string b0, .int .i64 b1, .int .i64 a0_0, .int .i64 a0_1, .string a0_2], .slice A1 l1.length c1] w fun e w' => e = .returned (.bool r) ∧ Below w.heap.size w w' := by
  unfold rosettelaw06_PredBack.f at h
  split at h
  · rename_i hc
    obtain rfl : true = r := Option.some.inj h
    exact predBack_any b0 b1 a0_0 a0_1 a0_2 A1 c1 l1 w hc.2.2 hr1 hc1 hc.1 hc.2.1
  · cases h
end Go.Proofs.Ytojefdnngkcaoaa.G
end

section
namespace Go.Proofs.Ytojefdnngkcaoaa.G
open Go.RowKit Go.Proofs.Ytojefdnngkcaoaa Go.Proofs.Ytojefdnngkcaoaa.G Go.Proofs.YtojefdnngkcaoaaW.PrintWords Go.Proofs.YtojefdnngkcaoaaW.PrintLast
/-! #### struct type 25 -/
structure S25 where
  f0 : ByteArray
  f1 : Int
  f2 : S23
def z25 : S25 := ⟨(⟨#[]⟩ : ByteArray), (0 : Int), z23⟩
def k25 : Kd S25 := Kd.iso (Kd.pair Kd.string (Kd.pair (Kd.int .i64) k23)) (fun x : S25 => (x.f0, x.f1, x.f2))
theorem k25_open {w : World} {x : S25} {cs : List Value} (h : k25.K w x cs) : cs = [.string x.f0, .int .i64 x.f1, .int .i64 x.f2.f0, .int .i64 x.f2.f1, .string x.f2.f2] := by
  obtain ⟨_, _, rfl, rfl, ⟨_, _, rfl, rfl, s2⟩⟩ := h
  obtain rfl := k23_open s2
  exact rfl
theorem k25_openM {w : World} {base : Nat} {ok : Nat → Prop} {x : S25} {cs : List Value} (h : k25.M w base ok x cs) : cs = [.string x.f0, .int .i64 x.f1, .int .i64 x.f2.f0, .int .i64 x.f2.f1, .string x.f2.f2] := by
  obtain ⟨_, _, rfl, rfl, ⟨_, _, rfl, rfl, s2⟩⟩ := h
  obtain rfl := k23_openM s2
  exact rfl
theorem k25_mk (w : World) (x : S25)  : k25.K w x [.string x.f0, .int .i64 x.f1, .int .i64 x.f2.f0, .int .i64 x.f2.f1, .string x.f2.f2] := ⟨[.string x.f0], [.int .i64 x.f1, .int .i64 x.f2.f0, .int .i64 x.f2.f1, .string x.f2.f2], rfl, rfl, ⟨[.int .i64 x.f1], [.int .i64 x.f2.f0, .int .i64 x.f2.f1, .string x.f2.f2], rfl, rfl, (k23_mk w x.f2 )⟩⟩
theorem k25_mkM (w : World) (base : Nat) (ok : Nat → Prop) (x : S25)  : k25.M w base ok x [.string x.f0, .int .i64 x.f1, .int .i64 x.f2.f0, .int .i64 x.f2.f1, .string x.f2.f2] := ⟨[.string x.f0], [.int .i64 x.f1, .int .i64 x.f2.f0, .int .i64 x.f2.f1, .string x.f2.f2], rfl, rfl, ⟨[.int .i64 x.f1], [.int .i64 x.f2.f0, .int .i64 x.f2.f1, .string x.f2.f2], rfl, rfl, (k23_mkM w base ok x.f2 )⟩⟩

/-- The pure statement of rosettelaw06_PredBack. -/
def rosettelaw06_PredBack.Pure : Prop := ∀ (a0 : S25) (l1 : (List Int)), (a0.f0.size ≤ 140737488351232 ∧ ((Lit.int .i64 a0.f1).wf = true ∧ ((Lit.int .i64 a0.f2.f0).wf = true ∧ ((Lit.int .i64 a0.f2.f1).wf = true ∧ a0.f2.f2.size ≤ 140737488351232)))) → ((l1.length ≤ maxLen ∧ l1.length * 1 ≤ 140737488351232) ∧ ∀ x0 ∈ l1, (Lit.int .u8 x0).wf = true) → rosettelaw06_PredBack.f a0.f0 a0.f1 a0.f2.f0 a0.f2.f1 a0.f2.f2 l1 = some true
end Go.Proofs.Ytojefdnngkcaoaa.G
end

section
/- The statement PredBack over numbers and lists: what was laid is read as it was, and what is read was laid just so. -/
namespace Go.Proofs.Ytojefdnngkcaoaa.Pure
open Go.RowKit Go.Proofs.Ytojefdnngkcaoaa.G Go.Proofs.Ytojefdnngkcaoaa
theorem PredBack : rosettelaw06_PredBack.Pure := by
  rintro p l1 ⟨hp0, hp1, hp2, hp3, hp4⟩ ⟨⟨h1, h2⟩, h3⟩
  have b1 := Go.bounds_i64 hp3
  unfold rosettelaw06_PredBack.f
  rw [if_pos ⟨by omega, u8s_wf h3, by omega⟩]
end Go.Proofs.Ytojefdnngkcaoaa.Pure
end
