import Derived.Test.YtojefdnngkcaoaaZPredTells0
import Derived.BigQuiet
import Derived.Deep.QuietTactic
import Derived.Deep.CutRange
import Derived.Lib.Zigzag
import Derived.OpenShut
section
-- Written by a program of this session (wip/tools/myprint.py), over the kit's print.
namespace Go.Proofs.Ytojefdnngkcaoaa.G
open Go.RowKit Go.Proofs.YtojefdnngkcaoaaW.PrintWords Go.Proofs.YtojefdnngkcaoaaW.PrintLast Go.Proofs.YtojefdnngkcaoaaW.PrintMore
attribute [local go_sem] max2_int min2_int max_two min_two max_three min_three max_four min_four   -- for this text's walks alone
set_option linter.unusedVariables false
set_option linter.unusedSimpArgs false

/-! ### pred_Holds: function 12 -/
def pred_Holds.j0 : Nat → Bool → ByteArray → Int → Int → Int → ByteArray → Int → Int → ByteArray → Option (Bool)
  | 0, _, _, _, _, _, _, _, _, _ => none
  | k + 1, x13, x119000, x119001, x119002, x119003, x119004, x120000, x120001, x120002 => if x13 = true then (some false) else ((value_Compare.f k x120000 x120001 x120002 x119002 x119003 x119004).bind fun t122 => (if x119001 = 8 then (some true) else (if x120000 = x119002 then (if x119001 = 7 then ((strings_HasPrefix.f x120002 x119004).bind fun t123 => (some t123)) else (if t122 < 0 then (if x119001 = 2 then (some true) else (if x119001 = 3 then (some true) else (some (x119001 == 4)))) else (if t122 > 0 then (if x119001 = 2 then (some true) else (if x119001 = 5 then (some true) else (some (x119001 == 6)))) else (if x119001 = 1 then (some true) else (if x119001 = 4 then (some true) else (some (x119001 == 6))))))) else (some false))))
def pred_Holds.f (k : Nat) (a0_0 : ByteArray) (a0_1 : Int) (a0_2 : Int) (a0_3 : Int) (a0_4 : ByteArray) (a1_0 : Int) (a1_1 : Int) (a1_2 : ByteArray) : Option (Bool) := (pred_Right.f k a0_0 a0_1 a0_2 a0_3 a0_4).bind fun t120 => (if t120 = true then ((value_Right.f a1_0 a1_1 a1_2).bind fun t121 => (pred_Holds.j0 k (!t121) a0_0 a0_1 a0_2 a0_3 a0_4 a1_0 a1_1 a1_2)) else (pred_Holds.j0 k true a0_0 a0_1 a0_2 a0_3 a0_4 a1_0 a1_1 a1_2))
theorem pred_Holds.mono_l : ∀ k, (∀ y0 y1 y2 y3 y4 y5 y6 y7 y8, LeO (pred_Holds.j0 k y0 y1 y2 y3 y4 y5 y6 y7 y8) (pred_Holds.j0 (k + 1) y0 y1 y2 y3 y4 y5 y6 y7 y8))
  | 0 => fun _ _ _ _ _ _ _ _ _ r h => by simp [pred_Holds.j0] at h
  | k + 1 => by
    have ih0 := pred_Holds.mono_l k
    · intro y0 y1 y2 y3 y4 y5 y6 y7 y8
      unfold pred_Holds.j0
      repeat' first
      | (with_reducible exact ih0 _ _ _ _ _ _ _ _ _)
      | (with_reducible exact pred_Right.mono _ _ _ _ _ _)
      | (with_reducible exact value_Compare.mono _ _ _ _ _ _ _)
      | (with_reducible exact LeO.refl _)
      | (with_reducible exact LeO.none _)
      | (with_reducible refine LeO.ite ?_ ?_)
      | (with_reducible refine LeO.bind ?_ (fun _ => ?_))
      | exact ih0 _ _ _ _ _ _ _ _ _
      | exact pred_Right.mono _ _ _ _ _ _
      | exact value_Compare.mono _ _ _ _ _ _ _
      | exact LeO.none _
      | refine LeO.ite ?_ ?_
      | refine LeO.bind ?_ (fun _ => ?_)
theorem pred_Holds.mono : ∀ a0 a1 a2 a3 a4 a5 a6 a7 k, LeO (pred_Holds.f k a0 a1 a2 a3 a4 a5 a6 a7) (pred_Holds.f (k + 1) a0 a1 a2 a3 a4 a5 a6 a7) := by
  intro a0 a1 a2 a3 a4 a5 a6 a7 k
  have ih0 := pred_Holds.mono_l k
  unfold pred_Holds.f
  repeat' first
      | (with_reducible exact ih0 _ _ _ _ _ _ _ _ _)
      | (with_reducible exact pred_Right.mono _ _ _ _ _ _)
      | (with_reducible exact value_Compare.mono _ _ _ _ _ _ _)
      | (with_reducible exact LeO.refl _)
      | (with_reducible exact LeO.none _)
      | (with_reducible refine LeO.ite ?_ ?_)
      | (with_reducible refine LeO.bind ?_ (fun _ => ?_))
      | exact ih0 _ _ _ _ _ _ _ _ _
      | exact pred_Right.mono _ _ _ _ _ _
      | exact value_Compare.mono _ _ _ _ _ _ _
      | exact LeO.none _
      | refine LeO.ite ?_ ?_
      | refine LeO.bind ?_ (fun _ => ?_)
set_option maxHeartbeats 8000000 in
set_option maxRecDepth 100000 in
theorem pred_Holds.calls (k : Nat) (a0_0 : ByteArray) (a0_1 : Int) (a0_2 : Int) (a0_3 : Int) (a0_4 : ByteArray) (a1_0 : Int) (a1_1 : Int) (a1_2 : ByteArray) (r : Bool) (w : World) (h : pred_Holds.f k a0_0 a0_1 a0_2 a0_3 a0_4 a1_0 a1_1 a1_2 = some r) :
    Calls Try.prog 12 #[.agg #[.string a0_0, .int .i64 a0_1, .int .i64 a0_2, .int .i64 a0_3, .string a0_4], .agg #[.int .i64 a1_0, .int .i64 a1_1, .string a1_2]] w fun e w' => e = .returned (.bool r) ∧ Below w.heap.size w w' := by
  have hu25 := Try.underlying25
  have hu23 := Try.underlying23
  have HB := Aside0.mk (Below.refl w.heap.size w)
  have H : ((pred_Right.f k a0_0 a0_1 a0_2 a0_3 a0_4).bind fun t120 => (if t120 = true then ((value_Right.f a1_0 a1_1 a1_2).bind fun t121 => (pred_Holds.j0 k (!t121) a0_0 a0_1 a0_2 a0_3 a0_4 a1_0 a1_1 a1_2)) else (pred_Holds.j0 k true a0_0 a0_1 a0_2 a0_3 a0_4 a1_0 a1_1 a1_2))) = some r := h
  clear h
  have HC3 := Aside0.mk H
  clear H
  go_enter Try.func12, Try.ntmps12
  go_upto_region 1 with (first | ((with_reducible refine gate_dst (N := 2) rfl ?_); refine box_event ?hg (N := 2) ?hd (cs := #[.string a0_0, .int .i64 a0_1, .int .i64 a0_2, .int .i64 a0_3, .string a0_4]) (t := 25) ?hr ?_; (case hd => rfl); (case hg => rfl); (case hr => first | (go_simp; done) | (go_simp; rfl)); intro gb118 hg w4 hbox hb; have n0_ := Aside0.mk (below_step (by repeat (first | (with_reducible first | exact HB.out | apply below_alloc | apply pw_below_drewN | apply below_drew1) | exact HB.out)) hb); have n1_ := Aside0.mk (hbox); have n2_ := Aside0.mk ((by rw [hg]; exact (below_size (by repeat (first | (with_reducible first | exact HB.out | apply below_alloc | apply pw_below_drewN | apply below_drew1) | exact HB.out))) : w.heap.size ≤ gb118)); have n3_ := Aside0.mk ((by rw [hg]; exact (below_size (by repeat (first | (with_reducible first | exact HB.out | apply below_alloc | apply pw_below_drewN | apply below_drew1) | exact HB.out))) : w.heap.size ≤ gb118)); clear HB; have HB := n0_; have BK118 := n1_; have GW118 := n2_; have GE118 := n3_; clear n0_ n1_ n2_ n3_; clear hb hbox hg) | ((with_reducible refine gate_dst (N := 3) rfl ?_); refine box_event ?hg (N := 3) ?hd (cs := #[.int .i64 a1_0, .int .i64 a1_1, .string a1_2]) (t := 23) ?hr ?_; (case hd => rfl); (case hg => rfl); (case hr => first | (go_simp; done) | (go_simp; rfl)); intro gb119 hg w5 hbox hb; have n0_ := Aside0.mk (blk_below (g := gb118) (o := .cells #[.string a0_0, .int .i64 a0_1, .int .i64 a0_2, .int .i64 a0_3, .string a0_4] 25 (0, 0)) (by (with_reducible repeat (first | refine blk_drewN ?_ _ | refine blk_drew ?_ | refine blk_alloc ?_ _)); exact BK118.out) hb); have n1_ := Aside0.mk (below_step (by repeat (first | (with_reducible first | exact HB.out | apply below_alloc | apply pw_below_drewN | apply below_drew1 | refine below_set ?_ GE118.out) | exact HB.out)) hb); have n2_ := Aside0.mk (hbox); have n3_ := Aside0.mk ((by rw [hg]; exact (below_size (by repeat (first | (with_reducible first | exact HB.out | apply below_alloc | apply pw_below_drewN | apply below_drew1 | refine below_set ?_ GE118.out) | exact HB.out))) : w.heap.size ≤ gb119)); have n4_ := Aside0.mk ((by rw [hg]; exact (below_size (by repeat (first | (with_reducible first | exact HB.out | apply below_alloc | apply pw_below_drewN | apply below_drew1 | refine below_set ?_ GE118.out) | exact HB.out))) : w.heap.size ≤ gb119)); have n5_ := Aside0.mk ((by rw [hg]; exact Nat.ne_of_lt (blk_lt (g := gb118) (o := .cells #[.string a0_0, .int .i64 a0_1, .int .i64 a0_2, .int .i64 a0_3, .string a0_4] 25 (0, 0)) (by (with_reducible repeat (first | refine blk_drewN ?_ _ | refine blk_drew ?_ | refine blk_alloc ?_ _)); exact BK118.out)) : gb118 ≠ gb119)); have n6_ := Aside0.mk ((by rw [hg]; exact Nat.ne_of_gt (blk_lt (g := gb118) (o := .cells #[.string a0_0, .int .i64 a0_1, .int .i64 a0_2, .int .i64 a0_3, .string a0_4] 25 (0, 0)) (by (with_reducible repeat (first | refine blk_drewN ?_ _ | refine blk_drew ?_ | refine blk_alloc ?_ _)); exact BK118.out)) : gb119 ≠ gb118)); clear BK118; clear HB; have BK118 := n0_; have HB := n1_; have BK119 := n2_; have GW119 := n3_; have GE119 := n4_; have NB118_119 := n5_; have NB119_118 := n6_; clear n0_ n1_ n2_ n3_ n4_ n5_ n6_; clear hb hbox hg))
  (try simp only [Act.put, List.setIfInBounds_toArray, List.set_cons_zero, List.set_cons_succ])
  go_cut [13] (fun v13 wc => ∃ (kq : Nat) (x13_2 : Bool), v13 = .bool x13_2 ∧ Aside0 (pred_Holds.j0 kq x13_2 a0_0 a0_1 a0_2 a0_3 a0_4 a1_0 a1_1 a1_2 = some r) ∧ Aside0 (kq ≤ k) ∧ Aside0 (wc.heap[gb118]? = some (.cells #[.string a0_0, .int .i64 a0_1, .int .i64 a0_2, .int .i64 a0_3, .string a0_4] 25 (0, 0))) ∧ Aside0 (wc.heap[gb119]? = some (.cells #[.int .i64 a1_0, .int .i64 a1_1, .string a1_2] 23 (0, 0))) ∧ Aside0 (Below w.heap.size w wc))
  case first =>
    have H := HC3.out
    clear HC3
    replace H := Option.bind_eq_some_iff.mp H
    obtain ⟨t120, A60, H⟩ := H
    replace H : (if t120 = true then ((value_Right.f a1_0 a1_1 a1_2).bind fun t121 => (pred_Holds.j0 k (!t121) a0_0 a0_1 a0_2 a0_3 a0_4 a1_0 a1_1 a1_2)) else (pred_Holds.j0 k true a0_0 a0_1 a0_2 a0_3 a0_4 a1_0 a1_1 a1_2)) = some r := H
    have A6 := Aside0.mk A60
    clear A60
    by_cases c7 : t120 = true
    · subst c7
      have H1 : ((value_Right.f a1_0 a1_1 a1_2).bind fun t121 => (pred_Holds.j0 k (!t121) a0_0 a0_1 a0_2 a0_3 a0_4 a1_0 a1_1 a1_2)) = some r := by rw [if_pos rfl] at H; exact H
      clear H
      have H := H1
      clear H1
      replace H := Option.bind_eq_some_iff.mp H
      obtain ⟨t121, A80, H⟩ := H
      replace H : (pred_Holds.j0 k (!t121) a0_0 a0_1 a0_2 a0_3 a0_4 a1_0 a1_1 a1_2) = some r := H
      have A8 := Aside0.mk A80
      clear A80
      have H' := Aside0.mk H
      clear H
      have hnb9 := NB118_119.out
      have hnc9 := NB119_118.out
      have hcz10_0 : w5.cell? ⟨gb118, 0, none⟩ = some (.string a0_0) := (blk_cell BK118.out 0).trans rfl
      have hcz10_1 : w5.cell? ⟨gb118, 1, none⟩ = some (.int .i64 a0_1) := (blk_cell BK118.out 1).trans rfl
      have hcz10_2 : w5.cell? ⟨gb118, 2, none⟩ = some (.int .i64 a0_2) := (blk_cell BK118.out 2).trans rfl
      have hcz10_3 : w5.cell? ⟨gb118, 3, none⟩ = some (.int .i64 a0_3) := (blk_cell BK118.out 3).trans rfl
      have hcz10_4 : w5.cell? ⟨gb118, 4, none⟩ = some (.string a0_4) := (blk_cell BK118.out 4).trans rfl
      have hfz10_0 := blk_frozen BK118.out 0
      have hfz10_1 := blk_frozen BK118.out 1
      have hfz10_2 := blk_frozen BK118.out 2
      have hfz10_3 := blk_frozen BK118.out 3
      have hfz10_4 := blk_frozen BK118.out 4
      go_wp2_with (first | ((with_reducible refine gate_callee (f := 10) rfl ?_); refine goesL_ (some 7) rfl rfl Try.func10 (by kernel_rfl) rfl #[.agg #[.string a0_0, .int .i64 a0_1, .int .i64 a0_2, .int .i64 a0_3, .string a0_4]] rfl (by (try simp only [List.map_toArray, List.map_cons, List.map_nil]); first | done | rfl | (simp only [List.length_drop, List.length_take]; rfl)) ?_; (with_reducible refine (pred_Right.calls k a0_0 a0_1 a0_2 a0_3 a0_4 true _ A6.out).mono ?_); rintro e w11 ⟨rfl, hb⟩; refine ⟨_, rfl, ?_⟩; have n0_ := Aside0.mk (blk_below (g := gb118) (o := .cells #[.string a0_0, .int .i64 a0_1, .int .i64 a0_2, .int .i64 a0_3, .string a0_4] 25 (0, 0)) (by (with_reducible repeat (first | refine blk_drewN ?_ _ | refine blk_drew ?_ | refine blk_alloc ?_ _)); exact BK118.out) hb); have n1_ := Aside0.mk (blk_below (g := gb119) (o := .cells #[.int .i64 a1_0, .int .i64 a1_1, .string a1_2] 23 (0, 0)) (by (with_reducible repeat (first | refine blk_drewN ?_ _ | refine blk_drew ?_ | refine blk_alloc ?_ _)); exact BK119.out) hb); have n2_ := Aside0.mk (below_step (by repeat (first | (with_reducible first | exact HB.out | apply below_alloc | apply pw_below_drewN | apply below_drew1 | refine below_set ?_ GE118.out | refine below_set ?_ GE119.out) | exact HB.out)) hb); clear BK118; clear BK119; clear HB; have BK118 := n0_; have BK119 := n1_; have HB := n2_; clear n0_ n1_ n2_; (try clear hb); (try clear hb2); (try clear hk); (try clear hi); have hcz12_0 : w11.cell? ⟨gb119, 0, none⟩ = some (.int .i64 a1_0) := (blk_cell BK119.out 0).trans rfl; have hcz12_1 : w11.cell? ⟨gb119, 1, none⟩ = some (.int .i64 a1_1) := (blk_cell BK119.out 1).trans rfl; have hcz12_2 : w11.cell? ⟨gb119, 2, none⟩ = some (.string a1_2) := (blk_cell BK119.out 2).trans rfl; have hfz12_0 := blk_frozen BK119.out 0; have hfz12_1 := blk_frozen BK119.out 1; have hfz12_2 := blk_frozen BK119.out 2) | (go_at_call 18; (with_reducible refine (value_Right.calls a1_0 a1_1 a1_2 t121 _ A8.out).mono ?_); rintro e w13 ⟨rfl, hb⟩; have n0_ := Aside0.mk (blk_below (g := gb118) (o := .cells #[.string a0_0, .int .i64 a0_1, .int .i64 a0_2, .int .i64 a0_3, .string a0_4] 25 (0, 0)) (by (with_reducible repeat (first | refine blk_drewN ?_ _ | refine blk_drew ?_ | refine blk_alloc ?_ _)); exact BK118.out) hb); have n1_ := Aside0.mk (blk_below (g := gb119) (o := .cells #[.int .i64 a1_0, .int .i64 a1_1, .string a1_2] 23 (0, 0)) (by (with_reducible repeat (first | refine blk_drewN ?_ _ | refine blk_drew ?_ | refine blk_alloc ?_ _)); exact BK119.out) hb); have n2_ := Aside0.mk (below_step (by repeat (first | (with_reducible first | exact HB.out | apply below_alloc | apply pw_below_drewN | apply below_drew1 | refine below_set ?_ GE118.out | refine below_set ?_ GE119.out) | exact HB.out)) hb); clear BK118; clear BK119; clear HB; have BK118 := n0_; have BK119 := n1_; have HB := n2_; clear n0_ n1_ n2_; (try clear hb); (try clear hb2); (try clear hk); (try clear hi)))
      go_meet
      case rel => exact ⟨_, (!t121), (by first | rfl | (simp; done) | (simp [*]; done)), H', ⟨by first | omega | exact Nat.le_refl _⟩, ⟨by (with_reducible repeat (first | refine blk_drewN ?_ _ | refine blk_drew ?_ | refine blk_alloc ?_ _)); exact BK118.out⟩, ⟨by (with_reducible repeat (first | refine blk_drewN ?_ _ | refine blk_drew ?_ | refine blk_alloc ?_ _)); exact BK119.out⟩, ⟨by repeat (first | (with_reducible first | exact HB.out | apply below_alloc | apply pw_below_drewN | apply below_drew1 | refine below_set ?_ GE118.out | refine below_set ?_ GE119.out) | exact HB.out)⟩⟩
    · replace c7 := Bool.eq_false_iff.mpr c7
      subst c7
      have H1 : (pred_Holds.j0 k true a0_0 a0_1 a0_2 a0_3 a0_4 a1_0 a1_1 a1_2) = some r := by rw [if_neg (show ¬ (false = true) by decide)] at H; exact H
      clear H
      have H := H1
      clear H1
      have H' := Aside0.mk H
      clear H
      have hnb14 := NB118_119.out
      have hnc14 := NB119_118.out
      have hcz15_0 : w5.cell? ⟨gb118, 0, none⟩ = some (.string a0_0) := (blk_cell BK118.out 0).trans rfl
      have hcz15_1 : w5.cell? ⟨gb118, 1, none⟩ = some (.int .i64 a0_1) := (blk_cell BK118.out 1).trans rfl
      have hcz15_2 : w5.cell? ⟨gb118, 2, none⟩ = some (.int .i64 a0_2) := (blk_cell BK118.out 2).trans rfl
      have hcz15_3 : w5.cell? ⟨gb118, 3, none⟩ = some (.int .i64 a0_3) := (blk_cell BK118.out 3).trans rfl
      have hcz15_4 : w5.cell? ⟨gb118, 4, none⟩ = some (.string a0_4) := (blk_cell BK118.out 4).trans rfl
      have hfz15_0 := blk_frozen BK118.out 0
      have hfz15_1 := blk_frozen BK118.out 1
      have hfz15_2 := blk_frozen BK118.out 2
      have hfz15_3 := blk_frozen BK118.out 3
      have hfz15_4 := blk_frozen BK118.out 4
      go_wp2_with (first | ((with_reducible refine gate_callee (f := 10) rfl ?_); refine goesL_ (some 7) rfl rfl Try.func10 (by kernel_rfl) rfl #[.agg #[.string a0_0, .int .i64 a0_1, .int .i64 a0_2, .int .i64 a0_3, .string a0_4]] rfl (by (try simp only [List.map_toArray, List.map_cons, List.map_nil]); first | done | rfl | (simp only [List.length_drop, List.length_take]; rfl)) ?_; (with_reducible refine (pred_Right.calls k a0_0 a0_1 a0_2 a0_3 a0_4 false _ A6.out).mono ?_); rintro e w16 ⟨rfl, hb⟩; refine ⟨_, rfl, ?_⟩; have n0_ := Aside0.mk (blk_below (g := gb118) (o := .cells #[.string a0_0, .int .i64 a0_1, .int .i64 a0_2, .int .i64 a0_3, .string a0_4] 25 (0, 0)) (by (with_reducible repeat (first | refine blk_drewN ?_ _ | refine blk_drew ?_ | refine blk_alloc ?_ _)); exact BK118.out) hb); have n1_ := Aside0.mk (blk_below (g := gb119) (o := .cells #[.int .i64 a1_0, .int .i64 a1_1, .string a1_2] 23 (0, 0)) (by (with_reducible repeat (first | refine blk_drewN ?_ _ | refine blk_drew ?_ | refine blk_alloc ?_ _)); exact BK119.out) hb); have n2_ := Aside0.mk (below_step (by repeat (first | (with_reducible first | exact HB.out | apply below_alloc | apply pw_below_drewN | apply below_drew1 | refine below_set ?_ GE118.out | refine below_set ?_ GE119.out) | exact HB.out)) hb); clear BK118; clear BK119; clear HB; have BK118 := n0_; have BK119 := n1_; have HB := n2_; clear n0_ n1_ n2_; (try clear hb); (try clear hb2); (try clear hk); (try clear hi)))
      go_meet
      case rel => exact ⟨_, (true), (by first | rfl | (simp; done) | (simp [*]; done)), H', ⟨by first | omega | exact Nat.le_refl _⟩, ⟨by (with_reducible repeat (first | refine blk_drewN ?_ _ | refine blk_drew ?_ | refine blk_alloc ?_ _)); exact BK118.out⟩, ⟨by (with_reducible repeat (first | refine blk_drewN ?_ _ | refine blk_drew ?_ | refine blk_alloc ?_ _)); exact BK119.out⟩, ⟨by repeat (first | (with_reducible first | exact HB.out | apply below_alloc | apply pw_below_drewN | apply below_drew1 | refine below_set ?_ GE118.out | refine below_set ?_ GE119.out) | exact HB.out)⟩⟩
  case rest =>
    clear HC3
    try clear c1
    try clear p2
    try clear c7
    try clear c9
    try clear c10
    try clear c12
    try clear c14
    try clear hcz10_0
    try clear hcz10_1
    try clear hcz10_2
    try clear hcz10_3
    try clear hcz10_4
    try clear hcz12_0
    try clear hcz12_1
    try clear hcz12_2
    try clear hcz15_0
    try clear hcz15_1
    try clear hcz15_2
    try clear hcz15_3
    try clear hcz15_4
    try clear hfz10_0
    try clear hfz10_1
    try clear hfz10_2
    try clear hfz10_3
    try clear hfz10_4
    try clear hfz12_0
    try clear hfz12_1
    try clear hfz12_2
    try clear hfz15_0
    try clear hfz15_1
    try clear hfz15_2
    try clear hfz15_3
    try clear hfz15_4
    obtain ⟨kq, x13_2, rfl, HA, HJ2, BK118, BK119, HB⟩ := hcut
    cases kq with
    | zero => exact absurd HA.out (by simp [pred_Holds.j0])
    | succ kj2 =>
      have H := HA.out
      clear HA
      simp only [pred_Holds.j0] at H
      by_cases c17 : x13_2 = true
      · subst c17
        have H1 : (some false) = some r := by rw [if_pos rfl] at H; exact H
        clear H
        have H := H1
        clear H1
        obtain rfl := Option.some.inj H
        go_wp2
        go_ret
        exact ⟨by first | rfl | (simp [errW_none, errW_some] <;> rfl) | (simp [*, errW_none, errW_some] <;> rfl), by repeat (first | (with_reducible first | exact HB.out | apply below_alloc | apply pw_below_drewN | apply below_drew1 | refine below_set ?_ GE118.out | refine below_set ?_ GE119.out) | exact HB.out)⟩
      · replace c17 := Bool.eq_false_iff.mpr c17
        subst c17
        have H1 : ((value_Compare.f kj2 a1_0 a1_1 a1_2 a0_2 a0_3 a0_4).bind fun t122 => (if a0_1 = 8 then (some true) else (if a1_0 = a0_2 then (if a0_1 = 7 then ((strings_HasPrefix.f a1_2 a0_4).bind fun t123 => (some t123)) else (if t122 < 0 then (if a0_1 = 2 then (some true) else (if a0_1 = 3 then (some true) else (some (a0_1 == 4)))) else (if t122 > 0 then (if a0_1 = 2 then (some true) else (if a0_1 = 5 then (some true) else (some (a0_1 == 6)))) else (if a0_1 = 1 then (some true) else (if a0_1 = 4 then (some true) else (some (a0_1 == 6))))))) else (some false)))) = some r := by rw [if_neg (show ¬ (false = true) by decide)] at H; exact H
        clear H
        have H := H1
        clear H1
        replace H := Option.bind_eq_some_iff.mp H
        obtain ⟨t122, A180, H⟩ := H
        replace H : (if a0_1 = 8 then (some true) else (if a1_0 = a0_2 then (if a0_1 = 7 then ((strings_HasPrefix.f a1_2 a0_4).bind fun t123 => (some t123)) else (if t122 < 0 then (if a0_1 = 2 then (some true) else (if a0_1 = 3 then (some true) else (some (a0_1 == 4)))) else (if t122 > 0 then (if a0_1 = 2 then (some true) else (if a0_1 = 5 then (some true) else (some (a0_1 == 6)))) else (if a0_1 = 1 then (some true) else (if a0_1 = 4 then (some true) else (some (a0_1 == 6))))))) else (some false))) = some r := H
        have A18 := Aside0.mk A180
        clear A180
        by_cases c19 : a0_1 = 8
        · rw [if_pos c19] at H
          have c19b0 : (a0_1 == 8) = true := beq_iff_eq.mpr c19
          have c19b1 : (a0_1 != 8) = false := bne_eq_false_iff_eq.mpr c19
          clear c19
          obtain rfl := Option.some.inj H
          have hnb20 := NB119_118.out
          have hnc20 := NB118_119.out
          have hcz21_0 : wc.cell? ⟨gb119, 0, none⟩ = some (.int .i64 a1_0) := (blk_cell BK119.out 0).trans rfl
          have hcz21_1 : wc.cell? ⟨gb119, 1, none⟩ = some (.int .i64 a1_1) := (blk_cell BK119.out 1).trans rfl
          have hcz21_2 : wc.cell? ⟨gb119, 2, none⟩ = some (.string a1_2) := (blk_cell BK119.out 2).trans rfl
          have hfz21_0 := blk_frozen BK119.out 0
          have hfz21_1 := blk_frozen BK119.out 1
          have hfz21_2 := blk_frozen BK119.out 2
          have hcz22_0 : wc.cell? ⟨gb118, 0, none⟩ = some (.string a0_0) := (blk_cell BK118.out 0).trans rfl
          have hcz22_1 : wc.cell? ⟨gb118, 1, none⟩ = some (.int .i64 a0_1) := (blk_cell BK118.out 1).trans rfl
          have hcz22_2 : wc.cell? ⟨gb118, 2, none⟩ = some (.int .i64 a0_2) := (blk_cell BK118.out 2).trans rfl
          have hcz22_3 : wc.cell? ⟨gb118, 3, none⟩ = some (.int .i64 a0_3) := (blk_cell BK118.out 3).trans rfl
          have hcz22_4 : wc.cell? ⟨gb118, 4, none⟩ = some (.string a0_4) := (blk_cell BK118.out 4).trans rfl
          have hfz22_0 := blk_frozen BK118.out 0
          have hfz22_1 := blk_frozen BK118.out 1
          have hfz22_2 := blk_frozen BK118.out 2
          have hfz22_3 := blk_frozen BK118.out 3
          have hfz22_4 := blk_frozen BK118.out 4
          go_wp2_with (first | ((with_reducible refine gate_callee (f := 26) rfl ?_); refine goesL_ (some 17) rfl rfl Try.func26 (by kernel_rfl) rfl #[.agg #[.int .i64 a1_0, .int .i64 a1_1, .string a1_2], .agg #[.int .i64 a0_2, .int .i64 a0_3, .string a0_4]] rfl (by (try simp only [List.map_toArray, List.map_cons, List.map_nil]); first | done | rfl | (simp only [List.length_drop, List.length_take]; rfl)) ?_; (with_reducible refine (value_Compare.calls kj2 a1_0 a1_1 a1_2 a0_2 a0_3 a0_4 t122 _ A18.out).mono ?_); rintro e w23 ⟨rfl, hb⟩; refine ⟨_, rfl, ?_⟩; have n0_ := Aside0.mk (blk_below (g := gb118) (o := .cells #[.string a0_0, .int .i64 a0_1, .int .i64 a0_2, .int .i64 a0_3, .string a0_4] 25 (0, 0)) (by (with_reducible repeat (first | refine blk_drewN ?_ _ | refine blk_drew ?_ | refine blk_alloc ?_ _)); exact BK118.out) hb); have n1_ := Aside0.mk (blk_below (g := gb119) (o := .cells #[.int .i64 a1_0, .int .i64 a1_1, .string a1_2] 23 (0, 0)) (by (with_reducible repeat (first | refine blk_drewN ?_ _ | refine blk_drew ?_ | refine blk_alloc ?_ _)); exact BK119.out) hb); have n2_ := Aside0.mk (below_step (by repeat (first | (with_reducible first | exact HB.out | apply below_alloc | apply pw_below_drewN | apply below_drew1 | refine below_set ?_ GE118.out | refine below_set ?_ GE119.out) | exact HB.out)) hb); clear BK118; clear BK119; clear HB; have BK118 := n0_; have BK119 := n1_; have HB := n2_; clear n0_ n1_ n2_; (try clear hb); (try clear hb2); (try clear hk); (try clear hi); have hcz24_0 : w23.cell? ⟨gb118, 0, none⟩ = some (.string a0_0) := (blk_cell BK118.out 0).trans rfl; have hcz24_1 : w23.cell? ⟨gb118, 1, none⟩ = some (.int .i64 a0_1) := (blk_cell BK118.out 1).trans rfl; have hcz24_2 : w23.cell? ⟨gb118, 2, none⟩ = some (.int .i64 a0_2) := (blk_cell BK118.out 2).trans rfl; have hcz24_3 : w23.cell? ⟨gb118, 3, none⟩ = some (.int .i64 a0_3) := (blk_cell BK118.out 3).trans rfl; have hcz24_4 : w23.cell? ⟨gb118, 4, none⟩ = some (.string a0_4) := (blk_cell BK118.out 4).trans rfl; have hfz24_0 := blk_frozen BK118.out 0; have hfz24_1 := blk_frozen BK118.out 1; have hfz24_2 := blk_frozen BK118.out 2; have hfz24_3 := blk_frozen BK118.out 3; have hfz24_4 := blk_frozen BK118.out 4))
          go_ret
          exact ⟨by first | rfl | (simp [errW_none, errW_some] <;> rfl) | (simp [*, errW_none, errW_some] <;> rfl), by repeat (first | (with_reducible first | exact HB.out | apply below_alloc | apply pw_below_drewN | apply below_drew1 | refine below_set ?_ GE118.out | refine below_set ?_ GE119.out) | exact HB.out)⟩
        · rw [if_neg c19] at H
          have c19b0 : (a0_1 == 8) = false := beq_eq_false_iff_ne.mpr c19
          have c19b1 : (a0_1 != 8) = true := bne_iff_ne.mpr c19
          by_cases c25 : a1_0 = a0_2
          · rw [if_pos c25] at H
            have c25b0 : (a1_0 == a0_2) = true := beq_iff_eq.mpr c25
            have c25b1 : (a1_0 != a0_2) = false := bne_eq_false_iff_eq.mpr c25
            clear c25
            by_cases c26 : a0_1 = 7
            · rw [if_pos c26] at H
              have c26b0 : (a0_1 == 7) = true := beq_iff_eq.mpr c26
              have c26b1 : (a0_1 != 7) = false := bne_eq_false_iff_eq.mpr c26
              clear c26
              replace H := Option.bind_eq_some_iff.mp H
              obtain ⟨t123, A270, H⟩ := H
              replace H : (some t123) = some r := H
              have A27 := Aside0.mk A270
              clear A270
              obtain rfl := Option.some.inj H
              have hnb28 := NB119_118.out
              have hnc28 := NB118_119.out
              have hcz29_0 : wc.cell? ⟨gb119, 0, none⟩ = some (.int .i64 a1_0) := (blk_cell BK119.out 0).trans rfl
              have hcz29_1 : wc.cell? ⟨gb119, 1, none⟩ = some (.int .i64 a1_1) := (blk_cell BK119.out 1).trans rfl
              have hcz29_2 : wc.cell? ⟨gb119, 2, none⟩ = some (.string a1_2) := (blk_cell BK119.out 2).trans rfl
              have hfz29_0 := blk_frozen BK119.out 0
              have hfz29_1 := blk_frozen BK119.out 1
              have hfz29_2 := blk_frozen BK119.out 2
              have hcz30_0 : wc.cell? ⟨gb118, 0, none⟩ = some (.string a0_0) := (blk_cell BK118.out 0).trans rfl
              have hcz30_1 : wc.cell? ⟨gb118, 1, none⟩ = some (.int .i64 a0_1) := (blk_cell BK118.out 1).trans rfl
              have hcz30_2 : wc.cell? ⟨gb118, 2, none⟩ = some (.int .i64 a0_2) := (blk_cell BK118.out 2).trans rfl
              have hcz30_3 : wc.cell? ⟨gb118, 3, none⟩ = some (.int .i64 a0_3) := (blk_cell BK118.out 3).trans rfl
              have hcz30_4 : wc.cell? ⟨gb118, 4, none⟩ = some (.string a0_4) := (blk_cell BK118.out 4).trans rfl
              have hfz30_0 := blk_frozen BK118.out 0
              have hfz30_1 := blk_frozen BK118.out 1
              have hfz30_2 := blk_frozen BK118.out 2
              have hfz30_3 := blk_frozen BK118.out 3
              have hfz30_4 := blk_frozen BK118.out 4
              go_wp2_with (first | ((with_reducible refine gate_callee (f := 26) rfl ?_); refine goesL_ (some 17) rfl rfl Try.func26 (by kernel_rfl) rfl #[.agg #[.int .i64 a1_0, .int .i64 a1_1, .string a1_2], .agg #[.int .i64 a0_2, .int .i64 a0_3, .string a0_4]] rfl (by (try simp only [List.map_toArray, List.map_cons, List.map_nil]); first | done | rfl | (simp only [List.length_drop, List.length_take]; rfl)) ?_; (with_reducible refine (value_Compare.calls kj2 a1_0 a1_1 a1_2 a0_2 a0_3 a0_4 t122 _ A18.out).mono ?_); rintro e w31 ⟨rfl, hb⟩; refine ⟨_, rfl, ?_⟩; have n0_ := Aside0.mk (blk_below (g := gb118) (o := .cells #[.string a0_0, .int .i64 a0_1, .int .i64 a0_2, .int .i64 a0_3, .string a0_4] 25 (0, 0)) (by (with_reducible repeat (first | refine blk_drewN ?_ _ | refine blk_drew ?_ | refine blk_alloc ?_ _)); exact BK118.out) hb); have n1_ := Aside0.mk (blk_below (g := gb119) (o := .cells #[.int .i64 a1_0, .int .i64 a1_1, .string a1_2] 23 (0, 0)) (by (with_reducible repeat (first | refine blk_drewN ?_ _ | refine blk_drew ?_ | refine blk_alloc ?_ _)); exact BK119.out) hb); have n2_ := Aside0.mk (below_step (by repeat (first | (with_reducible first | exact HB.out | apply below_alloc | apply pw_below_drewN | apply below_drew1 | refine below_set ?_ GE118.out | refine below_set ?_ GE119.out) | exact HB.out)) hb); clear BK118; clear BK119; clear HB; have BK118 := n0_; have BK119 := n1_; have HB := n2_; clear n0_ n1_ n2_; (try clear hb); (try clear hb2); (try clear hk); (try clear hi); have hcz32_0 : w31.cell? ⟨gb118, 0, none⟩ = some (.string a0_0) := (blk_cell BK118.out 0).trans rfl; have hcz32_1 : w31.cell? ⟨gb118, 1, none⟩ = some (.int .i64 a0_1) := (blk_cell BK118.out 1).trans rfl; have hcz32_2 : w31.cell? ⟨gb118, 2, none⟩ = some (.int .i64 a0_2) := (blk_cell BK118.out 2).trans rfl; have hcz32_3 : w31.cell? ⟨gb118, 3, none⟩ = some (.int .i64 a0_3) := (blk_cell BK118.out 3).trans rfl; have hcz32_4 : w31.cell? ⟨gb118, 4, none⟩ = some (.string a0_4) := (blk_cell BK118.out 4).trans rfl; have hfz32_0 := blk_frozen BK118.out 0; have hfz32_1 := blk_frozen BK118.out 1; have hfz32_2 := blk_frozen BK118.out 2; have hfz32_3 := blk_frozen BK118.out 3; have hfz32_4 := blk_frozen BK118.out 4; have hcz33_0 : w31.cell? ⟨gb119, 0, none⟩ = some (.int .i64 a1_0) := (blk_cell BK119.out 0).trans rfl; have hcz33_1 : w31.cell? ⟨gb119, 1, none⟩ = some (.int .i64 a1_1) := (blk_cell BK119.out 1).trans rfl; have hcz33_2 : w31.cell? ⟨gb119, 2, none⟩ = some (.string a1_2) := (blk_cell BK119.out 2).trans rfl; have hfz33_0 := blk_frozen BK119.out 0; have hfz33_1 := blk_frozen BK119.out 1; have hfz33_2 := blk_frozen BK119.out 2) | ((with_reducible refine gate_callee (f := 27) rfl ?_); refine goesL_ (some 38) rfl rfl Try.func27 (by kernel_rfl) rfl #[.string a1_2, .string a0_4] rfl (by (try simp only [List.map_toArray, List.map_cons, List.map_nil]); first | done | rfl | (simp only [List.length_drop, List.length_take]; rfl)) ?_; (with_reducible refine (strings_HasPrefix.calls a1_2 a0_4 t123 _ A27.out).mono ?_); rintro e w' ⟨rfl, ⟨nd, rfl⟩⟩; refine ⟨_, rfl, ?_⟩))
              go_ret
              exact ⟨by first | rfl | (simp [errW_none, errW_some] <;> rfl) | (simp [*, errW_none, errW_some] <;> rfl), by repeat (first | (with_reducible first | exact HB.out | apply below_alloc | apply pw_below_drewN | apply below_drew1 | refine below_set ?_ GE118.out | refine below_set ?_ GE119.out) | exact HB.out)⟩
            · rw [if_neg c26] at H
              have c26b0 : (a0_1 == 7) = false := beq_eq_false_iff_ne.mpr c26
              have c26b1 : (a0_1 != 7) = true := bne_iff_ne.mpr c26
              by_cases c34 : t122 < 0
              · rw [if_pos c34] at H
                have c34b0 : decide (t122 < 0) = true := decide_eq_true c34
                clear c34
                by_cases c35 : a0_1 = 2
                · rw [if_pos c35] at H
                  have c35b0 : (a0_1 == 2) = true := beq_iff_eq.mpr c35
                  have c35b1 : (a0_1 != 2) = false := bne_eq_false_iff_eq.mpr c35
                  clear c35
                  obtain rfl := Option.some.inj H
                  have hnb36 := NB119_118.out
                  have hnc36 := NB118_119.out
                  have hcz37_0 : wc.cell? ⟨gb119, 0, none⟩ = some (.int .i64 a1_0) := (blk_cell BK119.out 0).trans rfl
                  have hcz37_1 : wc.cell? ⟨gb119, 1, none⟩ = some (.int .i64 a1_1) := (blk_cell BK119.out 1).trans rfl
                  have hcz37_2 : wc.cell? ⟨gb119, 2, none⟩ = some (.string a1_2) := (blk_cell BK119.out 2).trans rfl
                  have hfz37_0 := blk_frozen BK119.out 0
                  have hfz37_1 := blk_frozen BK119.out 1
                  have hfz37_2 := blk_frozen BK119.out 2
                  have hcz38_0 : wc.cell? ⟨gb118, 0, none⟩ = some (.string a0_0) := (blk_cell BK118.out 0).trans rfl
                  have hcz38_1 : wc.cell? ⟨gb118, 1, none⟩ = some (.int .i64 a0_1) := (blk_cell BK118.out 1).trans rfl
                  have hcz38_2 : wc.cell? ⟨gb118, 2, none⟩ = some (.int .i64 a0_2) := (blk_cell BK118.out 2).trans rfl
                  have hcz38_3 : wc.cell? ⟨gb118, 3, none⟩ = some (.int .i64 a0_3) := (blk_cell BK118.out 3).trans rfl
                  have hcz38_4 : wc.cell? ⟨gb118, 4, none⟩ = some (.string a0_4) := (blk_cell BK118.out 4).trans rfl
                  have hfz38_0 := blk_frozen BK118.out 0
                  have hfz38_1 := blk_frozen BK118.out 1
                  have hfz38_2 := blk_frozen BK118.out 2
                  have hfz38_3 := blk_frozen BK118.out 3
                  have hfz38_4 := blk_frozen BK118.out 4
                  go_wp2_with (first | ((with_reducible refine gate_callee (f := 26) rfl ?_); refine goesL_ (some 17) rfl rfl Try.func26 (by kernel_rfl) rfl #[.agg #[.int .i64 a1_0, .int .i64 a1_1, .string a1_2], .agg #[.int .i64 a0_2, .int .i64 a0_3, .string a0_4]] rfl (by (try simp only [List.map_toArray, List.map_cons, List.map_nil]); first | done | rfl | (simp only [List.length_drop, List.length_take]; rfl)) ?_; (with_reducible refine (value_Compare.calls kj2 a1_0 a1_1 a1_2 a0_2 a0_3 a0_4 t122 _ A18.out).mono ?_); rintro e w39 ⟨rfl, hb⟩; refine ⟨_, rfl, ?_⟩; have n0_ := Aside0.mk (blk_below (g := gb118) (o := .cells #[.string a0_0, .int .i64 a0_1, .int .i64 a0_2, .int .i64 a0_3, .string a0_4] 25 (0, 0)) (by (with_reducible repeat (first | refine blk_drewN ?_ _ | refine blk_drew ?_ | refine blk_alloc ?_ _)); exact BK118.out) hb); have n1_ := Aside0.mk (blk_below (g := gb119) (o := .cells #[.int .i64 a1_0, .int .i64 a1_1, .string a1_2] 23 (0, 0)) (by (with_reducible repeat (first | refine blk_drewN ?_ _ | refine blk_drew ?_ | refine blk_alloc ?_ _)); exact BK119.out) hb); have n2_ := Aside0.mk (below_step (by repeat (first | (with_reducible first | exact HB.out | apply below_alloc | apply pw_below_drewN | apply below_drew1 | refine below_set ?_ GE118.out | refine below_set ?_ GE119.out) | exact HB.out)) hb); clear BK118; clear BK119; clear HB; have BK118 := n0_; have BK119 := n1_; have HB := n2_; clear n0_ n1_ n2_; (try clear hb); (try clear hb2); (try clear hk); (try clear hi); have hcz40_0 : w39.cell? ⟨gb118, 0, none⟩ = some (.string a0_0) := (blk_cell BK118.out 0).trans rfl; have hcz40_1 : w39.cell? ⟨gb118, 1, none⟩ = some (.int .i64 a0_1) := (blk_cell BK118.out 1).trans rfl; have hcz40_2 : w39.cell? ⟨gb118, 2, none⟩ = some (.int .i64 a0_2) := (blk_cell BK118.out 2).trans rfl; have hcz40_3 : w39.cell? ⟨gb118, 3, none⟩ = some (.int .i64 a0_3) := (blk_cell BK118.out 3).trans rfl; have hcz40_4 : w39.cell? ⟨gb118, 4, none⟩ = some (.string a0_4) := (blk_cell BK118.out 4).trans rfl; have hfz40_0 := blk_frozen BK118.out 0; have hfz40_1 := blk_frozen BK118.out 1; have hfz40_2 := blk_frozen BK118.out 2; have hfz40_3 := blk_frozen BK118.out 3; have hfz40_4 := blk_frozen BK118.out 4; have hcz41_0 : w39.cell? ⟨gb119, 0, none⟩ = some (.int .i64 a1_0) := (blk_cell BK119.out 0).trans rfl; have hcz41_1 : w39.cell? ⟨gb119, 1, none⟩ = some (.int .i64 a1_1) := (blk_cell BK119.out 1).trans rfl; have hcz41_2 : w39.cell? ⟨gb119, 2, none⟩ = some (.string a1_2) := (blk_cell BK119.out 2).trans rfl; have hfz41_0 := blk_frozen BK119.out 0; have hfz41_1 := blk_frozen BK119.out 1; have hfz41_2 := blk_frozen BK119.out 2))
                  go_ret
                  exact ⟨by first | rfl | (simp [errW_none, errW_some] <;> rfl) | (simp [*, errW_none, errW_some] <;> rfl), by repeat (first | (with_reducible first | exact HB.out | apply below_alloc | apply pw_below_drewN | apply below_drew1 | refine below_set ?_ GE118.out | refine below_set ?_ GE119.out) | exact HB.out)⟩
                · rw [if_neg c35] at H
                  have c35b0 : (a0_1 == 2) = false := beq_eq_false_iff_ne.mpr c35
                  have c35b1 : (a0_1 != 2) = true := bne_iff_ne.mpr c35
                  by_cases c42 : a0_1 = 3
                  · rw [if_pos c42] at H
                    have c42b0 : (a0_1 == 3) = true := beq_iff_eq.mpr c42
                    have c42b1 : (a0_1 != 3) = false := bne_eq_false_iff_eq.mpr c42
                    clear c42
                    obtain rfl := Option.some.inj H
                    have hnb43 := NB119_118.out
                    have hnc43 := NB118_119.out
                    have hcz44_0 : wc.cell? ⟨gb119, 0, none⟩ = some (.int .i64 a1_0) := (blk_cell BK119.out 0).trans rfl
                    have hcz44_1 : wc.cell? ⟨gb119, 1, none⟩ = some (.int .i64 a1_1) := (blk_cell BK119.out 1).trans rfl
                    have hcz44_2 : wc.cell? ⟨gb119, 2, none⟩ = some (.string a1_2) := (blk_cell BK119.out 2).trans rfl
                    have hfz44_0 := blk_frozen BK119.out 0
                    have hfz44_1 := blk_frozen BK119.out 1
                    have hfz44_2 := blk_frozen BK119.out 2
                    have hcz45_0 : wc.cell? ⟨gb118, 0, none⟩ = some (.string a0_0) := (blk_cell BK118.out 0).trans rfl
                    have hcz45_1 : wc.cell? ⟨gb118, 1, none⟩ = some (.int .i64 a0_1) := (blk_cell BK118.out 1).trans rfl
                    have hcz45_2 : wc.cell? ⟨gb118, 2, none⟩ = some (.int .i64 a0_2) := (blk_cell BK118.out 2).trans rfl
                    have hcz45_3 : wc.cell? ⟨gb118, 3, none⟩ = some (.int .i64 a0_3) := (blk_cell BK118.out 3).trans rfl
                    have hcz45_4 : wc.cell? ⟨gb118, 4, none⟩ = some (.string a0_4) := (blk_cell BK118.out 4).trans rfl
                    have hfz45_0 := blk_frozen BK118.out 0
                    have hfz45_1 := blk_frozen BK118.out 1
                    have hfz45_2 := blk_frozen BK118.out 2
                    have hfz45_3 := blk_frozen BK118.out 3
                    have hfz45_4 := blk_frozen BK118.out 4
                    go_wp2_with (first | ((with_reducible refine gate_callee (f := 26) rfl ?_); refine goesL_ (some 17) rfl rfl Try.func26 (by kernel_rfl) rfl #[.agg #[.int .i64 a1_0, .int .i64 a1_1, .string a1_2], .agg #[.int .i64 a0_2, .int .i64 a0_3, .string a0_4]] rfl (by (try simp only [List.map_toArray, List.map_cons, List.map_nil]); first | done | rfl | (simp only [List.length_drop, List.length_take]; rfl)) ?_; (with_reducible refine (value_Compare.calls kj2 a1_0 a1_1 a1_2 a0_2 a0_3 a0_4 t122 _ A18.out).mono ?_); rintro e w46 ⟨rfl, hb⟩; refine ⟨_, rfl, ?_⟩; have n0_ := Aside0.mk (blk_below (g := gb118) (o := .cells #[.string a0_0, .int .i64 a0_1, .int .i64 a0_2, .int .i64 a0_3, .string a0_4] 25 (0, 0)) (by (with_reducible repeat (first | refine blk_drewN ?_ _ | refine blk_drew ?_ | refine blk_alloc ?_ _)); exact BK118.out) hb); have n1_ := Aside0.mk (blk_below (g := gb119) (o := .cells #[.int .i64 a1_0, .int .i64 a1_1, .string a1_2] 23 (0, 0)) (by (with_reducible repeat (first | refine blk_drewN ?_ _ | refine blk_drew ?_ | refine blk_alloc ?_ _)); exact BK119.out) hb); have n2_ := Aside0.mk (below_step (by repeat (first | (with_reducible first | exact HB.out | apply below_alloc | apply pw_below_drewN | apply below_drew1 | refine below_set ?_ GE118.out | refine below_set ?_ GE119.out) | exact HB.out)) hb); clear BK118; clear BK119; clear HB; have BK118 := n0_; have BK119 := n1_; have HB := n2_; clear n0_ n1_ n2_; (try clear hb); (try clear hb2); (try clear hk); (try clear hi); have hcz47_0 : w46.cell? ⟨gb118, 0, none⟩ = some (.string a0_0) := (blk_cell BK118.out 0).trans rfl; have hcz47_1 : w46.cell? ⟨gb118, 1, none⟩ = some (.int .i64 a0_1) := (blk_cell BK118.out 1).trans rfl; have hcz47_2 : w46.cell? ⟨gb118, 2, none⟩ = some (.int .i64 a0_2) := (blk_cell BK118.out 2).trans rfl; have hcz47_3 : w46.cell? ⟨gb118, 3, none⟩ = some (.int .i64 a0_3) := (blk_cell BK118.out 3).trans rfl; have hcz47_4 : w46.cell? ⟨gb118, 4, none⟩ = some (.string a0_4) := (blk_cell BK118.out 4).trans rfl; have hfz47_0 := blk_frozen BK118.out 0; have hfz47_1 := blk_frozen BK118.out 1; have hfz47_2 := blk_frozen BK118.out 2; have hfz47_3 := blk_frozen BK118.out 3; have hfz47_4 := blk_frozen BK118.out 4; have hcz48_0 : w46.cell? ⟨gb119, 0, none⟩ = some (.int .i64 a1_0) := (blk_cell BK119.out 0).trans rfl; have hcz48_1 : w46.cell? ⟨gb119, 1, none⟩ = some (.int .i64 a1_1) := (blk_cell BK119.out 1).trans rfl; have hcz48_2 : w46.cell? ⟨gb119, 2, none⟩ = some (.string a1_2) := (blk_cell BK119.out 2).trans rfl; have hfz48_0 := blk_frozen BK119.out 0; have hfz48_1 := blk_frozen BK119.out 1; have hfz48_2 := blk_frozen BK119.out 2))
                    go_ret
                    exact ⟨by first | rfl | (simp [errW_none, errW_some] <;> rfl) | (simp [*, errW_none, errW_some] <;> rfl), by repeat (first | (with_reducible first | exact HB.out | apply below_alloc | apply pw_below_drewN | apply below_drew1 | refine below_set ?_ GE118.out | refine below_set ?_ GE119.out) | exact HB.out)⟩
                  · rw [if_neg c42] at H
                    have c42b0 : (a0_1 == 3) = false := beq_eq_false_iff_ne.mpr c42
                    have c42b1 : (a0_1 != 3) = true := bne_iff_ne.mpr c42
                    obtain rfl := Option.some.inj H
                    have hnb49 := NB119_118.out
                    have hnc49 := NB118_119.out
                    have hcz50_0 : wc.cell? ⟨gb119, 0, none⟩ = some (.int .i64 a1_0) := (blk_cell BK119.out 0).trans rfl
                    have hcz50_1 : wc.cell? ⟨gb119, 1, none⟩ = some (.int .i64 a1_1) := (blk_cell BK119.out 1).trans rfl
                    have hcz50_2 : wc.cell? ⟨gb119, 2, none⟩ = some (.string a1_2) := (blk_cell BK119.out 2).trans rfl
                    have hfz50_0 := blk_frozen BK119.out 0
                    have hfz50_1 := blk_frozen BK119.out 1
                    have hfz50_2 := blk_frozen BK119.out 2
                    have hcz51_0 : wc.cell? ⟨gb118, 0, none⟩ = some (.string a0_0) := (blk_cell BK118.out 0).trans rfl
                    have hcz51_1 : wc.cell? ⟨gb118, 1, none⟩ = some (.int .i64 a0_1) := (blk_cell BK118.out 1).trans rfl
                    have hcz51_2 : wc.cell? ⟨gb118, 2, none⟩ = some (.int .i64 a0_2) := (blk_cell BK118.out 2).trans rfl
                    have hcz51_3 : wc.cell? ⟨gb118, 3, none⟩ = some (.int .i64 a0_3) := (blk_cell BK118.out 3).trans rfl
                    have hcz51_4 : wc.cell? ⟨gb118, 4, none⟩ = some (.string a0_4) := (blk_cell BK118.out 4).trans rfl
                    have hfz51_0 := blk_frozen BK118.out 0
                    have hfz51_1 := blk_frozen BK118.out 1
                    have hfz51_2 := blk_frozen BK118.out 2
                    have hfz51_3 := blk_frozen BK118.out 3
                    have hfz51_4 := blk_frozen BK118.out 4
                    go_wp2_with (first | ((with_reducible refine gate_callee (f := 26) rfl ?_); refine goesL_ (some 17) rfl rfl Try.func26 (by kernel_rfl) rfl #[.agg #[.int .i64 a1_0, .int .i64 a1_1, .string a1_2], .agg #[.int .i64 a0_2, .int .i64 a0_3, .string a0_4]] rfl (by (try simp only [List.map_toArray, List.map_cons, List.map_nil]); first | done | rfl | (simp only [List.length_drop, List.length_take]; rfl)) ?_; (with_reducible refine (value_Compare.calls kj2 a1_0 a1_1 a1_2 a0_2 a0_3 a0_4 t122 _ A18.out).mono ?_); rintro e w52 ⟨rfl, hb⟩; refine ⟨_, rfl, ?_⟩; have n0_ := Aside0.mk (blk_below (g := gb118) (o := .cells #[.string a0_0, .int .i64 a0_1, .int .i64 a0_2, .int .i64 a0_3, .string a0_4] 25 (0, 0)) (by (with_reducible repeat (first | refine blk_drewN ?_ _ | refine blk_drew ?_ | refine blk_alloc ?_ _)); exact BK118.out) hb); have n1_ := Aside0.mk (blk_below (g := gb119) (o := .cells #[.int .i64 a1_0, .int .i64 a1_1, .string a1_2] 23 (0, 0)) (by (with_reducible repeat (first | refine blk_drewN ?_ _ | refine blk_drew ?_ | refine blk_alloc ?_ _)); exact BK119.out) hb); have n2_ := Aside0.mk (below_step (by repeat (first | (with_reducible first | exact HB.out | apply below_alloc | apply pw_below_drewN | apply below_drew1 | refine below_set ?_ GE118.out | refine below_set ?_ GE119.out) | exact HB.out)) hb); clear BK118; clear BK119; clear HB; have BK118 := n0_; have BK119 := n1_; have HB := n2_; clear n0_ n1_ n2_; (try clear hb); (try clear hb2); (try clear hk); (try clear hi); have hcz53_0 : w52.cell? ⟨gb118, 0, none⟩ = some (.string a0_0) := (blk_cell BK118.out 0).trans rfl; have hcz53_1 : w52.cell? ⟨gb118, 1, none⟩ = some (.int .i64 a0_1) := (blk_cell BK118.out 1).trans rfl; have hcz53_2 : w52.cell? ⟨gb118, 2, none⟩ = some (.int .i64 a0_2) := (blk_cell BK118.out 2).trans rfl; have hcz53_3 : w52.cell? ⟨gb118, 3, none⟩ = some (.int .i64 a0_3) := (blk_cell BK118.out 3).trans rfl; have hcz53_4 : w52.cell? ⟨gb118, 4, none⟩ = some (.string a0_4) := (blk_cell BK118.out 4).trans rfl; have hfz53_0 := blk_frozen BK118.out 0; have hfz53_1 := blk_frozen BK118.out 1; have hfz53_2 := blk_frozen BK118.out 2; have hfz53_3 := blk_frozen BK118.out 3; have hfz53_4 := blk_frozen BK118.out 4; have hcz54_0 : w52.cell? ⟨gb119, 0, none⟩ = some (.int .i64 a1_0) := (blk_cell BK119.out 0).trans rfl; have hcz54_1 : w52.cell? ⟨gb119, 1, none⟩ = some (.int .i64 a1_1) := (blk_cell BK119.out 1).trans rfl; have hcz54_2 : w52.cell? ⟨gb119, 2, none⟩ = some (.string a1_2) := (blk_cell BK119.out 2).trans rfl; have hfz54_0 := blk_frozen BK119.out 0; have hfz54_1 := blk_frozen BK119.out 1; have hfz54_2 := blk_frozen BK119.out 2))
                    go_ret
                    exact ⟨by first | rfl | (simp [errW_none, errW_some] <;> rfl) | (simp [*, errW_none, errW_some] <;> rfl), by repeat (first | (with_reducible first | exact HB.out | apply below_alloc | apply pw_below_drewN | apply below_drew1 | refine below_set ?_ GE118.out | refine below_set ?_ GE119.out) | exact HB.out)⟩
              · rw [if_neg c34] at H
                have c34b0 : decide (t122 < 0) = false := decide_eq_false c34
                clear c34
                by_cases c55 : t122 > 0
                · rw [if_pos c55] at H
                  have c55b0 : decide (0 < t122) = true := decide_eq_true c55
                  clear c55
                  by_cases c56 : a0_1 = 2
                  · rw [if_pos c56] at H
                    have c56b0 : (a0_1 == 2) = true := beq_iff_eq.mpr c56
                    have c56b1 : (a0_1 != 2) = false := bne_eq_false_iff_eq.mpr c56
                    clear c56
                    obtain rfl := Option.some.inj H
                    have hnb57 := NB119_118.out
                    have hnc57 := NB118_119.out
                    have hcz58_0 : wc.cell? ⟨gb119, 0, none⟩ = some (.int .i64 a1_0) := (blk_cell BK119.out 0).trans rfl
                    have hcz58_1 : wc.cell? ⟨gb119, 1, none⟩ = some (.int .i64 a1_1) := (blk_cell BK119.out 1).trans rfl
                    have hcz58_2 : wc.cell? ⟨gb119, 2, none⟩ = some (.string a1_2) := (blk_cell BK119.out 2).trans rfl
                    have hfz58_0 := blk_frozen BK119.out 0
                    have hfz58_1 := blk_frozen BK119.out 1
                    have hfz58_2 := blk_frozen BK119.out 2
                    have hcz59_0 : wc.cell? ⟨gb118, 0, none⟩ = some (.string a0_0) := (blk_cell BK118.out 0).trans rfl
                    have hcz59_1 : wc.cell? ⟨gb118, 1, none⟩ = some (.int .i64 a0_1) := (blk_cell BK118.out 1).trans rfl
                    have hcz59_2 : wc.cell? ⟨gb118, 2, none⟩ = some (.int .i64 a0_2) := (blk_cell BK118.out 2).trans rfl
                    have hcz59_3 : wc.cell? ⟨gb118, 3, none⟩ = some (.int .i64 a0_3) := (blk_cell BK118.out 3).trans rfl
                    have hcz59_4 : wc.cell? ⟨gb118, 4, none⟩ = some (.string a0_4) := (blk_cell BK118.out 4).trans rfl
                    have hfz59_0 := blk_frozen BK118.out 0
                    have hfz59_1 := blk_frozen BK118.out 1
                    have hfz59_2 := blk_frozen BK118.out 2
                    have hfz59_3 := blk_frozen BK118.out 3
                    have hfz59_4 := blk_frozen BK118.out 4
                    go_wp2_with (first | ((with_reducible refine gate_callee (f := 26) rfl ?_); refine goesL_ (some 17) rfl rfl Try.func26 (by kernel_rfl) rfl #[.agg #[.int .i64 a1_0, .int .i64 a1_1, .string a1_2], .agg #[.int .i64 a0_2, .int .i64 a0_3, .string a0_4]] rfl (by (try simp only [List.map_toArray, List.map_cons, List.map_nil]); first | done | rfl | (simp only [List.length_drop, List.length_take]; rfl)) ?_; (with_reducible refine (value_Compare.calls kj2 a1_0 a1_1 a1_2 a0_2 a0_3 a0_4 t122 _ A18.out).mono ?_); rintro e w60 ⟨rfl, hb⟩; refine ⟨_, rfl, ?_⟩; have n0_ := Aside0.mk (blk_below (g := gb118) (o := .cells #[.string a0_0, .int .i64 a0_1, .int .i64 a0_2, .int .i64 a0_3, .string a0_4] 25 (0, 0)) (by (with_reducible repeat (first | refine blk_drewN ?_ _ | refine blk_drew ?_ | refine blk_alloc ?_ _)); exact BK118.out) hb); have n1_ := Aside0.mk (blk_below (g := gb119) (o := .cells #[.int .i64 a1_0, .int .i64 a1_1, .string a1_2] 23 (0, 0)) (by (with_reducible repeat (first | refine blk_drewN ?_ _ | refine blk_drew ?_ | refine blk_alloc ?_ _)); exact BK119.out) hb); have n2_ := Aside0.mk (below_step (by repeat (first | (with_reducible first | exact HB.out | apply below_alloc | apply pw_below_drewN | apply below_drew1 | refine below_set ?_ GE118.out | refine below_set ?_ GE119.out) | exact HB.out)) hb); clear BK118; clear BK119; clear HB; have BK118 := n0_; have BK119 := n1_; have HB := n2_; clear n0_ n1_ n2_; (try clear hb); (try clear hb2); (try clear hk); (try clear hi); have hcz61_0 : w60.cell? ⟨gb118, 0, none⟩ = some (.string a0_0) := (blk_cell BK118.out 0).trans rfl; have hcz61_1 : w60.cell? ⟨gb118, 1, none⟩ = some (.int .i64 a0_1) := (blk_cell BK118.out 1).trans rfl; have hcz61_2 : w60.cell? ⟨gb118, 2, none⟩ = some (.int .i64 a0_2) := (blk_cell BK118.out 2).trans rfl; have hcz61_3 : w60.cell? ⟨gb118, 3, none⟩ = some (.int .i64 a0_3) := (blk_cell BK118.out 3).trans rfl; have hcz61_4 : w60.cell? ⟨gb118, 4, none⟩ = some (.string a0_4) := (blk_cell BK118.out 4).trans rfl; have hfz61_0 := blk_frozen BK118.out 0; have hfz61_1 := blk_frozen BK118.out 1; have hfz61_2 := blk_frozen BK118.out 2; have hfz61_3 := blk_frozen BK118.out 3; have hfz61_4 := blk_frozen BK118.out 4; have hcz62_0 : w60.cell? ⟨gb119, 0, none⟩ = some (.int .i64 a1_0) := (blk_cell BK119.out 0).trans rfl; have hcz62_1 : w60.cell? ⟨gb119, 1, none⟩ = some (.int .i64 a1_1) := (blk_cell BK119.out 1).trans rfl; have hcz62_2 : w60.cell? ⟨gb119, 2, none⟩ = some (.string a1_2) := (blk_cell BK119.out 2).trans rfl; have hfz62_0 := blk_frozen BK119.out 0; have hfz62_1 := blk_frozen BK119.out 1; have hfz62_2 := blk_frozen BK119.out 2))
                    go_ret
                    exact ⟨by first | rfl | (simp [errW_none, errW_some] <;> rfl) | (simp [*, errW_none, errW_some] <;> rfl), by repeat (first | (with_reducible first | exact HB.out | apply below_alloc | apply pw_below_drewN | apply below_drew1 | refine below_set ?_ GE118.out | refine below_set ?_ GE119.out) | exact HB.out)⟩
                  · rw [if_neg c56] at H
                    have c56b0 : (a0_1 == 2) = false := beq_eq_false_iff_ne.mpr c56
                    have c56b1 : (a0_1 != 2) = true := bne_iff_ne.mpr c56
                    by_cases c63 : a0_1 = 5
                    · rw [if_pos c63] at H
                      have c63b0 : (a0_1 == 5) = true := beq_iff_eq.mpr c63
                      have c63b1 : (a0_1 != 5) = false := bne_eq_false_iff_eq.mpr c63
                      clear c63
                      obtain rfl := Option.some.inj H
                      have hnb64 := NB119_118.out
                      have hnc64 := NB118_119.out
                      have hcz65_0 : wc.cell? ⟨gb119, 0, none⟩ = some (.int .i64 a1_0) := (blk_cell BK119.out 0).trans rfl
                      have hcz65_1 : wc.cell? ⟨gb119, 1, none⟩ = some (.int .i64 a1_1) := (blk_cell BK119.out 1).trans rfl
                      have hcz65_2 : wc.cell? ⟨gb119, 2, none⟩ = some (.string a1_2) := (blk_cell BK119.out 2).trans rfl
                      have hfz65_0 := blk_frozen BK119.out 0
                      have hfz65_1 := blk_frozen BK119.out 1
                      have hfz65_2 := blk_frozen BK119.out 2
                      have hcz66_0 : wc.cell? ⟨gb118, 0, none⟩ = some (.string a0_0) := (blk_cell BK118.out 0).trans rfl
                      have hcz66_1 : wc.cell? ⟨gb118, 1, none⟩ = some (.int .i64 a0_1) := (blk_cell BK118.out 1).trans rfl
                      have hcz66_2 : wc.cell? ⟨gb118, 2, none⟩ = some (.int .i64 a0_2) := (blk_cell BK118.out 2).trans rfl
                      have hcz66_3 : wc.cell? ⟨gb118, 3, none⟩ = some (.int .i64 a0_3) := (blk_cell BK118.out 3).trans rfl
                      have hcz66_4 : wc.cell? ⟨gb118, 4, none⟩ = some (.string a0_4) := (blk_cell BK118.out 4).trans rfl
                      have hfz66_0 := blk_frozen BK118.out 0
                      have hfz66_1 := blk_frozen BK118.out 1
                      have hfz66_2 := blk_frozen BK118.out 2
                      have hfz66_3 := blk_frozen BK118.out 3
                      have hfz66_4 := blk_frozen BK118.out 4
                      go_wp2_with (first | ((with_reducible refine gate_callee (f := 26) rfl ?_); refine goesL_ (some 17) rfl rfl Try.func26 (by kernel_rfl) rfl #[.agg #[.int .i64 a1_0, .int .i64 a1_1, .string a1_2], .agg #[.int .i64 a0_2, .int .i64 a0_3, .string a0_4]] rfl (by (try simp only [List.map_toArray, List.map_cons, List.map_nil]); first | done | rfl | (simp only [List.length_drop, List.length_take]; rfl)) ?_; (with_reducible refine (value_Compare.calls kj2 a1_0 a1_1 a1_2 a0_2 a0_3 a0_4 t122 _ A18.out).mono ?_); rintro e w67 ⟨rfl, hb⟩; refine ⟨_, rfl, ?_⟩; have n0_ := Aside0.mk (blk_below (g := gb118) (o := .cells #[.string a0_0, .int .i64 a0_1, .int .i64 a0_2, .int .i64 a0_3, .string a0_4] 25 (0, 0)) (by (with_reducible repeat (first | refine blk_drewN ?_ _ | refine blk_drew ?_ | refine blk_alloc ?_ _)); exact BK118.out) hb); have n1_ := Aside0.mk (blk_below (g := gb119) (o := .cells #[.int .i64 a1_0, .int .i64 a1_1, .string a1_2] 23 (0, 0)) (by (with_reducible repeat (first | refine blk_drewN ?_ _ | refine blk_drew ?_ | refine blk_alloc ?_ _)); exact BK119.out) hb); have n2_ := Aside0.mk (below_step (by repeat (first | (with_reducible first | exact HB.out | apply below_alloc | apply pw_below_drewN | apply below_drew1 | refine below_set ?_ GE118.out | refine below_set ?_ GE119.out) | exact HB.out)) hb); clear BK118; clear BK119; clear HB; have BK118 := n0_; have BK119 := n1_; have HB := n2_; clear n0_ n1_ n2_; (try clear hb); (try clear hb2); (try clear hk); (try clear hi); have hcz68_0 : w67.cell? ⟨gb118, 0, none⟩ = some (.string a0_0) := (blk_cell BK118.out 0).trans rfl; have hcz68_1 : w67.cell? ⟨gb118, 1, none⟩ = some (.int .i64 a0_1) := (blk_cell BK118.out 1).trans rfl; have hcz68_2 : w67.cell? ⟨gb118, 2, none⟩ = some (.int .i64 a0_2) := (blk_cell BK118.out 2).trans rfl; have hcz68_3 : w67.cell? ⟨gb118, 3, none⟩ = some (.int .i64 a0_3) := (blk_cell BK118.out 3).trans rfl; have hcz68_4 : w67.cell? ⟨gb118, 4, none⟩ = some (.string a0_4) := (blk_cell BK118.out 4).trans rfl; have hfz68_0 := blk_frozen BK118.out 0; have hfz68_1 := blk_frozen BK118.out 1; have hfz68_2 := blk_frozen BK118.out 2; have hfz68_3 := blk_frozen BK118.out 3; have hfz68_4 := blk_frozen BK118.out 4; have hcz69_0 : w67.cell? ⟨gb119, 0, none⟩ = some (.int .i64 a1_0) := (blk_cell BK119.out 0).trans rfl; have hcz69_1 : w67.cell? ⟨gb119, 1, none⟩ = some (.int .i64 a1_1) := (blk_cell BK119.out 1).trans rfl; have hcz69_2 : w67.cell? ⟨gb119, 2, none⟩ = some (.string a1_2) := (blk_cell BK119.out 2).trans rfl; have hfz69_0 := blk_frozen BK119.out 0; have hfz69_1 := blk_frozen BK119.out 1; have hfz69_2 := blk_frozen BK119.out 2))
                      go_ret
                      exact ⟨by first | rfl | (simp [errW_none, errW_some] <;> rfl) | (simp [*, errW_none, errW_some] <;> rfl), by repeat (first | (with_reducible first | exact HB.out | apply below_alloc | apply pw_below_drewN | apply below_drew1 | refine below_set ?_ GE118.out | refine below_set ?_ GE119.out) | exact HB.out)⟩
                    · rw [if_neg c63] at H
                      have c63b0 : (a0_1 == 5) = false := beq_eq_false_iff_ne.mpr c63
                      have c63b1 : (a0_1 != 5) = true := bne_iff_ne.mpr c63
                      obtain rfl := Option.some.inj H
                      have hnb70 := NB119_118.out
                      have hnc70 := NB118_119.out
                      have hcz71_0 : wc.cell? ⟨gb119, 0, none⟩ = some (.int .i64 a1_0) := (blk_cell BK119.out 0).trans rfl
                      have hcz71_1 : wc.cell? ⟨gb119, 1, none⟩ = some (.int .i64 a1_1) := (blk_cell BK119.out 1).trans rfl
                      have hcz71_2 : wc.cell? ⟨gb119, 2, none⟩ = some (.string a1_2) := (blk_cell BK119.out 2).trans rfl
                      have hfz71_0 := blk_frozen BK119.out 0
                      have hfz71_1 := blk_frozen BK119.out 1
                      have hfz71_2 := blk_frozen BK119.out 2
                      have hcz72_0 : wc.cell? ⟨gb118, 0, none⟩ = some (.string a0_0) := (blk_cell BK118.out 0).trans rfl
                      have hcz72_1 : wc.cell? ⟨gb118, 1, none⟩ = some (.int .i64 a0_1) := (blk_cell BK118.out 1).trans rfl
                      have hcz72_2 : wc.cell? ⟨gb118, 2, none⟩ = some (.int .i64 a0_2) := (blk_cell BK118.out 2).trans rfl
                      have hcz72_3 : wc.cell? ⟨gb118, 3, none⟩ = some (.int .i64 a0_3) := (blk_cell BK118.out 3).trans rfl
                      have hcz72_4 : wc.cell? ⟨gb118, 4, none⟩ = some (.string a0_4) := (blk_cell BK118.out 4).trans rfl
                      have hfz72_0 := blk_frozen BK118.out 0
                      have hfz72_1 := blk_frozen BK118.out 1
                      have hfz72_2 := blk_frozen BK118.out 2
                      have hfz72_3 := blk_frozen BK118.out 3
                      have hfz72_4 := blk_frozen BK118.out 4
                      go_wp2_with (first | ((with_reducible refine gate_callee (f := 26) rfl ?_); refine goesL_ (some 17) rfl rfl Try.func26 (by kernel_rfl) rfl #[.agg #[.int .i64 a1_0, .int .i64 a1_1, .string a1_2], .agg #[.int .i64 a0_2, .int .i64 a0_3, .string a0_4]] rfl (by (try simp only [List.map_toArray, List.map_cons, List.map_nil]); first | done | rfl | (simp only [List.length_drop, List.length_take]; rfl)) ?_; (with_reducible refine (value_Compare.calls kj2 a1_0 a1_1 a1_2 a0_2 a0_3 a0_4 t122 _ A18.out).mono ?_); rintro e w73 ⟨rfl, hb⟩; refine ⟨_, rfl, ?_⟩; have n0_ := Aside0.mk (blk_below (g := gb118) (o := .cells #[.string a0_0, .int .i64 a0_1, .int .i64 a0_2, .int .i64 a0_3, .string a0_4] 25 (0, 0)) (by (with_reducible repeat (first | refine blk_drewN ?_ _ | refine blk_drew ?_ | refine blk_alloc ?_ _)); exact BK118.out) hb); have n1_ := Aside0.mk (blk_below (g := gb119) (o := .cells #[.int .i64 a1_0, .int .i64 a1_1, .string a1_2] 23 (0, 0)) (by (with_reducible repeat (first | refine blk_drewN ?_ _ | refine blk_drew ?_ | refine blk_alloc ?_ _)); exact BK119.out) hb); have n2_ := Aside0.mk (below_step (by repeat (first | (with_reducible first | exact HB.out | apply below_alloc | apply pw_below_drewN | apply below_drew1 | refine below_set ?_ GE118.out | refine below_set ?_ GE119.out) | exact HB.out)) hb); clear BK118; clear BK119; clear HB; have BK118 := n0_; have BK119 := n1_; have HB := n2_; clear n0_ n1_ n2_; (try clear hb); (try clear hb2); (try clear hk); (try clear hi); have hcz74_0 : w73.cell? ⟨gb118, 0, none⟩ = some (.string a0_0) := (blk_cell BK118.out 0).trans rfl; have hcz74_1 : w73.cell? ⟨gb118, 1, none⟩ = some (.int .i64 a0_1) := (blk_cell BK118.out 1).trans rfl; have hcz74_2 : w73.cell? ⟨gb118, 2, none⟩ = some (.int .i64 a0_2) := (blk_cell BK118.out 2).trans rfl; have hcz74_3 : w73.cell? ⟨gb118, 3, none⟩ = some (.int .i64 a0_3) := (blk_cell BK118.out 3).trans rfl; have hcz74_4 : w73.cell? ⟨gb118, 4, none⟩ = some (.string a0_4) := (blk_cell BK118.out 4).trans rfl; have hfz74_0 := blk_frozen BK118.out 0; have hfz74_1 := blk_frozen BK118.out 1; have hfz74_2 := blk_frozen BK118.out 2; have hfz74_3 := blk_frozen BK118.out 3; have hfz74_4 := blk_frozen BK118.out 4; have hcz75_0 : w73.cell? ⟨gb119, 0, none⟩ = some (.int .i64 a1_0) := (blk_cell BK119.out 0).trans rfl; have hcz75_1 : w73.cell? ⟨gb119, 1, none⟩ = some (.int .i64 a1_1) := (blk_cell BK119.out 1).trans rfl; have hcz75_2 : w73.cell? ⟨gb119, 2, none⟩ = some (.string a1_2) := (blk_cell BK119.out 2).trans rfl; have hfz75_0 := blk_frozen BK119.out 0; have hfz75_1 := blk_frozen BK119.out 1; have hfz75_2 := blk_frozen BK119.out 2))
                      go_ret
                      exact ⟨by first | rfl | (simp [errW_none, errW_some] <;> rfl) | (simp [*, errW_none, errW_some] <;> rfl), by repeat (first | (with_reducible first | exact HB.out | apply below_alloc | apply pw_below_drewN | apply below_drew1 | refine below_set ?_ GE118.out | refine below_set ?_ GE119.out) | exact HB.out)⟩
                · rw [if_neg c55] at H
                  have c55b0 : decide (0 < t122) = false := decide_eq_false c55
                  clear c55
                  by_cases c76 : a0_1 = 1
                  · rw [if_pos c76] at H
                    have c76b0 : (a0_1 == 1) = true := beq_iff_eq.mpr c76
                    have c76b1 : (a0_1 != 1) = false := bne_eq_false_iff_eq.mpr c76
                    clear c76
                    obtain rfl := Option.some.inj H
                    have hnb77 := NB119_118.out
                    have hnc77 := NB118_119.out
                    have hcz78_0 : wc.cell? ⟨gb119, 0, none⟩ = some (.int .i64 a1_0) := (blk_cell BK119.out 0).trans rfl
                    have hcz78_1 : wc.cell? ⟨gb119, 1, none⟩ = some (.int .i64 a1_1) := (blk_cell BK119.out 1).trans rfl
                    have hcz78_2 : wc.cell? ⟨gb119, 2, none⟩ = some (.string a1_2) := (blk_cell BK119.out 2).trans rfl
                    have hfz78_0 := blk_frozen BK119.out 0
                    have hfz78_1 := blk_frozen BK119.out 1
                    have hfz78_2 := blk_frozen BK119.out 2
                    have hcz79_0 : wc.cell? ⟨gb118, 0, none⟩ = some (.string a0_0) := (blk_cell BK118.out 0).trans rfl
                    have hcz79_1 : wc.cell? ⟨gb118, 1, none⟩ = some (.int .i64 a0_1) := (blk_cell BK118.out 1).trans rfl
                    have hcz79_2 : wc.cell? ⟨gb118, 2, none⟩ = some (.int .i64 a0_2) := (blk_cell BK118.out 2).trans rfl
                    have hcz79_3 : wc.cell? ⟨gb118, 3, none⟩ = some (.int .i64 a0_3) := (blk_cell BK118.out 3).trans rfl
                    have hcz79_4 : wc.cell? ⟨gb118, 4, none⟩ = some (.string a0_4) := (blk_cell BK118.out 4).trans rfl
                    have hfz79_0 := blk_frozen BK118.out 0
                    have hfz79_1 := blk_frozen BK118.out 1
                    have hfz79_2 := blk_frozen BK118.out 2
                    have hfz79_3 := blk_frozen BK118.out 3
                    have hfz79_4 := blk_frozen BK118.out 4
                    go_wp2_with (first | ((with_reducible refine gate_callee (f := 26) rfl ?_); refine goesL_ (some 17) rfl rfl Try.func26 (by kernel_rfl) rfl #[.agg #[.int .i64 a1_0, .int .i64 a1_1, .string a1_2], .agg #[.int .i64 a0_2, .int .i64 a0_3, .string a0_4]] rfl (by (try simp only [List.map_toArray, List.map_cons, List.map_nil]); first | done | rfl | (simp only [List.length_drop, List.length_take]; rfl)) ?_; (with_reducible refine (value_Compare.calls kj2 a1_0 a1_1 a1_2 a0_2 a0_3 a0_4 t122 _ A18.out).mono ?_); rintro e w80 ⟨rfl, hb⟩; refine ⟨_, rfl, ?_⟩; have n0_ := Aside0.mk (blk_below (g := gb118) (o := .cells #[.string a0_0, .int .i64 a0_1, .int .i64 a0_2, .int .i64 a0_3, .string a0_4] 25 (0, 0)) (by (with_reducible repeat (first | refine blk_drewN ?_ _ | refine blk_drew ?_ | refine blk_alloc ?_ _)); exact BK118.out) hb); have n1_ := Aside0.mk (blk_below (g := gb119) (o := .cells #[.int .i64 a1_0, .int .i64 a1_1, .string a1_2] 23 (0, 0)) (by (with_reducible repeat (first | refine blk_drewN ?_ _ | refine blk_drew ?_ | refine blk_alloc ?_ _)); exact BK119.out) hb); have n2_ := Aside0.mk (below_step (by repeat (first | (with_reducible first | exact HB.out | apply below_alloc | apply pw_below_drewN | apply below_drew1 | refine below_set ?_ GE118.out | refine below_set ?_ GE119.out) | exact HB.out)) hb); clear BK118; clear BK119; clear HB; have BK118 := n0_; have BK119 := n1_; have HB := n2_; clear n0_ n1_ n2_; (try clear hb); (try clear hb2); (try clear hk); (try clear hi); have hcz81_0 : w80.cell? ⟨gb118, 0, none⟩ = some (.string a0_0) := (blk_cell BK118.out 0).trans rfl; have hcz81_1 : w80.cell? ⟨gb118, 1, none⟩ = some (.int .i64 a0_1) := (blk_cell BK118.out 1).trans rfl; have hcz81_2 : w80.cell? ⟨gb118, 2, none⟩ = some (.int .i64 a0_2) := (blk_cell BK118.out 2).trans rfl; have hcz81_3 : w80.cell? ⟨gb118, 3, none⟩ = some (.int .i64 a0_3) := (blk_cell BK118.out 3).trans rfl; have hcz81_4 : w80.cell? ⟨gb118, 4, none⟩ = some (.string a0_4) := (blk_cell BK118.out 4).trans rfl; have hfz81_0 := blk_frozen BK118.out 0; have hfz81_1 := blk_frozen BK118.out 1; have hfz81_2 := blk_frozen BK118.out 2; have hfz81_3 := blk_frozen BK118.out 3; have hfz81_4 := blk_frozen BK118.out 4; have hcz82_0 : w80.cell? ⟨gb119, 0, none⟩ = some (.int .i64 a1_0) := (blk_cell BK119.out 0).trans rfl; have hcz82_1 : w80.cell? ⟨gb119, 1, none⟩ = some (.int .i64 a1_1) := (blk_cell BK119.out 1).trans rfl; have hcz82_2 : w80.cell? ⟨gb119, 2, none⟩ = some (.string a1_2) := (blk_cell BK119.out 2).trans rfl; have hfz82_0 := blk_frozen BK119.out 0; have hfz82_1 := blk_frozen BK119.out 1; have hfz82_2 := blk_frozen BK119.out 2))
                    go_ret
                    exact ⟨by first | rfl | (simp [errW_none, errW_some] <;> rfl) | (simp [*, errW_none, errW_some] <;> rfl), by repeat (first | (with_reducible first | exact HB.out | apply below_alloc | apply pw_below_drewN | apply below_drew1 | refine below_set ?_ GE118.out | refine below_set ?_ GE119.out) | exact HB.out)⟩
                  · rw [if_neg c76] at H
                    have c76b0 : (a0_1 == 1) = false := beq_eq_false_iff_ne.mpr c76
                    have c76b1 : (a0_1 != 1) = true := bne_iff_ne.mpr c76
                    by_cases c83 : a0_1 = 4
                    · rw [if_pos c83] at H
                      have c83b0 : (a0_1 == 4) = true := beq_iff_eq.mpr c83
                      have c83b1 : (a0_1 != 4) = false := bne_eq_false_iff_eq.mpr c83
                      clear c83
                      obtain rfl := Option.some.inj H
                      have hnb84 := NB119_118.out
                      have hnc84 := NB118_119.out
                      have hcz85_0 : wc.cell? ⟨gb119, 0, none⟩ = some (.int .i64 a1_0) := (blk_cell BK119.out 0).trans rfl
                      have hcz85_1 : wc.cell? ⟨gb119, 1, none⟩ = some (.int .i64 a1_1) := (blk_cell BK119.out 1).trans rfl
                      have hcz85_2 : wc.cell? ⟨gb119, 2, none⟩ = some (.string a1_2) := (blk_cell BK119.out 2).trans rfl
                      have hfz85_0 := blk_frozen BK119.out 0
                      have hfz85_1 := blk_frozen BK119.out 1
                      have hfz85_2 := blk_frozen BK119.out 2
                      have hcz86_0 : wc.cell? ⟨gb118, 0, none⟩ = some (.string a0_0) := (blk_cell BK118.out 0).trans rfl
                      have hcz86_1 : wc.cell? ⟨gb118, 1, none⟩ = some (.int .i64 a0_1) := (blk_cell BK118.out 1).trans rfl
                      have hcz86_2 : wc.cell? ⟨gb118, 2, none⟩ = some (.int .i64 a0_2) := (blk_cell BK118.out 2).trans rfl
                      have hcz86_3 : wc.cell? ⟨gb118, 3, none⟩ = some (.int .i64 a0_3) := (blk_cell BK118.out 3).trans rfl
                      have hcz86_4 : wc.cell? ⟨gb118, 4, none⟩ = some (.string a0_4) := (blk_cell BK118.out 4).trans rfl
                      have hfz86_0 := blk_frozen BK118.out 0
                      have hfz86_1 := blk_frozen BK118.out 1
                      have hfz86_2 := blk_frozen BK118.out 2
                      have hfz86_3 := blk_frozen BK118.out 3
                      have hfz86_4 := blk_frozen BK118.out 4
                      go_wp2_with (first | ((with_reducible refine gate_callee (f := 26) rfl ?_); refine goesL_ (some 17) rfl rfl Try.func26 (by kernel_rfl) rfl #[.agg #[.int .i64 a1_0, .int .i64 a1_1, .string a1_2], .agg #[.int .i64 a0_2, .int .i64 a0_3, .string a0_4]] rfl (by (try simp only [List.map_toArray, List.map_cons, List.map_nil]); first | done | rfl | (simp only [List.length_drop, List.length_take]; rfl)) ?_; (with_reducible refine (value_Compare.calls kj2 a1_0 a1_1 a1_2 a0_2 a0_3 a0_4 t122 _ A18.out).mono ?_); rintro e w87 ⟨rfl, hb⟩; refine ⟨_, rfl, ?_⟩; have n0_ := Aside0.mk (blk_below (g := gb118) (o := .cells #[.string a0_0, .int .i64 a0_1, .int .i64 a0_2, .int .i64 a0_3, .string a0_4] 25 (0, 0)) (by (with_reducible repeat (first | refine blk_drewN ?_ _ | refine blk_drew ?_ | refine blk_alloc ?_ _)); exact BK118.out) hb); have n1_ := Aside0.mk (blk_below (g := gb119) (o := .cells #[.int .i64 a1_0, .int .i64 a1_1, .string a1_2] 23 (0, 0)) (by (with_reducible repeat (first | refine blk_drewN ?_ _ | refine blk_drew ?_ | refine blk_alloc ?_ _)); exact BK119.out) hb); have n2_ := Aside0.mk (below_step (by repeat (first | (with_reducible first | exact HB.out | apply below_alloc | apply pw_below_drewN | apply below_drew1 | refine below_set ?_ GE118.out | refine below_set ?_ GE119.out) | exact HB.out)) hb); clear BK118; clear BK119; clear HB; have BK118 := n0_; have BK119 := n1_; have HB := n2_; clear n0_ n1_ n2_; (try clear hb); (try clear hb2); (try clear hk); (try clear hi); have hcz88_0 : w87.cell? ⟨gb118, 0, none⟩ = some (.string a0_0) := (blk_cell BK118.out 0).trans rfl; have hcz88_1 : w87.cell? ⟨gb118, 1, none⟩ = some (.int .i64 a0_1) := (blk_cell BK118.out 1).trans rfl; have hcz88_2 : w87.cell? ⟨gb118, 2, none⟩ = some (.int .i64 a0_2) := (blk_cell BK118.out 2).trans rfl; have hcz88_3 : w87.cell? ⟨gb118, 3, none⟩ = some (.int .i64 a0_3) := (blk_cell BK118.out 3).trans rfl; have hcz88_4 : w87.cell? ⟨gb118, 4, none⟩ = some (.string a0_4) := (blk_cell BK118.out 4).trans rfl; have hfz88_0 := blk_frozen BK118.out 0; have hfz88_1 := blk_frozen BK118.out 1; have hfz88_2 := blk_frozen BK118.out 2; have hfz88_3 := blk_frozen BK118.out 3; have hfz88_4 := blk_frozen BK118.out 4; have hcz89_0 : w87.cell? ⟨gb119, 0, none⟩ = some (.int .i64 a1_0) := (blk_cell BK119.out 0).trans rfl; have hcz89_1 : w87.cell? ⟨gb119, 1, none⟩ = some (.int .i64 a1_1) := (blk_cell BK119.out 1).trans rfl; have hcz89_2 : w87.cell? ⟨gb119, 2, none⟩ = some (.string a1_2) := (blk_cell BK119.out 2).trans rfl; have hfz89_0 := blk_frozen BK119.out 0; have hfz89_1 := blk_frozen BK119.out 1; have hfz89_2 := blk_frozen BK119.out 2))
                      go_ret
                      exact ⟨by first | rfl | (simp [errW_none, errW_some] <;> rfl) | (simp [*, errW_none, errW_some] <;> rfl), by repeat (first | (with_reducible first | exact HB.out | apply below_alloc | apply pw_below_drewN | apply below_drew1 | refine below_set ?_ GE118.out | refine below_set ?_ GE119.out) | exact HB.out)⟩
                    · rw [if_neg c83] at H
                      have c83b0 : (a0_1 == 4) = false := beq_eq_false_iff_ne.mpr c83
                      have c83b1 : (a0_1 != 4) = true := bne_iff_ne.mpr c83
                      obtain rfl := Option.some.inj H
                      have hnb90 := NB119_118.out
                      have hnc90 := NB118_119.out
                      have hcz91_0 : wc.cell? ⟨gb119, 0, none⟩ = some (.int .i64 a1_0) := (blk_cell BK119.out 0).trans rfl
                      have hcz91_1 : wc.cell? ⟨gb119, 1, none⟩ = some (.int .i64 a1_1) := (blk_cell BK119.out 1).trans rfl
                      have hcz91_2 : wc.cell? ⟨gb119, 2, none⟩ = some (.string a1_2) := (blk_cell BK119.out 2).trans rfl
                      have hfz91_0 := blk_frozen BK119.out 0
                      have hfz91_1 := blk_frozen BK119.out 1
                      have hfz91_2 := blk_frozen BK119.out 2
                      have hcz92_0 : wc.cell? ⟨gb118, 0, none⟩ = some (.string a0_0) := (blk_cell BK118.out 0).trans rfl
                      have hcz92_1 : wc.cell? ⟨gb118, 1, none⟩ = some (.int .i64 a0_1) := (blk_cell BK118.out 1).trans rfl
                      have hcz92_2 : wc.cell? ⟨gb118, 2, none⟩ = some (.int .i64 a0_2) := (blk_cell BK118.out 2).trans rfl
                      have hcz92_3 : wc.cell? ⟨gb118, 3, none⟩ = some (.int .i64 a0_3) := (blk_cell BK118.out 3).trans rfl
                      have hcz92_4 : wc.cell? ⟨gb118, 4, none⟩ = some (.string a0_4) := (blk_cell BK118.out 4).trans rfl
                      have hfz92_0 := blk_frozen BK118.out 0
                      have hfz92_1 := blk_frozen BK118.out 1
                      have hfz92_2 := blk_frozen BK118.out 2
                      have hfz92_3 := blk_frozen BK118.out 3
                      have hfz92_4 := blk_frozen BK118.out 4
                      go_wp2_with (first | ((with_reducible refine gate_callee (f := 26) rfl ?_); refine goesL_ (some 17) rfl rfl Try.func26 (by kernel_rfl) rfl #[.agg #[.int .i64 a1_0, .int .i64 a1_1, .string a1_2], .agg #[.int .i64 a0_2, .int .i64 a0_3, .string a0_4]] rfl (by (try simp only [List.map_toArray, List.map_cons, List.map_nil]); first | done | rfl | (simp only [List.length_drop, List.length_take]; rfl)) ?_; (with_reducible refine (value_Compare.calls kj2 a1_0 a1_1 a1_2 a0_2 a0_3 a0_4 t122 _ A18.out).mono ?_); rintro e w93 ⟨rfl, hb⟩; refine ⟨_, rfl, ?_⟩; have n0_ := Aside0.mk (blk_below (g := gb118) (o := .cells #[.string a0_0, .int .i64 a0_1, .int .i64 a0_2, .int .i64 a0_3, .string a0_4] 25 (0, 0)) (by (with_reducible repeat (first | refine blk_drewN ?_ _ | refine blk_drew ?_ | refine blk_alloc ?_ _)); exact BK118.out) hb); have n1_ := Aside0.mk (blk_below (g := gb119) (o := .cells #[.int .i64 a1_0, .int .i64 a1_1, .string a1_2] 23 (0, 0)) (by (with_reducible repeat (first | refine blk_drewN ?_ _ | refine blk_drew ?_ | refine blk_alloc ?_ _)); exact BK119.out) hb); have n2_ := Aside0.mk (below_step (by repeat (first | (with_reducible first | exact HB.out | apply below_alloc | apply pw_below_drewN | apply below_drew1 | refine below_set ?_ GE118.out | refine below_set ?_ GE119.out) | exact HB.out)) hb); clear BK118; clear BK119; clear HB; have BK118 := n0_; have BK119 := n1_; have HB := n2_; clear n0_ n1_ n2_; (try clear hb); (try clear hb2); (try clear hk); (try clear hi); have hcz94_0 : w93.cell? ⟨gb118, 0, none⟩ = some (.string a0_0) := (blk_cell BK118.out 0).trans rfl; have hcz94_1 : w93.cell? ⟨gb118, 1, none⟩ = some (.int .i64 a0_1) := (blk_cell BK118.out 1).trans rfl; have hcz94_2 : w93.cell? ⟨gb118, 2, none⟩ = some (.int .i64 a0_2) := (blk_cell BK118.out 2).trans rfl; have hcz94_3 : w93.cell? ⟨gb118, 3, none⟩ = some (.int .i64 a0_3) := (blk_cell BK118.out 3).trans rfl; have hcz94_4 : w93.cell? ⟨gb118, 4, none⟩ = some (.string a0_4) := (blk_cell BK118.out 4).trans rfl; have hfz94_0 := blk_frozen BK118.out 0; have hfz94_1 := blk_frozen BK118.out 1; have hfz94_2 := blk_frozen BK118.out 2; have hfz94_3 := blk_frozen BK118.out 3; have hfz94_4 := blk_frozen BK118.out 4; have hcz95_0 : w93.cell? ⟨gb119, 0, none⟩ = some (.int .i64 a1_0) := (blk_cell BK119.out 0).trans rfl; have hcz95_1 : w93.cell? ⟨gb119, 1, none⟩ = some (.int .i64 a1_1) := (blk_cell BK119.out 1).trans rfl; have hcz95_2 : w93.cell? ⟨gb119, 2, none⟩ = some (.string a1_2) := (blk_cell BK119.out 2).trans rfl; have hfz95_0 := blk_frozen BK119.out 0; have hfz95_1 := blk_frozen BK119.out 1; have hfz95_2 := blk_frozen BK119.out 2))
                      go_ret
                      exact ⟨by first | rfl | (simp [errW_none, errW_some] <;> rfl) | (simp [*, errW_none, errW_some] <;> rfl), by repeat (first | (with_reducible first | exact HB.out | apply below_alloc | apply pw_below_drewN | apply below_drew1 | refine below_set ?_ GE118.out | refine below_set ?_ GE119.out) | exact HB.out)⟩
          · rw [if_neg c25] at H
            have c25b0 : (a1_0 == a0_2) = false := beq_eq_false_iff_ne.mpr c25
            have c25b1 : (a1_0 != a0_2) = true := bne_iff_ne.mpr c25
            obtain rfl := Option.some.inj H
            have hnb96 := NB119_118.out
            have hnc96 := NB118_119.out
            have hcz97_0 : wc.cell? ⟨gb119, 0, none⟩ = some (.int .i64 a1_0) := (blk_cell BK119.out 0).trans rfl
            have hcz97_1 : wc.cell? ⟨gb119, 1, none⟩ = some (.int .i64 a1_1) := (blk_cell BK119.out 1).trans rfl
            have hcz97_2 : wc.cell? ⟨gb119, 2, none⟩ = some (.string a1_2) := (blk_cell BK119.out 2).trans rfl
            have hfz97_0 := blk_frozen BK119.out 0
            have hfz97_1 := blk_frozen BK119.out 1
            have hfz97_2 := blk_frozen BK119.out 2
            have hcz98_0 : wc.cell? ⟨gb118, 0, none⟩ = some (.string a0_0) := (blk_cell BK118.out 0).trans rfl
            have hcz98_1 : wc.cell? ⟨gb118, 1, none⟩ = some (.int .i64 a0_1) := (blk_cell BK118.out 1).trans rfl
            have hcz98_2 : wc.cell? ⟨gb118, 2, none⟩ = some (.int .i64 a0_2) := (blk_cell BK118.out 2).trans rfl
            have hcz98_3 : wc.cell? ⟨gb118, 3, none⟩ = some (.int .i64 a0_3) := (blk_cell BK118.out 3).trans rfl
            have hcz98_4 : wc.cell? ⟨gb118, 4, none⟩ = some (.string a0_4) := (blk_cell BK118.out 4).trans rfl
            have hfz98_0 := blk_frozen BK118.out 0
            have hfz98_1 := blk_frozen BK118.out 1
            have hfz98_2 := blk_frozen BK118.out 2
            have hfz98_3 := blk_frozen BK118.out 3
            have hfz98_4 := blk_frozen BK118.out 4
            go_wp2_with (first | ((with_reducible refine gate_callee (f := 26) rfl ?_); refine goesL_ (some 17) rfl rfl Try.func26 (by kernel_rfl) rfl #[.agg #[.int .i64 a1_0, .int .i64 a1_1, .string a1_2], .agg #[.int .i64 a0_2, .int .i64 a0_3, .string a0_4]] rfl (by (try simp only [List.map_toArray, List.map_cons, List.map_nil]); first | done | rfl | (simp only [List.length_drop, List.length_take]; rfl)) ?_; (with_reducible refine (value_Compare.calls kj2 a1_0 a1_1 a1_2 a0_2 a0_3 a0_4 t122 _ A18.out).mono ?_); rintro e w99 ⟨rfl, hb⟩; refine ⟨_, rfl, ?_⟩; have n0_ := Aside0.mk (blk_below (g := gb118) (o := .cells #[.string a0_0, .int .i64 a0_1, .int .i64 a0_2, .int .i64 a0_3, .string a0_4] 25 (0, 0)) (by (with_reducible repeat (first | refine blk_drewN ?_ _ | refine blk_drew ?_ | refine blk_alloc ?_ _)); exact BK118.out) hb); have n1_ := Aside0.mk (blk_below (g := gb119) (o := .cells #[.int .i64 a1_0, .int .i64 a1_1, .string a1_2] 23 (0, 0)) (by (with_reducible repeat (first | refine blk_drewN ?_ _ | refine blk_drew ?_ | refine blk_alloc ?_ _)); exact BK119.out) hb); have n2_ := Aside0.mk (below_step (by repeat (first | (with_reducible first | exact HB.out | apply below_alloc | apply pw_below_drewN | apply below_drew1 | refine below_set ?_ GE118.out | refine below_set ?_ GE119.out) | exact HB.out)) hb); clear BK118; clear BK119; clear HB; have BK118 := n0_; have BK119 := n1_; have HB := n2_; clear n0_ n1_ n2_; (try clear hb); (try clear hb2); (try clear hk); (try clear hi); have hcz100_0 : w99.cell? ⟨gb118, 0, none⟩ = some (.string a0_0) := (blk_cell BK118.out 0).trans rfl; have hcz100_1 : w99.cell? ⟨gb118, 1, none⟩ = some (.int .i64 a0_1) := (blk_cell BK118.out 1).trans rfl; have hcz100_2 : w99.cell? ⟨gb118, 2, none⟩ = some (.int .i64 a0_2) := (blk_cell BK118.out 2).trans rfl; have hcz100_3 : w99.cell? ⟨gb118, 3, none⟩ = some (.int .i64 a0_3) := (blk_cell BK118.out 3).trans rfl; have hcz100_4 : w99.cell? ⟨gb118, 4, none⟩ = some (.string a0_4) := (blk_cell BK118.out 4).trans rfl; have hfz100_0 := blk_frozen BK118.out 0; have hfz100_1 := blk_frozen BK118.out 1; have hfz100_2 := blk_frozen BK118.out 2; have hfz100_3 := blk_frozen BK118.out 3; have hfz100_4 := blk_frozen BK118.out 4; have hcz101_0 : w99.cell? ⟨gb119, 0, none⟩ = some (.int .i64 a1_0) := (blk_cell BK119.out 0).trans rfl; have hcz101_1 : w99.cell? ⟨gb119, 1, none⟩ = some (.int .i64 a1_1) := (blk_cell BK119.out 1).trans rfl; have hcz101_2 : w99.cell? ⟨gb119, 2, none⟩ = some (.string a1_2) := (blk_cell BK119.out 2).trans rfl; have hfz101_0 := blk_frozen BK119.out 0; have hfz101_1 := blk_frozen BK119.out 1; have hfz101_2 := blk_frozen BK119.out 2))
            go_ret
            exact ⟨by first | rfl | (simp [errW_none, errW_some] <;> rfl) | (simp [*, errW_none, errW_some] <;> rfl), by repeat (first | (with_reducible first | exact HB.out | apply below_alloc | apply pw_below_drewN | apply below_drew1 | refine below_set ?_ GE118.out | refine below_set ?_ GE119.out) | exact HB.out)⟩

end Go.Proofs.Ytojefdnngkcaoaa.G
end

section
-- Written by a program of this session (wip/tools/myprint.py), over the kit's print.
namespace Go.Proofs.Ytojefdnngkcaoaa.G
open Go.RowKit Go.Proofs.YtojefdnngkcaoaaW.PrintWords Go.Proofs.YtojefdnngkcaoaaW.PrintLast Go.Proofs.YtojefdnngkcaoaaW.PrintMore
attribute [local go_sem] max2_int min2_int max_two min_two max_three min_three max_four min_four   -- for this text's walks alone
set_option linter.unusedVariables false
set_option linter.unusedSimpArgs false

-- BY HAND
-- LIB Derived.BigQuiet
-- LIB Derived.Deep.QuietTactic
-- over: at_T52 k52
def event_Get.f (l0 : List S52) (a1 : ByteArray) : Option (Int × Int × ByteArray × Bool) :=
  match l0.find? (fun a => a.f0.toList == a1.toList) with
  | some a => some (a.f1.f0, a.f1.f1, a.f1.f2, true)
  | none => some (0, 0, ⟨#[]⟩, false)
set_option maxRecDepth 100000 in
set_option maxHeartbeats 1000000 in
theorem get_named (x : S52) (a1 : ByteArray) (g : Nat) (w : World) (hg : w.heap[g]? = some (.cells #[.string a1] 9 (0, 0))) :
    Calls Try.prog 51 #[.agg #[.string x.f0, .int .i64 x.f1.f0, .int .i64 x.f1.f1, .string x.f1.f2], .pointer (some ⟨g, 0, none⟩)] w fun e w' => e = .returned (.bool (x.f0.toList == a1.toList)) ∧ Below w.heap.size w w' := by
  have hlt : g < w.heap.size := (Array.getElem?_eq_some_iff.1 hg).1
  have hc : w.cell? ⟨g, 0, none⟩ = some (.string a1) := by rw [cell_of_row _ _ _ _ _ _ hg]; rfl
  go_enter Try.func51, Try.ntmps51
  go_wp2
  go_ret
  exact ⟨rfl, (Below.refl _ _).alloc (Nat.le_refl _) _⟩
set_option maxRecDepth 100000 in
set_option maxHeartbeats 2000000 in
theorem index_named (A : Option Addr) (c : Nat) (l : List S52) (a1 : ByteArray) (g : Nat) (w : World) (hC : Kd.C k52 w A l.length l) (hg : w.heap[g]? = some (.cells #[.string a1] 9 (0, 0))) :
    Calls Try.prog 50 #[.slice A l.length c, .func (.func 51) #[] #[.pointer (some ⟨g, 0, none⟩)]] w fun e w' =>
      (∃ i : Int, e = .returned (.int .i64 i) ∧ ((i = -1 ∧ l.find? (fun a => a.f0.toList == a1.toList) = none) ∨ (0 ≤ i ∧ i < l.length ∧ l.find? (fun a => a.f0.toList == a1.toList) = some (rd_T52 l i)))) ∧ Below w.heap.size w w' := by
  have HC := Aside0.mk hC
  have HG := Aside0.mk hg
  have hl := hC.2.1
  clear hC hg
  go_enter Try.func50, Try.ntmps50
  go_wp2_with fail
  go_loopw [8] (fun i wr => ∃ k : Nat, k ≤ l.length ∧ i = .int .i64 k ∧ Aside0 (∀ j, j < k → ((rd_T52 l (j : Nat)).f0.toList == a1.toList) = false) ∧ Below w.heap.size w wr) (fun i _ => l.length - (intOf i).toNat)
  case atStart => exact ⟨0, Nat.zero_le _, rfl, ⟨fun j hj => by omega⟩, Below.refl _ _⟩
  case round =>
    obtain ⟨k, hk, rfl, HN, hBr⟩ := hrel
    have HB := Aside0.mk hBr
    clear hBr
    by_cases hlt : k < l.length
    · obtain ⟨ad, rfl, h0, h1, h2, h3⟩ := at_T52 (Kd.C_below HC.out HB.out) (k : Int) (by omega) (by omega)
      rw [Int.toNat_natCast] at h0 h1 h2 h3
      obtain ⟨x, hx⟩ : ∃ x, rd_T52 l (k : Int) = x := ⟨_, rfl⟩
      rw [hx] at h0 h1 h2 h3
      have HX := Aside0.mk hx
      have hgr : Aside0 (wr.heap[g]? = some (.cells #[.string a1] 9 (0, 0))) := ⟨by rw [HB.out.block g (Array.getElem?_eq_some_iff.1 HG.out).1]; exact HG.out⟩
      clear hx
      cases hb : (x.f0.toList == a1.toList) with
      | true =>
        have HT := Aside0.mk hb
        have hcl := Aside0.mk (get_named x a1 g wr hgr.out)
        rw [hb] at hcl
        clear hb
        go_wp2_with (go_at_call 51; (with_reducible refine hcl.out.mono ?_); rintro e w2 ⟨rfl, hB⟩; have HB2 : Aside0 (Below w.heap.size w w2) := ⟨HB.out.trans (hB.mono HB.out.size)⟩; clear hB)
        go_ret
        refine ⟨⟨k, rfl, .inr ⟨by omega, by omega, ?_⟩⟩, HB2.out⟩
        rw [List.find?_eq_some_iff_getElem]
        refine ⟨by rw [HX.out]; exact HT.out, k, hlt, by simp [rd_T52, List.getD_eq_getElem?_getD, hlt], fun j hj => ?_⟩
        have := HN.out j hj
        simpa [rd_T52, List.getD_eq_getElem?_getD, show j < l.length by omega] using this
      | false =>
        have HT := Aside0.mk hb
        have hcl := Aside0.mk (get_named x a1 g wr hgr.out)
        rw [hb] at hcl
        clear hb
        go_wp2_with (go_at_call 51; (with_reducible refine hcl.out.mono ?_); rintro e w2 ⟨rfl, hB⟩; have HB2 : Aside0 (Below w.heap.size w w2) := ⟨HB.out.trans (hB.mono HB.out.size)⟩; clear hB)
        exact ⟨⟨k + 1, by omega, by simp, ⟨fun j hj => by
          by_cases e : j = k
          · rw [e, HX.out]; exact HT.out
          · exact HN.out j (by omega)⟩, HB2.out⟩, by simp [intOf]; omega⟩
    · obtain rfl : k = l.length := by omega
      go_wp2_with fail
      go_ret
      refine ⟨⟨-1, rfl, .inl ⟨rfl, ?_⟩⟩, HB.out⟩
      rw [List.find?_eq_none]
      intro a ha
      obtain ⟨j, hj, rfl⟩ := List.getElem_of_mem ha
      have := HN.out j hj
      simpa [rd_T52, List.getD_eq_getElem?_getD, hj] using this
set_option maxRecDepth 100000 in
set_option maxHeartbeats 2000000 in
theorem event_Get.calls (A0 : Option Addr) (c0 : Nat) (l0 : List S52) (a1 : ByteArray) (r1 : Int) (r2 : Int) (r3 : ByteArray) (r4 : Bool) (w : World) (hr0 : Kd.C k52 w A0 l0.length l0) (hc0 : l0.length ≤ c0) (h : event_Get.f l0 a1 = some (r1, r2, r3, r4)) :
    Calls Try.prog 29 #[.slice A0 l0.length c0, .string a1] w fun e w' => e = .returned (.tuple #[.agg #[.int .i64 r1, .int .i64 r2, .string r3], .bool r4]) ∧ Below w.heap.size w w' := by
  have HR := Aside0.mk hr0
  have H := Aside0.mk h
  have hl := hr0.2.1
  clear hr0 h
  go_enter Try.func29, Try.ntmps29
  go_wp2_with fail
  have hb2 : Below w.heap.size w ((w.alloc (.cells #[.string a1] 9)).alloc (.cells #[.int .i64 0, .int .i64 0, .string ByteArray.empty] 23)) := (((Below.refl _ _).alloc (Nat.le_refl _) _).alloc (by simp) _)
  have hg1 : ((w.alloc (.cells #[.string a1] 9)).alloc (.cells #[.int .i64 0, .int .i64 0, .string ByteArray.empty] 23)).heap[w.heap.size]? = some (.cells #[.string a1] 9 (0, 0)) := (Below.heap_alloc _ _ _ (by simp)).trans (heap_alloc_new w _)
  have hg2 : ((w.alloc (.cells #[.string a1] 9)).alloc (.cells #[.int .i64 0, .int .i64 0, .string ByteArray.empty] 23)).heap[w.heap.size + 1]? = some (.cells #[.int .i64 0, .int .i64 0, .string ByteArray.empty] 23 (0, 0)) := by have := heap_alloc_new (w.alloc (.cells #[.string a1] 9)) (.cells #[.int .i64 0, .int .i64 0, .string ByteArray.empty] 23); rwa [World.size_alloc] at this
  refine (index_named A0 c0 l0 a1 w.heap.size _ (Kd.C_below HR.out hb2) hg1).mono ?_
  rintro e w1 ⟨⟨i, rfl, hi⟩, hB⟩
  have HB : Aside0 (Below w.heap.size w w1) := ⟨hb2.trans (hB.mono (by simp; omega))⟩
  have BK : Aside0 (w1.heap[w.heap.size + 1]? = some (.cells #[.int .i64 0, .int .i64 0, .string ByteArray.empty] 23 (0, 0))) := ⟨(hB.block _ (Array.getElem?_eq_some_iff.1 hg2).1).trans hg2⟩
  clear hB hg1 hg2 hb2
  have hcz0 : w1.cell? ⟨w.heap.size + 1, 0, none⟩ = some (.int .i64 0) := (blk_cell BK.out 0).trans rfl
  have hcz1 : w1.cell? ⟨w.heap.size + 1, 1, none⟩ = some (.int .i64 0) := (blk_cell BK.out 1).trans rfl
  have hcz2 : w1.cell? ⟨w.heap.size + 1, 2, none⟩ = some (.string ByteArray.empty) := (blk_cell BK.out 2).trans rfl
  have hfz0 := blk_frozen BK.out 0
  have hfz1 := blk_frozen BK.out 1
  have hfz2 := blk_frozen BK.out 2
  have h := H.out
  unfold event_Get.f at h
  rcases hi with ⟨rfl, hf⟩ | ⟨h0, h1, hf⟩
  · rw [hf] at h
    simp only [Option.some.injEq, Prod.mk.injEq] at h
    obtain ⟨rfl, rfl, rfl, rfl⟩ := h
    clear hf H
    go_wp2
    refine bodyPost_ret (results_ct rfl _ _ (w.heap.size + 1) 23 #[.int .i64 0, .int .i64 0, .string (⟨#[]⟩ : ByteArray)] (0, 0) _ rfl (by refine blk_put (cs := #[.int .i64 0, .int .i64 0, .string ByteArray.empty]) ?_ 2 _ rfl; refine blk_put (cs := #[.int .i64 0, .int .i64 0, .string ByteArray.empty]) ?_ 1 _ rfl; refine blk_put (cs := #[.int .i64 0, .int .i64 0, .string ByteArray.empty]) ?_ 0 _ rfl; exact BK.out) Try.underlying23 rfl (by kernel_rfl)) rfl ?_
    exact ⟨rfl, ((HB.out.setCell (by simp) _).setCell (by simp) _).setCell (by simp) _⟩
  · rw [hf] at h
    simp only [Option.some.injEq, Prod.mk.injEq] at h
    obtain ⟨k, rfl⟩ := Int.eq_ofNat_of_zero_le h0
    obtain ⟨x, hx⟩ : ∃ x, rd_T52 l0 (k : Int) = x := ⟨_, rfl⟩
    rw [hx] at h
    obtain ⟨rfl, rfl, rfl, rfl⟩ := h
    obtain ⟨ad, rfl, q0, q1, q2, q3⟩ := at_T52 (Kd.C_below HR.out HB.out) (k : Int) (by omega) (by omega)
    rw [hx, Int.toNat_natCast] at q0 q1 q2 q3
    have hk : k < l0.length := by omega
    clear hf H hx h0 h1
    go_wp2
    refine bodyPost_ret (results_ct rfl _ _ (w.heap.size + 1) 23 #[.int .i64 x.f1.f0, .int .i64 x.f1.f1, .string x.f1.f2] (0, 0) _ rfl (by refine blk_put (cs := #[.int .i64 x.f1.f0, .int .i64 x.f1.f1, .string ByteArray.empty]) ?_ 2 _ rfl; refine blk_put (cs := #[.int .i64 x.f1.f0, .int .i64 0, .string ByteArray.empty]) ?_ 1 _ rfl; refine blk_put (cs := #[.int .i64 0, .int .i64 0, .string ByteArray.empty]) ?_ 0 _ rfl; exact BK.out) Try.underlying23 rfl (by kernel_rfl)) rfl ?_
    exact ⟨rfl, ((HB.out.setCell (by simp) _).setCell (by simp) _).setCell (by simp) _⟩

end Go.Proofs.Ytojefdnngkcaoaa.G
end

section
-- Written by a program of this session (wip/tools/myprint.py), over the kit's print.
namespace Go.Proofs.Ytojefdnngkcaoaa.G
open Go.RowKit Go.Proofs.YtojefdnngkcaoaaW.PrintWords Go.Proofs.YtojefdnngkcaoaaW.PrintLast Go.Proofs.YtojefdnngkcaoaaW.PrintMore
attribute [local go_sem] max2_int min2_int max_two min_two max_three min_three max_four min_four   -- for this text's walks alone
set_option linter.unusedVariables false
set_option linter.unusedSimpArgs false

/-! ### pred_Meets: function 14 -/
def pred_Meets.f (k : Nat) (a0_0 : ByteArray) (a0_1 : Int) (a0_2 : Int) (a0_3 : Int) (a0_4 : ByteArray) (l1 : List (S52)) : Option (Bool) := (event_Get.f l1 a0_0).bind fun bt125 => (if bt125.2.2.2 = true then ((pred_Holds.f k a0_0 a0_1 a0_2 a0_3 a0_4 bt125.1 bt125.2.1 bt125.2.2.1).bind fun t130 => (some t130)) else (some false))
theorem pred_Meets.mono : ∀ a0 a1 a2 a3 a4 a5 k, LeO (pred_Meets.f k a0 a1 a2 a3 a4 a5) (pred_Meets.f (k + 1) a0 a1 a2 a3 a4 a5) := by
  intro a0 a1 a2 a3 a4 a5 k
  unfold pred_Meets.f
  repeat' first
      | (with_reducible exact pred_Holds.mono _ _ _ _ _ _ _ _ _)
      | (with_reducible exact LeO.refl _)
      | (with_reducible exact LeO.none _)
      | (with_reducible refine LeO.ite ?_ ?_)
      | (with_reducible refine LeO.bind ?_ (fun _ => ?_))
      | exact pred_Holds.mono _ _ _ _ _ _ _ _ _
      | exact LeO.none _
      | refine LeO.ite ?_ ?_
      | refine LeO.bind ?_ (fun _ => ?_)
set_option maxHeartbeats 8000000 in
set_option maxRecDepth 100000 in
theorem pred_Meets.calls (k : Nat) (a0_0 : ByteArray) (a0_1 : Int) (a0_2 : Int) (a0_3 : Int) (a0_4 : ByteArray) (A1 : Option Addr) (c1 : Nat) (l1 : List (S52)) (r : Bool) (w : World) (hr1 : Kd.C k52 w A1 l1.length l1) (hc1 : l1.length ≤ c1) (h : pred_Meets.f k a0_0 a0_1 a0_2 a0_3 a0_4 l1 = some r) :
    Calls Try.prog 14 #[.agg #[.string a0_0, .int .i64 a0_1, .int .i64 a0_2, .int .i64 a0_3, .string a0_4], .slice A1 l1.length c1] w fun e w' => e = .returned (.bool r) ∧ Below w.heap.size w w' := by
  have hu25 := Try.underlying25
  have hu23 := Try.underlying23
  have HR1 := Aside0.mk hr1
  have HC1 := Aside0.mk hc1
  clear hr1 hc1
  have HB := Aside0.mk (Below.refl w.heap.size w)
  have H : ((event_Get.f l1 a0_0).bind fun bt125 => (if bt125.2.2.2 = true then ((pred_Holds.f k a0_0 a0_1 a0_2 a0_3 a0_4 bt125.1 bt125.2.1 bt125.2.2.1).bind fun t130 => (some t130)) else (some false))) = some r := h
  clear h
  replace H := Option.bind_eq_some_iff.mp H
  obtain ⟨⟨t125, t126, t127, t128⟩, A30, H⟩ := H
  replace H : (if t128 = true then ((pred_Holds.f k a0_0 a0_1 a0_2 a0_3 a0_4 t125 t126 t127).bind fun t130 => (some t130)) else (some false)) = some r := H
  have A3 := Aside0.mk A30
  clear A30
  by_cases c4 : t128 = true
  · subst c4
    have H1 : ((pred_Holds.f k a0_0 a0_1 a0_2 a0_3 a0_4 t125 t126 t127).bind fun t130 => (some t130)) = some r := by rw [if_pos rfl] at H; exact H
    clear H
    have H := H1
    clear H1
    replace H := Option.bind_eq_some_iff.mp H
    obtain ⟨t130, A50, H⟩ := H
    replace H : (some t130) = some r := H
    have A5 := Aside0.mk A50
    clear A50
    obtain rfl := Option.some.inj H
    go_enter Try.func14, Try.ntmps14
    go_wp2_with (first | ((with_reducible refine gate_dst (N := 2) rfl ?_); refine box_event ?hg (N := 2) ?hd (cs := #[.string a0_0, .int .i64 a0_1, .int .i64 a0_2, .int .i64 a0_3, .string a0_4]) (t := 25) ?hr ?_; (case hd => rfl); (case hg => rfl); (case hr => first | (go_simp; done) | (go_simp; rfl)); intro gb124 hg w6 hbox hb; have n0_ := Aside0.mk (below_step (by repeat (first | (with_reducible first | exact HB.out | apply below_alloc | apply pw_below_drewN | apply below_drew1) | exact HB.out)) hb); have n1_ := Aside0.mk (hbox); have n2_ := Aside0.mk ((by rw [hg]; exact (below_size (by repeat (first | (with_reducible first | exact HB.out | apply below_alloc | apply pw_below_drewN | apply below_drew1) | exact HB.out))) : w.heap.size ≤ gb124)); have n3_ := Aside0.mk ((by rw [hg]; exact (below_size (by repeat (first | (with_reducible first | exact HB.out | apply below_alloc | apply pw_below_drewN | apply below_drew1) | exact HB.out))) : w.heap.size ≤ gb124)); clear HB; have HB := n0_; have BK124 := n1_; have GW124 := n2_; have GE124 := n3_; clear n0_ n1_ n2_ n3_; clear hb hbox hg; have hcz7_0 : w6.cell? ⟨gb124, 0, none⟩ = some (.string a0_0) := (blk_cell BK124.out 0).trans rfl; have hcz7_1 : w6.cell? ⟨gb124, 1, none⟩ = some (.int .i64 a0_1) := (blk_cell BK124.out 1).trans rfl; have hcz7_2 : w6.cell? ⟨gb124, 2, none⟩ = some (.int .i64 a0_2) := (blk_cell BK124.out 2).trans rfl; have hcz7_3 : w6.cell? ⟨gb124, 3, none⟩ = some (.int .i64 a0_3) := (blk_cell BK124.out 3).trans rfl; have hcz7_4 : w6.cell? ⟨gb124, 4, none⟩ = some (.string a0_4) := (blk_cell BK124.out 4).trans rfl; have hfz7_0 := blk_frozen BK124.out 0; have hfz7_1 := blk_frozen BK124.out 1; have hfz7_2 := blk_frozen BK124.out 2; have hfz7_3 := blk_frozen BK124.out 3; have hfz7_4 := blk_frozen BK124.out 4) | ((with_reducible refine gate_callee (f := 29) rfl ?_); refine goesL_ (some 11) rfl rfl Try.func29 (by kernel_rfl) rfl #[.slice A1 l1.length c1, .string a0_0] rfl (by (try simp only [List.map_toArray, List.map_cons, List.map_nil]); first | done | rfl | (simp only [List.length_drop, List.length_take]; rfl)) ?_; (with_reducible refine (event_Get.calls _ _ l1 a0_0 t125 t126 t127 true _ ?side1 ?side2 A3.out).mono ?_); (case side1 => repeat (first | exact (Kd.C_below HR1.out HB.out) | (with_reducible refine Kd.C_alloc ?_ _) | (with_reducible refine Kd.C_drewN ?_ _) | (with_reducible refine Kd.C_drew ?_))); (case side2 => exact HC1.out); rintro e w8 ⟨rfl, hb⟩; refine ⟨_, rfl, ?_⟩; have n0_ := Aside0.mk (blk_below (g := gb124) (o := .cells #[.string a0_0, .int .i64 a0_1, .int .i64 a0_2, .int .i64 a0_3, .string a0_4] 25 (0, 0)) (by (with_reducible repeat (first | refine blk_drewN ?_ _ | refine blk_drew ?_ | refine blk_alloc ?_ _)); exact BK124.out) hb); have n1_ := Aside0.mk (below_step (by repeat (first | (with_reducible first | exact HB.out | apply below_alloc | apply pw_below_drewN | apply below_drew1 | refine below_set ?_ GE124.out) | exact HB.out)) hb); clear BK124; clear HB; have BK124 := n0_; have HB := n1_; clear n0_ n1_; (try clear hb); (try clear hb2); (try clear hk); (try clear hi)) | ((with_reducible refine gate_dst (N := 5) rfl ?_); refine box_event ?hg (N := 5) ?hd (cs := #[.int .i64 0, .int .i64 0, .string (⟨#[]⟩ : ByteArray)]) (t := 23) ?hr ?_; (case hd => rfl); (case hg => rfl); (case hr => first | (go_simp; done) | (go_simp; rfl)); intro gb129 hg w9 hbox hb; have n0_ := Aside0.mk (blk_below (g := gb124) (o := .cells #[.string a0_0, .int .i64 a0_1, .int .i64 a0_2, .int .i64 a0_3, .string a0_4] 25 (0, 0)) (by (with_reducible repeat (first | refine blk_drewN ?_ _ | refine blk_drew ?_ | refine blk_alloc ?_ _)); exact BK124.out) hb); have n1_ := Aside0.mk (below_step (by repeat (first | (with_reducible first | exact HB.out | apply below_alloc | apply pw_below_drewN | apply below_drew1 | refine below_set ?_ GE124.out) | exact HB.out)) hb); have n2_ := Aside0.mk (hbox); have n3_ := Aside0.mk ((by rw [hg]; exact (below_size (by repeat (first | (with_reducible first | exact HB.out | apply below_alloc | apply pw_below_drewN | apply below_drew1 | refine below_set ?_ GE124.out) | exact HB.out))) : w.heap.size ≤ gb129)); have n4_ := Aside0.mk ((by rw [hg]; exact (below_size (by repeat (first | (with_reducible first | exact HB.out | apply below_alloc | apply pw_below_drewN | apply below_drew1 | refine below_set ?_ GE124.out) | exact HB.out))) : w.heap.size ≤ gb129)); have n5_ := Aside0.mk ((by rw [hg]; exact Nat.ne_of_lt (blk_lt (g := gb124) (o := .cells #[.string a0_0, .int .i64 a0_1, .int .i64 a0_2, .int .i64 a0_3, .string a0_4] 25 (0, 0)) (by (with_reducible repeat (first | refine blk_drewN ?_ _ | refine blk_drew ?_ | refine blk_alloc ?_ _)); exact BK124.out)) : gb124 ≠ gb129)); have n6_ := Aside0.mk ((by rw [hg]; exact Nat.ne_of_gt (blk_lt (g := gb124) (o := .cells #[.string a0_0, .int .i64 a0_1, .int .i64 a0_2, .int .i64 a0_3, .string a0_4] 25 (0, 0)) (by (with_reducible repeat (first | refine blk_drewN ?_ _ | refine blk_drew ?_ | refine blk_alloc ?_ _)); exact BK124.out)) : gb129 ≠ gb124)); clear BK124; clear HB; have BK124 := n0_; have HB := n1_; have BK129 := n2_; have GW129 := n3_; have GE129 := n4_; have NB124_129 := n5_; have NB129_124 := n6_; clear n0_ n1_ n2_ n3_ n4_ n5_ n6_; clear hb hbox hg; have hnb10 := NB129_124.out; have hnc10 := NB124_129.out; have hcz11_0 : w9.cell? ⟨gb129, 0, none⟩ = some (.int .i64 0) := (blk_cell BK129.out 0).trans rfl; have hcz11_1 : w9.cell? ⟨gb129, 1, none⟩ = some (.int .i64 0) := (blk_cell BK129.out 1).trans rfl; have hcz11_2 : w9.cell? ⟨gb129, 2, none⟩ = some (.string (⟨#[]⟩ : ByteArray)) := (blk_cell BK129.out 2).trans rfl; have hfz11_0 := blk_frozen BK129.out 0; have hfz11_1 := blk_frozen BK129.out 1; have hfz11_2 := blk_frozen BK129.out 2; have hcz12_0 : w9.cell? ⟨gb124, 0, none⟩ = some (.string a0_0) := (blk_cell BK124.out 0).trans rfl; have hcz12_1 : w9.cell? ⟨gb124, 1, none⟩ = some (.int .i64 a0_1) := (blk_cell BK124.out 1).trans rfl; have hcz12_2 : w9.cell? ⟨gb124, 2, none⟩ = some (.int .i64 a0_2) := (blk_cell BK124.out 2).trans rfl; have hcz12_3 : w9.cell? ⟨gb124, 3, none⟩ = some (.int .i64 a0_3) := (blk_cell BK124.out 3).trans rfl; have hcz12_4 : w9.cell? ⟨gb124, 4, none⟩ = some (.string a0_4) := (blk_cell BK124.out 4).trans rfl; have hfz12_0 := blk_frozen BK124.out 0; have hfz12_1 := blk_frozen BK124.out 1; have hfz12_2 := blk_frozen BK124.out 2; have hfz12_3 := blk_frozen BK124.out 3; have hfz12_4 := blk_frozen BK124.out 4) | (go_at_call 12; (with_reducible refine (pred_Holds.calls k a0_0 a0_1 a0_2 a0_3 a0_4 t125 t126 t127 t130 _ A5.out).mono ?_); rintro e w13 ⟨rfl, hb⟩; have n0_ := Aside0.mk (blk_below (g := gb124) (o := .cells #[.string a0_0, .int .i64 a0_1, .int .i64 a0_2, .int .i64 a0_3, .string a0_4] 25 (0, 0)) (by (with_reducible repeat (first | refine blk_drewN ?_ _ | refine blk_drew ?_ | refine blk_alloc ?_ _)); refine blk_far ?_ NB124_129.out _; (with_reducible repeat (first | refine blk_drewN ?_ _ | refine blk_drew ?_ | refine blk_alloc ?_ _)); refine blk_far ?_ NB124_129.out _; (with_reducible repeat (first | refine blk_drewN ?_ _ | refine blk_drew ?_ | refine blk_alloc ?_ _)); refine blk_far ?_ NB124_129.out _; (with_reducible repeat (first | refine blk_drewN ?_ _ | refine blk_drew ?_ | refine blk_alloc ?_ _)); exact BK124.out) hb); have n1_ := Aside0.mk (blk_below (g := gb129) (o := .cells #[.int .i64 t125, .int .i64 t126, .string t127] 23 (0, 0)) (by (with_reducible repeat (first | refine blk_drewN ?_ _ | refine blk_drew ?_ | refine blk_alloc ?_ _)); refine blk_put (cs := #[.int .i64 t125, .int .i64 t126, .string (⟨#[]⟩ : ByteArray)]) ?_ 2 _ rfl; (with_reducible repeat (first | refine blk_drewN ?_ _ | refine blk_drew ?_ | refine blk_alloc ?_ _)); refine blk_put (cs := #[.int .i64 t125, .int .i64 0, .string (⟨#[]⟩ : ByteArray)]) ?_ 1 _ rfl; (with_reducible repeat (first | refine blk_drewN ?_ _ | refine blk_drew ?_ | refine blk_alloc ?_ _)); refine blk_put (cs := #[.int .i64 0, .int .i64 0, .string (⟨#[]⟩ : ByteArray)]) ?_ 0 _ rfl; (with_reducible repeat (first | refine blk_drewN ?_ _ | refine blk_drew ?_ | refine blk_alloc ?_ _)); exact BK129.out) hb); have n2_ := Aside0.mk (below_step (by repeat (first | (with_reducible first | exact HB.out | apply below_alloc | apply pw_below_drewN | apply below_drew1 | refine below_set ?_ GE124.out | refine below_set ?_ GE129.out) | exact HB.out)) hb); clear BK124; clear BK129; clear HB; have BK124 := n0_; have BK129 := n1_; have HB := n2_; clear n0_ n1_ n2_; (try clear hb); (try clear hb2); (try clear hk); (try clear hi)))
    go_ret
    exact ⟨by first | rfl | (simp [errW_none, errW_some] <;> rfl) | (simp [*, errW_none, errW_some] <;> rfl), by repeat (first | (with_reducible first | exact HB.out | apply below_alloc | apply pw_below_drewN | apply below_drew1 | refine below_set ?_ GE124.out | refine below_set ?_ GE129.out) | exact HB.out)⟩
  · replace c4 := Bool.eq_false_iff.mpr c4
    subst c4
    have H1 : (some false) = some r := by rw [if_neg (show ¬ (false = true) by decide)] at H; exact H
    clear H
    have H := H1
    clear H1
    obtain rfl := Option.some.inj H
    go_enter Try.func14, Try.ntmps14
    go_wp2_with (first | ((with_reducible refine gate_dst (N := 2) rfl ?_); refine box_event ?hg (N := 2) ?hd (cs := #[.string a0_0, .int .i64 a0_1, .int .i64 a0_2, .int .i64 a0_3, .string a0_4]) (t := 25) ?hr ?_; (case hd => rfl); (case hg => rfl); (case hr => first | (go_simp; done) | (go_simp; rfl)); intro gb124 hg w14 hbox hb; have n0_ := Aside0.mk (below_step (by repeat (first | (with_reducible first | exact HB.out | apply below_alloc | apply pw_below_drewN | apply below_drew1) | exact HB.out)) hb); have n1_ := Aside0.mk (hbox); have n2_ := Aside0.mk ((by rw [hg]; exact (below_size (by repeat (first | (with_reducible first | exact HB.out | apply below_alloc | apply pw_below_drewN | apply below_drew1) | exact HB.out))) : w.heap.size ≤ gb124)); have n3_ := Aside0.mk ((by rw [hg]; exact (below_size (by repeat (first | (with_reducible first | exact HB.out | apply below_alloc | apply pw_below_drewN | apply below_drew1) | exact HB.out))) : w.heap.size ≤ gb124)); clear HB; have HB := n0_; have BK124 := n1_; have GW124 := n2_; have GE124 := n3_; clear n0_ n1_ n2_ n3_; clear hb hbox hg; have hcz15_0 : w14.cell? ⟨gb124, 0, none⟩ = some (.string a0_0) := (blk_cell BK124.out 0).trans rfl; have hcz15_1 : w14.cell? ⟨gb124, 1, none⟩ = some (.int .i64 a0_1) := (blk_cell BK124.out 1).trans rfl; have hcz15_2 : w14.cell? ⟨gb124, 2, none⟩ = some (.int .i64 a0_2) := (blk_cell BK124.out 2).trans rfl; have hcz15_3 : w14.cell? ⟨gb124, 3, none⟩ = some (.int .i64 a0_3) := (blk_cell BK124.out 3).trans rfl; have hcz15_4 : w14.cell? ⟨gb124, 4, none⟩ = some (.string a0_4) := (blk_cell BK124.out 4).trans rfl; have hfz15_0 := blk_frozen BK124.out 0; have hfz15_1 := blk_frozen BK124.out 1; have hfz15_2 := blk_frozen BK124.out 2; have hfz15_3 := blk_frozen BK124.out 3; have hfz15_4 := blk_frozen BK124.out 4) | ((with_reducible refine gate_callee (f := 29) rfl ?_); refine goesL_ (some 11) rfl rfl Try.func29 (by kernel_rfl) rfl #[.slice A1 l1.length c1, .string a0_0] rfl (by (try simp only [List.map_toArray, List.map_cons, List.map_nil]); first | done | rfl | (simp only [List.length_drop, List.length_take]; rfl)) ?_; (with_reducible refine (event_Get.calls _ _ l1 a0_0 t125 t126 t127 false _ ?side1 ?side2 A3.out).mono ?_); (case side1 => repeat (first | exact (Kd.C_below HR1.out HB.out) | (with_reducible refine Kd.C_alloc ?_ _) | (with_reducible refine Kd.C_drewN ?_ _) | (with_reducible refine Kd.C_drew ?_))); (case side2 => exact HC1.out); rintro e w16 ⟨rfl, hb⟩; refine ⟨_, rfl, ?_⟩; have n0_ := Aside0.mk (blk_below (g := gb124) (o := .cells #[.string a0_0, .int .i64 a0_1, .int .i64 a0_2, .int .i64 a0_3, .string a0_4] 25 (0, 0)) (by (with_reducible repeat (first | refine blk_drewN ?_ _ | refine blk_drew ?_ | refine blk_alloc ?_ _)); exact BK124.out) hb); have n1_ := Aside0.mk (below_step (by repeat (first | (with_reducible first | exact HB.out | apply below_alloc | apply pw_below_drewN | apply below_drew1 | refine below_set ?_ GE124.out) | exact HB.out)) hb); clear BK124; clear HB; have BK124 := n0_; have HB := n1_; clear n0_ n1_; (try clear hb); (try clear hb2); (try clear hk); (try clear hi)) | ((with_reducible refine gate_dst (N := 5) rfl ?_); refine box_event ?hg (N := 5) ?hd (cs := #[.int .i64 0, .int .i64 0, .string (⟨#[]⟩ : ByteArray)]) (t := 23) ?hr ?_; (case hd => rfl); (case hg => rfl); (case hr => first | (go_simp; done) | (go_simp; rfl)); intro gb129 hg w17 hbox hb; have n0_ := Aside0.mk (blk_below (g := gb124) (o := .cells #[.string a0_0, .int .i64 a0_1, .int .i64 a0_2, .int .i64 a0_3, .string a0_4] 25 (0, 0)) (by (with_reducible repeat (first | refine blk_drewN ?_ _ | refine blk_drew ?_ | refine blk_alloc ?_ _)); exact BK124.out) hb); have n1_ := Aside0.mk (below_step (by repeat (first | (with_reducible first | exact HB.out | apply below_alloc | apply pw_below_drewN | apply below_drew1 | refine below_set ?_ GE124.out) | exact HB.out)) hb); have n2_ := Aside0.mk (hbox); have n3_ := Aside0.mk ((by rw [hg]; exact (below_size (by repeat (first | (with_reducible first | exact HB.out | apply below_alloc | apply pw_below_drewN | apply below_drew1 | refine below_set ?_ GE124.out) | exact HB.out))) : w.heap.size ≤ gb129)); have n4_ := Aside0.mk ((by rw [hg]; exact (below_size (by repeat (first | (with_reducible first | exact HB.out | apply below_alloc | apply pw_below_drewN | apply below_drew1 | refine below_set ?_ GE124.out) | exact HB.out))) : w.heap.size ≤ gb129)); have n5_ := Aside0.mk ((by rw [hg]; exact Nat.ne_of_lt (blk_lt (g := gb124) (o := .cells #[.string a0_0, .int .i64 a0_1, .int .i64 a0_2, .int .i64 a0_3, .string a0_4] 25 (0, 0)) (by (with_reducible repeat (first | refine blk_drewN ?_ _ | refine blk_drew ?_ | refine blk_alloc ?_ _)); exact BK124.out)) : gb124 ≠ gb129)); have n6_ := Aside0.mk ((by rw [hg]; exact Nat.ne_of_gt (blk_lt (g := gb124) (o := .cells #[.string a0_0, .int .i64 a0_1, .int .i64 a0_2, .int .i64 a0_3, .string a0_4] 25 (0, 0)) (by (with_reducible repeat (first | refine blk_drewN ?_ _ | refine blk_drew ?_ | refine blk_alloc ?_ _)); exact BK124.out)) : gb129 ≠ gb124)); clear BK124; clear HB; have BK124 := n0_; have HB := n1_; have BK129 := n2_; have GW129 := n3_; have GE129 := n4_; have NB124_129 := n5_; have NB129_124 := n6_; clear n0_ n1_ n2_ n3_ n4_ n5_ n6_; clear hb hbox hg; have hnb18 := NB129_124.out; have hnc18 := NB124_129.out; have hcz19_0 : w17.cell? ⟨gb129, 0, none⟩ = some (.int .i64 0) := (blk_cell BK129.out 0).trans rfl; have hcz19_1 : w17.cell? ⟨gb129, 1, none⟩ = some (.int .i64 0) := (blk_cell BK129.out 1).trans rfl; have hcz19_2 : w17.cell? ⟨gb129, 2, none⟩ = some (.string (⟨#[]⟩ : ByteArray)) := (blk_cell BK129.out 2).trans rfl; have hfz19_0 := blk_frozen BK129.out 0; have hfz19_1 := blk_frozen BK129.out 1; have hfz19_2 := blk_frozen BK129.out 2))
    go_ret
    exact ⟨by first | rfl | (simp [errW_none, errW_some] <;> rfl) | (simp [*, errW_none, errW_some] <;> rfl), by repeat (first | (with_reducible first | exact HB.out | apply below_alloc | apply pw_below_drewN | apply below_drew1 | refine below_set ?_ GE124.out | refine below_set ?_ GE129.out) | exact HB.out)⟩

end Go.Proofs.Ytojefdnngkcaoaa.G
end

section
-- Written by a program of this session (wip/tools/myprint.py), over the kit's print.
namespace Go.Proofs.Ytojefdnngkcaoaa.G
open Go.RowKit Go.Proofs.YtojefdnngkcaoaaW.PrintWords Go.Proofs.YtojefdnngkcaoaaW.PrintLast Go.Proofs.YtojefdnngkcaoaaW.PrintMore
attribute [local go_sem] max2_int min2_int max_two min_two max_three min_three max_four min_four   -- for this text's walks alone
set_option linter.unusedVariables false
set_option linter.unusedSimpArgs false

-- BY HAND
def slices_Clone_byte_byte.f (l0 : List Int) : Option (List Int) := if l0.length ≤ 140737488355328 then some l0 else none
set_option maxRecDepth 100000 in
set_option maxHeartbeats 400000 in
theorem slices_Clone_byte_byte.calls (A0 : Option Addr) (c0 : Nat) (l0 : List Int) (r : List Int) (w : World) (hr0 : Kd.C (Kd.int .u8) w A0 l0.length l0) (hc0 : l0.length ≤ c0) (h : slices_Clone_byte_byte.f l0 = some r) :
    Calls Try.prog 31 #[.slice A0 l0.length c0] w fun e w' => ∃ v0_ : Value, e = .returned (v0_) ∧ Kd.R (Kd.int .u8) 5 w' w.heap.size (fun _ => True) v0_ r ∧ Below w.heap.size w w' := by
  have hh := h
  clear h
  unfold slices_Clone_byte_byte.f at hh
  split at hh
  · rename_i hl
    obtain rfl := Option.some.inj hh
    clear hh
    have HR := Aside0.mk hr0
    clear hr0
    have heq := fun (W : World) (n c : Nat) => Lib.run_eql_slice_nil (P := Try.prog) W 27 5 A0 n c 0 0 Try.underlying27
    have hinfo : (Try.prog.info? 5).map (fun i => (i.zero, i.size, i.bytes)) = some (some (.int .u8 0), 1, 1) := by kernel_rfl
    have Hinfo := Aside0.mk hinfo
    clear hinfo
    cases A0 with
    | none =>
      have h0 : l0 = [] := by
        have h1 := HR.out.2.2
        cases l0 with
        | nil => rfl
        | cons x l => obtain ⟨ad, h2, _⟩ := h1 (by simp); cases h2
      subst h0
      go_enter Try.func31, Try.ntmps31
      go_wp2
      go_ret
      exact ⟨_, rfl, Kd.R_nil _ _ _ _ _, Below.refl _ _⟩
    | some ad =>
      go_enter Try.func31, Try.ntmps31
      go_wp2_with (at_builtin; refine Kd.R_append_rows (Kd.int .u8) (w0 := w) w.heap.size rfl (.tmp 5) (.tmp 6) 27 5 (.int .u8 0) 1 rfl Try.underlying27 Hinfo.out rfl (by decide) (by decide) (.slice (some ⟨w.heap.size, 0, none⟩) 0 0) [] l0 (some ad) l0.length c0 (fun _ => True) (fun _ => False) rfl rfl (kd_R (xs := []) (World.ownsRow_made w #[] 0 (Nat.le_refl _) (by decide) rfl)) (Kd.C_alloc HR.out _) (fun _ _ h => h) (fun _ h => h.elim) (fun _ _ => trivial) ((Below.refl _ _).alloc (Nat.le_refl _) _) (by simp) (by simpa using hl) ?_; intro v1 w1 HO1 hB1 _ _)
      go_ret
      exact ⟨v1, rfl, HO1, hB1⟩
  · cases hh

end Go.Proofs.Ytojefdnngkcaoaa.G
end

section
-- Written by a program of this session (wip/tools/myprint.py), over the kit's print.
namespace Go.Proofs.Ytojefdnngkcaoaa.G
open Go.RowKit Go.Proofs.YtojefdnngkcaoaaW.PrintWords Go.Proofs.YtojefdnngkcaoaaW.PrintLast Go.Proofs.YtojefdnngkcaoaaW.PrintMore
attribute [local go_sem] max2_int min2_int max_two min_two max_three min_three max_four min_four   -- for this text's walks alone
set_option linter.unusedVariables false
set_option linter.unusedSimpArgs false

-- BY HAND
def putGo : Nat → Int → List Int
  | 0, n => [n % 256]
  | f + 1, n => if n < 128 then [n % 256] else (n % 128 + 128) :: putGo f (n / 128)
def putL (n : Int) : List Int := putGo 9 n
def wire_Put.f (l0 : List Int) (a1 : Int) : Option (List Int) := if 0 ≤ a1 ∧ a1 < 18446744073709551616 ∧ l0.length ≤ 140737488355300 then some (l0 ++ putL a1) else none
theorem info_u8 : (Try.prog.info? 5).map (fun i => (i.zero, i.size, i.bytes)) = some (some (.int .u8 0), 1, 1) := by kernel_rfl
theorem or128 (m : Int) (h0 : 0 ≤ m) : bits .or .u8 (m % 256) 128 = m % 128 + 128 := by
  obtain ⟨n, rfl⟩ := Int.eq_ofNat_of_zero_le h0
  rw [show ((n : Int) % 256) = ((n % 256 : Nat) : Int) by omega, show (128 : Int) = ((128 : Nat) : Int) from rfl, u8_or_nat _ _ (by omega) (by decide)]
  have e : (n % 256) ||| 128 = n % 128 + 128 := by
    have h1 : n % 256 = 2 ^ 7 * (n % 256 / 128) + n % 256 % 128 := by omega
    have h2 : n % 256 % 128 < 2 ^ 7 := by omega
    rw [h1, Nat.two_pow_add_eq_or_of_lt h2, Nat.or_assoc, Nat.or_comm (n % 256 % 128), ← Nat.or_assoc, show (128 : Nat) = 2 ^ 7 * 1 from rfl]
    have h3 : n % 256 / (2 ^ 7 * 1) = 0 ∨ n % 256 / (2 ^ 7 * 1) = 1 := by omega
    have h4 : 2 ^ 7 * (n % 256 / (2 ^ 7 * 1)) ||| 2 ^ 7 * 1 = 2 ^ 7 * 1 := by
      rcases h3 with h3 | h3 <;> rw [h3] <;> decide
    rw [h4, ← Nat.two_pow_add_eq_or_of_lt (by omega)]
    omega
  rw [e]; omega
theorem clip_any (A : Option Addr) (n c : Nat) (h : n ≤ c) (w : World) : Calls Try.prog 53 #[.slice A n c] w fun e w' => e = .returned (.slice A n n) ∧ w' = w := by
  go_enter Try.func53, Try.ntmps53
  go_wp2_with fail
  go_ret
  exact ⟨rfl, rfl⟩
set_option maxRecDepth 100000 in
set_option maxHeartbeats 1000000 in
theorem wire_Put.calls (A0 : Option Addr) (c0 : Nat) (l0 : List Int) (a1 : Int) (r : List Int) (w : World) (hr0 : Kd.C (Kd.int .u8) w A0 l0.length l0) (hc0 : l0.length ≤ c0) (h : wire_Put.f l0 a1 = some r) :
    Calls Try.prog 33 #[.slice A0 l0.length c0, .int .u64 a1] w fun e w' => ∃ v0_ : Value, e = .returned (v0_) ∧ Kd.R (Kd.int .u8) 5 w' w.heap.size (fun _ => True) v0_ r ∧ Below w.heap.size w w' := by
  have hh := h
  clear h
  unfold wire_Put.f at hh
  split at hh
  · rename_i hcond
    obtain ⟨ha0, ha1, hl⟩ := hcond
    have HRES := Aside0.mk (Option.some.inj hh)
    clear hh
    have hcl := Aside0.mk (show slices_Clone_byte_byte.f l0 = some l0 by unfold slices_Clone_byte_byte.f; rw [if_pos (by omega)])
    go_enter Try.func33, Try.ntmps33
    go_wp2_with fail
    refine (slices_Clone_byte_byte.calls _ _ l0 l0 _ hr0 hc0 hcl.out).mono ?_
    rintro e w1 ⟨v1, rfl, hR1, hB1⟩
    obtain ⟨A1, n1, rfl, hc1, hC1⟩ := own_C hR1
    have hA1 : A1 = none → l0.length = 0 := by
      rintro rfl
      apply Classical.byContradiction
      intro hne
      obtain ⟨_, _, hr⟩ := Kd.reads_of_C (d := (0 : Int)) hC1
      obtain ⟨ad, h2, _⟩ := hr (by omega)
      cases h2
    have HOUT : Outs .u8 5 w1 w.heap.size (.slice A1 l0.length l0.length) l0 := .inr ⟨A1, rfl, hC1, hA1⟩
    have HO1 := Aside0.mk HOUT
    clear HOUT hC1 hR1 hA1 hr0
    go_wp2_with fail
    refine (clip_any A1 l0.length n1 hc1 w1).mono ?_
    rintro e w2 ⟨rfl, rfl⟩
    have HBB := Aside0.mk hB1
    clear hB1
    go_wp2_with fail
    go_loopw [1, 5] (fun n v wr => ∃ (f : Nat) (m : Int) (xs : List Int), n = .int .u64 m ∧ 0 ≤ m ∧ f ≤ 9 ∧ Aside0 (m < 128 ^ (f + 1)) ∧ m < 18446744073709551616 ∧ Aside0 (xs ++ putGo f m = r) ∧ Aside0 (xs.length + f ≤ 140737488355309) ∧ Aside0 (Outs .u8 5 wr w.heap.size v xs) ∧ Below w.heap.size w wr) (fun n _ _ => (intOf n).toNat)
    case atStart => exact ⟨9, a1, l0, rfl, ha0, Nat.le_refl _, ⟨by omega⟩, ha1, ⟨HRES.out⟩, ⟨by omega⟩, ⟨HO1.out⟩, HBB.out⟩
    case round =>
      obtain ⟨f, m, xs, rfl, hm0, hf, HM, hm64, HX, HL, HO, hBr⟩ := hrel
      by_cases hlt : 128 ≤ m
      · go_wp2_with (at_builtin; refine app_outs (w0 := w) w.heap.size rfl (.tmp 13) (.tmp 17) 27 5 .u8 1 rfl Try.underlying27 info_u8 (by decide) u5 xs (bits .or .u8 (m % 256) 128) rfl rfl HO.out hBr hBr.size (by have := HL.out; omega) ?_; intro v1 w1 HO2 hB2; clear HO hBr)
        have hm1 := HM.out
        cases f with
        | zero => exact absurd hm1 (by simp; omega)
        | succ f =>
          have hx := HX.out
          have hL := HL.out
          rw [putGo, if_neg (by omega)] at hx
          refine ⟨⟨f, m / 128, xs ++ [bits .or .u8 (m % 256) 128], rfl, by omega, by omega, ⟨?_⟩, by omega, ⟨?_⟩, ⟨?_⟩, ⟨.inl HO2.out⟩, hB2⟩, ?_⟩
          · rw [Int.pow_succ] at hm1
            exact Int.ediv_lt_of_lt_mul (by decide) hm1
          · rw [or128 m hm0, List.append_assoc]; exact hx
          · simp only [List.length_append, List.length_singleton]; omega
          · simp only [intOf]; omega
      · go_wp2_with (at_builtin; refine app_outs (w0 := w) w.heap.size rfl (.tmp 19) (.tmp 22) 27 5 .u8 1 rfl Try.underlying27 info_u8 (by decide) u5 xs m rfl rfl HO.out hBr hBr.size (by have := HL.out; omega) ?_; intro v1 w1 HO2 hB2; clear HO hBr)
        have hx := HX.out
        have hp : putGo f m = [m] := by
          cases f with
          | zero => rw [putGo]; rw [Int.emod_eq_of_lt hm0 (by omega)]
          | succ f => rw [putGo, if_pos (by omega)]; rw [Int.emod_eq_of_lt hm0 (by omega)]
        rw [hp] at hx
        subst hx
        go_ret
        exact ⟨v1, rfl, HO2.out, hB2⟩
  · cases hh

end Go.Proofs.Ytojefdnngkcaoaa.G
end

section
-- Written by a program of this session (wip/tools/myprint.py), over the kit's print.
namespace Go.Proofs.Ytojefdnngkcaoaa.G
open Go.RowKit Go.Proofs.YtojefdnngkcaoaaW.PrintWords Go.Proofs.YtojefdnngkcaoaaW.PrintLast Go.Proofs.YtojefdnngkcaoaaW.PrintMore
attribute [local go_sem] max2_int min2_int max_two min_two max_three min_three max_four min_four   -- for this text's walks alone
set_option linter.unusedVariables false
set_option linter.unusedSimpArgs false

/-! ### wire_PutText: function 34 -/
def wire_PutText.f (l0 : List Int) (a1 : ByteArray) : Option (List Int) := (wire_Put.f l0 (IntKind.u64.wrap ((a1.size : Int)))).bind fun t131 => (if t131.length + a1.size < 140737488355328 then (some (t131 ++ bytesOf a1)) else (none))
set_option maxHeartbeats 8000000 in
set_option maxRecDepth 100000 in
theorem wire_PutText.calls (A0 : Option Addr) (c0 : Nat) (l0 : List Int) (a1 : ByteArray) (r : List Int) (w : World) (hr0 : Kd.C (Kd.int .u8) w A0 l0.length l0) (hc0 : l0.length ≤ c0) (h : wire_PutText.f l0 a1 = some r) :
    Calls Try.prog 34 #[.slice A0 l0.length c0, .string a1] w fun e w' => ∃ v0_ : Value, e = .returned (v0_) ∧ Kd.R (Kd.int .u8) 5 w' w.heap.size (fun _ => True) v0_ r ∧ Below w.heap.size w w' := by
  have HR0 := Aside0.mk hr0
  have HC0 := Aside0.mk hc0
  clear hr0 hc0
  have HB := Aside0.mk (Below.refl w.heap.size w)
  have H : ((wire_Put.f l0 (IntKind.u64.wrap ((a1.size : Int)))).bind fun t131 => (if t131.length + a1.size < 140737488355328 then (some (t131 ++ bytesOf a1)) else (none))) = some r := h
  clear h
  replace H := Option.bind_eq_some_iff.mp H
  obtain ⟨t131, A30, H⟩ := H
  replace H : (if t131.length + a1.size < 140737488355328 then (some (t131 ++ bytesOf a1)) else (none)) = some r := H
  have A3 := Aside0.mk A30
  clear A30
  by_cases c4 : t131.length + a1.size < 140737488355328
  · rw [if_pos c4] at H
    have LMc4 := Aside0.mk c4
    clear c4
    obtain ⟨y134, hy134⟩ : ∃ y_ : List Int, y_ = (t131 ++ bytesOf a1) := ⟨_, rfl⟩
    replace H : (some y134) = some r := by first | (rw [hy134]; with_reducible exact H) | (have H2_ := (Option.bind_some _ _).symm.trans H; rw [hy134]; with_reducible exact H2_) | (have H2_ := (Option.bind_some _ _).symm.trans H; with_reducible exact H2_) | with_reducible exact H | (rw [hy134]; exact H) | exact H
    have Ny134 := Aside0.mk hy134
    clear hy134
    obtain rfl := Option.some.inj H
    go_enter Try.func34, Try.ntmps34
    go_wp2_with (first | ((with_reducible refine gate_callee (f := 33) rfl ?_); refine goesL_ (some 9) rfl rfl Try.func33 (by kernel_rfl) rfl #[.slice A0 l0.length c0, .int .u64 (IntKind.u64.wrap ((a1.size : Int)))] rfl (by (try simp only [List.map_toArray, List.map_cons, List.map_nil]); first | done | rfl | (simp only [List.length_drop, List.length_take]; rfl)) ?_; (with_reducible refine (wire_Put.calls _ _ l0 (IntKind.u64.wrap ((a1.size : Int))) t131 _ ?side1 ?side2 A3.out).mono ?_); (case side1 => repeat (first | exact HR0.out | (with_reducible refine Kd.C_alloc ?_ _) | (with_reducible refine Kd.C_drewN ?_ _) | (with_reducible refine Kd.C_drew ?_))); (case side2 => exact HC0.out); rintro e w5 ⟨v132, rfl, ho0, hb⟩; refine ⟨_, rfl, ?_⟩; have n0_ := Aside0.mk (Kd.R_lower ho0 (below_size (by repeat (first | (with_reducible first | exact HB.out | apply below_alloc | apply pw_below_drewN | apply below_drew1) | exact HB.out)))); have n1_ := Aside0.mk (below_step (by repeat (first | (with_reducible first | exact HB.out | apply below_alloc | apply pw_below_drewN | apply below_drew1) | exact HB.out)) hb); clear HB; have HO133 := n0_; have HB := n1_; clear n0_ n1_; (try clear hb); (try clear hb2); (try clear hk); (try clear hi); (try clear ho0)) | (at_builtin; refine print_append_str (w0 := w) w.heap.size rfl (.tmp 9) _ 27 9 5 rfl Try.underlying27 Try.underlying9 info5 v132 t131 a1 rfl rfl ?aO ?aB ?aS ?aL ?_; (case aB => exact (by repeat (first | (with_reducible first | exact HB.out | apply below_alloc | apply pw_below_drewN | apply below_drew1) | exact HB.out))); (case aO => exact (Kd.own_of_R (by (with_reducible repeat (first | apply Kd.R_alloc | apply Kd.R_drewN | apply Kd.R_drew)); exact HO133.out))); (case aS => exact (below_size (by repeat (first | (with_reducible first | exact HB.out | apply below_alloc | apply pw_below_drewN | apply below_drew1) | exact HB.out)))); (case aL => have := LMc4.out; omega); intro v135 w6 ho0 hb hg; have ho := Kd.R_of_own (h1 := fun _ => rfl) (ok := fun _ => True) ho0 (fun _ _ => trivial); clear ho0; have hat := True.intro; rw [← Ny134.out] at ho; change Kd.R (Kd.int .u8) 5 w6 w.heap.size (fun _ => True) v135 y134 at ho; have n0_ := Aside0.mk (hb); have n1_ := Aside0.mk (ho); clear HB; clear HO133; have HB := n0_; have HO136 := n1_; clear n0_ n1_; clear ho hb hg hat))
    go_ret
    exact ⟨_, by first | rfl | (simp [errW_none, errW_some] <;> rfl) | (simp [*, errW_none, errW_some] <;> rfl), by (with_reducible repeat (first | apply Kd.R_alloc | apply Kd.R_drewN | apply Kd.R_drew)); exact HO136.out, by repeat (first | (with_reducible first | exact HB.out | apply below_alloc | apply pw_below_drewN | apply below_drew1) | exact HB.out)⟩
  · rw [if_neg c4] at H
    exact absurd H (by simp)

end Go.Proofs.Ytojefdnngkcaoaa.G
end

section
-- Written by a program of this session (wip/tools/myprint.py), over the kit's print.
namespace Go.Proofs.Ytojefdnngkcaoaa.G
open Go.RowKit Go.Proofs.YtojefdnngkcaoaaW.PrintWords Go.Proofs.YtojefdnngkcaoaaW.PrintLast Go.Proofs.YtojefdnngkcaoaaW.PrintMore
attribute [local go_sem] max2_int min2_int max_two min_two max_three min_three max_four min_four   -- for this text's walks alone
set_option linter.unusedVariables false
set_option linter.unusedSimpArgs false

/-! ### wire_zig: function 63 -/
def wire_zig.f (a0 : Int) : Option (Int) := some (Go.bits .xor .u64 (IntKind.u64.wrap (wrap64 (a0 * 2))) (IntKind.u64.wrap (a0 / 9223372036854775808)))
set_option maxHeartbeats 8000000 in
set_option maxRecDepth 100000 in
theorem wire_zig.calls (a0 : Int) (r : Int) (w : World) (h : wire_zig.f a0 = some r) :
    Calls Try.prog 63 #[.int .i64 a0] w fun e w' => e = .returned (.int .u64 r) ∧ Drawn0 w w' := by
  have H : (some (Go.bits .xor .u64 (IntKind.u64.wrap (wrap64 (a0 * 2))) (IntKind.u64.wrap (a0 / 9223372036854775808)))) = some r := h
  clear h
  obtain rfl := Option.some.inj H
  go_enter Try.func63, Try.ntmps63
  go_wp2
  go_ret
  exact ⟨by first | rfl | (simp; done) | (simp [*]; done), by repeat (first | exact Drawn0.refl _ | apply Drawn0.step)⟩

end Go.Proofs.Ytojefdnngkcaoaa.G
end

section
-- Written by a program of this session (wip/tools/myprint.py), over the kit's print.
namespace Go.Proofs.Ytojefdnngkcaoaa.G
open Go.RowKit Go.Proofs.YtojefdnngkcaoaaW.PrintWords Go.Proofs.YtojefdnngkcaoaaW.PrintLast Go.Proofs.YtojefdnngkcaoaaW.PrintMore
attribute [local go_sem] max2_int min2_int max_two min_two max_three min_three max_four min_four   -- for this text's walks alone
set_option linter.unusedVariables false
set_option linter.unusedSimpArgs false

/-! ### wire_PutInt: function 52 -/
def wire_PutInt.f (l0 : List Int) (a1 : Int) : Option (List Int) := (wire_zig.f a1).bind fun t137 => ((wire_Put.f l0 t137).bind fun t138 => (some t138))
set_option maxHeartbeats 8000000 in
set_option maxRecDepth 100000 in
theorem wire_PutInt.calls (A0 : Option Addr) (c0 : Nat) (l0 : List Int) (a1 : Int) (r : List Int) (w : World) (hr0 : Kd.C (Kd.int .u8) w A0 l0.length l0) (hc0 : l0.length ≤ c0) (h : wire_PutInt.f l0 a1 = some r) :
    Calls Try.prog 52 #[.slice A0 l0.length c0, .int .i64 a1] w fun e w' => ∃ v0_ : Value, e = .returned (v0_) ∧ Kd.R (Kd.int .u8) 5 w' w.heap.size (fun _ => True) v0_ r ∧ Below w.heap.size w w' := by
  have HR0 := Aside0.mk hr0
  have HC0 := Aside0.mk hc0
  clear hr0 hc0
  have HB := Aside0.mk (Below.refl w.heap.size w)
  have H : ((wire_zig.f a1).bind fun t137 => ((wire_Put.f l0 t137).bind fun t138 => (some t138))) = some r := h
  clear h
  replace H := Option.bind_eq_some_iff.mp H
  obtain ⟨t137, A30, H⟩ := H
  replace H : ((wire_Put.f l0 t137).bind fun t138 => (some t138)) = some r := H
  have A3 := Aside0.mk A30
  clear A30
  replace H := Option.bind_eq_some_iff.mp H
  obtain ⟨t138, A40, H⟩ := H
  replace H : (some t138) = some r := H
  have A4 := Aside0.mk A40
  clear A40
  obtain rfl := Option.some.inj H
  go_enter Try.func52, Try.ntmps52
  go_wp2_with (first | ((with_reducible refine gate_callee (f := 63) rfl ?_); refine goesL_ (some 7) rfl rfl Try.func63 (by kernel_rfl) rfl #[.int .i64 a1] rfl (by (try simp only [List.map_toArray, List.map_cons, List.map_nil]); first | done | rfl | (simp only [List.length_drop, List.length_take]; rfl)) ?_; (with_reducible refine (wire_zig.calls a1 t137 _ A3.out).mono ?_); rintro e w' ⟨rfl, ⟨nd, rfl⟩⟩; refine ⟨_, rfl, ?_⟩) | ((with_reducible refine gate_callee (f := 33) rfl ?_); refine goesL_ (some 8) rfl rfl Try.func33 (by kernel_rfl) rfl #[.slice A0 l0.length c0, .int .u64 t137] rfl (by (try simp only [List.map_toArray, List.map_cons, List.map_nil]); first | done | rfl | (simp only [List.length_drop, List.length_take]; rfl)) ?_; (with_reducible refine (wire_Put.calls _ _ l0 t137 t138 _ ?side1 ?side2 A4.out).mono ?_); (case side1 => repeat (first | exact HR0.out | (with_reducible refine Kd.C_alloc ?_ _) | (with_reducible refine Kd.C_drewN ?_ _) | (with_reducible refine Kd.C_drew ?_))); (case side2 => exact HC0.out); rintro e w5 ⟨v139, rfl, ho0, hb⟩; refine ⟨_, rfl, ?_⟩; have n0_ := Aside0.mk (Kd.R_lower ho0 (below_size (by repeat (first | (with_reducible first | exact HB.out | apply below_alloc | apply pw_below_drewN | apply below_drew1) | exact HB.out)))); have n1_ := Aside0.mk (below_step (by repeat (first | (with_reducible first | exact HB.out | apply below_alloc | apply pw_below_drewN | apply below_drew1) | exact HB.out)) hb); clear HB; have HO140 := n0_; have HB := n1_; clear n0_ n1_; (try clear hb); (try clear hb2); (try clear hk); (try clear hi); (try clear ho0)))
  go_ret
  exact ⟨_, by first | rfl | (simp [errW_none, errW_some] <;> rfl) | (simp [*, errW_none, errW_some] <;> rfl), by (with_reducible repeat (first | apply Kd.R_alloc | apply Kd.R_drewN | apply Kd.R_drew)); exact HO140.out, by repeat (first | (with_reducible first | exact HB.out | apply below_alloc | apply pw_below_drewN | apply below_drew1) | exact HB.out)⟩

end Go.Proofs.Ytojefdnngkcaoaa.G
end

section
-- Written by a program of this session (wip/tools/myprint.py), over the kit's print.
namespace Go.Proofs.Ytojefdnngkcaoaa.G
open Go.RowKit Go.Proofs.YtojefdnngkcaoaaW.PrintWords Go.Proofs.YtojefdnngkcaoaaW.PrintLast Go.Proofs.YtojefdnngkcaoaaW.PrintMore
attribute [local go_sem] max2_int min2_int max_two min_two max_three min_three max_four min_four   -- for this text's walks alone
set_option linter.unusedVariables false
set_option linter.unusedSimpArgs false

/-! ### value_Put: function 32 -/
def value_Put.f (l0 : List Int) (a1_0 : Int) (a1_1 : Int) (a1_2 : ByteArray) : Option (List Int) := (value_Right.f a1_0 a1_1 a1_2).bind fun t142 => (if t142 = true then ((wire_Put.f l0 (IntKind.u64.wrap (a1_0))).bind fun t146 => (if a1_0 = 1 then ((wire_PutInt.f t146 a1_1).bind fun t149 => (some t149)) else (if a1_0 = 2 then ((wire_PutText.f t146 a1_2).bind fun t152 => (some t152)) else ((wire_Put.f t146 (IntKind.u64.wrap (a1_1))).bind fun t155 => (some t155))))) else ((slices_Clone_byte_byte.f l0).bind fun t143 => (some t143)))
set_option maxHeartbeats 8000000 in
set_option maxRecDepth 100000 in
theorem value_Put.calls (A0 : Option Addr) (c0 : Nat) (l0 : List Int) (a1_0 : Int) (a1_1 : Int) (a1_2 : ByteArray) (r : List Int) (w : World) (hr0 : Kd.C (Kd.int .u8) w A0 l0.length l0) (hc0 : l0.length ≤ c0) (h : value_Put.f l0 a1_0 a1_1 a1_2 = some r) :
    Calls Try.prog 32 #[.slice A0 l0.length c0, .agg #[.int .i64 a1_0, .int .i64 a1_1, .string a1_2]] w fun e w' => ∃ v0_ : Value, e = .returned (v0_) ∧ Kd.R (Kd.int .u8) 5 w' w.heap.size (fun _ => True) v0_ r ∧ Below w.heap.size w w' := by
  have hu23 := Try.underlying23
  have HR0 := Aside0.mk hr0
  have HC0 := Aside0.mk hc0
  clear hr0 hc0
  have HB := Aside0.mk (Below.refl w.heap.size w)
  have H : ((value_Right.f a1_0 a1_1 a1_2).bind fun t142 => (if t142 = true then ((wire_Put.f l0 (IntKind.u64.wrap (a1_0))).bind fun t146 => (if a1_0 = 1 then ((wire_PutInt.f t146 a1_1).bind fun t149 => (some t149)) else (if a1_0 = 2 then ((wire_PutText.f t146 a1_2).bind fun t152 => (some t152)) else ((wire_Put.f t146 (IntKind.u64.wrap (a1_1))).bind fun t155 => (some t155))))) else ((slices_Clone_byte_byte.f l0).bind fun t143 => (some t143)))) = some r := h
  clear h
  replace H := Option.bind_eq_some_iff.mp H
  obtain ⟨t142, A30, H⟩ := H
  replace H : (if t142 = true then ((wire_Put.f l0 (IntKind.u64.wrap (a1_0))).bind fun t146 => (if a1_0 = 1 then ((wire_PutInt.f t146 a1_1).bind fun t149 => (some t149)) else (if a1_0 = 2 then ((wire_PutText.f t146 a1_2).bind fun t152 => (some t152)) else ((wire_Put.f t146 (IntKind.u64.wrap (a1_1))).bind fun t155 => (some t155))))) else ((slices_Clone_byte_byte.f l0).bind fun t143 => (some t143))) = some r := H
  have A3 := Aside0.mk A30
  clear A30
  by_cases c4 : t142 = true
  · subst c4
    have H1 : ((wire_Put.f l0 (IntKind.u64.wrap (a1_0))).bind fun t146 => (if a1_0 = 1 then ((wire_PutInt.f t146 a1_1).bind fun t149 => (some t149)) else (if a1_0 = 2 then ((wire_PutText.f t146 a1_2).bind fun t152 => (some t152)) else ((wire_Put.f t146 (IntKind.u64.wrap (a1_1))).bind fun t155 => (some t155))))) = some r := by rw [if_pos rfl] at H; exact H
    clear H
    have H := H1
    clear H1
    replace H := Option.bind_eq_some_iff.mp H
    obtain ⟨t146, A50, H⟩ := H
    replace H : (if a1_0 = 1 then ((wire_PutInt.f t146 a1_1).bind fun t149 => (some t149)) else (if a1_0 = 2 then ((wire_PutText.f t146 a1_2).bind fun t152 => (some t152)) else ((wire_Put.f t146 (IntKind.u64.wrap (a1_1))).bind fun t155 => (some t155)))) = some r := H
    have A5 := Aside0.mk A50
    clear A50
    by_cases c6 : a1_0 = 1
    · rw [if_pos c6] at H
      have c6b0 : (a1_0 == 1) = true := beq_iff_eq.mpr c6
      have c6b1 : (a1_0 != 1) = false := bne_eq_false_iff_eq.mpr c6
      clear c6
      replace H := Option.bind_eq_some_iff.mp H
      obtain ⟨t149, A70, H⟩ := H
      replace H : (some t149) = some r := H
      have A7 := Aside0.mk A70
      clear A70
      obtain rfl := Option.some.inj H
      go_enter Try.func32, Try.ntmps32
      go_wp2_with (first | ((with_reducible refine gate_dst (N := 3) rfl ?_); refine box_event ?hg (N := 3) ?hd (cs := #[.int .i64 a1_0, .int .i64 a1_1, .string a1_2]) (t := 23) ?hr ?_; (case hd => rfl); (case hg => rfl); (case hr => first | (go_simp; done) | (go_simp; rfl)); intro gb141 hg w8 hbox hb; have n0_ := Aside0.mk (below_step (by repeat (first | (with_reducible first | exact HB.out | apply below_alloc | apply pw_below_drewN | apply below_drew1) | exact HB.out)) hb); have n1_ := Aside0.mk (hbox); have n2_ := Aside0.mk ((by rw [hg]; exact (below_size (by repeat (first | (with_reducible first | exact HB.out | apply below_alloc | apply pw_below_drewN | apply below_drew1) | exact HB.out))) : w.heap.size ≤ gb141)); have n3_ := Aside0.mk ((by rw [hg]; exact (below_size (by repeat (first | (with_reducible first | exact HB.out | apply below_alloc | apply pw_below_drewN | apply below_drew1) | exact HB.out))) : w.heap.size ≤ gb141)); clear HB; have HB := n0_; have BK141 := n1_; have GW141 := n2_; have GE141 := n3_; clear n0_ n1_ n2_ n3_; clear hb hbox hg; have hcz9_0 : w8.cell? ⟨gb141, 0, none⟩ = some (.int .i64 a1_0) := (blk_cell BK141.out 0).trans rfl; have hcz9_1 : w8.cell? ⟨gb141, 1, none⟩ = some (.int .i64 a1_1) := (blk_cell BK141.out 1).trans rfl; have hcz9_2 : w8.cell? ⟨gb141, 2, none⟩ = some (.string a1_2) := (blk_cell BK141.out 2).trans rfl; have hfz9_0 := blk_frozen BK141.out 0; have hfz9_1 := blk_frozen BK141.out 1; have hfz9_2 := blk_frozen BK141.out 2) | ((with_reducible refine gate_callee (f := 18) rfl ?_); refine goesL_ (some 7) rfl rfl Try.func18 (by kernel_rfl) rfl #[.agg #[.int .i64 a1_0, .int .i64 a1_1, .string a1_2]] rfl (by (try simp only [List.map_toArray, List.map_cons, List.map_nil]); first | done | rfl | (simp only [List.length_drop, List.length_take]; rfl)) ?_; (with_reducible refine (value_Right.calls a1_0 a1_1 a1_2 true _ A3.out).mono ?_); rintro e w10 ⟨rfl, hb⟩; refine ⟨_, rfl, ?_⟩; have n0_ := Aside0.mk (blk_below (g := gb141) (o := .cells #[.int .i64 a1_0, .int .i64 a1_1, .string a1_2] 23 (0, 0)) (by (with_reducible repeat (first | refine blk_drewN ?_ _ | refine blk_drew ?_ | refine blk_alloc ?_ _)); exact BK141.out) hb); have n1_ := Aside0.mk (below_step (by repeat (first | (with_reducible first | exact HB.out | apply below_alloc | apply pw_below_drewN | apply below_drew1 | refine below_set ?_ GE141.out) | exact HB.out)) hb); clear BK141; clear HB; have BK141 := n0_; have HB := n1_; clear n0_ n1_; (try clear hb); (try clear hb2); (try clear hk); (try clear hi); have hcz11_0 : w10.cell? ⟨gb141, 0, none⟩ = some (.int .i64 a1_0) := (blk_cell BK141.out 0).trans rfl; have hcz11_1 : w10.cell? ⟨gb141, 1, none⟩ = some (.int .i64 a1_1) := (blk_cell BK141.out 1).trans rfl; have hcz11_2 : w10.cell? ⟨gb141, 2, none⟩ = some (.string a1_2) := (blk_cell BK141.out 2).trans rfl; have hfz11_0 := blk_frozen BK141.out 0; have hfz11_1 := blk_frozen BK141.out 1; have hfz11_2 := blk_frozen BK141.out 2) | ((with_reducible refine gate_callee (f := 33) rfl ?_); refine goesL_ (some 15) rfl rfl Try.func33 (by kernel_rfl) rfl #[.slice A0 l0.length c0, .int .u64 (IntKind.u64.wrap (a1_0))] rfl (by (try simp only [List.map_toArray, List.map_cons, List.map_nil]); first | done | rfl | (simp only [List.length_drop, List.length_take]; rfl)) ?_; (with_reducible refine (wire_Put.calls _ _ l0 (IntKind.u64.wrap (a1_0)) t146 _ ?side1 ?side2 A5.out).mono ?_); (case side1 => repeat (first | exact (Kd.C_below HR0.out HB.out) | (with_reducible refine Kd.C_alloc ?_ _) | (with_reducible refine Kd.C_drewN ?_ _) | (with_reducible refine Kd.C_drew ?_))); (case side2 => exact HC0.out); rintro e w12 ⟨v147, rfl, ho0, hb⟩; refine ⟨_, rfl, ?_⟩; have n0_ := Aside0.mk (Kd.R_lower ho0 (below_size (by repeat (first | (with_reducible first | exact HB.out | apply below_alloc | apply pw_below_drewN | apply below_drew1 | refine below_set ?_ GE141.out) | exact HB.out)))); have n1_ := Aside0.mk (blk_below (g := gb141) (o := .cells #[.int .i64 a1_0, .int .i64 a1_1, .string a1_2] 23 (0, 0)) (by (with_reducible repeat (first | refine blk_drewN ?_ _ | refine blk_drew ?_ | refine blk_alloc ?_ _)); exact BK141.out) hb); have n2_ := Aside0.mk (below_step (by repeat (first | (with_reducible first | exact HB.out | apply below_alloc | apply pw_below_drewN | apply below_drew1 | refine below_set ?_ GE141.out) | exact HB.out)) hb); clear BK141; clear HB; have HO148 := n0_; have BK141 := n1_; have HB := n2_; clear n0_ n1_ n2_; (try clear hb); (try clear hb2); (try clear hk); (try clear hi); (try clear ho0); have hcz13_0 : w12.cell? ⟨gb141, 0, none⟩ = some (.int .i64 a1_0) := (blk_cell BK141.out 0).trans rfl; have hcz13_1 : w12.cell? ⟨gb141, 1, none⟩ = some (.int .i64 a1_1) := (blk_cell BK141.out 1).trans rfl; have hcz13_2 : w12.cell? ⟨gb141, 2, none⟩ = some (.string a1_2) := (blk_cell BK141.out 2).trans rfl; have hfz13_0 := blk_frozen BK141.out 0; have hfz13_1 := blk_frozen BK141.out 1; have hfz13_2 := blk_frozen BK141.out 2; obtain ⟨Ao14, co14, eo14⟩ := Kd.R_slice HO148.out; subst eo14) | ((with_reducible refine gate_callee (f := 52) rfl ?_); refine goesL_ (some 23) rfl rfl Try.func52 (by kernel_rfl) rfl #[.slice Ao14 t146.length co14, .int .i64 a1_1] rfl (by (try simp only [List.map_toArray, List.map_cons, List.map_nil]); first | done | rfl | (simp only [List.length_drop, List.length_take]; rfl)) ?_; (with_reducible refine (wire_PutInt.calls _ _ t146 a1_1 t149 _ ?side1 ?side2 A7.out).mono ?_); (case side1 => repeat (first | exact (Kd.R_reads' HO148.out).2.2 | (with_reducible refine Kd.C_alloc ?_ _) | (with_reducible refine Kd.C_drewN ?_ _) | (with_reducible refine Kd.C_drew ?_))); (case side2 => exact (Kd.R_reads' HO148.out).2.1); rintro e w15 ⟨v150, rfl, ho0, hb⟩; refine ⟨_, rfl, ?_⟩; have n0_ := Aside0.mk (Kd.R_elder' (by (with_reducible repeat (first | apply Kd.R_alloc | apply Kd.R_drewN | apply Kd.R_drew)); exact HO148.out) (Kd.R_base ho0) hb); have n1_ := Aside0.mk (Kd.R_lower (Kd.R_new' ho0 (Kd.R_lt (by (with_reducible repeat (first | apply Kd.R_alloc | apply Kd.R_drewN | apply Kd.R_drew)); exact HO148.out))) (below_size (by repeat (first | (with_reducible first | exact HB.out | apply below_alloc | apply pw_below_drewN | apply below_drew1 | refine below_set ?_ GE141.out) | exact HB.out)))); have n2_ := Aside0.mk (blk_below (g := gb141) (o := .cells #[.int .i64 a1_0, .int .i64 a1_1, .string a1_2] 23 (0, 0)) (by (with_reducible repeat (first | refine blk_drewN ?_ _ | refine blk_drew ?_ | refine blk_alloc ?_ _)); exact BK141.out) hb); have n3_ := Aside0.mk (below_step (by repeat (first | (with_reducible first | exact HB.out | apply below_alloc | apply pw_below_drewN | apply below_drew1 | refine below_set ?_ GE141.out) | exact HB.out)) hb); clear HO148; clear BK141; clear HB; have HO148 := n0_; have HO151 := n1_; have BK141 := n2_; have HB := n3_; clear n0_ n1_ n2_ n3_; (try clear hb); (try clear hb2); (try clear hk); (try clear hi); (try clear ho0)))
      go_ret
      exact ⟨_, by first | rfl | (simp [errW_none, errW_some] <;> rfl) | (simp [*, errW_none, errW_some] <;> rfl), by (with_reducible repeat (first | apply Kd.R_alloc | apply Kd.R_drewN | apply Kd.R_drew)); exact Kd.R_mono HO151.out (fun _ hk => trivial), by repeat (first | (with_reducible first | exact HB.out | apply below_alloc | apply pw_below_drewN | apply below_drew1 | refine below_set ?_ GE141.out) | exact HB.out)⟩
    · rw [if_neg c6] at H
      have c6b0 : (a1_0 == 1) = false := beq_eq_false_iff_ne.mpr c6
      have c6b1 : (a1_0 != 1) = true := bne_iff_ne.mpr c6
      by_cases c16 : a1_0 = 2
      · rw [if_pos c16] at H
        have c16b0 : (a1_0 == 2) = true := beq_iff_eq.mpr c16
        have c16b1 : (a1_0 != 2) = false := bne_eq_false_iff_eq.mpr c16
        clear c16
        replace H := Option.bind_eq_some_iff.mp H
        obtain ⟨t152, A170, H⟩ := H
        replace H : (some t152) = some r := H
        have A17 := Aside0.mk A170
        clear A170
        obtain rfl := Option.some.inj H
        go_enter Try.func32, Try.ntmps32
        go_wp2_with (first | ((with_reducible refine gate_dst (N := 3) rfl ?_); refine box_event ?hg (N := 3) ?hd (cs := #[.int .i64 a1_0, .int .i64 a1_1, .string a1_2]) (t := 23) ?hr ?_; (case hd => rfl); (case hg => rfl); (case hr => first | (go_simp; done) | (go_simp; rfl)); intro gb141 hg w18 hbox hb; have n0_ := Aside0.mk (below_step (by repeat (first | (with_reducible first | exact HB.out | apply below_alloc | apply pw_below_drewN | apply below_drew1) | exact HB.out)) hb); have n1_ := Aside0.mk (hbox); have n2_ := Aside0.mk ((by rw [hg]; exact (below_size (by repeat (first | (with_reducible first | exact HB.out | apply below_alloc | apply pw_below_drewN | apply below_drew1) | exact HB.out))) : w.heap.size ≤ gb141)); have n3_ := Aside0.mk ((by rw [hg]; exact (below_size (by repeat (first | (with_reducible first | exact HB.out | apply below_alloc | apply pw_below_drewN | apply below_drew1) | exact HB.out))) : w.heap.size ≤ gb141)); clear HB; have HB := n0_; have BK141 := n1_; have GW141 := n2_; have GE141 := n3_; clear n0_ n1_ n2_ n3_; clear hb hbox hg; have hcz19_0 : w18.cell? ⟨gb141, 0, none⟩ = some (.int .i64 a1_0) := (blk_cell BK141.out 0).trans rfl; have hcz19_1 : w18.cell? ⟨gb141, 1, none⟩ = some (.int .i64 a1_1) := (blk_cell BK141.out 1).trans rfl; have hcz19_2 : w18.cell? ⟨gb141, 2, none⟩ = some (.string a1_2) := (blk_cell BK141.out 2).trans rfl; have hfz19_0 := blk_frozen BK141.out 0; have hfz19_1 := blk_frozen BK141.out 1; have hfz19_2 := blk_frozen BK141.out 2) | ((with_reducible refine gate_callee (f := 18) rfl ?_); refine goesL_ (some 7) rfl rfl Try.func18 (by kernel_rfl) rfl #[.agg #[.int .i64 a1_0, .int .i64 a1_1, .string a1_2]] rfl (by (try simp only [List.map_toArray, List.map_cons, List.map_nil]); first | done | rfl | (simp only [List.length_drop, List.length_take]; rfl)) ?_; (with_reducible refine (value_Right.calls a1_0 a1_1 a1_2 true _ A3.out).mono ?_); rintro e w20 ⟨rfl, hb⟩; refine ⟨_, rfl, ?_⟩; have n0_ := Aside0.mk (blk_below (g := gb141) (o := .cells #[.int .i64 a1_0, .int .i64 a1_1, .string a1_2] 23 (0, 0)) (by (with_reducible repeat (first | refine blk_drewN ?_ _ | refine blk_drew ?_ | refine blk_alloc ?_ _)); exact BK141.out) hb); have n1_ := Aside0.mk (below_step (by repeat (first | (with_reducible first | exact HB.out | apply below_alloc | apply pw_below_drewN | apply below_drew1 | refine below_set ?_ GE141.out) | exact HB.out)) hb); clear BK141; clear HB; have BK141 := n0_; have HB := n1_; clear n0_ n1_; (try clear hb); (try clear hb2); (try clear hk); (try clear hi); have hcz21_0 : w20.cell? ⟨gb141, 0, none⟩ = some (.int .i64 a1_0) := (blk_cell BK141.out 0).trans rfl; have hcz21_1 : w20.cell? ⟨gb141, 1, none⟩ = some (.int .i64 a1_1) := (blk_cell BK141.out 1).trans rfl; have hcz21_2 : w20.cell? ⟨gb141, 2, none⟩ = some (.string a1_2) := (blk_cell BK141.out 2).trans rfl; have hfz21_0 := blk_frozen BK141.out 0; have hfz21_1 := blk_frozen BK141.out 1; have hfz21_2 := blk_frozen BK141.out 2) | ((with_reducible refine gate_callee (f := 33) rfl ?_); refine goesL_ (some 15) rfl rfl Try.func33 (by kernel_rfl) rfl #[.slice A0 l0.length c0, .int .u64 (IntKind.u64.wrap (a1_0))] rfl (by (try simp only [List.map_toArray, List.map_cons, List.map_nil]); first | done | rfl | (simp only [List.length_drop, List.length_take]; rfl)) ?_; (with_reducible refine (wire_Put.calls _ _ l0 (IntKind.u64.wrap (a1_0)) t146 _ ?side1 ?side2 A5.out).mono ?_); (case side1 => repeat (first | exact (Kd.C_below HR0.out HB.out) | (with_reducible refine Kd.C_alloc ?_ _) | (with_reducible refine Kd.C_drewN ?_ _) | (with_reducible refine Kd.C_drew ?_))); (case side2 => exact HC0.out); rintro e w22 ⟨v147, rfl, ho0, hb⟩; refine ⟨_, rfl, ?_⟩; have n0_ := Aside0.mk (Kd.R_lower ho0 (below_size (by repeat (first | (with_reducible first | exact HB.out | apply below_alloc | apply pw_below_drewN | apply below_drew1 | refine below_set ?_ GE141.out) | exact HB.out)))); have n1_ := Aside0.mk (blk_below (g := gb141) (o := .cells #[.int .i64 a1_0, .int .i64 a1_1, .string a1_2] 23 (0, 0)) (by (with_reducible repeat (first | refine blk_drewN ?_ _ | refine blk_drew ?_ | refine blk_alloc ?_ _)); exact BK141.out) hb); have n2_ := Aside0.mk (below_step (by repeat (first | (with_reducible first | exact HB.out | apply below_alloc | apply pw_below_drewN | apply below_drew1 | refine below_set ?_ GE141.out) | exact HB.out)) hb); clear BK141; clear HB; have HO148 := n0_; have BK141 := n1_; have HB := n2_; clear n0_ n1_ n2_; (try clear hb); (try clear hb2); (try clear hk); (try clear hi); (try clear ho0); have hcz23_0 : w22.cell? ⟨gb141, 0, none⟩ = some (.int .i64 a1_0) := (blk_cell BK141.out 0).trans rfl; have hcz23_1 : w22.cell? ⟨gb141, 1, none⟩ = some (.int .i64 a1_1) := (blk_cell BK141.out 1).trans rfl; have hcz23_2 : w22.cell? ⟨gb141, 2, none⟩ = some (.string a1_2) := (blk_cell BK141.out 2).trans rfl; have hfz23_0 := blk_frozen BK141.out 0; have hfz23_1 := blk_frozen BK141.out 1; have hfz23_2 := blk_frozen BK141.out 2; obtain ⟨Ao24, co24, eo24⟩ := Kd.R_slice HO148.out; subst eo24) | ((with_reducible refine gate_callee (f := 34) rfl ?_); refine goesL_ (some 29) rfl rfl Try.func34 (by kernel_rfl) rfl #[.slice Ao24 t146.length co24, .string a1_2] rfl (by (try simp only [List.map_toArray, List.map_cons, List.map_nil]); first | done | rfl | (simp only [List.length_drop, List.length_take]; rfl)) ?_; (with_reducible refine (wire_PutText.calls _ _ t146 a1_2 t152 _ ?side1 ?side2 A17.out).mono ?_); (case side1 => repeat (first | exact (Kd.R_reads' HO148.out).2.2 | (with_reducible refine Kd.C_alloc ?_ _) | (with_reducible refine Kd.C_drewN ?_ _) | (with_reducible refine Kd.C_drew ?_))); (case side2 => exact (Kd.R_reads' HO148.out).2.1); rintro e w25 ⟨v153, rfl, ho0, hb⟩; refine ⟨_, rfl, ?_⟩; have n0_ := Aside0.mk (Kd.R_elder' (by (with_reducible repeat (first | apply Kd.R_alloc | apply Kd.R_drewN | apply Kd.R_drew)); exact HO148.out) (Kd.R_base ho0) hb); have n1_ := Aside0.mk (Kd.R_lower (Kd.R_new' ho0 (Kd.R_lt (by (with_reducible repeat (first | apply Kd.R_alloc | apply Kd.R_drewN | apply Kd.R_drew)); exact HO148.out))) (below_size (by repeat (first | (with_reducible first | exact HB.out | apply below_alloc | apply pw_below_drewN | apply below_drew1 | refine below_set ?_ GE141.out) | exact HB.out)))); have n2_ := Aside0.mk (blk_below (g := gb141) (o := .cells #[.int .i64 a1_0, .int .i64 a1_1, .string a1_2] 23 (0, 0)) (by (with_reducible repeat (first | refine blk_drewN ?_ _ | refine blk_drew ?_ | refine blk_alloc ?_ _)); exact BK141.out) hb); have n3_ := Aside0.mk (below_step (by repeat (first | (with_reducible first | exact HB.out | apply below_alloc | apply pw_below_drewN | apply below_drew1 | refine below_set ?_ GE141.out) | exact HB.out)) hb); clear HO148; clear BK141; clear HB; have HO148 := n0_; have HO154 := n1_; have BK141 := n2_; have HB := n3_; clear n0_ n1_ n2_ n3_; (try clear hb); (try clear hb2); (try clear hk); (try clear hi); (try clear ho0)))
        go_ret
        exact ⟨_, by first | rfl | (simp [errW_none, errW_some] <;> rfl) | (simp [*, errW_none, errW_some] <;> rfl), by (with_reducible repeat (first | apply Kd.R_alloc | apply Kd.R_drewN | apply Kd.R_drew)); exact Kd.R_mono HO154.out (fun _ hk => trivial), by repeat (first | (with_reducible first | exact HB.out | apply below_alloc | apply pw_below_drewN | apply below_drew1 | refine below_set ?_ GE141.out) | exact HB.out)⟩
      · rw [if_neg c16] at H
        have c16b0 : (a1_0 == 2) = false := beq_eq_false_iff_ne.mpr c16
        have c16b1 : (a1_0 != 2) = true := bne_iff_ne.mpr c16
        replace H := Option.bind_eq_some_iff.mp H
        obtain ⟨t155, A260, H⟩ := H
        replace H : (some t155) = some r := H
        have A26 := Aside0.mk A260
        clear A260
        obtain rfl := Option.some.inj H
        go_enter Try.func32, Try.ntmps32
        go_wp2_with (first | ((with_reducible refine gate_dst (N := 3) rfl ?_); refine box_event ?hg (N := 3) ?hd (cs := #[.int .i64 a1_0, .int .i64 a1_1, .string a1_2]) (t := 23) ?hr ?_; (case hd => rfl); (case hg => rfl); (case hr => first | (go_simp; done) | (go_simp; rfl)); intro gb141 hg w27 hbox hb; have n0_ := Aside0.mk (below_step (by repeat (first | (with_reducible first | exact HB.out | apply below_alloc | apply pw_below_drewN | apply below_drew1) | exact HB.out)) hb); have n1_ := Aside0.mk (hbox); have n2_ := Aside0.mk ((by rw [hg]; exact (below_size (by repeat (first | (with_reducible first | exact HB.out | apply below_alloc | apply pw_below_drewN | apply below_drew1) | exact HB.out))) : w.heap.size ≤ gb141)); have n3_ := Aside0.mk ((by rw [hg]; exact (below_size (by repeat (first | (with_reducible first | exact HB.out | apply below_alloc | apply pw_below_drewN | apply below_drew1) | exact HB.out))) : w.heap.size ≤ gb141)); clear HB; have HB := n0_; have BK141 := n1_; have GW141 := n2_; have GE141 := n3_; clear n0_ n1_ n2_ n3_; clear hb hbox hg; have hcz28_0 : w27.cell? ⟨gb141, 0, none⟩ = some (.int .i64 a1_0) := (blk_cell BK141.out 0).trans rfl; have hcz28_1 : w27.cell? ⟨gb141, 1, none⟩ = some (.int .i64 a1_1) := (blk_cell BK141.out 1).trans rfl; have hcz28_2 : w27.cell? ⟨gb141, 2, none⟩ = some (.string a1_2) := (blk_cell BK141.out 2).trans rfl; have hfz28_0 := blk_frozen BK141.out 0; have hfz28_1 := blk_frozen BK141.out 1; have hfz28_2 := blk_frozen BK141.out 2) | ((with_reducible refine gate_callee (f := 18) rfl ?_); refine goesL_ (some 7) rfl rfl Try.func18 (by kernel_rfl) rfl #[.agg #[.int .i64 a1_0, .int .i64 a1_1, .string a1_2]] rfl (by (try simp only [List.map_toArray, List.map_cons, List.map_nil]); first | done | rfl | (simp only [List.length_drop, List.length_take]; rfl)) ?_; (with_reducible refine (value_Right.calls a1_0 a1_1 a1_2 true _ A3.out).mono ?_); rintro e w29 ⟨rfl, hb⟩; refine ⟨_, rfl, ?_⟩; have n0_ := Aside0.mk (blk_below (g := gb141) (o := .cells #[.int .i64 a1_0, .int .i64 a1_1, .string a1_2] 23 (0, 0)) (by (with_reducible repeat (first | refine blk_drewN ?_ _ | refine blk_drew ?_ | refine blk_alloc ?_ _)); exact BK141.out) hb); have n1_ := Aside0.mk (below_step (by repeat (first | (with_reducible first | exact HB.out | apply below_alloc | apply pw_below_drewN | apply below_drew1 | refine below_set ?_ GE141.out) | exact HB.out)) hb); clear BK141; clear HB; have BK141 := n0_; have HB := n1_; clear n0_ n1_; (try clear hb); (try clear hb2); (try clear hk); (try clear hi); have hcz30_0 : w29.cell? ⟨gb141, 0, none⟩ = some (.int .i64 a1_0) := (blk_cell BK141.out 0).trans rfl; have hcz30_1 : w29.cell? ⟨gb141, 1, none⟩ = some (.int .i64 a1_1) := (blk_cell BK141.out 1).trans rfl; have hcz30_2 : w29.cell? ⟨gb141, 2, none⟩ = some (.string a1_2) := (blk_cell BK141.out 2).trans rfl; have hfz30_0 := blk_frozen BK141.out 0; have hfz30_1 := blk_frozen BK141.out 1; have hfz30_2 := blk_frozen BK141.out 2) | ((with_reducible refine gate_callee (f := 33) rfl ?_); refine goesL_ (some 15) rfl rfl Try.func33 (by kernel_rfl) rfl #[.slice A0 l0.length c0, .int .u64 (IntKind.u64.wrap (a1_0))] rfl (by (try simp only [List.map_toArray, List.map_cons, List.map_nil]); first | done | rfl | (simp only [List.length_drop, List.length_take]; rfl)) ?_; (with_reducible refine (wire_Put.calls _ _ l0 (IntKind.u64.wrap (a1_0)) t146 _ ?side1 ?side2 A5.out).mono ?_); (case side1 => repeat (first | exact (Kd.C_below HR0.out HB.out) | (with_reducible refine Kd.C_alloc ?_ _) | (with_reducible refine Kd.C_drewN ?_ _) | (with_reducible refine Kd.C_drew ?_))); (case side2 => exact HC0.out); rintro e w31 ⟨v147, rfl, ho0, hb⟩; refine ⟨_, rfl, ?_⟩; have n0_ := Aside0.mk (Kd.R_lower ho0 (below_size (by repeat (first | (with_reducible first | exact HB.out | apply below_alloc | apply pw_below_drewN | apply below_drew1 | refine below_set ?_ GE141.out) | exact HB.out)))); have n1_ := Aside0.mk (blk_below (g := gb141) (o := .cells #[.int .i64 a1_0, .int .i64 a1_1, .string a1_2] 23 (0, 0)) (by (with_reducible repeat (first | refine blk_drewN ?_ _ | refine blk_drew ?_ | refine blk_alloc ?_ _)); exact BK141.out) hb); have n2_ := Aside0.mk (below_step (by repeat (first | (with_reducible first | exact HB.out | apply below_alloc | apply pw_below_drewN | apply below_drew1 | refine below_set ?_ GE141.out) | exact HB.out)) hb); clear BK141; clear HB; have HO148 := n0_; have BK141 := n1_; have HB := n2_; clear n0_ n1_ n2_; (try clear hb); (try clear hb2); (try clear hk); (try clear hi); (try clear ho0); have hcz32_0 : w31.cell? ⟨gb141, 0, none⟩ = some (.int .i64 a1_0) := (blk_cell BK141.out 0).trans rfl; have hcz32_1 : w31.cell? ⟨gb141, 1, none⟩ = some (.int .i64 a1_1) := (blk_cell BK141.out 1).trans rfl; have hcz32_2 : w31.cell? ⟨gb141, 2, none⟩ = some (.string a1_2) := (blk_cell BK141.out 2).trans rfl; have hfz32_0 := blk_frozen BK141.out 0; have hfz32_1 := blk_frozen BK141.out 1; have hfz32_2 := blk_frozen BK141.out 2; obtain ⟨Ao33, co33, eo33⟩ := Kd.R_slice HO148.out; subst eo33) | ((with_reducible refine gate_callee (f := 33) rfl ?_); refine goesL_ (some 34) rfl rfl Try.func33 (by kernel_rfl) rfl #[.slice Ao33 t146.length co33, .int .u64 (IntKind.u64.wrap (a1_1))] rfl (by (try simp only [List.map_toArray, List.map_cons, List.map_nil]); first | done | rfl | (simp only [List.length_drop, List.length_take]; rfl)) ?_; (with_reducible refine (wire_Put.calls _ _ t146 (IntKind.u64.wrap (a1_1)) t155 _ ?side1 ?side2 A26.out).mono ?_); (case side1 => repeat (first | exact (Kd.R_reads' HO148.out).2.2 | (with_reducible refine Kd.C_alloc ?_ _) | (with_reducible refine Kd.C_drewN ?_ _) | (with_reducible refine Kd.C_drew ?_))); (case side2 => exact (Kd.R_reads' HO148.out).2.1); rintro e w34 ⟨v156, rfl, ho0, hb⟩; refine ⟨_, rfl, ?_⟩; have n0_ := Aside0.mk (Kd.R_elder' (by (with_reducible repeat (first | apply Kd.R_alloc | apply Kd.R_drewN | apply Kd.R_drew)); exact HO148.out) (Kd.R_base ho0) hb); have n1_ := Aside0.mk (Kd.R_lower (Kd.R_new' ho0 (Kd.R_lt (by (with_reducible repeat (first | apply Kd.R_alloc | apply Kd.R_drewN | apply Kd.R_drew)); exact HO148.out))) (below_size (by repeat (first | (with_reducible first | exact HB.out | apply below_alloc | apply pw_below_drewN | apply below_drew1 | refine below_set ?_ GE141.out) | exact HB.out)))); have n2_ := Aside0.mk (blk_below (g := gb141) (o := .cells #[.int .i64 a1_0, .int .i64 a1_1, .string a1_2] 23 (0, 0)) (by (with_reducible repeat (first | refine blk_drewN ?_ _ | refine blk_drew ?_ | refine blk_alloc ?_ _)); exact BK141.out) hb); have n3_ := Aside0.mk (below_step (by repeat (first | (with_reducible first | exact HB.out | apply below_alloc | apply pw_below_drewN | apply below_drew1 | refine below_set ?_ GE141.out) | exact HB.out)) hb); clear HO148; clear BK141; clear HB; have HO148 := n0_; have HO157 := n1_; have BK141 := n2_; have HB := n3_; clear n0_ n1_ n2_ n3_; (try clear hb); (try clear hb2); (try clear hk); (try clear hi); (try clear ho0)))
        go_ret
        exact ⟨_, by first | rfl | (simp [errW_none, errW_some] <;> rfl) | (simp [*, errW_none, errW_some] <;> rfl), by (with_reducible repeat (first | apply Kd.R_alloc | apply Kd.R_drewN | apply Kd.R_drew)); exact Kd.R_mono HO157.out (fun _ hk => trivial), by repeat (first | (with_reducible first | exact HB.out | apply below_alloc | apply pw_below_drewN | apply below_drew1 | refine below_set ?_ GE141.out) | exact HB.out)⟩
  · replace c4 := Bool.eq_false_iff.mpr c4
    subst c4
    have H1 : ((slices_Clone_byte_byte.f l0).bind fun t143 => (some t143)) = some r := by rw [if_neg (show ¬ (false = true) by decide)] at H; exact H
    clear H
    have H := H1
    clear H1
    replace H := Option.bind_eq_some_iff.mp H
    obtain ⟨t143, A350, H⟩ := H
    replace H : (some t143) = some r := H
    have A35 := Aside0.mk A350
    clear A350
    obtain rfl := Option.some.inj H
    go_enter Try.func32, Try.ntmps32
    go_wp2_with (first | ((with_reducible refine gate_dst (N := 3) rfl ?_); refine box_event ?hg (N := 3) ?hd (cs := #[.int .i64 a1_0, .int .i64 a1_1, .string a1_2]) (t := 23) ?hr ?_; (case hd => rfl); (case hg => rfl); (case hr => first | (go_simp; done) | (go_simp; rfl)); intro gb141 hg w36 hbox hb; have n0_ := Aside0.mk (below_step (by repeat (first | (with_reducible first | exact HB.out | apply below_alloc | apply pw_below_drewN | apply below_drew1) | exact HB.out)) hb); have n1_ := Aside0.mk (hbox); have n2_ := Aside0.mk ((by rw [hg]; exact (below_size (by repeat (first | (with_reducible first | exact HB.out | apply below_alloc | apply pw_below_drewN | apply below_drew1) | exact HB.out))) : w.heap.size ≤ gb141)); have n3_ := Aside0.mk ((by rw [hg]; exact (below_size (by repeat (first | (with_reducible first | exact HB.out | apply below_alloc | apply pw_below_drewN | apply below_drew1) | exact HB.out))) : w.heap.size ≤ gb141)); clear HB; have HB := n0_; have BK141 := n1_; have GW141 := n2_; have GE141 := n3_; clear n0_ n1_ n2_ n3_; clear hb hbox hg; have hcz37_0 : w36.cell? ⟨gb141, 0, none⟩ = some (.int .i64 a1_0) := (blk_cell BK141.out 0).trans rfl; have hcz37_1 : w36.cell? ⟨gb141, 1, none⟩ = some (.int .i64 a1_1) := (blk_cell BK141.out 1).trans rfl; have hcz37_2 : w36.cell? ⟨gb141, 2, none⟩ = some (.string a1_2) := (blk_cell BK141.out 2).trans rfl; have hfz37_0 := blk_frozen BK141.out 0; have hfz37_1 := blk_frozen BK141.out 1; have hfz37_2 := blk_frozen BK141.out 2) | ((with_reducible refine gate_callee (f := 18) rfl ?_); refine goesL_ (some 7) rfl rfl Try.func18 (by kernel_rfl) rfl #[.agg #[.int .i64 a1_0, .int .i64 a1_1, .string a1_2]] rfl (by (try simp only [List.map_toArray, List.map_cons, List.map_nil]); first | done | rfl | (simp only [List.length_drop, List.length_take]; rfl)) ?_; (with_reducible refine (value_Right.calls a1_0 a1_1 a1_2 false _ A3.out).mono ?_); rintro e w38 ⟨rfl, hb⟩; refine ⟨_, rfl, ?_⟩; have n0_ := Aside0.mk (blk_below (g := gb141) (o := .cells #[.int .i64 a1_0, .int .i64 a1_1, .string a1_2] 23 (0, 0)) (by (with_reducible repeat (first | refine blk_drewN ?_ _ | refine blk_drew ?_ | refine blk_alloc ?_ _)); exact BK141.out) hb); have n1_ := Aside0.mk (below_step (by repeat (first | (with_reducible first | exact HB.out | apply below_alloc | apply pw_below_drewN | apply below_drew1 | refine below_set ?_ GE141.out) | exact HB.out)) hb); clear BK141; clear HB; have BK141 := n0_; have HB := n1_; clear n0_ n1_; (try clear hb); (try clear hb2); (try clear hk); (try clear hi)) | ((with_reducible refine gate_callee (f := 31) rfl ?_); refine goesL_ (some 10) rfl rfl Try.func31 (by kernel_rfl) rfl #[.slice A0 l0.length c0] rfl (by (try simp only [List.map_toArray, List.map_cons, List.map_nil]); first | done | rfl | (simp only [List.length_drop, List.length_take]; rfl)) ?_; (with_reducible refine (slices_Clone_byte_byte.calls _ _ l0 t143 _ ?side1 ?side2 A35.out).mono ?_); (case side1 => repeat (first | exact (Kd.C_below HR0.out HB.out) | (with_reducible refine Kd.C_alloc ?_ _) | (with_reducible refine Kd.C_drewN ?_ _) | (with_reducible refine Kd.C_drew ?_))); (case side2 => exact HC0.out); rintro e w39 ⟨v144, rfl, ho0, hb⟩; refine ⟨_, rfl, ?_⟩; have n0_ := Aside0.mk (Kd.R_lower ho0 (below_size (by repeat (first | (with_reducible first | exact HB.out | apply below_alloc | apply pw_below_drewN | apply below_drew1 | refine below_set ?_ GE141.out) | exact HB.out)))); have n1_ := Aside0.mk (blk_below (g := gb141) (o := .cells #[.int .i64 a1_0, .int .i64 a1_1, .string a1_2] 23 (0, 0)) (by (with_reducible repeat (first | refine blk_drewN ?_ _ | refine blk_drew ?_ | refine blk_alloc ?_ _)); exact BK141.out) hb); have n2_ := Aside0.mk (below_step (by repeat (first | (with_reducible first | exact HB.out | apply below_alloc | apply pw_below_drewN | apply below_drew1 | refine below_set ?_ GE141.out) | exact HB.out)) hb); clear BK141; clear HB; have HO145 := n0_; have BK141 := n1_; have HB := n2_; clear n0_ n1_ n2_; (try clear hb); (try clear hb2); (try clear hk); (try clear hi); (try clear ho0)))
    go_ret
    exact ⟨_, by first | rfl | (simp [errW_none, errW_some] <;> rfl) | (simp [*, errW_none, errW_some] <;> rfl), by (with_reducible repeat (first | apply Kd.R_alloc | apply Kd.R_drewN | apply Kd.R_drew)); exact HO145.out, by repeat (first | (with_reducible first | exact HB.out | apply below_alloc | apply pw_below_drewN | apply below_drew1 | refine below_set ?_ GE141.out) | exact HB.out)⟩

end Go.Proofs.Ytojefdnngkcaoaa.G
end

section
-- Written by a program of this session (wip/tools/myprint.py), over the kit's print.
namespace Go.Proofs.Ytojefdnngkcaoaa.G
open Go.RowKit Go.Proofs.YtojefdnngkcaoaaW.PrintWords Go.Proofs.YtojefdnngkcaoaaW.PrintLast Go.Proofs.YtojefdnngkcaoaaW.PrintMore
attribute [local go_sem] max2_int min2_int max_two min_two max_three min_three max_four min_four   -- for this text's walks alone
set_option linter.unusedVariables false
set_option linter.unusedSimpArgs false

/-! ### pred_Put: function 16 -/
def pred_Put.f (k : Nat) (l0 : List Int) (a1_0 : ByteArray) (a1_1 : Int) (a1_2 : Int) (a1_3 : Int) (a1_4 : ByteArray) : Option (List Int) := (pred_Right.f k a1_0 a1_1 a1_2 a1_3 a1_4).bind fun t159 => (if t159 = true then ((wire_PutText.f l0 a1_0).bind fun t160 => ((wire_Put.f t160 (IntKind.u64.wrap (a1_1))).bind fun t163 => ((value_Put.f t163 a1_2 a1_3 a1_4).bind fun t166 => (some t166)))) else ((slices_Clone_byte_byte.f l0).bind fun t169 => (some t169)))
theorem pred_Put.mono : ∀ a0 a1 a2 a3 a4 a5 k, LeO (pred_Put.f k a0 a1 a2 a3 a4 a5) (pred_Put.f (k + 1) a0 a1 a2 a3 a4 a5) := by
  intro a0 a1 a2 a3 a4 a5 k
  unfold pred_Put.f
  repeat' first
      | (with_reducible exact pred_Right.mono _ _ _ _ _ _)
      | (with_reducible exact LeO.refl _)
      | (with_reducible exact LeO.none _)
      | (with_reducible refine LeO.ite ?_ ?_)
      | (with_reducible refine LeO.bind ?_ (fun _ => ?_))
      | exact pred_Right.mono _ _ _ _ _ _
      | exact LeO.none _
      | refine LeO.ite ?_ ?_
      | refine LeO.bind ?_ (fun _ => ?_)
def pred_Put.T3 : Bool × List (List Nat × List Nat) := (true, [([], []), ([], []), ([1], [1]), ([0, 2], [0, 2]), ([], []), ([4], [4]), ([5], [5]), ([3, 6, 3], [3, 6]), ([], []), ([8], [8]), ([7, 9, 7], [7, 9]), ([10, 10, 0, 1, 2, 3, 4, 5, 6, 7, 8, 9, 10], [10])])
def pred_Put.B3 : List Nat := [0, 0, 2, 7, 0, 16, 48, 127, 0, 256, 1023, 2047]
theorem pred_Put.tab3 : rtab .any (opsOf Try.f16 3) = pred_Put.T3 := by kernel_rfl
theorem pred_Put.bits3 : waitsOk pred_Put.T3.2 pred_Put.B3 = true := by kernel_rfl
set_option maxHeartbeats 8000000 in
set_option maxRecDepth 100000 in
theorem pred_Put.calls (k : Nat) (A0 : Option Addr) (c0 : Nat) (l0 : List Int) (a1_0 : ByteArray) (a1_1 : Int) (a1_2 : Int) (a1_3 : Int) (a1_4 : ByteArray) (r : List Int) (w : World) (hr0 : Kd.C (Kd.int .u8) w A0 l0.length l0) (hc0 : l0.length ≤ c0) (h : pred_Put.f k l0 a1_0 a1_1 a1_2 a1_3 a1_4 = some r) :
    Calls Try.prog 16 #[.slice A0 l0.length c0, .agg #[.string a1_0, .int .i64 a1_1, .int .i64 a1_2, .int .i64 a1_3, .string a1_4]] w fun e w' => ∃ v0_ : Value, e = .returned (v0_) ∧ Kd.R (Kd.int .u8) 5 w' w.heap.size (fun _ => True) v0_ r ∧ Below w.heap.size w w' := by
  have hu25 := Try.underlying25
  have hu23 := Try.underlying23
  have HR0 := Aside0.mk hr0
  have HC0 := Aside0.mk hc0
  clear hr0 hc0
  have HB := Aside0.mk (Below.refl w.heap.size w)
  have H : ((pred_Right.f k a1_0 a1_1 a1_2 a1_3 a1_4).bind fun t159 => (if t159 = true then ((wire_PutText.f l0 a1_0).bind fun t160 => ((wire_Put.f t160 (IntKind.u64.wrap (a1_1))).bind fun t163 => ((value_Put.f t163 a1_2 a1_3 a1_4).bind fun t166 => (some t166)))) else ((slices_Clone_byte_byte.f l0).bind fun t169 => (some t169)))) = some r := h
  clear h
  replace H := Option.bind_eq_some_iff.mp H
  obtain ⟨t159, A30, H⟩ := H
  replace H : (if t159 = true then ((wire_PutText.f l0 a1_0).bind fun t160 => ((wire_Put.f t160 (IntKind.u64.wrap (a1_1))).bind fun t163 => ((value_Put.f t163 a1_2 a1_3 a1_4).bind fun t166 => (some t166)))) else ((slices_Clone_byte_byte.f l0).bind fun t169 => (some t169))) = some r := H
  have A3 := Aside0.mk A30
  clear A30
  by_cases c4 : t159 = true
  · subst c4
    have H1 : ((wire_PutText.f l0 a1_0).bind fun t160 => ((wire_Put.f t160 (IntKind.u64.wrap (a1_1))).bind fun t163 => ((value_Put.f t163 a1_2 a1_3 a1_4).bind fun t166 => (some t166)))) = some r := by rw [if_pos rfl] at H; exact H
    clear H
    have H := H1
    clear H1
    replace H := Option.bind_eq_some_iff.mp H
    obtain ⟨t160, A50, H⟩ := H
    replace H : ((wire_Put.f t160 (IntKind.u64.wrap (a1_1))).bind fun t163 => ((value_Put.f t163 a1_2 a1_3 a1_4).bind fun t166 => (some t166))) = some r := H
    have A5 := Aside0.mk A50
    clear A50
    replace H := Option.bind_eq_some_iff.mp H
    obtain ⟨t163, A60, H⟩ := H
    replace H : ((value_Put.f t163 a1_2 a1_3 a1_4).bind fun t166 => (some t166)) = some r := H
    have A6 := Aside0.mk A60
    clear A60
    replace H := Option.bind_eq_some_iff.mp H
    obtain ⟨t166, A70, H⟩ := H
    replace H : (some t166) = some r := H
    have A7 := Aside0.mk A70
    clear A70
    obtain rfl := Option.some.inj H
    go_enter Try.func16, Try.ntmps16
    try go_wp2_with (first | ((with_reducible refine gate_dst (N := 3) rfl ?_); refine box_event ?hg (N := 3) ?hd (cs := #[.string a1_0, .int .i64 a1_1, .int .i64 a1_2, .int .i64 a1_3, .string a1_4]) (t := 25) ?hr ?_; (case hd => rfl); (case hg => rfl); (case hr => first | (go_simp; done) | (go_simp; rfl)); intro gb158 hg w8 hbox hb; have n0_ := Aside0.mk (below_step (by repeat (first | (with_reducible first | exact HB.out | apply below_alloc | apply pw_below_drewN | apply below_drew1) | exact HB.out)) hb); have n1_ := Aside0.mk (hbox); have n2_ := Aside0.mk ((by rw [hg]; exact (below_size (by repeat (first | (with_reducible first | exact HB.out | apply below_alloc | apply pw_below_drewN | apply below_drew1) | exact HB.out))) : w.heap.size ≤ gb158)); have n3_ := Aside0.mk ((by rw [hg]; exact (below_size (by repeat (first | (with_reducible first | exact HB.out | apply below_alloc | apply pw_below_drewN | apply below_drew1) | exact HB.out))) : w.heap.size ≤ gb158)); clear HB; have HB := n0_; have BK158 := n1_; have GW158 := n2_; have GE158 := n3_; clear n0_ n1_ n2_ n3_; clear hb hbox hg; have hcz9_0 : w8.cell? ⟨gb158, 0, none⟩ = some (.string a1_0) := (blk_cell BK158.out 0).trans rfl; have hcz9_1 : w8.cell? ⟨gb158, 1, none⟩ = some (.int .i64 a1_1) := (blk_cell BK158.out 1).trans rfl; have hcz9_2 : w8.cell? ⟨gb158, 2, none⟩ = some (.int .i64 a1_2) := (blk_cell BK158.out 2).trans rfl; have hcz9_3 : w8.cell? ⟨gb158, 3, none⟩ = some (.int .i64 a1_3) := (blk_cell BK158.out 3).trans rfl; have hcz9_4 : w8.cell? ⟨gb158, 4, none⟩ = some (.string a1_4) := (blk_cell BK158.out 4).trans rfl; have hfz9_0 := blk_frozen BK158.out 0; have hfz9_1 := blk_frozen BK158.out 1; have hfz9_2 := blk_frozen BK158.out 2; have hfz9_3 := blk_frozen BK158.out 3; have hfz9_4 := blk_frozen BK158.out 4) | ((with_reducible refine gate_callee (f := 10) rfl ?_); refine goesL_ (some 6) rfl rfl Try.func10 (by kernel_rfl) rfl #[.agg #[.string a1_0, .int .i64 a1_1, .int .i64 a1_2, .int .i64 a1_3, .string a1_4]] rfl (by (try simp only [List.map_toArray, List.map_cons, List.map_nil]); first | done | rfl | (simp only [List.length_drop, List.length_take]; rfl)) ?_; (with_reducible refine (pred_Right.calls k a1_0 a1_1 a1_2 a1_3 a1_4 true _ A3.out).mono ?_); rintro e w10 ⟨rfl, hb⟩; refine ⟨_, rfl, ?_⟩; have n0_ := Aside0.mk (blk_below (g := gb158) (o := .cells #[.string a1_0, .int .i64 a1_1, .int .i64 a1_2, .int .i64 a1_3, .string a1_4] 25 (0, 0)) (by (with_reducible repeat (first | refine blk_drewN ?_ _ | refine blk_drew ?_ | refine blk_alloc ?_ _)); exact BK158.out) hb); have n1_ := Aside0.mk (below_step (by repeat (first | (with_reducible first | exact HB.out | apply below_alloc | apply pw_below_drewN | apply below_drew1 | refine below_set ?_ GE158.out) | exact HB.out)) hb); clear BK158; clear HB; have BK158 := n0_; have HB := n1_; clear n0_ n1_; (try clear hb); (try clear hb2); (try clear hk); (try clear hi)))
    have n0_ := Aside0.mk (blk_drew BK158.out)
    have n1_ := Aside0.mk (below_drew1 HB.out)
    clear BK158
    clear HB
    have BK158 := n0_
    have HB := n1_
    clear n0_ n1_
    refine start_ (n := 12) (S := fun w' => w'.cell? ⟨gb158, 0, none⟩ = some (.string a1_0) ∧ w'.cell? ⟨gb158, 1, none⟩ = some (.int .i64 a1_1) ∧ w'.cell? ⟨gb158, 2, none⟩ = some (.int .i64 a1_2) ∧ w'.cell? ⟨gb158, 3, none⟩ = some (.int .i64 a1_3) ∧ w'.cell? ⟨gb158, 4, none⟩ = some (.string a1_4)) (ds := []) #[false, false, false, false, false, false, false, false, false, false, false, false] (by kernel_rfl) rfl rfl ⟨(blk_cell BK158.out 0).trans rfl, (blk_cell BK158.out 1).trans rfl, (blk_cell BK158.out 2).trans rfl, (blk_cell BK158.out 3).trans rfl, (blk_cell BK158.out 4).trans rfl⟩ (fun hHeld => ?_); refine with_tabW pred_Put.tab3 pred_Put.bits3 (fun HT_ HW_ => ?_)
    generalize w10.drew = w11 at BK158 HB hHeld ⊢
    refine pure_ (i := 0) (N := some 10) (v := ?_) (a' := ?_) #[true, false, false, false, false, false, false, false, false, false, false, false] rfl rfl (any_of HT_.out (by kernel_rfl)) (fun _ _ _ h => h) (Or.inl ⟨by rfl, ?_⟩) ?_ ?_
    rotate_left
    · intro w'
      go_simp
      with_reducible rfl
    rotate_left
    · simp only [Act.put, List.setIfInBounds_toArray, List.set_cons_zero, List.set_cons_succ, i64_w, i32_w]
      rfl
    refine pure_ (i := 1) (N := some 11) (v := ?_) (a' := ?_) #[true, true, false, false, false, false, false, false, false, false, false, false] rfl rfl (any_of HT_.out (by kernel_rfl)) (fun _ _ _ h => h) (Or.inl ⟨by rfl, ?_⟩) ?_ ?_
    rotate_left
    · intro w'
      go_simp
      with_reducible rfl
    rotate_left
    · simp only [Act.put, List.setIfInBounds_toArray, List.set_cons_zero, List.set_cons_succ, i64_w, i32_w]
      rfl
    refine pure_ (i := 4) (N := some 14) (v := ?_) (a' := ?_) #[true, true, false, false, true, false, false, false, false, false, false, false] rfl rfl (any_of HT_.out (by kernel_rfl)) (fun _ _ _ h => h) (Or.inl ⟨by rfl, ?_⟩) ?_ ?_
    rotate_left
    · intro w'
      go_simp
      with_reducible rfl
    rotate_left
    · simp only [Act.put, List.setIfInBounds_toArray, List.set_cons_zero, List.set_cons_succ, i64_w, i32_w]
      rfl
    refine pure_ (i := 8) (N := some 18) (v := ?_) (a' := ?_) #[true, true, false, false, true, false, false, false, true, false, false, false] rfl rfl (any_of HT_.out (by kernel_rfl)) (fun _ _ _ h => h) (Or.inl ⟨by rfl, ?_⟩) ?_ ?_
    rotate_left
    · intro w'
      go_simp
      with_reducible rfl
    rotate_left
    · simp only [Act.put, List.setIfInBounds_toArray, List.set_cons_zero, List.set_cons_succ, i64_w, i32_w]
      rfl
    refine take_ (i := 2) (N := some 12) (v := ?_) (a' := ?_) #[true, true, true, false, true, false, false, false, true, false, false, false] rfl rfl (take_ofW HT_.out HW_.out (by kernel_rfl)) (fun _ _ _ h => h) (Or.inl ⟨by rfl, ?_⟩) hHeld ?_ ?_
    rotate_left
    · rintro w' ⟨s0, s1, s2, s3, s4⟩
      go_simp
      with_reducible rfl
    rotate_left
    · simp only [Act.put, List.setIfInBounds_toArray, List.set_cons_zero, List.set_cons_succ, i64_w, i32_w]
      rfl
    refine take_ (i := 5) (N := some 15) (v := ?_) (a' := ?_) #[true, true, true, false, true, true, false, false, true, false, false, false] rfl rfl (take_ofW HT_.out HW_.out (by kernel_rfl)) (fun _ _ _ h => h) (Or.inl ⟨by rfl, ?_⟩) hHeld ?_ ?_
    rotate_left
    · rintro w' ⟨s0, s1, s2, s3, s4⟩
      go_simp
      with_reducible rfl
    rotate_left
    · simp only [Act.put, List.setIfInBounds_toArray, List.set_cons_zero, List.set_cons_succ, i64_w, i32_w]
      rfl
    refine pure_ (i := 6) (N := some 16) (v := ?_) (a' := ?_) #[true, true, true, false, true, true, true, false, true, false, false, false] rfl rfl (any_of HT_.out (by kernel_rfl)) (fun _ _ _ h => h) (Or.inl ⟨by rfl, ?_⟩) ?_ ?_
    rotate_left
    · intro w'
      go_simp
      with_reducible rfl
    rotate_left
    · simp only [Act.put, List.setIfInBounds_toArray, List.set_cons_zero, List.set_cons_succ, i64_w, i32_w]
      rfl
    refine take_ (i := 9) (N := some 19) (v := ?_) (a' := ?_) #[true, true, true, false, true, true, true, false, true, true, false, false] rfl rfl (take_ofW HT_.out HW_.out (by kernel_rfl)) (fun _ _ _ h => h) (Or.inl ⟨by rfl, ?_⟩) hHeld ?_ ?_
    rotate_left
    · rintro w' ⟨s0, s1, s2, s3, s4⟩
      go_simp
      with_reducible rfl
    rotate_left
    · simp only [Act.put, List.setIfInBounds_toArray, List.set_cons_zero, List.set_cons_succ, i64_w, i32_w]
      rfl
    refine one_ (i := 3) (N := some 13) #[true, true, true, true, true, true, true, false, true, true, false, false] rfl rfl (one_of HT_.out (by kernel_rfl)) (by decide) (fun K hK => ?_)
    refine goes_ Try.func34 (by kernel_rfl) rfl #[.slice A0 l0.length c0, .string a1_0] (by rfl) rfl rfl (by (try simp only [List.map_toArray, List.map_cons, List.map_nil]); first | done | rfl | (simp only [List.length_drop, List.length_take]; rfl)) ?_
    with_reducible refine (wire_PutText.calls _ _ l0 a1_0 t160 _ ?side1 ?side2 A5.out).mono ?_
    (case side1 => repeat (first | exact (Kd.C_below HR0.out HB.out) | (with_reducible refine Kd.C_alloc ?_ _) | (with_reducible refine Kd.C_drewN ?_ _) | (with_reducible refine Kd.C_drew ?_)))
    (case side2 => exact HC0.out)
    rintro e w12 ⟨v161, rfl, ho0, hb⟩
    refine ⟨_, rfl, ?_⟩
    have n0_ := Aside0.mk (Kd.R_lower ho0 (below_size (by repeat (first | (with_reducible first | exact HB.out | apply below_alloc | apply pw_below_drewN | apply below_drew1 | refine below_set ?_ GE158.out) | exact HB.out))))
    have n1_ := Aside0.mk (blk_below (g := gb158) (o := .cells #[.string a1_0, .int .i64 a1_1, .int .i64 a1_2, .int .i64 a1_3, .string a1_4] 25 (0, 0)) (by (with_reducible repeat (first | refine blk_drewN ?_ _ | refine blk_drew ?_ | refine blk_alloc ?_ _)); exact BK158.out) hb)
    have n2_ := Aside0.mk (below_step (by repeat (first | (with_reducible first | exact HB.out | apply below_alloc | apply pw_below_drewN | apply below_drew1 | refine below_set ?_ GE158.out) | exact HB.out)) hb)
    clear BK158
    clear HB
    have HO162 := n0_
    have BK158 := n1_
    have HB := n2_
    clear n0_ n1_ n2_
    (try clear hb)
    (try clear hb2)
    (try clear hk)
    (try clear hi)
    (try clear ho0)
    obtain ⟨Ao13, co13, eo13⟩ := Kd.R_slice HO162.out
    (first | subst eo13 | (injection eo13 with f1_ f2_ f3_; have f4_ := f1_.symm; have f5_ := f3_.symm; clear f1_ f2_ f3_; subst f4_; subst f5_))
    refine hK.out _ _ ⟨(blk_cell BK158.out 0).trans rfl, (blk_cell BK158.out 1).trans rfl, (blk_cell BK158.out 2).trans rfl, (blk_cell BK158.out 3).trans rfl, (blk_cell BK158.out 4).trans rfl⟩ (fun hHeld => ?_)
    clear hK K
    refine norm_ (a' := ?_) ?_ ?_
    rotate_left
    · show Act.put _ (some 13) _ = _
      simp only [Act.put, List.setIfInBounds_toArray, List.set_cons_zero, List.set_cons_succ, i64_w, i32_w]
      rfl
    refine one_ (i := 7) (N := some 17) #[true, true, true, true, true, true, true, true, true, true, false, false] rfl rfl (one_of HT_.out (by kernel_rfl)) (by decide) (fun K hK => ?_)
    refine goes_ Try.func33 (by kernel_rfl) rfl #[.slice Ao13 t160.length co13, .int .u64 (IntKind.u64.wrap (a1_1))] (by rfl) rfl rfl (by (try simp only [List.map_toArray, List.map_cons, List.map_nil]); first | done | rfl | (simp only [List.length_drop, List.length_take]; rfl)) ?_
    with_reducible refine (wire_Put.calls _ _ t160 (IntKind.u64.wrap (a1_1)) t163 _ ?side1 ?side2 A6.out).mono ?_
    (case side1 => repeat (first | exact (Kd.R_reads' HO162.out).2.2 | (with_reducible refine Kd.C_alloc ?_ _) | (with_reducible refine Kd.C_drewN ?_ _) | (with_reducible refine Kd.C_drew ?_)))
    (case side2 => exact (Kd.R_reads' HO162.out).2.1)
    rintro e w14 ⟨v164, rfl, ho0, hb⟩
    refine ⟨_, rfl, ?_⟩
    have n0_ := Aside0.mk (Kd.R_elder' (by (with_reducible repeat (first | apply Kd.R_alloc | apply Kd.R_drewN | apply Kd.R_drew)); exact HO162.out) (Kd.R_base ho0) hb)
    have n1_ := Aside0.mk (Kd.R_lower (Kd.R_new' ho0 (Kd.R_lt (by (with_reducible repeat (first | apply Kd.R_alloc | apply Kd.R_drewN | apply Kd.R_drew)); exact HO162.out))) (below_size (by repeat (first | (with_reducible first | exact HB.out | apply below_alloc | apply pw_below_drewN | apply below_drew1 | refine below_set ?_ GE158.out) | exact HB.out))))
    have n2_ := Aside0.mk (blk_below (g := gb158) (o := .cells #[.string a1_0, .int .i64 a1_1, .int .i64 a1_2, .int .i64 a1_3, .string a1_4] 25 (0, 0)) (by (with_reducible repeat (first | refine blk_drewN ?_ _ | refine blk_drew ?_ | refine blk_alloc ?_ _)); exact BK158.out) hb)
    have n3_ := Aside0.mk (below_step (by repeat (first | (with_reducible first | exact HB.out | apply below_alloc | apply pw_below_drewN | apply below_drew1 | refine below_set ?_ GE158.out) | exact HB.out)) hb)
    clear HO162
    clear BK158
    clear HB
    have HO162 := n0_
    have HO165 := n1_
    have BK158 := n2_
    have HB := n3_
    clear n0_ n1_ n2_ n3_
    (try clear hb)
    (try clear hb2)
    (try clear hk)
    (try clear hi)
    (try clear ho0)
    obtain ⟨Ao15, co15, eo15⟩ := Kd.R_slice HO165.out
    (first | subst eo15 | (injection eo15 with f1_ f2_ f3_; have f4_ := f1_.symm; have f5_ := f3_.symm; clear f1_ f2_ f3_; subst f4_; subst f5_))
    refine hK.out _ _ ⟨(blk_cell BK158.out 0).trans rfl, (blk_cell BK158.out 1).trans rfl, (blk_cell BK158.out 2).trans rfl, (blk_cell BK158.out 3).trans rfl, (blk_cell BK158.out 4).trans rfl⟩ (fun hHeld => ?_)
    clear hK K
    refine norm_ (a' := ?_) ?_ ?_
    rotate_left
    · show Act.put _ (some 17) _ = _
      simp only [Act.put, List.setIfInBounds_toArray, List.set_cons_zero, List.set_cons_succ, i64_w, i32_w]
      rfl
    refine one_ (i := 10) (N := some 20) #[true, true, true, true, true, true, true, true, true, true, true, false] rfl rfl (one_of HT_.out (by kernel_rfl)) (by decide) (fun K hK => ?_)
    refine goes_ Try.func32 (by kernel_rfl) rfl #[.slice Ao15 t163.length co15, .agg #[.int .i64 a1_2, .int .i64 a1_3, .string a1_4]] (by rfl) rfl rfl (by (try simp only [List.map_toArray, List.map_cons, List.map_nil]); first | done | rfl | (simp only [List.length_drop, List.length_take]; rfl)) ?_
    with_reducible refine (value_Put.calls _ _ t163 a1_2 a1_3 a1_4 t166 _ ?side1 ?side2 A7.out).mono ?_
    (case side1 => repeat (first | exact (Kd.R_reads' HO165.out).2.2 | (with_reducible refine Kd.C_alloc ?_ _) | (with_reducible refine Kd.C_drewN ?_ _) | (with_reducible refine Kd.C_drew ?_)))
    (case side2 => exact (Kd.R_reads' HO165.out).2.1)
    rintro e w16 ⟨v167, rfl, ho0, hb⟩
    refine ⟨_, rfl, ?_⟩
    have n0_ := Aside0.mk (Kd.R_elder' (by (with_reducible repeat (first | apply Kd.R_alloc | apply Kd.R_drewN | apply Kd.R_drew)); exact HO162.out) (Kd.R_base ho0) hb)
    have n1_ := Aside0.mk (Kd.R_elder' (by (with_reducible repeat (first | apply Kd.R_alloc | apply Kd.R_drewN | apply Kd.R_drew)); exact HO165.out) (Kd.R_base ho0) hb)
    have n2_ := Aside0.mk (Kd.R_lower (Kd.R_new' (Kd.R_new' ho0 (Kd.R_lt (by (with_reducible repeat (first | apply Kd.R_alloc | apply Kd.R_drewN | apply Kd.R_drew)); exact HO162.out))) (Kd.R_lt (by (with_reducible repeat (first | apply Kd.R_alloc | apply Kd.R_drewN | apply Kd.R_drew)); exact HO165.out))) (below_size (by repeat (first | (with_reducible first | exact HB.out | apply below_alloc | apply pw_below_drewN | apply below_drew1 | refine below_set ?_ GE158.out) | exact HB.out))))
    have n3_ := Aside0.mk (blk_below (g := gb158) (o := .cells #[.string a1_0, .int .i64 a1_1, .int .i64 a1_2, .int .i64 a1_3, .string a1_4] 25 (0, 0)) (by (with_reducible repeat (first | refine blk_drewN ?_ _ | refine blk_drew ?_ | refine blk_alloc ?_ _)); exact BK158.out) hb)
    have n4_ := Aside0.mk (below_step (by repeat (first | (with_reducible first | exact HB.out | apply below_alloc | apply pw_below_drewN | apply below_drew1 | refine below_set ?_ GE158.out) | exact HB.out)) hb)
    clear HO162
    clear HO165
    clear BK158
    clear HB
    have HO162 := n0_
    have HO165 := n1_
    have HO168 := n2_
    have BK158 := n3_
    have HB := n4_
    clear n0_ n1_ n2_ n3_ n4_
    (try clear hb)
    (try clear hb2)
    (try clear hk)
    (try clear hi)
    (try clear ho0)
    refine hK.out _ _ ⟨(blk_cell BK158.out 0).trans rfl, (blk_cell BK158.out 1).trans rfl, (blk_cell BK158.out 2).trans rfl, (blk_cell BK158.out 3).trans rfl, (blk_cell BK158.out 4).trans rfl⟩ (fun hHeld => ?_)
    clear hK K
    refine norm_ (a' := ?_) ?_ ?_
    rotate_left
    · show Act.put _ (some 20) _ = _
      simp only [Act.put, List.setIfInBounds_toArray, List.set_cons_zero, List.set_cons_succ, i64_w, i32_w]
      rfl
    refine pure_ (i := 11) (N := some 4) (v := ?_) (a' := ?_) #[true, true, true, true, true, true, true, true, true, true, true, true] rfl rfl (any_of HT_.out (by kernel_rfl)) (fun _ _ _ h => h) (Or.inl ⟨by rfl, ?_⟩) ?_ ?_
    rotate_left
    · intro w'
      go_simp
      with_reducible rfl
    rotate_left
    · simp only [Act.put, List.setIfInBounds_toArray, List.set_cons_zero, List.set_cons_succ, i64_w, i32_w]
      rfl
    refine done_ (done_of HT_.out (by kernel_rfl)) ?_
    try go_wp2
    go_ret
    exact ⟨_, by first | rfl | (simp [errW_none, errW_some] <;> rfl) | (simp [*, errW_none, errW_some] <;> rfl), by (with_reducible repeat (first | apply Kd.R_alloc | apply Kd.R_drewN | apply Kd.R_drew)); exact Kd.R_mono HO168.out (fun _ hk => trivial), by repeat (first | (with_reducible first | exact HB.out | apply below_alloc | apply pw_below_drewN | apply below_drew1 | refine below_set ?_ GE158.out) | exact HB.out)⟩
  · replace c4 := Bool.eq_false_iff.mpr c4
    subst c4
    have H1 : ((slices_Clone_byte_byte.f l0).bind fun t169 => (some t169)) = some r := by rw [if_neg (show ¬ (false = true) by decide)] at H; exact H
    clear H
    have H := H1
    clear H1
    replace H := Option.bind_eq_some_iff.mp H
    obtain ⟨t169, A170, H⟩ := H
    replace H : (some t169) = some r := H
    have A17 := Aside0.mk A170
    clear A170
    obtain rfl := Option.some.inj H
    go_enter Try.func16, Try.ntmps16
    go_wp2_with (first | ((with_reducible refine gate_dst (N := 3) rfl ?_); refine box_event ?hg (N := 3) ?hd (cs := #[.string a1_0, .int .i64 a1_1, .int .i64 a1_2, .int .i64 a1_3, .string a1_4]) (t := 25) ?hr ?_; (case hd => rfl); (case hg => rfl); (case hr => first | (go_simp; done) | (go_simp; rfl)); intro gb158 hg w18 hbox hb; have n0_ := Aside0.mk (below_step (by repeat (first | (with_reducible first | exact HB.out | apply below_alloc | apply pw_below_drewN | apply below_drew1) | exact HB.out)) hb); have n1_ := Aside0.mk (hbox); have n2_ := Aside0.mk ((by rw [hg]; exact (below_size (by repeat (first | (with_reducible first | exact HB.out | apply below_alloc | apply pw_below_drewN | apply below_drew1) | exact HB.out))) : w.heap.size ≤ gb158)); have n3_ := Aside0.mk ((by rw [hg]; exact (below_size (by repeat (first | (with_reducible first | exact HB.out | apply below_alloc | apply pw_below_drewN | apply below_drew1) | exact HB.out))) : w.heap.size ≤ gb158)); clear HB; have HB := n0_; have BK158 := n1_; have GW158 := n2_; have GE158 := n3_; clear n0_ n1_ n2_ n3_; clear hb hbox hg; have hcz19_0 : w18.cell? ⟨gb158, 0, none⟩ = some (.string a1_0) := (blk_cell BK158.out 0).trans rfl; have hcz19_1 : w18.cell? ⟨gb158, 1, none⟩ = some (.int .i64 a1_1) := (blk_cell BK158.out 1).trans rfl; have hcz19_2 : w18.cell? ⟨gb158, 2, none⟩ = some (.int .i64 a1_2) := (blk_cell BK158.out 2).trans rfl; have hcz19_3 : w18.cell? ⟨gb158, 3, none⟩ = some (.int .i64 a1_3) := (blk_cell BK158.out 3).trans rfl; have hcz19_4 : w18.cell? ⟨gb158, 4, none⟩ = some (.string a1_4) := (blk_cell BK158.out 4).trans rfl; have hfz19_0 := blk_frozen BK158.out 0; have hfz19_1 := blk_frozen BK158.out 1; have hfz19_2 := blk_frozen BK158.out 2; have hfz19_3 := blk_frozen BK158.out 3; have hfz19_4 := blk_frozen BK158.out 4) | ((with_reducible refine gate_callee (f := 10) rfl ?_); refine goesL_ (some 6) rfl rfl Try.func10 (by kernel_rfl) rfl #[.agg #[.string a1_0, .int .i64 a1_1, .int .i64 a1_2, .int .i64 a1_3, .string a1_4]] rfl (by (try simp only [List.map_toArray, List.map_cons, List.map_nil]); first | done | rfl | (simp only [List.length_drop, List.length_take]; rfl)) ?_; (with_reducible refine (pred_Right.calls k a1_0 a1_1 a1_2 a1_3 a1_4 false _ A3.out).mono ?_); rintro e w20 ⟨rfl, hb⟩; refine ⟨_, rfl, ?_⟩; have n0_ := Aside0.mk (blk_below (g := gb158) (o := .cells #[.string a1_0, .int .i64 a1_1, .int .i64 a1_2, .int .i64 a1_3, .string a1_4] 25 (0, 0)) (by (with_reducible repeat (first | refine blk_drewN ?_ _ | refine blk_drew ?_ | refine blk_alloc ?_ _)); exact BK158.out) hb); have n1_ := Aside0.mk (below_step (by repeat (first | (with_reducible first | exact HB.out | apply below_alloc | apply pw_below_drewN | apply below_drew1 | refine below_set ?_ GE158.out) | exact HB.out)) hb); clear BK158; clear HB; have BK158 := n0_; have HB := n1_; clear n0_ n1_; (try clear hb); (try clear hb2); (try clear hk); (try clear hi)) | ((with_reducible refine gate_callee (f := 31) rfl ?_); refine goesL_ (some 9) rfl rfl Try.func31 (by kernel_rfl) rfl #[.slice A0 l0.length c0] rfl (by (try simp only [List.map_toArray, List.map_cons, List.map_nil]); first | done | rfl | (simp only [List.length_drop, List.length_take]; rfl)) ?_; (with_reducible refine (slices_Clone_byte_byte.calls _ _ l0 t169 _ ?side1 ?side2 A17.out).mono ?_); (case side1 => repeat (first | exact (Kd.C_below HR0.out HB.out) | (with_reducible refine Kd.C_alloc ?_ _) | (with_reducible refine Kd.C_drewN ?_ _) | (with_reducible refine Kd.C_drew ?_))); (case side2 => exact HC0.out); rintro e w21 ⟨v170, rfl, ho0, hb⟩; refine ⟨_, rfl, ?_⟩; have n0_ := Aside0.mk (Kd.R_lower ho0 (below_size (by repeat (first | (with_reducible first | exact HB.out | apply below_alloc | apply pw_below_drewN | apply below_drew1 | refine below_set ?_ GE158.out) | exact HB.out)))); have n1_ := Aside0.mk (blk_below (g := gb158) (o := .cells #[.string a1_0, .int .i64 a1_1, .int .i64 a1_2, .int .i64 a1_3, .string a1_4] 25 (0, 0)) (by (with_reducible repeat (first | refine blk_drewN ?_ _ | refine blk_drew ?_ | refine blk_alloc ?_ _)); exact BK158.out) hb); have n2_ := Aside0.mk (below_step (by repeat (first | (with_reducible first | exact HB.out | apply below_alloc | apply pw_below_drewN | apply below_drew1 | refine below_set ?_ GE158.out) | exact HB.out)) hb); clear BK158; clear HB; have HO171 := n0_; have BK158 := n1_; have HB := n2_; clear n0_ n1_ n2_; (try clear hb); (try clear hb2); (try clear hk); (try clear hi); (try clear ho0)))
    go_ret
    exact ⟨_, by first | rfl | (simp [errW_none, errW_some] <;> rfl) | (simp [*, errW_none, errW_some] <;> rfl), by (with_reducible repeat (first | apply Kd.R_alloc | apply Kd.R_drewN | apply Kd.R_drew)); exact HO171.out, by repeat (first | (with_reducible first | exact HB.out | apply below_alloc | apply pw_below_drewN | apply below_drew1 | refine below_set ?_ GE158.out) | exact HB.out)⟩

end Go.Proofs.Ytojefdnngkcaoaa.G
end

section
set_option linter.unusedVariables false
set_option linter.unusedSimpArgs false
set_option autoImplicit false
namespace Go.Proofs.Ytojefdnngkcaoaa
open Go.RowKit Go.Proofs.YtojefdnngkcaoaaW.PrintWords Go.Proofs.YtojefdnngkcaoaaW.PrintLast Go.Proofs.YtojefdnngkcaoaaW.PrintMore

/-- a value that is read: its kind, its int, its text; and the scan behind it -/
structure Vl where
  k : Int
  i : Int
  t : ByteArray
deriving DecidableEq
def Vl.v (x : Vl) : Value := .agg #[.int .i64 x.k, .int .i64 x.i, .string x.t]
def Sc.val0k (k : Int) (s : Sc) : Vl × Sc :=
  if k = 1 then (⟨1, s.int.1, ByteArray.empty⟩, s.int.2)
  else if k = 2 then (⟨2, 0, strOfNums (s.text 64).1⟩, (s.text 64).2)
  else if k = 3 then (⟨3, (s.upto 1).1, ByteArray.empty⟩, (s.upto 1).2)
  else (⟨k, 0, ByteArray.empty⟩, s.fail 3)
def Sc.val0 (s : Sc) : Vl × Sc := Sc.val0k (s.upto 3).1 (s.upto 3).2
def Sc.val (s : Sc) : Vl × Sc := if s.val0.2.e = 0 then s.val0 else (⟨0, 0, ByteArray.empty⟩, s.val0.2)

theorem Scn.low {T : Nat} {S : Nat → Prop} {w : World} {g : Nat} {s : Sc} (h : Scn T S w g s) : Scn T (fun k => S k ∧ k < w.heap.size) w g s := by
  obtain ⟨h1, h2, h3, h4, h5, A, c, h6, h7, h8, h9⟩ := h
  refine ⟨h1, h2, fun h => h3 h.1, h4, h5, A, c, h6, h7, h8, fun h0 => ?_⟩
  obtain ⟨ad, rfl, hS, hc⟩ := h9 h0
  have := World.block_lt_of_cell? _ _ (hc 0 h0)
  rw [add_block] at this
  exact ⟨ad, rfl, ⟨hS, this⟩, hc⟩

/-- a scan, and a block of one's own behind all that lay -/
structure Own1 (T : Nat) (U : Nat) (S : Nat → Prop) (w wx : World) (g : Nat) (s : Sc) (c : Array Value) : Prop where
  heap : wx.heap[w.heap.size]? = some (.cells c U (0, 0))
  scn : Scn T S wx g s
  low : ∀ k, S k → k < w.heap.size
  lt : g < w.heap.size
  grown : w.grownBy wx (some g)
theorem Own1.start {T U : Nat} {S : Nat → Prop} {w : World} {g : Nat} {s : Sc} (h : Scn T S w g s) (c : Array Value) : Own1 T U (fun k => S k ∧ k < w.heap.size) w (w.alloc (.cells c U (0, 0))) g s c :=
  ⟨heap_alloc_new w _, h.low.below ((Below.refl _ _).alloc (Nat.le_refl _) _), fun _ h => h.2, h.lt, World.grownBy_alloc w _ _⟩
theorem Own1.store {T U : Nat} {S : Nat → Prop} {w wx : World} {g : Nat} {s : Sc} {c : Array Value} (h : Own1 T U S w wx g s c) (i : Nat) (v : Value) : Own1 T U S w (wx.setCell ⟨w.heap.size, i, none⟩ v) g s (c.setIfInBounds i v) := by
  have hl := h.lt
  refine ⟨heap_setCell_same _ _ _ _ _ _ h.heap, h.scn.keep fun k hk hs => heap_setCell_other _ _ _ _ ?_, h.low, h.lt, ?_⟩
  · rcases hs with rfl | hs
    · simp; omega
    · have := h.low k hs; simp; omega
  · refine ⟨h.grown.os, h.grown.tape, h.grown.output, by simpa using h.grown.size, fun k hk hne => ?_⟩
    rw [heap_setCell_other _ _ _ _ (by simp; omega)]
    exact h.grown.block k hk hne
theorem Own1.call {T U : Nat} {S : Nat → Prop} {w wx wy : World} {g : Nat} {s s' : Sc} {c : Array Value} (h : Own1 T U S w wx g s c) (hs : Scn T S wy g s') (hg : wx.grownBy wy (some g)) : Own1 T U S w wy g s' c := by
  have hl := h.lt
  refine ⟨?_, hs, h.low, h.lt, grown_trans h.grown hg⟩
  rw [hg.block _ (lt_of_heap h.heap) (fun e => by cases e; omega)]
  exact h.heap
theorem Own1.done {T U : Nat} {S : Nat → Prop} {w wx : World} {g : Nat} {s : Sc} {c : Array Value} (h : Own1 T U (fun k => S k ∧ k < w.heap.size) w wx g s c) (hg : ¬ S g) : Scn T S wx g s ∧ w.grownBy wx (some g) := ⟨h.scn.mono (fun _ h => h.1) hg, h.grown⟩
theorem Own1.cells {T U : Nat} {S : Nat → Prop} {w wx : World} {g : Nat} {s : Sc} {a b d : Value} (h : Own1 T U S w wx g s #[a, b, d]) :
    wx.cell? ⟨w.heap.size, 0, none⟩ = some a ∧ wx.cell? ⟨w.heap.size, 1, none⟩ = some b ∧ wx.cell? ⟨w.heap.size, 2, none⟩ = some d ∧ wx.frozen? ⟨w.heap.size, 0, none⟩ = false ∧ wx.frozen? ⟨w.heap.size, 1, none⟩ = false ∧ wx.frozen? ⟨w.heap.size, 2, none⟩ = false :=
  ⟨by rw [cell_of_row _ _ _ _ _ _ h.heap]; rfl, by rw [cell_of_row _ _ _ _ _ _ h.heap]; rfl, by rw [cell_of_row _ _ _ _ _ _ h.heap]; rfl, frozen_of_row _ _ _ _ _ h.heap, frozen_of_row _ _ _ _ _ h.heap, frozen_of_row _ _ _ _ _ h.heap⟩

theorem Own1.three {T U : Nat} {S : Nat → Prop} {w wx : World} {g : Nat} {s : Sc} {a b d : Value} (h : Own1 T U (fun k => S k ∧ k < w.heap.size) w wx g s #[a, b, d]) (hg : ¬ S g) (x y z : Value) :
    (((wx.setCell ⟨w.heap.size, 0, none⟩ x).setCell ⟨w.heap.size, 1, none⟩ y).setCell ⟨w.heap.size, 2, none⟩ z).heap[w.heap.size]? = some (.cells #[x, y, z] U (0, 0)) ∧ Scn T S (((wx.setCell ⟨w.heap.size, 0, none⟩ x).setCell ⟨w.heap.size, 1, none⟩ y).setCell ⟨w.heap.size, 2, none⟩ z) g s ∧ w.grownBy (((wx.setCell ⟨w.heap.size, 0, none⟩ x).setCell ⟨w.heap.size, 1, none⟩ y).setCell ⟨w.heap.size, 2, none⟩ z) (some g) :=
  ⟨(((h.store 0 x).store 1 y).store 2 z).heap, (((h.store 0 x).store 1 y).store 2 z).done hg⟩
theorem info_val : (Try.prog.info? 23).map (·.size) = some 3 := by kernel_rfl

set_option maxRecDepth 100000 in
set_option maxHeartbeats 4000000 in
theorem wget {S : Nat → Prop} {w : World} {g : Nat} {s : Sc} (h : Scn 63 S w g s) :
    Calls Try.prog 40 #[.pointer (some ⟨g, 0, none⟩)] w fun r w' => r = .returned s.val.1.v ∧ Scn 63 S w' g s.val.2 ∧ w.grownBy w' (some g) := by
  have hne := Aside0.mk h.ne
  have H0 := Aside0.mk (Own1.start (U := 23) h #[.int .i64 0, .int .i64 0, .string ByteArray.empty])
  clear h
  go_enter Try.func40, Try.ntmps40
  go_wp2_with fail
  refine (wupto H0.out.scn 3 (by decide)).mono ?_
  rintro e w1 ⟨rfl, hs, hg⟩
  have H1 := Aside0.mk (H0.out.call hs hg)
  have hV : s.val0 = Sc.val0k (s.upto 3).1 (s.upto 3).2 := rfl
  obtain ⟨k, hk⟩ : ∃ k, (s.upto 3).1 = k := ⟨_, rfl⟩
  obtain ⟨s1, hs1⟩ : ∃ s1, (s.upto 3).2 = s1 := ⟨_, rfl⟩
  rw [hk, hs1] at hV
  rw [hs1] at H1
  rw [hk]
  have HV := Aside0.mk hV
  clear hs hg H0 hk hs1 hV
  obtain ⟨c0, c1, c2, f0, f1, f2⟩ := H1.out.cells
  have H2 := Aside0.mk (H1.out.store 0 (.int .i64 k))
  simp only [List.setIfInBounds_toArray, List.set_cons_zero] at H2
  clear H1
  by_cases k1 : k = 1
  · have b1 : (k == 1) = true := by simp [k1]
    have HV1 : Aside0 (s.val0 = (⟨1, (s1.int).1, ByteArray.empty⟩, (s1.int).2)) := ⟨by rw [HV.out, Sc.val0k, if_pos k1]⟩
    subst k1
    clear HV
    go_wp2_with fail
    refine (wint H2.out.scn).mono ?_
    rintro e w3 ⟨rfl, hs, hg⟩
    have H3 := Aside0.mk (H2.out.call hs hg)
    clear hs hg c0 c1 c2 f0 f1 f2 H2
    obtain ⟨c0, c1, c2, f0, f1, f2⟩ := H3.out.cells
    obtain ⟨s3, hs3⟩ : ∃ s3, (s1.int).2 = s3 := ⟨_, rfl⟩
    obtain ⟨i3, hi3⟩ : ∃ i3, (s1.int).1 = i3 := ⟨_, rfl⟩
    rw [hi3]
    rw [hs3] at H3 HV1
    rw [hi3] at HV1
    have H4 := Aside0.mk (H3.out.store 1 (.int .i64 i3))
    simp only [List.setIfInBounds_toArray, List.set_cons_zero, List.set_cons_succ] at H4
    clear hs3 hi3 H3
    by_cases e0 : s3.e = 0
    · have b2 : (s3.e != 0) = false := by simp [e0]
      have HE : Aside0 (s.val = (⟨1, i3, ByteArray.empty⟩, s3)) := ⟨by rw [Sc.val, HV1.out, if_pos e0]⟩
      clear e0
      go_wp2_with (go_at_call 23; refine (werr H4.out.scn).mono ?_; rintro e w5 ⟨rfl, rfl⟩)
      have hz := H4.out.three hne.out (.int .i64 1) (.int .i64 i3) (.string ByteArray.empty)
      refine bodyPost_ret (results_cell_row (P := Try.prog) (ty := 23) (p := 2) rfl _ _ w.heap.size 23 _ (0, 0) _ rfl hz.1 Try.underlying23 rfl info_val) rfl ?_
      exact ⟨by rw [HE.out]; rfl, by rw [HE.out]; exact hz.2.1, hz.2.2⟩
    · have b2 : (s3.e != 0) = true := by simp [e0]
      have HE : Aside0 (s.val = (⟨0, 0, ByteArray.empty⟩, s3)) := ⟨by rw [Sc.val, HV1.out, if_neg e0]⟩
      clear e0
      go_wp2_with (go_at_call 23; refine (werr H4.out.scn).mono ?_; rintro e w5 ⟨rfl, rfl⟩)
      have hz := H4.out.three hne.out (.int .i64 0) (.int .i64 0) (.string ByteArray.empty)
      refine bodyPost_ret (results_cell_row (P := Try.prog) (ty := 23) (p := 2) rfl _ _ w.heap.size 23 _ (0, 0) _ rfl hz.1 Try.underlying23 rfl info_val) rfl ?_
      exact ⟨by rw [HE.out]; rfl, by rw [HE.out]; exact hz.2.1, hz.2.2⟩
  have n1 := Aside0.mk k1
  have m1 : (k == 1) = false := by simp [k1]
  clear k1
  by_cases k1 : k = 2
  · have b1 : (k == 2) = true := by simp [k1]
    have HV1 : Aside0 (s.val0 = (⟨2, 0, strOfNums (s1.text 64).1⟩, (s1.text 64).2)) := ⟨by rw [HV.out, Sc.val0k, if_neg n1.out, if_pos k1]⟩
    subst k1
    clear HV
    go_wp2_with fail
    refine (wtext H2.out.scn 64 (by decide)).mono ?_
    rintro e w3 ⟨rfl, hs, hg⟩
    have H3 := Aside0.mk (H2.out.call hs hg)
    clear hs hg c0 c1 c2 f0 f1 f2 H2
    obtain ⟨c0, c1, c2, f0, f1, f2⟩ := H3.out.cells
    obtain ⟨s3, hs3⟩ : ∃ s3, (s1.text 64).2 = s3 := ⟨_, rfl⟩
    obtain ⟨i3, hi3⟩ : ∃ i3, (s1.text 64).1 = i3 := ⟨_, rfl⟩
    rw [hi3]
    rw [hs3] at H3 HV1
    rw [hi3] at HV1
    have H4 := Aside0.mk (H3.out.store 2 (.string (strOfNums i3)))
    simp only [List.setIfInBounds_toArray, List.set_cons_zero, List.set_cons_succ] at H4
    clear hs3 hi3 H3
    by_cases e0 : s3.e = 0
    · have b2 : (s3.e != 0) = false := by simp [e0]
      have HE : Aside0 (s.val = (⟨2, 0, strOfNums i3⟩, s3)) := ⟨by rw [Sc.val, HV1.out, if_pos e0]⟩
      clear e0
      go_wp2_with (go_at_call 23; refine (werr H4.out.scn).mono ?_; rintro e w5 ⟨rfl, rfl⟩)
      have hz := H4.out.three hne.out (.int .i64 2) (.int .i64 0) (.string (strOfNums i3))
      refine bodyPost_ret (results_cell_row (P := Try.prog) (ty := 23) (p := 2) rfl _ _ w.heap.size 23 _ (0, 0) _ rfl hz.1 Try.underlying23 rfl info_val) rfl ?_
      exact ⟨by rw [HE.out]; rfl, by rw [HE.out]; exact hz.2.1, hz.2.2⟩
    · have b2 : (s3.e != 0) = true := by simp [e0]
      have HE : Aside0 (s.val = (⟨0, 0, ByteArray.empty⟩, s3)) := ⟨by rw [Sc.val, HV1.out, if_neg e0]⟩
      clear e0
      go_wp2_with (go_at_call 23; refine (werr H4.out.scn).mono ?_; rintro e w5 ⟨rfl, rfl⟩)
      have hz := H4.out.three hne.out (.int .i64 0) (.int .i64 0) (.string ByteArray.empty)
      refine bodyPost_ret (results_cell_row (P := Try.prog) (ty := 23) (p := 2) rfl _ _ w.heap.size 23 _ (0, 0) _ rfl hz.1 Try.underlying23 rfl info_val) rfl ?_
      exact ⟨by rw [HE.out]; rfl, by rw [HE.out]; exact hz.2.1, hz.2.2⟩
  have n2 := Aside0.mk k1
  have m2 : (k == 2) = false := by simp [k1]
  clear k1
  by_cases k1 : k = 3
  · have b1 : (k == 3) = true := by simp [k1]
    have HV1 : Aside0 (s.val0 = (⟨3, (s1.upto 1).1, ByteArray.empty⟩, (s1.upto 1).2)) := ⟨by rw [HV.out, Sc.val0k, if_neg n1.out, if_neg n2.out, if_pos k1]⟩
    subst k1
    clear HV
    go_wp2_with fail
    refine (wupto H2.out.scn 1 (by decide)).mono ?_
    rintro e w3 ⟨rfl, hs, hg⟩
    have H3 := Aside0.mk (H2.out.call hs hg)
    clear hs hg c0 c1 c2 f0 f1 f2 H2
    obtain ⟨c0, c1, c2, f0, f1, f2⟩ := H3.out.cells
    obtain ⟨s3, hs3⟩ : ∃ s3, (s1.upto 1).2 = s3 := ⟨_, rfl⟩
    obtain ⟨i3, hi3⟩ : ∃ i3, (s1.upto 1).1 = i3 := ⟨_, rfl⟩
    rw [hi3]
    rw [hs3] at H3 HV1
    rw [hi3] at HV1
    have H4 := Aside0.mk (H3.out.store 1 (.int .i64 i3))
    simp only [List.setIfInBounds_toArray, List.set_cons_zero, List.set_cons_succ] at H4
    clear hs3 hi3 H3
    by_cases e0 : s3.e = 0
    · have b2 : (s3.e != 0) = false := by simp [e0]
      have HE : Aside0 (s.val = (⟨3, i3, ByteArray.empty⟩, s3)) := ⟨by rw [Sc.val, HV1.out, if_pos e0]⟩
      clear e0
      go_wp2_with (go_at_call 23; refine (werr H4.out.scn).mono ?_; rintro e w5 ⟨rfl, rfl⟩)
      have hz := H4.out.three hne.out (.int .i64 3) (.int .i64 i3) (.string ByteArray.empty)
      refine bodyPost_ret (results_cell_row (P := Try.prog) (ty := 23) (p := 2) rfl _ _ w.heap.size 23 _ (0, 0) _ rfl hz.1 Try.underlying23 rfl info_val) rfl ?_
      exact ⟨by rw [HE.out]; rfl, by rw [HE.out]; exact hz.2.1, hz.2.2⟩
    · have b2 : (s3.e != 0) = true := by simp [e0]
      have HE : Aside0 (s.val = (⟨0, 0, ByteArray.empty⟩, s3)) := ⟨by rw [Sc.val, HV1.out, if_neg e0]⟩
      clear e0
      go_wp2_with (go_at_call 23; refine (werr H4.out.scn).mono ?_; rintro e w5 ⟨rfl, rfl⟩)
      have hz := H4.out.three hne.out (.int .i64 0) (.int .i64 0) (.string ByteArray.empty)
      refine bodyPost_ret (results_cell_row (P := Try.prog) (ty := 23) (p := 2) rfl _ _ w.heap.size 23 _ (0, 0) _ rfl hz.1 Try.underlying23 rfl info_val) rfl ?_
      exact ⟨by rw [HE.out]; rfl, by rw [HE.out]; exact hz.2.1, hz.2.2⟩
  have n3 := Aside0.mk k1
  have m3 : (k == 3) = false := by simp [k1]
  clear k1
  have HV1 : Aside0 (s.val0 = (⟨k, 0, ByteArray.empty⟩, s1.fail 3)) := ⟨by rw [HV.out, Sc.val0k, if_neg n1.out, if_neg n2.out, if_neg n3.out]⟩
  clear HV
  go_wp2_with fail
  refine (wfail H2.out.scn 3 (by decide)).mono ?_
  rintro e w3 ⟨rfl, hs, hg⟩
  have H4 := Aside0.mk (H2.out.call hs hg)
  clear hs hg c0 c1 c2 f0 f1 f2 H2
  obtain ⟨c0, c1, c2, f0, f1, f2⟩ := H4.out.cells
  obtain ⟨s3, hs3⟩ : ∃ s3, s1.fail 3 = s3 := ⟨_, rfl⟩
  rw [hs3] at H4 HV1
  clear hs3
  by_cases e0 : s3.e = 0
  · have b2 : (s3.e != 0) = false := by simp [e0]
    have HE : Aside0 (s.val = (⟨k, 0, ByteArray.empty⟩, s3)) := ⟨by rw [Sc.val, HV1.out, if_pos e0]⟩
    clear e0
    go_wp2_with (go_at_call 23; refine (werr H4.out.scn).mono ?_; rintro e w5 ⟨rfl, rfl⟩)
    have hz := H4.out.three hne.out (.int .i64 k) (.int .i64 0) (.string ByteArray.empty)
    refine bodyPost_ret (results_cell_row (P := Try.prog) (ty := 23) (p := 2) rfl _ _ w.heap.size 23 _ (0, 0) _ rfl hz.1 Try.underlying23 rfl info_val) rfl ?_
    exact ⟨by rw [HE.out]; rfl, by rw [HE.out]; exact hz.2.1, hz.2.2⟩
  · have b2 : (s3.e != 0) = true := by simp [e0]
    have HE : Aside0 (s.val = (⟨0, 0, ByteArray.empty⟩, s3)) := ⟨by rw [Sc.val, HV1.out, if_neg e0]⟩
    clear e0
    go_wp2_with (go_at_call 23; refine (werr H4.out.scn).mono ?_; rintro e w5 ⟨rfl, rfl⟩)
    have hz := H4.out.three hne.out (.int .i64 0) (.int .i64 0) (.string ByteArray.empty)
    refine bodyPost_ret (results_cell_row (P := Try.prog) (ty := 23) (p := 2) rfl _ _ w.heap.size 23 _ (0, 0) _ rfl hz.1 Try.underlying23 rfl info_val) rfl ?_
    exact ⟨by rw [HE.out]; rfl, by rw [HE.out]; exact hz.2.1, hz.2.2⟩
theorem Sc.upto_in (s : Sc) (hu : u8s s.l) (hne : s.e ≠ 0 → s.l = []) : 0 ≤ (s.upto 3).1 ∧ (s.upto 3).1 ≤ 3 := by
  have h := s.num_lt hu
  have hz := s.num_zero hne
  unfold Sc.upto
  by_cases he : s.num.2.e = 0
  · by_cases h3 : 3 < s.num.1
    · rw [if_pos ⟨he, .inr h3⟩]; simp
    · rw [if_neg (fun hh => by rcases hh.2 with hh | hh <;> omega)]
      unfold wrap64
      simp only
      omega
  · rw [if_neg (fun hh => he hh.1), hz he]
    simp only
    unfold wrap64
    omega

set_option maxRecDepth 100000 in
set_option maxHeartbeats 4000000 in
theorem rget {S : Nat → Prop} {w : World} {g : Nat} {s : Sc} (h : Scn 44 S w g s) :
    Calls Try.prog 44 #[.pointer (some ⟨g, 0, none⟩)] w fun r w' => r = .returned s.val.1.v ∧ Scn 44 S w' g s.val.2 ∧ w.grownBy w' (some g) := by
  have hne := Aside0.mk h.ne
  have hb := s.upto_in h.u8 h.err
  have HZ := Aside0.mk (Own1.start (U := 23) h #[.int .i64 0, .int .i64 0, .string ByteArray.empty])
  clear h
  go_enter Try.func44, Try.ntmps44
  go_wp2_with fail
  refine (rupto HZ.out.scn 3 (by decide)).mono ?_
  rintro e w1 ⟨rfl, hs, hg⟩
  have H0 := Aside0.mk (HZ.out.call hs hg)
  have hV : s.val0 = Sc.val0k (s.upto 3).1 (s.upto 3).2 := rfl
  obtain ⟨k, hk⟩ : ∃ k, (s.upto 3).1 = k := ⟨_, rfl⟩
  obtain ⟨s1, hs1⟩ : ∃ s1, (s.upto 3).2 = s1 := ⟨_, rfl⟩
  rw [hk] at hb
  rw [hk, hs1] at hV
  rw [hs1] at H0
  rw [hk]
  have HV := Aside0.mk hV
  clear hs hg HZ hk hs1 hV
  have H1 := Aside0.mk (Own1.start (U := 23) H0.out.scn #[.int .i64 k, .int .i64 0, .string ByteArray.empty])
  have hg1 : g < w1.heap.size := H0.out.scn.lt
  have hg2 : (w1.heap.size = g) = False := by simp; omega
  have hg3 : (g = w1.heap.size) = False := by simp; omega
  have hg0 := lt_of_heap H0.out.heap
  have hg4 : (w1.heap.size = w.heap.size) = False := by simp; omega
  have hg5 : (w.heap.size = w1.heap.size) = False := by simp; omega
  have hq := Aside0.mk (show ¬ (S g ∧ g < w.heap.size) from fun h => hne.out h.1)
  clear hg1 hg0
  by_cases k0 : k = 0
  · have b1 : (k == 0) = true := by simp [k0]
    have HV1 : Aside0 (s.val0 = (⟨0, 0, ByteArray.empty⟩, s1.fail 3)) := ⟨by rw [HV.out, k0]; rfl⟩
    subst k0
    clear HV
    go_wp2_with fail
    refine (rfail H1.out.scn 3 (by decide)).mono ?_
    rintro e w3 ⟨rfl, hs, hg⟩
    have H4 := Aside0.mk (H1.out.call hs hg)
    clear hs hg H1
    obtain ⟨d0, d1, d2, p0, p1, p2⟩ := H4.out.cells
    obtain ⟨r0, r1, r2, q0, q1, q2⟩ := (H0.out.call (H4.out.scn.mono (fun _ h => h.1) hq.out) H4.out.grown).cells
    obtain ⟨s3, hs3⟩ : ∃ s3, s1.fail 3 = s3 := ⟨_, rfl⟩
    rw [hs3] at H4 HV1
    obtain ⟨A, c, hb0, _, _, hh, c0, c1, f0, f1⟩ := H4.out.scn.cells
    clear hb0 hh hs3
    by_cases e0 : s3.e = 0
    · have b2 : (s3.e != 0) = false := by simp [e0]
      have HE : Aside0 (s.val = (⟨0, 0, ByteArray.empty⟩, s3)) := ⟨by rw [Sc.val, HV1.out, if_pos e0]⟩
      clear e0
      go_wp2
      have hz := (H0.out.call (H4.out.scn.mono (fun _ h => h.1) hq.out) H4.out.grown).three hne.out (.int .i64 0) (.int .i64 0) (.string ByteArray.empty)
      refine bodyPost_ret (results_cell_row (P := Try.prog) (ty := 23) (p := 2) rfl _ _ w.heap.size 23 _ (0, 0) _ rfl hz.1 Try.underlying23 rfl info_val) rfl ?_
      exact ⟨by rw [HE.out]; rfl, by rw [HE.out]; exact hz.2.1, hz.2.2⟩
    · have b2 : (s3.e != 0) = true := by simp [e0]
      have HE : Aside0 (s.val = (⟨0, 0, ByteArray.empty⟩, s3)) := ⟨by rw [Sc.val, HV1.out, if_neg e0]⟩
      clear e0
      go_wp2
      have hz := (H0.out.call (H4.out.scn.mono (fun _ h => h.1) hq.out) H4.out.grown).three hne.out (.int .i64 0) (.int .i64 0) (.string ByteArray.empty)
      refine bodyPost_ret (results_cell_row (P := Try.prog) (ty := 23) (p := 2) rfl _ _ w.heap.size 23 _ (0, 0) _ rfl hz.1 Try.underlying23 rfl info_val) rfl ?_
      exact ⟨by rw [HE.out]; rfl, by rw [HE.out]; exact hz.2.1, hz.2.2⟩
  have m0 : (k == 0) = false := by simp [k0]
  by_cases k1 : k = 1
  · have b1 : (k == 1) = true := by simp [k1]
    have HV1 : Aside0 (s.val0 = (⟨1, (s1.int).1, ByteArray.empty⟩, (s1.int).2)) := ⟨by rw [HV.out, Sc.val0k, if_pos k1]⟩
    subst k1
    clear HV
    go_wp2_with fail
    refine (rint H1.out.scn).mono ?_
    rintro e w3 ⟨rfl, hs, hg⟩
    have H3 := Aside0.mk (H1.out.call hs hg)
    clear hs hg H1
    obtain ⟨d0, d1, d2, p0, p1, p2⟩ := H3.out.cells
    obtain ⟨r0, r1, r2, q0, q1, q2⟩ := (H0.out.call (H3.out.scn.mono (fun _ h => h.1) hq.out) H3.out.grown).cells
    obtain ⟨s3, hs3⟩ : ∃ s3, (s1.int).2 = s3 := ⟨_, rfl⟩
    obtain ⟨i3, hi3⟩ : ∃ i3, (s1.int).1 = i3 := ⟨_, rfl⟩
    rw [hi3]
    rw [hs3] at H3 HV1
    rw [hi3] at HV1
    obtain ⟨A, c, hb0, _, _, hh, c0, c1, f0, f1⟩ := H3.out.scn.cells
    have H4 := Aside0.mk (H3.out.store 1 (.int .i64 i3))
    clear hb0 hh hs3 hi3 H3
    by_cases e0 : s3.e = 0
    · have b2 : (s3.e != 0) = false := by simp [e0]
      have HE : Aside0 (s.val = (⟨1, i3, ByteArray.empty⟩, s3)) := ⟨by rw [Sc.val, HV1.out, if_pos e0]⟩
      clear e0
      go_wp2
      have hz := (H0.out.call (H4.out.scn.mono (fun _ h => h.1) hq.out) H4.out.grown).three hne.out (.int .i64 1) (.int .i64 i3) (.string ByteArray.empty)
      refine bodyPost_ret (results_cell_row (P := Try.prog) (ty := 23) (p := 2) rfl _ _ w.heap.size 23 _ (0, 0) _ rfl hz.1 Try.underlying23 rfl info_val) rfl ?_
      exact ⟨by rw [HE.out]; rfl, by rw [HE.out]; exact hz.2.1, hz.2.2⟩
    · have b2 : (s3.e != 0) = true := by simp [e0]
      have HE : Aside0 (s.val = (⟨0, 0, ByteArray.empty⟩, s3)) := ⟨by rw [Sc.val, HV1.out, if_neg e0]⟩
      clear e0
      go_wp2
      have hz := (H0.out.call (H4.out.scn.mono (fun _ h => h.1) hq.out) H4.out.grown).three hne.out (.int .i64 0) (.int .i64 0) (.string ByteArray.empty)
      refine bodyPost_ret (results_cell_row (P := Try.prog) (ty := 23) (p := 2) rfl _ _ w.heap.size 23 _ (0, 0) _ rfl hz.1 Try.underlying23 rfl info_val) rfl ?_
      exact ⟨by rw [HE.out]; rfl, by rw [HE.out]; exact hz.2.1, hz.2.2⟩
  have n1 := Aside0.mk k1
  have m1 : (k == 1) = false := by simp [k1]
  by_cases k2 : k = 2
  · have b1 : (k == 2) = true := by simp [k2]
    have HV1 : Aside0 (s.val0 = (⟨2, 0, strOfNums (s1.text 64).1⟩, (s1.text 64).2)) := ⟨by rw [HV.out, Sc.val0k, if_neg n1.out, if_pos k2]⟩
    subst k2
    clear HV
    go_wp2_with fail
    refine (rtext H1.out.scn 64 (by decide)).mono ?_
    rintro e w3 ⟨rfl, hs, hg⟩
    have H3 := Aside0.mk (H1.out.call hs hg)
    clear hs hg H1
    obtain ⟨d0, d1, d2, p0, p1, p2⟩ := H3.out.cells
    obtain ⟨r0, r1, r2, q0, q1, q2⟩ := (H0.out.call (H3.out.scn.mono (fun _ h => h.1) hq.out) H3.out.grown).cells
    obtain ⟨s3, hs3⟩ : ∃ s3, (s1.text 64).2 = s3 := ⟨_, rfl⟩
    obtain ⟨i3, hi3⟩ : ∃ i3, (s1.text 64).1 = i3 := ⟨_, rfl⟩
    rw [hi3]
    rw [hs3] at H3 HV1
    rw [hi3] at HV1
    obtain ⟨A, c, hb0, _, _, hh, c0, c1, f0, f1⟩ := H3.out.scn.cells
    have H4 := Aside0.mk (H3.out.store 2 (.string (strOfNums i3)))
    clear hb0 hh hs3 hi3 H3
    by_cases e0 : s3.e = 0
    · have b2 : (s3.e != 0) = false := by simp [e0]
      have HE : Aside0 (s.val = (⟨2, 0, strOfNums i3⟩, s3)) := ⟨by rw [Sc.val, HV1.out, if_pos e0]⟩
      clear e0
      go_wp2
      have hz := (H0.out.call (H4.out.scn.mono (fun _ h => h.1) hq.out) H4.out.grown).three hne.out (.int .i64 2) (.int .i64 0) (.string (strOfNums i3))
      refine bodyPost_ret (results_cell_row (P := Try.prog) (ty := 23) (p := 2) rfl _ _ w.heap.size 23 _ (0, 0) _ rfl hz.1 Try.underlying23 rfl info_val) rfl ?_
      exact ⟨by rw [HE.out]; rfl, by rw [HE.out]; exact hz.2.1, hz.2.2⟩
    · have b2 : (s3.e != 0) = true := by simp [e0]
      have HE : Aside0 (s.val = (⟨0, 0, ByteArray.empty⟩, s3)) := ⟨by rw [Sc.val, HV1.out, if_neg e0]⟩
      clear e0
      go_wp2
      have hz := (H0.out.call (H4.out.scn.mono (fun _ h => h.1) hq.out) H4.out.grown).three hne.out (.int .i64 0) (.int .i64 0) (.string ByteArray.empty)
      refine bodyPost_ret (results_cell_row (P := Try.prog) (ty := 23) (p := 2) rfl _ _ w.heap.size 23 _ (0, 0) _ rfl hz.1 Try.underlying23 rfl info_val) rfl ?_
      exact ⟨by rw [HE.out]; rfl, by rw [HE.out]; exact hz.2.1, hz.2.2⟩
  have n2 := Aside0.mk k2
  have m2 : (k == 2) = false := by simp [k2]
  have k3 : k = 3 := by omega
  clear k0 k1 k2 hb
  have b1 : (k == 3) = true := by simp [k3]
  have HV1 : Aside0 (s.val0 = (⟨3, (s1.upto 1).1, ByteArray.empty⟩, (s1.upto 1).2)) := ⟨by rw [HV.out, Sc.val0k, if_neg n1.out, if_neg n2.out, if_pos k3]⟩
  subst k3
  clear HV
  go_wp2_with fail
  refine (rupto H1.out.scn 1 (by decide)).mono ?_
  rintro e w3 ⟨rfl, hs, hg⟩
  have H3 := Aside0.mk (H1.out.call hs hg)
  clear hs hg H1
  obtain ⟨d0, d1, d2, p0, p1, p2⟩ := H3.out.cells
  obtain ⟨r0, r1, r2, q0, q1, q2⟩ := (H0.out.call (H3.out.scn.mono (fun _ h => h.1) hq.out) H3.out.grown).cells
  obtain ⟨s3, hs3⟩ : ∃ s3, (s1.upto 1).2 = s3 := ⟨_, rfl⟩
  obtain ⟨i3, hi3⟩ : ∃ i3, (s1.upto 1).1 = i3 := ⟨_, rfl⟩
  rw [hi3]
  rw [hs3] at H3 HV1
  rw [hi3] at HV1
  obtain ⟨A, c, hb0, _, _, hh, c0, c1, f0, f1⟩ := H3.out.scn.cells
  have H4 := Aside0.mk (H3.out.store 1 (.int .i64 i3))
  clear hb0 hh hs3 hi3 H3
  by_cases e0 : s3.e = 0
  · have b2 : (s3.e != 0) = false := by simp [e0]
    have HE : Aside0 (s.val = (⟨3, i3, ByteArray.empty⟩, s3)) := ⟨by rw [Sc.val, HV1.out, if_pos e0]⟩
    clear e0
    go_wp2
    have hz := (H0.out.call (H4.out.scn.mono (fun _ h => h.1) hq.out) H4.out.grown).three hne.out (.int .i64 3) (.int .i64 i3) (.string ByteArray.empty)
    refine bodyPost_ret (results_cell_row (P := Try.prog) (ty := 23) (p := 2) rfl _ _ w.heap.size 23 _ (0, 0) _ rfl hz.1 Try.underlying23 rfl info_val) rfl ?_
    exact ⟨by rw [HE.out]; rfl, by rw [HE.out]; exact hz.2.1, hz.2.2⟩
  · have b2 : (s3.e != 0) = true := by simp [e0]
    have HE : Aside0 (s.val = (⟨0, 0, ByteArray.empty⟩, s3)) := ⟨by rw [Sc.val, HV1.out, if_neg e0]⟩
    clear e0
    go_wp2
    have hz := (H0.out.call (H4.out.scn.mono (fun _ h => h.1) hq.out) H4.out.grown).three hne.out (.int .i64 0) (.int .i64 0) (.string ByteArray.empty)
    refine bodyPost_ret (results_cell_row (P := Try.prog) (ty := 23) (p := 2) rfl _ _ w.heap.size 23 _ (0, 0) _ rfl hz.1 Try.underlying23 rfl info_val) rfl ?_
    exact ⟨by rw [HE.out]; rfl, by rw [HE.out]; exact hz.2.1, hz.2.2⟩
end Go.Proofs.Ytojefdnngkcaoaa
end

section
set_option linter.unusedVariables false
set_option linter.unusedSimpArgs false
set_option autoImplicit false
namespace Go.Proofs.Ytojefdnngkcaoaa
open Go.RowKit Go.Proofs.YtojefdnngkcaoaaW.PrintWords Go.Proofs.YtojefdnngkcaoaaW.PrintLast Go.Proofs.YtojefdnngkcaoaaW.PrintMore Go.Proofs.Ytojefdnngkcaoaa.G

theorem held_own {W : World} {base e : Nat} {ok : Nat → Prop} {v : Value} {xs : List Int} (h : (Kd.int .u8).R e W base ok v xs) :
    ∃ A c, v = .slice A xs.length c ∧ xs.length ≤ c ∧ c ≤ 9223372036854775807 ∧ HeldB W (fun k => base ≤ k ∧ k < W.heap.size) A xs ∧ (Kd.int .u8).C W A xs.length xs := by
  obtain ⟨A, c, rfl, hc, hC⟩ := own_C h
  obtain ⟨_, ho⟩ := kd_own h
  rcases ho with ⟨h1, h2⟩ | ⟨g, cap, cur, h1, h2, h3, h4, h5, h6, h7⟩
  · simp only [Value.slice.injEq] at h1
    obtain ⟨rfl, _, rfl⟩ := h1
    exact ⟨none, 0, rfl, by omega, by omega, fun h0 => absurd h0 (by omega), hC⟩
  · cases h1
    refine ⟨_, _, rfl, hc, by simpa [maxLen] using h5, HeldB.of_C hC ?_, hC⟩
    rintro ad hA _
    cases hA
    exact ⟨h2, lt_of_heap h3⟩
theorem HeldB.below {w w' : World} {S : Nat → Prop} {A : Option Addr} {l : List Int} (h : HeldB w S A l) (hb : Below w.heap.size w w') : HeldB w' S A l := h.keep fun k hk _ => hb.block k hk
theorem HeldB.grown {w w' : World} {S : Nat → Prop} {A : Option Addr} {l : List Int} {r : Nat} (h : HeldB w S A l) (hb : w.grownBy w' (some r)) (h2 : ¬ S r) : HeldB w' S A l :=
  h.keep fun k hk hs => hb.block k hk (fun e => by cases e; exact h2 hs)
theorem HeldB.low {w : World} {A : Option Addr} {l : List Int} (h : (Kd.int .u8).C w A l.length l) : HeldB w (fun k => k < w.heap.size) A l := by
  refine HeldB.of_C h ?_
  rintro ad rfl h0
  obtain ⟨_, _, hr⟩ := Kd.reads_of_C (d := (0 : Int)) h
  obtain ⟨ad', e, hc⟩ := hr h0
  cases e
  have := World.block_lt_of_cell? _ _ (hc 0 h0)
  rwa [add_block] at this
set_option maxRecDepth 100000 in
set_option maxHeartbeats 1000000 in
/-- a scan ahead of bytes: a block of its own, and bytes of its own -/
theorem won (A0 : Option Addr) (c0 : Nat) (l0 : List Int) (w : World) (hr0 : (Kd.int .u8).C w A0 l0.length l0) (hc0 : l0.length ≤ c0) (hu : u8s l0) (hl : l0.length ≤ 140737488355300) :
    Calls Try.prog 19 #[.slice A0 l0.length c0] w fun e w' => ∃ g, e = .returned (.pointer (some ⟨g, 0, none⟩)) ∧ w.heap.size ≤ g ∧ Scn 63 (fun k => w.heap.size ≤ k ∧ k < g) w' g ⟨l0, 0⟩ ∧ Below w.heap.size w w' := by
  have hcl := Aside0.mk (show slices_Clone_byte_byte.f l0 = some l0 by unfold slices_Clone_byte_byte.f; rw [if_pos (by omega)])
  have HU := Aside0.mk hu
  have HL := Aside0.mk hl
  clear hu hl
  go_enter Try.func19, Try.ntmps19
  go_wp2_with fail
  refine (slices_Clone_byte_byte.calls _ _ l0 l0 _ hr0 hc0 hcl.out).mono ?_
  rintro e w1 ⟨v1, rfl, hR1, hB1⟩
  obtain ⟨A1, n1, rfl, hc1, hm1, hH1, hC1⟩ := held_own hR1
  clear hr0 hR1 hC1 hc0
  have HB := Aside0.mk hB1
  have HH := Aside0.mk hH1
  clear hB1 hH1
  go_wp2_with fail
  go_ret
  have hB := HB.out
  have hh := heap_alloc_new w1 (.cells #[.slice A1 l0.length n1, .int .i64 0] 63)
  refine ⟨w1.heap.size, rfl, hB.size, ⟨HU.out, fun h => absurd rfl h, fun h => by omega, by have := HL.out; simp only; omega, by simp, A1, n1, hh, hc1, hm1, ?_⟩, hB.alloc hB.size _⟩
  exact HH.out.keep fun k hk _ => by rw [show (w1.alloc _).heap = w1.heap.push _ from rfl, Array.getElem?_push, if_neg (by omega)]
theorem Scn.drewN {T : Nat} {S : Nat → Prop} {w : World} {g : Nat} {s : Sc} (h : Scn T S w g s) (n : Nat) : Scn T S (w.drewN n) g s := h.below (pw_below_drewN (Below.refl _ _) n)
theorem werrq {S : Nat → Prop} {w : World} {g : Nat} {s : Sc} (h : Scn 63 S w g s) (n : Nat) :
    Calls Try.prog 23 #[.pointer (some ⟨g, 0, none⟩)] (w.drewN n) fun r w' => r = .returned (.int .i64 s.e) ∧ ∃ m, w' = w.drewN m := (werr (h.drewN n)).mono fun _ _ ⟨a, b⟩ => ⟨a, n, b.symm⟩
theorem wleftq {S : Nat → Prop} {w : World} {g : Nat} {s : Sc} (h : Scn 63 S w g s) (n : Nat) :
    Calls Try.prog 22 #[.pointer (some ⟨g, 0, none⟩)] (w.drewN n) fun r w' => r = .returned (.int .i64 s.l.length) ∧ ∃ m, w' = w.drewN m := (wleft (h.drewN n)).mono fun _ _ ⟨a, b⟩ => ⟨a, n, b.symm⟩
theorem wendq {S : Nat → Prop} {w : World} {g : Nat} {s : Sc} (h : Scn 63 S w g s) (n : Nat) :
    Calls Try.prog 24 #[.pointer (some ⟨g, 0, none⟩)] (w.drewN n) fun r w' => r = .returned (.int .i64 s.endE) ∧ ∃ m, w' = w.drewN m := (wend (h.drewN n)).mono fun _ _ ⟨a, b⟩ => ⟨a, n, b.symm⟩
/-- a slice of bytes as a text, in any world that has only drawn -/
theorem strq {w : World} {S : Nat → Prop} {A : Option Addr} {l : List Int} (h : HeldB w S A l) (hl : l.length ≤ 9223372036854775807) (c : Nat) (n : Nat) : (convert 27 9 (.slice A l.length c)).run Try.prog (w.drewN n) = .ok (.string (strOfNums l)) (w.drewN n) :=
  Kd.C_string (P := Try.prog) (A := A) (c := c) Try.underlying27 Try.underlying5 Try.underlying9 ((h.below (pw_below_drewN (Below.refl _ _) n)).C hl)
theorem HeldB.take {w : World} {S : Nat → Prop} {A : Option Addr} {a b : List Int} (h : HeldB w S A (a ++ b)) : HeldB w S A a := by
  intro h0
  obtain ⟨ad, rfl, hS, hc⟩ := h (by simp; omega)
  refine ⟨ad, rfl, hS, fun j hj => ?_⟩
  rw [hc j (by simp; omega)]
  simp [rd, List.getD_eq_getElem?_getD, List.getElem?_append_left hj]
end Go.Proofs.Ytojefdnngkcaoaa
end

section
/- numbers as bytes and back, over lists alone -/
set_option linter.unusedVariables false
set_option linter.unusedSimpArgs false
set_option autoImplicit false
namespace Go.Proofs.Ytojefdnngkcaoaa
open Go.RowKit Go.Proofs.YtojefdnngkcaoaaW.PrintWords Go.Proofs.YtojefdnngkcaoaaW.PrintLast Go.Proofs.YtojefdnngkcaoaaW.PrintMore Go.Proofs.Ytojefdnngkcaoaa.G

theorem u8s_wf {l : List Int} (h : ∀ x ∈ l, (Lit.int .u8 x).wf = true) : u8s l := fun x hx => by
  have := Go.bounds_u8 (h x hx)
  omega
theorem drop_rd (l : List Int) (k : Nat) (hk : k < l.length) : l.drop k = rd l k :: l.drop (k + 1) := by
  rw [List.drop_eq_getElem_cons hk]
  simp [rd, List.getD_eq_getElem?_getD, hk]
theorem putGo_len (f : Nat) : ∀ n, (putGo f n).length ≤ f + 1 := by
  induction f with
  | zero => intro n; simp [putGo]
  | succ f ih => intro n; rw [putGo]; split <;> simp; exact ih _
theorem putL_len (n : Int) : (putL n).length ≤ 10 := putGo_len 9 n
theorem putGo_u8s (f : Nat) : ∀ n, 0 ≤ n → u8s (putGo f n) := by
  induction f with
  | zero => intro n h x hx; simp [putGo] at hx; omega
  | succ f ih =>
    intro n h x hx
    rw [putGo] at hx
    split at hx
    · simp at hx; omega
    · rcases List.mem_cons.1 hx with rfl | hx
      · omega
      · exact ih _ (by omega) x hx
theorem put_u8s (n : Int) (h : 0 ≤ n) : u8s (putL n) := putGo_u8s 9 n h
theorem put_f (l : List Int) (n : Int) (h0 : 0 ≤ n) (h1 : n < 18446744073709551616) (hl : l.length ≤ 140737488355300) : wire_Put.f l n = some (l ++ putL n) := by
  unfold wire_Put.f
  rw [if_pos ⟨h0, h1, hl⟩]

/-- what is read was laid just so -/
theorem numGo_once (l : List Int) (hu : u8s l) : ∀ (f k : Nat) (acc n : Int) (s' : Sc), f + k = 9 → k ≤ l.length → numGo ⟨l, 0⟩ (f + 1) k acc = (n, s') → s'.e = 0 →
    ∃ m : Int, 0 ≤ m ∧ (0 < k → 0 < m) ∧ n = acc + m * 128 ^ k ∧ l.drop k = putGo f m ++ s'.l := by
  intro f
  induction f with
  | zero =>
    intro k acc n s' hk hle h he
    rw [numGo] at h
    obtain rfl : k = 9 := by omega
    split at h
    · cases h; simp [Sc.fail] at he
    · split at h
      · cases h; simp [Sc.fail] at he
      · rename_i h1 h2
        have hc : rd l 9 = 1 := Classical.byContradiction fun hc => h2 (.inl ⟨rfl, hc⟩)
        have hkl : 9 < l.length := by simp only at h1; omega
        simp only [Int.cast_ofNat_Int] at h
        rw [if_pos (by simp only [hc]; omega)] at h
        cases h
        refine ⟨1, by omega, by omega, ?_, ?_⟩
        · simp only [hc]; omega
        · have hd := drop_rd l 9 hkl
          rw [hd]
          simp only [Int.cast_ofNat_Int, hc]
          rfl
  | succ f ih =>
    intro k acc n s' hk hle h he
    rw [numGo] at h
    split at h
    · cases h; simp [Sc.fail] at he
    · split at h
      · cases h; simp [Sc.fail] at he
      · rename_i h1 h2
        have hkl : k < l.length := by simp only at h1; omega
        have hc := rd_u8 hu k hkl
        have hnz : 0 < k → rd l k ≠ 0 := fun h0 hz => h2 (.inr ⟨h0, hz⟩)
        have hd := drop_rd l k hkl
        split at h
        · rename_i hlt
          simp only at hlt
          cases h
          refine ⟨rd l k, hc.1, fun h0 => by have := hnz h0; omega, ?_, ?_⟩
          · simp only; rw [Int.emod_eq_of_lt hc.1 hlt]
          · rw [hd, putGo, if_pos hlt, Int.emod_eq_of_lt hc.1 hc.2]; rfl
        · rename_i hlt
          simp only at hlt
          obtain ⟨m, hm0, hm1, hn, hdr⟩ := ih (k + 1) _ n s' (by omega) hkl h he
          have := hm1 (by omega)
          refine ⟨rd l k % 128 + 128 * m, by omega, fun _ => by omega, ?_, ?_⟩
          · rw [hn, Int.pow_succ, Int.add_mul, Int.add_assoc]
            congr 1; congr 1
            simp only [Int.mul_comm, Int.mul_left_comm, Int.mul_assoc]
          · rw [hd, hdr, putGo, if_neg (by omega)]
            rw [show (rd l k % 128 + 128 * m) % 128 + 128 = rd l k by omega, show (rd l k % 128 + 128 * m) / 128 = m by omega]
            rfl
theorem num_once (l : List Int) (hu : u8s l) (he : (Sc.num ⟨l, 0⟩).2.e = 0) : l = putL (Sc.num ⟨l, 0⟩).1 ++ (Sc.num ⟨l, 0⟩).2.l := by
  have hq : Sc.num ⟨l, 0⟩ = numGo ⟨l, 0⟩ 10 0 0 := rfl
  obtain ⟨m, _, _, hn, hd⟩ := numGo_once l hu 9 0 0 _ _ rfl (by omega) (show numGo ⟨l, 0⟩ (9 + 1) 0 0 = ((Sc.num ⟨l, 0⟩).1, (Sc.num ⟨l, 0⟩).2) by rw [hq]) he
  rw [show m = (Sc.num ⟨l, 0⟩).1 by rw [hn]; simp] at hd
  exact hd
/-- what was laid is read as it was -/
theorem numGo_back (l : List Int) : ∀ (f k : Nat) (acc m : Int) (rest : List Int), f + k = 9 → 0 ≤ m → (0 < k → 0 < m) → m * 128 ^ k < 18446744073709551616 → l.drop k = putGo f m ++ rest →
    numGo ⟨l, 0⟩ (f + 1) k acc = (acc + m * 128 ^ k, ⟨rest, 0⟩) := by
  intro f
  induction f with
  | zero =>
    intro k acc m rest hk h0 h1 hb hd
    obtain rfl : k = 9 := by omega
    have hm := h1 (by omega)
    obtain rfl : m = 1 := by omega
    have hkl : 9 < l.length := by
      apply Classical.byContradiction; intro hn
      rw [List.drop_eq_nil_of_le (by omega)] at hd
      simp [putGo] at hd
    have hd2 := drop_rd l 9 hkl
    rw [hd, putGo] at hd2
    simp only [List.singleton_append, List.cons.injEq] at hd2
    obtain ⟨hc, hr⟩ := hd2
    rw [numGo, if_neg (by simp only; omega), if_neg (by rintro (⟨_, h⟩ | ⟨_, h⟩) <;> simp only at h <;> omega), if_pos (by simp only; omega)]
    simp only
    rw [← hr, ← hc]
    rfl
  | succ f ih =>
    intro k acc m rest hk h0 h1 hb hd
    have hkl : k < l.length := by
      apply Classical.byContradiction; intro hn
      rw [List.drop_eq_nil_of_le (by omega), putGo] at hd
      split at hd <;> simp at hd
    have hd2 := drop_rd l k hkl
    rw [hd, putGo] at hd2
    have hk9 : k ≠ 9 := by omega
    by_cases hlt : m < 128
    · rw [if_pos hlt] at hd2
      simp only [List.singleton_append, List.cons.injEq] at hd2
      obtain ⟨hc, hr⟩ := hd2
      rw [numGo, if_neg (by simp only; omega), if_neg (by rintro (⟨h, _⟩ | ⟨h, hz⟩) <;> first | exact hk9 h | (have := h1 h; simp only at hz; omega)), if_pos (by simp only; omega)]
      simp only
      rw [← hr, ← hc, Int.emod_eq_of_lt h0 (by omega : m < 256), Int.emod_eq_of_lt h0 hlt]
    · rw [if_neg hlt] at hd2
      simp only [List.cons_append, List.cons.injEq] at hd2
      obtain ⟨hc, hr⟩ := hd2
      rw [numGo, if_neg (by simp only; omega), if_neg (by rintro (⟨h, _⟩ | ⟨_, hz⟩) <;> first | exact hk9 h | (simp only at hz; omega)), if_neg (by simp only; omega)]
      have hsplit : m * 128 ^ k = m % 128 * 128 ^ k + m / 128 * 128 ^ (k + 1) := by
        rw [Int.pow_succ, ← Int.mul_assoc, Int.mul_right_comm, ← Int.add_mul]
        congr 1; omega
      have hp : (0 : Int) < 128 ^ k := Int.pow_pos (by decide)
      have hnn : 0 ≤ m % 128 * 128 ^ k := Int.mul_nonneg (by omega) (by omega)
      rw [ih (k + 1) _ (m / 128) rest (by omega) (by omega) (fun _ => by omega) (by omega) hr.symm]
      simp only
      rw [← hc, show (m % 128 + 128) % 128 = m % 128 by omega, hsplit, Int.add_assoc]
theorem num_back (n : Int) (rest : List Int) (h0 : 0 ≤ n) (h1 : n < 18446744073709551616) : Sc.num ⟨putL n ++ rest, 0⟩ = (n, ⟨rest, 0⟩) := by
  have := numGo_back (putL n ++ rest) 9 0 0 n rest rfl h0 (by omega) (by simpa using h1) rfl
  rw [show Sc.num ⟨putL n ++ rest, 0⟩ = numGo ⟨putL n ++ rest, 0⟩ (9 + 1) 0 0 from rfl, this]
  simp

/-! ### ints -/
def zig (a : Int) : Int := if 0 ≤ a then 2 * a else -2 * a - 1
theorem zig_f (a : Int) (h0 : -9223372036854775808 ≤ a) (h1 : a < 9223372036854775808) : wire_zig.f a = some (zig a) := by
  unfold wire_zig.f zig
  congr 1
  by_cases h : 0 ≤ a
  · rw [if_pos h, show a / 9223372036854775808 = 0 by omega, show IntKind.u64.wrap 0 = ((0 : Nat) : Int) by rfl]
    obtain ⟨n, rfl⟩ := Int.eq_ofNat_of_zero_le h
    rw [show IntKind.u64.wrap (wrap64 ((n : Int) * 2)) = ((2 * n : Nat) : Int) by rw [IntKind.wrap_u64]; unfold wrap64; omega, u64_xor_nat _ _ (by omega) (by decide), Nat.xor_zero]
    omega
  · rw [if_neg h, show a / 9223372036854775808 = -1 by omega, show IntKind.u64.wrap (-1) = ((2 ^ 64 - 1 : Nat) : Int) by rfl]
    rw [show IntKind.u64.wrap (wrap64 (a * 2)) = (((2 * a + 18446744073709551616).toNat : Nat) : Int) by rw [IntKind.wrap_u64]; unfold wrap64; omega, u64_xor_nat _ _ (by omega) (by decide), Nat.xor_comm, Lib.xor_ones64 _ (by omega)]
    omega
theorem zig_lt (a : Int) (h0 : -9223372036854775808 ≤ a) (h1 : a < 9223372036854775808) : 0 ≤ zig a ∧ zig a < 18446744073709551616 := by unfold zig; split <;> omega
theorem zag_lt (n : Int) (h0 : 0 ≤ n) (h1 : n < 18446744073709551616) : -9223372036854775808 ≤ zag n ∧ zag n < 9223372036854775808 := by unfold zag; split <;> omega
theorem zag_zig (a : Int) : zag (zig a) = a := by unfold zag zig; split <;> split <;> omega
theorem zig_zag (n : Int) (h0 : 0 ≤ n) : zig (zag n) = n := by unfold zag zig; split <;> split <;> omega
theorem putInt_f (l : List Int) (a : Int) (h0 : -9223372036854775808 ≤ a) (h1 : a < 9223372036854775808) (hl : l.length ≤ 140737488355300) : wire_PutInt.f l a = some (l ++ putL (zig a)) := by
  unfold wire_PutInt.f
  rw [zig_f a h0 h1]
  have := zig_lt a h0 h1
  simp only [Option.bind_some]
  rw [put_f l _ this.1 this.2 hl]
  rfl

/-! ### texts -/
theorem wrap_size (n : Nat) (h : n < 18446744073709551616) : IntKind.u64.wrap (n : Int) = n := by rw [IntKind.wrap_u64]; omega
theorem putText_f (l : List Int) (s : ByteArray) (hl : l.length ≤ 140737488350000) (hs : s.size ≤ 4000) : wire_PutText.f l s = some (l ++ putL s.size ++ bytesOf s) := by
  unfold wire_PutText.f
  rw [wrap_size _ (by omega), put_f l _ (by omega) (by omega) (by omega)]
  have := putL_len (s.size : Int)
  simp only [Option.bind_some]
  rw [if_pos (by simp only [List.length_append]; omega)]
theorem fail_ne (s : Sc) (e : Int) (h : e ≠ 0) : (s.fail e).e ≠ 0 := by
  unfold Sc.fail
  rw [if_neg h]
  split
  · exact h
  · assumption
theorem text_none (s : Sc) (most : Int) (h : (s.text most).2.e ≠ 0) : (s.text most).1 = [] := by
  unfold Sc.text at h ⊢
  split at h
  · rename_i h1
    rw [if_pos h1]
    split at h
    · rename_i h2; rw [if_pos h2]
    · simp at h
  · rename_i h1; rw [if_neg h1]
theorem text_once (l : List Int) (hu : u8s l) (most : Int) (hm : 0 ≤ most ∧ most ≤ 4000) (he : (Sc.text ⟨l, 0⟩ most).2.e = 0) :
    l = putL (Sc.text ⟨l, 0⟩ most).1.length ++ (Sc.text ⟨l, 0⟩ most).1 ++ (Sc.text ⟨l, 0⟩ most).2.l ∧ ((Sc.text ⟨l, 0⟩ most).1.length : Int) ≤ most := by
  have hn := Sc.num_lt ⟨l, 0⟩ hu
  have ho := num_once l hu
  unfold Sc.text at he ⊢
  split at he
  · rename_i h1
    rw [if_pos h1]
    split at he
    · rename_i h2
      exact absurd he (fail_ne _ 2 (by decide))
    · rename_i h2
      rw [if_neg h2]
      unfold Sc.upto at h1 h2 ⊢
      split at h1
      · exact absurd h1 (fail_ne _ 4 (by decide))
      · rename_i h3
        simp only at h1
        rw [if_neg h3] at h2 ⊢
        have h4 : ¬ (most < 0 ∨ most < (Sc.num ⟨l, 0⟩).1) := fun h => h3 ⟨h1, h⟩
        generalize Sc.num ⟨l, 0⟩ = p at *
        obtain ⟨n, s⟩ := p
        simp only at *
        have hw : wrap64 n = n := by unfold wrap64; omega
        rw [hw] at h2 ⊢
        have hlen : ((s.l.take n.toNat).length : Int) = n := by rw [List.length_take]; omega
        rw [hlen, List.append_assoc, List.take_append_drop]
        exact ⟨ho h1, by omega⟩
  · exact absurd he (by assumption)
theorem text_back (x rest : List Int) (most : Int) (hm : (x.length : Int) ≤ most) (hl : x.length < 9223372036854775808) : Sc.text ⟨putL x.length ++ (x ++ rest), 0⟩ most = (x, ⟨rest, 0⟩) := by
  have hn := num_back x.length (x ++ rest) (by omega) (by omega)
  have hu : Sc.upto ⟨putL x.length ++ (x ++ rest), 0⟩ most = ((x.length : Int), ⟨x ++ rest, 0⟩) := by
    unfold Sc.upto
    rw [hn, if_neg (by simp only; omega)]
    simp only
    rw [show wrap64 (x.length : Int) = x.length by unfold wrap64; omega]
  unfold Sc.text
  rw [hu]
  simp only
  rw [if_pos trivial, if_neg (by simp only [List.length_append]; omega)]
  simp
theorem int_back (a : Int) (rest : List Int) (h0 : -9223372036854775808 ≤ a) (h1 : a < 9223372036854775808) : Sc.int ⟨putL (zig a) ++ rest, 0⟩ = (a, ⟨rest, 0⟩) := by
  have hz := zig_lt a h0 h1
  unfold Sc.int
  rw [num_back _ rest hz.1 hz.2, zag_zig]
theorem str_size (x : List Int) : (strOfNums x).size = x.length := by simp [strOfNums, ByteArray.size]
theorem str_bytes (x : List Int) (hu : u8s x) : bytesOf (strOfNums x) = x := by
  unfold bytesOf strOfNums
  simp only [List.map_map]
  apply List.ext_getElem (by simp)
  intro i h1 h2
  simp only [List.getElem_map, Function.comp]
  have := hu x[i] (List.getElem_mem h2)
  rw [UInt8.toNat_ofNat']
  omega
theorem u8s_left {a b : List Int} (h : u8s (a ++ b)) : u8s a := (u8s_append.1 h).1
theorem u8s_right {a b : List Int} (h : u8s (a ++ b)) : u8s b := (u8s_append.1 h).2
end Go.Proofs.Ytojefdnngkcaoaa
end

section
-- Written by a program of this session (wip/tools/myprint.py), over the kit's print.
namespace Go.Proofs.Ytojefdnngkcaoaa.G
open Go.RowKit Go.Proofs.YtojefdnngkcaoaaW.PrintWords Go.Proofs.YtojefdnngkcaoaaW.PrintLast Go.Proofs.YtojefdnngkcaoaaW.PrintMore
attribute [local go_sem] max2_int min2_int max_two min_two max_three min_three max_four min_four   -- for this text's walks alone
set_option linter.unusedVariables false
set_option linter.unusedSimpArgs false

-- BY HAND
def rosetteref02_Put.f (l0 : List Int) (a1 : Int) : Option (List Int) := if 0 ≤ a1 ∧ a1 < 18446744073709551616 ∧ l0.length ≤ 140737488355300 then some (l0 ++ putL a1) else none
set_option maxRecDepth 100000 in
set_option maxHeartbeats 1000000 in
theorem rosetteref02_Put.calls (A0 : Option Addr) (c0 : Nat) (l0 : List Int) (a1 : Int) (r : List Int) (w : World) (hr0 : Kd.C (Kd.int .u8) w A0 l0.length l0) (hc0 : l0.length ≤ c0) (h : rosetteref02_Put.f l0 a1 = some r) :
    Calls Try.prog 54 #[.slice A0 l0.length c0, .int .u64 a1] w fun e w' => ∃ v0_ : Value, e = .returned (v0_) ∧ Kd.R (Kd.int .u8) 5 w' w.heap.size (fun _ => True) v0_ r ∧ Below w.heap.size w w' := by
  have hh := h
  clear h
  unfold rosetteref02_Put.f at hh
  split at hh
  · rename_i hcond
    obtain ⟨ha0, ha1, hl⟩ := hcond
    have HRES := Aside0.mk (Option.some.inj hh)
    have HR0 := Aside0.mk hr0
    clear hh hr0
    go_enter Try.func54, Try.ntmps54
    go_wp2_with (at_builtin; refine print_append_row (w0 := w) w.heap.size rfl (.tmp 6) (.tmp 7) 27 5 .u8 1 rfl Try.underlying27 info_u8 (by decide) (.slice (some ⟨w.heap.size, 0, none⟩) 0 0) [] l0 A0 l0.length c0 rfl rfl ⟨by simp [nums], .inr ⟨w.heap.size, 0, #[], rfl, Nat.le_refl _, heap_alloc_new w _, by simp, by simp [maxLen], by simp, by simp [nums]⟩⟩ (Kd.reads_of_C (d := (0 : Int)) (Kd.C_alloc HR0.out _)) ((Below.refl _ _).alloc (Nat.le_refl _) _) (by simp) (by simp; omega) ?_; intro v1 w1 ho2 hB2 _ _; rw [List.nil_append] at ho2; have HO1 := Aside0.mk (kd_R ho2); have HB1 := Aside0.mk hB2; clear ho2 hB2)
    go_loopw [1, 5] (fun n v wr => ∃ (f : Nat) (m : Int) (xs : List Int), n = .int .u64 m ∧ 0 ≤ m ∧ f ≤ 9 ∧ Aside0 (m < 128 ^ (f + 1)) ∧ m < 18446744073709551616 ∧ Aside0 (xs ++ putGo f m = r) ∧ Aside0 (xs.length + f ≤ 140737488355309) ∧ Aside0 ((Kd.int .u8).R 5 wr w.heap.size (fun _ => True) v xs) ∧ Below w.heap.size w wr) (fun n _ _ => (intOf n).toNat)
    case atStart => exact ⟨9, a1, l0, rfl, ha0, Nat.le_refl _, ⟨by omega⟩, ha1, ⟨HRES.out⟩, ⟨by omega⟩, ⟨HO1.out⟩, HB1.out⟩
    case round =>
      obtain ⟨f, m, xs, rfl, hm0, hf, HM, hm64, HX, HL, HO, hBr⟩ := hrel
      by_cases hlt : 127 < m
      · go_wp2_with (at_builtin; refine app_num (w0 := w) w.heap.size rfl (.tmp 11) (.tmp 16) 27 5 .u8 1 rfl Try.underlying27 info_u8 (by decide) u5 xs (m % 128 + 128) rfl rfl HO.out hBr hBr.size (by have := HL.out; omega) ?_; intro v1 w1 HO2 hB2; clear HO hBr)
        have hm1 := HM.out
        have htm : Int.tmod m 128 = m % 128 := Int.tmod_eq_emod_of_nonneg hm0
        have htd : Int.tdiv m 128 = m / 128 := Int.tdiv_eq_ediv_of_nonneg hm0
        cases f with
        | zero => exact absurd hm1 (by simp; omega)
        | succ f =>
          have hx := HX.out
          have hL := HL.out
          rw [putGo, if_neg (by omega)] at hx
          refine ⟨⟨f, m / 128, xs ++ [m % 128 + 128], by first | rfl | rw [htd] | (rw [htd, IntKind.wrap_u64]; congr 1; omega), by omega, by omega, ⟨?_⟩, by omega, ⟨?_⟩, ⟨?_⟩, ⟨HO2.out⟩, hB2⟩, ?_⟩
          · rw [Int.pow_succ] at hm1
            exact Int.ediv_lt_of_lt_mul (by decide) hm1
          · rw [List.append_assoc]; exact hx
          · simp only [List.length_append, List.length_singleton]; omega
          · simp only [intOf, htd, IntKind.wrap_u64]; omega
      · go_wp2_with (at_builtin; refine app_num (w0 := w) w.heap.size rfl (.tmp 20) (.tmp 23) 27 5 .u8 1 rfl Try.underlying27 info_u8 (by decide) u5 xs m rfl rfl HO.out hBr hBr.size (by have := HL.out; omega) ?_; intro v1 w1 HO2 hB2; clear HO hBr)
        have hx := HX.out
        have hp : putGo f m = [m] := by
          cases f with
          | zero => rw [putGo]; rw [Int.emod_eq_of_lt hm0 (by omega)]
          | succ f => rw [putGo, if_pos (by omega)]; rw [Int.emod_eq_of_lt hm0 (by omega)]
        rw [hp] at hx
        subst hx
        go_ret
        exact ⟨v1, rfl, HO2.out, hB2⟩
  · cases hh

end Go.Proofs.Ytojefdnngkcaoaa.G
end

section
-- Written by a program of this session (wip/tools/myprint.py), over the kit's print.
namespace Go.Proofs.Ytojefdnngkcaoaa.G
open Go.RowKit Go.Proofs.YtojefdnngkcaoaaW.PrintWords Go.Proofs.YtojefdnngkcaoaaW.PrintLast Go.Proofs.YtojefdnngkcaoaaW.PrintMore
attribute [local go_sem] max2_int min2_int max_two min_two max_three min_three max_four min_four   -- for this text's walks alone
set_option linter.unusedVariables false
set_option linter.unusedSimpArgs false

/-! ### rosetteref02_PutInt: function 55 -/
def rosetteref02_PutInt.f (l0 : List Int) (a1 : Int) : Option (List Int) := if a1 < 0 then ((rosetteref02_Put.f l0 (IntKind.u64.wrap ((IntKind.u64.wrap (2 * (IntKind.u64.wrap (wrap64 ((-1) - a1))))) + 1))).bind fun t209 => (some t209)) else ((rosetteref02_Put.f l0 (IntKind.u64.wrap (2 * (IntKind.u64.wrap (a1))))).bind fun t212 => (some t212))
set_option maxHeartbeats 8000000 in
set_option maxRecDepth 100000 in
theorem rosetteref02_PutInt.calls (A0 : Option Addr) (c0 : Nat) (l0 : List Int) (a1 : Int) (r : List Int) (w : World) (hr0 : Kd.C (Kd.int .u8) w A0 l0.length l0) (hc0 : l0.length ≤ c0) (h : rosetteref02_PutInt.f l0 a1 = some r) :
    Calls Try.prog 55 #[.slice A0 l0.length c0, .int .i64 a1] w fun e w' => ∃ v0_ : Value, e = .returned (v0_) ∧ Kd.R (Kd.int .u8) 5 w' w.heap.size (fun _ => True) v0_ r ∧ Below w.heap.size w w' := by
  have HR0 := Aside0.mk hr0
  have HC0 := Aside0.mk hc0
  clear hr0 hc0
  have HB := Aside0.mk (Below.refl w.heap.size w)
  have H : (if a1 < 0 then ((rosetteref02_Put.f l0 (IntKind.u64.wrap ((IntKind.u64.wrap (2 * (IntKind.u64.wrap (wrap64 ((-1) - a1))))) + 1))).bind fun t209 => (some t209)) else ((rosetteref02_Put.f l0 (IntKind.u64.wrap (2 * (IntKind.u64.wrap (a1))))).bind fun t212 => (some t212))) = some r := h
  clear h
  by_cases c3 : a1 < 0
  · rw [if_pos c3] at H
    have c3b0 : decide (a1 < 0) = true := decide_eq_true c3
    clear c3
    replace H := Option.bind_eq_some_iff.mp H
    obtain ⟨t209, A40, H⟩ := H
    replace H : (some t209) = some r := H
    have A4 := Aside0.mk A40
    clear A40
    obtain rfl := Option.some.inj H
    go_enter Try.func55, Try.ntmps55
    go_wp2_with (first | ((with_reducible refine gate_callee (f := 54) rfl ?_); refine goesL_ (some 13) rfl rfl Try.func54 (by kernel_rfl) rfl #[.slice A0 l0.length c0, .int .u64 (IntKind.u64.wrap ((IntKind.u64.wrap (2 * (IntKind.u64.wrap (wrap64 ((-1) - a1))))) + 1))] rfl (by (try simp only [List.map_toArray, List.map_cons, List.map_nil]); first | done | rfl | (simp only [List.length_drop, List.length_take]; rfl)) ?_; (with_reducible refine (rosetteref02_Put.calls _ _ l0 (IntKind.u64.wrap ((IntKind.u64.wrap (2 * (IntKind.u64.wrap (wrap64 ((-1) - a1))))) + 1)) t209 _ ?side1 ?side2 A4.out).mono ?_); (case side1 => repeat (first | exact HR0.out | (with_reducible refine Kd.C_alloc ?_ _) | (with_reducible refine Kd.C_drewN ?_ _) | (with_reducible refine Kd.C_drew ?_))); (case side2 => exact HC0.out); rintro e w5 ⟨v210, rfl, ho0, hb⟩; refine ⟨_, rfl, ?_⟩; have n0_ := Aside0.mk (Kd.R_lower ho0 (below_size (by repeat (first | (with_reducible first | exact HB.out | apply below_alloc | apply pw_below_drewN | apply below_drew1) | exact HB.out)))); have n1_ := Aside0.mk (below_step (by repeat (first | (with_reducible first | exact HB.out | apply below_alloc | apply pw_below_drewN | apply below_drew1) | exact HB.out)) hb); clear HB; have HO211 := n0_; have HB := n1_; clear n0_ n1_; (try clear hb); (try clear hb2); (try clear hk); (try clear hi); (try clear ho0)))
    go_ret
    exact ⟨_, by first | rfl | (simp [errW_none, errW_some] <;> rfl) | (simp [*, errW_none, errW_some] <;> rfl), by (with_reducible repeat (first | apply Kd.R_alloc | apply Kd.R_drewN | apply Kd.R_drew)); exact HO211.out, by repeat (first | (with_reducible first | exact HB.out | apply below_alloc | apply pw_below_drewN | apply below_drew1) | exact HB.out)⟩
  · rw [if_neg c3] at H
    have c3b0 : decide (a1 < 0) = false := decide_eq_false c3
    clear c3
    replace H := Option.bind_eq_some_iff.mp H
    obtain ⟨t212, A60, H⟩ := H
    replace H : (some t212) = some r := H
    have A6 := Aside0.mk A60
    clear A60
    obtain rfl := Option.some.inj H
    go_enter Try.func55, Try.ntmps55
    go_wp2_with (first | ((with_reducible refine gate_callee (f := 54) rfl ?_); refine goesL_ (some 18) rfl rfl Try.func54 (by kernel_rfl) rfl #[.slice A0 l0.length c0, .int .u64 (IntKind.u64.wrap (2 * (IntKind.u64.wrap (a1))))] rfl (by (try simp only [List.map_toArray, List.map_cons, List.map_nil]); first | done | rfl | (simp only [List.length_drop, List.length_take]; rfl)) ?_; (with_reducible refine (rosetteref02_Put.calls _ _ l0 (IntKind.u64.wrap (2 * (IntKind.u64.wrap (a1)))) t212 _ ?side1 ?side2 A6.out).mono ?_); (case side1 => repeat (first | exact HR0.out | (with_reducible refine Kd.C_alloc ?_ _) | (with_reducible refine Kd.C_drewN ?_ _) | (with_reducible refine Kd.C_drew ?_))); (case side2 => exact HC0.out); rintro e w7 ⟨v213, rfl, ho0, hb⟩; refine ⟨_, rfl, ?_⟩; have n0_ := Aside0.mk (Kd.R_lower ho0 (below_size (by repeat (first | (with_reducible first | exact HB.out | apply below_alloc | apply pw_below_drewN | apply below_drew1) | exact HB.out)))); have n1_ := Aside0.mk (below_step (by repeat (first | (with_reducible first | exact HB.out | apply below_alloc | apply pw_below_drewN | apply below_drew1) | exact HB.out)) hb); clear HB; have HO214 := n0_; have HB := n1_; clear n0_ n1_; (try clear hb); (try clear hb2); (try clear hk); (try clear hi); (try clear ho0)))
    go_ret
    exact ⟨_, by first | rfl | (simp [errW_none, errW_some] <;> rfl) | (simp [*, errW_none, errW_some] <;> rfl), by (with_reducible repeat (first | apply Kd.R_alloc | apply Kd.R_drewN | apply Kd.R_drew)); exact HO214.out, by repeat (first | (with_reducible first | exact HB.out | apply below_alloc | apply pw_below_drewN | apply below_drew1) | exact HB.out)⟩

end Go.Proofs.Ytojefdnngkcaoaa.G
end
