/- The statement PredGets over numbers and lists: predicates that are read, one behind the other, and the error. -/
import Derived.Test.YtojefdnngkcaoaaZPredGets0
import Derived.Test.YtojefdnngkcaoaaZPredGets1
import Derived.BigQuiet
import Derived.Deep.QuietTactic
import Derived.Deep.CutRange
import Derived.Deep.RegionHeld3
import Derived.WalkKit
import Derived.Deep.Slices
import Derived.DataReads
import Derived.ChangeShapes
import Derived.WideLaws
import Derived.SizedLaws
import Derived.Test.YtojefdnngkcaoaaProg
import Derived.Test.YtojefdnngkcaoaaRows
import Derived.ProofKit
import Derived.OpenShut
import Derived.ShutString
import Derived.ChangeOld
import Derived.Below
import Derived.Lib.SmallJoins
section
-- Written by a program of this session (wip/tools/myprint.py), over the kit's print.
namespace Go.Proofs.Ytojefdnngkcaoaa.G
open Go.RowKit Go.Proofs.YtojefdnngkcaoaaW.PrintWords Go.Proofs.YtojefdnngkcaoaaW.PrintLast Go.Proofs.YtojefdnngkcaoaaW.PrintMore
attribute [local go_sem] max2_int min2_int max_two min_two max_three min_three max_four min_four   -- for this text's walks alone
set_option linter.unusedVariables false
set_option linter.unusedSimpArgs false

/-! ### pred_Holds: function 12 -/
def pred_Holds.j0 : Nat → Bool → ByteArray → Int → Int → Int → ByteArray → Int → Int → ByteArray → Option (Bool)
  | 0, _, _, _, _, _, _, _, _, _ => none
  | k + 1, x13, x119000, x119001, x119002, x119003, x119004, x120000, x120001, x120002 => if x13 = true then (some false) else ((value_Compare.f k x120000 x120001 x120002 x119002 x119003 x119004).bind fun t122 => (if x119001 = 8 then (some true) else (if x120000 = x119002 then (if x119001 = 7 then ((strings_HasPrefix.f x120002 x119004).bind fun t123 => (some t123)) else (if t122 < 0 then (if x119001 = 2 then (some true) else (if x119001 = 3 then (some true) else (some (x119001 == 4)))) else (if t122 > 0 then (if x119001 = 2 then (some true) else (if x119001 = 5 then (some true) else (some (x119001 == 6)))) else (if x119001 = 1 then (some true) else (if x119001 = 4 then (some true) else (some (x119001 == 6))))))) else (some false))))
def pred_Holds.f (k : Nat) (a0_0 : ByteArray) (a0_1 : Int) (a0_2 : Int) (a0_3 : Int) (a0_4 : ByteArray) (a1_0 : Int) (a1_1 : Int) (a1_2 : ByteArray) : Option (Bool) := (pred_Right.f k a0_0 a0_1 a0_2 a0_3 a0_4).bind fun t120 => (if t120 = true then ((value_Right.f a1_0 a1_1 a1_2).bind fun t121 => (pred_Holds.j0 k (!t121) a0_0 a0_1 a0_2 a0_3 a0_4 a1_0 a1_1 a1_2)) else (pred_Holds.j0 k true a0_0 a0_1 a0_2 a0_3 a0_4 a1_0 a1_1 a1_2))
theorem pred_Holds.mono_l : ∀ k, (∀ y0 y1 y2 y3 y4 y5 y6 y7 y8, LeO (pred_Holds.j0 k y0 y1 y2 y3 y4 y5 y6 y7 y8) (pred_Holds.j0 (k + 1) y0 y1 y2 y3 y4 y5 y6 y7 y8))
  | 0 => fun _ _ _ _ _ _ _ _ _ r h => by simp [pred_Holds.j0] at h
  | k + 1 => by
    have ih0 := pred_Holds.mono_l k
    · intro y0 y1 y2 y3 y4 y5 y6 y7 y8
      unfold pred_Holds.j0
      repeat' first
      | (with_reducible exact ih0 _ _ _ _ _ _ _ _ _)
      | (with_reducible exact pred_Right.mono _ _ _ _ _ _)
      | (with_reducible exact value_Compare.mono _ _ _ _ _ _ _)
      | (with_reducible exact LeO.refl _)
      | (with_reducible exact LeO.none _)
      | (with_reducible refine LeO.ite ?_ ?_)
      | (with_reducible refine LeO.bind ?_ (fun _ => ?_))
      | exact ih0 _ _ _ _ _ _ _ _ _
      | exact pred_Right.mono _ _ _ _ _ _
      | exact value_Compare.mono _ _ _ _ _ _ _
      | exact LeO.none _
      | refine LeO.ite ?_ ?_
      | refine LeO.bind ?_ (fun _ => ?_)
theorem pred_Holds.mono : ∀ a0 a1 a2 a3 a4 a5 a6 a7 k, LeO (pred_Holds.f k a0 a1 a2 a3 a4 a5 a6 a7) (pred_Holds.f (k + 1) a0 a1 a2 a3 a4 a5 a6 a7) := by
  intro a0 a1 a2 a3 a4 a5 a6 a7 k
  have ih0 := pred_Holds.mono_l k
  unfold pred_Holds.f
  repeat' first
      | (with_reducible exact ih0 _ _ _ _ _ _ _ _ _)
      | (with_reducible exact pred_Right.mono _ _ _ _ _ _)
      | (with_reducible exact value_Compare.mono _ _ _ _ _ _ _)
      | (with_reducible exact LeO.refl _)
      | (with_reducible exact LeO.none _)
      | (with_reducible refine LeO.ite ?_ ?_)
      | (with_reducible refine LeO.bind ?_ (fun _ => ?_))
      | exact ih0 _ _ _ _ _ _ _ _ _
      | exact pred_Right.mono _ _ _ _ _ _
      | exact value_Compare.mono _ _ _ _ _ _ _
      | exact LeO.none _
      | refine LeO.ite ?_ ?_
      | refine LeO.bind ?_ (fun _ => ?_)
set_option maxHeartbeats 8000000 in
set_option maxRecDepth 100000 in
theorem pred_Holds.calls (k : Nat) (a0_0 : ByteArray) (a0_1 : Int) (a0_2 : Int) (a0_3 : Int) (a0_4 : ByteArray) (a1_0 : Int) (a1_1 : Int) (a1_2 : ByteArray) (r : Bool) (w : World) (h : pred_Holds.f k a0_0 a0_1 a0_2 a0_3 a0_4 a1_0 a1_1 a1_2 = some r) :
    Calls Try.prog 12 #[.agg #[.string a0_0, .int .i64 a0_1, .int .i64 a0_2, .int .i64 a0_3, .string a0_4], .agg #[.int .i64 a1_0, .int .i64 a1_1, .string a1_2]] w fun e w' => e = .returned (.bool r) ∧ Below w.heap.size w w' := by
  have hu25 := Try.underlying25
  have hu23 := Try.underlying23
  have HB := Aside0.mk (Below.refl w.heap.size w)
  have H : ((pred_Right.f k a0_0 a0_1 a0_2 a0_3 a0_4).bind fun t120 => (if t120 = true then ((value_Right.f a1_0 a1_1 a1_2).bind fun t121 => (pred_Holds.j0 k (!t121) a0_0 a0_1 a0_2 a0_3 a0_4 a1_0 a1_1 a1_2)) else (pred_Holds.j0 k true a0_0 a0_1 a0_2 a0_3 a0_4 a1_0 a1_1 a1_2))) = some r := h
  clear h
  have HC3 := Aside0.mk H
  clear H
  go_enter Try.func12, Try.ntmps12
  go_upto_region 1 with (first | ((with_reducible refine gate_dst (N := 2) rfl ?_); refine box_event ?hg (N := 2) ?hd (cs := #[.string a0_0, .int .i64 a0_1, .int .i64 a0_2, .int .i64 a0_3, .string a0_4]) (t := 25) ?hr ?_; (case hd => rfl); (case hg => rfl); (case hr => first | (go_simp; done) | (go_simp; rfl)); intro gb118 hg w4 hbox hb; have n0_ := Aside0.mk (below_step (by repeat (first | (with_reducible first | exact HB.out | apply below_alloc | apply pw_below_drewN | apply below_drew1) | exact HB.out)) hb); have n1_ := Aside0.mk (hbox); have n2_ := Aside0.mk ((by rw [hg]; exact (below_size (by repeat (first | (with_reducible first | exact HB.out | apply below_alloc | apply pw_below_drewN | apply below_drew1) | exact HB.out))) : w.heap.size ≤ gb118)); have n3_ := Aside0.mk ((by rw [hg]; exact (below_size (by repeat (first | (with_reducible first | exact HB.out | apply below_alloc | apply pw_below_drewN | apply below_drew1) | exact HB.out))) : w.heap.size ≤ gb118)); clear HB; have HB := n0_; have BK118 := n1_; have GW118 := n2_; have GE118 := n3_; clear n0_ n1_ n2_ n3_; clear hb hbox hg) | ((with_reducible refine gate_dst (N := 3) rfl ?_); refine box_event ?hg (N := 3) ?hd (cs := #[.int .i64 a1_0, .int .i64 a1_1, .string a1_2]) (t := 23) ?hr ?_; (case hd => rfl); (case hg => rfl); (case hr => first | (go_simp; done) | (go_simp; rfl)); intro gb119 hg w5 hbox hb; have n0_ := Aside0.mk (blk_below (g := gb118) (o := .cells #[.string a0_0, .int .i64 a0_1, .int .i64 a0_2, .int .i64 a0_3, .string a0_4] 25 (0, 0)) (by (with_reducible repeat (first | refine blk_drewN ?_ _ | refine blk_drew ?_ | refine blk_alloc ?_ _)); exact BK118.out) hb); have n1_ := Aside0.mk (below_step (by repeat (first | (with_reducible first | exact HB.out | apply below_alloc | apply pw_below_drewN | apply below_drew1 | refine below_set ?_ GE118.out) | exact HB.out)) hb); have n2_ := Aside0.mk (hbox); have n3_ := Aside0.mk ((by rw [hg]; exact (below_size (by repeat (first | (with_reducible first | exact HB.out | apply below_alloc | apply pw_below_drewN | apply below_drew1 | refine below_set ?_ GE118.out) | exact HB.out))) : w.heap.size ≤ gb119)); have n4_ := Aside0.mk ((by rw [hg]; exact (below_size (by repeat (first | (with_reducible first | exact HB.out | apply below_alloc | apply pw_below_drewN | apply below_drew1 | refine below_set ?_ GE118.out) | exact HB.out))) : w.heap.size ≤ gb119)); have n5_ := Aside0.mk ((by rw [hg]; exact Nat.ne_of_lt (blk_lt (g := gb118) (o := .cells #[.string a0_0, .int .i64 a0_1, .int .i64 a0_2, .int .i64 a0_3, .string a0_4] 25 (0, 0)) (by (with_reducible repeat (first | refine blk_drewN ?_ _ | refine blk_drew ?_ | refine blk_alloc ?_ _)); exact BK118.out)) : gb118 ≠ gb119)); have n6_ := Aside0.mk ((by rw [hg]; exact Nat.ne_of_gt (blk_lt (g := gb118) (o := .cells #[.string a0_0, .int .i64 a0_1, .int .i64 a0_2, .int .i64 a0_3, .string a0_4] 25 (0, 0)) (by (with_reducible repeat (first | refine blk_drewN ?_ _ | refine blk_drew ?_ | refine blk_alloc ?_ _)); exact BK118.out)) : gb119 ≠ gb118)); clear BK118; clear HB; have BK118 := n0_; have HB := n1_; have BK119 := n2_; have GW119 := n3_; have GE119 := n4_; have NB118_119 := n5_; have NB119_118 := n6_; clear n0_ n1_ n2_ n3_ n4_ n5_ n6_; clear hb hbox hg))
  (try simp only [Act.put, List.setIfInBounds_toArray, List.set_cons_zero, List.set_cons_succ])
  go_cut [13] (fun v13 wc => ∃ (kq : Nat) (x13_2 : Bool), v13 = .bool x13_2 ∧ Aside0 (pred_Holds.j0 kq x13_2 a0_0 a0_1 a0_2 a0_3 a0_4 a1_0 a1_1 a1_2 = some r) ∧ Aside0 (kq ≤ k) ∧ Aside0 (wc.heap[gb118]? = some (.cells #[.string a0_0, .int .i64 a0_1, .int .i64 a0_2, .int .i64 a0_3, .string a0_4] 25 (0, 0))) ∧ Aside0 (wc.heap[gb119]? = some (.cells #[.int .i64 a1_0, .int .i64 a1_1, .string a1_2] 23 (0, 0))) ∧ Aside0 (Below w.heap.size w wc))
  case first =>
    have H := HC3.out
    clear HC3
    replace H := Option.bind_eq_some_iff.mp H
    obtain ⟨t120, A60, H⟩ := H
    replace H : (if t120 = true then ((value_Right.f a1_0 a1_1 a1_2).bind fun t121 => (pred_Holds.j0 k (!t121) a0_0 a0_1 a0_2 a0_3 a0_4 a1_0 a1_1 a1_2)) else (pred_Holds.j0 k true a0_0 a0_1 a0_2 a0_3 a0_4 a1_0 a1_1 a1_2)) = some r := H
    have A6 := Aside0.mk A60
    clear A60
    by_cases c7 : t120 = true
    · subst c7
      have H1 : ((value_Right.f a1_0 a1_1 a1_2).bind fun t121 => (pred_Holds.j0 k (!t121) a0_0 a0_1 a0_2 a0_3 a0_4 a1_0 a1_1 a1_2)) = some r := by rw [if_pos rfl] at H; exact H
      clear H
      have H := H1
      clear H1
      replace H := Option.bind_eq_some_iff.mp H
      obtain ⟨t121, A80, H⟩ := H
      replace H : (pred_Holds.j0 k (!t121) a0_0 a0_1 a0_2 a0_3 a0_4 a1_0 a1_1 a1_2) = some r := H
      have A8 := Aside0.mk A80
      clear A80
      have H' := Aside0.mk H
      clear H
      have hnb9 := NB118_119.out
      have hnc9 := NB119_118.out
      have hcz10_0 : w5.cell? ⟨gb118, 0, none⟩ = some (.string a0_0) := (blk_cell BK118.out 0).trans rfl
      have hcz10_1 : w5.cell? ⟨gb118, 1, none⟩ = some (.int .i64 a0_1) := (blk_cell BK118.out 1).trans rfl
      have hcz10_2 : w5.cell? ⟨gb118, 2, none⟩ = some (.int .i64 a0_2) := (blk_cell BK118.out 2).trans rfl
      have hcz10_3 : w5.cell? ⟨gb118, 3, none⟩ = some (.int .i64 a0_3) := (blk_cell BK118.out 3).trans rfl
      have hcz10_4 : w5.cell? ⟨gb118, 4, none⟩ = some (.string a0_4) := (blk_cell BK118.out 4).trans rfl
      have hfz10_0 := blk_frozen BK118.out 0
      have hfz10_1 := blk_frozen BK118.out 1
      have hfz10_2 := blk_frozen BK118.out 2
      have hfz10_3 := blk_frozen BK118.out 3
      have hfz10_4 := blk_frozen BK118.out 4
      go_wp2_with (first | ((with_reducible refine gate_callee (f := 10) rfl ?_); refine goesL_ (some 7) rfl rfl Try.func10 (by kernel_rfl) rfl #[.agg #[.string a0_0, .int .i64 a0_1, .int .i64 a0_2, .int .i64 a0_3, .string a0_4]] rfl (by (try simp only [List.map_toArray, List.map_cons, List.map_nil]); first | done | rfl | (simp only [List.length_drop, List.length_take]; rfl)) ?_; (with_reducible refine (pred_Right.calls k a0_0 a0_1 a0_2 a0_3 a0_4 true _ A6.out).mono ?_); rintro e w11 ⟨rfl, hb⟩; refine ⟨_, rfl, ?_⟩; have n0_ := Aside0.mk (blk_below (g := gb118) (o := .cells #[.string a0_0, .int .i64 a0_1, .int .i64 a0_2, .int .i64 a0_3, .string a0_4] 25 (0, 0)) (by (with_reducible repeat (first | refine blk_drewN ?_ _ | refine blk_drew ?_ | refine blk_alloc ?_ _)); exact BK118.out) hb); have n1_ := Aside0.mk (blk_below (g := gb119) (o := .cells #[.int .i64 a1_0, .int .i64 a1_1, .string a1_2] 23 (0, 0)) (by (with_reducible repeat (first | refine blk_drewN ?_ _ | refine blk_drew ?_ | refine blk_alloc ?_ _)); exact BK119.out) hb); have n2_ := Aside0.mk (below_step (by repeat (first | (with_reducible first | exact HB.out | apply below_alloc | apply pw_below_drewN | apply below_drew1 | refine below_set ?_ GE118.out | refine below_set ?_ GE119.out) | exact HB.out)) hb); clear BK118; clear BK119; clear HB; have BK118 := n0_; have BK119 := n1_; have HB := n2_; clear n0_ n1_ n2_; (try clear hb); (try clear hb2); (try clear hk); (try clear hi); have hcz12_0 : w11.cell? ⟨gb119, 0, none⟩ = some (.int .i64 a1_0) := (blk_cell BK119.out 0).trans rfl; have hcz12_1 : w11.cell? ⟨gb119, 1, none⟩ = some (.int .i64 a1_1) := (blk_cell BK119.out 1).trans rfl; have hcz12_2 : w11.cell? ⟨gb119, 2, none⟩ = some (.string a1_2) := (blk_cell BK119.out 2).trans rfl; have hfz12_0 := blk_frozen BK119.out 0; have hfz12_1 := blk_frozen BK119.out 1; have hfz12_2 := blk_frozen BK119.out 2) | (go_at_call 18; (with_reducible refine (value_Right.calls a1_0 a1_1 a1_2 t121 _ A8.out).mono ?_); rintro e w13 ⟨rfl, hb⟩; have n0_ := Aside0.mk (blk_below (g := gb118) (o := .cells #[.string a0_0, .int .i64 a0_1, .int .i64 a0_2, .int .i64 a0_3, .string a0_4] 25 (0, 0)) (by (with_reducible repeat (first | refine blk_drewN ?_ _ | refine blk_drew ?_ | refine blk_alloc ?_ _)); exact BK118.out) hb); have n1_ := Aside0.mk (blk_below (g := gb119) (o := .cells #[.int .i64 a1_0, .int .i64 a1_1, .string a1_2] 23 (0, 0)) (by (with_reducible repeat (first | refine blk_drewN ?_ _ | refine blk_drew ?_ | refine blk_alloc ?_ _)); exact BK119.out) hb); have n2_ := Aside0.mk (below_step (by repeat (first | (with_reducible first | exact HB.out | apply below_alloc | apply pw_below_drewN | apply below_drew1 | refine below_set ?_ GE118.out | refine below_set ?_ GE119.out) | exact HB.out)) hb); clear BK118; clear BK119; clear HB; have BK118 := n0_; have BK119 := n1_; have HB := n2_; clear n0_ n1_ n2_; (try clear hb); (try clear hb2); (try clear hk); (try clear hi)))
      go_meet
      case rel => exact ⟨_, (!t121), (by first | rfl | (simp; done) | (simp [*]; done)), H', ⟨by first | omega | exact Nat.le_refl _⟩, ⟨by (with_reducible repeat (first | refine blk_drewN ?_ _ | refine blk_drew ?_ | refine blk_alloc ?_ _)); exact BK118.out⟩, ⟨by (with_reducible repeat (first | refine blk_drewN ?_ _ | refine blk_drew ?_ | refine blk_alloc ?_ _)); exact BK119.out⟩, ⟨by repeat (first | (with_reducible first | exact HB.out | apply below_alloc | apply pw_below_drewN | apply below_drew1 | refine below_set ?_ GE118.out | refine below_set ?_ GE119.out) | exact HB.out)⟩⟩
    · replace c7 := Bool.eq_false_iff.mpr c7
      subst c7
      have H1 : (pred_Holds.j0 k true a0_0 a0_1 a0_2 a0_3 a0_4 a1_0 a1_1 a1_2) = some r := by rw [if_neg (show ¬ (false = true) by decide)] at H; exact H
      clear H
      have H := H1
      clear H1
      have H' := Aside0.mk H
      clear H
      have hnb14 := NB118_119.out
      have hnc14 := NB119_118.out
      have hcz15_0 : w5.cell? ⟨gb118, 0, none⟩ = some (.string a0_0) := (blk_cell BK118.out 0).trans rfl
      have hcz15_1 : w5.cell? ⟨gb118, 1, none⟩ = some (.int .i64 a0_1) := (blk_cell BK118.out 1).trans rfl
      have hcz15_2 : w5.cell? ⟨gb118, 2, none⟩ = some (.int .i64 a0_2) := (blk_cell BK118.out 2).trans rfl
      have hcz15_3 : w5.cell? ⟨gb118, 3, none⟩ = some (.int .i64 a0_3) := (blk_cell BK118.out 3).trans rfl
      have hcz15_4 : w5.cell? ⟨gb118, 4, none⟩ = some (.string a0_4) := (blk_cell BK118.out 4).trans rfl
      have hfz15_0 := blk_frozen BK118.out 0
      have hfz15_1 := blk_frozen BK118.out 1
      have hfz15_2 := blk_frozen BK118.out 2
      have hfz15_3 := blk_frozen BK118.out 3
      have hfz15_4 := blk_frozen BK118.out 4
      go_wp2_with (first | ((with_reducible refine gate_callee (f := 10) rfl ?_); refine goesL_ (some 7) rfl rfl Try.func10 (by kernel_rfl) rfl #[.agg #[.string a0_0, .int .i64 a0_1, .int .i64 a0_2, .int .i64 a0_3, .string a0_4]] rfl (by (try simp only [List.map_toArray, List.map_cons, List.map_nil]); first | done | rfl | (simp only [List.length_drop, List.length_take]; rfl)) ?_; (with_reducible refine (pred_Right.calls k a0_0 a0_1 a0_2 a0_3 a0_4 false _ A6.out).mono ?_); rintro e w16 ⟨rfl, hb⟩; refine ⟨_, rfl, ?_⟩; have n0_ := Aside0.mk (blk_below (g := gb118) (o := .cells #[.string a0_0, .int .i64 a0_1, .int .i64 a0_2, .int .i64 a0_3, .string a0_4] 25 (0, 0)) (by (with_reducible repeat (first | refine blk_drewN ?_ _ | refine blk_drew ?_ | refine blk_alloc ?_ _)); exact BK118.out) hb); have n1_ := Aside0.mk (blk_below (g := gb119) (o := .cells #[.int .i64 a1_0, .int .i64 a1_1, .string a1_2] 23 (0, 0)) (by (with_reducible repeat (first | refine blk_drewN ?_ _ | refine blk_drew ?_ | refine blk_alloc ?_ _)); exact BK119.out) hb); have n2_ := Aside0.mk (below_step (by repeat (first | (with_reducible first | exact HB.out | apply below_alloc | apply pw_below_drewN | apply below_drew1 | refine below_set ?_ GE118.out | refine below_set ?_ GE119.out) | exact HB.out)) hb); clear BK118; clear BK119; clear HB; have BK118 := n0_; have BK119 := n1_; have HB := n2_; clear n0_ n1_ n2_; (try clear hb); (try clear hb2); (try clear hk); (try clear hi)))
      go_meet
      case rel => exact ⟨_, (true), (by first | rfl | (simp; done) | (simp [*]; done)), H', ⟨by first | omega | exact Nat.le_refl _⟩, ⟨by (with_reducible repeat (first | refine blk_drewN ?_ _ | refine blk_drew ?_ | refine blk_alloc ?_ _)); exact BK118.out⟩, ⟨by (with_reducible repeat (first | refine blk_drewN ?_ _ | refine blk_drew ?_ | refine blk_alloc ?_ _)); exact BK119.out⟩, ⟨by repeat (first | (with_reducible first | exact HB.out | apply below_alloc | apply pw_below_drewN | apply below_drew1 | refine below_set ?_ GE118.out | refine below_set ?_ GE119.out) | exact HB.out)⟩⟩
  case rest =>
    clear HC3
    try clear c1
    try clear p2
    try clear c7
    try clear c9
    try clear c10
    try clear c12
    try clear c14
    try clear hcz10_0
    try clear hcz10_1
    try clear hcz10_2
    try clear hcz10_3
    try clear hcz10_4
    try clear hcz12_0
    try clear hcz12_1
    try clear hcz12_2
    try clear hcz15_0
    try clear hcz15_1
    try clear hcz15_2
    try clear hcz15_3
    try clear hcz15_4
    try clear hfz10_0
    try clear hfz10_1
    try clear hfz10_2
    try clear hfz10_3
    try clear hfz10_4
    try clear hfz12_0
    try clear hfz12_1
    try clear hfz12_2
    try clear hfz15_0
    try clear hfz15_1
    try clear hfz15_2
    try clear hfz15_3
    try clear hfz15_4
    obtain ⟨kq, x13_2, rfl, HA, HJ2, BK118, BK119, HB⟩ := hcut
    cases kq with
    | zero => exact absurd HA.out (by simp [pred_Holds.j0])
    | succ kj2 =>
      have H := HA.out
      clear HA
      simp only [pred_Holds.j0] at H
      by_cases c17 : x13_2 = true
      · subst c17
        have H1 : (some false) = some r := by rw [if_pos rfl] at H; exact H
        clear H
        have H := H1
        clear H1
        obtain rfl := Option.some.inj H
        go_wp2
        go_ret
        exact ⟨by first | rfl | (simp [errW_none, errW_some] <;> rfl) | (simp [*, errW_none, errW_some] <;> rfl), by repeat (first | (with_reducible first | exact HB.out | apply below_alloc | apply pw_below_drewN | apply below_drew1 | refine below_set ?_ GE118.out | refine below_set ?_ GE119.out) | exact HB.out)⟩
      · replace c17 := Bool.eq_false_iff.mpr c17
        subst c17
        have H1 : ((value_Compare.f kj2 a1_0 a1_1 a1_2 a0_2 a0_3 a0_4).bind fun t122 => (if a0_1 = 8 then (some true) else (if a1_0 = a0_2 then (if a0_1 = 7 then ((strings_HasPrefix.f a1_2 a0_4).bind fun t123 => (some t123)) else (if t122 < 0 then (if a0_1 = 2 then (some true) else (if a0_1 = 3 then (some true) else (some (a0_1 == 4)))) else (if t122 > 0 then (if a0_1 = 2 then (some true) else (if a0_1 = 5 then (some true) else (some (a0_1 == 6)))) else (if a0_1 = 1 then (some true) else (if a0_1 = 4 then (some true) else (some (a0_1 == 6))))))) else (some false)))) = some r := by rw [if_neg (show ¬ (false = true) by decide)] at H; exact H
        clear H
        have H := H1
        clear H1
        replace H := Option.bind_eq_some_iff.mp H
        obtain ⟨t122, A180, H⟩ := H
        replace H : (if a0_1 = 8 then (some true) else (if a1_0 = a0_2 then (if a0_1 = 7 then ((strings_HasPrefix.f a1_2 a0_4).bind fun t123 => (some t123)) else (if t122 < 0 then (if a0_1 = 2 then (some true) else (if a0_1 = 3 then (some true) else (some (a0_1 == 4)))) else (if t122 > 0 then (if a0_1 = 2 then (some true) else (if a0_1 = 5 then (some true) else (some (a0_1 == 6)))) else (if a0_1 = 1 then (some true) else (if a0_1 = 4 then (some true) else (some (a0_1 == 6))))))) else (some false))) = some r := H
        have A18 := Aside0.mk A180
        clear A180
        by_cases c19 : a0_1 = 8
        · rw [if_pos c19] at H
          have c19b0 : (a0_1 == 8) = true := beq_iff_eq.mpr c19
          have c19b1 : (a0_1 != 8) = false := bne_eq_false_iff_eq.mpr c19
          clear c19
          obtain rfl := Option.some.inj H
          have hnb20 := NB119_118.out
          have hnc20 := NB118_119.out
          have hcz21_0 : wc.cell? ⟨gb119, 0, none⟩ = some (.int .i64 a1_0) := (blk_cell BK119.out 0).trans rfl
          have hcz21_1 : wc.cell? ⟨gb119, 1, none⟩ = some (.int .i64 a1_1) := (blk_cell BK119.out 1).trans rfl
          have hcz21_2 : wc.cell? ⟨gb119, 2, none⟩ = some (.string a1_2) := (blk_cell BK119.out 2).trans rfl
          have hfz21_0 := blk_frozen BK119.out 0
          have hfz21_1 := blk_frozen BK119.out 1
          have hfz21_2 := blk_frozen BK119.out 2
          have hcz22_0 : wc.cell? ⟨gb118, 0, none⟩ = some (.string a0_0) := (blk_cell BK118.out 0).trans rfl
          have hcz22_1 : wc.cell? ⟨gb118, 1, none⟩ = some (.int .i64 a0_1) := (blk_cell BK118.out 1).trans rfl
          have hcz22_2 : wc.cell? ⟨gb118, 2, none⟩ = some (.int .i64 a0_2) := (blk_cell BK118.out 2).trans rfl
          have hcz22_3 : wc.cell? ⟨gb118, 3, none⟩ = some (.int .i64 a0_3) := (blk_cell BK118.out 3).trans rfl
          have hcz22_4 : wc.cell? ⟨gb118, 4, none⟩ = some (.string a0_4) := (blk_cell BK118.out 4).trans rfl
          have hfz22_0 := blk_frozen BK118.out 0
          have hfz22_1 := blk_frozen BK118.out 1
          have hfz22_2 := blk_frozen BK118.out 2
          have hfz22_3 := blk_frozen BK118.out 3
          have hfz22_4 := blk_frozen BK118.out 4
          go_wp2_with (first | ((with_reducible refine gate_callee (f := 26) rfl ?_); refine goesL_ (some 17) rfl rfl Try.func26 (by kernel_rfl) rfl #[.agg #[.int .i64 a1_0, .int .i64 a1_1, .string a1_2], .agg #[.int .i64 a0_2, .int .i64 a0_3, .string a0_4]] rfl (by (try simp only [List.map_toArray, List.map_cons, List.map_nil]); first | done | rfl | (simp only [List.length_drop, List.length_take]; rfl)) ?_; (with_reducible refine (value_Compare.calls kj2 a1_0 a1_1 a1_2 a0_2 a0_3 a0_4 t122 _ A18.out).mono ?_); rintro e w23 ⟨rfl, hb⟩; refine ⟨_, rfl, ?_⟩; have n0_ := Aside0.mk (blk_below (g := gb118) (o := .cells #[.string a0_0, .int .i64 a0_1, .int .i64 a0_2, .int .i64 a0_3, .string a0_4] 25 (0, 0)) (by (with_reducible repeat (first | refine blk_drewN ?_ _ | refine blk_drew ?_ | refine blk_alloc ?_ _)); exact BK118.out) hb); have n1_ := Aside0.mk (blk_below (g := gb119) (o := .cells #[.int .i64 a1_0, .int .i64 a1_1, .string a1_2] 23 (0, 0)) (by (with_reducible repeat (first | refine blk_drewN ?_ _ | refine blk_drew ?_ | refine blk_alloc ?_ _)); exact BK119.out) hb); have n2_ := Aside0.mk (below_step (by repeat (first | (with_reducible first | exact HB.out | apply below_alloc | apply pw_below_drewN | apply below_drew1 | refine below_set ?_ GE118.out | refine below_set ?_ GE119.out) | exact HB.out)) hb); clear BK118; clear BK119; clear HB; have BK118 := n0_; have BK119 := n1_; have HB := n2_; clear n0_ n1_ n2_; (try clear hb); (try clear hb2); (try clear hk); (try clear hi); have hcz24_0 : w23.cell? ⟨gb118, 0, none⟩ = some (.string a0_0) := (blk_cell BK118.out 0).trans rfl; have hcz24_1 : w23.cell? ⟨gb118, 1, none⟩ = some (.int .i64 a0_1) := (blk_cell BK118.out 1).trans rfl; have hcz24_2 : w23.cell? ⟨gb118, 2, none⟩ = some (.int .i64 a0_2) := (blk_cell BK118.out 2).trans rfl; have hcz24_3 : w23.cell? ⟨gb118, 3, none⟩ = some (.int .i64 a0_3) := (blk_cell BK118.out 3).trans rfl; have hcz24_4 : w23.cell? ⟨gb118, 4, none⟩ = some (.string a0_4) := (blk_cell BK118.out 4).trans rfl; have hfz24_0 := blk_frozen BK118.out 0; have hfz24_1 := blk_frozen BK118.out 1; have hfz24_2 := blk_frozen BK118.out 2; have hfz24_3 := blk_frozen BK118.out 3; have hfz24_4 := blk_frozen BK118.out 4))
          go_ret
          exact ⟨by first | rfl | (simp [errW_none, errW_some] <;> rfl) | (simp [*, errW_none, errW_some] <;> rfl), by repeat (first | (with_reducible first | exact HB.out | apply below_alloc | apply pw_below_drewN | apply below_drew1 | refine below_set ?_ GE118.out | refine below_set ?_ GE119.out) | exact HB.out)⟩
        · rw [if_neg c19] at H
          have c19b0 : (a0_1 == 8) = false := beq_eq_false_iff_ne.mpr c19
          have c19b1 : (a0_1 != 8) = true := bne_iff_ne.mpr c19
          by_cases c25 : a1_0 = a0_2
          · rw [if_pos c25] at H
            have c25b0 : (a1_0 == a0_2) = true := beq_iff_eq.mpr c25
            have c25b1 : (a1_0 != a0_2) = false := bne_eq_false_iff_eq.mpr c25
            clear c25
            by_cases c26 : a0_1 = 7
            · rw [if_pos c26] at H
              have c26b0 : (a0_1 == 7) = true := beq_iff_eq.mpr c26
              have c26b1 : (a0_1 != 7) = false := bne_eq_false_iff_eq.mpr c26
              clear c26
              replace H := Option.bind_eq_some_iff.mp H
              obtain ⟨t123, A270, H⟩ := H
              replace H : (some t123) = some r := H
              have A27 := Aside0.mk A270
              clear A270
              obtain rfl := Option.some.inj H
              have hnb28 := NB119_118.out
              have hnc28 := NB118_119.out
              have hcz29_0 : wc.cell? ⟨gb119, 0, none⟩ = some (.int .i64 a1_0) := (blk_cell BK119.out 0).trans rfl
              have hcz29_1 : wc.cell? ⟨gb119, 1, none⟩ = some (.int .i64 a1_1) := (blk_cell BK119.out 1).trans rfl
              have hcz29_2 : wc.cell? ⟨gb119, 2, none⟩ = some (.string a1_2) := (blk_cell BK119.out 2).trans rfl
              have hfz29_0 := blk_frozen BK119.out 0
              have hfz29_1 := blk_frozen BK119.out 1
              have hfz29_2 := blk_frozen BK119.out 2
              have hcz30_0 : wc.cell? ⟨gb118, 0, none⟩ = some (.string a0_0) := (blk_cell BK118.out 0).trans rfl
              have hcz30_1 : wc.cell? ⟨gb118, 1, none⟩ = some (.int .i64 a0_1) := (blk_cell BK118.out 1).trans rfl
              have hcz30_2 : wc.cell? ⟨gb118, 2, none⟩ = some (.int .i64 a0_2) := (blk_cell BK118.out 2).trans rfl
              have hcz30_3 : wc.cell? ⟨gb118, 3, none⟩ = some (.int .i64 a0_3) := (blk_cell BK118.out 3).trans rfl
              have hcz30_4 : wc.cell? ⟨gb118, 4, none⟩ = some (.string a0_4) := (blk_cell BK118.out 4).trans rfl
              have hfz30_0 := blk_frozen BK118.out 0
              have hfz30_1 := blk_frozen BK118.out 1
              have hfz30_2 := blk_frozen BK118.out 2
              have hfz30_3 := blk_frozen BK118.out 3
              have hfz30_4 := blk_frozen BK118.out 4
              go_wp2_with (first | ((with_reducible refine gate_callee (f := 26) rfl ?_); refine goesL_ (some 17) rfl rfl Try.func26 (by kernel_rfl) rfl #[.agg #[.int .i64 a1_0, .int .i64 a1_1, .string a1_2], .agg #[.int .i64 a0_2, .int .i64 a0_3, .string a0_4]] rfl (by (try simp only [List.map_toArray, List.map_cons, List.map_nil]); first | done | rfl | (simp only [List.length_drop, List.length_take]; rfl)) ?_; (with_reducible refine (value_Compare.calls kj2 a1_0 a1_1 a1_2 a0_2 a0_3 a0_4 t122 _ A18.out).mono ?_); rintro e w31 ⟨rfl, hb⟩; refine ⟨_, rfl, ?_⟩; have n0_ := Aside0.mk (blk_below (g := gb118) (o := .cells #[.string a0_0, .int .i64 a0_1, .int .i64 a0_2, .int .i64 a0_3, .string a0_4] 25 (0, 0)) (by (with_reducible repeat (first | refine blk_drewN ?_ _ | refine blk_drew ?_ | refine blk_alloc ?_ _)); exact BK118.out) hb); have n1_ := Aside0.mk (blk_below (g := gb119) (o := .cells #[.int .i64 a1_0, .int .i64 a1_1, .string a1_2] 23 (0, 0)) (by (with_reducible repeat (first | refine blk_drewN ?_ _ | refine blk_drew ?_ | refine blk_alloc ?_ _)); exact BK119.out) hb); have n2_ := Aside0.mk (below_step (by repeat (first | (with_reducible first | exact HB.out | apply below_alloc | apply pw_below_drewN | apply below_drew1 | refine below_set ?_ GE118.out | refine below_set ?_ GE119.out) | exact HB.out)) hb); clear BK118; clear BK119; clear HB; have BK118 := n0_; have BK119 := n1_; have HB := n2_; clear n0_ n1_ n2_; (try clear hb); (try clear hb2); (try clear hk); (try clear hi); have hcz32_0 : w31.cell? ⟨gb118, 0, none⟩ = some (.string a0_0) := (blk_cell BK118.out 0).trans rfl; have hcz32_1 : w31.cell? ⟨gb118, 1, none⟩ = some (.int .i64 a0_1) := (blk_cell BK118.out 1).trans rfl; have hcz32_2 : w31.cell? ⟨gb118, 2, none⟩ = some (.int .i64 a0_2) := (blk_cell BK118.out 2).trans rfl; have hcz32_3 : w31.cell? ⟨gb118, 3, none⟩ = some (.int .i64 a0_3) := (blk_cell BK118.out 3).trans rfl; have hcz32_4 : w31.cell? ⟨gb118, 4, none⟩ = some (.string a0_4) := (blk_cell BK118.out 4).trans rfl; have hfz32_0 := blk_frozen BK118.out 0; have hfz32_1 := blk_frozen BK118.out 1; have hfz32_2 := blk_frozen BK118.out 2; have hfz32_3 := blk_frozen BK118.out 3; have hfz32_4 := blk_frozen BK118.out 4; have hcz33_0 : w31.cell? ⟨gb119, 0, none⟩ = some (.int .i64 a1_0) := (blk_cell BK119.out 0).trans rfl; have hcz33_1 : w31.cell? ⟨gb119, 1, none⟩ = some (.int .i64 a1_1) := (blk_cell BK119.out 1).trans rfl; have hcz33_2 : w31.cell? ⟨gb119, 2, none⟩ = some (.string a1_2) := (blk_cell BK119.out 2).trans rfl; have hfz33_0 := blk_frozen BK119.out 0; have hfz33_1 := blk_frozen BK119.out 1; have hfz33_2 := blk_frozen BK119.out 2) | ((with_reducible refine gate_callee (f := 27) rfl ?_); refine goesL_ (some 38) rfl rfl Try.func27 (by kernel_rfl) rfl #[.string a1_2, .string a0_4] rfl (by (try simp only [List.map_toArray, List.map_cons, List.map_nil]); first | done | rfl | (simp only [List.length_drop, List.length_take]; rfl)) ?_; (with_reducible refine (strings_HasPrefix.calls a1_2 a0_4 t123 _ A27.out).mono ?_); rintro e w' ⟨rfl, ⟨nd, rfl⟩⟩; refine ⟨_, rfl, ?_⟩))
              go_ret
              exact ⟨by first | rfl | (simp [errW_none, errW_some] <;> rfl) | (simp [*, errW_none, errW_some] <;> rfl), by repeat (first | (with_reducible first | exact HB.out | apply below_alloc | apply pw_below_drewN | apply below_drew1 | refine below_set ?_ GE118.out | refine below_set ?_ GE119.out) | exact HB.out)⟩
            · rw [if_neg c26] at H
              have c26b0 : (a0_1 == 7) = false := beq_eq_false_iff_ne.mpr c26
              have c26b1 : (a0_1 != 7) = true := bne_iff_ne.mpr c26
              by_cases c34 : t122 < 0
              · rw [if_pos c34] at H
                have c34b0 : decide (t122 < 0) = true := decide_eq_true c34
                clear c34
                by_cases c35 : a0_1 = 2
                · rw [if_pos c35] at H
                  have c35b0 : (a0_1 == 2) = true := beq_iff_eq.mpr c35
                  have c35b1 : (a0_1 != 2) = false := bne_eq_false_iff_eq.mpr c35
                  clear c35
                  obtain rfl := Option.some.inj H
                  have hnb36 := NB119_118.out
                  have hnc36 := NB118_119.out
                  have hcz37_0 : wc.cell? ⟨gb119, 0, none⟩ = some (.int .i64 a1_0) := (blk_cell BK119.out 0).trans rfl
                  have hcz37_1 : wc.cell? ⟨gb119, 1, none⟩ = some (.int .i64 a1_1) := (blk_cell BK119.out 1).trans rfl
                  have hcz37_2 : wc.cell? ⟨gb119, 2, none⟩ = some (.string a1_2) := (blk_cell BK119.out 2).trans rfl
                  have hfz37_0 := blk_frozen BK119.out 0
                  have hfz37_1 := blk_frozen BK119.out 1
                  have hfz37_2 := blk_frozen BK119.out 2
                  have hcz38_0 : wc.cell? ⟨gb118, 0, none⟩ = some (.string a0_0) := (blk_cell BK118.out 0).trans rfl
                  have hcz38_1 : wc.cell? ⟨gb118, 1, none⟩ = some (.int .i64 a0_1) := (blk_cell BK118.out 1).trans rfl
                  have hcz38_2 : wc.cell? ⟨gb118, 2, none⟩ = some (.int .i64 a0_2) := (blk_cell BK118.out 2).trans rfl
                  have hcz38_3 : wc.cell? ⟨gb118, 3, none⟩ = some (.int .i64 a0_3) := (blk_cell BK118.out 3).trans rfl
                  have hcz38_4 : wc.cell? ⟨gb118, 4, none⟩ = some (.string a0_4) := (blk_cell BK118.out 4).trans rfl
                  have hfz38_0 := blk_frozen BK118.out 0
                  have hfz38_1 := blk_frozen BK118.out 1
                  have hfz38_2 := blk_frozen BK118.out 2
                  have hfz38_3 := blk_frozen BK118.out 3
                  have hfz38_4 := blk_frozen BK118.out 4
                  go_wp2_with (first | ((with_reducible refine gate_callee (f := 26) rfl ?_); refine goesL_ (some 17) rfl rfl Try.func26 (by kernel_rfl) rfl #[.agg #[.int .i64 a1_0, .int .i64 a1_1, .string a1_2], .agg #[.int .i64 a0_2, .int .i64 a0_3, .string a0_4]] rfl (by (try simp only [List.map_toArray, List.map_cons, List.map_nil]); first | done | rfl | (simp only [List.length_drop, List.length_take]; rfl)) ?_; (with_reducible refine (value_Compare.calls kj2 a1_0 a1_1 a1_2 a0_2 a0_3 a0_4 t122 _ A18.out).mono ?_); rintro e w39 ⟨rfl, hb⟩; refine ⟨_, rfl, ?_⟩; have n0_ := Aside0.mk (blk_below (g := gb118) (o := .cells #[.string a0_0, .int .i64 a0_1, .int .i64 a0_2, .int .i64 a0_3, .string a0_4] 25 (0, 0)) (by (with_reducible repeat (first | refine blk_drewN ?_ _ | refine blk_drew ?_ | refine blk_alloc ?_ _)); exact BK118.out) hb); have n1_ := Aside0.mk (blk_below (g := gb119) (o := .cells #[.int .i64 a1_0, .int .i64 a1_1, .string a1_2] 23 (0, 0)) (by (with_reducible repeat (first | refine blk_drewN ?_ _ | refine blk_drew ?_ | refine blk_alloc ?_ _)); exact BK119.out) hb); have n2_ := Aside0.mk (below_step (by repeat (first | (with_reducible first | exact HB.out | apply below_alloc | apply pw_below_drewN | apply below_drew1 | refine below_set ?_ GE118.out | refine below_set ?_ GE119.out) | exact HB.out)) hb); clear BK118; clear BK119; clear HB; have BK118 := n0_; have BK119 := n1_; have HB := n2_; clear n0_ n1_ n2_; (try clear hb); (try clear hb2); (try clear hk); (try clear hi); have hcz40_0 : w39.cell? ⟨gb118, 0, none⟩ = some (.string a0_0) := (blk_cell BK118.out 0).trans rfl; have hcz40_1 : w39.cell? ⟨gb118, 1, none⟩ = some (.int .i64 a0_1) := (blk_cell BK118.out 1).trans rfl; have hcz40_2 : w39.cell? ⟨gb118, 2, none⟩ = some (.int .i64 a0_2) := (blk_cell BK118.out 2).trans rfl; have hcz40_3 : w39.cell? ⟨gb118, 3, none⟩ = some (.int .i64 a0_3) := (blk_cell BK118.out 3).trans rfl; have hcz40_4 : w39.cell? ⟨gb118, 4, none⟩ = some (.string a0_4) := (blk_cell BK118.out 4).trans rfl; have hfz40_0 := blk_frozen BK118.out 0; have hfz40_1 := blk_frozen BK118.out 1; have hfz40_2 := blk_frozen BK118.out 2; have hfz40_3 := blk_frozen BK118.out 3; have hfz40_4 := blk_frozen BK118.out 4; have hcz41_0 : w39.cell? ⟨gb119, 0, none⟩ = some (.int .i64 a1_0) := (blk_cell BK119.out 0).trans rfl; have hcz41_1 : w39.cell? ⟨gb119, 1, none⟩ = some (.int .i64 a1_1) := (blk_cell BK119.out 1).trans rfl; have hcz41_2 : w39.cell? ⟨gb119, 2, none⟩ = some (.string a1_2) := (blk_cell BK119.out 2).trans rfl; have hfz41_0 := blk_frozen BK119.out 0; have hfz41_1 := blk_frozen BK119.out 1; have hfz41_2 := blk_frozen BK119.out 2))
                  go_ret
                  exact ⟨by first | rfl | (simp [errW_none, errW_some] <;> rfl) | (simp [*, errW_none, errW_some] <;> rfl), by repeat (first | (with_reducible first | exact HB.out | apply below_alloc | apply pw_below_drewN | apply below_drew1 | refine below_set ?_ GE118.out | refine below_set ?_ GE119.out) | exact HB.out)⟩
                · rw [if_neg c35] at H
                  have c35b0 : (a0_1 == 2) = false := beq_eq_false_iff_ne.mpr c35
                  have c35b1 : (a0_1 != 2) = true := bne_iff_ne.mpr c35
                  by_cases c42 : a0_1 = 3
                  · rw [if_pos c42] at H
                    have c42b0 : (a0_1 == 3) = true := beq_iff_eq.mpr c42
                    have c42b1 : (a0_1 != 3) = false := bne_eq_false_iff_eq.mpr c42
                    clear c42
                    obtain rfl := Option.some.inj H
                    have hnb43 := NB119_118.out
                    have hnc43 := NB118_119.out
                    have hcz44_0 : wc.cell? ⟨gb119, 0, none⟩ = some (.int .i64 a1_0) := (blk_cell BK119.out 0).trans rfl
                    have hcz44_1 : wc.cell? ⟨gb119, 1, none⟩ = some (.int .i64 a1_1) := (blk_cell BK119.out 1).trans rfl
                    have hcz44_2 : wc.cell? ⟨gb119, 2, none⟩ = some (.string a1_2) := (blk_cell BK119.out 2).trans rfl
                    have hfz44_0 := blk_frozen BK119.out 0
                    have hfz44_1 := blk_frozen BK119.out 1
                    have hfz44_2 := blk_frozen BK119.out 2
                    have hcz45_0 : wc.cell? ⟨gb118, 0, none⟩ = some (.string a0_0) := (blk_cell BK118.out 0).trans rfl
                    have hcz45_1 : wc.cell? ⟨gb118, 1, none⟩ = some (.int .i64 a0_1) := (blk_cell BK118.out 1).trans rfl
                    have hcz45_2 : wc.cell? ⟨gb118, 2, none⟩ = some (.int .i64 a0_2) := (blk_cell BK118.out 2).trans rfl
                    have hcz45_3 : wc.cell? ⟨gb118, 3, none⟩ = some (.int .i64 a0_3) := (blk_cell BK118.out 3).trans rfl
                    have hcz45_4 : wc.cell? ⟨gb118, 4, none⟩ = some (.string a0_4) := (blk_cell BK118.out 4).trans rfl
                    have hfz45_0 := blk_frozen BK118.out 0
                    have hfz45_1 := blk_frozen BK118.out 1
                    have hfz45_2 := blk_frozen BK118.out 2
                    have hfz45_3 := blk_frozen BK118.out 3
                    have hfz45_4 := blk_frozen BK118.out 4
                    go_wp2_with (first | ((with_reducible refine gate_callee (f := 26) rfl ?_); refine goesL_ (some 17) rfl rfl Try.func26 (by kernel_rfl) rfl #[.agg #[.int .i64 a1_0, .int .i64 a1_1, .string a1_2], .agg #[.int .i64 a0_2, .int .i64 a0_3, .string a0_4]] rfl (by (try simp only [List.map_toArray, List.map_cons, List.map_nil]); first | done | rfl | (simp only [List.length_drop, List.length_take]; rfl)) ?_; (with_reducible refine (value_Compare.calls kj2 a1_0 a1_1 a1_2 a0_2 a0_3 a0_4 t122 _ A18.out).mono ?_); rintro e w46 ⟨rfl, hb⟩; refine ⟨_, rfl, ?_⟩; have n0_ := Aside0.mk (blk_below (g := gb118) (o := .cells #[.string a0_0, .int .i64 a0_1, .int .i64 a0_2, .int .i64 a0_3, .string a0_4] 25 (0, 0)) (by (with_reducible repeat (first | refine blk_drewN ?_ _ | refine blk_drew ?_ | refine blk_alloc ?_ _)); exact BK118.out) hb); have n1_ := Aside0.mk (blk_below (g := gb119) (o := .cells #[.int .i64 a1_0, .int .i64 a1_1, .string a1_2] 23 (0, 0)) (by (with_reducible repeat (first | refine blk_drewN ?_ _ | refine blk_drew ?_ | refine blk_alloc ?_ _)); exact BK119.out) hb); have n2_ := Aside0.mk (below_step (by repeat (first | (with_reducible first | exact HB.out | apply below_alloc | apply pw_below_drewN | apply below_drew1 | refine below_set ?_ GE118.out | refine below_set ?_ GE119.out) | exact HB.out)) hb); clear BK118; clear BK119; clear HB; have BK118 := n0_; have BK119 := n1_; have HB := n2_; clear n0_ n1_ n2_; (try clear hb); (try clear hb2); (try clear hk); (try clear hi); have hcz47_0 : w46.cell? ⟨gb118, 0, none⟩ = some (.string a0_0) := (blk_cell BK118.out 0).trans rfl; have hcz47_1 : w46.cell? ⟨gb118, 1, none⟩ = some (.int .i64 a0_1) := (blk_cell BK118.out 1).trans rfl; have hcz47_2 : w46.cell? ⟨gb118, 2, none⟩ = some (.int .i64 a0_2) := (blk_cell BK118.out 2).trans rfl; have hcz47_3 : w46.cell? ⟨gb118, 3, none⟩ = some (.int .i64 a0_3) := (blk_cell BK118.out 3).trans rfl; have hcz47_4 : w46.cell? ⟨gb118, 4, none⟩ = some (.string a0_4) := (blk_cell BK118.out 4).trans rfl; have hfz47_0 := blk_frozen BK118.out 0; have hfz47_1 := blk_frozen BK118.out 1; have hfz47_2 := blk_frozen BK118.out 2; have hfz47_3 := blk_frozen BK118.out 3; have hfz47_4 := blk_frozen BK118.out 4; have hcz48_0 : w46.cell? ⟨gb119, 0, none⟩ = some (.int .i64 a1_0) := (blk_cell BK119.out 0).trans rfl; have hcz48_1 : w46.cell? ⟨gb119, 1, none⟩ = some (.int .i64 a1_1) := (blk_cell BK119.out 1).trans rfl; have hcz48_2 : w46.cell? ⟨gb119, 2, none⟩ = some (.string a1_2) := (blk_cell BK119.out 2).trans rfl; have hfz48_0 := blk_frozen BK119.out 0; have hfz48_1 := blk_frozen BK119.out 1; have hfz48_2 := blk_frozen BK119.out 2))
                    go_ret
                    exact ⟨by first | rfl | (simp [errW_none, errW_some] <;> rfl) | (simp [*, errW_none, errW_some] <;> rfl), by repeat (first | (with_reducible first | exact HB.out | apply below_alloc | apply pw_below_drewN | apply below_drew1 | refine below_set ?_ GE118.out | refine below_set ?_ GE119.out) | exact HB.out)⟩
                  · rw [if_neg c42] at H
                    have c42b0 : (a0_1 == 3) = false := beq_eq_false_iff_ne.mpr c42
                    have c42b1 : (a0_1 != 3) = true := bne_iff_ne.mpr c42
                    obtain rfl := Option.some.inj H
                    have hnb49 := NB119_118.out
                    have hnc49 := NB118_119.out
                    have hcz50_0 : wc.cell? ⟨gb119, 0, none⟩ = some (.int .i64 a1_0) := (blk_cell BK119.out 0).trans rfl
                    have hcz50_1 : wc.cell? ⟨gb119, 1, none⟩ = some (.int .i64 a1_1) := (blk_cell BK119.out 1).trans rfl
                    have hcz50_2 : wc.cell? ⟨gb119, 2, none⟩ = some (.string a1_2) := (blk_cell BK119.out 2).trans rfl
                    have hfz50_0 := blk_frozen BK119.out 0
                    have hfz50_1 := blk_frozen BK119.out 1
                    have hfz50_2 := blk_frozen BK119.out 2
                    have hcz51_0 : wc.cell? ⟨gb118, 0, none⟩ = some (.string a0_0) := (blk_cell BK118.out 0).trans rfl
                    have hcz51_1 : wc.cell? ⟨gb118, 1, none⟩ = some (.int .i64 a0_1) := (blk_cell BK118.out 1).trans rfl
                    have hcz51_2 : wc.cell? ⟨gb118, 2, none⟩ = some (.int .i64 a0_2) := (blk_cell BK118.out 2).trans rfl
                    have hcz51_3 : wc.cell? ⟨gb118, 3, none⟩ = some (.int .i64 a0_3) := (blk_cell BK118.out 3).trans rfl
                    have hcz51_4 : wc.cell? ⟨gb118, 4, none⟩ = some (.string a0_4) := (blk_cell BK118.out 4).trans rfl
                    have hfz51_0 := blk_frozen BK118.out 0
                    have hfz51_1 := blk_frozen BK118.out 1
                    have hfz51_2 := blk_frozen BK118.out 2
                    have hfz51_3 := blk_frozen BK118.out 3
                    have hfz51_4 := blk_frozen BK118.out 4
                    go_wp2_with (first | ((with_reducible refine gate_callee (f := 26) rfl ?_); refine goesL_ (some 17) rfl rfl Try.func26 (by kernel_rfl) rfl #[.agg #[.int .i64 a1_0, .int .i64 a1_1, .string a1_2], .agg #[.int .i64 a0_2, .int .i64 a0_3, .string a0_4]] rfl (by (try simp only [List.map_toArray, List.map_cons, List.map_nil]); first | done | rfl | (simp only [List.length_drop, List.length_take]; rfl)) ?_; (with_reducible refine (value_Compare.calls kj2 a1_0 a1_1 a1_2 a0_2 a0_3 a0_4 t122 _ A18.out).mono ?_); rintro e w52 ⟨rfl, hb⟩; refine ⟨_, rfl, ?_⟩; have n0_ := Aside0.mk (blk_below (g := gb118) (o := .cells #[.string a0_0, .int .i64 a0_1, .int .i64 a0_2, .int .i64 a0_3, .string a0_4] 25 (0, 0)) (by (with_reducible repeat (first | refine blk_drewN ?_ _ | refine blk_drew ?_ | refine blk_alloc ?_ _)); exact BK118.out) hb); have n1_ := Aside0.mk (blk_below (g := gb119) (o := .cells #[.int .i64 a1_0, .int .i64 a1_1, .string a1_2] 23 (0, 0)) (by (with_reducible repeat (first | refine blk_drewN ?_ _ | refine blk_drew ?_ | refine blk_alloc ?_ _)); exact BK119.out) hb); have n2_ := Aside0.mk (below_step (by repeat (first | (with_reducible first | exact HB.out | apply below_alloc | apply pw_below_drewN | apply below_drew1 | refine below_set ?_ GE118.out | refine below_set ?_ GE119.out) | exact HB.out)) hb); clear BK118; clear BK119; clear HB; have BK118 := n0_; have BK119 := n1_; have HB := n2_; clear n0_ n1_ n2_; (try clear hb); (try clear hb2); (try clear hk); (try clear hi); have hcz53_0 : w52.cell? ⟨gb118, 0, none⟩ = some (.string a0_0) := (blk_cell BK118.out 0).trans rfl; have hcz53_1 : w52.cell? ⟨gb118, 1, none⟩ = some (.int .i64 a0_1) := (blk_cell BK118.out 1).trans rfl; have hcz53_2 : w52.cell? ⟨gb118, 2, none⟩ = some (.int .i64 a0_2) := (blk_cell BK118.out 2).trans rfl; have hcz53_3 : w52.cell? ⟨gb118, 3, none⟩ = some (.int .i64 a0_3) := (blk_cell BK118.out 3).trans rfl; have hcz53_4 : w52.cell? ⟨gb118, 4, none⟩ = some (.string a0_4) := (blk_cell BK118.out 4).trans rfl; have hfz53_0 := blk_frozen BK118.out 0; have hfz53_1 := blk_frozen BK118.out 1; have hfz53_2 := blk_frozen BK118.out 2; have hfz53_3 := blk_frozen BK118.out 3; have hfz53_4 := blk_frozen BK118.out 4; have hcz54_0 : w52.cell? ⟨gb119, 0, none⟩ = some (.int .i64 a1_0) := (blk_cell BK119.out 0).trans rfl; have hcz54_1 : w52.cell? ⟨gb119, 1, none⟩ = some (.int .i64 a1_1) := (blk_cell BK119.out 1).trans rfl; have hcz54_2 : w52.cell? ⟨gb119, 2, none⟩ = some (.string a1_2) := (blk_cell BK119.out 2).trans rfl; have hfz54_0 := blk_frozen BK119.out 0; have hfz54_1 := blk_frozen BK119.out 1; have hfz54_2 := blk_frozen BK119.out 2))
                    go_ret
                    exact ⟨by first | rfl | (simp [errW_none, errW_some] <;> rfl) | (simp [*, errW_none, errW_some] <;> rfl), by repeat (first | (with_reducible first | exact HB.out | apply below_alloc | apply pw_below_drewN | apply below_drew1 | refine below_set ?_ GE118.out | refine below_set ?_ GE119.out) | exact HB.out)⟩
              · rw [if_neg c34] at H
                have c34b0 : decide (t122 < 0) = false := decide_eq_false c34
                clear c34
                by_cases c55 : t122 > 0
                · rw [if_pos c55] at H
                  have c55b0 : decide (0 < t122) = true := decide_eq_true c55
                  clear c55
                  by_cases c56 : a0_1 = 2
                  · rw [if_pos c56] at H
                    have c56b0 : (a0_1 == 2) = true := beq_iff_eq.mpr c56
                    have c56b1 : (a0_1 != 2) = false := bne_eq_false_iff_eq.mpr c56
                    clear c56
                    obtain rfl := Option.some.inj H
                    have hnb57 := NB119_118.out
                    have hnc57 := NB118_119.out
                    have hcz58_0 : wc.cell? ⟨gb119, 0, none⟩ = some (.int .i64 a1_0) := (blk_cell BK119.out 0).trans rfl
                    have hcz58_1 : wc.cell? ⟨gb119, 1, none⟩ = some (.int .i64 a1_1) := (blk_cell BK119.out 1).trans rfl
                    have hcz58_2 : wc.cell? ⟨gb119, 2, none⟩ = some (.string a1_2) := (blk_cell BK119.out 2).trans rfl
                    have hfz58_0 := blk_frozen BK119.out 0
                    have hfz58_1 := blk_frozen BK119.out 1
                    have hfz58_2 := blk_frozen BK119.out 2
                    have hcz59_0 : wc.cell? ⟨gb118, 0, none⟩ = some (.string a0_0) := (blk_cell BK118.out 0).trans rfl
                    have hcz59_1 : wc.cell? ⟨gb118, 1, none⟩ = some (.int .i64 a0_1) := (blk_cell BK118.out 1).trans rfl
                    have hcz59_2 : wc.cell? ⟨gb118, 2, none⟩ = some (.int .i64 a0_2) := (blk_cell BK118.out 2).trans rfl
                    have hcz59_3 : wc.cell? ⟨gb118, 3, none⟩ = some (.int .i64 a0_3) := (blk_cell BK118.out 3).trans rfl
                    have hcz59_4 : wc.cell? ⟨gb118, 4, none⟩ = some (.string a0_4) := (blk_cell BK118.out 4).trans rfl
                    have hfz59_0 := blk_frozen BK118.out 0
                    have hfz59_1 := blk_frozen BK118.out 1
                    have hfz59_2 := blk_frozen BK118.out 2
                    have hfz59_3 := blk_frozen BK118.out 3
                    have hfz59_4 := blk_frozen BK118.out 4
                    go_wp2_with (first | ((with_reducible refine gate_callee (f := 26) rfl ?_); refine goesL_ (some 17) rfl rfl Try.func26 (by kernel_rfl) rfl #[.agg #[.int .i64 a1_0, .int .i64 a1_1, .string a1_2], .agg #[.int .i64 a0_2, .int .i64 a0_3, .string a0_4]] rfl (by (try simp only [List.map_toArray, List.map_cons, List.map_nil]); first | done | rfl | (simp only [List.length_drop, List.length_take]; rfl)) ?_; (with_reducible refine (value_Compare.calls kj2 a1_0 a1_1 a1_2 a0_2 a0_3 a0_4 t122 _ A18.out).mono ?_); rintro e w60 ⟨rfl, hb⟩; refine ⟨_, rfl, ?_⟩; have n0_ := Aside0.mk (blk_below (g := gb118) (o := .cells #[.string a0_0, .int .i64 a0_1, .int .i64 a0_2, .int .i64 a0_3, .string a0_4] 25 (0, 0)) (by (with_reducible repeat (first | refine blk_drewN ?_ _ | refine blk_drew ?_ | refine blk_alloc ?_ _)); exact BK118.out) hb); have n1_ := Aside0.mk (blk_below (g := gb119) (o := .cells #[.int .i64 a1_0, .int .i64 a1_1, .string a1_2] 23 (0, 0)) (by (with_reducible repeat (first | refine blk_drewN ?_ _ | refine blk_drew ?_ | refine blk_alloc ?_ _)); exact BK119.out) hb); have n2_ := Aside0.mk (below_step (by repeat (first | (with_reducible first | exact HB.out | apply below_alloc | apply pw_below_drewN | apply below_drew1 | refine below_set ?_ GE118.out | refine below_set ?_ GE119.out) | exact HB.out)) hb); clear BK118; clear BK119; clear HB; have BK118 := n0_; have BK119 := n1_; have HB := n2_; clear n0_ n1_ n2_; (try clear hb); (try clear hb2); (try clear hk); (try clear hi); have hcz61_0 : w60.cell? ⟨gb118, 0, none⟩ = some (.string a0_0) := (blk_cell BK118.out 0).trans rfl; have hcz61_1 : w60.cell? ⟨gb118, 1, none⟩ = some (.int .i64 a0_1) := (blk_cell BK118.out 1).trans rfl; have hcz61_2 : w60.cell? ⟨gb118, 2, none⟩ = some (.int .i64 a0_2) := (blk_cell BK118.out 2).trans rfl; have hcz61_3 : w60.cell? ⟨gb118, 3, none⟩ = some (.int .i64 a0_3) := (blk_cell BK118.out 3).trans rfl; have hcz61_4 : w60.cell? ⟨gb118, 4, none⟩ = some (.string a0_4) := (blk_cell BK118.out 4).trans rfl; have hfz61_0 := blk_frozen BK118.out 0; have hfz61_1 := blk_frozen BK118.out 1; have hfz61_2 := blk_frozen BK118.out 2; have hfz61_3 := blk_frozen BK118.out 3; have hfz61_4 := blk_frozen BK118.out 4; have hcz62_0 : w60.cell? ⟨gb119, 0, none⟩ = some (.int .i64 a1_0) := (blk_cell BK119.out 0).trans rfl; have hcz62_1 : w60.cell? ⟨gb119, 1, none⟩ = some (.int .i64 a1_1) := (blk_cell BK119.out 1).trans rfl; have hcz62_2 : w60.cell? ⟨gb119, 2, none⟩ = some (.string a1_2) := (blk_cell BK119.out 2).trans rfl; have hfz62_0 := blk_frozen BK119.out 0; have hfz62_1 := blk_frozen BK119.out 1; have hfz62_2 := blk_frozen BK119.out 2))
                    go_ret
                    exact ⟨by first | rfl | (simp [errW_none, errW_some] <;> rfl) | (simp [*, errW_none, errW_some] <;> rfl), by repeat (first | (with_reducible first | exact HB.out | apply below_alloc | apply pw_below_drewN | apply below_drew1 | refine below_set ?_ GE118.out | refine below_set ?_ GE119.out) | exact HB.out)⟩
                  · rw [if_neg c56] at H
                    have c56b0 : (a0_1 == 2) = false := beq_eq_false_iff_ne.mpr c56
                    have c56b1 : (a0_1 != 2) = true := bne_iff_ne.mpr c56
                    by_cases c63 : a0_1 = 5
                    · rw [if_pos c63] at H
                      have c63b0 : (a0_1 == 5) = true := beq_iff_eq.mpr c63
                      have c63b1 : (a0_1 != 5) = false := bne_eq_false_iff_eq.mpr c63
                      clear c63
                      obtain rfl := Option.some.inj H
                      have hnb64 := NB119_118.out
                      have hnc64 := NB118_119.out
                      have hcz65_0 : wc.cell? ⟨gb119, 0, none⟩ = some (.int .i64 a1_0) := (blk_cell BK119.out 0).trans rfl
                      have hcz65_1 : wc.cell? ⟨gb119, 1, none⟩ = some (.int .i64 a1_1) := (blk_cell BK119.out 1).trans rfl
                      have hcz65_2 : wc.cell? ⟨gb119, 2, none⟩ = some (.string a1_2) := (blk_cell BK119.out 2).trans rfl
                      have hfz65_0 := blk_frozen BK119.out 0
                      have hfz65_1 := blk_frozen BK119.out 1
                      have hfz65_2 := blk_frozen BK119.out 2
                      have hcz66_0 : wc.cell? ⟨gb118, 0, none⟩ = some (.string a0_0) := (blk_cell BK118.out 0).trans rfl
                      have hcz66_1 : wc.cell? ⟨gb118, 1, none⟩ = some (.int .i64 a0_1) := (blk_cell BK118.out 1).trans rfl
                      have hcz66_2 : wc.cell? ⟨gb118, 2, none⟩ = some (.int .i64 a0_2) := (blk_cell BK118.out 2).trans rfl
                      have hcz66_3 : wc.cell? ⟨gb118, 3, none⟩ = some (.int .i64 a0_3) := (blk_cell BK118.out 3).trans rfl
                      have hcz66_4 : wc.cell? ⟨gb118, 4, none⟩ = some (.string a0_4) := (blk_cell BK118.out 4).trans rfl
                      have hfz66_0 := blk_frozen BK118.out 0
                      have hfz66_1 := blk_frozen BK118.out 1
                      have hfz66_2 := blk_frozen BK118.out 2
                      have hfz66_3 := blk_frozen BK118.out 3
                      have hfz66_4 := blk_frozen BK118.out 4
                      go_wp2_with (first | ((with_reducible refine gate_callee (f := 26) rfl ?_); refine goesL_ (some 17) rfl rfl Try.func26 (by kernel_rfl) rfl #[.agg #[.int .i64 a1_0, .int .i64 a1_1, .string a1_2], .agg #[.int .i64 a0_2, .int .i64 a0_3, .string a0_4]] rfl (by (try simp only [List.map_toArray, List.map_cons, List.map_nil]); first | done | rfl | (simp only [List.length_drop, List.length_take]; rfl)) ?_; (with_reducible refine (value_Compare.calls kj2 a1_0 a1_1 a1_2 a0_2 a0_3 a0_4 t122 _ A18.out).mono ?_); rintro e w67 ⟨rfl, hb⟩; refine ⟨_, rfl, ?_⟩; have n0_ := Aside0.mk (blk_below (g := gb118) (o := .cells #[.string a0_0, .int .i64 a0_1, .int .i64 a0_2, .int .i64 a0_3, .string a0_4] 25 (0, 0)) (by (with_reducible repeat (first | refine blk_drewN ?_ _ | refine blk_drew ?_ | refine blk_alloc ?_ _)); exact BK118.out) hb); have n1_ := Aside0.mk (blk_below (g := gb119) (o := .cells #[.int .i64 a1_0, .int .i64 a1_1, .string a1_2] 23 (0, 0)) (by (with_reducible repeat (first | refine blk_drewN ?_ _ | refine blk_drew ?_ | refine blk_alloc ?_ _)); exact BK119.out) hb); have n2_ := Aside0.mk (below_step (by repeat (first | (with_reducible first | exact HB.out | apply below_alloc | apply pw_below_drewN | apply below_drew1 | refine below_set ?_ GE118.out | refine below_set ?_ GE119.out) | exact HB.out)) hb); clear BK118; clear BK119; clear HB; have BK118 := n0_; have BK119 := n1_; have HB := n2_; clear n0_ n1_ n2_; (try clear hb); (try clear hb2); (try clear hk); (try clear hi); have hcz68_0 : w67.cell? ⟨gb118, 0, none⟩ = some (.string a0_0) := (blk_cell BK118.out 0).trans rfl; have hcz68_1 : w67.cell? ⟨gb118, 1, none⟩ = some (.int .i64 a0_1) := (blk_cell BK118.out 1).trans rfl; have hcz68_2 : w67.cell? ⟨gb118, 2, none⟩ = some (.int .i64 a0_2) := (blk_cell BK118.out 2).trans rfl; have hcz68_3 : w67.cell? ⟨gb118, 3, none⟩ = some (.int .i64 a0_3) := (blk_cell BK118.out 3).trans rfl; have hcz68_4 : w67.cell? ⟨gb118, 4, none⟩ = some (.string a0_4) := (blk_cell BK118.out 4).trans rfl; have hfz68_0 := blk_frozen BK118.out 0; have hfz68_1 := blk_frozen BK118.out 1; have hfz68_2 := blk_frozen BK118.out 2; have hfz68_3 := blk_frozen BK118.out 3; have hfz68_4 := blk_frozen BK118.out 4; have hcz69_0 : w67.cell? ⟨gb119, 0, none⟩ = some (.int .i64 a1_0) := (blk_cell BK119.out 0).trans rfl; have hcz69_1 : w67.cell? ⟨gb119, 1, none⟩ = some (.int .i64 a1_1) := (blk_cell BK119.out 1).trans rfl; have hcz69_2 : w67.cell? ⟨gb119, 2, none⟩ = some (.string a1_2) := (blk_cell BK119.out 2).trans rfl; have hfz69_0 := blk_frozen BK119.out 0; have hfz69_1 := blk_frozen BK119.out 1; have hfz69_2 := blk_frozen BK119.out 2))
                      go_ret
                      exact ⟨by first | rfl | (simp [errW_none, errW_some] <;> rfl) | (simp [*, errW_none, errW_some] <;> rfl), by repeat (first | (with_reducible first | exact HB.out | apply below_alloc | apply pw_below_drewN | apply below_drew1 | refine below_set ?_ GE118.out | refine below_set ?_ GE119.out) | exact HB.out)⟩
                    · rw [if_neg c63] at H
                      have c63b0 : (a0_1 == 5) = false := beq_eq_false_iff_ne.mpr c63
                      have c63b1 : (a0_1 != 5) = true := bne_iff_ne.mpr c63
                      obtain rfl := Option.some.inj H
                      have hnb70 := NB119_118.out
                      have hnc70 := NB118_119.out
                      have hcz71_0 : wc.cell? ⟨gb119, 0, none⟩ = some (.int .i64 a1_0) := (blk_cell BK119.out 0).trans rfl
                      have hcz71_1 : wc.cell? ⟨gb119, 1, none⟩ = some (.int .i64 a1_1) := (blk_cell BK119.out 1).trans rfl
                      have hcz71_2 : wc.cell? ⟨gb119, 2, none⟩ = some (.string a1_2) := (blk_cell BK119.out 2).trans rfl
                      have hfz71_0 := blk_frozen BK119.out 0
                      have hfz71_1 := blk_frozen BK119.out 1
                      have hfz71_2 := blk_frozen BK119.out 2
                      have hcz72_0 : wc.cell? ⟨gb118, 0, none⟩ = some (.string a0_0) := (blk_cell BK118.out 0).trans rfl
                      have hcz72_1 : wc.cell? ⟨gb118, 1, none⟩ = some (.int .i64 a0_1) := (blk_cell BK118.out 1).trans rfl
                      have hcz72_2 : wc.cell? ⟨gb118, 2, none⟩ = some (.int .i64 a0_2) := (blk_cell BK118.out 2).trans rfl
                      have hcz72_3 : wc.cell? ⟨gb118, 3, none⟩ = some (.int .i64 a0_3) := (blk_cell BK118.out 3).trans rfl
                      have hcz72_4 : wc.cell? ⟨gb118, 4, none⟩ = some (.string a0_4) := (blk_cell BK118.out 4).trans rfl
                      have hfz72_0 := blk_frozen BK118.out 0
                      have hfz72_1 := blk_frozen BK118.out 1
                      have hfz72_2 := blk_frozen BK118.out 2
                      have hfz72_3 := blk_frozen BK118.out 3
                      have hfz72_4 := blk_frozen BK118.out 4
                      go_wp2_with (first | ((with_reducible refine gate_callee (f := 26) rfl ?_); refine goesL_ (some 17) rfl rfl Try.func26 (by kernel_rfl) rfl #[.agg #[.int .i64 a1_0, .int .i64 a1_1, .string a1_2], .agg #[.int .i64 a0_2, .int .i64 a0_3, .string a0_4]] rfl (by (try simp only [List.map_toArray, List.map_cons, List.map_nil]); first | done | rfl | (simp only [List.length_drop, List.length_take]; rfl)) ?_; (with_reducible refine (value_Compare.calls kj2 a1_0 a1_1 a1_2 a0_2 a0_3 a0_4 t122 _ A18.out).mono ?_); rintro e w73 ⟨rfl, hb⟩; refine ⟨_, rfl, ?_⟩; have n0_ := Aside0.mk (blk_below (g := gb118) (o := .cells #[.string a0_0, .int .i64 a0_1, .int .i64 a0_2, .int .i64 a0_3, .string a0_4] 25 (0, 0)) (by (with_reducible repeat (first | refine blk_drewN ?_ _ | refine blk_drew ?_ | refine blk_alloc ?_ _)); exact BK118.out) hb); have n1_ := Aside0.mk (blk_below (g := gb119) (o := .cells #[.int .i64 a1_0, .int .i64 a1_1, .string a1_2] 23 (0, 0)) (by (with_reducible repeat (first | refine blk_drewN ?_ _ | refine blk_drew ?_ | refine blk_alloc ?_ _)); exact BK119.out) hb); have n2_ := Aside0.mk (below_step (by repeat (first | (with_reducible first | exact HB.out | apply below_alloc | apply pw_below_drewN | apply below_drew1 | refine below_set ?_ GE118.out | refine below_set ?_ GE119.out) | exact HB.out)) hb); clear BK118; clear BK119; clear HB; have BK118 := n0_; have BK119 := n1_; have HB := n2_; clear n0_ n1_ n2_; (try clear hb); (try clear hb2); (try clear hk); (try clear hi); have hcz74_0 : w73.cell? ⟨gb118, 0, none⟩ = some (.string a0_0) := (blk_cell BK118.out 0).trans rfl; have hcz74_1 : w73.cell? ⟨gb118, 1, none⟩ = some (.int .i64 a0_1) := (blk_cell BK118.out 1).trans rfl; have hcz74_2 : w73.cell? ⟨gb118, 2, none⟩ = some (.int .i64 a0_2) := (blk_cell BK118.out 2).trans rfl; have hcz74_3 : w73.cell? ⟨gb118, 3, none⟩ = some (.int .i64 a0_3) := (blk_cell BK118.out 3).trans rfl; have hcz74_4 : w73.cell? ⟨gb118, 4, none⟩ = some (.string a0_4) := (blk_cell BK118.out 4).trans rfl; have hfz74_0 := blk_frozen BK118.out 0; have hfz74_1 := blk_frozen BK118.out 1; have hfz74_2 := blk_frozen BK118.out 2; have hfz74_3 := blk_frozen BK118.out 3; have hfz74_4 := blk_frozen BK118.out 4; have hcz75_0 : w73.cell? ⟨gb119, 0, none⟩ = some (.int .i64 a1_0) := (blk_cell BK119.out 0).trans rfl; have hcz75_1 : w73.cell? ⟨gb119, 1, none⟩ = some (.int .i64 a1_1) := (blk_cell BK119.out 1).trans rfl; have hcz75_2 : w73.cell? ⟨gb119, 2, none⟩ = some (.string a1_2) := (blk_cell BK119.out 2).trans rfl; have hfz75_0 := blk_frozen BK119.out 0; have hfz75_1 := blk_frozen BK119.out 1; have hfz75_2 := blk_frozen BK119.out 2))
                      go_ret
                      exact ⟨by first | rfl | (simp [errW_none, errW_some] <;> rfl) | (simp [*, errW_none, errW_some] <;> rfl), by repeat (first | (with_reducible first | exact HB.out | apply below_alloc | apply pw_below_drewN | apply below_drew1 | refine below_set ?_ GE118.out | refine below_set ?_ GE119.out) | exact HB.out)⟩
                · rw [if_neg c55] at H
                  have c55b0 : decide (0 < t122) = false := decide_eq_false c55
                  clear c55
                  by_cases c76 : a0_1 = 1
                  · rw [if_pos c76] at H
                    have c76b0 : (a0_1 == 1) = true := beq_iff_eq.mpr c76
                    have c76b1 : (a0_1 != 1) = false := bne_eq_false_iff_eq.mpr c76
                    clear c76
                    obtain rfl := Option.some.inj H
                    have hnb77 := NB119_118.out
                    have hnc77 := NB118_119.out
                    have hcz78_0 : wc.cell? ⟨gb119, 0, none⟩ = some (.int .i64 a1_0) := (blk_cell BK119.out 0).trans rfl
                    have hcz78_1 : wc.cell? ⟨gb119, 1, none⟩ = some (.int .i64 a1_1) := (blk_cell BK119.out 1).trans rfl
                    have hcz78_2 : wc.cell? ⟨gb119, 2, none⟩ = some (.string a1_2) := (blk_cell BK119.out 2).trans rfl
                    have hfz78_0 := blk_frozen BK119.out 0
                    have hfz78_1 := blk_frozen BK119.out 1
                    have hfz78_2 := blk_frozen BK119.out 2
                    have hcz79_0 : wc.cell? ⟨gb118, 0, none⟩ = some (.string a0_0) := (blk_cell BK118.out 0).trans rfl
                    have hcz79_1 : wc.cell? ⟨gb118, 1, none⟩ = some (.int .i64 a0_1) := (blk_cell BK118.out 1).trans rfl
                    have hcz79_2 : wc.cell? ⟨gb118, 2, none⟩ = some (.int .i64 a0_2) := (blk_cell BK118.out 2).trans rfl
                    have hcz79_3 : wc.cell? ⟨gb118, 3, none⟩ = some (.int .i64 a0_3) := (blk_cell BK118.out 3).trans rfl
                    have hcz79_4 : wc.cell? ⟨gb118, 4, none⟩ = some (.string a0_4) := (blk_cell BK118.out 4).trans rfl
                    have hfz79_0 := blk_frozen BK118.out 0
                    have hfz79_1 := blk_frozen BK118.out 1
                    have hfz79_2 := blk_frozen BK118.out 2
                    have hfz79_3 := blk_frozen BK118.out 3
                    have hfz79_4 := blk_frozen BK118.out 4
                    go_wp2_with (first | ((with_reducible refine gate_callee (f := 26) rfl ?_); refine goesL_ (some 17) rfl rfl Try.func26 (by kernel_rfl) rfl #[.agg #[.int .i64 a1_0, .int .i64 a1_1, .string a1_2], .agg #[.int .i64 a0_2, .int .i64 a0_3, .string a0_4]] rfl (by (try simp only [List.map_toArray, List.map_cons, List.map_nil]); first | done | rfl | (simp only [List.length_drop, List.length_take]; rfl)) ?_; (with_reducible refine (value_Compare.calls kj2 a1_0 a1_1 a1_2 a0_2 a0_3 a0_4 t122 _ A18.out).mono ?_); rintro e w80 ⟨rfl, hb⟩; refine ⟨_, rfl, ?_⟩; have n0_ := Aside0.mk (blk_below (g := gb118) (o := .cells #[.string a0_0, .int .i64 a0_1, .int .i64 a0_2, .int .i64 a0_3, .string a0_4] 25 (0, 0)) (by (with_reducible repeat (first | refine blk_drewN ?_ _ | refine blk_drew ?_ | refine blk_alloc ?_ _)); exact BK118.out) hb); have n1_ := Aside0.mk (blk_below (g := gb119) (o := .cells #[.int .i64 a1_0, .int .i64 a1_1, .string a1_2] 23 (0, 0)) (by (with_reducible repeat (first | refine blk_drewN ?_ _ | refine blk_drew ?_ | refine blk_alloc ?_ _)); exact BK119.out) hb); have n2_ := Aside0.mk (below_step (by repeat (first | (with_reducible first | exact HB.out | apply below_alloc | apply pw_below_drewN | apply below_drew1 | refine below_set ?_ GE118.out | refine below_set ?_ GE119.out) | exact HB.out)) hb); clear BK118; clear BK119; clear HB; have BK118 := n0_; have BK119 := n1_; have HB := n2_; clear n0_ n1_ n2_; (try clear hb); (try clear hb2); (try clear hk); (try clear hi); have hcz81_0 : w80.cell? ⟨gb118, 0, none⟩ = some (.string a0_0) := (blk_cell BK118.out 0).trans rfl; have hcz81_1 : w80.cell? ⟨gb118, 1, none⟩ = some (.int .i64 a0_1) := (blk_cell BK118.out 1).trans rfl; have hcz81_2 : w80.cell? ⟨gb118, 2, none⟩ = some (.int .i64 a0_2) := (blk_cell BK118.out 2).trans rfl; have hcz81_3 : w80.cell? ⟨gb118, 3, none⟩ = some (.int .i64 a0_3) := (blk_cell BK118.out 3).trans rfl; have hcz81_4 : w80.cell? ⟨gb118, 4, none⟩ = some (.string a0_4) := (blk_cell BK118.out 4).trans rfl; have hfz81_0 := blk_frozen BK118.out 0; have hfz81_1 := blk_frozen BK118.out 1; have hfz81_2 := blk_frozen BK118.out 2; have hfz81_3 := blk_frozen BK118.out 3; have hfz81_4 := blk_frozen BK118.out 4; have hcz82_0 : w80.cell? ⟨gb119, 0, none⟩ = some (.int .i64 a1_0) := (blk_cell BK119.out 0).trans rfl; have hcz82_1 : w80.cell? ⟨gb119, 1, none⟩ = some (.int .i64 a1_1) := (blk_cell BK119.out 1).trans rfl; have hcz82_2 : w80.cell? ⟨gb119, 2, none⟩ = some (.string a1_2) := (blk_cell BK119.out 2).trans rfl; have hfz82_0 := blk_frozen BK119.out 0; have hfz82_1 := blk_frozen BK119.out 1; have hfz82_2 := blk_frozen BK119.out 2))
                    go_ret
                    exact ⟨by first | rfl | (simp [errW_none, errW_some] <;> rfl) | (simp [*, errW_none, errW_some] <;> rfl), by repeat (first | (with_reducible first | exact HB.out | apply below_alloc | apply pw_below_drewN | apply below_drew1 | refine below_set ?_ GE118.out | refine below_set ?_ GE119.out) | exact HB.out)⟩
                  · rw [if_neg c76] at H
                    have c76b0 : (a0_1 == 1) = false := beq_eq_false_iff_ne.mpr c76
                    have c76b1 : (a0_1 != 1) = true := bne_iff_ne.mpr c76
                    by_cases c83 : a0_1 = 4
                    · rw [if_pos c83] at H
                      have c83b0 : (a0_1 == 4) = true := beq_iff_eq.mpr c83
                      have c83b1 : (a0_1 != 4) = false := bne_eq_false_iff_eq.mpr c83
                      clear c83
                      obtain rfl := Option.some.inj H
                      have hnb84 := NB119_118.out
                      have hnc84 := NB118_119.out
                      have hcz85_0 : wc.cell? ⟨gb119, 0, none⟩ = some (.int .i64 a1_0) := (blk_cell BK119.out 0).trans rfl
                      have hcz85_1 : wc.cell? ⟨gb119, 1, none⟩ = some (.int .i64 a1_1) := (blk_cell BK119.out 1).trans rfl
                      have hcz85_2 : wc.cell? ⟨gb119, 2, none⟩ = some (.string a1_2) := (blk_cell BK119.out 2).trans rfl
                      have hfz85_0 := blk_frozen BK119.out 0
                      have hfz85_1 := blk_frozen BK119.out 1
                      have hfz85_2 := blk_frozen BK119.out 2
                      have hcz86_0 : wc.cell? ⟨gb118, 0, none⟩ = some (.string a0_0) := (blk_cell BK118.out 0).trans rfl
                      have hcz86_1 : wc.cell? ⟨gb118, 1, none⟩ = some (.int .i64 a0_1) := (blk_cell BK118.out 1).trans rfl
                      have hcz86_2 : wc.cell? ⟨gb118, 2, none⟩ = some (.int .i64 a0_2) := (blk_cell BK118.out 2).trans rfl
                      have hcz86_3 : wc.cell? ⟨gb118, 3, none⟩ = some (.int .i64 a0_3) := (blk_cell BK118.out 3).trans rfl
                      have hcz86_4 : wc.cell? ⟨gb118, 4, none⟩ = some (.string a0_4) := (blk_cell BK118.out 4).trans rfl
                      have hfz86_0 := blk_frozen BK118.out 0
                      have hfz86_1 := blk_frozen BK118.out 1
                      have hfz86_2 := blk_frozen BK118.out 2
                      have hfz86_3 := blk_frozen BK118.out 3
                      have hfz86_4 := blk_frozen BK118.out 4
                      go_wp2_with (first | ((with_reducible refine gate_callee (f := 26) rfl ?_); refine goesL_ (some 17) rfl rfl Try.func26 (by kernel_rfl) rfl #[.agg #[.int .i64 a1_0, .int .i64 a1_1, .string a1_2], .agg #[.int .i64 a0_2, .int .i64 a0_3, .string a0_4]] rfl (by (try simp only [List.map_toArray, List.map_cons, List.map_nil]); first | done | rfl | (simp only [List.length_drop, List.length_take]; rfl)) ?_; (with_reducible refine (value_Compare.calls kj2 a1_0 a1_1 a1_2 a0_2 a0_3 a0_4 t122 _ A18.out).mono ?_); rintro e w87 ⟨rfl, hb⟩; refine ⟨_, rfl, ?_⟩; have n0_ := Aside0.mk (blk_below (g := gb118) (o := .cells #[.string a0_0, .int .i64 a0_1, .int .i64 a0_2, .int .i64 a0_3, .string a0_4] 25 (0, 0)) (by (with_reducible repeat (first | refine blk_drewN ?_ _ | refine blk_drew ?_ | refine blk_alloc ?_ _)); exact BK118.out) hb); have n1_ := Aside0.mk (blk_below (g := gb119) (o := .cells #[.int .i64 a1_0, .int .i64 a1_1, .string a1_2] 23 (0, 0)) (by (with_reducible repeat (first | refine blk_drewN ?_ _ | refine blk_drew ?_ | refine blk_alloc ?_ _)); exact BK119.out) hb); have n2_ := Aside0.mk (below_step (by repeat (first | (with_reducible first | exact HB.out | apply below_alloc | apply pw_below_drewN | apply below_drew1 | refine below_set ?_ GE118.out | refine below_set ?_ GE119.out) | exact HB.out)) hb); clear BK118; clear BK119; clear HB; have BK118 := n0_; have BK119 := n1_; have HB := n2_; clear n0_ n1_ n2_; (try clear hb); (try clear hb2); (try clear hk); (try clear hi); have hcz88_0 : w87.cell? ⟨gb118, 0, none⟩ = some (.string a0_0) := (blk_cell BK118.out 0).trans rfl; have hcz88_1 : w87.cell? ⟨gb118, 1, none⟩ = some (.int .i64 a0_1) := (blk_cell BK118.out 1).trans rfl; have hcz88_2 : w87.cell? ⟨gb118, 2, none⟩ = some (.int .i64 a0_2) := (blk_cell BK118.out 2).trans rfl; have hcz88_3 : w87.cell? ⟨gb118, 3, none⟩ = some (.int .i64 a0_3) := (blk_cell BK118.out 3).trans rfl; have hcz88_4 : w87.cell? ⟨gb118, 4, none⟩ = some (.string a0_4) := (blk_cell BK118.out 4).trans rfl; have hfz88_0 := blk_frozen BK118.out 0; have hfz88_1 := blk_frozen BK118.out 1; have hfz88_2 := blk_frozen BK118.out 2; have hfz88_3 := blk_frozen BK118.out 3; have hfz88_4 := blk_frozen BK118.out 4; have hcz89_0 : w87.cell? ⟨gb119, 0, none⟩ = some (.int .i64 a1_0) := (blk_cell BK119.out 0).trans rfl; have hcz89_1 : w87.cell? ⟨gb119, 1, none⟩ = some (.int .i64 a1_1) := (blk_cell BK119.out 1).trans rfl; have hcz89_2 : w87.cell? ⟨gb119, 2, none⟩ = some (.string a1_2) := (blk_cell BK119.out 2).trans rfl; have hfz89_0 := blk_frozen BK119.out 0; have hfz89_1 := blk_frozen BK119.out 1; have hfz89_2 := blk_frozen BK119.out 2))
                      go_ret
                      exact ⟨by first | rfl | (simp [errW_none, errW_some] <;> rfl) | (simp [*, errW_none, errW_some] <;> rfl), by repeat (first | (with_reducible first | exact HB.out | apply below_alloc | apply pw_below_drewN | apply below_drew1 | refine below_set ?_ GE118.out | refine below_set ?_ GE119.out) | exact HB.out)⟩
                    · rw [if_neg c83] at H
                      have c83b0 : (a0_1 == 4) = false := beq_eq_false_iff_ne.mpr c83
                      have c83b1 : (a0_1 != 4) = true := bne_iff_ne.mpr c83
                      obtain rfl := Option.some.inj H
                      have hnb90 := NB119_118.out
                      have hnc90 := NB118_119.out
                      have hcz91_0 : wc.cell? ⟨gb119, 0, none⟩ = some (.int .i64 a1_0) := (blk_cell BK119.out 0).trans rfl
                      have hcz91_1 : wc.cell? ⟨gb119, 1, none⟩ = some (.int .i64 a1_1) := (blk_cell BK119.out 1).trans rfl
                      have hcz91_2 : wc.cell? ⟨gb119, 2, none⟩ = some (.string a1_2) := (blk_cell BK119.out 2).trans rfl
                      have hfz91_0 := blk_frozen BK119.out 0
                      have hfz91_1 := blk_frozen BK119.out 1
                      have hfz91_2 := blk_frozen BK119.out 2
                      have hcz92_0 : wc.cell? ⟨gb118, 0, none⟩ = some (.string a0_0) := (blk_cell BK118.out 0).trans rfl
                      have hcz92_1 : wc.cell? ⟨gb118, 1, none⟩ = some (.int .i64 a0_1) := (blk_cell BK118.out 1).trans rfl
                      have hcz92_2 : wc.cell? ⟨gb118, 2, none⟩ = some (.int .i64 a0_2) := (blk_cell BK118.out 2).trans rfl
                      have hcz92_3 : wc.cell? ⟨gb118, 3, none⟩ = some (.int .i64 a0_3) := (blk_cell BK118.out 3).trans rfl
                      have hcz92_4 : wc.cell? ⟨gb118, 4, none⟩ = some (.string a0_4) := (blk_cell BK118.out 4).trans rfl
                      have hfz92_0 := blk_frozen BK118.out 0
                      have hfz92_1 := blk_frozen BK118.out 1
                      have hfz92_2 := blk_frozen BK118.out 2
                      have hfz92_3 := blk_frozen BK118.out 3
                      have hfz92_4 := blk_frozen BK118.out 4
                      go_wp2_with (first | ((with_reducible refine gate_callee (f := 26) rfl ?_); refine goesL_ (some 17) rfl rfl Try.func26 (by kernel_rfl) rfl #[.agg #[.int .i64 a1_0, .int .i64 a1_1, .string a1_2], .agg #[.int .i64 a0_2, .int .i64 a0_3, .string a0_4]] rfl (by (try simp only [List.map_toArray, List.map_cons, List.map_nil]); first | done | rfl | (simp only [List.length_drop, List.length_take]; rfl)) ?_; (with_reducible refine (value_Compare.calls kj2 a1_0 a1_1 a1_2 a0_2 a0_3 a0_4 t122 _ A18.out).mono ?_); rintro e w93 ⟨rfl, hb⟩; refine ⟨_, rfl, ?_⟩; have n0_ := Aside0.mk (blk_below (g := gb118) (o := .cells #[.string a0_0, .int .i64 a0_1, .int .i64 a0_2, .int .i64 a0_3, .string a0_4] 25 (0, 0)) (by (with_reducible repeat (first | refine blk_drewN ?_ _ | refine blk_drew ?_ | refine blk_alloc ?_ _)); exact BK118.out) hb); have n1_ := Aside0.mk (blk_below (g := gb119) (o := .cells #[.int .i64 a1_0, .int .i64 a1_1, .string a1_2] 23 (0, 0)) (by (with_reducible repeat (first | refine blk_drewN ?_ _ | refine blk_drew ?_ | refine blk_alloc ?_ _)); exact BK119.out) hb); have n2_ := Aside0.mk (below_step (by repeat (first | (with_reducible first | exact HB.out | apply below_alloc | apply pw_below_drewN | apply below_drew1 | refine below_set ?_ GE118.out | refine below_set ?_ GE119.out) | exact HB.out)) hb); clear BK118; clear BK119; clear HB; have BK118 := n0_; have BK119 := n1_; have HB := n2_; clear n0_ n1_ n2_; (try clear hb); (try clear hb2); (try clear hk); (try clear hi); have hcz94_0 : w93.cell? ⟨gb118, 0, none⟩ = some (.string a0_0) := (blk_cell BK118.out 0).trans rfl; have hcz94_1 : w93.cell? ⟨gb118, 1, none⟩ = some (.int .i64 a0_1) := (blk_cell BK118.out 1).trans rfl; have hcz94_2 : w93.cell? ⟨gb118, 2, none⟩ = some (.int .i64 a0_2) := (blk_cell BK118.out 2).trans rfl; have hcz94_3 : w93.cell? ⟨gb118, 3, none⟩ = some (.int .i64 a0_3) := (blk_cell BK118.out 3).trans rfl; have hcz94_4 : w93.cell? ⟨gb118, 4, none⟩ = some (.string a0_4) := (blk_cell BK118.out 4).trans rfl; have hfz94_0 := blk_frozen BK118.out 0; have hfz94_1 := blk_frozen BK118.out 1; have hfz94_2 := blk_frozen BK118.out 2; have hfz94_3 := blk_frozen BK118.out 3; have hfz94_4 := blk_frozen BK118.out 4; have hcz95_0 : w93.cell? ⟨gb119, 0, none⟩ = some (.int .i64 a1_0) := (blk_cell BK119.out 0).trans rfl; have hcz95_1 : w93.cell? ⟨gb119, 1, none⟩ = some (.int .i64 a1_1) := (blk_cell BK119.out 1).trans rfl; have hcz95_2 : w93.cell? ⟨gb119, 2, none⟩ = some (.string a1_2) := (blk_cell BK119.out 2).trans rfl; have hfz95_0 := blk_frozen BK119.out 0; have hfz95_1 := blk_frozen BK119.out 1; have hfz95_2 := blk_frozen BK119.out 2))
                      go_ret
                      exact ⟨by first | rfl | (simp [errW_none, errW_some] <;> rfl) | (simp [*, errW_none, errW_some] <;> rfl), by repeat (first | (with_reducible first | exact HB.out | apply below_alloc | apply pw_below_drewN | apply below_drew1 | refine below_set ?_ GE118.out | refine below_set ?_ GE119.out) | exact HB.out)⟩
          · rw [if_neg c25] at H
            have c25b0 : (a1_0 == a0_2) = false := beq_eq_false_iff_ne.mpr c25
            have c25b1 : (a1_0 != a0_2) = true := bne_iff_ne.mpr c25
            obtain rfl := Option.some.inj H
            have hnb96 := NB119_118.out
            have hnc96 := NB118_119.out
            have hcz97_0 : wc.cell? ⟨gb119, 0, none⟩ = some (.int .i64 a1_0) := (blk_cell BK119.out 0).trans rfl
            have hcz97_1 : wc.cell? ⟨gb119, 1, none⟩ = some (.int .i64 a1_1) := (blk_cell BK119.out 1).trans rfl
            have hcz97_2 : wc.cell? ⟨gb119, 2, none⟩ = some (.string a1_2) := (blk_cell BK119.out 2).trans rfl
            have hfz97_0 := blk_frozen BK119.out 0
            have hfz97_1 := blk_frozen BK119.out 1
            have hfz97_2 := blk_frozen BK119.out 2
            have hcz98_0 : wc.cell? ⟨gb118, 0, none⟩ = some (.string a0_0) := (blk_cell BK118.out 0).trans rfl
            have hcz98_1 : wc.cell? ⟨gb118, 1, none⟩ = some (.int .i64 a0_1) := (blk_cell BK118.out 1).trans rfl
            have hcz98_2 : wc.cell? ⟨gb118, 2, none⟩ = some (.int .i64 a0_2) := (blk_cell BK118.out 2).trans rfl
            have hcz98_3 : wc.cell? ⟨gb118, 3, none⟩ = some (.int .i64 a0_3) := (blk_cell BK118.out 3).trans rfl
            have hcz98_4 : wc.cell? ⟨gb118, 4, none⟩ = some (.string a0_4) := (blk_cell BK118.out 4).trans rfl
            have hfz98_0 := blk_frozen BK118.out 0
            have hfz98_1 := blk_frozen BK118.out 1
            have hfz98_2 := blk_frozen BK118.out 2
            have hfz98_3 := blk_frozen BK118.out 3
            have hfz98_4 := blk_frozen BK118.out 4
            go_wp2_with (first | ((with_reducible refine gate_callee (f := 26) rfl ?_); refine goesL_ (some 17) rfl rfl Try.func26 (by kernel_rfl) rfl #[.agg #[.int .i64 a1_0, .int .i64 a1_1, .string a1_2], .agg #[.int .i64 a0_2, .int .i64 a0_3, .string a0_4]] rfl (by (try simp only [List.map_toArray, List.map_cons, List.map_nil]); first | done | rfl | (simp only [List.length_drop, List.length_take]; rfl)) ?_; (with_reducible refine (value_Compare.calls kj2 a1_0 a1_1 a1_2 a0_2 a0_3 a0_4 t122 _ A18.out).mono ?_); rintro e w99 ⟨rfl, hb⟩; refine ⟨_, rfl, ?_⟩; have n0_ := Aside0.mk (blk_below (g := gb118) (o := .cells #[.string a0_0, .int .i64 a0_1, .int .i64 a0_2, .int .i64 a0_3, .string a0_4] 25 (0, 0)) (by (with_reducible repeat (first | refine blk_drewN ?_ _ | refine blk_drew ?_ | refine blk_alloc ?_ _)); exact BK118.out) hb); have n1_ := Aside0.mk (blk_below (g := gb119) (o := .cells #[.int .i64 a1_0, .int .i64 a1_1, .string a1_2] 23 (0, 0)) (by (with_reducible repeat (first | refine blk_drewN ?_ _ | refine blk_drew ?_ | refine blk_alloc ?_ _)); exact BK119.out) hb); have n2_ := Aside0.mk (below_step (by repeat (first | (with_reducible first | exact HB.out | apply below_alloc | apply pw_below_drewN | apply below_drew1 | refine below_set ?_ GE118.out | refine below_set ?_ GE119.out) | exact HB.out)) hb); clear BK118; clear BK119; clear HB; have BK118 := n0_; have BK119 := n1_; have HB := n2_; clear n0_ n1_ n2_; (try clear hb); (try clear hb2); (try clear hk); (try clear hi); have hcz100_0 : w99.cell? ⟨gb118, 0, none⟩ = some (.string a0_0) := (blk_cell BK118.out 0).trans rfl; have hcz100_1 : w99.cell? ⟨gb118, 1, none⟩ = some (.int .i64 a0_1) := (blk_cell BK118.out 1).trans rfl; have hcz100_2 : w99.cell? ⟨gb118, 2, none⟩ = some (.int .i64 a0_2) := (blk_cell BK118.out 2).trans rfl; have hcz100_3 : w99.cell? ⟨gb118, 3, none⟩ = some (.int .i64 a0_3) := (blk_cell BK118.out 3).trans rfl; have hcz100_4 : w99.cell? ⟨gb118, 4, none⟩ = some (.string a0_4) := (blk_cell BK118.out 4).trans rfl; have hfz100_0 := blk_frozen BK118.out 0; have hfz100_1 := blk_frozen BK118.out 1; have hfz100_2 := blk_frozen BK118.out 2; have hfz100_3 := blk_frozen BK118.out 3; have hfz100_4 := blk_frozen BK118.out 4; have hcz101_0 : w99.cell? ⟨gb119, 0, none⟩ = some (.int .i64 a1_0) := (blk_cell BK119.out 0).trans rfl; have hcz101_1 : w99.cell? ⟨gb119, 1, none⟩ = some (.int .i64 a1_1) := (blk_cell BK119.out 1).trans rfl; have hcz101_2 : w99.cell? ⟨gb119, 2, none⟩ = some (.string a1_2) := (blk_cell BK119.out 2).trans rfl; have hfz101_0 := blk_frozen BK119.out 0; have hfz101_1 := blk_frozen BK119.out 1; have hfz101_2 := blk_frozen BK119.out 2))
            go_ret
            exact ⟨by first | rfl | (simp [errW_none, errW_some] <;> rfl) | (simp [*, errW_none, errW_some] <;> rfl), by repeat (first | (with_reducible first | exact HB.out | apply below_alloc | apply pw_below_drewN | apply below_drew1 | refine below_set ?_ GE118.out | refine below_set ?_ GE119.out) | exact HB.out)⟩

end Go.Proofs.Ytojefdnngkcaoaa.G
end

section
-- Written by a program of this session (wip/tools/myprint.py), over the kit's print.
namespace Go.Proofs.Ytojefdnngkcaoaa.G
open Go.RowKit Go.Proofs.YtojefdnngkcaoaaW.PrintWords Go.Proofs.YtojefdnngkcaoaaW.PrintLast Go.Proofs.YtojefdnngkcaoaaW.PrintMore
attribute [local go_sem] max2_int min2_int max_two min_two max_three min_three max_four min_four   -- for this text's walks alone
set_option linter.unusedVariables false
set_option linter.unusedSimpArgs false

-- BY HAND
-- LIB Derived.BigQuiet
-- LIB Derived.Deep.QuietTactic
-- over: at_T52 k52
def event_Get.f (l0 : List S52) (a1 : ByteArray) : Option (Int × Int × ByteArray × Bool) :=
  match l0.find? (fun a => a.f0.toList == a1.toList) with
  | some a => some (a.f1.f0, a.f1.f1, a.f1.f2, true)
  | none => some (0, 0, ⟨#[]⟩, false)
set_option maxRecDepth 100000 in
set_option maxHeartbeats 1000000 in
theorem get_named (x : S52) (a1 : ByteArray) (g : Nat) (w : World) (hg : w.heap[g]? = some (.cells #[.string a1] 9 (0, 0))) :
    Calls Try.prog 51 #[.agg #[.string x.f0, .int .i64 x.f1.f0, .int .i64 x.f1.f1, .string x.f1.f2], .pointer (some ⟨g, 0, none⟩)] w fun e w' => e = .returned (.bool (x.f0.toList == a1.toList)) ∧ Below w.heap.size w w' := by
  have hlt : g < w.heap.size := (Array.getElem?_eq_some_iff.1 hg).1
  have hc : w.cell? ⟨g, 0, none⟩ = some (.string a1) := by rw [cell_of_row _ _ _ _ _ _ hg]; rfl
  go_enter Try.func51, Try.ntmps51
  go_wp2
  go_ret
  exact ⟨rfl, (Below.refl _ _).alloc (Nat.le_refl _) _⟩
set_option maxRecDepth 100000 in
set_option maxHeartbeats 2000000 in
theorem index_named (A : Option Addr) (c : Nat) (l : List S52) (a1 : ByteArray) (g : Nat) (w : World) (hC : Kd.C k52 w A l.length l) (hg : w.heap[g]? = some (.cells #[.string a1] 9 (0, 0))) :
    Calls Try.prog 50 #[.slice A l.length c, .func (.func 51) #[] #[.pointer (some ⟨g, 0, none⟩)]] w fun e w' =>
      (∃ i : Int, e = .returned (.int .i64 i) ∧ ((i = -1 ∧ l.find? (fun a => a.f0.toList == a1.toList) = none) ∨ (0 ≤ i ∧ i < l.length ∧ l.find? (fun a => a.f0.toList == a1.toList) = some (rd_T52 l i)))) ∧ Below w.heap.size w w' := by
  have HC := Aside0.mk hC
  have HG := Aside0.mk hg
  have hl := hC.2.1
  clear hC hg
  go_enter Try.func50, Try.ntmps50
  go_wp2_with fail
  go_loopw [8] (fun i wr => ∃ k : Nat, k ≤ l.length ∧ i = .int .i64 k ∧ Aside0 (∀ j, j < k → ((rd_T52 l (j : Nat)).f0.toList == a1.toList) = false) ∧ Below w.heap.size w wr) (fun i _ => l.length - (intOf i).toNat)
  case atStart => exact ⟨0, Nat.zero_le _, rfl, ⟨fun j hj => by omega⟩, Below.refl _ _⟩
  case round =>
    obtain ⟨k, hk, rfl, HN, hBr⟩ := hrel
    have HB := Aside0.mk hBr
    clear hBr
    by_cases hlt : k < l.length
    · obtain ⟨ad, rfl, h0, h1, h2, h3⟩ := at_T52 (Kd.C_below HC.out HB.out) (k : Int) (by omega) (by omega)
      rw [Int.toNat_natCast] at h0 h1 h2 h3
      obtain ⟨x, hx⟩ : ∃ x, rd_T52 l (k : Int) = x := ⟨_, rfl⟩
      rw [hx] at h0 h1 h2 h3
      have HX := Aside0.mk hx
      have hgr : Aside0 (wr.heap[g]? = some (.cells #[.string a1] 9 (0, 0))) := ⟨by rw [HB.out.block g (Array.getElem?_eq_some_iff.1 HG.out).1]; exact HG.out⟩
      clear hx
      cases hb : (x.f0.toList == a1.toList) with
      | true =>
        have HT := Aside0.mk hb
        have hcl := Aside0.mk (get_named x a1 g wr hgr.out)
        rw [hb] at hcl
        clear hb
        go_wp2_with (go_at_call 51; (with_reducible refine hcl.out.mono ?_); rintro e w2 ⟨rfl, hB⟩; have HB2 : Aside0 (Below w.heap.size w w2) := ⟨HB.out.trans (hB.mono HB.out.size)⟩; clear hB)
        go_ret
        refine ⟨⟨k, rfl, .inr ⟨by omega, by omega, ?_⟩⟩, HB2.out⟩
        rw [List.find?_eq_some_iff_getElem]
        refine ⟨by rw [HX.out]; exact HT.out, k, hlt, by simp [rd_T52, List.getD_eq_getElem?_getD, hlt], fun j hj => ?_⟩
        have := HN.out j hj
        simpa [rd_T52, List.getD_eq_getElem?_getD, show j < l.length by omega] using this
      | false =>
        have HT := Aside0.mk hb
        have hcl := Aside0.mk (get_named x a1 g wr hgr.out)
        rw [hb] at hcl
        clear hb
        go_wp2_with (go_at_call 51; (with_reducible refine hcl.out.mono ?_); rintro e w2 ⟨rfl, hB⟩; have HB2 : Aside0 (Below w.heap.size w w2) := ⟨HB.out.trans (hB.mono HB.out.size)⟩; clear hB)
        exact ⟨⟨k + 1, by omega, by simp, ⟨fun j hj => by
          by_cases e : j = k
          · rw [e, HX.out]; exact HT.out
          · exact HN.out j (by omega)⟩, HB2.out⟩, by simp [intOf]; omega⟩
    · obtain rfl : k = l.length := by omega
      go_wp2_with fail
      go_ret
      refine ⟨⟨-1, rfl, .inl ⟨rfl, ?_⟩⟩, HB.out⟩
      rw [List.find?_eq_none]
      intro a ha
      obtain ⟨j, hj, rfl⟩ := List.getElem_of_mem ha
      have := HN.out j hj
      simpa [rd_T52, List.getD_eq_getElem?_getD, hj] using this
set_option maxRecDepth 100000 in
set_option maxHeartbeats 2000000 in
theorem event_Get.calls (A0 : Option Addr) (c0 : Nat) (l0 : List S52) (a1 : ByteArray) (r1 : Int) (r2 : Int) (r3 : ByteArray) (r4 : Bool) (w : World) (hr0 : Kd.C k52 w A0 l0.length l0) (hc0 : l0.length ≤ c0) (h : event_Get.f l0 a1 = some (r1, r2, r3, r4)) :
    Calls Try.prog 29 #[.slice A0 l0.length c0, .string a1] w fun e w' => e = .returned (.tuple #[.agg #[.int .i64 r1, .int .i64 r2, .string r3], .bool r4]) ∧ Below w.heap.size w w' := by
  have HR := Aside0.mk hr0
  have H := Aside0.mk h
  have hl := hr0.2.1
  clear hr0 h
  go_enter Try.func29, Try.ntmps29
  go_wp2_with fail
  have hb2 : Below w.heap.size w ((w.alloc (.cells #[.string a1] 9)).alloc (.cells #[.int .i64 0, .int .i64 0, .string ByteArray.empty] 23)) := (((Below.refl _ _).alloc (Nat.le_refl _) _).alloc (by simp) _)
  have hg1 : ((w.alloc (.cells #[.string a1] 9)).alloc (.cells #[.int .i64 0, .int .i64 0, .string ByteArray.empty] 23)).heap[w.heap.size]? = some (.cells #[.string a1] 9 (0, 0)) := (Below.heap_alloc _ _ _ (by simp)).trans (heap_alloc_new w _)
  have hg2 : ((w.alloc (.cells #[.string a1] 9)).alloc (.cells #[.int .i64 0, .int .i64 0, .string ByteArray.empty] 23)).heap[w.heap.size + 1]? = some (.cells #[.int .i64 0, .int .i64 0, .string ByteArray.empty] 23 (0, 0)) := by have := heap_alloc_new (w.alloc (.cells #[.string a1] 9)) (.cells #[.int .i64 0, .int .i64 0, .string ByteArray.empty] 23); rwa [World.size_alloc] at this
  refine (index_named A0 c0 l0 a1 w.heap.size _ (Kd.C_below HR.out hb2) hg1).mono ?_
  rintro e w1 ⟨⟨i, rfl, hi⟩, hB⟩
  have HB : Aside0 (Below w.heap.size w w1) := ⟨hb2.trans (hB.mono (by simp; omega))⟩
  have BK : Aside0 (w1.heap[w.heap.size + 1]? = some (.cells #[.int .i64 0, .int .i64 0, .string ByteArray.empty] 23 (0, 0))) := ⟨(hB.block _ (Array.getElem?_eq_some_iff.1 hg2).1).trans hg2⟩
  clear hB hg1 hg2 hb2
  have hcz0 : w1.cell? ⟨w.heap.size + 1, 0, none⟩ = some (.int .i64 0) := (blk_cell BK.out 0).trans rfl
  have hcz1 : w1.cell? ⟨w.heap.size + 1, 1, none⟩ = some (.int .i64 0) := (blk_cell BK.out 1).trans rfl
  have hcz2 : w1.cell? ⟨w.heap.size + 1, 2, none⟩ = some (.string ByteArray.empty) := (blk_cell BK.out 2).trans rfl
  have hfz0 := blk_frozen BK.out 0
  have hfz1 := blk_frozen BK.out 1
  have hfz2 := blk_frozen BK.out 2
  have h := H.out
  unfold event_Get.f at h
  rcases hi with ⟨rfl, hf⟩ | ⟨h0, h1, hf⟩
  · rw [hf] at h
    simp only [Option.some.injEq, Prod.mk.injEq] at h
    obtain ⟨rfl, rfl, rfl, rfl⟩ := h
    clear hf H
    go_wp2
    refine bodyPost_ret (results_ct rfl _ _ (w.heap.size + 1) 23 #[.int .i64 0, .int .i64 0, .string (⟨#[]⟩ : ByteArray)] (0, 0) _ rfl (by refine blk_put (cs := #[.int .i64 0, .int .i64 0, .string ByteArray.empty]) ?_ 2 _ rfl; refine blk_put (cs := #[.int .i64 0, .int .i64 0, .string ByteArray.empty]) ?_ 1 _ rfl; refine blk_put (cs := #[.int .i64 0, .int .i64 0, .string ByteArray.empty]) ?_ 0 _ rfl; exact BK.out) Try.underlying23 rfl (by kernel_rfl)) rfl ?_
    exact ⟨rfl, ((HB.out.setCell (by simp) _).setCell (by simp) _).setCell (by simp) _⟩
  · rw [hf] at h
    simp only [Option.some.injEq, Prod.mk.injEq] at h
    obtain ⟨k, rfl⟩ := Int.eq_ofNat_of_zero_le h0
    obtain ⟨x, hx⟩ : ∃ x, rd_T52 l0 (k : Int) = x := ⟨_, rfl⟩
    rw [hx] at h
    obtain ⟨rfl, rfl, rfl, rfl⟩ := h
    obtain ⟨ad, rfl, q0, q1, q2, q3⟩ := at_T52 (Kd.C_below HR.out HB.out) (k : Int) (by omega) (by omega)
    rw [hx, Int.toNat_natCast] at q0 q1 q2 q3
    have hk : k < l0.length := by omega
    clear hf H hx h0 h1
    go_wp2
    refine bodyPost_ret (results_ct rfl _ _ (w.heap.size + 1) 23 #[.int .i64 x.f1.f0, .int .i64 x.f1.f1, .string x.f1.f2] (0, 0) _ rfl (by refine blk_put (cs := #[.int .i64 x.f1.f0, .int .i64 x.f1.f1, .string ByteArray.empty]) ?_ 2 _ rfl; refine blk_put (cs := #[.int .i64 x.f1.f0, .int .i64 0, .string ByteArray.empty]) ?_ 1 _ rfl; refine blk_put (cs := #[.int .i64 0, .int .i64 0, .string ByteArray.empty]) ?_ 0 _ rfl; exact BK.out) Try.underlying23 rfl (by kernel_rfl)) rfl ?_
    exact ⟨rfl, ((HB.out.setCell (by simp) _).setCell (by simp) _).setCell (by simp) _⟩

end Go.Proofs.Ytojefdnngkcaoaa.G
end

section
-- Written by a program of this session (wip/tools/myprint.py), over the kit's print.
namespace Go.Proofs.Ytojefdnngkcaoaa.G
open Go.RowKit Go.Proofs.YtojefdnngkcaoaaW.PrintWords Go.Proofs.YtojefdnngkcaoaaW.PrintLast Go.Proofs.YtojefdnngkcaoaaW.PrintMore
attribute [local go_sem] max2_int min2_int max_two min_two max_three min_three max_four min_four   -- for this text's walks alone
set_option linter.unusedVariables false
set_option linter.unusedSimpArgs false

/-! ### pred_Meets: function 14 -/
def pred_Meets.f (k : Nat) (a0_0 : ByteArray) (a0_1 : Int) (a0_2 : Int) (a0_3 : Int) (a0_4 : ByteArray) (l1 : List (S52)) : Option (Bool) := (event_Get.f l1 a0_0).bind fun bt125 => (if bt125.2.2.2 = true then ((pred_Holds.f k a0_0 a0_1 a0_2 a0_3 a0_4 bt125.1 bt125.2.1 bt125.2.2.1).bind fun t130 => (some t130)) else (some false))
theorem pred_Meets.mono : ∀ a0 a1 a2 a3 a4 a5 k, LeO (pred_Meets.f k a0 a1 a2 a3 a4 a5) (pred_Meets.f (k + 1) a0 a1 a2 a3 a4 a5) := by
  intro a0 a1 a2 a3 a4 a5 k
  unfold pred_Meets.f
  repeat' first
      | (with_reducible exact pred_Holds.mono _ _ _ _ _ _ _ _ _)
      | (with_reducible exact LeO.refl _)
      | (with_reducible exact LeO.none _)
      | (with_reducible refine LeO.ite ?_ ?_)
      | (with_reducible refine LeO.bind ?_ (fun _ => ?_))
      | exact pred_Holds.mono _ _ _ _ _ _ _ _ _
      | exact LeO.none _
      | refine LeO.ite ?_ ?_
      | refine LeO.bind ?_ (fun _ => ?_)
set_option maxHeartbeats 8000000 in
set_option maxRecDepth 100000 in
theorem pred_Meets.calls (k : Nat) (a0_0 : ByteArray) (a0_1 : Int) (a0_2 : Int) (a0_3 : Int) (a0_4 : ByteArray) (A1 : Option Addr) (c1 : Nat) (l1 : List (S52)) (r : Bool) (w : World) (hr1 : Kd.C k52 w A1 l1.length l1) (hc1 : l1.length ≤ c1) (h : pred_Meets.f k a0_0 a0_1 a0_2 a0_3 a0_4 l1 = some r) :
    Calls Try.prog 14 #[.agg #[.string a0_0, .int .i64 a0_1, .int .i64 a0_2, .int .i64 a0_3, .string a0_4], .slice A1 l1.length c1] w fun e w' => e = .returned (.bool r) ∧ Below w.heap.size w w' := by
  have hu25 := Try.underlying25
  have hu23 := Try.underlying23
  have HR1 := Aside0.mk hr1
  have HC1 := Aside0.mk hc1
  clear hr1 hc1
  have HB := Aside0.mk (Below.refl w.heap.size w)
  have H : ((event_Get.f l1 a0_0).bind fun bt125 => (if bt125.2.2.2 = true then ((pred_Holds.f k a0_0 a0_1 a0_2 a0_3 a0_4 bt125.1 bt125.2.1 bt125.2.2.1).bind fun t130 => (some t130)) else (some false))) = some r := h
  clear h
  replace H := Option.bind_eq_some_iff.mp H
  obtain ⟨⟨t125, t126, t127, t128⟩, A30, H⟩ := H
  replace H : (if t128 = true then ((pred_Holds.f k a0_0 a0_1 a0_2 a0_3 a0_4 t125 t126 t127).bind fun t130 => (some t130)) else (some false)) = some r := H
  have A3 := Aside0.mk A30
  clear A30
  by_cases c4 : t128 = true
  · subst c4
    have H1 : ((pred_Holds.f k a0_0 a0_1 a0_2 a0_3 a0_4 t125 t126 t127).bind fun t130 => (some t130)) = some r := by rw [if_pos rfl] at H; exact H
    clear H
    have H := H1
    clear H1
    replace H := Option.bind_eq_some_iff.mp H
    obtain ⟨t130, A50, H⟩ := H
    replace H : (some t130) = some r := H
    have A5 := Aside0.mk A50
    clear A50
    obtain rfl := Option.some.inj H
    go_enter Try.func14, Try.ntmps14
    go_wp2_with (first | ((with_reducible refine gate_dst (N := 2) rfl ?_); refine box_event ?hg (N := 2) ?hd (cs := #[.string a0_0, .int .i64 a0_1, .int .i64 a0_2, .int .i64 a0_3, .string a0_4]) (t := 25) ?hr ?_; (case hd => rfl); (case hg => rfl); (case hr => first | (go_simp; done) | (go_simp; rfl)); intro gb124 hg w6 hbox hb; have n0_ := Aside0.mk (below_step (by repeat (first | (with_reducible first | exact HB.out | apply below_alloc | apply pw_below_drewN | apply below_drew1) | exact HB.out)) hb); have n1_ := Aside0.mk (hbox); have n2_ := Aside0.mk ((by rw [hg]; exact (below_size (by repeat (first | (with_reducible first | exact HB.out | apply below_alloc | apply pw_below_drewN | apply below_drew1) | exact HB.out))) : w.heap.size ≤ gb124)); have n3_ := Aside0.mk ((by rw [hg]; exact (below_size (by repeat (first | (with_reducible first | exact HB.out | apply below_alloc | apply pw_below_drewN | apply below_drew1) | exact HB.out))) : w.heap.size ≤ gb124)); clear HB; have HB := n0_; have BK124 := n1_; have GW124 := n2_; have GE124 := n3_; clear n0_ n1_ n2_ n3_; clear hb hbox hg; have hcz7_0 : w6.cell? ⟨gb124, 0, none⟩ = some (.string a0_0) := (blk_cell BK124.out 0).trans rfl; have hcz7_1 : w6.cell? ⟨gb124, 1, none⟩ = some (.int .i64 a0_1) := (blk_cell BK124.out 1).trans rfl; have hcz7_2 : w6.cell? ⟨gb124, 2, none⟩ = some (.int .i64 a0_2) := (blk_cell BK124.out 2).trans rfl; have hcz7_3 : w6.cell? ⟨gb124, 3, none⟩ = some (.int .i64 a0_3) := (blk_cell BK124.out 3).trans rfl; have hcz7_4 : w6.cell? ⟨gb124, 4, none⟩ = some (.string a0_4) := (blk_cell BK124.out 4).trans rfl; have hfz7_0 := blk_frozen BK124.out 0; have hfz7_1 := blk_frozen BK124.out 1; have hfz7_2 := blk_frozen BK124.out 2; have hfz7_3 := blk_frozen BK124.out 3; have hfz7_4 := blk_frozen BK124.out 4) | ((with_reducible refine gate_callee (f := 29) rfl ?_); refine goesL_ (some 11) rfl rfl Try.func29 (by kernel_rfl) rfl #[.slice A1 l1.length c1, .string a0_0] rfl (by (try simp only [List.map_toArray, List.map_cons, List.map_nil]); first | done | rfl | (simp only [List.length_drop, List.length_take]; rfl)) ?_; (with_reducible refine (event_Get.calls _ _ l1 a0_0 t125 t126 t127 true _ ?side1 ?side2 A3.out).mono ?_); (case side1 => repeat (first | exact (Kd.C_below HR1.out HB.out) | (with_reducible refine Kd.C_alloc ?_ _) | (with_reducible refine Kd.C_drewN ?_ _) | (with_reducible refine Kd.C_drew ?_))); (case side2 => exact HC1.out); rintro e w8 ⟨rfl, hb⟩; refine ⟨_, rfl, ?_⟩; have n0_ := Aside0.mk (blk_below (g := gb124) (o := .cells #[.string a0_0, .int .i64 a0_1, .int .i64 a0_2, .int .i64 a0_3, .string a0_4] 25 (0, 0)) (by (with_reducible repeat (first | refine blk_drewN ?_ _ | refine blk_drew ?_ | refine blk_alloc ?_ _)); exact BK124.out) hb); have n1_ := Aside0.mk (below_step (by repeat (first | (with_reducible first | exact HB.out | apply below_alloc | apply pw_below_drewN | apply below_drew1 | refine below_set ?_ GE124.out) | exact HB.out)) hb); clear BK124; clear HB; have BK124 := n0_; have HB := n1_; clear n0_ n1_; (try clear hb); (try clear hb2); (try clear hk); (try clear hi)) | ((with_reducible refine gate_dst (N := 5) rfl ?_); refine box_event ?hg (N := 5) ?hd (cs := #[.int .i64 0, .int .i64 0, .string (⟨#[]⟩ : ByteArray)]) (t := 23) ?hr ?_; (case hd => rfl); (case hg => rfl); (case hr => first | (go_simp; done) | (go_simp; rfl)); intro gb129 hg w9 hbox hb; have n0_ := Aside0.mk (blk_below (g := gb124) (o := .cells #[.string a0_0, .int .i64 a0_1, .int .i64 a0_2, .int .i64 a0_3, .string a0_4] 25 (0, 0)) (by (with_reducible repeat (first | refine blk_drewN ?_ _ | refine blk_drew ?_ | refine blk_alloc ?_ _)); exact BK124.out) hb); have n1_ := Aside0.mk (below_step (by repeat (first | (with_reducible first | exact HB.out | apply below_alloc | apply pw_below_drewN | apply below_drew1 | refine below_set ?_ GE124.out) | exact HB.out)) hb); have n2_ := Aside0.mk (hbox); have n3_ := Aside0.mk ((by rw [hg]; exact (below_size (by repeat (first | (with_reducible first | exact HB.out | apply below_alloc | apply pw_below_drewN | apply below_drew1 | refine below_set ?_ GE124.out) | exact HB.out))) : w.heap.size ≤ gb129)); have n4_ := Aside0.mk ((by rw [hg]; exact (below_size (by repeat (first | (with_reducible first | exact HB.out | apply below_alloc | apply pw_below_drewN | apply below_drew1 | refine below_set ?_ GE124.out) | exact HB.out))) : w.heap.size ≤ gb129)); have n5_ := Aside0.mk ((by rw [hg]; exact Nat.ne_of_lt (blk_lt (g := gb124) (o := .cells #[.string a0_0, .int .i64 a0_1, .int .i64 a0_2, .int .i64 a0_3, .string a0_4] 25 (0, 0)) (by (with_reducible repeat (first | refine blk_drewN ?_ _ | refine blk_drew ?_ | refine blk_alloc ?_ _)); exact BK124.out)) : gb124 ≠ gb129)); have n6_ := Aside0.mk ((by rw [hg]; exact Nat.ne_of_gt (blk_lt (g := gb124) (o := .cells #[.string a0_0, .int .i64 a0_1, .int .i64 a0_2, .int .i64 a0_3, .string a0_4] 25 (0, 0)) (by (with_reducible repeat (first | refine blk_drewN ?_ _ | refine blk_drew ?_ | refine blk_alloc ?_ _)); exact BK124.out)) : gb129 ≠ gb124)); clear BK124; clear HB; have BK124 := n0_; have HB := n1_; have BK129 := n2_; have GW129 := n3_; have GE129 := n4_; have NB124_129 := n5_; have NB129_124 := n6_; clear n0_ n1_ n2_ n3_ n4_ n5_ n6_; clear hb hbox hg; have hnb10 := NB129_124.out; have hnc10 := NB124_129.out; have hcz11_0 : w9.cell? ⟨gb129, 0, none⟩ = some (.int .i64 0) := (blk_cell BK129.out 0).trans rfl; have hcz11_1 : w9.cell? ⟨gb129, 1, none⟩ = some (.int .i64 0) := (blk_cell BK129.out 1).trans rfl; have hcz11_2 : w9.cell? ⟨gb129, 2, none⟩ = some (.string (⟨#[]⟩ : ByteArray)) := (blk_cell BK129.out 2).trans rfl; have hfz11_0 := blk_frozen BK129.out 0; have hfz11_1 := blk_frozen BK129.out 1; have hfz11_2 := blk_frozen BK129.out 2; have hcz12_0 : w9.cell? ⟨gb124, 0, none⟩ = some (.string a0_0) := (blk_cell BK124.out 0).trans rfl; have hcz12_1 : w9.cell? ⟨gb124, 1, none⟩ = some (.int .i64 a0_1) := (blk_cell BK124.out 1).trans rfl; have hcz12_2 : w9.cell? ⟨gb124, 2, none⟩ = some (.int .i64 a0_2) := (blk_cell BK124.out 2).trans rfl; have hcz12_3 : w9.cell? ⟨gb124, 3, none⟩ = some (.int .i64 a0_3) := (blk_cell BK124.out 3).trans rfl; have hcz12_4 : w9.cell? ⟨gb124, 4, none⟩ = some (.string a0_4) := (blk_cell BK124.out 4).trans rfl; have hfz12_0 := blk_frozen BK124.out 0; have hfz12_1 := blk_frozen BK124.out 1; have hfz12_2 := blk_frozen BK124.out 2; have hfz12_3 := blk_frozen BK124.out 3; have hfz12_4 := blk_frozen BK124.out 4) | (go_at_call 12; (with_reducible refine (pred_Holds.calls k a0_0 a0_1 a0_2 a0_3 a0_4 t125 t126 t127 t130 _ A5.out).mono ?_); rintro e w13 ⟨rfl, hb⟩; have n0_ := Aside0.mk (blk_below (g := gb124) (o := .cells #[.string a0_0, .int .i64 a0_1, .int .i64 a0_2, .int .i64 a0_3, .string a0_4] 25 (0, 0)) (by (with_reducible repeat (first | refine blk_drewN ?_ _ | refine blk_drew ?_ | refine blk_alloc ?_ _)); refine blk_far ?_ NB124_129.out _; (with_reducible repeat (first | refine blk_drewN ?_ _ | refine blk_drew ?_ | refine blk_alloc ?_ _)); refine blk_far ?_ NB124_129.out _; (with_reducible repeat (first | refine blk_drewN ?_ _ | refine blk_drew ?_ | refine blk_alloc ?_ _)); refine blk_far ?_ NB124_129.out _; (with_reducible repeat (first | refine blk_drewN ?_ _ | refine blk_drew ?_ | refine blk_alloc ?_ _)); exact BK124.out) hb); have n1_ := Aside0.mk (blk_below (g := gb129) (o := .cells #[.int .i64 t125, .int .i64 t126, .string t127] 23 (0, 0)) (by (with_reducible repeat (first | refine blk_drewN ?_ _ | refine blk_drew ?_ | refine blk_alloc ?_ _)); refine blk_put (cs := #[.int .i64 t125, .int .i64 t126, .string (⟨#[]⟩ : ByteArray)]) ?_ 2 _ rfl; (with_reducible repeat (first | refine blk_drewN ?_ _ | refine blk_drew ?_ | refine blk_alloc ?_ _)); refine blk_put (cs := #[.int .i64 t125, .int .i64 0, .string (⟨#[]⟩ : ByteArray)]) ?_ 1 _ rfl; (with_reducible repeat (first | refine blk_drewN ?_ _ | refine blk_drew ?_ | refine blk_alloc ?_ _)); refine blk_put (cs := #[.int .i64 0, .int .i64 0, .string (⟨#[]⟩ : ByteArray)]) ?_ 0 _ rfl; (with_reducible repeat (first | refine blk_drewN ?_ _ | refine blk_drew ?_ | refine blk_alloc ?_ _)); exact BK129.out) hb); have n2_ := Aside0.mk (below_step (by repeat (first | (with_reducible first | exact HB.out | apply below_alloc | apply pw_below_drewN | apply below_drew1 | refine below_set ?_ GE124.out | refine below_set ?_ GE129.out) | exact HB.out)) hb); clear BK124; clear BK129; clear HB; have BK124 := n0_; have BK129 := n1_; have HB := n2_; clear n0_ n1_ n2_; (try clear hb); (try clear hb2); (try clear hk); (try clear hi)))
    go_ret
    exact ⟨by first | rfl | (simp [errW_none, errW_some] <;> rfl) | (simp [*, errW_none, errW_some] <;> rfl), by repeat (first | (with_reducible first | exact HB.out | apply below_alloc | apply pw_below_drewN | apply below_drew1 | refine below_set ?_ GE124.out | refine below_set ?_ GE129.out) | exact HB.out)⟩
  · replace c4 := Bool.eq_false_iff.mpr c4
    subst c4
    have H1 : (some false) = some r := by rw [if_neg (show ¬ (false = true) by decide)] at H; exact H
    clear H
    have H := H1
    clear H1
    obtain rfl := Option.some.inj H
    go_enter Try.func14, Try.ntmps14
    go_wp2_with (first | ((with_reducible refine gate_dst (N := 2) rfl ?_); refine box_event ?hg (N := 2) ?hd (cs := #[.string a0_0, .int .i64 a0_1, .int .i64 a0_2, .int .i64 a0_3, .string a0_4]) (t := 25) ?hr ?_; (case hd => rfl); (case hg => rfl); (case hr => first | (go_simp; done) | (go_simp; rfl)); intro gb124 hg w14 hbox hb; have n0_ := Aside0.mk (below_step (by repeat (first | (with_reducible first | exact HB.out | apply below_alloc | apply pw_below_drewN | apply below_drew1) | exact HB.out)) hb); have n1_ := Aside0.mk (hbox); have n2_ := Aside0.mk ((by rw [hg]; exact (below_size (by repeat (first | (with_reducible first | exact HB.out | apply below_alloc | apply pw_below_drewN | apply below_drew1) | exact HB.out))) : w.heap.size ≤ gb124)); have n3_ := Aside0.mk ((by rw [hg]; exact (below_size (by repeat (first | (with_reducible first | exact HB.out | apply below_alloc | apply pw_below_drewN | apply below_drew1) | exact HB.out))) : w.heap.size ≤ gb124)); clear HB; have HB := n0_; have BK124 := n1_; have GW124 := n2_; have GE124 := n3_; clear n0_ n1_ n2_ n3_; clear hb hbox hg; have hcz15_0 : w14.cell? ⟨gb124, 0, none⟩ = some (.string a0_0) := (blk_cell BK124.out 0).trans rfl; have hcz15_1 : w14.cell? ⟨gb124, 1, none⟩ = some (.int .i64 a0_1) := (blk_cell BK124.out 1).trans rfl; have hcz15_2 : w14.cell? ⟨gb124, 2, none⟩ = some (.int .i64 a0_2) := (blk_cell BK124.out 2).trans rfl; have hcz15_3 : w14.cell? ⟨gb124, 3, none⟩ = some (.int .i64 a0_3) := (blk_cell BK124.out 3).trans rfl; have hcz15_4 : w14.cell? ⟨gb124, 4, none⟩ = some (.string a0_4) := (blk_cell BK124.out 4).trans rfl; have hfz15_0 := blk_frozen BK124.out 0; have hfz15_1 := blk_frozen BK124.out 1; have hfz15_2 := blk_frozen BK124.out 2; have hfz15_3 := blk_frozen BK124.out 3; have hfz15_4 := blk_frozen BK124.out 4) | ((with_reducible refine gate_callee (f := 29) rfl ?_); refine goesL_ (some 11) rfl rfl Try.func29 (by kernel_rfl) rfl #[.slice A1 l1.length c1, .string a0_0] rfl (by (try simp only [List.map_toArray, List.map_cons, List.map_nil]); first | done | rfl | (simp only [List.length_drop, List.length_take]; rfl)) ?_; (with_reducible refine (event_Get.calls _ _ l1 a0_0 t125 t126 t127 false _ ?side1 ?side2 A3.out).mono ?_); (case side1 => repeat (first | exact (Kd.C_below HR1.out HB.out) | (with_reducible refine Kd.C_alloc ?_ _) | (with_reducible refine Kd.C_drewN ?_ _) | (with_reducible refine Kd.C_drew ?_))); (case side2 => exact HC1.out); rintro e w16 ⟨rfl, hb⟩; refine ⟨_, rfl, ?_⟩; have n0_ := Aside0.mk (blk_below (g := gb124) (o := .cells #[.string a0_0, .int .i64 a0_1, .int .i64 a0_2, .int .i64 a0_3, .string a0_4] 25 (0, 0)) (by (with_reducible repeat (first | refine blk_drewN ?_ _ | refine blk_drew ?_ | refine blk_alloc ?_ _)); exact BK124.out) hb); have n1_ := Aside0.mk (below_step (by repeat (first | (with_reducible first | exact HB.out | apply below_alloc | apply pw_below_drewN | apply below_drew1 | refine below_set ?_ GE124.out) | exact HB.out)) hb); clear BK124; clear HB; have BK124 := n0_; have HB := n1_; clear n0_ n1_; (try clear hb); (try clear hb2); (try clear hk); (try clear hi)) | ((with_reducible refine gate_dst (N := 5) rfl ?_); refine box_event ?hg (N := 5) ?hd (cs := #[.int .i64 0, .int .i64 0, .string (⟨#[]⟩ : ByteArray)]) (t := 23) ?hr ?_; (case hd => rfl); (case hg => rfl); (case hr => first | (go_simp; done) | (go_simp; rfl)); intro gb129 hg w17 hbox hb; have n0_ := Aside0.mk (blk_below (g := gb124) (o := .cells #[.string a0_0, .int .i64 a0_1, .int .i64 a0_2, .int .i64 a0_3, .string a0_4] 25 (0, 0)) (by (with_reducible repeat (first | refine blk_drewN ?_ _ | refine blk_drew ?_ | refine blk_alloc ?_ _)); exact BK124.out) hb); have n1_ := Aside0.mk (below_step (by repeat (first | (with_reducible first | exact HB.out | apply below_alloc | apply pw_below_drewN | apply below_drew1 | refine below_set ?_ GE124.out) | exact HB.out)) hb); have n2_ := Aside0.mk (hbox); have n3_ := Aside0.mk ((by rw [hg]; exact (below_size (by repeat (first | (with_reducible first | exact HB.out | apply below_alloc | apply pw_below_drewN | apply below_drew1 | refine below_set ?_ GE124.out) | exact HB.out))) : w.heap.size ≤ gb129)); have n4_ := Aside0.mk ((by rw [hg]; exact (below_size (by repeat (first | (with_reducible first | exact HB.out | apply below_alloc | apply pw_below_drewN | apply below_drew1 | refine below_set ?_ GE124.out) | exact HB.out))) : w.heap.size ≤ gb129)); have n5_ := Aside0.mk ((by rw [hg]; exact Nat.ne_of_lt (blk_lt (g := gb124) (o := .cells #[.string a0_0, .int .i64 a0_1, .int .i64 a0_2, .int .i64 a0_3, .string a0_4] 25 (0, 0)) (by (with_reducible repeat (first | refine blk_drewN ?_ _ | refine blk_drew ?_ | refine blk_alloc ?_ _)); exact BK124.out)) : gb124 ≠ gb129)); have n6_ := Aside0.mk ((by rw [hg]; exact Nat.ne_of_gt (blk_lt (g := gb124) (o := .cells #[.string a0_0, .int .i64 a0_1, .int .i64 a0_2, .int .i64 a0_3, .string a0_4] 25 (0, 0)) (by (with_reducible repeat (first | refine blk_drewN ?_ _ | refine blk_drew ?_ | refine blk_alloc ?_ _)); exact BK124.out)) : gb129 ≠ gb124)); clear BK124; clear HB; have BK124 := n0_; have HB := n1_; have BK129 := n2_; have GW129 := n3_; have GE129 := n4_; have NB124_129 := n5_; have NB129_124 := n6_; clear n0_ n1_ n2_ n3_ n4_ n5_ n6_; clear hb hbox hg; have hnb18 := NB129_124.out; have hnc18 := NB124_129.out; have hcz19_0 : w17.cell? ⟨gb129, 0, none⟩ = some (.int .i64 0) := (blk_cell BK129.out 0).trans rfl; have hcz19_1 : w17.cell? ⟨gb129, 1, none⟩ = some (.int .i64 0) := (blk_cell BK129.out 1).trans rfl; have hcz19_2 : w17.cell? ⟨gb129, 2, none⟩ = some (.string (⟨#[]⟩ : ByteArray)) := (blk_cell BK129.out 2).trans rfl; have hfz19_0 := blk_frozen BK129.out 0; have hfz19_1 := blk_frozen BK129.out 1; have hfz19_2 := blk_frozen BK129.out 2))
    go_ret
    exact ⟨by first | rfl | (simp [errW_none, errW_some] <;> rfl) | (simp [*, errW_none, errW_some] <;> rfl), by repeat (first | (with_reducible first | exact HB.out | apply below_alloc | apply pw_below_drewN | apply below_drew1 | refine below_set ?_ GE124.out | refine below_set ?_ GE129.out) | exact HB.out)⟩

end Go.Proofs.Ytojefdnngkcaoaa.G
end

section
/- the small case of the predicates' laws, walked -/
set_option linter.unusedVariables false
set_option linter.unusedSimpArgs false
set_option autoImplicit false
namespace Go.Proofs.Ytojefdnngkcaoaa
open Go.RowKit Go.Proofs.YtojefdnngkcaoaaW.PrintWords Go.Proofs.YtojefdnngkcaoaaW.PrintLast Go.Proofs.YtojefdnngkcaoaaW.PrintMore Go.Proofs.Ytojefdnngkcaoaa.G

deriving instance DecidableEq for Sc
theorem sm1 : pred_Put.f 20 [] ⟨#[97]⟩ 5 1 5 ⟨#[]⟩ = some [1, 97, 5, 1, 10] := by decide +kernel
theorem sn1 : Sc.pred ⟨[1, 97, 5, 1, 10], 0⟩ = (⟨⟨#[97]⟩, 5, ⟨1, 5, ⟨#[]⟩⟩⟩, ⟨[], 0⟩) := by decide +kernel
theorem sn2 : Sc.pred ⟨[1, 97, 7, 1, 0], 0⟩ = (⟨⟨#[]⟩, 0, ⟨0, 0, ⟨#[]⟩⟩⟩, ⟨[], 3⟩) := by decide +kernel
theorem sm2 : pred_Right.f 20 ⟨#[97]⟩ 7 2 0 ⟨#[97, 98]⟩ = some true := by decide +kernel
theorem sm3 : pred_Holds.f 20 ⟨#[97]⟩ 7 2 0 ⟨#[97, 98]⟩ 2 0 ⟨#[97, 98, 99]⟩ = some true := by decide +kernel
theorem sm4 : pred_Holds.f 20 ⟨#[97]⟩ 7 2 0 ⟨#[97, 98]⟩ 2 0 ⟨#[97]⟩ = some false := by decide +kernel
theorem sm5 : pred_Meets.f 20 ⟨#[97]⟩ 5 1 5 ⟨#[]⟩ [⟨⟨#[97]⟩, ⟨1, 6, ⟨#[]⟩⟩⟩] = some true := by decide +kernel
theorem sm6 : pred_Meets.f 20 ⟨#[97]⟩ 5 1 5 ⟨#[]⟩ [] = some false := by decide +kernel
theorem sm7 : pred_Holds.f 20 ⟨#[97]⟩ 5 1 5 ⟨#[]⟩ 2 0 ⟨#[97, 98]⟩ = some false := by decide +kernel
theorem sm8 : pred_Holds.f 20 ⟨#[97]⟩ 2 1 5 ⟨#[]⟩ 2 0 ⟨#[97, 98]⟩ = some false := by decide +kernel
theorem sm9 : pred_Holds.f 20 ⟨#[97]⟩ 8 0 0 ⟨#[]⟩ 2 0 ⟨#[97, 98]⟩ = some true := by decide +kernel
theorem HeldB.mono {w : World} {S S' : Nat → Prop} {A : Option Addr} {l : List Int} (h : HeldB w S A l) (hS : ∀ k, S k → S' k) : HeldB w S' A l := by
  intro h0
  obtain ⟨ad, h1, h2, h3⟩ := h h0
  exact ⟨ad, h1, hS _ h2, h3⟩
theorem vkeepB {W W' : World} {b : Nat} {o : Obj} (h : W.heap[b]? = some o) (hB : Below W.heap.size W W') : W'.heap[b]? = some o := by rw [hB.block _ (lt_of_heap h)]; exact h
theorem vkeepG {W W' : World} {b g : Nat} {o : Obj} (h : W.heap[b]? = some o) (hG : W.grownBy W' (some g)) (hne : b ≠ g) : W'.heap[b]? = some o := by rw [hG.block _ (lt_of_heap h) (fun e => by cases e; exact hne rfl)]; exact h
theorem vcells {W : World} {b T : Nat} {x y z : Value} (h : W.heap[b]? = some (.cells #[x, y, z] T (0, 0))) :
    W.cell? ⟨b, 0, none⟩ = some x ∧ W.cell? ⟨b, 1, none⟩ = some y ∧ W.cell? ⟨b, 2, none⟩ = some z :=
  ⟨by rw [cell_of_row _ _ _ _ _ _ h]; rfl, by rw [cell_of_row _ _ _ _ _ _ h]; rfl, by rw [cell_of_row _ _ _ _ _ _ h]; rfl⟩
theorem vcells5 {W : World} {b T : Nat} {x y z u v : Value} (h : W.heap[b]? = some (.cells #[x, y, z, u, v] T (0, 0))) :
    W.cell? ⟨b, 0, none⟩ = some x ∧ W.cell? ⟨b, 1, none⟩ = some y ∧ W.cell? ⟨b, 2, none⟩ = some z ∧ W.cell? ⟨b, 3, none⟩ = some u ∧ W.cell? ⟨b, 4, none⟩ = some v :=
  ⟨by rw [cell_of_row _ _ _ _ _ _ h]; rfl, by rw [cell_of_row _ _ _ _ _ _ h]; rfl, by rw [cell_of_row _ _ _ _ _ _ h]; rfl, by rw [cell_of_row _ _ _ _ _ _ h]; rfl, by rw [cell_of_row _ _ _ _ _ _ h]; rfl⟩
theorem one_attr {W : World} {b : Nat} (x : S52) (h : W.heap[b]? = some (.cells #[.string x.f0, .int .i64 x.f1.f0, .int .i64 x.f1.f1, .string x.f1.f2] 52 (0, 0))) : Kd.C k52 W (some ⟨b, 0, none⟩) 1 [x] := by
  refine ⟨rfl, by decide, fun _ => ⟨_, rfl, fun j p hj => ?_⟩⟩
  have hj0 : j = 0 := by have := (List.getElem?_eq_some_iff.1 hj).1; simp at this; exact this
  subst hj0
  simp only [List.getElem?_cons_zero, Option.some.injEq] at hj
  subst hj
  refine ⟨[.string x.f0, .int .i64 x.f1.f0, .int .i64 x.f1.f1, .string x.f1.f2], rfl, k52_mk W x, fun i u hu => ?_⟩
  rw [Nat.zero_mul, Nat.zero_add, add_plain, cell_of_row _ _ _ _ _ _ h]
  simpa using hu
theorem allocs5 (w : World) (A B C D E : Obj) : (((((w.alloc A).alloc B).alloc C).alloc D).alloc E).heap[w.heap.size]? = some A ∧ (((((w.alloc A).alloc B).alloc C).alloc D).alloc E).heap[w.heap.size + 1]? = some B ∧ (((((w.alloc A).alloc B).alloc C).alloc D).alloc E).heap[w.heap.size + 1 + 1]? = some C ∧ (((((w.alloc A).alloc B).alloc C).alloc D).alloc E).heap[w.heap.size + 1 + 1 + 1]? = some D ∧ (((((w.alloc A).alloc B).alloc C).alloc D).alloc E).heap[w.heap.size + 1 + 1 + 1 + 1]? = some E ∧ Below w.heap.size w (((((w.alloc A).alloc B).alloc C).alloc D).alloc E) := by
  have h : (((((w.alloc A).alloc B).alloc C).alloc D).alloc E).heap = ((((w.heap.push A).push B).push C).push D).push E := rfl
  have b1 := (Below.refl w.heap.size w).alloc (Nat.le_refl _) A
  have b2 := b1.alloc b1.size B
  have b3 := b2.alloc b2.size C
  have b4 := b3.alloc b3.size D
  rw [h]
  refine ⟨?_, ?_, ?_, ?_, ?_, b4.alloc b4.size E⟩
  · rw [Array.getElem?_push, if_neg (by simp; omega), Array.getElem?_push, if_neg (by simp; omega), Array.getElem?_push, if_neg (by simp; omega), Array.getElem?_push, if_neg (by simp), Array.getElem?_push, if_pos rfl]
  · rw [Array.getElem?_push, if_neg (by simp), Array.getElem?_push, if_neg (by simp), Array.getElem?_push, if_neg (by simp), Array.getElem?_push, if_pos (by simp)]
  · rw [Array.getElem?_push, if_neg (by simp), Array.getElem?_push, if_neg (by simp), Array.getElem?_push, if_pos (by simp)]
  · rw [Array.getElem?_push, if_neg (by simp), Array.getElem?_push, if_pos (by simp)]
  · rw [Array.getElem?_push, if_pos (by simp)]
set_option maxRecDepth 100000 in
set_option maxHeartbeats 8000000 in
theorem small_any (w : World) : Calls Try.prog 8 #[] w fun e w' => e = .returned (.bool true) ∧ Below w.heap.size w w' := by
  obtain ⟨hF, hX, hP, hQ, hE, hB⟩ := allocs5 w (.cells #[.int .i64 1, .int .i64 5, .string ⟨#[]⟩] 23) (.cells #[.int .i64 2, .int .i64 0, .string ⟨#[97, 98]⟩] 23) (.cells #[.string ⟨#[97]⟩, .int .i64 5, .int .i64 1, .int .i64 5, .string ⟨#[]⟩] 25) (.cells #[.string ⟨#[97]⟩, .int .i64 7, .int .i64 2, .int .i64 0, .string ⟨#[97, 98]⟩] 25) (.cells #[.string ⟨#[97]⟩, .int .i64 1, .int .i64 6, .string ⟨#[]⟩] 52)
  have KF0 := Aside0.mk hF
  have KX0 := Aside0.mk hX
  have KP0 := Aside0.mk hP
  have KQ0 := Aside0.mk hQ
  have KE0 := Aside0.mk hE
  have HB0 := Aside0.mk hB
  clear hF hX hP hQ hE hB
  go_enter Try.func8, Try.ntmps8
  go_upto_region 6 with fail
  generalize ((((w.alloc (.cells #[.int .i64 1, .int .i64 5, .string ⟨#[]⟩] 23)).alloc (.cells #[.int .i64 2, .int .i64 0, .string ⟨#[97, 98]⟩] 23)).alloc (.cells #[.string ⟨#[97]⟩, .int .i64 5, .int .i64 1, .int .i64 5, .string ⟨#[]⟩] 25)).alloc (.cells #[.string ⟨#[97]⟩, .int .i64 7, .int .i64 2, .int .i64 0, .string ⟨#[97, 98]⟩] 25)).alloc (.cells #[.string ⟨#[97]⟩, .int .i64 1, .int .i64 6, .string ⟨#[]⟩] 52) = w0 at KF0 KX0 KP0 KQ0 KE0 HB0 ⊢
  generalize w.heap.size + 1 + 1 + 1 + 1 = b4 at KF0 KX0 KP0 KQ0 KE0 ⊢
  generalize w.heap.size + 1 + 1 + 1 = b3 at KF0 KX0 KP0 KQ0 KE0 ⊢
  generalize w.heap.size + 1 + 1 = b2 at KF0 KX0 KP0 KQ0 KE0 ⊢
  generalize w.heap.size + 1 = b1 at KF0 KX0 KP0 KQ0 KE0 ⊢
  obtain ⟨b0, hb0⟩ : ∃ b, w.heap.size = b := ⟨_, rfl⟩
  have HB0' : Aside0 (Below b0 w w0) := ⟨by have := HB0.out; rwa [hb0] at this⟩
  have HW := Aside0.mk hb0
  rw [hb0] at KF0
  try rw [hb0]
  clear HB0 hb0
  have HB0 := HB0'
  clear HB0'
  obtain ⟨p_0, p_1, p_2, p_3, p_4⟩ := vcells5 KP0.out
  go_wp2_with fail
  refine (pred_Put.calls 20 none 0 [] ⟨#[97]⟩ 5 1 5 ⟨#[]⟩ [1, 97, 5, 1, 10] w0 (nil_C w0 .u8) (Nat.le_refl _) sm1).mono ?_
  rintro e w1 ⟨vb, rfl, hR, hB⟩
  obtain ⟨Ab, nb, rfl, hnb, _, hH, hCb⟩ := held_own hR
  clear p_0 p_1 p_2 p_3 p_4
  have HB1 : Aside0 (Below b0 w w1) := ⟨HB0.out.trans (hB.mono (by have := HB0.out.size; have := HW.out; omega))⟩
  have KF1 := Aside0.mk (vkeepB KF0.out hB)
  have KX1 := Aside0.mk (vkeepB KX0.out hB)
  have KP1 := Aside0.mk (vkeepB KP0.out hB)
  have KQ1 := Aside0.mk (vkeepB KQ0.out hB)
  have KE1 := Aside0.mk (vkeepB KE0.out hB)
  clear HB0 KF0 KX0 KP0 KQ0 KE0
  have Hb1 := Aside0.mk (hH.mono (S' := fun k => k < w1.heap.size) (fun _ hk => hk.2))
  have C1 := Aside0.mk hCb
  have LW := Aside0.mk (show b0 < w1.heap.size ∧ b1 < w1.heap.size ∧ b2 < w1.heap.size ∧ b3 < w1.heap.size ∧ b4 < w1.heap.size from ⟨lt_of_heap KF1.out, lt_of_heap KX1.out, lt_of_heap KP1.out, lt_of_heap KQ1.out, lt_of_heap KE1.out⟩)
  clear hR hB hH hCb
  go_wp2_with fail
  refine (won Ab nb [1, 97, 5, 1, 10] w1 C1.out hnb (by decide) (by decide)).mono ?_
  rintro e w2 ⟨gs, rfl, hgs, hS, hB⟩
  have HB2 : Aside0 (Below b0 w w2) := ⟨HB1.out.trans (hB.mono (by have := HB1.out.size; have := HW.out; omega))⟩
  have KF2 := Aside0.mk (vkeepB KF1.out hB)
  have KX2 := Aside0.mk (vkeepB KX1.out hB)
  have KP2 := Aside0.mk (vkeepB KP1.out hB)
  have KQ2 := Aside0.mk (vkeepB KQ1.out hB)
  have KE2 := Aside0.mk (vkeepB KE1.out hB)
  have Hb2 := Aside0.mk (Hb1.out.below hB)
  clear HB1 KF1 KX1 KP1 KQ1 KE1 Hb1
  have Ss2 := Aside0.mk hS
  have GS := Aside0.mk (show w1.heap.size ≤ gs ∧ gs < w2.heap.size from ⟨hgs, hS.lt⟩)
  clear hB hS hgs C1
  go_wp2_with fail
  refine (won _ _ [1, 97, 7, 1, 0] _ (lit_C w2 5 .u8 [1, 97, 7, 1, 0] (by decide)) (Nat.le_refl _) (by decide) (by decide)).mono ?_
  rintro e w3 ⟨gt, rfl, hgt, hS, hB0⟩
  have hB : Below w2.heap.size w2 w3 := ((Below.refl _ _).alloc (Nat.le_refl _) _).trans (hB0.mono (by simp))
  have HB3 : Aside0 (Below b0 w w3) := ⟨HB2.out.trans (hB.mono (by have := HB2.out.size; have := HW.out; omega))⟩
  have KF3 := Aside0.mk (vkeepB KF2.out hB)
  have KX3 := Aside0.mk (vkeepB KX2.out hB)
  have KP3 := Aside0.mk (vkeepB KP2.out hB)
  have KQ3 := Aside0.mk (vkeepB KQ2.out hB)
  have KE3 := Aside0.mk (vkeepB KE2.out hB)
  have Ss3 := Aside0.mk (Ss2.out.below hB)
  have Hb3 := Aside0.mk (Hb2.out.below hB)
  clear HB2 KF2 KX2 KP2 KQ2 KE2 Ss2 Hb2
  have St3 := Aside0.mk (hS.mono (S' := fun k => w2.heap.size ≤ k ∧ k < gt) (fun k hk => ⟨by have := hk.1; simp at this; omega, hk.2⟩) (by omega))
  have GT := Aside0.mk (show w2.heap.size ≤ gt ∧ gt < w3.heap.size from ⟨by simp at hgt; omega, hS.lt⟩)
  clear hB hB0 hS hgt
  go_wp2_with fail
  have hop := wpget Ss3.out
  rw [sn1] at hop
  refine hop.mono ?_
  rintro e w4 ⟨rfl, hx, hG⟩
  simp only [Pd.c]
  have hb := (Below.refl w4.heap.size w4).alloc (Nat.le_refl _) (.cells #[.string ⟨#[97]⟩, .int .i64 5, .int .i64 1, .int .i64 5, .string ⟨#[]⟩] 25)
  have hB0 : Below b0 w w4 := HB3.out.grown hG (by have := HB3.out.size; have := HW.out; omega) (fun k hk => by cases hk; have := GS.out; have := GT.out; have := LW.out; omega)
  have HB5 : Aside0 (Below b0 w (w4.alloc (.cells #[.string ⟨#[97]⟩, .int .i64 5, .int .i64 1, .int .i64 5, .string ⟨#[]⟩] 25))) := ⟨hB0.alloc (by have := hB0.size; have := HW.out; omega) _⟩
  have KF5 := Aside0.mk (vkeepB (vkeepG KF3.out hG (by have := GS.out; have := GT.out; have := LW.out; omega)) hb)
  have KX5 := Aside0.mk (vkeepB (vkeepG KX3.out hG (by have := GS.out; have := GT.out; have := LW.out; omega)) hb)
  have KP5 := Aside0.mk (vkeepB (vkeepG KP3.out hG (by have := GS.out; have := GT.out; have := LW.out; omega)) hb)
  have KQ5 := Aside0.mk (vkeepB (vkeepG KQ3.out hG (by have := GS.out; have := GT.out; have := LW.out; omega)) hb)
  have KE5 := Aside0.mk (vkeepB (vkeepG KE3.out hG (by have := GS.out; have := GT.out; have := LW.out; omega)) hb)
  have KV5 := Aside0.mk (heap_alloc_new w4 (.cells #[.string ⟨#[97]⟩, .int .i64 5, .int .i64 1, .int .i64 5, .string ⟨#[]⟩] 25))
  have Ss5 := Aside0.mk (hx.below hb)
  have St5 := Aside0.mk ((St3.out.grown hG (by have := GS.out; have := GT.out; have := LW.out; omega) (by have := GS.out; have := GT.out; have := LW.out; omega)).below hb)
  have Hb5 := Aside0.mk ((Hb3.out.grown hG (by have := GS.out; have := GT.out; have := LW.out; omega)).below hb)
  have V1 := Aside0.mk (show w3.heap.size ≤ w4.heap.size from by have := hG.size; omega)
  clear hop hx hG hb hB0 HB3 KF3 KX3 KP3 KQ3 KE3 Ss3 St3 Hb3
  go_upto_region 12 with fail
  generalize w4.alloc (.cells #[.string ⟨#[97]⟩, .int .i64 5, .int .i64 1, .int .i64 5, .string ⟨#[]⟩] 25) = w5 at HB5 KF5 KX5 KP5 KQ5 KE5 KV5 Ss5 St5 Hb5 ⊢
  obtain ⟨v0, hv0⟩ : ∃ v, w4.heap.size = v := ⟨_, rfl⟩
  rw [hv0] at KV5 V1
  try rw [hv0]
  clear hv0
  go_wp2_with fail
  have hop := wpget St5.out
  rw [sn2] at hop
  refine hop.mono ?_
  rintro e w6 ⟨rfl, hx, hG⟩
  simp only [Pd.c]
  have hb := (Below.refl w6.heap.size w6).alloc (Nat.le_refl _) (.cells #[.string ⟨#[]⟩, .int .i64 0, .int .i64 0, .int .i64 0, .string ⟨#[]⟩] 25)
  have hB0 : Below b0 w w6 := HB5.out.grown hG (by have := HB5.out.size; have := HW.out; omega) (fun k hk => by cases hk; have := GS.out; have := GT.out; have := LW.out; omega)
  have HB7 : Aside0 (Below b0 w (w6.alloc (.cells #[.string ⟨#[]⟩, .int .i64 0, .int .i64 0, .int .i64 0, .string ⟨#[]⟩] 25))) := ⟨hB0.alloc (by have := hB0.size; have := HW.out; omega) _⟩
  have KF7 := Aside0.mk (vkeepB (vkeepG KF5.out hG (by have := GS.out; have := GT.out; have := LW.out; omega)) hb)
  have KX7 := Aside0.mk (vkeepB (vkeepG KX5.out hG (by have := GS.out; have := GT.out; have := LW.out; omega)) hb)
  have KP7 := Aside0.mk (vkeepB (vkeepG KP5.out hG (by have := GS.out; have := GT.out; have := LW.out; omega)) hb)
  have KQ7 := Aside0.mk (vkeepB (vkeepG KQ5.out hG (by have := GS.out; have := GT.out; have := LW.out; omega)) hb)
  have KE7 := Aside0.mk (vkeepB (vkeepG KE5.out hG (by have := GS.out; have := GT.out; have := LW.out; omega)) hb)
  have KV7 := Aside0.mk (vkeepB (vkeepG KV5.out hG (by have := V1.out; have := GS.out; have := GT.out; have := LW.out; omega)) hb)
  have KZ7 := Aside0.mk (heap_alloc_new w6 (.cells #[.string ⟨#[]⟩, .int .i64 0, .int .i64 0, .int .i64 0, .string ⟨#[]⟩] 25))
  have Ss7 := Aside0.mk ((Ss5.out.grown hG (by have := GS.out; have := GT.out; have := LW.out; omega) (by have := GS.out; have := GT.out; have := LW.out; omega)).below hb)
  have St7 := Aside0.mk (hx.below hb)
  have Hb7 := Aside0.mk ((Hb5.out.grown hG (by have := GS.out; have := GT.out; have := LW.out; omega)).below hb)
  skip
  clear hop hx hG hb hB0 HB5 KF5 KX5 KP5 KQ5 KE5 KV5 Ss5 St5 Hb5
  go_upto_region 13 with fail
  generalize w6.alloc (.cells #[.string ⟨#[]⟩, .int .i64 0, .int .i64 0, .int .i64 0, .string ⟨#[]⟩] 25) = w7 at HB7 KF7 KX7 KP7 KQ7 KE7 KV7 KZ7 Ss7 St7 Hb7 ⊢
  have hcs : (convert 27 9 (.slice Ab 5 nb)).run Try.prog w7 = .ok (.string ⟨#[1, 97, 5, 1, 10]⟩) w7 := Kd.C_string (P := Try.prog) (A := Ab) (c := nb) (xs := [1, 97, 5, 1, 10]) Try.underlying27 Try.underlying5 Try.underlying9 (Hb7.out.C (by decide))
  obtain ⟨f_0, f_1, f_2⟩ := vcells KF7.out
  obtain ⟨x_0, x_1, x_2⟩ := vcells KX7.out
  obtain ⟨p_0, p_1, p_2, p_3, p_4⟩ := vcells5 KP7.out
  obtain ⟨q_0, q_1, q_2, q_3, q_4⟩ := vcells5 KQ7.out
  obtain ⟨v_0, v_1, v_2, v_3, v_4⟩ := vcells5 KV7.out
  obtain ⟨z_0, z_1, z_2, z_3, z_4⟩ := vcells5 KZ7.out
  go_wp2_with fail
  have hop := wend Ss7.out
  refine hop.mono ?_
  rintro e w8 ⟨rfl, rfl⟩
  clear hop
  go_wp2_with fail
  have hop := werr St7.out
  refine hop.mono ?_
  rintro e w8 ⟨rfl, rfl⟩
  clear hop hcs
  clear Ss7 St7 Hb7
  go_wp2_with fail
  refine (pred_Right.calls 20 ⟨#[97]⟩ 7 2 0 ⟨#[97, 98]⟩ _ _ sm2).mono ?_
  rintro e w8 ⟨rfl, hB⟩
  clear f_0 f_1 f_2 x_0 x_1 x_2 p_0 p_1 p_2 p_3 p_4 q_0 q_1 q_2 q_3 q_4 v_0 v_1 v_2 v_3 v_4 z_0 z_1 z_2 z_3 z_4
  have HB8 : Aside0 (Below b0 w w8) := ⟨HB7.out.trans (hB.mono (by have := HB7.out.size; have := HW.out; omega))⟩
  have KF8 := Aside0.mk (vkeepB KF7.out hB)
  have KX8 := Aside0.mk (vkeepB KX7.out hB)
  have KP8 := Aside0.mk (vkeepB KP7.out hB)
  have KQ8 := Aside0.mk (vkeepB KQ7.out hB)
  have KE8 := Aside0.mk (vkeepB KE7.out hB)
  have KV8 := Aside0.mk (vkeepB KV7.out hB)
  have KZ8 := Aside0.mk (vkeepB KZ7.out hB)
  clear HB7 KF7 KX7 KP7 KQ7 KE7 KV7 KZ7
  clear hB
  obtain ⟨f_0, f_1, f_2⟩ := vcells KF8.out
  obtain ⟨x_0, x_1, x_2⟩ := vcells KX8.out
  obtain ⟨p_0, p_1, p_2, p_3, p_4⟩ := vcells5 KP8.out
  obtain ⟨q_0, q_1, q_2, q_3, q_4⟩ := vcells5 KQ8.out
  obtain ⟨v_0, v_1, v_2, v_3, v_4⟩ := vcells5 KV8.out
  obtain ⟨z_0, z_1, z_2, z_3, z_4⟩ := vcells5 KZ8.out
  go_wp2_with fail
  refine (pred_Holds.calls 20 ⟨#[97]⟩ 7 2 0 ⟨#[97, 98]⟩ 2 0 ⟨#[97, 98, 99]⟩ _ _ sm3).mono ?_
  rintro e w9 ⟨rfl, hB⟩
  clear f_0 f_1 f_2 x_0 x_1 x_2 p_0 p_1 p_2 p_3 p_4 q_0 q_1 q_2 q_3 q_4 v_0 v_1 v_2 v_3 v_4 z_0 z_1 z_2 z_3 z_4
  have HB9 : Aside0 (Below b0 w w9) := ⟨HB8.out.trans (hB.mono (by have := HB8.out.size; have := HW.out; omega))⟩
  have KF9 := Aside0.mk (vkeepB KF8.out hB)
  have KX9 := Aside0.mk (vkeepB KX8.out hB)
  have KP9 := Aside0.mk (vkeepB KP8.out hB)
  have KQ9 := Aside0.mk (vkeepB KQ8.out hB)
  have KE9 := Aside0.mk (vkeepB KE8.out hB)
  have KV9 := Aside0.mk (vkeepB KV8.out hB)
  have KZ9 := Aside0.mk (vkeepB KZ8.out hB)
  clear HB8 KF8 KX8 KP8 KQ8 KE8 KV8 KZ8
  clear hB
  obtain ⟨f_0, f_1, f_2⟩ := vcells KF9.out
  obtain ⟨x_0, x_1, x_2⟩ := vcells KX9.out
  obtain ⟨p_0, p_1, p_2, p_3, p_4⟩ := vcells5 KP9.out
  obtain ⟨q_0, q_1, q_2, q_3, q_4⟩ := vcells5 KQ9.out
  obtain ⟨v_0, v_1, v_2, v_3, v_4⟩ := vcells5 KV9.out
  obtain ⟨z_0, z_1, z_2, z_3, z_4⟩ := vcells5 KZ9.out
  go_wp2_with fail
  refine (pred_Holds.calls 20 ⟨#[97]⟩ 7 2 0 ⟨#[97, 98]⟩ 2 0 ⟨#[97]⟩ _ _ sm4).mono ?_
  rintro e w10 ⟨rfl, hB⟩
  clear f_0 f_1 f_2 x_0 x_1 x_2 p_0 p_1 p_2 p_3 p_4 q_0 q_1 q_2 q_3 q_4 v_0 v_1 v_2 v_3 v_4 z_0 z_1 z_2 z_3 z_4
  have HB10 : Aside0 (Below b0 w w10) := ⟨HB9.out.trans (hB.mono (by have := HB9.out.size; have := HW.out; omega))⟩
  have KF10 := Aside0.mk (vkeepB KF9.out hB)
  have KX10 := Aside0.mk (vkeepB KX9.out hB)
  have KP10 := Aside0.mk (vkeepB KP9.out hB)
  have KQ10 := Aside0.mk (vkeepB KQ9.out hB)
  have KE10 := Aside0.mk (vkeepB KE9.out hB)
  have KV10 := Aside0.mk (vkeepB KV9.out hB)
  have KZ10 := Aside0.mk (vkeepB KZ9.out hB)
  clear HB9 KF9 KX9 KP9 KQ9 KE9 KV9 KZ9
  clear hB
  obtain ⟨f_0, f_1, f_2⟩ := vcells KF10.out
  obtain ⟨x_0, x_1, x_2⟩ := vcells KX10.out
  obtain ⟨p_0, p_1, p_2, p_3, p_4⟩ := vcells5 KP10.out
  obtain ⟨q_0, q_1, q_2, q_3, q_4⟩ := vcells5 KQ10.out
  obtain ⟨v_0, v_1, v_2, v_3, v_4⟩ := vcells5 KV10.out
  obtain ⟨z_0, z_1, z_2, z_3, z_4⟩ := vcells5 KZ10.out
  go_wp2_with fail
  refine (pred_Meets.calls 20 ⟨#[97]⟩ 5 1 5 ⟨#[]⟩ (some ⟨b4, 0, none⟩) 1 [⟨⟨#[97]⟩, ⟨1, 6, ⟨#[]⟩⟩⟩] _ w10 (one_attr ⟨⟨#[97]⟩, ⟨1, 6, ⟨#[]⟩⟩⟩ KE10.out) (Nat.le_refl _) sm5).mono ?_
  rintro e w11 ⟨rfl, hB⟩
  clear f_0 f_1 f_2 x_0 x_1 x_2 p_0 p_1 p_2 p_3 p_4 q_0 q_1 q_2 q_3 q_4 v_0 v_1 v_2 v_3 v_4 z_0 z_1 z_2 z_3 z_4
  have HB11 : Aside0 (Below b0 w w11) := ⟨HB10.out.trans (hB.mono (by have := HB10.out.size; have := HW.out; omega))⟩
  have KF11 := Aside0.mk (vkeepB KF10.out hB)
  have KX11 := Aside0.mk (vkeepB KX10.out hB)
  have KP11 := Aside0.mk (vkeepB KP10.out hB)
  have KQ11 := Aside0.mk (vkeepB KQ10.out hB)
  have KE11 := Aside0.mk (vkeepB KE10.out hB)
  have KV11 := Aside0.mk (vkeepB KV10.out hB)
  have KZ11 := Aside0.mk (vkeepB KZ10.out hB)
  clear HB10 KF10 KX10 KP10 KQ10 KE10 KV10 KZ10
  clear hB
  obtain ⟨f_0, f_1, f_2⟩ := vcells KF11.out
  obtain ⟨x_0, x_1, x_2⟩ := vcells KX11.out
  obtain ⟨p_0, p_1, p_2, p_3, p_4⟩ := vcells5 KP11.out
  obtain ⟨q_0, q_1, q_2, q_3, q_4⟩ := vcells5 KQ11.out
  obtain ⟨v_0, v_1, v_2, v_3, v_4⟩ := vcells5 KV11.out
  obtain ⟨z_0, z_1, z_2, z_3, z_4⟩ := vcells5 KZ11.out
  go_wp2_with fail
  refine (pred_Meets.calls 20 ⟨#[97]⟩ 5 1 5 ⟨#[]⟩ none 0 [] _ w11 (Kd.C_nil _ _) (Nat.le_refl _) sm6).mono ?_
  rintro e w12 ⟨rfl, hB⟩
  clear f_0 f_1 f_2 x_0 x_1 x_2 p_0 p_1 p_2 p_3 p_4 q_0 q_1 q_2 q_3 q_4 v_0 v_1 v_2 v_3 v_4 z_0 z_1 z_2 z_3 z_4
  have HB12 : Aside0 (Below b0 w w12) := ⟨HB11.out.trans (hB.mono (by have := HB11.out.size; have := HW.out; omega))⟩
  have KF12 := Aside0.mk (vkeepB KF11.out hB)
  have KX12 := Aside0.mk (vkeepB KX11.out hB)
  have KP12 := Aside0.mk (vkeepB KP11.out hB)
  have KQ12 := Aside0.mk (vkeepB KQ11.out hB)
  have KE12 := Aside0.mk (vkeepB KE11.out hB)
  have KV12 := Aside0.mk (vkeepB KV11.out hB)
  have KZ12 := Aside0.mk (vkeepB KZ11.out hB)
  clear HB11 KF11 KX11 KP11 KQ11 KE11 KV11 KZ11
  clear hB
  obtain ⟨f_0, f_1, f_2⟩ := vcells KF12.out
  obtain ⟨x_0, x_1, x_2⟩ := vcells KX12.out
  obtain ⟨p_0, p_1, p_2, p_3, p_4⟩ := vcells5 KP12.out
  obtain ⟨q_0, q_1, q_2, q_3, q_4⟩ := vcells5 KQ12.out
  obtain ⟨v_0, v_1, v_2, v_3, v_4⟩ := vcells5 KV12.out
  obtain ⟨z_0, z_1, z_2, z_3, z_4⟩ := vcells5 KZ12.out
  go_wp2_with fail
  refine (pred_Holds.calls 20 ⟨#[97]⟩ 5 1 5 ⟨#[]⟩ 2 0 ⟨#[97, 98]⟩ _ _ sm7).mono ?_
  rintro e w13 ⟨rfl, hB⟩
  clear f_0 f_1 f_2 x_0 x_1 x_2 p_0 p_1 p_2 p_3 p_4 q_0 q_1 q_2 q_3 q_4 v_0 v_1 v_2 v_3 v_4 z_0 z_1 z_2 z_3 z_4
  have HB13 : Aside0 (Below b0 w w13) := ⟨HB12.out.trans (hB.mono (by have := HB12.out.size; have := HW.out; omega))⟩
  have KF13 := Aside0.mk (vkeepB KF12.out hB)
  have KX13 := Aside0.mk (vkeepB KX12.out hB)
  have KP13 := Aside0.mk (vkeepB KP12.out hB)
  have KQ13 := Aside0.mk (vkeepB KQ12.out hB)
  have KE13 := Aside0.mk (vkeepB KE12.out hB)
  have KV13 := Aside0.mk (vkeepB KV12.out hB)
  have KZ13 := Aside0.mk (vkeepB KZ12.out hB)
  clear HB12 KF12 KX12 KP12 KQ12 KE12 KV12 KZ12
  clear hB
  obtain ⟨f_0, f_1, f_2⟩ := vcells KF13.out
  obtain ⟨x_0, x_1, x_2⟩ := vcells KX13.out
  obtain ⟨p_0, p_1, p_2, p_3, p_4⟩ := vcells5 KP13.out
  obtain ⟨q_0, q_1, q_2, q_3, q_4⟩ := vcells5 KQ13.out
  obtain ⟨v_0, v_1, v_2, v_3, v_4⟩ := vcells5 KV13.out
  obtain ⟨z_0, z_1, z_2, z_3, z_4⟩ := vcells5 KZ13.out
  go_wp2_with fail
  refine (pred_Holds.calls 20 ⟨#[97]⟩ 2 1 5 ⟨#[]⟩ 2 0 ⟨#[97, 98]⟩ _ _ sm8).mono ?_
  rintro e w14 ⟨rfl, hB⟩
  clear f_0 f_1 f_2 x_0 x_1 x_2 p_0 p_1 p_2 p_3 p_4 q_0 q_1 q_2 q_3 q_4 v_0 v_1 v_2 v_3 v_4 z_0 z_1 z_2 z_3 z_4
  have HB14 : Aside0 (Below b0 w w14) := ⟨HB13.out.trans (hB.mono (by have := HB13.out.size; have := HW.out; omega))⟩
  have KF14 := Aside0.mk (vkeepB KF13.out hB)
  have KX14 := Aside0.mk (vkeepB KX13.out hB)
  have KP14 := Aside0.mk (vkeepB KP13.out hB)
  have KQ14 := Aside0.mk (vkeepB KQ13.out hB)
  have KE14 := Aside0.mk (vkeepB KE13.out hB)
  have KV14 := Aside0.mk (vkeepB KV13.out hB)
  have KZ14 := Aside0.mk (vkeepB KZ13.out hB)
  clear HB13 KF13 KX13 KP13 KQ13 KE13 KV13 KZ13
  clear hB
  obtain ⟨f_0, f_1, f_2⟩ := vcells KF14.out
  obtain ⟨x_0, x_1, x_2⟩ := vcells KX14.out
  obtain ⟨p_0, p_1, p_2, p_3, p_4⟩ := vcells5 KP14.out
  obtain ⟨q_0, q_1, q_2, q_3, q_4⟩ := vcells5 KQ14.out
  obtain ⟨v_0, v_1, v_2, v_3, v_4⟩ := vcells5 KV14.out
  obtain ⟨z_0, z_1, z_2, z_3, z_4⟩ := vcells5 KZ14.out
  go_wp2_with fail
  refine (pred_Holds.calls 20 ⟨#[97]⟩ 8 0 0 ⟨#[]⟩ 2 0 ⟨#[97, 98]⟩ _ _ sm9).mono ?_
  rintro e w15 ⟨rfl, hB⟩
  clear f_0 f_1 f_2 x_0 x_1 x_2 p_0 p_1 p_2 p_3 p_4 q_0 q_1 q_2 q_3 q_4 v_0 v_1 v_2 v_3 v_4 z_0 z_1 z_2 z_3 z_4
  have HB15 : Aside0 (Below b0 w w15) := ⟨HB14.out.trans (hB.mono (by have := HB14.out.size; have := HW.out; omega))⟩
  have KF15 := Aside0.mk (vkeepB KF14.out hB)
  have KX15 := Aside0.mk (vkeepB KX14.out hB)
  have KP15 := Aside0.mk (vkeepB KP14.out hB)
  have KQ15 := Aside0.mk (vkeepB KQ14.out hB)
  have KE15 := Aside0.mk (vkeepB KE14.out hB)
  have KV15 := Aside0.mk (vkeepB KV14.out hB)
  have KZ15 := Aside0.mk (vkeepB KZ14.out hB)
  clear HB14 KF14 KX14 KP14 KQ14 KE14 KV14 KZ14
  clear hB
  obtain ⟨f_0, f_1, f_2⟩ := vcells KF15.out
  obtain ⟨x_0, x_1, x_2⟩ := vcells KX15.out
  obtain ⟨p_0, p_1, p_2, p_3, p_4⟩ := vcells5 KP15.out
  obtain ⟨q_0, q_1, q_2, q_3, q_4⟩ := vcells5 KQ15.out
  obtain ⟨v_0, v_1, v_2, v_3, v_4⟩ := vcells5 KV15.out
  obtain ⟨z_0, z_1, z_2, z_3, z_4⟩ := vcells5 KZ15.out
  go_wp2_with fail
  go_ret
  exact ⟨rfl, by have h_ := HB15.out; rwa [← HW.out] at h_⟩
end Go.Proofs.Ytojefdnngkcaoaa
end

section
/- predicates that are read, one behind the other: the law's walk -/
set_option linter.unusedVariables false
set_option linter.unusedSimpArgs false
set_option autoImplicit false
namespace Go.Proofs.Ytojefdnngkcaoaa
open Go.RowKit Go.Proofs.YtojefdnngkcaoaaW.PrintWords Go.Proofs.YtojefdnngkcaoaaW.PrintLast Go.Proofs.YtojefdnngkcaoaaW.PrintMore Go.Proofs.Ytojefdnngkcaoaa.G

set_option maxRecDepth 100000 in
set_option maxHeartbeats 4000000 in
theorem predGets_any (A0 : Option Addr) (c0 : Nat) (l0 : List Int) (n : Int) (w : World) (hr0 : (Kd.int .u8).C w A0 l0.length l0) (hc0 : l0.length ≤ c0) (hcm : c0 ≤ 9223372036854775807) (hl0 : l0.length ≤ 140737488351232) (hu0 : u8s l0) (hn : -9223372036854775808 ≤ n ∧ n < 9223372036854775808) :
    Calls Try.prog 6 #[.slice A0 l0.length c0, .int .i64 n] w fun e w' => e = .returned (.bool true) ∧ Below w.heap.size w w' := by
  have HR0 := Aside0.mk (HeldB.low hr0)
  have HU := Aside0.mk hu0
  have HL0 := Aside0.mk hl0
  have HCM := Aside0.mk hcm
  clear hr0 hu0 hl0 hcm
  go_enter Try.func6, Try.ntmps6
  go_wp2_with fail
  refine (small_any _).mono ?_
  rintro e w1 ⟨rfl, hB⟩
  have HB1 : Aside0 (Below w.heap.size w w1) := ⟨hB⟩
  have HR1 := Aside0.mk (HR0.out.below hB)
  clear hB HR0
  go_wp2_with fail
  refine (won A0 c0 l0 w1 (HR1.out.C (by have := HL0.out; omega)) hc0 HU.out (by have := HL0.out; omega)).mono ?_
  rintro e w3 ⟨gs, rfl, hg, hS, hB⟩
  have HB3 : Aside0 (Below w.heap.size w w3) := ⟨HB1.out.trans (hB.mono HB1.out.size)⟩
  have HR3 := Aside0.mk (HR1.out.below hB)
  have HS3 := Aside0.mk hS
  have HG := Aside0.mk (show w.heap.size ≤ w1.heap.size ∧ w1.heap.size ≤ gs from ⟨HB1.out.size, hg⟩)
  clear hg hS hB HB1 HR1
  by_cases hg1 : l0.length ≤ 300
  · by_cases hg2 : 0 ≤ n
    · by_cases hg3 : n ≤ 20
      · obtain ⟨N, rfl⟩ := Int.eq_ofNat_of_zero_le hg2
        clear hg2 hn
        go_wp2_with fail
        have HX3 : Aside0 (Scn 44 (fun k => k < w.heap.size) (w3.alloc (.cells #[.slice A0 l0.length c0, .int .i64 0] 44)) w3.heap.size ⟨l0, 0⟩) := ⟨⟨HU.out, fun h => absurd rfl h, (by have := HB3.out.size; omega), (by have := HL0.out; simp only; omega), (by simp), A0, c0, heap_alloc_new w3 _, hc0, HCM.out, HR3.out.below ((Below.refl _ _).alloc (Nat.le_refl _) _)⟩⟩
        have HB4 : Aside0 (Below w.heap.size w (w3.alloc (.cells #[.slice A0 l0.length c0, .int .i64 0] 44))) := ⟨HB3.out.alloc HB3.out.size _⟩
        have HS4 : Aside0 (Scn 63 (fun k => w1.heap.size ≤ k ∧ k < gs) (w3.alloc (.cells #[.slice A0 l0.length c0, .int .i64 0] 44)) gs ⟨l0, 0⟩) := ⟨HS3.out.below ((Below.refl _ _).alloc (Nat.le_refl _) _)⟩
        have HGX := Aside0.mk (show gs < w3.heap.size from HS3.out.lt)
        generalize w3.alloc (.cells #[.slice A0 l0.length c0, .int .i64 0] 44) = w4 at HX3 HB4 HS4 ⊢
        generalize w3.heap.size = gx at HX3 HGX ⊢
        clear HB3 HS3 HR3
        go_loopw [8] (fun i wr => ∃ (k : Nat) (s : Sc), k ≤ N ∧ i = .int .i64 k ∧ Aside0 (Scn 63 (fun k => w1.heap.size ≤ k ∧ k < gs) wr gs s) ∧ Aside0 (Scn 44 (fun k => k < w.heap.size) wr gx s) ∧ Below w.heap.size w wr) (fun i _ => N - (intOf i).toNat)
        case atStart => exact ⟨0, _, Nat.zero_le _, rfl, ⟨HS4.out⟩, ⟨HX3.out⟩, HB4.out⟩
        case round =>
          clear HX3 HB4 HS4
          obtain ⟨k, s, hk, rfl, HS, HX, hBr⟩ := hrel
          have HBR := Aside0.mk hBr
          clear hBr
          by_cases hlt : k < N
          · go_wp2_with fail
            have HSd := Aside0.mk (HS.out.below (below_drew (Below.refl _ _)))
            have HXd := Aside0.mk (HX.out.below (below_drew (Below.refl _ _)))
            have HBd := Aside0.mk (below_drew HBR.out)
            obtain ⟨pn, po, vk, vi, vt, s2, hv⟩ : ∃ pn po vk vi vt s2, s.pred = (⟨pn, po, ⟨vk, vi, vt⟩⟩, s2) := ⟨_, _, _, _, _, _, rfl⟩
            have HV := Aside0.mk hv
            clear hv HS HX HBR
            refine wp_region_held_drew (S := (fun _ => True)) (by kernel_rfl) trivial (fun hHeld => ?_)
            refine wpAnyH_take (i := 0) (oi := { dst := some 40, op := Op.move (Operand.tmp 6), type := 39, pos := "law.go:51", after := #[], guard := none }) (v := ?_) rfl (by kernel_rfl) (by kernel_rfl) (by kernel_rfl) (fun _ _ _ h => h) (Or.inl ⟨by rfl, ?_⟩) (by assumption) ?_
            rotate_left
            · intro w hSw
              try dsimp only at hSw
              go_simp
              all_goals with_reducible rfl
            try simp only [Act.put, List.setIfInBounds_toArray, List.set_cons_zero, List.set_cons_succ]
            refine wpAnyH_take (i := 2) (oi := { dst := some 42, op := Op.move (Operand.tmp 7), type := 41, pos := "law.go:51", after := #[], guard := none }) (v := ?_) rfl (by kernel_rfl) (by kernel_rfl) (by kernel_rfl) (fun _ _ _ h => h) (Or.inl ⟨by rfl, ?_⟩) (by assumption) ?_
            rotate_left
            · intro w hSw
              try dsimp only at hSw
              go_simp
              all_goals with_reducible rfl
            try simp only [Act.put, List.setIfInBounds_toArray, List.set_cons_zero, List.set_cons_succ]
            refine wpAnyH_ready (rs := [1]) (by kernel_rfl) (by simp) ?_
            refine AllReadyH.cons (o := { dst := some 41, op := Op.call { callee := Callee.value (Operand.func 20), args := #[Operand.tmp 40], argTypes := #[39] }, type := 25, pos := "law.go:51", after := #[{ on := 0, ground := Ground.data }], guard := none }) rfl (fun K hK => ?_) AllReadyH.nil
            go_simp
            (go_at_call 20; refine Calls.mono (wpget HSd.out) ?_; rintro e w5 ⟨rfl, hz, hG⟩; rw [HV.out] at hz ⊢; simp only [Pd.c]; have hg := HG.out; have hgx := HGX.out; have HB5 : Aside0 (Below w.heap.size w w5) := ⟨below_of_grown HBd.out hG (by omega)⟩; have HX5 := Aside0.mk (HXd.out.grown hG (by omega) (by omega)); have HS5 := Aside0.mk hz; clear hz hG hg hgx)
            go_wp2_with fail
            refine hK.out _ _ trivial (fun hHeld => ?_)
            clear hK K
            try simp only [Act.put, List.setIfInBounds_toArray, List.set_cons_zero, List.set_cons_succ]
            refine wpAnyH_ready (rs := [3]) (by kernel_rfl) (by simp) ?_
            refine AllReadyH.cons (o := { dst := some 43, op := Op.call { callee := Callee.value (Operand.func 21), args := #[Operand.tmp 42], argTypes := #[41] }, type := 25, pos := "law.go:51", after := #[{ on := 2, ground := Ground.data }, { on := 1, ground := Ground.chain }], guard := none }) rfl (fun K hK => ?_) AllReadyH.nil
            go_simp
            (go_at_call 21; refine Calls.mono (rpget HX5.out) ?_; rintro e w6 ⟨rfl, hz, hG⟩; rw [HV.out] at hz ⊢; simp only [Pd.c]; have hg := HG.out; have hgx := HGX.out; have HB6 : Aside0 (Below w.heap.size w w6) := ⟨below_of_grown HB5.out hG (by omega)⟩; have HS6 := Aside0.mk (HS5.out.grown hG (by omega) (by omega)); have HX6 := Aside0.mk hz; obtain ⟨Ax, cx, hxb, _, _, hxh, e0, e1, _, _⟩ := HX6.out.cells; clear hxb hxh hz hG hg hgx)
            go_wp2_with fail
            refine hK.out _ _ trivial (fun hHeld => ?_)
            clear hK K
            try simp only [Act.put, List.setIfInBounds_toArray, List.set_cons_zero, List.set_cons_succ]
            refine wpAnyH_take (i := 4) (oi := { dst := some 44, op := Op.binOp BinOp.neq 25 (Operand.tmp 41) (Operand.tmp 43) 25, type := 4, pos := "law.go:51", after := #[{ on := 1, ground := Ground.data }, { on := 3, ground := Ground.data }], guard := none }) (v := ?_) rfl (by kernel_rfl) (by kernel_rfl) (by kernel_rfl) (fun _ _ _ h => h) (Or.inl ⟨by rfl, ?_⟩) (by assumption) ?_
            rotate_left
            · intro w hSw
              try dsimp only at hSw
              go_simp
              all_goals with_reducible rfl
            try simp only [Act.put, List.setIfInBounds_toArray, List.set_cons_zero, List.set_cons_succ]
            refine wpAnyH_take (i := 5) (oi := { dst := some 45, op := Op.move (Operand.tmp 44), type := 4, pos := "law.go:51", after := #[{ on := 4, ground := Ground.data }, { on := 3, ground := Ground.chain }], guard := none }) (v := ?_) rfl (by kernel_rfl) (by kernel_rfl) (by kernel_rfl) (fun _ _ _ h => h) (Or.inl ⟨by rfl, ?_⟩) (by assumption) ?_
            rotate_left
            · intro w hSw
              try dsimp only at hSw
              go_simp
              all_goals with_reducible rfl
            try simp only [Act.put, List.setIfInBounds_toArray, List.set_cons_zero, List.set_cons_succ]
            refine wpAnyH_take (i := 6) (oi := { dst := some 46, op := Op.move (Operand.tmp 6), type := 39, pos := "law.go:51", after := #[{ on := 5, ground := Ground.guard }], guard := some (5, false) }) (v := ?_) rfl (by kernel_rfl) (by kernel_rfl) (by kernel_rfl) (fun _ _ _ h => h) (Or.inl ⟨by rfl, ?_⟩) (by assumption) ?_
            rotate_left
            · intro w hSw
              try dsimp only at hSw
              go_simp
              all_goals with_reducible rfl
            try simp only [Act.put, List.setIfInBounds_toArray, List.set_cons_zero, List.set_cons_succ]
            refine wpAnyH_take (i := 8) (oi := { dst := some 48, op := Op.move (Operand.tmp 7), type := 41, pos := "law.go:51", after := #[{ on := 5, ground := Ground.guard }], guard := some (5, false) }) (v := ?_) rfl (by kernel_rfl) (by kernel_rfl) (by kernel_rfl) (fun _ _ _ h => h) (Or.inl ⟨by rfl, ?_⟩) (by assumption) ?_
            rotate_left
            · intro w hSw
              try dsimp only at hSw
              go_simp
              all_goals with_reducible rfl
            try simp only [Act.put, List.setIfInBounds_toArray, List.set_cons_zero, List.set_cons_succ]
            refine wpAnyH_take (i := 9) (oi := { dst := some 49, op := Op.nilCheck (Operand.tmp 48), type := 0, pos := "law.go:51", after := #[{ on := 8, ground := Ground.data }, { on := 5, ground := Ground.guard }], guard := some (5, false) }) (v := ?_) rfl (by kernel_rfl) (by kernel_rfl) (by kernel_rfl) (fun _ _ _ h => h) (Or.inl ⟨by rfl, ?_⟩) (by assumption) ?_
            rotate_left
            · intro w hSw
              try dsimp only at hSw
              go_simp
              all_goals with_reducible rfl
            try simp only [Act.put, List.setIfInBounds_toArray, List.set_cons_zero, List.set_cons_succ]
            refine wpAnyH_take (i := 10) (oi := { dst := some 50, op := Op.fieldAddr 44 (Operand.tmp 49) 0, type := 0, pos := "law.go:51", after := #[{ on := 9, ground := Ground.data }, { on := 5, ground := Ground.guard }], guard := some (5, false) }) (v := ?_) rfl (by kernel_rfl) (by kernel_rfl) (by kernel_rfl) (fun _ _ _ h => h) (Or.inl ⟨by rfl, ?_⟩) (by assumption) ?_
            rotate_left
            · intro w hSw
              try dsimp only at hSw
              go_simp
              all_goals with_reducible rfl
            try simp only [Act.put, List.setIfInBounds_toArray, List.set_cons_zero, List.set_cons_succ]
            refine wpAnyH_ready (rs := [7, 11]) (by kernel_rfl) (by simp) ?_
            refine AllReadyH.cons (o := { dst := some 47, op := Op.call { callee := Callee.value (Operand.func 22), args := #[Operand.tmp 46], argTypes := #[39] }, type := 3, pos := "law.go:51", after := #[{ on := 6, ground := Ground.data }, { on := 5, ground := Ground.chain }, { on := 5, ground := Ground.guard }], guard := some (5, false) }) rfl (fun K hK => ?_) ?_
            · skip
              go_simp
              (go_at_call 22; have hop := wleft HS6.out; refine hop.mono ?_; rintro e w7 ⟨rfl, rfl⟩; clear hop)
              go_wp2_with fail
              refine hK.out _ _ trivial (fun hHeld => ?_)
              clear hK K
              try simp only [Act.put, List.setIfInBounds_toArray, List.set_cons_zero, List.set_cons_succ]
              refine wpAnyH_ready (rs := [11]) (by kernel_rfl) (by simp) ?_
              refine AllReadyH.cons (o := { dst := some 51, op := Op.load 27 (Operand.tmp 50), type := 27, pos := "law.go:51", after := #[{ on := 10, ground := Ground.data }, { on := 5, ground := Ground.guard }], guard := some (5, false) }) rfl (fun K hK => ?_) AllReadyH.nil
              go_simp
              refine hK.out _ _ trivial (fun hHeld => ?_)
              clear hK K
              try simp only [Act.put, List.setIfInBounds_toArray, List.set_cons_zero, List.set_cons_succ]
              refine wpAnyH_take (i := 12) (oi := { dst := some 52, op := Op.call { callee := Callee.builtin Builtin.len, args := #[Operand.tmp 51], argTypes := #[27] }, type := 3, pos := "law.go:51", after := #[{ on := 11, ground := Ground.data }, { on := 5, ground := Ground.guard }], guard := some (5, false) }) (v := ?_) rfl (by kernel_rfl) (by kernel_rfl) (by kernel_rfl) (fun _ _ _ h => h) (Or.inl ⟨by rfl, ?_⟩) (by assumption) ?_
              rotate_left
              · intro w hSw
                try dsimp only at hSw
                go_simp
                all_goals with_reducible rfl
              try simp only [Act.put, List.setIfInBounds_toArray, List.set_cons_zero, List.set_cons_succ]
              refine wpAnyH_take (i := 13) (oi := { dst := some 53, op := Op.binOp BinOp.neq 3 (Operand.tmp 47) (Operand.tmp 52) 3, type := 4, pos := "law.go:51", after := #[{ on := 7, ground := Ground.data }, { on := 12, ground := Ground.data }, { on := 5, ground := Ground.guard }], guard := some (5, false) }) (v := ?_) rfl (by kernel_rfl) (by kernel_rfl) (by kernel_rfl) (fun _ _ _ h => h) (Or.inl ⟨by rfl, ?_⟩) (by assumption) ?_
              rotate_left
              · intro w hSw
                try dsimp only at hSw
                go_simp
                all_goals with_reducible rfl
              try simp only [Act.put, List.setIfInBounds_toArray, List.set_cons_zero, List.set_cons_succ]
              refine wpAnyH_take (i := 14) (oi := { dst := some 54, op := Op.pick (Operand.tmp 45) (Operand.const (Value.bool true)) (Operand.tmp 53), type := 4, pos := "law.go:51", after := #[{ on := 5, ground := Ground.data }, { on := 13, ground := Ground.data }], guard := none }) (v := ?_) rfl (by kernel_rfl) (by kernel_rfl) (by kernel_rfl) (fun _ _ _ h => h) (Or.inl ⟨by rfl, ?_⟩) (by assumption) ?_
              rotate_left
              · intro w hSw
                try dsimp only at hSw
                go_simp
                all_goals with_reducible rfl
              try simp only [Act.put, List.setIfInBounds_toArray, List.set_cons_zero, List.set_cons_succ]
              refine wpAnyH_take (i := 15) (oi := { dst := some 55, op := Op.move (Operand.tmp 54), type := 4, pos := "law.go:51", after := #[{ on := 14, ground := Ground.data }, { on := 7, ground := Ground.chain }], guard := none }) (v := ?_) rfl (by kernel_rfl) (by kernel_rfl) (by kernel_rfl) (fun _ _ _ h => h) (Or.inl ⟨by rfl, ?_⟩) (by assumption) ?_
              rotate_left
              · intro w hSw
                try dsimp only at hSw
                go_simp
                all_goals with_reducible rfl
              try simp only [Act.put, List.setIfInBounds_toArray, List.set_cons_zero, List.set_cons_succ]
              refine wpAnyH_take (i := 16) (oi := { dst := some 56, op := Op.move (Operand.tmp 6), type := 39, pos := "law.go:51", after := #[{ on := 15, ground := Ground.guard }], guard := some (15, false) }) (v := ?_) rfl (by kernel_rfl) (by kernel_rfl) (by kernel_rfl) (fun _ _ _ h => h) (Or.inl ⟨by rfl, ?_⟩) (by assumption) ?_
              rotate_left
              · intro w hSw
                try dsimp only at hSw
                go_simp
                all_goals with_reducible rfl
              try simp only [Act.put, List.setIfInBounds_toArray, List.set_cons_zero, List.set_cons_succ]
              refine wpAnyH_take (i := 18) (oi := { dst := some 58, op := Op.move (Operand.tmp 7), type := 41, pos := "law.go:51", after := #[{ on := 15, ground := Ground.guard }], guard := some (15, false) }) (v := ?_) rfl (by kernel_rfl) (by kernel_rfl) (by kernel_rfl) (fun _ _ _ h => h) (Or.inl ⟨by rfl, ?_⟩) (by assumption) ?_
              rotate_left
              · intro w hSw
                try dsimp only at hSw
                go_simp
                all_goals with_reducible rfl
              try simp only [Act.put, List.setIfInBounds_toArray, List.set_cons_zero, List.set_cons_succ]
              refine wpAnyH_take (i := 19) (oi := { dst := some 59, op := Op.nilCheck (Operand.tmp 58), type := 0, pos := "law.go:51", after := #[{ on := 18, ground := Ground.data }, { on := 15, ground := Ground.guard }], guard := some (15, false) }) (v := ?_) rfl (by kernel_rfl) (by kernel_rfl) (by kernel_rfl) (fun _ _ _ h => h) (Or.inl ⟨by rfl, ?_⟩) (by assumption) ?_
              rotate_left
              · intro w hSw
                try dsimp only at hSw
                go_simp
                all_goals with_reducible rfl
              try simp only [Act.put, List.setIfInBounds_toArray, List.set_cons_zero, List.set_cons_succ]
              refine wpAnyH_take (i := 20) (oi := { dst := some 60, op := Op.fieldAddr 44 (Operand.tmp 59) 1, type := 0, pos := "law.go:51", after := #[{ on := 19, ground := Ground.data }, { on := 15, ground := Ground.guard }], guard := some (15, false) }) (v := ?_) rfl (by kernel_rfl) (by kernel_rfl) (by kernel_rfl) (fun _ _ _ h => h) (Or.inl ⟨by rfl, ?_⟩) (by assumption) ?_
              rotate_left
              · intro w hSw
                try dsimp only at hSw
                go_simp
                all_goals with_reducible rfl
              try simp only [Act.put, List.setIfInBounds_toArray, List.set_cons_zero, List.set_cons_succ]
              refine wpAnyH_ready (rs := [17, 21]) (by kernel_rfl) (by simp) ?_
              refine AllReadyH.cons (o := { dst := some 57, op := Op.call { callee := Callee.value (Operand.func 23), args := #[Operand.tmp 56], argTypes := #[39] }, type := 42, pos := "law.go:51", after := #[{ on := 16, ground := Ground.data }, { on := 15, ground := Ground.chain }, { on := 15, ground := Ground.guard }], guard := some (15, false) }) rfl (fun K hK => ?_) ?_
              · skip
                go_simp
                (go_at_call 23; have hop := werr HS6.out; refine hop.mono ?_; rintro e w7 ⟨rfl, rfl⟩; clear hop)
                go_wp2_with fail
                refine hK.out _ _ trivial (fun hHeld => ?_)
                clear hK K
                try simp only [Act.put, List.setIfInBounds_toArray, List.set_cons_zero, List.set_cons_succ]
                refine wpAnyH_ready (rs := [21]) (by kernel_rfl) (by simp) ?_
                refine AllReadyH.cons (o := { dst := some 61, op := Op.load 42 (Operand.tmp 60), type := 42, pos := "law.go:51", after := #[{ on := 20, ground := Ground.data }, { on := 15, ground := Ground.guard }], guard := some (15, false) }) rfl (fun K hK => ?_) AllReadyH.nil
                go_simp
                refine hK.out _ _ trivial (fun hHeld => ?_)
                clear hK K
                try simp only [Act.put, List.setIfInBounds_toArray, List.set_cons_zero, List.set_cons_succ]
                refine wpAnyH_take (i := 22) (oi := { dst := some 62, op := Op.binOp BinOp.neq 42 (Operand.tmp 57) (Operand.tmp 61) 42, type := 4, pos := "law.go:51", after := #[{ on := 17, ground := Ground.data }, { on := 21, ground := Ground.data }, { on := 15, ground := Ground.guard }], guard := some (15, false) }) (v := ?_) rfl (by kernel_rfl) (by kernel_rfl) (by kernel_rfl) (fun _ _ _ h => h) (Or.inl ⟨by rfl, ?_⟩) (by assumption) ?_
                rotate_left
                · intro w hSw
                  try dsimp only at hSw
                  go_simp
                  all_goals with_reducible rfl
                try simp only [Act.put, List.setIfInBounds_toArray, List.set_cons_zero, List.set_cons_succ]
                refine wpAnyH_take (i := 23) (oi := { dst := some 63, op := Op.pick (Operand.tmp 55) (Operand.const (Value.bool true)) (Operand.tmp 62), type := 4, pos := "law.go:51", after := #[{ on := 15, ground := Ground.data }, { on := 22, ground := Ground.data }], guard := none }) (v := ?_) rfl (by kernel_rfl) (by kernel_rfl) (by kernel_rfl) (fun _ _ _ h => h) (Or.inl ⟨by rfl, ?_⟩) (by assumption) ?_
                rotate_left
                · intro w hSw
                  try dsimp only at hSw
                  go_simp
                  all_goals with_reducible rfl
                try simp only [Act.put, List.setIfInBounds_toArray, List.set_cons_zero, List.set_cons_succ]
                refine wpAnyH_done (by kernel_rfl) ?_ _
                go_wp2
                exact ⟨⟨k + 1, _, by omega, by simp, ⟨HS6.out⟩, ⟨HX6.out⟩, HB6.out⟩, by simp [intOf]; omega⟩
              refine AllReadyH.cons (o := { dst := some 61, op := Op.load 42 (Operand.tmp 60), type := 42, pos := "law.go:51", after := #[{ on := 20, ground := Ground.data }, { on := 15, ground := Ground.guard }], guard := some (15, false) }) rfl (fun K hK => ?_) AllReadyH.nil
              go_simp
              refine hK.out _ _ trivial (fun hHeld => ?_)
              clear hK K
              try simp only [Act.put, List.setIfInBounds_toArray, List.set_cons_zero, List.set_cons_succ]
              refine wpAnyH_ready (rs := [17]) (by kernel_rfl) (by simp) ?_
              refine AllReadyH.cons (o := { dst := some 57, op := Op.call { callee := Callee.value (Operand.func 23), args := #[Operand.tmp 56], argTypes := #[39] }, type := 42, pos := "law.go:51", after := #[{ on := 16, ground := Ground.data }, { on := 15, ground := Ground.chain }, { on := 15, ground := Ground.guard }], guard := some (15, false) }) rfl (fun K hK => ?_) AllReadyH.nil
              go_simp
              (go_at_call 23; have hop := werr HS6.out; refine hop.mono ?_; rintro e w7 ⟨rfl, rfl⟩; clear hop)
              go_wp2_with fail
              refine hK.out _ _ trivial (fun hHeld => ?_)
              clear hK K
              try simp only [Act.put, List.setIfInBounds_toArray, List.set_cons_zero, List.set_cons_succ]
              refine wpAnyH_take (i := 22) (oi := { dst := some 62, op := Op.binOp BinOp.neq 42 (Operand.tmp 57) (Operand.tmp 61) 42, type := 4, pos := "law.go:51", after := #[{ on := 17, ground := Ground.data }, { on := 21, ground := Ground.data }, { on := 15, ground := Ground.guard }], guard := some (15, false) }) (v := ?_) rfl (by kernel_rfl) (by kernel_rfl) (by kernel_rfl) (fun _ _ _ h => h) (Or.inl ⟨by rfl, ?_⟩) (by assumption) ?_
              rotate_left
              · intro w hSw
                try dsimp only at hSw
                go_simp
                all_goals with_reducible rfl
              try simp only [Act.put, List.setIfInBounds_toArray, List.set_cons_zero, List.set_cons_succ]
              refine wpAnyH_take (i := 23) (oi := { dst := some 63, op := Op.pick (Operand.tmp 55) (Operand.const (Value.bool true)) (Operand.tmp 62), type := 4, pos := "law.go:51", after := #[{ on := 15, ground := Ground.data }, { on := 22, ground := Ground.data }], guard := none }) (v := ?_) rfl (by kernel_rfl) (by kernel_rfl) (by kernel_rfl) (fun _ _ _ h => h) (Or.inl ⟨by rfl, ?_⟩) (by assumption) ?_
              rotate_left
              · intro w hSw
                try dsimp only at hSw
                go_simp
                all_goals with_reducible rfl
              try simp only [Act.put, List.setIfInBounds_toArray, List.set_cons_zero, List.set_cons_succ]
              refine wpAnyH_done (by kernel_rfl) ?_ _
              go_wp2
              exact ⟨⟨k + 1, _, by omega, by simp, ⟨HS6.out⟩, ⟨HX6.out⟩, HB6.out⟩, by simp [intOf]; omega⟩
            refine AllReadyH.cons (o := { dst := some 51, op := Op.load 27 (Operand.tmp 50), type := 27, pos := "law.go:51", after := #[{ on := 10, ground := Ground.data }, { on := 5, ground := Ground.guard }], guard := some (5, false) }) rfl (fun K hK => ?_) AllReadyH.nil
            go_simp
            refine hK.out _ _ trivial (fun hHeld => ?_)
            clear hK K
            try simp only [Act.put, List.setIfInBounds_toArray, List.set_cons_zero, List.set_cons_succ]
            refine wpAnyH_take (i := 12) (oi := { dst := some 52, op := Op.call { callee := Callee.builtin Builtin.len, args := #[Operand.tmp 51], argTypes := #[27] }, type := 3, pos := "law.go:51", after := #[{ on := 11, ground := Ground.data }, { on := 5, ground := Ground.guard }], guard := some (5, false) }) (v := ?_) rfl (by kernel_rfl) (by kernel_rfl) (by kernel_rfl) (fun _ _ _ h => h) (Or.inl ⟨by rfl, ?_⟩) (by assumption) ?_
            rotate_left
            · intro w hSw
              try dsimp only at hSw
              go_simp
              all_goals with_reducible rfl
            try simp only [Act.put, List.setIfInBounds_toArray, List.set_cons_zero, List.set_cons_succ]
            refine wpAnyH_ready (rs := [7]) (by kernel_rfl) (by simp) ?_
            refine AllReadyH.cons (o := { dst := some 47, op := Op.call { callee := Callee.value (Operand.func 22), args := #[Operand.tmp 46], argTypes := #[39] }, type := 3, pos := "law.go:51", after := #[{ on := 6, ground := Ground.data }, { on := 5, ground := Ground.chain }, { on := 5, ground := Ground.guard }], guard := some (5, false) }) rfl (fun K hK => ?_) AllReadyH.nil
            go_simp
            (go_at_call 22; have hop := wleft HS6.out; refine hop.mono ?_; rintro e w7 ⟨rfl, rfl⟩; clear hop)
            go_wp2_with fail
            refine hK.out _ _ trivial (fun hHeld => ?_)
            clear hK K
            try simp only [Act.put, List.setIfInBounds_toArray, List.set_cons_zero, List.set_cons_succ]
            refine wpAnyH_take (i := 13) (oi := { dst := some 53, op := Op.binOp BinOp.neq 3 (Operand.tmp 47) (Operand.tmp 52) 3, type := 4, pos := "law.go:51", after := #[{ on := 7, ground := Ground.data }, { on := 12, ground := Ground.data }, { on := 5, ground := Ground.guard }], guard := some (5, false) }) (v := ?_) rfl (by kernel_rfl) (by kernel_rfl) (by kernel_rfl) (fun _ _ _ h => h) (Or.inl ⟨by rfl, ?_⟩) (by assumption) ?_
            rotate_left
            · intro w hSw
              try dsimp only at hSw
              go_simp
              all_goals with_reducible rfl
            try simp only [Act.put, List.setIfInBounds_toArray, List.set_cons_zero, List.set_cons_succ]
            refine wpAnyH_take (i := 14) (oi := { dst := some 54, op := Op.pick (Operand.tmp 45) (Operand.const (Value.bool true)) (Operand.tmp 53), type := 4, pos := "law.go:51", after := #[{ on := 5, ground := Ground.data }, { on := 13, ground := Ground.data }], guard := none }) (v := ?_) rfl (by kernel_rfl) (by kernel_rfl) (by kernel_rfl) (fun _ _ _ h => h) (Or.inl ⟨by rfl, ?_⟩) (by assumption) ?_
            rotate_left
            · intro w hSw
              try dsimp only at hSw
              go_simp
              all_goals with_reducible rfl
            try simp only [Act.put, List.setIfInBounds_toArray, List.set_cons_zero, List.set_cons_succ]
            refine wpAnyH_take (i := 15) (oi := { dst := some 55, op := Op.move (Operand.tmp 54), type := 4, pos := "law.go:51", after := #[{ on := 14, ground := Ground.data }, { on := 7, ground := Ground.chain }], guard := none }) (v := ?_) rfl (by kernel_rfl) (by kernel_rfl) (by kernel_rfl) (fun _ _ _ h => h) (Or.inl ⟨by rfl, ?_⟩) (by assumption) ?_
            rotate_left
            · intro w hSw
              try dsimp only at hSw
              go_simp
              all_goals with_reducible rfl
            try simp only [Act.put, List.setIfInBounds_toArray, List.set_cons_zero, List.set_cons_succ]
            refine wpAnyH_take (i := 16) (oi := { dst := some 56, op := Op.move (Operand.tmp 6), type := 39, pos := "law.go:51", after := #[{ on := 15, ground := Ground.guard }], guard := some (15, false) }) (v := ?_) rfl (by kernel_rfl) (by kernel_rfl) (by kernel_rfl) (fun _ _ _ h => h) (Or.inl ⟨by rfl, ?_⟩) (by assumption) ?_
            rotate_left
            · intro w hSw
              try dsimp only at hSw
              go_simp
              all_goals with_reducible rfl
            try simp only [Act.put, List.setIfInBounds_toArray, List.set_cons_zero, List.set_cons_succ]
            refine wpAnyH_take (i := 18) (oi := { dst := some 58, op := Op.move (Operand.tmp 7), type := 41, pos := "law.go:51", after := #[{ on := 15, ground := Ground.guard }], guard := some (15, false) }) (v := ?_) rfl (by kernel_rfl) (by kernel_rfl) (by kernel_rfl) (fun _ _ _ h => h) (Or.inl ⟨by rfl, ?_⟩) (by assumption) ?_
            rotate_left
            · intro w hSw
              try dsimp only at hSw
              go_simp
              all_goals with_reducible rfl
            try simp only [Act.put, List.setIfInBounds_toArray, List.set_cons_zero, List.set_cons_succ]
            refine wpAnyH_take (i := 19) (oi := { dst := some 59, op := Op.nilCheck (Operand.tmp 58), type := 0, pos := "law.go:51", after := #[{ on := 18, ground := Ground.data }, { on := 15, ground := Ground.guard }], guard := some (15, false) }) (v := ?_) rfl (by kernel_rfl) (by kernel_rfl) (by kernel_rfl) (fun _ _ _ h => h) (Or.inl ⟨by rfl, ?_⟩) (by assumption) ?_
            rotate_left
            · intro w hSw
              try dsimp only at hSw
              go_simp
              all_goals with_reducible rfl
            try simp only [Act.put, List.setIfInBounds_toArray, List.set_cons_zero, List.set_cons_succ]
            refine wpAnyH_take (i := 20) (oi := { dst := some 60, op := Op.fieldAddr 44 (Operand.tmp 59) 1, type := 0, pos := "law.go:51", after := #[{ on := 19, ground := Ground.data }, { on := 15, ground := Ground.guard }], guard := some (15, false) }) (v := ?_) rfl (by kernel_rfl) (by kernel_rfl) (by kernel_rfl) (fun _ _ _ h => h) (Or.inl ⟨by rfl, ?_⟩) (by assumption) ?_
            rotate_left
            · intro w hSw
              try dsimp only at hSw
              go_simp
              all_goals with_reducible rfl
            try simp only [Act.put, List.setIfInBounds_toArray, List.set_cons_zero, List.set_cons_succ]
            refine wpAnyH_ready (rs := [17, 21]) (by kernel_rfl) (by simp) ?_
            refine AllReadyH.cons (o := { dst := some 57, op := Op.call { callee := Callee.value (Operand.func 23), args := #[Operand.tmp 56], argTypes := #[39] }, type := 42, pos := "law.go:51", after := #[{ on := 16, ground := Ground.data }, { on := 15, ground := Ground.chain }, { on := 15, ground := Ground.guard }], guard := some (15, false) }) rfl (fun K hK => ?_) ?_
            · skip
              go_simp
              (go_at_call 23; have hop := werr HS6.out; refine hop.mono ?_; rintro e w7 ⟨rfl, rfl⟩; clear hop)
              go_wp2_with fail
              refine hK.out _ _ trivial (fun hHeld => ?_)
              clear hK K
              try simp only [Act.put, List.setIfInBounds_toArray, List.set_cons_zero, List.set_cons_succ]
              refine wpAnyH_ready (rs := [21]) (by kernel_rfl) (by simp) ?_
              refine AllReadyH.cons (o := { dst := some 61, op := Op.load 42 (Operand.tmp 60), type := 42, pos := "law.go:51", after := #[{ on := 20, ground := Ground.data }, { on := 15, ground := Ground.guard }], guard := some (15, false) }) rfl (fun K hK => ?_) AllReadyH.nil
              go_simp
              refine hK.out _ _ trivial (fun hHeld => ?_)
              clear hK K
              try simp only [Act.put, List.setIfInBounds_toArray, List.set_cons_zero, List.set_cons_succ]
              refine wpAnyH_take (i := 22) (oi := { dst := some 62, op := Op.binOp BinOp.neq 42 (Operand.tmp 57) (Operand.tmp 61) 42, type := 4, pos := "law.go:51", after := #[{ on := 17, ground := Ground.data }, { on := 21, ground := Ground.data }, { on := 15, ground := Ground.guard }], guard := some (15, false) }) (v := ?_) rfl (by kernel_rfl) (by kernel_rfl) (by kernel_rfl) (fun _ _ _ h => h) (Or.inl ⟨by rfl, ?_⟩) (by assumption) ?_
              rotate_left
              · intro w hSw
                try dsimp only at hSw
                go_simp
                all_goals with_reducible rfl
              try simp only [Act.put, List.setIfInBounds_toArray, List.set_cons_zero, List.set_cons_succ]
              refine wpAnyH_take (i := 23) (oi := { dst := some 63, op := Op.pick (Operand.tmp 55) (Operand.const (Value.bool true)) (Operand.tmp 62), type := 4, pos := "law.go:51", after := #[{ on := 15, ground := Ground.data }, { on := 22, ground := Ground.data }], guard := none }) (v := ?_) rfl (by kernel_rfl) (by kernel_rfl) (by kernel_rfl) (fun _ _ _ h => h) (Or.inl ⟨by rfl, ?_⟩) (by assumption) ?_
              rotate_left
              · intro w hSw
                try dsimp only at hSw
                go_simp
                all_goals with_reducible rfl
              try simp only [Act.put, List.setIfInBounds_toArray, List.set_cons_zero, List.set_cons_succ]
              refine wpAnyH_done (by kernel_rfl) ?_ _
              go_wp2
              exact ⟨⟨k + 1, _, by omega, by simp, ⟨HS6.out⟩, ⟨HX6.out⟩, HB6.out⟩, by simp [intOf]; omega⟩
            refine AllReadyH.cons (o := { dst := some 61, op := Op.load 42 (Operand.tmp 60), type := 42, pos := "law.go:51", after := #[{ on := 20, ground := Ground.data }, { on := 15, ground := Ground.guard }], guard := some (15, false) }) rfl (fun K hK => ?_) AllReadyH.nil
            go_simp
            refine hK.out _ _ trivial (fun hHeld => ?_)
            clear hK K
            try simp only [Act.put, List.setIfInBounds_toArray, List.set_cons_zero, List.set_cons_succ]
            refine wpAnyH_ready (rs := [17]) (by kernel_rfl) (by simp) ?_
            refine AllReadyH.cons (o := { dst := some 57, op := Op.call { callee := Callee.value (Operand.func 23), args := #[Operand.tmp 56], argTypes := #[39] }, type := 42, pos := "law.go:51", after := #[{ on := 16, ground := Ground.data }, { on := 15, ground := Ground.chain }, { on := 15, ground := Ground.guard }], guard := some (15, false) }) rfl (fun K hK => ?_) AllReadyH.nil
            go_simp
            (go_at_call 23; have hop := werr HS6.out; refine hop.mono ?_; rintro e w7 ⟨rfl, rfl⟩; clear hop)
            go_wp2_with fail
            refine hK.out _ _ trivial (fun hHeld => ?_)
            clear hK K
            try simp only [Act.put, List.setIfInBounds_toArray, List.set_cons_zero, List.set_cons_succ]
            refine wpAnyH_take (i := 22) (oi := { dst := some 62, op := Op.binOp BinOp.neq 42 (Operand.tmp 57) (Operand.tmp 61) 42, type := 4, pos := "law.go:51", after := #[{ on := 17, ground := Ground.data }, { on := 21, ground := Ground.data }, { on := 15, ground := Ground.guard }], guard := some (15, false) }) (v := ?_) rfl (by kernel_rfl) (by kernel_rfl) (by kernel_rfl) (fun _ _ _ h => h) (Or.inl ⟨by rfl, ?_⟩) (by assumption) ?_
            rotate_left
            · intro w hSw
              try dsimp only at hSw
              go_simp
              all_goals with_reducible rfl
            try simp only [Act.put, List.setIfInBounds_toArray, List.set_cons_zero, List.set_cons_succ]
            refine wpAnyH_take (i := 23) (oi := { dst := some 63, op := Op.pick (Operand.tmp 55) (Operand.const (Value.bool true)) (Operand.tmp 62), type := 4, pos := "law.go:51", after := #[{ on := 15, ground := Ground.data }, { on := 22, ground := Ground.data }], guard := none }) (v := ?_) rfl (by kernel_rfl) (by kernel_rfl) (by kernel_rfl) (fun _ _ _ h => h) (Or.inl ⟨by rfl, ?_⟩) (by assumption) ?_
            rotate_left
            · intro w hSw
              try dsimp only at hSw
              go_simp
              all_goals with_reducible rfl
            try simp only [Act.put, List.setIfInBounds_toArray, List.set_cons_zero, List.set_cons_succ]
            refine wpAnyH_done (by kernel_rfl) ?_ _
            go_wp2
            exact ⟨⟨k + 1, _, by omega, by simp, ⟨HS6.out⟩, ⟨HX6.out⟩, HB6.out⟩, by simp [intOf]; omega⟩
          · go_wp2
            go_ret
            exact ⟨rfl, HBR.out⟩
      · go_wp2
        go_ret
        exact ⟨rfl, HB3.out⟩
    · go_wp2
      go_ret
      exact ⟨rfl, HB3.out⟩
  · go_wp2
    go_ret
    exact ⟨rfl, HB3.out⟩
end Go.Proofs.Ytojefdnngkcaoaa
namespace Go.Proofs.Ytojefdnngkcaoaa.G
open Go.RowKit Go.Proofs.Ytojefdnngkcaoaa Go.Proofs.YtojefdnngkcaoaaW.PrintWords Go.Proofs.YtojefdnngkcaoaaW.PrintLast Go.Proofs.YtojefdnngkcaoaaW.PrintMore
def rosettelaw06_PredGets.f (l0 : List Int) (a1 : Int) : Option Bool := if l0.length ≤ 140737488351232 ∧ u8s l0 ∧ (-9223372036854775808 ≤ a1 ∧ a1 < 9223372036854775808) then some true else none
theorem rosettelaw06_PredGets.calls (A0 : Option Addr) (c0 : Nat) (l0 : List Int) (a1 : Int) (r : Bool) (w : World) (hr0 : (Kd.int .u8).C w A0 l0.length l0) (hc0 : l0.length ≤ c0) (hk0 : c0 ≤ 9223372036854775807) (h : rosettelaw06_PredGets.f l0 a1 = some r) :
    Calls Try.prog 6 #[.slice A0 l0.length c0, .int .i64 a1] w fun e w' => e = .returned (.bool r) ∧ Below w.heap.size w w' := by
  unfold rosettelaw06_PredGets.f at h
  split at h
  · rename_i hc
    obtain rfl : true = r := Option.some.inj h
    exact predGets_any A0 c0 l0 a1 w hr0 hc0 hk0 hc.1 hc.2.1 hc.2.2
  · cases h
end Go.Proofs.Ytojefdnngkcaoaa.G
end

section
namespace Go.Proofs.Ytojefdnngkcaoaa.G
open Go.RowKit Go.Proofs.Ytojefdnngkcaoaa Go.Proofs.Ytojefdnngkcaoaa.G Go.Proofs.YtojefdnngkcaoaaW.PrintWords Go.Proofs.YtojefdnngkcaoaaW.PrintLast

/-- The pure statement of rosettelaw06_PredGets. -/
def rosettelaw06_PredGets.Pure : Prop := ∀ (l0 : (List Int)) (a1 : Int), ((l0.length ≤ maxLen ∧ l0.length * 1 ≤ 140737488351232) ∧ ∀ x0 ∈ l0, (Lit.int .u8 x0).wf = true) → (Lit.int .i64 a1).wf = true → rosettelaw06_PredGets.f l0 a1 = some true
end Go.Proofs.Ytojefdnngkcaoaa.G
end

section
/- The statement PredGets over numbers and lists: predicates that are read, one behind the other, and the error. -/
namespace Go.Proofs.Ytojefdnngkcaoaa.Pure
open Go.RowKit Go.Proofs.Ytojefdnngkcaoaa.G Go.Proofs.Ytojefdnngkcaoaa
theorem PredGets : rosettelaw06_PredGets.Pure := by
  rintro l0 a1 ⟨⟨h1, h2⟩, h3⟩ h4
  have b1 := Go.bounds_i64 h4
  unfold rosettelaw06_PredGets.f
  rw [if_pos ⟨by omega, u8s_wf h3, by omega⟩]
end Go.Proofs.Ytojefdnngkcaoaa.Pure
end

section
/- What comes in, opened kind by kind: a datum that is read whole reads as a list, a structure, a number; and no slice and no text of it is longer than the form's reach. -/
set_option linter.unusedVariables false
set_option linter.unusedSimpArgs false
set_option autoImplicit false
namespace Go.Proofs.Ytojefdnngkcaoaa.Op
open Go.RowKit Go.Deep Go.ChangeShapes Go.WideShapes Go.Proofs.YtojefdnngkcaoaaW.PrintWords

section
variable {H α β : Type} (enc : TypeId × Value → H) (P : Program) (W : World)
/-- no part of a datum is longer than the reach -/
def Lite (P : Program) (t : TypeId) (d : DataW H) : Prop := ∀ n ∈ d.weights P t, n ≤ 140737488351232
/-- whatever is read at type t, and is no longer than the reach, is of the kind d, and good -/
def Opens (t : TypeId) (d : Kd α) (good : α → Prop) : Prop :=
  ∀ fuel (cs : List Value) x, DataW.trod enc P W 0 (fun _ => true) true fuel t cs = some x → Lite P t x.1 → ∃ a, d.K W a cs ∧ good a
def OpensF (fs : List Field) (o : Nat) (d : Kd α) (good : α → Prop) : Prop :=
  ∀ fuel (cs : List Value) xs, (fs.mapM fun f => DataW.trod enc P W 0 (fun _ => true) true fuel f.type ((cs.drop f.offset).take (P.cellsOf f.type))) = some xs → (∀ n ∈ DataW.weightsEach P (fs.map (·.type)) (xs.map (·.1)), n ≤ 140737488351232) → cs.length = o + d.sz → ∃ a, d.K W a (cs.drop o) ∧ good a
variable {enc P W}
theorem opens_int {t : TypeId} {k : IntKind} (ht : P.underlying t = some (.int k)) : Opens enc P W t (Kd.int k) (fun n => (Lit.int k n).wf = true) := by
  intro fuel cs x h _
  obtain ⟨n, h1, _, h2⟩ := DataW.trod_int ht h
  exact ⟨n, h1, h2⟩
theorem opens_bool {t : TypeId} (ht : P.underlying t = some .bool) : Opens enc P W t Kd.bool (fun _ => True) := by
  intro fuel cs x h _
  obtain ⟨n, h1, _⟩ := DataW.trod_bool ht h
  exact ⟨n, h1, trivial⟩
theorem opens_str {t : TypeId} (ht : P.underlying t = some .string) : Opens enc P W t Kd.string (fun s => s.size ≤ 140737488351232) := by
  intro fuel cs x h hl
  obtain ⟨s, h1, h2, _⟩ := DataW.trod_string ht h
  refine ⟨s, h1, ?_⟩
  rw [h2] at hl
  have := hl s.data.toList.length (by simp [DataW.weights])
  rw [Array.length_toList] at this
  exact this
theorem weightsAll_mem {e : TypeId} : ∀ {ds : List (DataW H)} {d : DataW H}, d ∈ ds → ∀ n ∈ d.weights P e, n ∈ DataW.weightsAll P e ds := by
  intro ds
  induction ds with
  | nil => intro d h; cases h
  | cons y ys ih =>
    intro d h n hn
    rw [DataW.weightsAll]
    rcases List.mem_cons.1 h with rfl | h
    · exact List.mem_append_left _ hn
    · exact List.mem_append_right _ (ih h n hn)
theorem opens_slice {t e : TypeId} {d : Kd α} {good : α → Prop} {B : Nat} (ht : P.underlying t = some (.slice e)) (hs : P.cellsOf e = d.sz) (hB : P.bytesOf e = B) (h : Opens enc P W e d good) :
    Opens enc P W t (Kd.slice e d) (fun xs => (xs.length ≤ maxLen ∧ xs.length * B ≤ 140737488351232) ∧ ∀ x ∈ xs, good x) := by
  intro fuel cs x hx hw
  rcases open_slice ht hx with ⟨rfl, _⟩ | ⟨a, len, cap, m, n, D, Pl, rfl, hb, hl, hm, hmm, rfl, hel⟩
  · exact ⟨[], ⟨none, 0, rfl, Nat.le_refl _, Kd.C_nil _ _⟩, ⟨Nat.zero_le _, by simp⟩, fun _ h => by cases h⟩
  · simp only [if_true] at hmm
    have hwt : ∀ n ∈ (len + (m - len)) * P.bytesOf e :: (DataW.weightsAll P e ((List.range len).map D) ++ DataW.weightsAll P e ((List.range (m - len)).map fun j => D (len + j))), n ≤ 140737488351232 := by
      have h1 := hw
      unfold Lite at h1
      rw [DataW.weights] at h1
      simp only [ht, List.length_map, List.length_range] at h1
      exact h1
    have hlenB : len * B ≤ 140737488351232 := by
      have h1 := hwt _ List.mem_cons_self
      rw [hB] at h1
      exact Nat.le_trans (Nat.mul_le_mul_right _ (by omega)) h1
    have hlite : ∀ i, i < len → Lite P e (D i) := fun i hi n hn => hwt n (List.mem_cons_of_mem _ (List.mem_append_left _ (weightsAll_mem (List.mem_map.2 ⟨i, List.mem_range.2 hi, rfl⟩) n hn)))
    have each : ∀ i, i < len → ∃ y : α, ∃ c, W.cells? 0 (a.add (i * P.cellsOf e)) (P.cellsOf e) = some c ∧ d.K W y c ∧ good y := by
      intro i hi
      obtain ⟨c, h1, h2⟩ := hel i (by omega)
      obtain ⟨y, h3, h4⟩ := h _ _ _ h2 (hlite i hi)
      exact ⟨y, c, h1, h3, h4⟩
    have build : ∃ xs : List α, xs.length = len ∧ ∀ i y, xs[i]? = some y → ∃ c, W.cells? 0 (a.add (i * P.cellsOf e)) (P.cellsOf e) = some c ∧ d.K W y c ∧ good y := by
      clear hx hel hm hl hb hmm hw hwt hlenB hlite
      induction len with
      | zero => exact ⟨[], rfl, fun i y h => by simp at h⟩
      | succ len ih =>
        obtain ⟨xs, h1, h2⟩ := ih (fun i hi => each i (by omega))
        obtain ⟨y, c, h3, h4, h5⟩ := each len (by omega)
        refine ⟨xs ++ [y], by simp [h1], fun i z hz => ?_⟩
        by_cases hi : i < len
        · exact h2 i z (by rw [List.getElem?_append_left (by omega)] at hz; exact hz)
        · have hi2 : i < (xs ++ [y]).length := (List.getElem?_eq_some_iff.1 hz).1
          have : i = len := by rw [List.length_append, List.length_singleton] at hi2; omega
          subst this
          rw [List.getElem?_append_right (by omega), h1, Nat.sub_self] at hz
          simp only [List.getElem?_cons_zero, Option.some.injEq] at hz
          subst hz
          exact ⟨c, h3, h4, h5⟩
    obtain ⟨xs, h1, h2⟩ := build
    refine ⟨xs, ⟨some a, cap, by rw [h1], by omega, rfl, by rw [h1]; simp only [maxLen] at hm; omega, fun h0 => ⟨a, rfl, fun j p hj => ?_⟩⟩, ⟨by omega, by rw [h1]; exact hlenB⟩, fun y hy => ?_⟩
    · obtain ⟨c, h3, h4, h5⟩ := h2 j p hj
      obtain ⟨_, hlen, hcell⟩ := World.cells?_some h3
      refine ⟨c, by rw [hlen, hs], h4, fun i u hu => ?_⟩
      have hi : i < P.cellsOf e := by rw [← hlen]; exact (List.getElem?_eq_some_iff.1 hu).1
      have := hcell i hi
      rw [hu, Go.Proofs.YtojefdnngkcaoaaW.PrintWords.add_add, hs] at this
      exact this
    · obtain ⟨i, hi⟩ := List.getElem?_of_mem hy
      obtain ⟨c, _, _, h5⟩ := h2 i y hi
      exact h5
theorem opensF_one {f : Field} {o : Nat} {d : Kd α} {good : α → Prop} (ho : f.offset = o) (hc : P.cellsOf f.type = d.sz) (h : Opens enc P W f.type d good) : OpensF enc P W [f] o d good := by
  intro fuel cs xs hx hw hl
  simp only [List.mapM_cons, List.mapM_nil, Option.pure_def, Option.bind_eq_bind, Option.bind_eq_some_iff] at hx
  obtain ⟨y, h1, z, hz, hxs⟩ := hx
  simp only [Option.some.injEq] at hz hxs
  subst hz
  subst hxs
  obtain ⟨a, h2, h3⟩ := h _ _ _ h1 (fun n hn => hw n (by simp [DataW.weightsEach, hn]))
  rw [ho, hc, List.take_of_length_le (by rw [List.length_drop]; omega)] at h2
  exact ⟨a, h2, h3⟩
theorem opensF_cons {f : Field} {fs : List Field} {o : Nat} {d : Kd α} {e : Kd β} {g1 : α → Prop} {g2 : β → Prop} (ho : f.offset = o) (hc : P.cellsOf f.type = d.sz) (h : Opens enc P W f.type d g1) (hr : OpensF enc P W fs (o + d.sz) e g2) :
    OpensF enc P W (f :: fs) o (Kd.pair d e) (fun p => g1 p.1 ∧ g2 p.2) := by
  intro fuel cs xs hx hw hl
  simp only [List.mapM_cons, Option.pure_def, Option.bind_eq_bind, Option.bind_eq_some_iff] at hx
  obtain ⟨y, h1, ys, h2, hxs⟩ := hx
  simp only [Option.some.injEq] at hxs
  subst hxs
  have hsz : (Kd.pair d e).sz = d.sz + e.sz := rfl
  obtain ⟨a, h3, h4⟩ := h _ _ _ h1 (fun n hn => hw n (by simp [DataW.weightsEach, hn]))
  obtain ⟨b, h5, h6⟩ := hr _ _ _ h2 (fun n hn => hw n (by rw [List.map_cons, List.map_cons, DataW.weightsEach]; exact List.mem_append_right _ hn)) (by omega)
  rw [ho, hc] at h3
  refine ⟨(a, b), ⟨_, _, ?_, h3, h5⟩, h4, h6⟩
  rw [← List.drop_drop, List.take_append_drop]
theorem opens_struct {t : TypeId} {fs : Array Field} {d : Kd α} {good : α → Prop} (ht : P.underlying t = some (.struct fs)) (hc : P.cellsOf t = d.sz) (h : OpensF enc P W fs.toList 0 d good) : Opens enc P W t d good := by
  intro fuel cs x hx hw
  cases fuel with
  | zero => simp [DataW.trod] at hx
  | succ fuel =>
    have key : cs.length = P.cellsOf t ∧ ∃ xs, (fs.toList.mapM fun f => DataW.trod enc P W 0 (fun _ => true) true fuel f.type ((cs.drop f.offset).take (P.cellsOf f.type))) = some xs ∧ x.1 = .agg (xs.map (·.1)) := by
      unfold DataW.trod at hx
      rw [ht] at hx
      simp only at hx
      split at hx
      · rename_i hl
        rw [Option.map_eq_some_iff] at hx
        obtain ⟨xs, h1, h2⟩ := hx
        exact ⟨hl, xs, h1, by rw [← h2]⟩
      · cases hx
    obtain ⟨h1, xs, h2, h3⟩ := key
    have hw2 : ∀ n ∈ DataW.weightsEach P (fs.toList.map (·.type)) (xs.map (·.1)), n ≤ 140737488351232 := by
      unfold Lite at hw
      rw [h3, DataW.weights] at hw
      simp only [ht] at hw
      exact hw
    obtain ⟨a, h4, h5⟩ := h _ _ _ h2 hw2 (by omega)
    exact ⟨a, by simpa using h4, h5⟩
theorem opens_iso {t : TypeId} {d : Kd α} {good : α → Prop} (f : β → α) (g : α → β) (hfg : ∀ a, f (g a) = a) (h : Opens enc P W t d good) : Opens enc P W t (Kd.iso d f) (fun x => good (f x)) := by
  intro fuel cs x hx hw
  obtain ⟨a, h1, h2⟩ := h _ _ _ hx hw
  refine ⟨g a, ?_, by show good (f (g a)); rw [hfg]; exact h2⟩
  show d.K W (f (g a)) cs
  rw [hfg]
  exact h1
/-- the weight of an argument -/
theorem lite_arg {ts : List TypeId} {ds : List (DataW H)} (hsz : (DataW.weightsEach P ts ds).all (· ≤ reachBytes) = true) {j : Nat} {t : TypeId} {d : DataW H} (ht : ts[j]? = some t) (hd : ds[j]? = some d) : Lite P t d := by
  intro n hn
  have := List.all_eq_true.1 hsz n (DataW.weights_mem_each ht hd n hn)
  have h2 : n ≤ reachBytes := by simpa using this
  exact Nat.le_trans h2 (by decide)
/-- a slice that is handed in -/
theorem open_arg {t e : TypeId} {d : Kd α} {good : α → Prop} {B : Nat} (ht : P.underlying t = some (.slice e)) (hs : P.cellsOf e = d.sz) (hB : P.bytesOf e = B) (h : Opens enc P W e d good) {A : Option Addr} {n c : Nat} {y : DataW H} {p : List MemPlace}
    (hl : Lite P t y) (hx : DataW.Trod enc P W 0 (fun _ => true) true t (.slice A n c) y p) : ∃ xs : List α, n = xs.length ∧ xs.length ≤ c ∧ c ≤ maxLen ∧ d.C W A xs.length xs ∧ (xs.length ≤ maxLen ∧ xs.length * B ≤ 140737488351232) ∧ ∀ x ∈ xs, good x := by
  obtain ⟨fuel, hf⟩ := hx
  have hcap : c ≤ maxLen := by
    rcases open_slice ht hf with ⟨hcs, _⟩ | ⟨a, len, cap, m, n, D, Pl, hcs, hb, hl, hm, hmm, _, hel⟩
    · simp only [Value.cells, List.cons.injEq, Value.slice.injEq, and_true] at hcs
      omega
    · simp only [Value.cells, List.cons.injEq, Value.slice.injEq, and_true] at hcs
      omega
  obtain ⟨xs, ⟨A', c', h1, h2, h3⟩, h4, h5⟩ := opens_slice ht hs hB h _ _ _ hf hl
  simp only [Value.cells, List.cons.injEq, Value.slice.injEq, and_true] at h1
  obtain ⟨rfl, rfl, rfl⟩ := h1
  exact ⟨xs, rfl, h2, hcap, h3, h4, h5⟩
/-- a text that is handed in -/
theorem lite_str {t : TypeId} {s : ByteArray} (hl : Lite (H := H) P t (.lit (.string s.data.toList))) : s.size ≤ 140737488351232 := by
  have := hl s.data.toList.length (by simp [DataW.weights])
  rw [Array.length_toList] at this
  exact this
end
end Go.Proofs.Ytojefdnngkcaoaa.Op
end

section
namespace Go.Proofs.Ytojefdnngkcaoaa.predGets
open Go.ChangeShapes Go.WideShapes Go.ChangeAt Go.RowKit Go.Proofs.Ytojefdnngkcaoaa Go.Proofs.Ytojefdnngkcaoaa.G Go.Proofs.YtojefdnngkcaoaaW.PrintWords Go.Proofs.YtojefdnngkcaoaaW.PrintLast Go.Proofs.YtojefdnngkcaoaaW.PrintMore
open Go.ChangeMaps (open_string shut_string)
set_option linter.unusedVariables false
set_option linter.unusedSimpArgs false
theorem own : ownKnob Try.prog.godebug = none := by kernel_rfl
theorem laidOut : laidOutB Try.prog = true := by kernel_rfl
set_option maxRecDepth 100000 in
theorem lifted (os : Os) (started : os.Started) (H : Type) (enc : TypeId × Value → H) :
    ReturnsInHanded {} Try.checked os 6 .any (Rows.predGetsSpec.pre6 enc Try.prog Try.f6 Rows.predGetsRow.domain false) (Rows.predGetsSpec.post enc Try.prog Try.f6 false true false false) := by
  refine returnsInHanded_of_change_sized (C := Try.checked) own started (by kernel_rfl) Try.func6
    (ChangeSpec.witness6 (enc := enc) (C := Try.checked) false ⟨#[], #[.slice none 0 0, .int .i64 0], []⟩ 8 (by kernel_rfl) (by kernel_rfl) (by kernel_rfl) (by kernel_rfl)) ?_
  intro W base args ds gs before hval0 hW hcnd hsz0 _
  have hsz : (DataW.weightsEach Try.prog (Try.f6.params.toList ++ Rows.predGetsSpec.plain.varTypes Try.prog) (ds ++ gs)).all (· ≤ reachBytes) = true := hsz0
  have hval : ∀ (j : Nat) t v, Try.f6.params[j]? = some t → args[j]? = some v → Value.okWide Try.prog W .any base t v := hval0
  have hW' := hW
  obtain ⟨p, q, hA0, hV, rfl, hfz, hnd⟩ := hW
  have hA : DataW.TrodAll enc Try.prog W 0 (fun _ => true) true Try.f6.params.toList args.toList ds p := hA0
  rw [Try.params6] at hA hval hsz
  obtain ⟨v0, vs0, d0, ds0, p0, q0, hargs, rfl, rfl, h0, r0⟩ := trodAll_cons hA
  obtain ⟨v1, vs1, d1, ds1, p1, q1, rfl, rfl, rfl, h1, r1⟩ := trodAll_cons r0
  obtain ⟨rfl, rfl, rfl⟩ := trodAll_nil r1
  obtain rfl : args = #[v0, v1] := by cases args; simp_all
  obtain ⟨rfl, rfl⟩ := trodVars_none hV
  have k0 := h0
  have lt0 : ∀ x ∈ p0, x.block < W.heap.size := by obtain ⟨m, hm⟩ := k0; exact DataW.trod_lt m _ _ _ hm
  obtain ⟨A0, len0, cap0, rfl⟩ := okWide_slice Try.underlying27 (hval 0 27 v0 rfl rfl)
  have q0 := Op.lite_arg hsz (j := 0) (t := 27) rfl rfl
  obtain ⟨l0, rfl, hc0, hk0, hr0, hg0⟩ := Op.open_arg Try.underlying27 (by kernel_rfl) (by kernel_rfl : _ = 1) (Op.opens_int Try.underlying5) q0 h0
  obtain ⟨a1, rfl, rfl, rfl, hg1⟩ := open_int Try.underlying3 (hval 1 3 v1 rfl rfl) h1
  clear hA0 hval0 hsz0 hsz
  have h := Pure.PredGets l0 a1 hg0 hg1
  refine (rosettelaw06_PredGets.calls A0 cap0 l0 a1 true W hr0 hc0 (by simpa [maxLen] using hk0) h).mono fun e W' ⟨he, bel⟩ => ?_
  subst he
  exact ⟨_, rfl, _, _, _, [], _, [], hW', trodAll_mk1 (shut_bool Try.underlying4 _), (trodAll_cons_mk (Below.trod laidOut (by kernel_rfl) (of_decide_eq_true (by kernel_rfl)) k0 bel lt0) (trodAll_cons_mk (shut_int Try.underlying3 hg1) trodAll_mk0)), rfl, bel.frame _, fun h => by cases h⟩
theorem over : Rows.predGetsRow.holds Try.pinned (OpenSpec.ofChange Rows.predGetsSpec) :=
  OpenClaim.holds_of_wide 6 Try.f6 rfl rfl rfl rfl rfl rfl rfl ⟨rfl, rfl, rfl, rfl, rfl⟩ rfl rfl rfl rfl rfl (by kernel_rfl) Try.func6 (by kernel_rfl)
    (of_decide_eq_true (by kernel_rfl)) (by unfold Func.isWrapper; first | (rw [if_pos (by decide +kernel)]; kernel_rfl) | (rw [if_neg (by decide +kernel)]; exact ⟨rfl, rfl⟩))
    (fun os started H enc _ => lifted os started H enc)
theorem proved : Rows.PredGetsSaid := over
#print axioms proved
end Go.Proofs.Ytojefdnngkcaoaa.predGets
namespace Go.Proofs.Ytojefdnngkcaoaa
/-- The row, under a short name, for the claim. -/
theorem predGets_holds : Rows.PredGetsSaid := predGets.proved
end Go.Proofs.Ytojefdnngkcaoaa
end
