/- The statement PredTurns over numbers and texts: of a value of the kind that is asked just one of each pair holds. -/
import Derived.Test.YtojefdnngkcaoaaZPredTurns0
import Derived.Test.YtojefdnngkcaoaaZPredTurns1
import Derived.Test.YtojefdnngkcaoaaZPredTurns2
import Derived.Deep.CutRange
import Derived.BigQuiet
import Derived.Deep.QuietTactic
import Derived.WalkKit
import Derived.Deep.Slices
import Derived.DataReads
import Derived.ChangeShapes
import Derived.WideLaws
import Derived.SizedLaws
import Derived.Test.YtojefdnngkcaoaaProg
import Derived.Test.YtojefdnngkcaoaaRows
import Derived.ProofKit
import Derived.OpenShut
import Derived.ShutString
import Derived.ChangeOld
import Derived.Below
import Derived.Lib.SmallJoins
section
-- Written by a program of this session (wip/tools/myprint.py), over the kit's print.
namespace Go.Proofs.Ytojefdnngkcaoaa.G
open Go.RowKit Go.Proofs.YtojefdnngkcaoaaW.PrintWords Go.Proofs.YtojefdnngkcaoaaW.PrintLast Go.Proofs.YtojefdnngkcaoaaW.PrintMore
attribute [local go_sem] max2_int min2_int max_two min_two max_three min_three max_four min_four   -- for this text's walks alone
set_option linter.unusedVariables false
set_option linter.unusedSimpArgs false

/-! ### rosetteref06_Holds: function 13 -/
def rosetteref06_Holds.j0 : Nat → Bool → ByteArray → Int → Int → Int → ByteArray → Int → Int → ByteArray → Option (Bool)
  | 0, _, _, _, _, _, _, _, _, _ => none
  | k + 1, x18, x188000, x188001, x188002, x188003, x188004, x189000, x189001, x189002 => if x18 = true then (some false) else (if x188001 = 8 then (some true) else (if x189000 = x188002 then ((rosetteref04_Compare.f k x189000 x189001 x189002 x188002 x188003 x188004).bind fun t192 => (if x188001 = 1 then (some (t192 == 0)) else (if x188001 = 2 then (some (t192 != 0)) else (if x188001 = 3 then (some (decide (t192 < 0))) else (if x188001 = 4 then (some (decide (t192 ≤ 0))) else (if x188001 = 5 then (some (decide (t192 > 0))) else (if x188001 = 6 then (some (decide (t192 ≥ 0))) else (if (x189002.size : Int) ≥ (x188004.size : Int) then (if 0 ≤ (x188004.size : Int) then (if (x188004.size : Int) ≤ (x189002.size : Int) then (some ((x189002.extract 0 ((x188004.size : Int) : Int).toNat).toList == x188004.toList)) else (none)) else (none)) else (some false))))))))) else (some false)))
def rosetteref06_Holds.f (k : Nat) (a0_0 : ByteArray) (a0_1 : Int) (a0_2 : Int) (a0_3 : Int) (a0_4 : ByteArray) (a1_0 : Int) (a1_1 : Int) (a1_2 : ByteArray) : Option (Bool) := (rosetteref06_Right.f k a0_0 a0_1 a0_2 a0_3 a0_4).bind fun t189 => ((rosetteref04_Right.f a1_0 a1_1 a1_2).bind fun t190 => (if t189 = true then (rosetteref06_Holds.j0 k (!t190) a0_0 a0_1 a0_2 a0_3 a0_4 a1_0 a1_1 a1_2) else (rosetteref06_Holds.j0 k true a0_0 a0_1 a0_2 a0_3 a0_4 a1_0 a1_1 a1_2)))
theorem rosetteref06_Holds.mono_l : ∀ k, (∀ y0 y1 y2 y3 y4 y5 y6 y7 y8, LeO (rosetteref06_Holds.j0 k y0 y1 y2 y3 y4 y5 y6 y7 y8) (rosetteref06_Holds.j0 (k + 1) y0 y1 y2 y3 y4 y5 y6 y7 y8))
  | 0 => fun _ _ _ _ _ _ _ _ _ r h => by simp [rosetteref06_Holds.j0] at h
  | k + 1 => by
    have ih0 := rosetteref06_Holds.mono_l k
    · intro y0 y1 y2 y3 y4 y5 y6 y7 y8
      unfold rosetteref06_Holds.j0
      repeat' first
      | (with_reducible exact ih0 _ _ _ _ _ _ _ _ _)
      | (with_reducible exact rosetteref04_Compare.mono _ _ _ _ _ _ _)
      | (with_reducible exact rosetteref06_Right.mono _ _ _ _ _ _)
      | (with_reducible exact LeO.refl _)
      | (with_reducible exact LeO.none _)
      | (with_reducible refine LeO.ite ?_ ?_)
      | (with_reducible refine LeO.bind ?_ (fun _ => ?_))
      | exact ih0 _ _ _ _ _ _ _ _ _
      | exact rosetteref04_Compare.mono _ _ _ _ _ _ _
      | exact rosetteref06_Right.mono _ _ _ _ _ _
      | exact LeO.none _
      | refine LeO.ite ?_ ?_
      | refine LeO.bind ?_ (fun _ => ?_)
theorem rosetteref06_Holds.mono : ∀ a0 a1 a2 a3 a4 a5 a6 a7 k, LeO (rosetteref06_Holds.f k a0 a1 a2 a3 a4 a5 a6 a7) (rosetteref06_Holds.f (k + 1) a0 a1 a2 a3 a4 a5 a6 a7) := by
  intro a0 a1 a2 a3 a4 a5 a6 a7 k
  have ih0 := rosetteref06_Holds.mono_l k
  unfold rosetteref06_Holds.f
  repeat' first
      | (with_reducible exact ih0 _ _ _ _ _ _ _ _ _)
      | (with_reducible exact rosetteref04_Compare.mono _ _ _ _ _ _ _)
      | (with_reducible exact rosetteref06_Right.mono _ _ _ _ _ _)
      | (with_reducible exact LeO.refl _)
      | (with_reducible exact LeO.none _)
      | (with_reducible refine LeO.ite ?_ ?_)
      | (with_reducible refine LeO.bind ?_ (fun _ => ?_))
      | exact ih0 _ _ _ _ _ _ _ _ _
      | exact rosetteref04_Compare.mono _ _ _ _ _ _ _
      | exact rosetteref06_Right.mono _ _ _ _ _ _
      | exact LeO.none _
      | refine LeO.ite ?_ ?_
      | refine LeO.bind ?_ (fun _ => ?_)
set_option maxHeartbeats 8000000 in
set_option maxRecDepth 100000 in
theorem rosetteref06_Holds.calls (k : Nat) (a0_0 : ByteArray) (a0_1 : Int) (a0_2 : Int) (a0_3 : Int) (a0_4 : ByteArray) (a1_0 : Int) (a1_1 : Int) (a1_2 : ByteArray) (r : Bool) (w : World) (h : rosetteref06_Holds.f k a0_0 a0_1 a0_2 a0_3 a0_4 a1_0 a1_1 a1_2 = some r) :
    Calls Try.prog 13 #[.agg #[.string a0_0, .int .i64 a0_1, .int .i64 a0_2, .int .i64 a0_3, .string a0_4], .agg #[.int .i64 a1_0, .int .i64 a1_1, .string a1_2]] w fun e w' => e = .returned (.bool r) ∧ Below w.heap.size w w' := by
  have hu25 := Try.underlying25
  have hu23 := Try.underlying23
  have HB := Aside0.mk (Below.refl w.heap.size w)
  have H : ((rosetteref06_Right.f k a0_0 a0_1 a0_2 a0_3 a0_4).bind fun t189 => ((rosetteref04_Right.f a1_0 a1_1 a1_2).bind fun t190 => (if t189 = true then (rosetteref06_Holds.j0 k (!t190) a0_0 a0_1 a0_2 a0_3 a0_4 a1_0 a1_1 a1_2) else (rosetteref06_Holds.j0 k true a0_0 a0_1 a0_2 a0_3 a0_4 a1_0 a1_1 a1_2)))) = some r := h
  clear h
  replace H := Option.bind_eq_some_iff.mp H
  obtain ⟨t189, A30, H⟩ := H
  replace H : ((rosetteref04_Right.f a1_0 a1_1 a1_2).bind fun t190 => (if t189 = true then (rosetteref06_Holds.j0 k (!t190) a0_0 a0_1 a0_2 a0_3 a0_4 a1_0 a1_1 a1_2) else (rosetteref06_Holds.j0 k true a0_0 a0_1 a0_2 a0_3 a0_4 a1_0 a1_1 a1_2))) = some r := H
  have A3 := Aside0.mk A30
  clear A30
  replace H := Option.bind_eq_some_iff.mp H
  obtain ⟨t190, A40, H⟩ := H
  replace H : (if t189 = true then (rosetteref06_Holds.j0 k (!t190) a0_0 a0_1 a0_2 a0_3 a0_4 a1_0 a1_1 a1_2) else (rosetteref06_Holds.j0 k true a0_0 a0_1 a0_2 a0_3 a0_4 a1_0 a1_1 a1_2)) = some r := H
  have A4 := Aside0.mk A40
  clear A40
  have HC5 := Aside0.mk H
  clear H
  go_enter Try.func13, Try.ntmps13
  go_upto_region 3 with (first | ((with_reducible refine gate_dst (N := 2) rfl ?_); (try (refine gate_guard (by rfl) ?_; dsimp only)); refine box_event ?hg (N := 2) ?hd (cs := #[.string a0_0, .int .i64 a0_1, .int .i64 a0_2, .int .i64 a0_3, .string a0_4]) (t := 25) ?hr ?_; (case hd => rfl); (case hg => rfl); (case hr => first | (go_simp; done) | (go_simp; rfl)); intro gb187 hg w6 hbox hb; have n0_ := Aside0.mk (below_step (by repeat (first | (with_reducible first | exact HB.out | apply below_alloc | apply pw_below_drewN | apply below_drew1) | exact HB.out)) hb); have n1_ := Aside0.mk (hbox); have n2_ := Aside0.mk ((by rw [hg]; exact (below_size (by repeat (first | (with_reducible first | exact HB.out | apply below_alloc | apply pw_below_drewN | apply below_drew1) | exact HB.out))) : w.heap.size ≤ gb187)); have n3_ := Aside0.mk ((by rw [hg]; exact (below_size (by repeat (first | (with_reducible first | exact HB.out | apply below_alloc | apply pw_below_drewN | apply below_drew1) | exact HB.out))) : w.heap.size ≤ gb187)); clear HB; have HB := n0_; have BK187 := n1_; have GW187 := n2_; have GE187 := n3_; clear n0_ n1_ n2_ n3_; clear hb hbox hg) | ((with_reducible refine gate_dst (N := 3) rfl ?_); (try (refine gate_guard (by rfl) ?_; dsimp only)); refine box_event ?hg (N := 3) ?hd (cs := #[.int .i64 a1_0, .int .i64 a1_1, .string a1_2]) (t := 23) ?hr ?_; (case hd => rfl); (case hg => rfl); (case hr => first | (go_simp; done) | (go_simp; rfl)); intro gb188 hg w7 hbox hb; have n0_ := Aside0.mk (blk_below (g := gb187) (o := .cells #[.string a0_0, .int .i64 a0_1, .int .i64 a0_2, .int .i64 a0_3, .string a0_4] 25 (0, 0)) (by (with_reducible repeat (first | refine blk_drewN ?_ _ | refine blk_drew ?_ | refine blk_alloc ?_ _)); exact BK187.out) hb); have n1_ := Aside0.mk (below_step (by repeat (first | (with_reducible first | exact HB.out | apply below_alloc | apply pw_below_drewN | apply below_drew1 | refine below_set ?_ GE187.out) | exact HB.out)) hb); have n2_ := Aside0.mk (hbox); have n3_ := Aside0.mk ((by rw [hg]; exact (below_size (by repeat (first | (with_reducible first | exact HB.out | apply below_alloc | apply pw_below_drewN | apply below_drew1 | refine below_set ?_ GE187.out) | exact HB.out))) : w.heap.size ≤ gb188)); have n4_ := Aside0.mk ((by rw [hg]; exact (below_size (by repeat (first | (with_reducible first | exact HB.out | apply below_alloc | apply pw_below_drewN | apply below_drew1 | refine below_set ?_ GE187.out) | exact HB.out))) : w.heap.size ≤ gb188)); have n5_ := Aside0.mk ((by rw [hg]; exact Nat.ne_of_lt (blk_lt (g := gb187) (o := .cells #[.string a0_0, .int .i64 a0_1, .int .i64 a0_2, .int .i64 a0_3, .string a0_4] 25 (0, 0)) (by (with_reducible repeat (first | refine blk_drewN ?_ _ | refine blk_drew ?_ | refine blk_alloc ?_ _)); exact BK187.out)) : gb187 ≠ gb188)); have n6_ := Aside0.mk ((by rw [hg]; exact Nat.ne_of_gt (blk_lt (g := gb187) (o := .cells #[.string a0_0, .int .i64 a0_1, .int .i64 a0_2, .int .i64 a0_3, .string a0_4] 25 (0, 0)) (by (with_reducible repeat (first | refine blk_drewN ?_ _ | refine blk_drew ?_ | refine blk_alloc ?_ _)); exact BK187.out)) : gb188 ≠ gb187)); clear BK187; clear HB; have BK187 := n0_; have HB := n1_; have BK188 := n2_; have GW188 := n3_; have GE188 := n4_; have NB187_188 := n5_; have NB188_187 := n6_; clear n0_ n1_ n2_ n3_ n4_ n5_ n6_; clear hb hbox hg; have hnb8 := NB187_188.out; have hnc8 := NB188_187.out; have hcz9_0 : w7.cell? ⟨gb187, 0, none⟩ = some (.string a0_0) := (blk_cell BK187.out 0).trans rfl; have hcz9_1 : w7.cell? ⟨gb187, 1, none⟩ = some (.int .i64 a0_1) := (blk_cell BK187.out 1).trans rfl; have hcz9_2 : w7.cell? ⟨gb187, 2, none⟩ = some (.int .i64 a0_2) := (blk_cell BK187.out 2).trans rfl; have hcz9_3 : w7.cell? ⟨gb187, 3, none⟩ = some (.int .i64 a0_3) := (blk_cell BK187.out 3).trans rfl; have hcz9_4 : w7.cell? ⟨gb187, 4, none⟩ = some (.string a0_4) := (blk_cell BK187.out 4).trans rfl; have hfz9_0 := blk_frozen BK187.out 0; have hfz9_1 := blk_frozen BK187.out 1; have hfz9_2 := blk_frozen BK187.out 2; have hfz9_3 := blk_frozen BK187.out 3; have hfz9_4 := blk_frozen BK187.out 4) | (go_at_call 11; (with_reducible refine (rosetteref06_Right.calls k a0_0 a0_1 a0_2 a0_3 a0_4 t189 _ A3.out).mono ?_); rintro e w10 ⟨rfl, hb⟩; have n0_ := Aside0.mk (blk_below (g := gb187) (o := .cells #[.string a0_0, .int .i64 a0_1, .int .i64 a0_2, .int .i64 a0_3, .string a0_4] 25 (0, 0)) (by (with_reducible repeat (first | refine blk_drewN ?_ _ | refine blk_drew ?_ | refine blk_alloc ?_ _)); exact BK187.out) hb); have n1_ := Aside0.mk (blk_below (g := gb188) (o := .cells #[.int .i64 a1_0, .int .i64 a1_1, .string a1_2] 23 (0, 0)) (by (with_reducible repeat (first | refine blk_drewN ?_ _ | refine blk_drew ?_ | refine blk_alloc ?_ _)); exact BK188.out) hb); have n2_ := Aside0.mk (below_step (by repeat (first | (with_reducible first | exact HB.out | apply below_alloc | apply pw_below_drewN | apply below_drew1 | refine below_set ?_ GE187.out | refine below_set ?_ GE188.out) | exact HB.out)) hb); clear BK187; clear BK188; clear HB; have BK187 := n0_; have BK188 := n1_; have HB := n2_; clear n0_ n1_ n2_; (try clear hb); (try clear hb2); (try clear hk); (try clear hi); have hcz11_0 : w10.cell? ⟨gb188, 0, none⟩ = some (.int .i64 a1_0) := (blk_cell BK188.out 0).trans rfl; have hcz11_1 : w10.cell? ⟨gb188, 1, none⟩ = some (.int .i64 a1_1) := (blk_cell BK188.out 1).trans rfl; have hcz11_2 : w10.cell? ⟨gb188, 2, none⟩ = some (.string a1_2) := (blk_cell BK188.out 2).trans rfl; have hfz11_0 := blk_frozen BK188.out 0; have hfz11_1 := blk_frozen BK188.out 1; have hfz11_2 := blk_frozen BK188.out 2) | (go_at_call 25; (with_reducible refine (rosetteref04_Right.calls a1_0 a1_1 a1_2 t190 _ A4.out).mono ?_); rintro e w12 ⟨rfl, hb⟩; have n0_ := Aside0.mk (blk_below (g := gb187) (o := .cells #[.string a0_0, .int .i64 a0_1, .int .i64 a0_2, .int .i64 a0_3, .string a0_4] 25 (0, 0)) (by (with_reducible repeat (first | refine blk_drewN ?_ _ | refine blk_drew ?_ | refine blk_alloc ?_ _)); exact BK187.out) hb); have n1_ := Aside0.mk (blk_below (g := gb188) (o := .cells #[.int .i64 a1_0, .int .i64 a1_1, .string a1_2] 23 (0, 0)) (by (with_reducible repeat (first | refine blk_drewN ?_ _ | refine blk_drew ?_ | refine blk_alloc ?_ _)); exact BK188.out) hb); have n2_ := Aside0.mk (below_step (by repeat (first | (with_reducible first | exact HB.out | apply below_alloc | apply pw_below_drewN | apply below_drew1 | refine below_set ?_ GE187.out | refine below_set ?_ GE188.out) | exact HB.out)) hb); clear BK187; clear BK188; clear HB; have BK187 := n0_; have BK188 := n1_; have HB := n2_; clear n0_ n1_ n2_; (try clear hb); (try clear hb2); (try clear hk); (try clear hi)))
  (try simp only [Act.put, List.setIfInBounds_toArray, List.set_cons_zero, List.set_cons_succ])
  go_cut [18] (fun v18 wc => ∃ (kq : Nat) (x18_4 : Bool), v18 = .bool x18_4 ∧ Aside0 (rosetteref06_Holds.j0 kq x18_4 a0_0 a0_1 a0_2 a0_3 a0_4 a1_0 a1_1 a1_2 = some r) ∧ Aside0 (kq ≤ k) ∧ Aside0 (wc.heap[gb187]? = some (.cells #[.string a0_0, .int .i64 a0_1, .int .i64 a0_2, .int .i64 a0_3, .string a0_4] 25 (0, 0))) ∧ Aside0 (wc.heap[gb188]? = some (.cells #[.int .i64 a1_0, .int .i64 a1_1, .string a1_2] 23 (0, 0))) ∧ Aside0 (Below w.heap.size w wc))
  case first =>
    have H := HC5.out
    clear HC5
    by_cases c13 : t189 = true
    · subst c13
      have H1 : (rosetteref06_Holds.j0 k (!t190) a0_0 a0_1 a0_2 a0_3 a0_4 a1_0 a1_1 a1_2) = some r := by rw [if_pos rfl] at H; exact H
      clear H
      have H := H1
      clear H1
      have H' := Aside0.mk H
      clear H
      go_wp2
      go_meet
      case rel => exact ⟨_, (!t190), (by first | rfl | (simp; done) | (simp [*]; done)), H', ⟨by first | omega | exact Nat.le_refl _⟩, ⟨by (with_reducible repeat (first | refine blk_drewN ?_ _ | refine blk_drew ?_ | refine blk_alloc ?_ _)); exact BK187.out⟩, ⟨by (with_reducible repeat (first | refine blk_drewN ?_ _ | refine blk_drew ?_ | refine blk_alloc ?_ _)); exact BK188.out⟩, ⟨by repeat (first | (with_reducible first | exact HB.out | apply below_alloc | apply pw_below_drewN | apply below_drew1 | refine below_set ?_ GE187.out | refine below_set ?_ GE188.out) | exact HB.out)⟩⟩
    · replace c13 := Bool.eq_false_iff.mpr c13
      subst c13
      have H1 : (rosetteref06_Holds.j0 k true a0_0 a0_1 a0_2 a0_3 a0_4 a1_0 a1_1 a1_2) = some r := by rw [if_neg (show ¬ (false = true) by decide)] at H; exact H
      clear H
      have H := H1
      clear H1
      have H' := Aside0.mk H
      clear H
      go_wp2
      go_meet
      case rel => exact ⟨_, (true), (by first | rfl | (simp; done) | (simp [*]; done)), H', ⟨by first | omega | exact Nat.le_refl _⟩, ⟨by (with_reducible repeat (first | refine blk_drewN ?_ _ | refine blk_drew ?_ | refine blk_alloc ?_ _)); exact BK187.out⟩, ⟨by (with_reducible repeat (first | refine blk_drewN ?_ _ | refine blk_drew ?_ | refine blk_alloc ?_ _)); exact BK188.out⟩, ⟨by repeat (first | (with_reducible first | exact HB.out | apply below_alloc | apply pw_below_drewN | apply below_drew1 | refine below_set ?_ GE187.out | refine below_set ?_ GE188.out) | exact HB.out)⟩⟩
  case rest =>
    clear HC5
    try clear c1
    try clear p2
    try clear c8
    try clear c13
    try clear hcz11_0
    try clear hcz11_1
    try clear hcz11_2
    try clear hcz9_0
    try clear hcz9_1
    try clear hcz9_2
    try clear hcz9_3
    try clear hcz9_4
    try clear hfz11_0
    try clear hfz11_1
    try clear hfz11_2
    try clear hfz9_0
    try clear hfz9_1
    try clear hfz9_2
    try clear hfz9_3
    try clear hfz9_4
    obtain ⟨kq, x18_4, rfl, HA, HJ4, BK187, BK188, HB⟩ := hcut
    cases kq with
    | zero => exact absurd HA.out (by simp [rosetteref06_Holds.j0])
    | succ kj4 =>
      have H := HA.out
      clear HA
      simp only [rosetteref06_Holds.j0] at H
      by_cases c14 : x18_4 = true
      · subst c14
        have H1 : (some false) = some r := by rw [if_pos rfl] at H; exact H
        clear H
        have H := H1
        clear H1
        obtain rfl := Option.some.inj H
        go_wp2
        go_ret
        exact ⟨by first | rfl | (simp [errW_none, errW_some] <;> rfl) | (simp [*, errW_none, errW_some] <;> rfl), by repeat (first | (with_reducible first | exact HB.out | apply below_alloc | apply pw_below_drewN | apply below_drew1 | refine below_set ?_ GE187.out | refine below_set ?_ GE188.out) | exact HB.out)⟩
      · replace c14 := Bool.eq_false_iff.mpr c14
        subst c14
        have H1 : (if a0_1 = 8 then (some true) else (if a1_0 = a0_2 then ((rosetteref04_Compare.f kj4 a1_0 a1_1 a1_2 a0_2 a0_3 a0_4).bind fun t192 => (if a0_1 = 1 then (some (t192 == 0)) else (if a0_1 = 2 then (some (t192 != 0)) else (if a0_1 = 3 then (some (decide (t192 < 0))) else (if a0_1 = 4 then (some (decide (t192 ≤ 0))) else (if a0_1 = 5 then (some (decide (t192 > 0))) else (if a0_1 = 6 then (some (decide (t192 ≥ 0))) else (if (a1_2.size : Int) ≥ (a0_4.size : Int) then (if 0 ≤ (a0_4.size : Int) then (if (a0_4.size : Int) ≤ (a1_2.size : Int) then (some ((a1_2.extract 0 ((a0_4.size : Int) : Int).toNat).toList == a0_4.toList)) else (none)) else (none)) else (some false))))))))) else (some false))) = some r := by rw [if_neg (show ¬ (false = true) by decide)] at H; exact H
        clear H
        have H := H1
        clear H1
        by_cases c15 : a0_1 = 8
        · rw [if_pos c15] at H
          have c15b0 : (a0_1 == 8) = true := beq_iff_eq.mpr c15
          have c15b1 : (a0_1 != 8) = false := bne_eq_false_iff_eq.mpr c15
          clear c15
          obtain rfl := Option.some.inj H
          have hnb16 := NB187_188.out
          have hnc16 := NB188_187.out
          have hcz17_0 : wc.cell? ⟨gb187, 0, none⟩ = some (.string a0_0) := (blk_cell BK187.out 0).trans rfl
          have hcz17_1 : wc.cell? ⟨gb187, 1, none⟩ = some (.int .i64 a0_1) := (blk_cell BK187.out 1).trans rfl
          have hcz17_2 : wc.cell? ⟨gb187, 2, none⟩ = some (.int .i64 a0_2) := (blk_cell BK187.out 2).trans rfl
          have hcz17_3 : wc.cell? ⟨gb187, 3, none⟩ = some (.int .i64 a0_3) := (blk_cell BK187.out 3).trans rfl
          have hcz17_4 : wc.cell? ⟨gb187, 4, none⟩ = some (.string a0_4) := (blk_cell BK187.out 4).trans rfl
          have hfz17_0 := blk_frozen BK187.out 0
          have hfz17_1 := blk_frozen BK187.out 1
          have hfz17_2 := blk_frozen BK187.out 2
          have hfz17_3 := blk_frozen BK187.out 3
          have hfz17_4 := blk_frozen BK187.out 4
          go_wp2
          go_ret
          exact ⟨by first | rfl | (simp [errW_none, errW_some] <;> rfl) | (simp [*, errW_none, errW_some] <;> rfl), by repeat (first | (with_reducible first | exact HB.out | apply below_alloc | apply pw_below_drewN | apply below_drew1 | refine below_set ?_ GE187.out | refine below_set ?_ GE188.out) | exact HB.out)⟩
        · rw [if_neg c15] at H
          have c15b0 : (a0_1 == 8) = false := beq_eq_false_iff_ne.mpr c15
          have c15b1 : (a0_1 != 8) = true := bne_iff_ne.mpr c15
          by_cases c18 : a1_0 = a0_2
          · rw [if_pos c18] at H
            have c18b0 : (a1_0 == a0_2) = true := beq_iff_eq.mpr c18
            have c18b1 : (a1_0 != a0_2) = false := bne_eq_false_iff_eq.mpr c18
            clear c18
            replace H := Option.bind_eq_some_iff.mp H
            obtain ⟨t192, A190, H⟩ := H
            replace H : (if a0_1 = 1 then (some (t192 == 0)) else (if a0_1 = 2 then (some (t192 != 0)) else (if a0_1 = 3 then (some (decide (t192 < 0))) else (if a0_1 = 4 then (some (decide (t192 ≤ 0))) else (if a0_1 = 5 then (some (decide (t192 > 0))) else (if a0_1 = 6 then (some (decide (t192 ≥ 0))) else (if (a1_2.size : Int) ≥ (a0_4.size : Int) then (if 0 ≤ (a0_4.size : Int) then (if (a0_4.size : Int) ≤ (a1_2.size : Int) then (some ((a1_2.extract 0 ((a0_4.size : Int) : Int).toNat).toList == a0_4.toList)) else (none)) else (none)) else (some false)))))))) = some r := H
            have A19 := Aside0.mk A190
            clear A190
            by_cases c20 : a0_1 = 1
            · rw [if_pos c20] at H
              have c20b0 : (a0_1 == 1) = true := beq_iff_eq.mpr c20
              have c20b1 : (a0_1 != 1) = false := bne_eq_false_iff_eq.mpr c20
              clear c20
              obtain rfl := Option.some.inj H
              have hnb21 := NB187_188.out
              have hnc21 := NB188_187.out
              have hcz22_0 : wc.cell? ⟨gb187, 0, none⟩ = some (.string a0_0) := (blk_cell BK187.out 0).trans rfl
              have hcz22_1 : wc.cell? ⟨gb187, 1, none⟩ = some (.int .i64 a0_1) := (blk_cell BK187.out 1).trans rfl
              have hcz22_2 : wc.cell? ⟨gb187, 2, none⟩ = some (.int .i64 a0_2) := (blk_cell BK187.out 2).trans rfl
              have hcz22_3 : wc.cell? ⟨gb187, 3, none⟩ = some (.int .i64 a0_3) := (blk_cell BK187.out 3).trans rfl
              have hcz22_4 : wc.cell? ⟨gb187, 4, none⟩ = some (.string a0_4) := (blk_cell BK187.out 4).trans rfl
              have hfz22_0 := blk_frozen BK187.out 0
              have hfz22_1 := blk_frozen BK187.out 1
              have hfz22_2 := blk_frozen BK187.out 2
              have hfz22_3 := blk_frozen BK187.out 3
              have hfz22_4 := blk_frozen BK187.out 4
              go_wp2_with (first | ((with_reducible refine gate_dst (N := 7) rfl ?_); (try (refine gate_guard (by rfl) ?_; dsimp only)); refine box_event ?hg (N := 7) ?hd (cs := #[.int .i64 0, .int .i64 0, .string (⟨#[]⟩ : ByteArray)]) (t := 23) ?hr ?_; (case hd => rfl); (case hg => rfl); (case hr => first | (go_simp; done) | (go_simp; rfl)); intro gb191 hg w23 hbox hb; have n0_ := Aside0.mk (blk_below (g := gb187) (o := .cells #[.string a0_0, .int .i64 a0_1, .int .i64 a0_2, .int .i64 a0_3, .string a0_4] 25 (0, 0)) (by (with_reducible repeat (first | refine blk_drewN ?_ _ | refine blk_drew ?_ | refine blk_alloc ?_ _)); exact BK187.out) hb); have n1_ := Aside0.mk (blk_below (g := gb188) (o := .cells #[.int .i64 a1_0, .int .i64 a1_1, .string a1_2] 23 (0, 0)) (by (with_reducible repeat (first | refine blk_drewN ?_ _ | refine blk_drew ?_ | refine blk_alloc ?_ _)); exact BK188.out) hb); have n2_ := Aside0.mk (below_step (by repeat (first | (with_reducible first | exact HB.out | apply below_alloc | apply pw_below_drewN | apply below_drew1 | refine below_set ?_ GE187.out | refine below_set ?_ GE188.out) | exact HB.out)) hb); have n3_ := Aside0.mk (hbox); have n4_ := Aside0.mk ((by rw [hg]; exact (below_size (by repeat (first | (with_reducible first | exact HB.out | apply below_alloc | apply pw_below_drewN | apply below_drew1 | refine below_set ?_ GE187.out | refine below_set ?_ GE188.out) | exact HB.out))) : w.heap.size ≤ gb191)); have n5_ := Aside0.mk ((by rw [hg]; exact (below_size (by repeat (first | (with_reducible first | exact HB.out | apply below_alloc | apply pw_below_drewN | apply below_drew1 | refine below_set ?_ GE187.out | refine below_set ?_ GE188.out) | exact HB.out))) : w.heap.size ≤ gb191)); have n6_ := Aside0.mk ((by rw [hg]; exact Nat.ne_of_lt (blk_lt (g := gb187) (o := .cells #[.string a0_0, .int .i64 a0_1, .int .i64 a0_2, .int .i64 a0_3, .string a0_4] 25 (0, 0)) (by (with_reducible repeat (first | refine blk_drewN ?_ _ | refine blk_drew ?_ | refine blk_alloc ?_ _)); exact BK187.out)) : gb187 ≠ gb191)); have n7_ := Aside0.mk ((by rw [hg]; exact Nat.ne_of_gt (blk_lt (g := gb187) (o := .cells #[.string a0_0, .int .i64 a0_1, .int .i64 a0_2, .int .i64 a0_3, .string a0_4] 25 (0, 0)) (by (with_reducible repeat (first | refine blk_drewN ?_ _ | refine blk_drew ?_ | refine blk_alloc ?_ _)); exact BK187.out)) : gb191 ≠ gb187)); have n8_ := Aside0.mk ((by rw [hg]; exact Nat.ne_of_lt (blk_lt (g := gb188) (o := .cells #[.int .i64 a1_0, .int .i64 a1_1, .string a1_2] 23 (0, 0)) (by (with_reducible repeat (first | refine blk_drewN ?_ _ | refine blk_drew ?_ | refine blk_alloc ?_ _)); exact BK188.out)) : gb188 ≠ gb191)); have n9_ := Aside0.mk ((by rw [hg]; exact Nat.ne_of_gt (blk_lt (g := gb188) (o := .cells #[.int .i64 a1_0, .int .i64 a1_1, .string a1_2] 23 (0, 0)) (by (with_reducible repeat (first | refine blk_drewN ?_ _ | refine blk_drew ?_ | refine blk_alloc ?_ _)); exact BK188.out)) : gb191 ≠ gb188)); clear BK187; clear BK188; clear HB; have BK187 := n0_; have BK188 := n1_; have HB := n2_; have BK191 := n3_; have GW191 := n4_; have GE191 := n5_; have NB187_191 := n6_; have NB191_187 := n7_; have NB188_191 := n8_; have NB191_188 := n9_; clear n0_ n1_ n2_ n3_ n4_ n5_ n6_ n7_ n8_ n9_; clear hb hbox hg; have hnb24 := NB191_187.out; have hnc24 := NB187_191.out; have hnb25 := NB191_188.out; have hnc25 := NB188_191.out; have hcz26_0 : w23.cell? ⟨gb191, 0, none⟩ = some (.int .i64 0) := (blk_cell BK191.out 0).trans rfl; have hcz26_1 : w23.cell? ⟨gb191, 1, none⟩ = some (.int .i64 0) := (blk_cell BK191.out 1).trans rfl; have hcz26_2 : w23.cell? ⟨gb191, 2, none⟩ = some (.string (⟨#[]⟩ : ByteArray)) := (blk_cell BK191.out 2).trans rfl; have hfz26_0 := blk_frozen BK191.out 0; have hfz26_1 := blk_frozen BK191.out 1; have hfz26_2 := blk_frozen BK191.out 2; have hcz27_0 : w23.cell? ⟨gb188, 0, none⟩ = some (.int .i64 a1_0) := (blk_cell BK188.out 0).trans rfl; have hcz27_1 : w23.cell? ⟨gb188, 1, none⟩ = some (.int .i64 a1_1) := (blk_cell BK188.out 1).trans rfl; have hcz27_2 : w23.cell? ⟨gb188, 2, none⟩ = some (.string a1_2) := (blk_cell BK188.out 2).trans rfl; have hfz27_0 := blk_frozen BK188.out 0; have hfz27_1 := blk_frozen BK188.out 1; have hfz27_2 := blk_frozen BK188.out 2) | (go_at_call 28; (with_reducible refine (rosetteref04_Compare.calls kj4 a1_0 a1_1 a1_2 a0_2 a0_3 a0_4 t192 _ A19.out).mono ?_); rintro e w28 ⟨rfl, hb⟩; have n0_ := Aside0.mk (blk_below (g := gb187) (o := .cells #[.string a0_0, .int .i64 a0_1, .int .i64 a0_2, .int .i64 a0_3, .string a0_4] 25 (0, 0)) (by (with_reducible repeat (first | refine blk_drewN ?_ _ | refine blk_drew ?_ | refine blk_alloc ?_ _)); refine blk_far ?_ NB187_191.out _; (with_reducible repeat (first | refine blk_drewN ?_ _ | refine blk_drew ?_ | refine blk_alloc ?_ _)); refine blk_far ?_ NB187_191.out _; (with_reducible repeat (first | refine blk_drewN ?_ _ | refine blk_drew ?_ | refine blk_alloc ?_ _)); refine blk_far ?_ NB187_191.out _; (with_reducible repeat (first | refine blk_drewN ?_ _ | refine blk_drew ?_ | refine blk_alloc ?_ _)); exact BK187.out) hb); have n1_ := Aside0.mk (blk_below (g := gb188) (o := .cells #[.int .i64 a1_0, .int .i64 a1_1, .string a1_2] 23 (0, 0)) (by (with_reducible repeat (first | refine blk_drewN ?_ _ | refine blk_drew ?_ | refine blk_alloc ?_ _)); refine blk_far ?_ NB188_191.out _; (with_reducible repeat (first | refine blk_drewN ?_ _ | refine blk_drew ?_ | refine blk_alloc ?_ _)); refine blk_far ?_ NB188_191.out _; (with_reducible repeat (first | refine blk_drewN ?_ _ | refine blk_drew ?_ | refine blk_alloc ?_ _)); refine blk_far ?_ NB188_191.out _; (with_reducible repeat (first | refine blk_drewN ?_ _ | refine blk_drew ?_ | refine blk_alloc ?_ _)); exact BK188.out) hb); have n2_ := Aside0.mk (blk_below (g := gb191) (o := .cells #[.int .i64 a0_2, .int .i64 a0_3, .string a0_4] 23 (0, 0)) (by (with_reducible repeat (first | refine blk_drewN ?_ _ | refine blk_drew ?_ | refine blk_alloc ?_ _)); refine blk_put (cs := #[.int .i64 a0_2, .int .i64 a0_3, .string (⟨#[]⟩ : ByteArray)]) ?_ 2 _ rfl; (with_reducible repeat (first | refine blk_drewN ?_ _ | refine blk_drew ?_ | refine blk_alloc ?_ _)); refine blk_put (cs := #[.int .i64 a0_2, .int .i64 0, .string (⟨#[]⟩ : ByteArray)]) ?_ 1 _ rfl; (with_reducible repeat (first | refine blk_drewN ?_ _ | refine blk_drew ?_ | refine blk_alloc ?_ _)); refine blk_put (cs := #[.int .i64 0, .int .i64 0, .string (⟨#[]⟩ : ByteArray)]) ?_ 0 _ rfl; (with_reducible repeat (first | refine blk_drewN ?_ _ | refine blk_drew ?_ | refine blk_alloc ?_ _)); exact BK191.out) hb); have n3_ := Aside0.mk (below_step (by repeat (first | (with_reducible first | exact HB.out | apply below_alloc | apply pw_below_drewN | apply below_drew1 | refine below_set ?_ GE187.out | refine below_set ?_ GE188.out | refine below_set ?_ GE191.out) | exact HB.out)) hb); clear BK187; clear BK188; clear BK191; clear HB; have BK187 := n0_; have BK188 := n1_; have BK191 := n2_; have HB := n3_; clear n0_ n1_ n2_ n3_; (try clear hb); (try clear hb2); (try clear hk); (try clear hi); have hcz29_0 : w28.cell? ⟨gb187, 0, none⟩ = some (.string a0_0) := (blk_cell BK187.out 0).trans rfl; have hcz29_1 : w28.cell? ⟨gb187, 1, none⟩ = some (.int .i64 a0_1) := (blk_cell BK187.out 1).trans rfl; have hcz29_2 : w28.cell? ⟨gb187, 2, none⟩ = some (.int .i64 a0_2) := (blk_cell BK187.out 2).trans rfl; have hcz29_3 : w28.cell? ⟨gb187, 3, none⟩ = some (.int .i64 a0_3) := (blk_cell BK187.out 3).trans rfl; have hcz29_4 : w28.cell? ⟨gb187, 4, none⟩ = some (.string a0_4) := (blk_cell BK187.out 4).trans rfl; have hfz29_0 := blk_frozen BK187.out 0; have hfz29_1 := blk_frozen BK187.out 1; have hfz29_2 := blk_frozen BK187.out 2; have hfz29_3 := blk_frozen BK187.out 3; have hfz29_4 := blk_frozen BK187.out 4))
              go_ret
              exact ⟨by first | rfl | (simp [errW_none, errW_some] <;> rfl) | (simp [*, errW_none, errW_some] <;> rfl), by repeat (first | (with_reducible first | exact HB.out | apply below_alloc | apply pw_below_drewN | apply below_drew1 | refine below_set ?_ GE187.out | refine below_set ?_ GE188.out | refine below_set ?_ GE191.out) | exact HB.out)⟩
            · rw [if_neg c20] at H
              have c20b0 : (a0_1 == 1) = false := beq_eq_false_iff_ne.mpr c20
              have c20b1 : (a0_1 != 1) = true := bne_iff_ne.mpr c20
              by_cases c30 : a0_1 = 2
              · rw [if_pos c30] at H
                have c30b0 : (a0_1 == 2) = true := beq_iff_eq.mpr c30
                have c30b1 : (a0_1 != 2) = false := bne_eq_false_iff_eq.mpr c30
                clear c30
                obtain rfl := Option.some.inj H
                have hnb31 := NB187_188.out
                have hnc31 := NB188_187.out
                have hcz32_0 : wc.cell? ⟨gb187, 0, none⟩ = some (.string a0_0) := (blk_cell BK187.out 0).trans rfl
                have hcz32_1 : wc.cell? ⟨gb187, 1, none⟩ = some (.int .i64 a0_1) := (blk_cell BK187.out 1).trans rfl
                have hcz32_2 : wc.cell? ⟨gb187, 2, none⟩ = some (.int .i64 a0_2) := (blk_cell BK187.out 2).trans rfl
                have hcz32_3 : wc.cell? ⟨gb187, 3, none⟩ = some (.int .i64 a0_3) := (blk_cell BK187.out 3).trans rfl
                have hcz32_4 : wc.cell? ⟨gb187, 4, none⟩ = some (.string a0_4) := (blk_cell BK187.out 4).trans rfl
                have hfz32_0 := blk_frozen BK187.out 0
                have hfz32_1 := blk_frozen BK187.out 1
                have hfz32_2 := blk_frozen BK187.out 2
                have hfz32_3 := blk_frozen BK187.out 3
                have hfz32_4 := blk_frozen BK187.out 4
                go_wp2_with (first | ((with_reducible refine gate_dst (N := 7) rfl ?_); (try (refine gate_guard (by rfl) ?_; dsimp only)); refine box_event ?hg (N := 7) ?hd (cs := #[.int .i64 0, .int .i64 0, .string (⟨#[]⟩ : ByteArray)]) (t := 23) ?hr ?_; (case hd => rfl); (case hg => rfl); (case hr => first | (go_simp; done) | (go_simp; rfl)); intro gb191 hg w33 hbox hb; have n0_ := Aside0.mk (blk_below (g := gb187) (o := .cells #[.string a0_0, .int .i64 a0_1, .int .i64 a0_2, .int .i64 a0_3, .string a0_4] 25 (0, 0)) (by (with_reducible repeat (first | refine blk_drewN ?_ _ | refine blk_drew ?_ | refine blk_alloc ?_ _)); exact BK187.out) hb); have n1_ := Aside0.mk (blk_below (g := gb188) (o := .cells #[.int .i64 a1_0, .int .i64 a1_1, .string a1_2] 23 (0, 0)) (by (with_reducible repeat (first | refine blk_drewN ?_ _ | refine blk_drew ?_ | refine blk_alloc ?_ _)); exact BK188.out) hb); have n2_ := Aside0.mk (below_step (by repeat (first | (with_reducible first | exact HB.out | apply below_alloc | apply pw_below_drewN | apply below_drew1 | refine below_set ?_ GE187.out | refine below_set ?_ GE188.out) | exact HB.out)) hb); have n3_ := Aside0.mk (hbox); have n4_ := Aside0.mk ((by rw [hg]; exact (below_size (by repeat (first | (with_reducible first | exact HB.out | apply below_alloc | apply pw_below_drewN | apply below_drew1 | refine below_set ?_ GE187.out | refine below_set ?_ GE188.out) | exact HB.out))) : w.heap.size ≤ gb191)); have n5_ := Aside0.mk ((by rw [hg]; exact (below_size (by repeat (first | (with_reducible first | exact HB.out | apply below_alloc | apply pw_below_drewN | apply below_drew1 | refine below_set ?_ GE187.out | refine below_set ?_ GE188.out) | exact HB.out))) : w.heap.size ≤ gb191)); have n6_ := Aside0.mk ((by rw [hg]; exact Nat.ne_of_lt (blk_lt (g := gb187) (o := .cells #[.string a0_0, .int .i64 a0_1, .int .i64 a0_2, .int .i64 a0_3, .string a0_4] 25 (0, 0)) (by (with_reducible repeat (first | refine blk_drewN ?_ _ | refine blk_drew ?_ | refine blk_alloc ?_ _)); exact BK187.out)) : gb187 ≠ gb191)); have n7_ := Aside0.mk ((by rw [hg]; exact Nat.ne_of_gt (blk_lt (g := gb187) (o := .cells #[.string a0_0, .int .i64 a0_1, .int .i64 a0_2, .int .i64 a0_3, .string a0_4] 25 (0, 0)) (by (with_reducible repeat (first | refine blk_drewN ?_ _ | refine blk_drew ?_ | refine blk_alloc ?_ _)); exact BK187.out)) : gb191 ≠ gb187)); have n8_ := Aside0.mk ((by rw [hg]; exact Nat.ne_of_lt (blk_lt (g := gb188) (o := .cells #[.int .i64 a1_0, .int .i64 a1_1, .string a1_2] 23 (0, 0)) (by (with_reducible repeat (first | refine blk_drewN ?_ _ | refine blk_drew ?_ | refine blk_alloc ?_ _)); exact BK188.out)) : gb188 ≠ gb191)); have n9_ := Aside0.mk ((by rw [hg]; exact Nat.ne_of_gt (blk_lt (g := gb188) (o := .cells #[.int .i64 a1_0, .int .i64 a1_1, .string a1_2] 23 (0, 0)) (by (with_reducible repeat (first | refine blk_drewN ?_ _ | refine blk_drew ?_ | refine blk_alloc ?_ _)); exact BK188.out)) : gb191 ≠ gb188)); clear BK187; clear BK188; clear HB; have BK187 := n0_; have BK188 := n1_; have HB := n2_; have BK191 := n3_; have GW191 := n4_; have GE191 := n5_; have NB187_191 := n6_; have NB191_187 := n7_; have NB188_191 := n8_; have NB191_188 := n9_; clear n0_ n1_ n2_ n3_ n4_ n5_ n6_ n7_ n8_ n9_; clear hb hbox hg; have hnb34 := NB191_187.out; have hnc34 := NB187_191.out; have hnb35 := NB191_188.out; have hnc35 := NB188_191.out; have hcz36_0 : w33.cell? ⟨gb191, 0, none⟩ = some (.int .i64 0) := (blk_cell BK191.out 0).trans rfl; have hcz36_1 : w33.cell? ⟨gb191, 1, none⟩ = some (.int .i64 0) := (blk_cell BK191.out 1).trans rfl; have hcz36_2 : w33.cell? ⟨gb191, 2, none⟩ = some (.string (⟨#[]⟩ : ByteArray)) := (blk_cell BK191.out 2).trans rfl; have hfz36_0 := blk_frozen BK191.out 0; have hfz36_1 := blk_frozen BK191.out 1; have hfz36_2 := blk_frozen BK191.out 2; have hcz37_0 : w33.cell? ⟨gb188, 0, none⟩ = some (.int .i64 a1_0) := (blk_cell BK188.out 0).trans rfl; have hcz37_1 : w33.cell? ⟨gb188, 1, none⟩ = some (.int .i64 a1_1) := (blk_cell BK188.out 1).trans rfl; have hcz37_2 : w33.cell? ⟨gb188, 2, none⟩ = some (.string a1_2) := (blk_cell BK188.out 2).trans rfl; have hfz37_0 := blk_frozen BK188.out 0; have hfz37_1 := blk_frozen BK188.out 1; have hfz37_2 := blk_frozen BK188.out 2) | (go_at_call 28; (with_reducible refine (rosetteref04_Compare.calls kj4 a1_0 a1_1 a1_2 a0_2 a0_3 a0_4 t192 _ A19.out).mono ?_); rintro e w38 ⟨rfl, hb⟩; have n0_ := Aside0.mk (blk_below (g := gb187) (o := .cells #[.string a0_0, .int .i64 a0_1, .int .i64 a0_2, .int .i64 a0_3, .string a0_4] 25 (0, 0)) (by (with_reducible repeat (first | refine blk_drewN ?_ _ | refine blk_drew ?_ | refine blk_alloc ?_ _)); refine blk_far ?_ NB187_191.out _; (with_reducible repeat (first | refine blk_drewN ?_ _ | refine blk_drew ?_ | refine blk_alloc ?_ _)); refine blk_far ?_ NB187_191.out _; (with_reducible repeat (first | refine blk_drewN ?_ _ | refine blk_drew ?_ | refine blk_alloc ?_ _)); refine blk_far ?_ NB187_191.out _; (with_reducible repeat (first | refine blk_drewN ?_ _ | refine blk_drew ?_ | refine blk_alloc ?_ _)); exact BK187.out) hb); have n1_ := Aside0.mk (blk_below (g := gb188) (o := .cells #[.int .i64 a1_0, .int .i64 a1_1, .string a1_2] 23 (0, 0)) (by (with_reducible repeat (first | refine blk_drewN ?_ _ | refine blk_drew ?_ | refine blk_alloc ?_ _)); refine blk_far ?_ NB188_191.out _; (with_reducible repeat (first | refine blk_drewN ?_ _ | refine blk_drew ?_ | refine blk_alloc ?_ _)); refine blk_far ?_ NB188_191.out _; (with_reducible repeat (first | refine blk_drewN ?_ _ | refine blk_drew ?_ | refine blk_alloc ?_ _)); refine blk_far ?_ NB188_191.out _; (with_reducible repeat (first | refine blk_drewN ?_ _ | refine blk_drew ?_ | refine blk_alloc ?_ _)); exact BK188.out) hb); have n2_ := Aside0.mk (blk_below (g := gb191) (o := .cells #[.int .i64 a0_2, .int .i64 a0_3, .string a0_4] 23 (0, 0)) (by (with_reducible repeat (first | refine blk_drewN ?_ _ | refine blk_drew ?_ | refine blk_alloc ?_ _)); refine blk_put (cs := #[.int .i64 a0_2, .int .i64 a0_3, .string (⟨#[]⟩ : ByteArray)]) ?_ 2 _ rfl; (with_reducible repeat (first | refine blk_drewN ?_ _ | refine blk_drew ?_ | refine blk_alloc ?_ _)); refine blk_put (cs := #[.int .i64 a0_2, .int .i64 0, .string (⟨#[]⟩ : ByteArray)]) ?_ 1 _ rfl; (with_reducible repeat (first | refine blk_drewN ?_ _ | refine blk_drew ?_ | refine blk_alloc ?_ _)); refine blk_put (cs := #[.int .i64 0, .int .i64 0, .string (⟨#[]⟩ : ByteArray)]) ?_ 0 _ rfl; (with_reducible repeat (first | refine blk_drewN ?_ _ | refine blk_drew ?_ | refine blk_alloc ?_ _)); exact BK191.out) hb); have n3_ := Aside0.mk (below_step (by repeat (first | (with_reducible first | exact HB.out | apply below_alloc | apply pw_below_drewN | apply below_drew1 | refine below_set ?_ GE187.out | refine below_set ?_ GE188.out | refine below_set ?_ GE191.out) | exact HB.out)) hb); clear BK187; clear BK188; clear BK191; clear HB; have BK187 := n0_; have BK188 := n1_; have BK191 := n2_; have HB := n3_; clear n0_ n1_ n2_ n3_; (try clear hb); (try clear hb2); (try clear hk); (try clear hi); have hcz39_0 : w38.cell? ⟨gb187, 0, none⟩ = some (.string a0_0) := (blk_cell BK187.out 0).trans rfl; have hcz39_1 : w38.cell? ⟨gb187, 1, none⟩ = some (.int .i64 a0_1) := (blk_cell BK187.out 1).trans rfl; have hcz39_2 : w38.cell? ⟨gb187, 2, none⟩ = some (.int .i64 a0_2) := (blk_cell BK187.out 2).trans rfl; have hcz39_3 : w38.cell? ⟨gb187, 3, none⟩ = some (.int .i64 a0_3) := (blk_cell BK187.out 3).trans rfl; have hcz39_4 : w38.cell? ⟨gb187, 4, none⟩ = some (.string a0_4) := (blk_cell BK187.out 4).trans rfl; have hfz39_0 := blk_frozen BK187.out 0; have hfz39_1 := blk_frozen BK187.out 1; have hfz39_2 := blk_frozen BK187.out 2; have hfz39_3 := blk_frozen BK187.out 3; have hfz39_4 := blk_frozen BK187.out 4))
                go_ret
                exact ⟨by first | rfl | (simp [errW_none, errW_some] <;> rfl) | (simp [*, errW_none, errW_some] <;> rfl), by repeat (first | (with_reducible first | exact HB.out | apply below_alloc | apply pw_below_drewN | apply below_drew1 | refine below_set ?_ GE187.out | refine below_set ?_ GE188.out | refine below_set ?_ GE191.out) | exact HB.out)⟩
              · rw [if_neg c30] at H
                have c30b0 : (a0_1 == 2) = false := beq_eq_false_iff_ne.mpr c30
                have c30b1 : (a0_1 != 2) = true := bne_iff_ne.mpr c30
                by_cases c40 : a0_1 = 3
                · rw [if_pos c40] at H
                  have c40b0 : (a0_1 == 3) = true := beq_iff_eq.mpr c40
                  have c40b1 : (a0_1 != 3) = false := bne_eq_false_iff_eq.mpr c40
                  clear c40
                  obtain rfl := Option.some.inj H
                  have hnb41 := NB187_188.out
                  have hnc41 := NB188_187.out
                  have hcz42_0 : wc.cell? ⟨gb187, 0, none⟩ = some (.string a0_0) := (blk_cell BK187.out 0).trans rfl
                  have hcz42_1 : wc.cell? ⟨gb187, 1, none⟩ = some (.int .i64 a0_1) := (blk_cell BK187.out 1).trans rfl
                  have hcz42_2 : wc.cell? ⟨gb187, 2, none⟩ = some (.int .i64 a0_2) := (blk_cell BK187.out 2).trans rfl
                  have hcz42_3 : wc.cell? ⟨gb187, 3, none⟩ = some (.int .i64 a0_3) := (blk_cell BK187.out 3).trans rfl
                  have hcz42_4 : wc.cell? ⟨gb187, 4, none⟩ = some (.string a0_4) := (blk_cell BK187.out 4).trans rfl
                  have hfz42_0 := blk_frozen BK187.out 0
                  have hfz42_1 := blk_frozen BK187.out 1
                  have hfz42_2 := blk_frozen BK187.out 2
                  have hfz42_3 := blk_frozen BK187.out 3
                  have hfz42_4 := blk_frozen BK187.out 4
                  go_wp2_with (first | ((with_reducible refine gate_dst (N := 7) rfl ?_); (try (refine gate_guard (by rfl) ?_; dsimp only)); refine box_event ?hg (N := 7) ?hd (cs := #[.int .i64 0, .int .i64 0, .string (⟨#[]⟩ : ByteArray)]) (t := 23) ?hr ?_; (case hd => rfl); (case hg => rfl); (case hr => first | (go_simp; done) | (go_simp; rfl)); intro gb191 hg w43 hbox hb; have n0_ := Aside0.mk (blk_below (g := gb187) (o := .cells #[.string a0_0, .int .i64 a0_1, .int .i64 a0_2, .int .i64 a0_3, .string a0_4] 25 (0, 0)) (by (with_reducible repeat (first | refine blk_drewN ?_ _ | refine blk_drew ?_ | refine blk_alloc ?_ _)); exact BK187.out) hb); have n1_ := Aside0.mk (blk_below (g := gb188) (o := .cells #[.int .i64 a1_0, .int .i64 a1_1, .string a1_2] 23 (0, 0)) (by (with_reducible repeat (first | refine blk_drewN ?_ _ | refine blk_drew ?_ | refine blk_alloc ?_ _)); exact BK188.out) hb); have n2_ := Aside0.mk (below_step (by repeat (first | (with_reducible first | exact HB.out | apply below_alloc | apply pw_below_drewN | apply below_drew1 | refine below_set ?_ GE187.out | refine below_set ?_ GE188.out) | exact HB.out)) hb); have n3_ := Aside0.mk (hbox); have n4_ := Aside0.mk ((by rw [hg]; exact (below_size (by repeat (first | (with_reducible first | exact HB.out | apply below_alloc | apply pw_below_drewN | apply below_drew1 | refine below_set ?_ GE187.out | refine below_set ?_ GE188.out) | exact HB.out))) : w.heap.size ≤ gb191)); have n5_ := Aside0.mk ((by rw [hg]; exact (below_size (by repeat (first | (with_reducible first | exact HB.out | apply below_alloc | apply pw_below_drewN | apply below_drew1 | refine below_set ?_ GE187.out | refine below_set ?_ GE188.out) | exact HB.out))) : w.heap.size ≤ gb191)); have n6_ := Aside0.mk ((by rw [hg]; exact Nat.ne_of_lt (blk_lt (g := gb187) (o := .cells #[.string a0_0, .int .i64 a0_1, .int .i64 a0_2, .int .i64 a0_3, .string a0_4] 25 (0, 0)) (by (with_reducible repeat (first | refine blk_drewN ?_ _ | refine blk_drew ?_ | refine blk_alloc ?_ _)); exact BK187.out)) : gb187 ≠ gb191)); have n7_ := Aside0.mk ((by rw [hg]; exact Nat.ne_of_gt (blk_lt (g := gb187) (o := .cells #[.string a0_0, .int .i64 a0_1, .int .i64 a0_2, .int .i64 a0_3, .string a0_4] 25 (0, 0)) (by (with_reducible repeat (first | refine blk_drewN ?_ _ | refine blk_drew ?_ | refine blk_alloc ?_ _)); exact BK187.out)) : gb191 ≠ gb187)); have n8_ := Aside0.mk ((by rw [hg]; exact Nat.ne_of_lt (blk_lt (g := gb188) (o := .cells #[.int .i64 a1_0, .int .i64 a1_1, .string a1_2] 23 (0, 0)) (by (with_reducible repeat (first | refine blk_drewN ?_ _ | refine blk_drew ?_ | refine blk_alloc ?_ _)); exact BK188.out)) : gb188 ≠ gb191)); have n9_ := Aside0.mk ((by rw [hg]; exact Nat.ne_of_gt (blk_lt (g := gb188) (o := .cells #[.int .i64 a1_0, .int .i64 a1_1, .string a1_2] 23 (0, 0)) (by (with_reducible repeat (first | refine blk_drewN ?_ _ | refine blk_drew ?_ | refine blk_alloc ?_ _)); exact BK188.out)) : gb191 ≠ gb188)); clear BK187; clear BK188; clear HB; have BK187 := n0_; have BK188 := n1_; have HB := n2_; have BK191 := n3_; have GW191 := n4_; have GE191 := n5_; have NB187_191 := n6_; have NB191_187 := n7_; have NB188_191 := n8_; have NB191_188 := n9_; clear n0_ n1_ n2_ n3_ n4_ n5_ n6_ n7_ n8_ n9_; clear hb hbox hg; have hnb44 := NB191_187.out; have hnc44 := NB187_191.out; have hnb45 := NB191_188.out; have hnc45 := NB188_191.out; have hcz46_0 : w43.cell? ⟨gb191, 0, none⟩ = some (.int .i64 0) := (blk_cell BK191.out 0).trans rfl; have hcz46_1 : w43.cell? ⟨gb191, 1, none⟩ = some (.int .i64 0) := (blk_cell BK191.out 1).trans rfl; have hcz46_2 : w43.cell? ⟨gb191, 2, none⟩ = some (.string (⟨#[]⟩ : ByteArray)) := (blk_cell BK191.out 2).trans rfl; have hfz46_0 := blk_frozen BK191.out 0; have hfz46_1 := blk_frozen BK191.out 1; have hfz46_2 := blk_frozen BK191.out 2; have hcz47_0 : w43.cell? ⟨gb188, 0, none⟩ = some (.int .i64 a1_0) := (blk_cell BK188.out 0).trans rfl; have hcz47_1 : w43.cell? ⟨gb188, 1, none⟩ = some (.int .i64 a1_1) := (blk_cell BK188.out 1).trans rfl; have hcz47_2 : w43.cell? ⟨gb188, 2, none⟩ = some (.string a1_2) := (blk_cell BK188.out 2).trans rfl; have hfz47_0 := blk_frozen BK188.out 0; have hfz47_1 := blk_frozen BK188.out 1; have hfz47_2 := blk_frozen BK188.out 2) | (go_at_call 28; (with_reducible refine (rosetteref04_Compare.calls kj4 a1_0 a1_1 a1_2 a0_2 a0_3 a0_4 t192 _ A19.out).mono ?_); rintro e w48 ⟨rfl, hb⟩; have n0_ := Aside0.mk (blk_below (g := gb187) (o := .cells #[.string a0_0, .int .i64 a0_1, .int .i64 a0_2, .int .i64 a0_3, .string a0_4] 25 (0, 0)) (by (with_reducible repeat (first | refine blk_drewN ?_ _ | refine blk_drew ?_ | refine blk_alloc ?_ _)); refine blk_far ?_ NB187_191.out _; (with_reducible repeat (first | refine blk_drewN ?_ _ | refine blk_drew ?_ | refine blk_alloc ?_ _)); refine blk_far ?_ NB187_191.out _; (with_reducible repeat (first | refine blk_drewN ?_ _ | refine blk_drew ?_ | refine blk_alloc ?_ _)); refine blk_far ?_ NB187_191.out _; (with_reducible repeat (first | refine blk_drewN ?_ _ | refine blk_drew ?_ | refine blk_alloc ?_ _)); exact BK187.out) hb); have n1_ := Aside0.mk (blk_below (g := gb188) (o := .cells #[.int .i64 a1_0, .int .i64 a1_1, .string a1_2] 23 (0, 0)) (by (with_reducible repeat (first | refine blk_drewN ?_ _ | refine blk_drew ?_ | refine blk_alloc ?_ _)); refine blk_far ?_ NB188_191.out _; (with_reducible repeat (first | refine blk_drewN ?_ _ | refine blk_drew ?_ | refine blk_alloc ?_ _)); refine blk_far ?_ NB188_191.out _; (with_reducible repeat (first | refine blk_drewN ?_ _ | refine blk_drew ?_ | refine blk_alloc ?_ _)); refine blk_far ?_ NB188_191.out _; (with_reducible repeat (first | refine blk_drewN ?_ _ | refine blk_drew ?_ | refine blk_alloc ?_ _)); exact BK188.out) hb); have n2_ := Aside0.mk (blk_below (g := gb191) (o := .cells #[.int .i64 a0_2, .int .i64 a0_3, .string a0_4] 23 (0, 0)) (by (with_reducible repeat (first | refine blk_drewN ?_ _ | refine blk_drew ?_ | refine blk_alloc ?_ _)); refine blk_put (cs := #[.int .i64 a0_2, .int .i64 a0_3, .string (⟨#[]⟩ : ByteArray)]) ?_ 2 _ rfl; (with_reducible repeat (first | refine blk_drewN ?_ _ | refine blk_drew ?_ | refine blk_alloc ?_ _)); refine blk_put (cs := #[.int .i64 a0_2, .int .i64 0, .string (⟨#[]⟩ : ByteArray)]) ?_ 1 _ rfl; (with_reducible repeat (first | refine blk_drewN ?_ _ | refine blk_drew ?_ | refine blk_alloc ?_ _)); refine blk_put (cs := #[.int .i64 0, .int .i64 0, .string (⟨#[]⟩ : ByteArray)]) ?_ 0 _ rfl; (with_reducible repeat (first | refine blk_drewN ?_ _ | refine blk_drew ?_ | refine blk_alloc ?_ _)); exact BK191.out) hb); have n3_ := Aside0.mk (below_step (by repeat (first | (with_reducible first | exact HB.out | apply below_alloc | apply pw_below_drewN | apply below_drew1 | refine below_set ?_ GE187.out | refine below_set ?_ GE188.out | refine below_set ?_ GE191.out) | exact HB.out)) hb); clear BK187; clear BK188; clear BK191; clear HB; have BK187 := n0_; have BK188 := n1_; have BK191 := n2_; have HB := n3_; clear n0_ n1_ n2_ n3_; (try clear hb); (try clear hb2); (try clear hk); (try clear hi); have hcz49_0 : w48.cell? ⟨gb187, 0, none⟩ = some (.string a0_0) := (blk_cell BK187.out 0).trans rfl; have hcz49_1 : w48.cell? ⟨gb187, 1, none⟩ = some (.int .i64 a0_1) := (blk_cell BK187.out 1).trans rfl; have hcz49_2 : w48.cell? ⟨gb187, 2, none⟩ = some (.int .i64 a0_2) := (blk_cell BK187.out 2).trans rfl; have hcz49_3 : w48.cell? ⟨gb187, 3, none⟩ = some (.int .i64 a0_3) := (blk_cell BK187.out 3).trans rfl; have hcz49_4 : w48.cell? ⟨gb187, 4, none⟩ = some (.string a0_4) := (blk_cell BK187.out 4).trans rfl; have hfz49_0 := blk_frozen BK187.out 0; have hfz49_1 := blk_frozen BK187.out 1; have hfz49_2 := blk_frozen BK187.out 2; have hfz49_3 := blk_frozen BK187.out 3; have hfz49_4 := blk_frozen BK187.out 4))
                  go_ret
                  exact ⟨by first | rfl | (simp [errW_none, errW_some] <;> rfl) | (simp [*, errW_none, errW_some] <;> rfl), by repeat (first | (with_reducible first | exact HB.out | apply below_alloc | apply pw_below_drewN | apply below_drew1 | refine below_set ?_ GE187.out | refine below_set ?_ GE188.out | refine below_set ?_ GE191.out) | exact HB.out)⟩
                · rw [if_neg c40] at H
                  have c40b0 : (a0_1 == 3) = false := beq_eq_false_iff_ne.mpr c40
                  have c40b1 : (a0_1 != 3) = true := bne_iff_ne.mpr c40
                  by_cases c50 : a0_1 = 4
                  · rw [if_pos c50] at H
                    have c50b0 : (a0_1 == 4) = true := beq_iff_eq.mpr c50
                    have c50b1 : (a0_1 != 4) = false := bne_eq_false_iff_eq.mpr c50
                    clear c50
                    obtain rfl := Option.some.inj H
                    have hnb51 := NB187_188.out
                    have hnc51 := NB188_187.out
                    have hcz52_0 : wc.cell? ⟨gb187, 0, none⟩ = some (.string a0_0) := (blk_cell BK187.out 0).trans rfl
                    have hcz52_1 : wc.cell? ⟨gb187, 1, none⟩ = some (.int .i64 a0_1) := (blk_cell BK187.out 1).trans rfl
                    have hcz52_2 : wc.cell? ⟨gb187, 2, none⟩ = some (.int .i64 a0_2) := (blk_cell BK187.out 2).trans rfl
                    have hcz52_3 : wc.cell? ⟨gb187, 3, none⟩ = some (.int .i64 a0_3) := (blk_cell BK187.out 3).trans rfl
                    have hcz52_4 : wc.cell? ⟨gb187, 4, none⟩ = some (.string a0_4) := (blk_cell BK187.out 4).trans rfl
                    have hfz52_0 := blk_frozen BK187.out 0
                    have hfz52_1 := blk_frozen BK187.out 1
                    have hfz52_2 := blk_frozen BK187.out 2
                    have hfz52_3 := blk_frozen BK187.out 3
                    have hfz52_4 := blk_frozen BK187.out 4
                    go_wp2_with (first | ((with_reducible refine gate_dst (N := 7) rfl ?_); (try (refine gate_guard (by rfl) ?_; dsimp only)); refine box_event ?hg (N := 7) ?hd (cs := #[.int .i64 0, .int .i64 0, .string (⟨#[]⟩ : ByteArray)]) (t := 23) ?hr ?_; (case hd => rfl); (case hg => rfl); (case hr => first | (go_simp; done) | (go_simp; rfl)); intro gb191 hg w53 hbox hb; have n0_ := Aside0.mk (blk_below (g := gb187) (o := .cells #[.string a0_0, .int .i64 a0_1, .int .i64 a0_2, .int .i64 a0_3, .string a0_4] 25 (0, 0)) (by (with_reducible repeat (first | refine blk_drewN ?_ _ | refine blk_drew ?_ | refine blk_alloc ?_ _)); exact BK187.out) hb); have n1_ := Aside0.mk (blk_below (g := gb188) (o := .cells #[.int .i64 a1_0, .int .i64 a1_1, .string a1_2] 23 (0, 0)) (by (with_reducible repeat (first | refine blk_drewN ?_ _ | refine blk_drew ?_ | refine blk_alloc ?_ _)); exact BK188.out) hb); have n2_ := Aside0.mk (below_step (by repeat (first | (with_reducible first | exact HB.out | apply below_alloc | apply pw_below_drewN | apply below_drew1 | refine below_set ?_ GE187.out | refine below_set ?_ GE188.out) | exact HB.out)) hb); have n3_ := Aside0.mk (hbox); have n4_ := Aside0.mk ((by rw [hg]; exact (below_size (by repeat (first | (with_reducible first | exact HB.out | apply below_alloc | apply pw_below_drewN | apply below_drew1 | refine below_set ?_ GE187.out | refine below_set ?_ GE188.out) | exact HB.out))) : w.heap.size ≤ gb191)); have n5_ := Aside0.mk ((by rw [hg]; exact (below_size (by repeat (first | (with_reducible first | exact HB.out | apply below_alloc | apply pw_below_drewN | apply below_drew1 | refine below_set ?_ GE187.out | refine below_set ?_ GE188.out) | exact HB.out))) : w.heap.size ≤ gb191)); have n6_ := Aside0.mk ((by rw [hg]; exact Nat.ne_of_lt (blk_lt (g := gb187) (o := .cells #[.string a0_0, .int .i64 a0_1, .int .i64 a0_2, .int .i64 a0_3, .string a0_4] 25 (0, 0)) (by (with_reducible repeat (first | refine blk_drewN ?_ _ | refine blk_drew ?_ | refine blk_alloc ?_ _)); exact BK187.out)) : gb187 ≠ gb191)); have n7_ := Aside0.mk ((by rw [hg]; exact Nat.ne_of_gt (blk_lt (g := gb187) (o := .cells #[.string a0_0, .int .i64 a0_1, .int .i64 a0_2, .int .i64 a0_3, .string a0_4] 25 (0, 0)) (by (with_reducible repeat (first | refine blk_drewN ?_ _ | refine blk_drew ?_ | refine blk_alloc ?_ _)); exact BK187.out)) : gb191 ≠ gb187)); have n8_ := Aside0.mk ((by rw [hg]; exact Nat.ne_of_lt (blk_lt (g := gb188) (o := .cells #[.int .i64 a1_0, .int .i64 a1_1, .string a1_2] 23 (0, 0)) (by (with_reducible repeat (first | refine blk_drewN ?_ _ | refine blk_drew ?_ | refine blk_alloc ?_ _)); exact BK188.out)) : gb188 ≠ gb191)); have n9_ := Aside0.mk ((by rw [hg]; exact Nat.ne_of_gt (blk_lt (g := gb188) (o := .cells #[.int .i64 a1_0, .int .i64 a1_1, .string a1_2] 23 (0, 0)) (by (with_reducible repeat (first | refine blk_drewN ?_ _ | refine blk_drew ?_ | refine blk_alloc ?_ _)); exact BK188.out)) : gb191 ≠ gb188)); clear BK187; clear BK188; clear HB; have BK187 := n0_; have BK188 := n1_; have HB := n2_; have BK191 := n3_; have GW191 := n4_; have GE191 := n5_; have NB187_191 := n6_; have NB191_187 := n7_; have NB188_191 := n8_; have NB191_188 := n9_; clear n0_ n1_ n2_ n3_ n4_ n5_ n6_ n7_ n8_ n9_; clear hb hbox hg; have hnb54 := NB191_187.out; have hnc54 := NB187_191.out; have hnb55 := NB191_188.out; have hnc55 := NB188_191.out; have hcz56_0 : w53.cell? ⟨gb191, 0, none⟩ = some (.int .i64 0) := (blk_cell BK191.out 0).trans rfl; have hcz56_1 : w53.cell? ⟨gb191, 1, none⟩ = some (.int .i64 0) := (blk_cell BK191.out 1).trans rfl; have hcz56_2 : w53.cell? ⟨gb191, 2, none⟩ = some (.string (⟨#[]⟩ : ByteArray)) := (blk_cell BK191.out 2).trans rfl; have hfz56_0 := blk_frozen BK191.out 0; have hfz56_1 := blk_frozen BK191.out 1; have hfz56_2 := blk_frozen BK191.out 2; have hcz57_0 : w53.cell? ⟨gb188, 0, none⟩ = some (.int .i64 a1_0) := (blk_cell BK188.out 0).trans rfl; have hcz57_1 : w53.cell? ⟨gb188, 1, none⟩ = some (.int .i64 a1_1) := (blk_cell BK188.out 1).trans rfl; have hcz57_2 : w53.cell? ⟨gb188, 2, none⟩ = some (.string a1_2) := (blk_cell BK188.out 2).trans rfl; have hfz57_0 := blk_frozen BK188.out 0; have hfz57_1 := blk_frozen BK188.out 1; have hfz57_2 := blk_frozen BK188.out 2) | (go_at_call 28; (with_reducible refine (rosetteref04_Compare.calls kj4 a1_0 a1_1 a1_2 a0_2 a0_3 a0_4 t192 _ A19.out).mono ?_); rintro e w58 ⟨rfl, hb⟩; have n0_ := Aside0.mk (blk_below (g := gb187) (o := .cells #[.string a0_0, .int .i64 a0_1, .int .i64 a0_2, .int .i64 a0_3, .string a0_4] 25 (0, 0)) (by (with_reducible repeat (first | refine blk_drewN ?_ _ | refine blk_drew ?_ | refine blk_alloc ?_ _)); refine blk_far ?_ NB187_191.out _; (with_reducible repeat (first | refine blk_drewN ?_ _ | refine blk_drew ?_ | refine blk_alloc ?_ _)); refine blk_far ?_ NB187_191.out _; (with_reducible repeat (first | refine blk_drewN ?_ _ | refine blk_drew ?_ | refine blk_alloc ?_ _)); refine blk_far ?_ NB187_191.out _; (with_reducible repeat (first | refine blk_drewN ?_ _ | refine blk_drew ?_ | refine blk_alloc ?_ _)); exact BK187.out) hb); have n1_ := Aside0.mk (blk_below (g := gb188) (o := .cells #[.int .i64 a1_0, .int .i64 a1_1, .string a1_2] 23 (0, 0)) (by (with_reducible repeat (first | refine blk_drewN ?_ _ | refine blk_drew ?_ | refine blk_alloc ?_ _)); refine blk_far ?_ NB188_191.out _; (with_reducible repeat (first | refine blk_drewN ?_ _ | refine blk_drew ?_ | refine blk_alloc ?_ _)); refine blk_far ?_ NB188_191.out _; (with_reducible repeat (first | refine blk_drewN ?_ _ | refine blk_drew ?_ | refine blk_alloc ?_ _)); refine blk_far ?_ NB188_191.out _; (with_reducible repeat (first | refine blk_drewN ?_ _ | refine blk_drew ?_ | refine blk_alloc ?_ _)); exact BK188.out) hb); have n2_ := Aside0.mk (blk_below (g := gb191) (o := .cells #[.int .i64 a0_2, .int .i64 a0_3, .string a0_4] 23 (0, 0)) (by (with_reducible repeat (first | refine blk_drewN ?_ _ | refine blk_drew ?_ | refine blk_alloc ?_ _)); refine blk_put (cs := #[.int .i64 a0_2, .int .i64 a0_3, .string (⟨#[]⟩ : ByteArray)]) ?_ 2 _ rfl; (with_reducible repeat (first | refine blk_drewN ?_ _ | refine blk_drew ?_ | refine blk_alloc ?_ _)); refine blk_put (cs := #[.int .i64 a0_2, .int .i64 0, .string (⟨#[]⟩ : ByteArray)]) ?_ 1 _ rfl; (with_reducible repeat (first | refine blk_drewN ?_ _ | refine blk_drew ?_ | refine blk_alloc ?_ _)); refine blk_put (cs := #[.int .i64 0, .int .i64 0, .string (⟨#[]⟩ : ByteArray)]) ?_ 0 _ rfl; (with_reducible repeat (first | refine blk_drewN ?_ _ | refine blk_drew ?_ | refine blk_alloc ?_ _)); exact BK191.out) hb); have n3_ := Aside0.mk (below_step (by repeat (first | (with_reducible first | exact HB.out | apply below_alloc | apply pw_below_drewN | apply below_drew1 | refine below_set ?_ GE187.out | refine below_set ?_ GE188.out | refine below_set ?_ GE191.out) | exact HB.out)) hb); clear BK187; clear BK188; clear BK191; clear HB; have BK187 := n0_; have BK188 := n1_; have BK191 := n2_; have HB := n3_; clear n0_ n1_ n2_ n3_; (try clear hb); (try clear hb2); (try clear hk); (try clear hi); have hcz59_0 : w58.cell? ⟨gb187, 0, none⟩ = some (.string a0_0) := (blk_cell BK187.out 0).trans rfl; have hcz59_1 : w58.cell? ⟨gb187, 1, none⟩ = some (.int .i64 a0_1) := (blk_cell BK187.out 1).trans rfl; have hcz59_2 : w58.cell? ⟨gb187, 2, none⟩ = some (.int .i64 a0_2) := (blk_cell BK187.out 2).trans rfl; have hcz59_3 : w58.cell? ⟨gb187, 3, none⟩ = some (.int .i64 a0_3) := (blk_cell BK187.out 3).trans rfl; have hcz59_4 : w58.cell? ⟨gb187, 4, none⟩ = some (.string a0_4) := (blk_cell BK187.out 4).trans rfl; have hfz59_0 := blk_frozen BK187.out 0; have hfz59_1 := blk_frozen BK187.out 1; have hfz59_2 := blk_frozen BK187.out 2; have hfz59_3 := blk_frozen BK187.out 3; have hfz59_4 := blk_frozen BK187.out 4))
                    go_ret
                    exact ⟨by first | rfl | (simp [errW_none, errW_some] <;> rfl) | (simp [*, errW_none, errW_some] <;> rfl), by repeat (first | (with_reducible first | exact HB.out | apply below_alloc | apply pw_below_drewN | apply below_drew1 | refine below_set ?_ GE187.out | refine below_set ?_ GE188.out | refine below_set ?_ GE191.out) | exact HB.out)⟩
                  · rw [if_neg c50] at H
                    have c50b0 : (a0_1 == 4) = false := beq_eq_false_iff_ne.mpr c50
                    have c50b1 : (a0_1 != 4) = true := bne_iff_ne.mpr c50
                    by_cases c60 : a0_1 = 5
                    · rw [if_pos c60] at H
                      have c60b0 : (a0_1 == 5) = true := beq_iff_eq.mpr c60
                      have c60b1 : (a0_1 != 5) = false := bne_eq_false_iff_eq.mpr c60
                      clear c60
                      obtain rfl := Option.some.inj H
                      have hnb61 := NB187_188.out
                      have hnc61 := NB188_187.out
                      have hcz62_0 : wc.cell? ⟨gb187, 0, none⟩ = some (.string a0_0) := (blk_cell BK187.out 0).trans rfl
                      have hcz62_1 : wc.cell? ⟨gb187, 1, none⟩ = some (.int .i64 a0_1) := (blk_cell BK187.out 1).trans rfl
                      have hcz62_2 : wc.cell? ⟨gb187, 2, none⟩ = some (.int .i64 a0_2) := (blk_cell BK187.out 2).trans rfl
                      have hcz62_3 : wc.cell? ⟨gb187, 3, none⟩ = some (.int .i64 a0_3) := (blk_cell BK187.out 3).trans rfl
                      have hcz62_4 : wc.cell? ⟨gb187, 4, none⟩ = some (.string a0_4) := (blk_cell BK187.out 4).trans rfl
                      have hfz62_0 := blk_frozen BK187.out 0
                      have hfz62_1 := blk_frozen BK187.out 1
                      have hfz62_2 := blk_frozen BK187.out 2
                      have hfz62_3 := blk_frozen BK187.out 3
                      have hfz62_4 := blk_frozen BK187.out 4
                      go_wp2_with (first | ((with_reducible refine gate_dst (N := 7) rfl ?_); (try (refine gate_guard (by rfl) ?_; dsimp only)); refine box_event ?hg (N := 7) ?hd (cs := #[.int .i64 0, .int .i64 0, .string (⟨#[]⟩ : ByteArray)]) (t := 23) ?hr ?_; (case hd => rfl); (case hg => rfl); (case hr => first | (go_simp; done) | (go_simp; rfl)); intro gb191 hg w63 hbox hb; have n0_ := Aside0.mk (blk_below (g := gb187) (o := .cells #[.string a0_0, .int .i64 a0_1, .int .i64 a0_2, .int .i64 a0_3, .string a0_4] 25 (0, 0)) (by (with_reducible repeat (first | refine blk_drewN ?_ _ | refine blk_drew ?_ | refine blk_alloc ?_ _)); exact BK187.out) hb); have n1_ := Aside0.mk (blk_below (g := gb188) (o := .cells #[.int .i64 a1_0, .int .i64 a1_1, .string a1_2] 23 (0, 0)) (by (with_reducible repeat (first | refine blk_drewN ?_ _ | refine blk_drew ?_ | refine blk_alloc ?_ _)); exact BK188.out) hb); have n2_ := Aside0.mk (below_step (by repeat (first | (with_reducible first | exact HB.out | apply below_alloc | apply pw_below_drewN | apply below_drew1 | refine below_set ?_ GE187.out | refine below_set ?_ GE188.out) | exact HB.out)) hb); have n3_ := Aside0.mk (hbox); have n4_ := Aside0.mk ((by rw [hg]; exact (below_size (by repeat (first | (with_reducible first | exact HB.out | apply below_alloc | apply pw_below_drewN | apply below_drew1 | refine below_set ?_ GE187.out | refine below_set ?_ GE188.out) | exact HB.out))) : w.heap.size ≤ gb191)); have n5_ := Aside0.mk ((by rw [hg]; exact (below_size (by repeat (first | (with_reducible first | exact HB.out | apply below_alloc | apply pw_below_drewN | apply below_drew1 | refine below_set ?_ GE187.out | refine below_set ?_ GE188.out) | exact HB.out))) : w.heap.size ≤ gb191)); have n6_ := Aside0.mk ((by rw [hg]; exact Nat.ne_of_lt (blk_lt (g := gb187) (o := .cells #[.string a0_0, .int .i64 a0_1, .int .i64 a0_2, .int .i64 a0_3, .string a0_4] 25 (0, 0)) (by (with_reducible repeat (first | refine blk_drewN ?_ _ | refine blk_drew ?_ | refine blk_alloc ?_ _)); exact BK187.out)) : gb187 ≠ gb191)); have n7_ := Aside0.mk ((by rw [hg]; exact Nat.ne_of_gt (blk_lt (g := gb187) (o := .cells #[.string a0_0, .int .i64 a0_1, .int .i64 a0_2, .int .i64 a0_3, .string a0_4] 25 (0, 0)) (by (with_reducible repeat (first | refine blk_drewN ?_ _ | refine blk_drew ?_ | refine blk_alloc ?_ _)); exact BK187.out)) : gb191 ≠ gb187)); have n8_ := Aside0.mk ((by rw [hg]; exact Nat.ne_of_lt (blk_lt (g := gb188) (o := .cells #[.int .i64 a1_0, .int .i64 a1_1, .string a1_2] 23 (0, 0)) (by (with_reducible repeat (first | refine blk_drewN ?_ _ | refine blk_drew ?_ | refine blk_alloc ?_ _)); exact BK188.out)) : gb188 ≠ gb191)); have n9_ := Aside0.mk ((by rw [hg]; exact Nat.ne_of_gt (blk_lt (g := gb188) (o := .cells #[.int .i64 a1_0, .int .i64 a1_1, .string a1_2] 23 (0, 0)) (by (with_reducible repeat (first | refine blk_drewN ?_ _ | refine blk_drew ?_ | refine blk_alloc ?_ _)); exact BK188.out)) : gb191 ≠ gb188)); clear BK187; clear BK188; clear HB; have BK187 := n0_; have BK188 := n1_; have HB := n2_; have BK191 := n3_; have GW191 := n4_; have GE191 := n5_; have NB187_191 := n6_; have NB191_187 := n7_; have NB188_191 := n8_; have NB191_188 := n9_; clear n0_ n1_ n2_ n3_ n4_ n5_ n6_ n7_ n8_ n9_; clear hb hbox hg; have hnb64 := NB191_187.out; have hnc64 := NB187_191.out; have hnb65 := NB191_188.out; have hnc65 := NB188_191.out; have hcz66_0 : w63.cell? ⟨gb191, 0, none⟩ = some (.int .i64 0) := (blk_cell BK191.out 0).trans rfl; have hcz66_1 : w63.cell? ⟨gb191, 1, none⟩ = some (.int .i64 0) := (blk_cell BK191.out 1).trans rfl; have hcz66_2 : w63.cell? ⟨gb191, 2, none⟩ = some (.string (⟨#[]⟩ : ByteArray)) := (blk_cell BK191.out 2).trans rfl; have hfz66_0 := blk_frozen BK191.out 0; have hfz66_1 := blk_frozen BK191.out 1; have hfz66_2 := blk_frozen BK191.out 2; have hcz67_0 : w63.cell? ⟨gb188, 0, none⟩ = some (.int .i64 a1_0) := (blk_cell BK188.out 0).trans rfl; have hcz67_1 : w63.cell? ⟨gb188, 1, none⟩ = some (.int .i64 a1_1) := (blk_cell BK188.out 1).trans rfl; have hcz67_2 : w63.cell? ⟨gb188, 2, none⟩ = some (.string a1_2) := (blk_cell BK188.out 2).trans rfl; have hfz67_0 := blk_frozen BK188.out 0; have hfz67_1 := blk_frozen BK188.out 1; have hfz67_2 := blk_frozen BK188.out 2) | (go_at_call 28; (with_reducible refine (rosetteref04_Compare.calls kj4 a1_0 a1_1 a1_2 a0_2 a0_3 a0_4 t192 _ A19.out).mono ?_); rintro e w68 ⟨rfl, hb⟩; have n0_ := Aside0.mk (blk_below (g := gb187) (o := .cells #[.string a0_0, .int .i64 a0_1, .int .i64 a0_2, .int .i64 a0_3, .string a0_4] 25 (0, 0)) (by (with_reducible repeat (first | refine blk_drewN ?_ _ | refine blk_drew ?_ | refine blk_alloc ?_ _)); refine blk_far ?_ NB187_191.out _; (with_reducible repeat (first | refine blk_drewN ?_ _ | refine blk_drew ?_ | refine blk_alloc ?_ _)); refine blk_far ?_ NB187_191.out _; (with_reducible repeat (first | refine blk_drewN ?_ _ | refine blk_drew ?_ | refine blk_alloc ?_ _)); refine blk_far ?_ NB187_191.out _; (with_reducible repeat (first | refine blk_drewN ?_ _ | refine blk_drew ?_ | refine blk_alloc ?_ _)); exact BK187.out) hb); have n1_ := Aside0.mk (blk_below (g := gb188) (o := .cells #[.int .i64 a1_0, .int .i64 a1_1, .string a1_2] 23 (0, 0)) (by (with_reducible repeat (first | refine blk_drewN ?_ _ | refine blk_drew ?_ | refine blk_alloc ?_ _)); refine blk_far ?_ NB188_191.out _; (with_reducible repeat (first | refine blk_drewN ?_ _ | refine blk_drew ?_ | refine blk_alloc ?_ _)); refine blk_far ?_ NB188_191.out _; (with_reducible repeat (first | refine blk_drewN ?_ _ | refine blk_drew ?_ | refine blk_alloc ?_ _)); refine blk_far ?_ NB188_191.out _; (with_reducible repeat (first | refine blk_drewN ?_ _ | refine blk_drew ?_ | refine blk_alloc ?_ _)); exact BK188.out) hb); have n2_ := Aside0.mk (blk_below (g := gb191) (o := .cells #[.int .i64 a0_2, .int .i64 a0_3, .string a0_4] 23 (0, 0)) (by (with_reducible repeat (first | refine blk_drewN ?_ _ | refine blk_drew ?_ | refine blk_alloc ?_ _)); refine blk_put (cs := #[.int .i64 a0_2, .int .i64 a0_3, .string (⟨#[]⟩ : ByteArray)]) ?_ 2 _ rfl; (with_reducible repeat (first | refine blk_drewN ?_ _ | refine blk_drew ?_ | refine blk_alloc ?_ _)); refine blk_put (cs := #[.int .i64 a0_2, .int .i64 0, .string (⟨#[]⟩ : ByteArray)]) ?_ 1 _ rfl; (with_reducible repeat (first | refine blk_drewN ?_ _ | refine blk_drew ?_ | refine blk_alloc ?_ _)); refine blk_put (cs := #[.int .i64 0, .int .i64 0, .string (⟨#[]⟩ : ByteArray)]) ?_ 0 _ rfl; (with_reducible repeat (first | refine blk_drewN ?_ _ | refine blk_drew ?_ | refine blk_alloc ?_ _)); exact BK191.out) hb); have n3_ := Aside0.mk (below_step (by repeat (first | (with_reducible first | exact HB.out | apply below_alloc | apply pw_below_drewN | apply below_drew1 | refine below_set ?_ GE187.out | refine below_set ?_ GE188.out | refine below_set ?_ GE191.out) | exact HB.out)) hb); clear BK187; clear BK188; clear BK191; clear HB; have BK187 := n0_; have BK188 := n1_; have BK191 := n2_; have HB := n3_; clear n0_ n1_ n2_ n3_; (try clear hb); (try clear hb2); (try clear hk); (try clear hi); have hcz69_0 : w68.cell? ⟨gb187, 0, none⟩ = some (.string a0_0) := (blk_cell BK187.out 0).trans rfl; have hcz69_1 : w68.cell? ⟨gb187, 1, none⟩ = some (.int .i64 a0_1) := (blk_cell BK187.out 1).trans rfl; have hcz69_2 : w68.cell? ⟨gb187, 2, none⟩ = some (.int .i64 a0_2) := (blk_cell BK187.out 2).trans rfl; have hcz69_3 : w68.cell? ⟨gb187, 3, none⟩ = some (.int .i64 a0_3) := (blk_cell BK187.out 3).trans rfl; have hcz69_4 : w68.cell? ⟨gb187, 4, none⟩ = some (.string a0_4) := (blk_cell BK187.out 4).trans rfl; have hfz69_0 := blk_frozen BK187.out 0; have hfz69_1 := blk_frozen BK187.out 1; have hfz69_2 := blk_frozen BK187.out 2; have hfz69_3 := blk_frozen BK187.out 3; have hfz69_4 := blk_frozen BK187.out 4))
                      go_ret
                      exact ⟨by first | rfl | (simp [errW_none, errW_some] <;> rfl) | (simp [*, errW_none, errW_some] <;> rfl), by repeat (first | (with_reducible first | exact HB.out | apply below_alloc | apply pw_below_drewN | apply below_drew1 | refine below_set ?_ GE187.out | refine below_set ?_ GE188.out | refine below_set ?_ GE191.out) | exact HB.out)⟩
                    · rw [if_neg c60] at H
                      have c60b0 : (a0_1 == 5) = false := beq_eq_false_iff_ne.mpr c60
                      have c60b1 : (a0_1 != 5) = true := bne_iff_ne.mpr c60
                      by_cases c70 : a0_1 = 6
                      · rw [if_pos c70] at H
                        have c70b0 : (a0_1 == 6) = true := beq_iff_eq.mpr c70
                        have c70b1 : (a0_1 != 6) = false := bne_eq_false_iff_eq.mpr c70
                        clear c70
                        obtain rfl := Option.some.inj H
                        have hnb71 := NB187_188.out
                        have hnc71 := NB188_187.out
                        have hcz72_0 : wc.cell? ⟨gb187, 0, none⟩ = some (.string a0_0) := (blk_cell BK187.out 0).trans rfl
                        have hcz72_1 : wc.cell? ⟨gb187, 1, none⟩ = some (.int .i64 a0_1) := (blk_cell BK187.out 1).trans rfl
                        have hcz72_2 : wc.cell? ⟨gb187, 2, none⟩ = some (.int .i64 a0_2) := (blk_cell BK187.out 2).trans rfl
                        have hcz72_3 : wc.cell? ⟨gb187, 3, none⟩ = some (.int .i64 a0_3) := (blk_cell BK187.out 3).trans rfl
                        have hcz72_4 : wc.cell? ⟨gb187, 4, none⟩ = some (.string a0_4) := (blk_cell BK187.out 4).trans rfl
                        have hfz72_0 := blk_frozen BK187.out 0
                        have hfz72_1 := blk_frozen BK187.out 1
                        have hfz72_2 := blk_frozen BK187.out 2
                        have hfz72_3 := blk_frozen BK187.out 3
                        have hfz72_4 := blk_frozen BK187.out 4
                        go_wp2_with (first | ((with_reducible refine gate_dst (N := 7) rfl ?_); (try (refine gate_guard (by rfl) ?_; dsimp only)); refine box_event ?hg (N := 7) ?hd (cs := #[.int .i64 0, .int .i64 0, .string (⟨#[]⟩ : ByteArray)]) (t := 23) ?hr ?_; (case hd => rfl); (case hg => rfl); (case hr => first | (go_simp; done) | (go_simp; rfl)); intro gb191 hg w73 hbox hb; have n0_ := Aside0.mk (blk_below (g := gb187) (o := .cells #[.string a0_0, .int .i64 a0_1, .int .i64 a0_2, .int .i64 a0_3, .string a0_4] 25 (0, 0)) (by (with_reducible repeat (first | refine blk_drewN ?_ _ | refine blk_drew ?_ | refine blk_alloc ?_ _)); exact BK187.out) hb); have n1_ := Aside0.mk (blk_below (g := gb188) (o := .cells #[.int .i64 a1_0, .int .i64 a1_1, .string a1_2] 23 (0, 0)) (by (with_reducible repeat (first | refine blk_drewN ?_ _ | refine blk_drew ?_ | refine blk_alloc ?_ _)); exact BK188.out) hb); have n2_ := Aside0.mk (below_step (by repeat (first | (with_reducible first | exact HB.out | apply below_alloc | apply pw_below_drewN | apply below_drew1 | refine below_set ?_ GE187.out | refine below_set ?_ GE188.out) | exact HB.out)) hb); have n3_ := Aside0.mk (hbox); have n4_ := Aside0.mk ((by rw [hg]; exact (below_size (by repeat (first | (with_reducible first | exact HB.out | apply below_alloc | apply pw_below_drewN | apply below_drew1 | refine below_set ?_ GE187.out | refine below_set ?_ GE188.out) | exact HB.out))) : w.heap.size ≤ gb191)); have n5_ := Aside0.mk ((by rw [hg]; exact (below_size (by repeat (first | (with_reducible first | exact HB.out | apply below_alloc | apply pw_below_drewN | apply below_drew1 | refine below_set ?_ GE187.out | refine below_set ?_ GE188.out) | exact HB.out))) : w.heap.size ≤ gb191)); have n6_ := Aside0.mk ((by rw [hg]; exact Nat.ne_of_lt (blk_lt (g := gb187) (o := .cells #[.string a0_0, .int .i64 a0_1, .int .i64 a0_2, .int .i64 a0_3, .string a0_4] 25 (0, 0)) (by (with_reducible repeat (first | refine blk_drewN ?_ _ | refine blk_drew ?_ | refine blk_alloc ?_ _)); exact BK187.out)) : gb187 ≠ gb191)); have n7_ := Aside0.mk ((by rw [hg]; exact Nat.ne_of_gt (blk_lt (g := gb187) (o := .cells #[.string a0_0, .int .i64 a0_1, .int .i64 a0_2, .int .i64 a0_3, .string a0_4] 25 (0, 0)) (by (with_reducible repeat (first | refine blk_drewN ?_ _ | refine blk_drew ?_ | refine blk_alloc ?_ _)); exact BK187.out)) : gb191 ≠ gb187)); have n8_ := Aside0.mk ((by rw [hg]; exact Nat.ne_of_lt (blk_lt (g := gb188) (o := .cells #[.int .i64 a1_0, .int .i64 a1_1, .string a1_2] 23 (0, 0)) (by (with_reducible repeat (first | refine blk_drewN ?_ _ | refine blk_drew ?_ | refine blk_alloc ?_ _)); exact BK188.out)) : gb188 ≠ gb191)); have n9_ := Aside0.mk ((by rw [hg]; exact Nat.ne_of_gt (blk_lt (g := gb188) (o := .cells #[.int .i64 a1_0, .int .i64 a1_1, .string a1_2] 23 (0, 0)) (by (with_reducible repeat (first | refine blk_drewN ?_ _ | refine blk_drew ?_ | refine blk_alloc ?_ _)); exact BK188.out)) : gb191 ≠ gb188)); clear BK187; clear BK188; clear HB; have BK187 := n0_; have BK188 := n1_; have HB := n2_; have BK191 := n3_; have GW191 := n4_; have GE191 := n5_; have NB187_191 := n6_; have NB191_187 := n7_; have NB188_191 := n8_; have NB191_188 := n9_; clear n0_ n1_ n2_ n3_ n4_ n5_ n6_ n7_ n8_ n9_; clear hb hbox hg; have hnb74 := NB191_187.out; have hnc74 := NB187_191.out; have hnb75 := NB191_188.out; have hnc75 := NB188_191.out; have hcz76_0 : w73.cell? ⟨gb191, 0, none⟩ = some (.int .i64 0) := (blk_cell BK191.out 0).trans rfl; have hcz76_1 : w73.cell? ⟨gb191, 1, none⟩ = some (.int .i64 0) := (blk_cell BK191.out 1).trans rfl; have hcz76_2 : w73.cell? ⟨gb191, 2, none⟩ = some (.string (⟨#[]⟩ : ByteArray)) := (blk_cell BK191.out 2).trans rfl; have hfz76_0 := blk_frozen BK191.out 0; have hfz76_1 := blk_frozen BK191.out 1; have hfz76_2 := blk_frozen BK191.out 2; have hcz77_0 : w73.cell? ⟨gb188, 0, none⟩ = some (.int .i64 a1_0) := (blk_cell BK188.out 0).trans rfl; have hcz77_1 : w73.cell? ⟨gb188, 1, none⟩ = some (.int .i64 a1_1) := (blk_cell BK188.out 1).trans rfl; have hcz77_2 : w73.cell? ⟨gb188, 2, none⟩ = some (.string a1_2) := (blk_cell BK188.out 2).trans rfl; have hfz77_0 := blk_frozen BK188.out 0; have hfz77_1 := blk_frozen BK188.out 1; have hfz77_2 := blk_frozen BK188.out 2) | (go_at_call 28; (with_reducible refine (rosetteref04_Compare.calls kj4 a1_0 a1_1 a1_2 a0_2 a0_3 a0_4 t192 _ A19.out).mono ?_); rintro e w78 ⟨rfl, hb⟩; have n0_ := Aside0.mk (blk_below (g := gb187) (o := .cells #[.string a0_0, .int .i64 a0_1, .int .i64 a0_2, .int .i64 a0_3, .string a0_4] 25 (0, 0)) (by (with_reducible repeat (first | refine blk_drewN ?_ _ | refine blk_drew ?_ | refine blk_alloc ?_ _)); refine blk_far ?_ NB187_191.out _; (with_reducible repeat (first | refine blk_drewN ?_ _ | refine blk_drew ?_ | refine blk_alloc ?_ _)); refine blk_far ?_ NB187_191.out _; (with_reducible repeat (first | refine blk_drewN ?_ _ | refine blk_drew ?_ | refine blk_alloc ?_ _)); refine blk_far ?_ NB187_191.out _; (with_reducible repeat (first | refine blk_drewN ?_ _ | refine blk_drew ?_ | refine blk_alloc ?_ _)); exact BK187.out) hb); have n1_ := Aside0.mk (blk_below (g := gb188) (o := .cells #[.int .i64 a1_0, .int .i64 a1_1, .string a1_2] 23 (0, 0)) (by (with_reducible repeat (first | refine blk_drewN ?_ _ | refine blk_drew ?_ | refine blk_alloc ?_ _)); refine blk_far ?_ NB188_191.out _; (with_reducible repeat (first | refine blk_drewN ?_ _ | refine blk_drew ?_ | refine blk_alloc ?_ _)); refine blk_far ?_ NB188_191.out _; (with_reducible repeat (first | refine blk_drewN ?_ _ | refine blk_drew ?_ | refine blk_alloc ?_ _)); refine blk_far ?_ NB188_191.out _; (with_reducible repeat (first | refine blk_drewN ?_ _ | refine blk_drew ?_ | refine blk_alloc ?_ _)); exact BK188.out) hb); have n2_ := Aside0.mk (blk_below (g := gb191) (o := .cells #[.int .i64 a0_2, .int .i64 a0_3, .string a0_4] 23 (0, 0)) (by (with_reducible repeat (first | refine blk_drewN ?_ _ | refine blk_drew ?_ | refine blk_alloc ?_ _)); refine blk_put (cs := #[.int .i64 a0_2, .int .i64 a0_3, .string (⟨#[]⟩ : ByteArray)]) ?_ 2 _ rfl; (with_reducible repeat (first | refine blk_drewN ?_ _ | refine blk_drew ?_ | refine blk_alloc ?_ _)); refine blk_put (cs := #[.int .i64 a0_2, .int .i64 0, .string (⟨#[]⟩ : ByteArray)]) ?_ 1 _ rfl; (with_reducible repeat (first | refine blk_drewN ?_ _ | refine blk_drew ?_ | refine blk_alloc ?_ _)); refine blk_put (cs := #[.int .i64 0, .int .i64 0, .string (⟨#[]⟩ : ByteArray)]) ?_ 0 _ rfl; (with_reducible repeat (first | refine blk_drewN ?_ _ | refine blk_drew ?_ | refine blk_alloc ?_ _)); exact BK191.out) hb); have n3_ := Aside0.mk (below_step (by repeat (first | (with_reducible first | exact HB.out | apply below_alloc | apply pw_below_drewN | apply below_drew1 | refine below_set ?_ GE187.out | refine below_set ?_ GE188.out | refine below_set ?_ GE191.out) | exact HB.out)) hb); clear BK187; clear BK188; clear BK191; clear HB; have BK187 := n0_; have BK188 := n1_; have BK191 := n2_; have HB := n3_; clear n0_ n1_ n2_ n3_; (try clear hb); (try clear hb2); (try clear hk); (try clear hi); have hcz79_0 : w78.cell? ⟨gb187, 0, none⟩ = some (.string a0_0) := (blk_cell BK187.out 0).trans rfl; have hcz79_1 : w78.cell? ⟨gb187, 1, none⟩ = some (.int .i64 a0_1) := (blk_cell BK187.out 1).trans rfl; have hcz79_2 : w78.cell? ⟨gb187, 2, none⟩ = some (.int .i64 a0_2) := (blk_cell BK187.out 2).trans rfl; have hcz79_3 : w78.cell? ⟨gb187, 3, none⟩ = some (.int .i64 a0_3) := (blk_cell BK187.out 3).trans rfl; have hcz79_4 : w78.cell? ⟨gb187, 4, none⟩ = some (.string a0_4) := (blk_cell BK187.out 4).trans rfl; have hfz79_0 := blk_frozen BK187.out 0; have hfz79_1 := blk_frozen BK187.out 1; have hfz79_2 := blk_frozen BK187.out 2; have hfz79_3 := blk_frozen BK187.out 3; have hfz79_4 := blk_frozen BK187.out 4))
                        go_ret
                        exact ⟨by first | rfl | (simp [errW_none, errW_some] <;> rfl) | (simp [*, errW_none, errW_some] <;> rfl), by repeat (first | (with_reducible first | exact HB.out | apply below_alloc | apply pw_below_drewN | apply below_drew1 | refine below_set ?_ GE187.out | refine below_set ?_ GE188.out | refine below_set ?_ GE191.out) | exact HB.out)⟩
                      · rw [if_neg c70] at H
                        have c70b0 : (a0_1 == 6) = false := beq_eq_false_iff_ne.mpr c70
                        have c70b1 : (a0_1 != 6) = true := bne_iff_ne.mpr c70
                        by_cases c80 : (a1_2.size : Int) ≥ (a0_4.size : Int)
                        · rw [if_pos c80] at H
                          have c80b0 : decide ((a0_4.size : Int) ≤ (a1_2.size : Int)) = true := decide_eq_true c80
                          have c80b1 : decide (a0_4.size ≤ a1_2.size) = true := decide_eq_true (Int.ofNat_le.mp c80)
                          clear c80
                          by_cases c81 : 0 ≤ (a0_4.size : Int)
                          · rw [if_pos c81] at H
                            have c81b0 := eq_true c81
                            have c81b1 : decide (0 ≤ (a0_4.size : Int)) = true := decide_eq_true c81
                            clear c81
                            by_cases c82 : (a0_4.size : Int) ≤ (a1_2.size : Int)
                            · rw [if_pos c82] at H
                              have c82b0 := eq_true c82
                              have c82b1 : decide ((a0_4.size : Int) ≤ (a1_2.size : Int)) = true := decide_eq_true c82
                              clear c82
                              obtain rfl := Option.some.inj H
                              have hnb83 := NB187_188.out
                              have hnc83 := NB188_187.out
                              have hcz84_0 : wc.cell? ⟨gb187, 0, none⟩ = some (.string a0_0) := (blk_cell BK187.out 0).trans rfl
                              have hcz84_1 : wc.cell? ⟨gb187, 1, none⟩ = some (.int .i64 a0_1) := (blk_cell BK187.out 1).trans rfl
                              have hcz84_2 : wc.cell? ⟨gb187, 2, none⟩ = some (.int .i64 a0_2) := (blk_cell BK187.out 2).trans rfl
                              have hcz84_3 : wc.cell? ⟨gb187, 3, none⟩ = some (.int .i64 a0_3) := (blk_cell BK187.out 3).trans rfl
                              have hcz84_4 : wc.cell? ⟨gb187, 4, none⟩ = some (.string a0_4) := (blk_cell BK187.out 4).trans rfl
                              have hfz84_0 := blk_frozen BK187.out 0
                              have hfz84_1 := blk_frozen BK187.out 1
                              have hfz84_2 := blk_frozen BK187.out 2
                              have hfz84_3 := blk_frozen BK187.out 3
                              have hfz84_4 := blk_frozen BK187.out 4
                              go_wp2_with (first | ((with_reducible refine gate_dst (N := 7) rfl ?_); (try (refine gate_guard (by rfl) ?_; dsimp only)); refine box_event ?hg (N := 7) ?hd (cs := #[.int .i64 0, .int .i64 0, .string (⟨#[]⟩ : ByteArray)]) (t := 23) ?hr ?_; (case hd => rfl); (case hg => rfl); (case hr => first | (go_simp; done) | (go_simp; rfl)); intro gb191 hg w85 hbox hb; have n0_ := Aside0.mk (blk_below (g := gb187) (o := .cells #[.string a0_0, .int .i64 a0_1, .int .i64 a0_2, .int .i64 a0_3, .string a0_4] 25 (0, 0)) (by (with_reducible repeat (first | refine blk_drewN ?_ _ | refine blk_drew ?_ | refine blk_alloc ?_ _)); exact BK187.out) hb); have n1_ := Aside0.mk (blk_below (g := gb188) (o := .cells #[.int .i64 a1_0, .int .i64 a1_1, .string a1_2] 23 (0, 0)) (by (with_reducible repeat (first | refine blk_drewN ?_ _ | refine blk_drew ?_ | refine blk_alloc ?_ _)); exact BK188.out) hb); have n2_ := Aside0.mk (below_step (by repeat (first | (with_reducible first | exact HB.out | apply below_alloc | apply pw_below_drewN | apply below_drew1 | refine below_set ?_ GE187.out | refine below_set ?_ GE188.out) | exact HB.out)) hb); have n3_ := Aside0.mk (hbox); have n4_ := Aside0.mk ((by rw [hg]; exact (below_size (by repeat (first | (with_reducible first | exact HB.out | apply below_alloc | apply pw_below_drewN | apply below_drew1 | refine below_set ?_ GE187.out | refine below_set ?_ GE188.out) | exact HB.out))) : w.heap.size ≤ gb191)); have n5_ := Aside0.mk ((by rw [hg]; exact (below_size (by repeat (first | (with_reducible first | exact HB.out | apply below_alloc | apply pw_below_drewN | apply below_drew1 | refine below_set ?_ GE187.out | refine below_set ?_ GE188.out) | exact HB.out))) : w.heap.size ≤ gb191)); have n6_ := Aside0.mk ((by rw [hg]; exact Nat.ne_of_lt (blk_lt (g := gb187) (o := .cells #[.string a0_0, .int .i64 a0_1, .int .i64 a0_2, .int .i64 a0_3, .string a0_4] 25 (0, 0)) (by (with_reducible repeat (first | refine blk_drewN ?_ _ | refine blk_drew ?_ | refine blk_alloc ?_ _)); exact BK187.out)) : gb187 ≠ gb191)); have n7_ := Aside0.mk ((by rw [hg]; exact Nat.ne_of_gt (blk_lt (g := gb187) (o := .cells #[.string a0_0, .int .i64 a0_1, .int .i64 a0_2, .int .i64 a0_3, .string a0_4] 25 (0, 0)) (by (with_reducible repeat (first | refine blk_drewN ?_ _ | refine blk_drew ?_ | refine blk_alloc ?_ _)); exact BK187.out)) : gb191 ≠ gb187)); have n8_ := Aside0.mk ((by rw [hg]; exact Nat.ne_of_lt (blk_lt (g := gb188) (o := .cells #[.int .i64 a1_0, .int .i64 a1_1, .string a1_2] 23 (0, 0)) (by (with_reducible repeat (first | refine blk_drewN ?_ _ | refine blk_drew ?_ | refine blk_alloc ?_ _)); exact BK188.out)) : gb188 ≠ gb191)); have n9_ := Aside0.mk ((by rw [hg]; exact Nat.ne_of_gt (blk_lt (g := gb188) (o := .cells #[.int .i64 a1_0, .int .i64 a1_1, .string a1_2] 23 (0, 0)) (by (with_reducible repeat (first | refine blk_drewN ?_ _ | refine blk_drew ?_ | refine blk_alloc ?_ _)); exact BK188.out)) : gb191 ≠ gb188)); clear BK187; clear BK188; clear HB; have BK187 := n0_; have BK188 := n1_; have HB := n2_; have BK191 := n3_; have GW191 := n4_; have GE191 := n5_; have NB187_191 := n6_; have NB191_187 := n7_; have NB188_191 := n8_; have NB191_188 := n9_; clear n0_ n1_ n2_ n3_ n4_ n5_ n6_ n7_ n8_ n9_; clear hb hbox hg; have hnb86 := NB191_187.out; have hnc86 := NB187_191.out; have hnb87 := NB191_188.out; have hnc87 := NB188_191.out; have hcz88_0 : w85.cell? ⟨gb191, 0, none⟩ = some (.int .i64 0) := (blk_cell BK191.out 0).trans rfl; have hcz88_1 : w85.cell? ⟨gb191, 1, none⟩ = some (.int .i64 0) := (blk_cell BK191.out 1).trans rfl; have hcz88_2 : w85.cell? ⟨gb191, 2, none⟩ = some (.string (⟨#[]⟩ : ByteArray)) := (blk_cell BK191.out 2).trans rfl; have hfz88_0 := blk_frozen BK191.out 0; have hfz88_1 := blk_frozen BK191.out 1; have hfz88_2 := blk_frozen BK191.out 2; have hcz89_0 : w85.cell? ⟨gb188, 0, none⟩ = some (.int .i64 a1_0) := (blk_cell BK188.out 0).trans rfl; have hcz89_1 : w85.cell? ⟨gb188, 1, none⟩ = some (.int .i64 a1_1) := (blk_cell BK188.out 1).trans rfl; have hcz89_2 : w85.cell? ⟨gb188, 2, none⟩ = some (.string a1_2) := (blk_cell BK188.out 2).trans rfl; have hfz89_0 := blk_frozen BK188.out 0; have hfz89_1 := blk_frozen BK188.out 1; have hfz89_2 := blk_frozen BK188.out 2) | (go_at_call 28; (with_reducible refine (rosetteref04_Compare.calls kj4 a1_0 a1_1 a1_2 a0_2 a0_3 a0_4 t192 _ A19.out).mono ?_); rintro e w90 ⟨rfl, hb⟩; have n0_ := Aside0.mk (blk_below (g := gb187) (o := .cells #[.string a0_0, .int .i64 a0_1, .int .i64 a0_2, .int .i64 a0_3, .string a0_4] 25 (0, 0)) (by (with_reducible repeat (first | refine blk_drewN ?_ _ | refine blk_drew ?_ | refine blk_alloc ?_ _)); refine blk_far ?_ NB187_191.out _; (with_reducible repeat (first | refine blk_drewN ?_ _ | refine blk_drew ?_ | refine blk_alloc ?_ _)); refine blk_far ?_ NB187_191.out _; (with_reducible repeat (first | refine blk_drewN ?_ _ | refine blk_drew ?_ | refine blk_alloc ?_ _)); refine blk_far ?_ NB187_191.out _; (with_reducible repeat (first | refine blk_drewN ?_ _ | refine blk_drew ?_ | refine blk_alloc ?_ _)); exact BK187.out) hb); have n1_ := Aside0.mk (blk_below (g := gb188) (o := .cells #[.int .i64 a1_0, .int .i64 a1_1, .string a1_2] 23 (0, 0)) (by (with_reducible repeat (first | refine blk_drewN ?_ _ | refine blk_drew ?_ | refine blk_alloc ?_ _)); refine blk_far ?_ NB188_191.out _; (with_reducible repeat (first | refine blk_drewN ?_ _ | refine blk_drew ?_ | refine blk_alloc ?_ _)); refine blk_far ?_ NB188_191.out _; (with_reducible repeat (first | refine blk_drewN ?_ _ | refine blk_drew ?_ | refine blk_alloc ?_ _)); refine blk_far ?_ NB188_191.out _; (with_reducible repeat (first | refine blk_drewN ?_ _ | refine blk_drew ?_ | refine blk_alloc ?_ _)); exact BK188.out) hb); have n2_ := Aside0.mk (blk_below (g := gb191) (o := .cells #[.int .i64 a0_2, .int .i64 a0_3, .string a0_4] 23 (0, 0)) (by (with_reducible repeat (first | refine blk_drewN ?_ _ | refine blk_drew ?_ | refine blk_alloc ?_ _)); refine blk_put (cs := #[.int .i64 a0_2, .int .i64 a0_3, .string (⟨#[]⟩ : ByteArray)]) ?_ 2 _ rfl; (with_reducible repeat (first | refine blk_drewN ?_ _ | refine blk_drew ?_ | refine blk_alloc ?_ _)); refine blk_put (cs := #[.int .i64 a0_2, .int .i64 0, .string (⟨#[]⟩ : ByteArray)]) ?_ 1 _ rfl; (with_reducible repeat (first | refine blk_drewN ?_ _ | refine blk_drew ?_ | refine blk_alloc ?_ _)); refine blk_put (cs := #[.int .i64 0, .int .i64 0, .string (⟨#[]⟩ : ByteArray)]) ?_ 0 _ rfl; (with_reducible repeat (first | refine blk_drewN ?_ _ | refine blk_drew ?_ | refine blk_alloc ?_ _)); exact BK191.out) hb); have n3_ := Aside0.mk (below_step (by repeat (first | (with_reducible first | exact HB.out | apply below_alloc | apply pw_below_drewN | apply below_drew1 | refine below_set ?_ GE187.out | refine below_set ?_ GE188.out | refine below_set ?_ GE191.out) | exact HB.out)) hb); clear BK187; clear BK188; clear BK191; clear HB; have BK187 := n0_; have BK188 := n1_; have BK191 := n2_; have HB := n3_; clear n0_ n1_ n2_ n3_; (try clear hb); (try clear hb2); (try clear hk); (try clear hi); have hcz91_0 : w90.cell? ⟨gb187, 0, none⟩ = some (.string a0_0) := (blk_cell BK187.out 0).trans rfl; have hcz91_1 : w90.cell? ⟨gb187, 1, none⟩ = some (.int .i64 a0_1) := (blk_cell BK187.out 1).trans rfl; have hcz91_2 : w90.cell? ⟨gb187, 2, none⟩ = some (.int .i64 a0_2) := (blk_cell BK187.out 2).trans rfl; have hcz91_3 : w90.cell? ⟨gb187, 3, none⟩ = some (.int .i64 a0_3) := (blk_cell BK187.out 3).trans rfl; have hcz91_4 : w90.cell? ⟨gb187, 4, none⟩ = some (.string a0_4) := (blk_cell BK187.out 4).trans rfl; have hfz91_0 := blk_frozen BK187.out 0; have hfz91_1 := blk_frozen BK187.out 1; have hfz91_2 := blk_frozen BK187.out 2; have hfz91_3 := blk_frozen BK187.out 3; have hfz91_4 := blk_frozen BK187.out 4; have hcz92_0 : w90.cell? ⟨gb188, 0, none⟩ = some (.int .i64 a1_0) := (blk_cell BK188.out 0).trans rfl; have hcz92_1 : w90.cell? ⟨gb188, 1, none⟩ = some (.int .i64 a1_1) := (blk_cell BK188.out 1).trans rfl; have hcz92_2 : w90.cell? ⟨gb188, 2, none⟩ = some (.string a1_2) := (blk_cell BK188.out 2).trans rfl; have hfz92_0 := blk_frozen BK188.out 0; have hfz92_1 := blk_frozen BK188.out 1; have hfz92_2 := blk_frozen BK188.out 2; have hcz93_0 : w90.cell? ⟨gb191, 0, none⟩ = some (.int .i64 a0_2) := (blk_cell BK191.out 0).trans rfl; have hcz93_1 : w90.cell? ⟨gb191, 1, none⟩ = some (.int .i64 a0_3) := (blk_cell BK191.out 1).trans rfl; have hcz93_2 : w90.cell? ⟨gb191, 2, none⟩ = some (.string a0_4) := (blk_cell BK191.out 2).trans rfl; have hfz93_0 := blk_frozen BK191.out 0; have hfz93_1 := blk_frozen BK191.out 1; have hfz93_2 := blk_frozen BK191.out 2))
                              repeat (go_quiet (first | ((with_reducible refine gate_dst (N := 7) rfl ?_); (try (refine gate_guard (by rfl) ?_; dsimp only)); refine box_event ?hg (N := 7) ?hd (cs := #[.int .i64 0, .int .i64 0, .string (⟨#[]⟩ : ByteArray)]) (t := 23) ?hr ?_; (case hd => rfl); (case hg => rfl); (case hr => first | (go_simp; done) | (go_simp; rfl)); intro gb191 hg w85 hbox hb; have n0_ := Aside0.mk (blk_below (g := gb187) (o := .cells #[.string a0_0, .int .i64 a0_1, .int .i64 a0_2, .int .i64 a0_3, .string a0_4] 25 (0, 0)) (by (with_reducible repeat (first | refine blk_drewN ?_ _ | refine blk_drew ?_ | refine blk_alloc ?_ _)); exact BK187.out) hb); have n1_ := Aside0.mk (blk_below (g := gb188) (o := .cells #[.int .i64 a1_0, .int .i64 a1_1, .string a1_2] 23 (0, 0)) (by (with_reducible repeat (first | refine blk_drewN ?_ _ | refine blk_drew ?_ | refine blk_alloc ?_ _)); exact BK188.out) hb); have n2_ := Aside0.mk (below_step (by repeat (first | (with_reducible first | exact HB.out | apply below_alloc | apply pw_below_drewN | apply below_drew1 | refine below_set ?_ GE187.out | refine below_set ?_ GE188.out) | exact HB.out)) hb); have n3_ := Aside0.mk (hbox); have n4_ := Aside0.mk ((by rw [hg]; exact (below_size (by repeat (first | (with_reducible first | exact HB.out | apply below_alloc | apply pw_below_drewN | apply below_drew1 | refine below_set ?_ GE187.out | refine below_set ?_ GE188.out) | exact HB.out))) : w.heap.size ≤ gb191)); have n5_ := Aside0.mk ((by rw [hg]; exact (below_size (by repeat (first | (with_reducible first | exact HB.out | apply below_alloc | apply pw_below_drewN | apply below_drew1 | refine below_set ?_ GE187.out | refine below_set ?_ GE188.out) | exact HB.out))) : w.heap.size ≤ gb191)); have n6_ := Aside0.mk ((by rw [hg]; exact Nat.ne_of_lt (blk_lt (g := gb187) (o := .cells #[.string a0_0, .int .i64 a0_1, .int .i64 a0_2, .int .i64 a0_3, .string a0_4] 25 (0, 0)) (by (with_reducible repeat (first | refine blk_drewN ?_ _ | refine blk_drew ?_ | refine blk_alloc ?_ _)); exact BK187.out)) : gb187 ≠ gb191)); have n7_ := Aside0.mk ((by rw [hg]; exact Nat.ne_of_gt (blk_lt (g := gb187) (o := .cells #[.string a0_0, .int .i64 a0_1, .int .i64 a0_2, .int .i64 a0_3, .string a0_4] 25 (0, 0)) (by (with_reducible repeat (first | refine blk_drewN ?_ _ | refine blk_drew ?_ | refine blk_alloc ?_ _)); exact BK187.out)) : gb191 ≠ gb187)); have n8_ := Aside0.mk ((by rw [hg]; exact Nat.ne_of_lt (blk_lt (g := gb188) (o := .cells #[.int .i64 a1_0, .int .i64 a1_1, .string a1_2] 23 (0, 0)) (by (with_reducible repeat (first | refine blk_drewN ?_ _ | refine blk_drew ?_ | refine blk_alloc ?_ _)); exact BK188.out)) : gb188 ≠ gb191)); have n9_ := Aside0.mk ((by rw [hg]; exact Nat.ne_of_gt (blk_lt (g := gb188) (o := .cells #[.int .i64 a1_0, .int .i64 a1_1, .string a1_2] 23 (0, 0)) (by (with_reducible repeat (first | refine blk_drewN ?_ _ | refine blk_drew ?_ | refine blk_alloc ?_ _)); exact BK188.out)) : gb191 ≠ gb188)); clear BK187; clear BK188; clear HB; have BK187 := n0_; have BK188 := n1_; have HB := n2_; have BK191 := n3_; have GW191 := n4_; have GE191 := n5_; have NB187_191 := n6_; have NB191_187 := n7_; have NB188_191 := n8_; have NB191_188 := n9_; clear n0_ n1_ n2_ n3_ n4_ n5_ n6_ n7_ n8_ n9_; clear hb hbox hg; have hnb86 := NB191_187.out; have hnc86 := NB187_191.out; have hnb87 := NB191_188.out; have hnc87 := NB188_191.out; have hcz88_0 : w85.cell? ⟨gb191, 0, none⟩ = some (.int .i64 0) := (blk_cell BK191.out 0).trans rfl; have hcz88_1 : w85.cell? ⟨gb191, 1, none⟩ = some (.int .i64 0) := (blk_cell BK191.out 1).trans rfl; have hcz88_2 : w85.cell? ⟨gb191, 2, none⟩ = some (.string (⟨#[]⟩ : ByteArray)) := (blk_cell BK191.out 2).trans rfl; have hfz88_0 := blk_frozen BK191.out 0; have hfz88_1 := blk_frozen BK191.out 1; have hfz88_2 := blk_frozen BK191.out 2; have hcz89_0 : w85.cell? ⟨gb188, 0, none⟩ = some (.int .i64 a1_0) := (blk_cell BK188.out 0).trans rfl; have hcz89_1 : w85.cell? ⟨gb188, 1, none⟩ = some (.int .i64 a1_1) := (blk_cell BK188.out 1).trans rfl; have hcz89_2 : w85.cell? ⟨gb188, 2, none⟩ = some (.string a1_2) := (blk_cell BK188.out 2).trans rfl; have hfz89_0 := blk_frozen BK188.out 0; have hfz89_1 := blk_frozen BK188.out 1; have hfz89_2 := blk_frozen BK188.out 2) | (go_at_call 28; (with_reducible refine (rosetteref04_Compare.calls kj4 a1_0 a1_1 a1_2 a0_2 a0_3 a0_4 t192 _ A19.out).mono ?_); rintro e w90 ⟨rfl, hb⟩; have n0_ := Aside0.mk (blk_below (g := gb187) (o := .cells #[.string a0_0, .int .i64 a0_1, .int .i64 a0_2, .int .i64 a0_3, .string a0_4] 25 (0, 0)) (by (with_reducible repeat (first | refine blk_drewN ?_ _ | refine blk_drew ?_ | refine blk_alloc ?_ _)); refine blk_far ?_ NB187_191.out _; (with_reducible repeat (first | refine blk_drewN ?_ _ | refine blk_drew ?_ | refine blk_alloc ?_ _)); refine blk_far ?_ NB187_191.out _; (with_reducible repeat (first | refine blk_drewN ?_ _ | refine blk_drew ?_ | refine blk_alloc ?_ _)); refine blk_far ?_ NB187_191.out _; (with_reducible repeat (first | refine blk_drewN ?_ _ | refine blk_drew ?_ | refine blk_alloc ?_ _)); exact BK187.out) hb); have n1_ := Aside0.mk (blk_below (g := gb188) (o := .cells #[.int .i64 a1_0, .int .i64 a1_1, .string a1_2] 23 (0, 0)) (by (with_reducible repeat (first | refine blk_drewN ?_ _ | refine blk_drew ?_ | refine blk_alloc ?_ _)); refine blk_far ?_ NB188_191.out _; (with_reducible repeat (first | refine blk_drewN ?_ _ | refine blk_drew ?_ | refine blk_alloc ?_ _)); refine blk_far ?_ NB188_191.out _; (with_reducible repeat (first | refine blk_drewN ?_ _ | refine blk_drew ?_ | refine blk_alloc ?_ _)); refine blk_far ?_ NB188_191.out _; (with_reducible repeat (first | refine blk_drewN ?_ _ | refine blk_drew ?_ | refine blk_alloc ?_ _)); exact BK188.out) hb); have n2_ := Aside0.mk (blk_below (g := gb191) (o := .cells #[.int .i64 a0_2, .int .i64 a0_3, .string a0_4] 23 (0, 0)) (by (with_reducible repeat (first | refine blk_drewN ?_ _ | refine blk_drew ?_ | refine blk_alloc ?_ _)); refine blk_put (cs := #[.int .i64 a0_2, .int .i64 a0_3, .string (⟨#[]⟩ : ByteArray)]) ?_ 2 _ rfl; (with_reducible repeat (first | refine blk_drewN ?_ _ | refine blk_drew ?_ | refine blk_alloc ?_ _)); refine blk_put (cs := #[.int .i64 a0_2, .int .i64 0, .string (⟨#[]⟩ : ByteArray)]) ?_ 1 _ rfl; (with_reducible repeat (first | refine blk_drewN ?_ _ | refine blk_drew ?_ | refine blk_alloc ?_ _)); refine blk_put (cs := #[.int .i64 0, .int .i64 0, .string (⟨#[]⟩ : ByteArray)]) ?_ 0 _ rfl; (with_reducible repeat (first | refine blk_drewN ?_ _ | refine blk_drew ?_ | refine blk_alloc ?_ _)); exact BK191.out) hb); have n3_ := Aside0.mk (below_step (by repeat (first | (with_reducible first | exact HB.out | apply below_alloc | apply pw_below_drewN | apply below_drew1 | refine below_set ?_ GE187.out | refine below_set ?_ GE188.out | refine below_set ?_ GE191.out) | exact HB.out)) hb); clear BK187; clear BK188; clear BK191; clear HB; have BK187 := n0_; have BK188 := n1_; have BK191 := n2_; have HB := n3_; clear n0_ n1_ n2_ n3_; (try clear hb); (try clear hb2); (try clear hk); (try clear hi); have hcz91_0 : w90.cell? ⟨gb187, 0, none⟩ = some (.string a0_0) := (blk_cell BK187.out 0).trans rfl; have hcz91_1 : w90.cell? ⟨gb187, 1, none⟩ = some (.int .i64 a0_1) := (blk_cell BK187.out 1).trans rfl; have hcz91_2 : w90.cell? ⟨gb187, 2, none⟩ = some (.int .i64 a0_2) := (blk_cell BK187.out 2).trans rfl; have hcz91_3 : w90.cell? ⟨gb187, 3, none⟩ = some (.int .i64 a0_3) := (blk_cell BK187.out 3).trans rfl; have hcz91_4 : w90.cell? ⟨gb187, 4, none⟩ = some (.string a0_4) := (blk_cell BK187.out 4).trans rfl; have hfz91_0 := blk_frozen BK187.out 0; have hfz91_1 := blk_frozen BK187.out 1; have hfz91_2 := blk_frozen BK187.out 2; have hfz91_3 := blk_frozen BK187.out 3; have hfz91_4 := blk_frozen BK187.out 4; have hcz92_0 : w90.cell? ⟨gb188, 0, none⟩ = some (.int .i64 a1_0) := (blk_cell BK188.out 0).trans rfl; have hcz92_1 : w90.cell? ⟨gb188, 1, none⟩ = some (.int .i64 a1_1) := (blk_cell BK188.out 1).trans rfl; have hcz92_2 : w90.cell? ⟨gb188, 2, none⟩ = some (.string a1_2) := (blk_cell BK188.out 2).trans rfl; have hfz92_0 := blk_frozen BK188.out 0; have hfz92_1 := blk_frozen BK188.out 1; have hfz92_2 := blk_frozen BK188.out 2; have hcz93_0 : w90.cell? ⟨gb191, 0, none⟩ = some (.int .i64 a0_2) := (blk_cell BK191.out 0).trans rfl; have hcz93_1 : w90.cell? ⟨gb191, 1, none⟩ = some (.int .i64 a0_3) := (blk_cell BK191.out 1).trans rfl; have hcz93_2 : w90.cell? ⟨gb191, 2, none⟩ = some (.string a0_4) := (blk_cell BK191.out 2).trans rfl; have hfz93_0 := blk_frozen BK191.out 0; have hfz93_1 := blk_frozen BK191.out 1; have hfz93_2 := blk_frozen BK191.out 2)); try go_wp2_with (first | (go_at_call 28; (with_reducible refine (rosetteref04_Compare.calls kj4 a1_0 a1_1 a1_2 a0_2 a0_3 a0_4 t192 _ A19.out).mono ?_); rintro e w90 ⟨rfl, hb⟩; have n0_ := Aside0.mk (blk_below (g := gb187) (o := .cells #[.string a0_0, .int .i64 a0_1, .int .i64 a0_2, .int .i64 a0_3, .string a0_4] 25 (0, 0)) (by (with_reducible repeat (first | refine blk_drewN ?_ _ | refine blk_drew ?_ | refine blk_alloc ?_ _)); refine blk_far ?_ NB187_191.out _; (with_reducible repeat (first | refine blk_drewN ?_ _ | refine blk_drew ?_ | refine blk_alloc ?_ _)); refine blk_far ?_ NB187_191.out _; (with_reducible repeat (first | refine blk_drewN ?_ _ | refine blk_drew ?_ | refine blk_alloc ?_ _)); refine blk_far ?_ NB187_191.out _; (with_reducible repeat (first | refine blk_drewN ?_ _ | refine blk_drew ?_ | refine blk_alloc ?_ _)); exact BK187.out) hb); have n1_ := Aside0.mk (blk_below (g := gb188) (o := .cells #[.int .i64 a1_0, .int .i64 a1_1, .string a1_2] 23 (0, 0)) (by (with_reducible repeat (first | refine blk_drewN ?_ _ | refine blk_drew ?_ | refine blk_alloc ?_ _)); refine blk_far ?_ NB188_191.out _; (with_reducible repeat (first | refine blk_drewN ?_ _ | refine blk_drew ?_ | refine blk_alloc ?_ _)); refine blk_far ?_ NB188_191.out _; (with_reducible repeat (first | refine blk_drewN ?_ _ | refine blk_drew ?_ | refine blk_alloc ?_ _)); refine blk_far ?_ NB188_191.out _; (with_reducible repeat (first | refine blk_drewN ?_ _ | refine blk_drew ?_ | refine blk_alloc ?_ _)); exact BK188.out) hb); have n2_ := Aside0.mk (blk_below (g := gb191) (o := .cells #[.int .i64 a0_2, .int .i64 a0_3, .string a0_4] 23 (0, 0)) (by (with_reducible repeat (first | refine blk_drewN ?_ _ | refine blk_drew ?_ | refine blk_alloc ?_ _)); refine blk_put (cs := #[.int .i64 a0_2, .int .i64 a0_3, .string (⟨#[]⟩ : ByteArray)]) ?_ 2 _ rfl; (with_reducible repeat (first | refine blk_drewN ?_ _ | refine blk_drew ?_ | refine blk_alloc ?_ _)); refine blk_put (cs := #[.int .i64 a0_2, .int .i64 0, .string (⟨#[]⟩ : ByteArray)]) ?_ 1 _ rfl; (with_reducible repeat (first | refine blk_drewN ?_ _ | refine blk_drew ?_ | refine blk_alloc ?_ _)); refine blk_put (cs := #[.int .i64 0, .int .i64 0, .string (⟨#[]⟩ : ByteArray)]) ?_ 0 _ rfl; (with_reducible repeat (first | refine blk_drewN ?_ _ | refine blk_drew ?_ | refine blk_alloc ?_ _)); exact BK191.out) hb); have n3_ := Aside0.mk (below_step (by repeat (first | (with_reducible first | exact HB.out | apply below_alloc | apply pw_below_drewN | apply below_drew1 | refine below_set ?_ GE187.out | refine below_set ?_ GE188.out | refine below_set ?_ GE191.out) | exact HB.out)) hb); clear BK187; clear BK188; clear BK191; clear HB; have BK187 := n0_; have BK188 := n1_; have BK191 := n2_; have HB := n3_; clear n0_ n1_ n2_ n3_; (try clear hb); (try clear hb2); (try clear hk); (try clear hi); have hcz91_0 : w90.cell? ⟨gb187, 0, none⟩ = some (.string a0_0) := (blk_cell BK187.out 0).trans rfl; have hcz91_1 : w90.cell? ⟨gb187, 1, none⟩ = some (.int .i64 a0_1) := (blk_cell BK187.out 1).trans rfl; have hcz91_2 : w90.cell? ⟨gb187, 2, none⟩ = some (.int .i64 a0_2) := (blk_cell BK187.out 2).trans rfl; have hcz91_3 : w90.cell? ⟨gb187, 3, none⟩ = some (.int .i64 a0_3) := (blk_cell BK187.out 3).trans rfl; have hcz91_4 : w90.cell? ⟨gb187, 4, none⟩ = some (.string a0_4) := (blk_cell BK187.out 4).trans rfl; have hfz91_0 := blk_frozen BK187.out 0; have hfz91_1 := blk_frozen BK187.out 1; have hfz91_2 := blk_frozen BK187.out 2; have hfz91_3 := blk_frozen BK187.out 3; have hfz91_4 := blk_frozen BK187.out 4; have hcz92_0 : w90.cell? ⟨gb188, 0, none⟩ = some (.int .i64 a1_0) := (blk_cell BK188.out 0).trans rfl; have hcz92_1 : w90.cell? ⟨gb188, 1, none⟩ = some (.int .i64 a1_1) := (blk_cell BK188.out 1).trans rfl; have hcz92_2 : w90.cell? ⟨gb188, 2, none⟩ = some (.string a1_2) := (blk_cell BK188.out 2).trans rfl; have hfz92_0 := blk_frozen BK188.out 0; have hfz92_1 := blk_frozen BK188.out 1; have hfz92_2 := blk_frozen BK188.out 2; have hcz93_0 : w90.cell? ⟨gb191, 0, none⟩ = some (.int .i64 a0_2) := (blk_cell BK191.out 0).trans rfl; have hcz93_1 : w90.cell? ⟨gb191, 1, none⟩ = some (.int .i64 a0_3) := (blk_cell BK191.out 1).trans rfl; have hcz93_2 : w90.cell? ⟨gb191, 2, none⟩ = some (.string a0_4) := (blk_cell BK191.out 2).trans rfl; have hfz93_0 := blk_frozen BK191.out 0; have hfz93_1 := blk_frozen BK191.out 1; have hfz93_2 := blk_frozen BK191.out 2)))
                              go_ret
                              exact ⟨by first | rfl | (simp [errW_none, errW_some] <;> rfl) | (simp [*, errW_none, errW_some] <;> rfl), by repeat (first | (with_reducible first | exact HB.out | apply below_alloc | apply pw_below_drewN | apply below_drew1 | refine below_set ?_ GE187.out | refine below_set ?_ GE188.out | refine below_set ?_ GE191.out) | exact HB.out)⟩
                            · rw [if_neg c82] at H
                              exact absurd H (by simp)
                          · rw [if_neg c81] at H
                            exact absurd H (by simp)
                        · rw [if_neg c80] at H
                          have c80b0 : decide ((a0_4.size : Int) ≤ (a1_2.size : Int)) = false := decide_eq_false c80
                          have c80b1 : decide (a0_4.size ≤ a1_2.size) = false := decide_eq_false (fun h => c80 (Int.ofNat_le.mpr h))
                          clear c80
                          obtain rfl := Option.some.inj H
                          have hnb94 := NB187_188.out
                          have hnc94 := NB188_187.out
                          have hcz95_0 : wc.cell? ⟨gb187, 0, none⟩ = some (.string a0_0) := (blk_cell BK187.out 0).trans rfl
                          have hcz95_1 : wc.cell? ⟨gb187, 1, none⟩ = some (.int .i64 a0_1) := (blk_cell BK187.out 1).trans rfl
                          have hcz95_2 : wc.cell? ⟨gb187, 2, none⟩ = some (.int .i64 a0_2) := (blk_cell BK187.out 2).trans rfl
                          have hcz95_3 : wc.cell? ⟨gb187, 3, none⟩ = some (.int .i64 a0_3) := (blk_cell BK187.out 3).trans rfl
                          have hcz95_4 : wc.cell? ⟨gb187, 4, none⟩ = some (.string a0_4) := (blk_cell BK187.out 4).trans rfl
                          have hfz95_0 := blk_frozen BK187.out 0
                          have hfz95_1 := blk_frozen BK187.out 1
                          have hfz95_2 := blk_frozen BK187.out 2
                          have hfz95_3 := blk_frozen BK187.out 3
                          have hfz95_4 := blk_frozen BK187.out 4
                          go_wp2_with (first | ((with_reducible refine gate_dst (N := 7) rfl ?_); (try (refine gate_guard (by rfl) ?_; dsimp only)); refine box_event ?hg (N := 7) ?hd (cs := #[.int .i64 0, .int .i64 0, .string (⟨#[]⟩ : ByteArray)]) (t := 23) ?hr ?_; (case hd => rfl); (case hg => rfl); (case hr => first | (go_simp; done) | (go_simp; rfl)); intro gb191 hg w96 hbox hb; have n0_ := Aside0.mk (blk_below (g := gb187) (o := .cells #[.string a0_0, .int .i64 a0_1, .int .i64 a0_2, .int .i64 a0_3, .string a0_4] 25 (0, 0)) (by (with_reducible repeat (first | refine blk_drewN ?_ _ | refine blk_drew ?_ | refine blk_alloc ?_ _)); exact BK187.out) hb); have n1_ := Aside0.mk (blk_below (g := gb188) (o := .cells #[.int .i64 a1_0, .int .i64 a1_1, .string a1_2] 23 (0, 0)) (by (with_reducible repeat (first | refine blk_drewN ?_ _ | refine blk_drew ?_ | refine blk_alloc ?_ _)); exact BK188.out) hb); have n2_ := Aside0.mk (below_step (by repeat (first | (with_reducible first | exact HB.out | apply below_alloc | apply pw_below_drewN | apply below_drew1 | refine below_set ?_ GE187.out | refine below_set ?_ GE188.out) | exact HB.out)) hb); have n3_ := Aside0.mk (hbox); have n4_ := Aside0.mk ((by rw [hg]; exact (below_size (by repeat (first | (with_reducible first | exact HB.out | apply below_alloc | apply pw_below_drewN | apply below_drew1 | refine below_set ?_ GE187.out | refine below_set ?_ GE188.out) | exact HB.out))) : w.heap.size ≤ gb191)); have n5_ := Aside0.mk ((by rw [hg]; exact (below_size (by repeat (first | (with_reducible first | exact HB.out | apply below_alloc | apply pw_below_drewN | apply below_drew1 | refine below_set ?_ GE187.out | refine below_set ?_ GE188.out) | exact HB.out))) : w.heap.size ≤ gb191)); have n6_ := Aside0.mk ((by rw [hg]; exact Nat.ne_of_lt (blk_lt (g := gb187) (o := .cells #[.string a0_0, .int .i64 a0_1, .int .i64 a0_2, .int .i64 a0_3, .string a0_4] 25 (0, 0)) (by (with_reducible repeat (first | refine blk_drewN ?_ _ | refine blk_drew ?_ | refine blk_alloc ?_ _)); exact BK187.out)) : gb187 ≠ gb191)); have n7_ := Aside0.mk ((by rw [hg]; exact Nat.ne_of_gt (blk_lt (g := gb187) (o := .cells #[.string a0_0, .int .i64 a0_1, .int .i64 a0_2, .int .i64 a0_3, .string a0_4] 25 (0, 0)) (by (with_reducible repeat (first | refine blk_drewN ?_ _ | refine blk_drew ?_ | refine blk_alloc ?_ _)); exact BK187.out)) : gb191 ≠ gb187)); have n8_ := Aside0.mk ((by rw [hg]; exact Nat.ne_of_lt (blk_lt (g := gb188) (o := .cells #[.int .i64 a1_0, .int .i64 a1_1, .string a1_2] 23 (0, 0)) (by (with_reducible repeat (first | refine blk_drewN ?_ _ | refine blk_drew ?_ | refine blk_alloc ?_ _)); exact BK188.out)) : gb188 ≠ gb191)); have n9_ := Aside0.mk ((by rw [hg]; exact Nat.ne_of_gt (blk_lt (g := gb188) (o := .cells #[.int .i64 a1_0, .int .i64 a1_1, .string a1_2] 23 (0, 0)) (by (with_reducible repeat (first | refine blk_drewN ?_ _ | refine blk_drew ?_ | refine blk_alloc ?_ _)); exact BK188.out)) : gb191 ≠ gb188)); clear BK187; clear BK188; clear HB; have BK187 := n0_; have BK188 := n1_; have HB := n2_; have BK191 := n3_; have GW191 := n4_; have GE191 := n5_; have NB187_191 := n6_; have NB191_187 := n7_; have NB188_191 := n8_; have NB191_188 := n9_; clear n0_ n1_ n2_ n3_ n4_ n5_ n6_ n7_ n8_ n9_; clear hb hbox hg; have hnb97 := NB191_187.out; have hnc97 := NB187_191.out; have hnb98 := NB191_188.out; have hnc98 := NB188_191.out; have hcz99_0 : w96.cell? ⟨gb191, 0, none⟩ = some (.int .i64 0) := (blk_cell BK191.out 0).trans rfl; have hcz99_1 : w96.cell? ⟨gb191, 1, none⟩ = some (.int .i64 0) := (blk_cell BK191.out 1).trans rfl; have hcz99_2 : w96.cell? ⟨gb191, 2, none⟩ = some (.string (⟨#[]⟩ : ByteArray)) := (blk_cell BK191.out 2).trans rfl; have hfz99_0 := blk_frozen BK191.out 0; have hfz99_1 := blk_frozen BK191.out 1; have hfz99_2 := blk_frozen BK191.out 2; have hcz100_0 : w96.cell? ⟨gb188, 0, none⟩ = some (.int .i64 a1_0) := (blk_cell BK188.out 0).trans rfl; have hcz100_1 : w96.cell? ⟨gb188, 1, none⟩ = some (.int .i64 a1_1) := (blk_cell BK188.out 1).trans rfl; have hcz100_2 : w96.cell? ⟨gb188, 2, none⟩ = some (.string a1_2) := (blk_cell BK188.out 2).trans rfl; have hfz100_0 := blk_frozen BK188.out 0; have hfz100_1 := blk_frozen BK188.out 1; have hfz100_2 := blk_frozen BK188.out 2) | (go_at_call 28; (with_reducible refine (rosetteref04_Compare.calls kj4 a1_0 a1_1 a1_2 a0_2 a0_3 a0_4 t192 _ A19.out).mono ?_); rintro e w101 ⟨rfl, hb⟩; have n0_ := Aside0.mk (blk_below (g := gb187) (o := .cells #[.string a0_0, .int .i64 a0_1, .int .i64 a0_2, .int .i64 a0_3, .string a0_4] 25 (0, 0)) (by (with_reducible repeat (first | refine blk_drewN ?_ _ | refine blk_drew ?_ | refine blk_alloc ?_ _)); refine blk_far ?_ NB187_191.out _; (with_reducible repeat (first | refine blk_drewN ?_ _ | refine blk_drew ?_ | refine blk_alloc ?_ _)); refine blk_far ?_ NB187_191.out _; (with_reducible repeat (first | refine blk_drewN ?_ _ | refine blk_drew ?_ | refine blk_alloc ?_ _)); refine blk_far ?_ NB187_191.out _; (with_reducible repeat (first | refine blk_drewN ?_ _ | refine blk_drew ?_ | refine blk_alloc ?_ _)); exact BK187.out) hb); have n1_ := Aside0.mk (blk_below (g := gb188) (o := .cells #[.int .i64 a1_0, .int .i64 a1_1, .string a1_2] 23 (0, 0)) (by (with_reducible repeat (first | refine blk_drewN ?_ _ | refine blk_drew ?_ | refine blk_alloc ?_ _)); refine blk_far ?_ NB188_191.out _; (with_reducible repeat (first | refine blk_drewN ?_ _ | refine blk_drew ?_ | refine blk_alloc ?_ _)); refine blk_far ?_ NB188_191.out _; (with_reducible repeat (first | refine blk_drewN ?_ _ | refine blk_drew ?_ | refine blk_alloc ?_ _)); refine blk_far ?_ NB188_191.out _; (with_reducible repeat (first | refine blk_drewN ?_ _ | refine blk_drew ?_ | refine blk_alloc ?_ _)); exact BK188.out) hb); have n2_ := Aside0.mk (blk_below (g := gb191) (o := .cells #[.int .i64 a0_2, .int .i64 a0_3, .string a0_4] 23 (0, 0)) (by (with_reducible repeat (first | refine blk_drewN ?_ _ | refine blk_drew ?_ | refine blk_alloc ?_ _)); refine blk_put (cs := #[.int .i64 a0_2, .int .i64 a0_3, .string (⟨#[]⟩ : ByteArray)]) ?_ 2 _ rfl; (with_reducible repeat (first | refine blk_drewN ?_ _ | refine blk_drew ?_ | refine blk_alloc ?_ _)); refine blk_put (cs := #[.int .i64 a0_2, .int .i64 0, .string (⟨#[]⟩ : ByteArray)]) ?_ 1 _ rfl; (with_reducible repeat (first | refine blk_drewN ?_ _ | refine blk_drew ?_ | refine blk_alloc ?_ _)); refine blk_put (cs := #[.int .i64 0, .int .i64 0, .string (⟨#[]⟩ : ByteArray)]) ?_ 0 _ rfl; (with_reducible repeat (first | refine blk_drewN ?_ _ | refine blk_drew ?_ | refine blk_alloc ?_ _)); exact BK191.out) hb); have n3_ := Aside0.mk (below_step (by repeat (first | (with_reducible first | exact HB.out | apply below_alloc | apply pw_below_drewN | apply below_drew1 | refine below_set ?_ GE187.out | refine below_set ?_ GE188.out | refine below_set ?_ GE191.out) | exact HB.out)) hb); clear BK187; clear BK188; clear BK191; clear HB; have BK187 := n0_; have BK188 := n1_; have BK191 := n2_; have HB := n3_; clear n0_ n1_ n2_ n3_; (try clear hb); (try clear hb2); (try clear hk); (try clear hi); have hcz102_0 : w101.cell? ⟨gb187, 0, none⟩ = some (.string a0_0) := (blk_cell BK187.out 0).trans rfl; have hcz102_1 : w101.cell? ⟨gb187, 1, none⟩ = some (.int .i64 a0_1) := (blk_cell BK187.out 1).trans rfl; have hcz102_2 : w101.cell? ⟨gb187, 2, none⟩ = some (.int .i64 a0_2) := (blk_cell BK187.out 2).trans rfl; have hcz102_3 : w101.cell? ⟨gb187, 3, none⟩ = some (.int .i64 a0_3) := (blk_cell BK187.out 3).trans rfl; have hcz102_4 : w101.cell? ⟨gb187, 4, none⟩ = some (.string a0_4) := (blk_cell BK187.out 4).trans rfl; have hfz102_0 := blk_frozen BK187.out 0; have hfz102_1 := blk_frozen BK187.out 1; have hfz102_2 := blk_frozen BK187.out 2; have hfz102_3 := blk_frozen BK187.out 3; have hfz102_4 := blk_frozen BK187.out 4; have hcz103_0 : w101.cell? ⟨gb188, 0, none⟩ = some (.int .i64 a1_0) := (blk_cell BK188.out 0).trans rfl; have hcz103_1 : w101.cell? ⟨gb188, 1, none⟩ = some (.int .i64 a1_1) := (blk_cell BK188.out 1).trans rfl; have hcz103_2 : w101.cell? ⟨gb188, 2, none⟩ = some (.string a1_2) := (blk_cell BK188.out 2).trans rfl; have hfz103_0 := blk_frozen BK188.out 0; have hfz103_1 := blk_frozen BK188.out 1; have hfz103_2 := blk_frozen BK188.out 2; have hcz104_0 : w101.cell? ⟨gb191, 0, none⟩ = some (.int .i64 a0_2) := (blk_cell BK191.out 0).trans rfl; have hcz104_1 : w101.cell? ⟨gb191, 1, none⟩ = some (.int .i64 a0_3) := (blk_cell BK191.out 1).trans rfl; have hcz104_2 : w101.cell? ⟨gb191, 2, none⟩ = some (.string a0_4) := (blk_cell BK191.out 2).trans rfl; have hfz104_0 := blk_frozen BK191.out 0; have hfz104_1 := blk_frozen BK191.out 1; have hfz104_2 := blk_frozen BK191.out 2))
                          repeat (go_quiet (first | ((with_reducible refine gate_dst (N := 7) rfl ?_); (try (refine gate_guard (by rfl) ?_; dsimp only)); refine box_event ?hg (N := 7) ?hd (cs := #[.int .i64 0, .int .i64 0, .string (⟨#[]⟩ : ByteArray)]) (t := 23) ?hr ?_; (case hd => rfl); (case hg => rfl); (case hr => first | (go_simp; done) | (go_simp; rfl)); intro gb191 hg w96 hbox hb; have n0_ := Aside0.mk (blk_below (g := gb187) (o := .cells #[.string a0_0, .int .i64 a0_1, .int .i64 a0_2, .int .i64 a0_3, .string a0_4] 25 (0, 0)) (by (with_reducible repeat (first | refine blk_drewN ?_ _ | refine blk_drew ?_ | refine blk_alloc ?_ _)); exact BK187.out) hb); have n1_ := Aside0.mk (blk_below (g := gb188) (o := .cells #[.int .i64 a1_0, .int .i64 a1_1, .string a1_2] 23 (0, 0)) (by (with_reducible repeat (first | refine blk_drewN ?_ _ | refine blk_drew ?_ | refine blk_alloc ?_ _)); exact BK188.out) hb); have n2_ := Aside0.mk (below_step (by repeat (first | (with_reducible first | exact HB.out | apply below_alloc | apply pw_below_drewN | apply below_drew1 | refine below_set ?_ GE187.out | refine below_set ?_ GE188.out) | exact HB.out)) hb); have n3_ := Aside0.mk (hbox); have n4_ := Aside0.mk ((by rw [hg]; exact (below_size (by repeat (first | (with_reducible first | exact HB.out | apply below_alloc | apply pw_below_drewN | apply below_drew1 | refine below_set ?_ GE187.out | refine below_set ?_ GE188.out) | exact HB.out))) : w.heap.size ≤ gb191)); have n5_ := Aside0.mk ((by rw [hg]; exact (below_size (by repeat (first | (with_reducible first | exact HB.out | apply below_alloc | apply pw_below_drewN | apply below_drew1 | refine below_set ?_ GE187.out | refine below_set ?_ GE188.out) | exact HB.out))) : w.heap.size ≤ gb191)); have n6_ := Aside0.mk ((by rw [hg]; exact Nat.ne_of_lt (blk_lt (g := gb187) (o := .cells #[.string a0_0, .int .i64 a0_1, .int .i64 a0_2, .int .i64 a0_3, .string a0_4] 25 (0, 0)) (by (with_reducible repeat (first | refine blk_drewN ?_ _ | refine blk_drew ?_ | refine blk_alloc ?_ _)); exact BK187.out)) : gb187 ≠ gb191)); have n7_ := Aside0.mk ((by rw [hg]; exact Nat.ne_of_gt (blk_lt (g := gb187) (o := .cells #[.string a0_0, .int .i64 a0_1, .int .i64 a0_2, .int .i64 a0_3, .string a0_4] 25 (0, 0)) (by (with_reducible repeat (first | refine blk_drewN ?_ _ | refine blk_drew ?_ | refine blk_alloc ?_ _)); exact BK187.out)) : gb191 ≠ gb187)); have n8_ := Aside0.mk ((by rw [hg]; exact Nat.ne_of_lt (blk_lt (g := gb188) (o := .cells #[.int .i64 a1_0, .int .i64 a1_1, .string a1_2] 23 (0, 0)) (by (with_reducible repeat (first | refine blk_drewN ?_ _ | refine blk_drew ?_ | refine blk_alloc ?_ _)); exact BK188.out)) : gb188 ≠ gb191)); have n9_ := Aside0.mk ((by rw [hg]; exact Nat.ne_of_gt (blk_lt (g := gb188) (o := .cells #[.int .i64 a1_0, .int .i64 a1_1, .string a1_2] 23 (0, 0)) (by (with_reducible repeat (first | refine blk_drewN ?_ _ | refine blk_drew ?_ | refine blk_alloc ?_ _)); exact BK188.out)) : gb191 ≠ gb188)); clear BK187; clear BK188; clear HB; have BK187 := n0_; have BK188 := n1_; have HB := n2_; have BK191 := n3_; have GW191 := n4_; have GE191 := n5_; have NB187_191 := n6_; have NB191_187 := n7_; have NB188_191 := n8_; have NB191_188 := n9_; clear n0_ n1_ n2_ n3_ n4_ n5_ n6_ n7_ n8_ n9_; clear hb hbox hg; have hnb97 := NB191_187.out; have hnc97 := NB187_191.out; have hnb98 := NB191_188.out; have hnc98 := NB188_191.out; have hcz99_0 : w96.cell? ⟨gb191, 0, none⟩ = some (.int .i64 0) := (blk_cell BK191.out 0).trans rfl; have hcz99_1 : w96.cell? ⟨gb191, 1, none⟩ = some (.int .i64 0) := (blk_cell BK191.out 1).trans rfl; have hcz99_2 : w96.cell? ⟨gb191, 2, none⟩ = some (.string (⟨#[]⟩ : ByteArray)) := (blk_cell BK191.out 2).trans rfl; have hfz99_0 := blk_frozen BK191.out 0; have hfz99_1 := blk_frozen BK191.out 1; have hfz99_2 := blk_frozen BK191.out 2; have hcz100_0 : w96.cell? ⟨gb188, 0, none⟩ = some (.int .i64 a1_0) := (blk_cell BK188.out 0).trans rfl; have hcz100_1 : w96.cell? ⟨gb188, 1, none⟩ = some (.int .i64 a1_1) := (blk_cell BK188.out 1).trans rfl; have hcz100_2 : w96.cell? ⟨gb188, 2, none⟩ = some (.string a1_2) := (blk_cell BK188.out 2).trans rfl; have hfz100_0 := blk_frozen BK188.out 0; have hfz100_1 := blk_frozen BK188.out 1; have hfz100_2 := blk_frozen BK188.out 2) | (go_at_call 28; (with_reducible refine (rosetteref04_Compare.calls kj4 a1_0 a1_1 a1_2 a0_2 a0_3 a0_4 t192 _ A19.out).mono ?_); rintro e w101 ⟨rfl, hb⟩; have n0_ := Aside0.mk (blk_below (g := gb187) (o := .cells #[.string a0_0, .int .i64 a0_1, .int .i64 a0_2, .int .i64 a0_3, .string a0_4] 25 (0, 0)) (by (with_reducible repeat (first | refine blk_drewN ?_ _ | refine blk_drew ?_ | refine blk_alloc ?_ _)); refine blk_far ?_ NB187_191.out _; (with_reducible repeat (first | refine blk_drewN ?_ _ | refine blk_drew ?_ | refine blk_alloc ?_ _)); refine blk_far ?_ NB187_191.out _; (with_reducible repeat (first | refine blk_drewN ?_ _ | refine blk_drew ?_ | refine blk_alloc ?_ _)); refine blk_far ?_ NB187_191.out _; (with_reducible repeat (first | refine blk_drewN ?_ _ | refine blk_drew ?_ | refine blk_alloc ?_ _)); exact BK187.out) hb); have n1_ := Aside0.mk (blk_below (g := gb188) (o := .cells #[.int .i64 a1_0, .int .i64 a1_1, .string a1_2] 23 (0, 0)) (by (with_reducible repeat (first | refine blk_drewN ?_ _ | refine blk_drew ?_ | refine blk_alloc ?_ _)); refine blk_far ?_ NB188_191.out _; (with_reducible repeat (first | refine blk_drewN ?_ _ | refine blk_drew ?_ | refine blk_alloc ?_ _)); refine blk_far ?_ NB188_191.out _; (with_reducible repeat (first | refine blk_drewN ?_ _ | refine blk_drew ?_ | refine blk_alloc ?_ _)); refine blk_far ?_ NB188_191.out _; (with_reducible repeat (first | refine blk_drewN ?_ _ | refine blk_drew ?_ | refine blk_alloc ?_ _)); exact BK188.out) hb); have n2_ := Aside0.mk (blk_below (g := gb191) (o := .cells #[.int .i64 a0_2, .int .i64 a0_3, .string a0_4] 23 (0, 0)) (by (with_reducible repeat (first | refine blk_drewN ?_ _ | refine blk_drew ?_ | refine blk_alloc ?_ _)); refine blk_put (cs := #[.int .i64 a0_2, .int .i64 a0_3, .string (⟨#[]⟩ : ByteArray)]) ?_ 2 _ rfl; (with_reducible repeat (first | refine blk_drewN ?_ _ | refine blk_drew ?_ | refine blk_alloc ?_ _)); refine blk_put (cs := #[.int .i64 a0_2, .int .i64 0, .string (⟨#[]⟩ : ByteArray)]) ?_ 1 _ rfl; (with_reducible repeat (first | refine blk_drewN ?_ _ | refine blk_drew ?_ | refine blk_alloc ?_ _)); refine blk_put (cs := #[.int .i64 0, .int .i64 0, .string (⟨#[]⟩ : ByteArray)]) ?_ 0 _ rfl; (with_reducible repeat (first | refine blk_drewN ?_ _ | refine blk_drew ?_ | refine blk_alloc ?_ _)); exact BK191.out) hb); have n3_ := Aside0.mk (below_step (by repeat (first | (with_reducible first | exact HB.out | apply below_alloc | apply pw_below_drewN | apply below_drew1 | refine below_set ?_ GE187.out | refine below_set ?_ GE188.out | refine below_set ?_ GE191.out) | exact HB.out)) hb); clear BK187; clear BK188; clear BK191; clear HB; have BK187 := n0_; have BK188 := n1_; have BK191 := n2_; have HB := n3_; clear n0_ n1_ n2_ n3_; (try clear hb); (try clear hb2); (try clear hk); (try clear hi); have hcz102_0 : w101.cell? ⟨gb187, 0, none⟩ = some (.string a0_0) := (blk_cell BK187.out 0).trans rfl; have hcz102_1 : w101.cell? ⟨gb187, 1, none⟩ = some (.int .i64 a0_1) := (blk_cell BK187.out 1).trans rfl; have hcz102_2 : w101.cell? ⟨gb187, 2, none⟩ = some (.int .i64 a0_2) := (blk_cell BK187.out 2).trans rfl; have hcz102_3 : w101.cell? ⟨gb187, 3, none⟩ = some (.int .i64 a0_3) := (blk_cell BK187.out 3).trans rfl; have hcz102_4 : w101.cell? ⟨gb187, 4, none⟩ = some (.string a0_4) := (blk_cell BK187.out 4).trans rfl; have hfz102_0 := blk_frozen BK187.out 0; have hfz102_1 := blk_frozen BK187.out 1; have hfz102_2 := blk_frozen BK187.out 2; have hfz102_3 := blk_frozen BK187.out 3; have hfz102_4 := blk_frozen BK187.out 4; have hcz103_0 : w101.cell? ⟨gb188, 0, none⟩ = some (.int .i64 a1_0) := (blk_cell BK188.out 0).trans rfl; have hcz103_1 : w101.cell? ⟨gb188, 1, none⟩ = some (.int .i64 a1_1) := (blk_cell BK188.out 1).trans rfl; have hcz103_2 : w101.cell? ⟨gb188, 2, none⟩ = some (.string a1_2) := (blk_cell BK188.out 2).trans rfl; have hfz103_0 := blk_frozen BK188.out 0; have hfz103_1 := blk_frozen BK188.out 1; have hfz103_2 := blk_frozen BK188.out 2; have hcz104_0 : w101.cell? ⟨gb191, 0, none⟩ = some (.int .i64 a0_2) := (blk_cell BK191.out 0).trans rfl; have hcz104_1 : w101.cell? ⟨gb191, 1, none⟩ = some (.int .i64 a0_3) := (blk_cell BK191.out 1).trans rfl; have hcz104_2 : w101.cell? ⟨gb191, 2, none⟩ = some (.string a0_4) := (blk_cell BK191.out 2).trans rfl; have hfz104_0 := blk_frozen BK191.out 0; have hfz104_1 := blk_frozen BK191.out 1; have hfz104_2 := blk_frozen BK191.out 2)); try go_wp2_with (first | (go_at_call 28; (with_reducible refine (rosetteref04_Compare.calls kj4 a1_0 a1_1 a1_2 a0_2 a0_3 a0_4 t192 _ A19.out).mono ?_); rintro e w101 ⟨rfl, hb⟩; have n0_ := Aside0.mk (blk_below (g := gb187) (o := .cells #[.string a0_0, .int .i64 a0_1, .int .i64 a0_2, .int .i64 a0_3, .string a0_4] 25 (0, 0)) (by (with_reducible repeat (first | refine blk_drewN ?_ _ | refine blk_drew ?_ | refine blk_alloc ?_ _)); refine blk_far ?_ NB187_191.out _; (with_reducible repeat (first | refine blk_drewN ?_ _ | refine blk_drew ?_ | refine blk_alloc ?_ _)); refine blk_far ?_ NB187_191.out _; (with_reducible repeat (first | refine blk_drewN ?_ _ | refine blk_drew ?_ | refine blk_alloc ?_ _)); refine blk_far ?_ NB187_191.out _; (with_reducible repeat (first | refine blk_drewN ?_ _ | refine blk_drew ?_ | refine blk_alloc ?_ _)); exact BK187.out) hb); have n1_ := Aside0.mk (blk_below (g := gb188) (o := .cells #[.int .i64 a1_0, .int .i64 a1_1, .string a1_2] 23 (0, 0)) (by (with_reducible repeat (first | refine blk_drewN ?_ _ | refine blk_drew ?_ | refine blk_alloc ?_ _)); refine blk_far ?_ NB188_191.out _; (with_reducible repeat (first | refine blk_drewN ?_ _ | refine blk_drew ?_ | refine blk_alloc ?_ _)); refine blk_far ?_ NB188_191.out _; (with_reducible repeat (first | refine blk_drewN ?_ _ | refine blk_drew ?_ | refine blk_alloc ?_ _)); refine blk_far ?_ NB188_191.out _; (with_reducible repeat (first | refine blk_drewN ?_ _ | refine blk_drew ?_ | refine blk_alloc ?_ _)); exact BK188.out) hb); have n2_ := Aside0.mk (blk_below (g := gb191) (o := .cells #[.int .i64 a0_2, .int .i64 a0_3, .string a0_4] 23 (0, 0)) (by (with_reducible repeat (first | refine blk_drewN ?_ _ | refine blk_drew ?_ | refine blk_alloc ?_ _)); refine blk_put (cs := #[.int .i64 a0_2, .int .i64 a0_3, .string (⟨#[]⟩ : ByteArray)]) ?_ 2 _ rfl; (with_reducible repeat (first | refine blk_drewN ?_ _ | refine blk_drew ?_ | refine blk_alloc ?_ _)); refine blk_put (cs := #[.int .i64 a0_2, .int .i64 0, .string (⟨#[]⟩ : ByteArray)]) ?_ 1 _ rfl; (with_reducible repeat (first | refine blk_drewN ?_ _ | refine blk_drew ?_ | refine blk_alloc ?_ _)); refine blk_put (cs := #[.int .i64 0, .int .i64 0, .string (⟨#[]⟩ : ByteArray)]) ?_ 0 _ rfl; (with_reducible repeat (first | refine blk_drewN ?_ _ | refine blk_drew ?_ | refine blk_alloc ?_ _)); exact BK191.out) hb); have n3_ := Aside0.mk (below_step (by repeat (first | (with_reducible first | exact HB.out | apply below_alloc | apply pw_below_drewN | apply below_drew1 | refine below_set ?_ GE187.out | refine below_set ?_ GE188.out | refine below_set ?_ GE191.out) | exact HB.out)) hb); clear BK187; clear BK188; clear BK191; clear HB; have BK187 := n0_; have BK188 := n1_; have BK191 := n2_; have HB := n3_; clear n0_ n1_ n2_ n3_; (try clear hb); (try clear hb2); (try clear hk); (try clear hi); have hcz102_0 : w101.cell? ⟨gb187, 0, none⟩ = some (.string a0_0) := (blk_cell BK187.out 0).trans rfl; have hcz102_1 : w101.cell? ⟨gb187, 1, none⟩ = some (.int .i64 a0_1) := (blk_cell BK187.out 1).trans rfl; have hcz102_2 : w101.cell? ⟨gb187, 2, none⟩ = some (.int .i64 a0_2) := (blk_cell BK187.out 2).trans rfl; have hcz102_3 : w101.cell? ⟨gb187, 3, none⟩ = some (.int .i64 a0_3) := (blk_cell BK187.out 3).trans rfl; have hcz102_4 : w101.cell? ⟨gb187, 4, none⟩ = some (.string a0_4) := (blk_cell BK187.out 4).trans rfl; have hfz102_0 := blk_frozen BK187.out 0; have hfz102_1 := blk_frozen BK187.out 1; have hfz102_2 := blk_frozen BK187.out 2; have hfz102_3 := blk_frozen BK187.out 3; have hfz102_4 := blk_frozen BK187.out 4; have hcz103_0 : w101.cell? ⟨gb188, 0, none⟩ = some (.int .i64 a1_0) := (blk_cell BK188.out 0).trans rfl; have hcz103_1 : w101.cell? ⟨gb188, 1, none⟩ = some (.int .i64 a1_1) := (blk_cell BK188.out 1).trans rfl; have hcz103_2 : w101.cell? ⟨gb188, 2, none⟩ = some (.string a1_2) := (blk_cell BK188.out 2).trans rfl; have hfz103_0 := blk_frozen BK188.out 0; have hfz103_1 := blk_frozen BK188.out 1; have hfz103_2 := blk_frozen BK188.out 2; have hcz104_0 : w101.cell? ⟨gb191, 0, none⟩ = some (.int .i64 a0_2) := (blk_cell BK191.out 0).trans rfl; have hcz104_1 : w101.cell? ⟨gb191, 1, none⟩ = some (.int .i64 a0_3) := (blk_cell BK191.out 1).trans rfl; have hcz104_2 : w101.cell? ⟨gb191, 2, none⟩ = some (.string a0_4) := (blk_cell BK191.out 2).trans rfl; have hfz104_0 := blk_frozen BK191.out 0; have hfz104_1 := blk_frozen BK191.out 1; have hfz104_2 := blk_frozen BK191.out 2)))
                          go_ret
                          exact ⟨by first | rfl | (simp [errW_none, errW_some] <;> rfl) | (simp [*, errW_none, errW_some] <;> rfl), by repeat (first | (with_reducible first | exact HB.out | apply below_alloc | apply pw_below_drewN | apply below_drew1 | refine below_set ?_ GE187.out | refine below_set ?_ GE188.out | refine below_set ?_ GE191.out) | exact HB.out)⟩
          · rw [if_neg c18] at H
            have c18b0 : (a1_0 == a0_2) = false := beq_eq_false_iff_ne.mpr c18
            have c18b1 : (a1_0 != a0_2) = true := bne_iff_ne.mpr c18
            obtain rfl := Option.some.inj H
            have hnb105 := NB187_188.out
            have hnc105 := NB188_187.out
            have hcz106_0 : wc.cell? ⟨gb187, 0, none⟩ = some (.string a0_0) := (blk_cell BK187.out 0).trans rfl
            have hcz106_1 : wc.cell? ⟨gb187, 1, none⟩ = some (.int .i64 a0_1) := (blk_cell BK187.out 1).trans rfl
            have hcz106_2 : wc.cell? ⟨gb187, 2, none⟩ = some (.int .i64 a0_2) := (blk_cell BK187.out 2).trans rfl
            have hcz106_3 : wc.cell? ⟨gb187, 3, none⟩ = some (.int .i64 a0_3) := (blk_cell BK187.out 3).trans rfl
            have hcz106_4 : wc.cell? ⟨gb187, 4, none⟩ = some (.string a0_4) := (blk_cell BK187.out 4).trans rfl
            have hfz106_0 := blk_frozen BK187.out 0
            have hfz106_1 := blk_frozen BK187.out 1
            have hfz106_2 := blk_frozen BK187.out 2
            have hfz106_3 := blk_frozen BK187.out 3
            have hfz106_4 := blk_frozen BK187.out 4
            go_wp2_with (first | ((with_reducible refine gate_dst (N := 7) rfl ?_); (try (refine gate_guard (by rfl) ?_; dsimp only)); refine box_event ?hg (N := 7) ?hd (cs := #[.int .i64 0, .int .i64 0, .string (⟨#[]⟩ : ByteArray)]) (t := 23) ?hr ?_; (case hd => rfl); (case hg => rfl); (case hr => first | (go_simp; done) | (go_simp; rfl)); intro gb191 hg w107 hbox hb; have n0_ := Aside0.mk (blk_below (g := gb187) (o := .cells #[.string a0_0, .int .i64 a0_1, .int .i64 a0_2, .int .i64 a0_3, .string a0_4] 25 (0, 0)) (by (with_reducible repeat (first | refine blk_drewN ?_ _ | refine blk_drew ?_ | refine blk_alloc ?_ _)); exact BK187.out) hb); have n1_ := Aside0.mk (blk_below (g := gb188) (o := .cells #[.int .i64 a1_0, .int .i64 a1_1, .string a1_2] 23 (0, 0)) (by (with_reducible repeat (first | refine blk_drewN ?_ _ | refine blk_drew ?_ | refine blk_alloc ?_ _)); exact BK188.out) hb); have n2_ := Aside0.mk (below_step (by repeat (first | (with_reducible first | exact HB.out | apply below_alloc | apply pw_below_drewN | apply below_drew1 | refine below_set ?_ GE187.out | refine below_set ?_ GE188.out) | exact HB.out)) hb); have n3_ := Aside0.mk (hbox); have n4_ := Aside0.mk ((by rw [hg]; exact (below_size (by repeat (first | (with_reducible first | exact HB.out | apply below_alloc | apply pw_below_drewN | apply below_drew1 | refine below_set ?_ GE187.out | refine below_set ?_ GE188.out) | exact HB.out))) : w.heap.size ≤ gb191)); have n5_ := Aside0.mk ((by rw [hg]; exact (below_size (by repeat (first | (with_reducible first | exact HB.out | apply below_alloc | apply pw_below_drewN | apply below_drew1 | refine below_set ?_ GE187.out | refine below_set ?_ GE188.out) | exact HB.out))) : w.heap.size ≤ gb191)); have n6_ := Aside0.mk ((by rw [hg]; exact Nat.ne_of_lt (blk_lt (g := gb187) (o := .cells #[.string a0_0, .int .i64 a0_1, .int .i64 a0_2, .int .i64 a0_3, .string a0_4] 25 (0, 0)) (by (with_reducible repeat (first | refine blk_drewN ?_ _ | refine blk_drew ?_ | refine blk_alloc ?_ _)); exact BK187.out)) : gb187 ≠ gb191)); have n7_ := Aside0.mk ((by rw [hg]; exact Nat.ne_of_gt (blk_lt (g := gb187) (o := .cells #[.string a0_0, .int .i64 a0_1, .int .i64 a0_2, .int .i64 a0_3, .string a0_4] 25 (0, 0)) (by (with_reducible repeat (first | refine blk_drewN ?_ _ | refine blk_drew ?_ | refine blk_alloc ?_ _)); exact BK187.out)) : gb191 ≠ gb187)); have n8_ := Aside0.mk ((by rw [hg]; exact Nat.ne_of_lt (blk_lt (g := gb188) (o := .cells #[.int .i64 a1_0, .int .i64 a1_1, .string a1_2] 23 (0, 0)) (by (with_reducible repeat (first | refine blk_drewN ?_ _ | refine blk_drew ?_ | refine blk_alloc ?_ _)); exact BK188.out)) : gb188 ≠ gb191)); have n9_ := Aside0.mk ((by rw [hg]; exact Nat.ne_of_gt (blk_lt (g := gb188) (o := .cells #[.int .i64 a1_0, .int .i64 a1_1, .string a1_2] 23 (0, 0)) (by (with_reducible repeat (first | refine blk_drewN ?_ _ | refine blk_drew ?_ | refine blk_alloc ?_ _)); exact BK188.out)) : gb191 ≠ gb188)); clear BK187; clear BK188; clear HB; have BK187 := n0_; have BK188 := n1_; have HB := n2_; have BK191 := n3_; have GW191 := n4_; have GE191 := n5_; have NB187_191 := n6_; have NB191_187 := n7_; have NB188_191 := n8_; have NB191_188 := n9_; clear n0_ n1_ n2_ n3_ n4_ n5_ n6_ n7_ n8_ n9_; clear hb hbox hg; have hnb108 := NB191_187.out; have hnc108 := NB187_191.out; have hnb109 := NB191_188.out; have hnc109 := NB188_191.out; have hcz110_0 : w107.cell? ⟨gb191, 0, none⟩ = some (.int .i64 0) := (blk_cell BK191.out 0).trans rfl; have hcz110_1 : w107.cell? ⟨gb191, 1, none⟩ = some (.int .i64 0) := (blk_cell BK191.out 1).trans rfl; have hcz110_2 : w107.cell? ⟨gb191, 2, none⟩ = some (.string (⟨#[]⟩ : ByteArray)) := (blk_cell BK191.out 2).trans rfl; have hfz110_0 := blk_frozen BK191.out 0; have hfz110_1 := blk_frozen BK191.out 1; have hfz110_2 := blk_frozen BK191.out 2; have hcz111_0 : w107.cell? ⟨gb188, 0, none⟩ = some (.int .i64 a1_0) := (blk_cell BK188.out 0).trans rfl; have hcz111_1 : w107.cell? ⟨gb188, 1, none⟩ = some (.int .i64 a1_1) := (blk_cell BK188.out 1).trans rfl; have hcz111_2 : w107.cell? ⟨gb188, 2, none⟩ = some (.string a1_2) := (blk_cell BK188.out 2).trans rfl; have hfz111_0 := blk_frozen BK188.out 0; have hfz111_1 := blk_frozen BK188.out 1; have hfz111_2 := blk_frozen BK188.out 2))
            go_ret
            exact ⟨by first | rfl | (simp [errW_none, errW_some] <;> rfl) | (simp [*, errW_none, errW_some] <;> rfl), by repeat (first | (with_reducible first | exact HB.out | apply below_alloc | apply pw_below_drewN | apply below_drew1 | refine below_set ?_ GE187.out | refine below_set ?_ GE188.out | refine below_set ?_ GE191.out) | exact HB.out)⟩

end Go.Proofs.Ytojefdnngkcaoaa.G
end

section
-- Written by a program of this session (wip/tools/myprint.py), over the kit's print.
namespace Go.Proofs.Ytojefdnngkcaoaa.G
open Go.RowKit Go.Proofs.YtojefdnngkcaoaaW.PrintWords Go.Proofs.YtojefdnngkcaoaaW.PrintLast Go.Proofs.YtojefdnngkcaoaaW.PrintMore
attribute [local go_sem] max2_int min2_int max_two min_two max_three min_three max_four min_four   -- for this text's walks alone
set_option linter.unusedVariables false
set_option linter.unusedSimpArgs false

/-! ### rosetteref06_Meets: function 15 -/
def rosetteref06_Meets.f (k : Nat) (a0_0 : ByteArray) (a0_1 : Int) (a0_2 : Int) (a0_3 : Int) (a0_4 : ByteArray) (l1 : List (S52)) : Option (Bool) := (rosetteref05_Get.f k l1 a0_0).bind fun bt197 => (if bt197.2.2.2 = true then ((rosetteref06_Holds.f k a0_0 a0_1 a0_2 a0_3 a0_4 bt197.1 bt197.2.1 bt197.2.2.1).bind fun t202 => (some t202)) else (some false))
theorem rosetteref06_Meets.mono : ∀ a0 a1 a2 a3 a4 a5 k, LeO (rosetteref06_Meets.f k a0 a1 a2 a3 a4 a5) (rosetteref06_Meets.f (k + 1) a0 a1 a2 a3 a4 a5) := by
  intro a0 a1 a2 a3 a4 a5 k
  unfold rosetteref06_Meets.f
  repeat' first
      | (with_reducible exact rosetteref05_Get.mono _ _ _)
      | (with_reducible exact rosetteref06_Holds.mono _ _ _ _ _ _ _ _ _)
      | (with_reducible exact LeO.refl _)
      | (with_reducible exact LeO.none _)
      | (with_reducible refine LeO.ite ?_ ?_)
      | (with_reducible refine LeO.bind ?_ (fun _ => ?_))
      | exact rosetteref05_Get.mono _ _ _
      | exact rosetteref06_Holds.mono _ _ _ _ _ _ _ _ _
      | exact LeO.none _
      | refine LeO.ite ?_ ?_
      | refine LeO.bind ?_ (fun _ => ?_)
set_option maxHeartbeats 8000000 in
set_option maxRecDepth 100000 in
theorem rosetteref06_Meets.calls (k : Nat) (a0_0 : ByteArray) (a0_1 : Int) (a0_2 : Int) (a0_3 : Int) (a0_4 : ByteArray) (A1 : Option Addr) (c1 : Nat) (l1 : List (S52)) (r : Bool) (w : World) (hr1 : Kd.C k52 w A1 l1.length l1) (hc1 : l1.length ≤ c1) (h : rosetteref06_Meets.f k a0_0 a0_1 a0_2 a0_3 a0_4 l1 = some r) :
    Calls Try.prog 15 #[.agg #[.string a0_0, .int .i64 a0_1, .int .i64 a0_2, .int .i64 a0_3, .string a0_4], .slice A1 l1.length c1] w fun e w' => e = .returned (.bool r) ∧ Below w.heap.size w w' := by
  have hu25 := Try.underlying25
  have hu23 := Try.underlying23
  have HR1 := Aside0.mk hr1
  have HC1 := Aside0.mk hc1
  clear hr1 hc1
  have HB := Aside0.mk (Below.refl w.heap.size w)
  have H : ((rosetteref05_Get.f k l1 a0_0).bind fun bt197 => (if bt197.2.2.2 = true then ((rosetteref06_Holds.f k a0_0 a0_1 a0_2 a0_3 a0_4 bt197.1 bt197.2.1 bt197.2.2.1).bind fun t202 => (some t202)) else (some false))) = some r := h
  clear h
  replace H := Option.bind_eq_some_iff.mp H
  obtain ⟨⟨t197, t198, t199, t200⟩, A30, H⟩ := H
  replace H : (if t200 = true then ((rosetteref06_Holds.f k a0_0 a0_1 a0_2 a0_3 a0_4 t197 t198 t199).bind fun t202 => (some t202)) else (some false)) = some r := H
  have A3 := Aside0.mk A30
  clear A30
  by_cases c4 : t200 = true
  · subst c4
    have H1 : ((rosetteref06_Holds.f k a0_0 a0_1 a0_2 a0_3 a0_4 t197 t198 t199).bind fun t202 => (some t202)) = some r := by rw [if_pos rfl] at H; exact H
    clear H
    have H := H1
    clear H1
    replace H := Option.bind_eq_some_iff.mp H
    obtain ⟨t202, A50, H⟩ := H
    replace H : (some t202) = some r := H
    have A5 := Aside0.mk A50
    clear A50
    obtain rfl := Option.some.inj H
    go_enter Try.func15, Try.ntmps15
    go_wp2_with (first | ((with_reducible refine gate_dst (N := 2) rfl ?_); refine box_event ?hg (N := 2) ?hd (cs := #[.string a0_0, .int .i64 a0_1, .int .i64 a0_2, .int .i64 a0_3, .string a0_4]) (t := 25) ?hr ?_; (case hd => rfl); (case hg => rfl); (case hr => first | (go_simp; done) | (go_simp; rfl)); intro gb196 hg w6 hbox hb; have n0_ := Aside0.mk (below_step (by repeat (first | (with_reducible first | exact HB.out | apply below_alloc | apply pw_below_drewN | apply below_drew1) | exact HB.out)) hb); have n1_ := Aside0.mk (hbox); have n2_ := Aside0.mk ((by rw [hg]; exact (below_size (by repeat (first | (with_reducible first | exact HB.out | apply below_alloc | apply pw_below_drewN | apply below_drew1) | exact HB.out))) : w.heap.size ≤ gb196)); have n3_ := Aside0.mk ((by rw [hg]; exact (below_size (by repeat (first | (with_reducible first | exact HB.out | apply below_alloc | apply pw_below_drewN | apply below_drew1) | exact HB.out))) : w.heap.size ≤ gb196)); clear HB; have HB := n0_; have BK196 := n1_; have GW196 := n2_; have GE196 := n3_; clear n0_ n1_ n2_ n3_; clear hb hbox hg; have hcz7_0 : w6.cell? ⟨gb196, 0, none⟩ = some (.string a0_0) := (blk_cell BK196.out 0).trans rfl; have hcz7_1 : w6.cell? ⟨gb196, 1, none⟩ = some (.int .i64 a0_1) := (blk_cell BK196.out 1).trans rfl; have hcz7_2 : w6.cell? ⟨gb196, 2, none⟩ = some (.int .i64 a0_2) := (blk_cell BK196.out 2).trans rfl; have hcz7_3 : w6.cell? ⟨gb196, 3, none⟩ = some (.int .i64 a0_3) := (blk_cell BK196.out 3).trans rfl; have hcz7_4 : w6.cell? ⟨gb196, 4, none⟩ = some (.string a0_4) := (blk_cell BK196.out 4).trans rfl; have hfz7_0 := blk_frozen BK196.out 0; have hfz7_1 := blk_frozen BK196.out 1; have hfz7_2 := blk_frozen BK196.out 2; have hfz7_3 := blk_frozen BK196.out 3; have hfz7_4 := blk_frozen BK196.out 4) | ((with_reducible refine gate_callee (f := 30) rfl ?_); refine goesL_ (some 11) rfl rfl Try.func30 (by kernel_rfl) rfl #[.slice A1 l1.length c1, .string a0_0] rfl (by (try simp only [List.map_toArray, List.map_cons, List.map_nil]); first | done | rfl | (simp only [List.length_drop, List.length_take]; rfl)) ?_; (with_reducible refine (rosetteref05_Get.calls k _ _ l1 a0_0 t197 t198 t199 true _ ?side1 ?side2 A3.out).mono ?_); (case side1 => repeat (first | exact (Kd.C_below HR1.out HB.out) | (with_reducible refine Kd.C_alloc ?_ _) | (with_reducible refine Kd.C_drewN ?_ _) | (with_reducible refine Kd.C_drew ?_))); (case side2 => exact HC1.out); rintro e w8 ⟨rfl, hb⟩; refine ⟨_, rfl, ?_⟩; have n0_ := Aside0.mk (blk_below (g := gb196) (o := .cells #[.string a0_0, .int .i64 a0_1, .int .i64 a0_2, .int .i64 a0_3, .string a0_4] 25 (0, 0)) (by (with_reducible repeat (first | refine blk_drewN ?_ _ | refine blk_drew ?_ | refine blk_alloc ?_ _)); exact BK196.out) hb); have n1_ := Aside0.mk (below_step (by repeat (first | (with_reducible first | exact HB.out | apply below_alloc | apply pw_below_drewN | apply below_drew1 | refine below_set ?_ GE196.out) | exact HB.out)) hb); clear BK196; clear HB; have BK196 := n0_; have HB := n1_; clear n0_ n1_; (try clear hb); (try clear hb2); (try clear hk); (try clear hi)) | ((with_reducible refine gate_dst (N := 5) rfl ?_); refine box_event ?hg (N := 5) ?hd (cs := #[.int .i64 0, .int .i64 0, .string (⟨#[]⟩ : ByteArray)]) (t := 23) ?hr ?_; (case hd => rfl); (case hg => rfl); (case hr => first | (go_simp; done) | (go_simp; rfl)); intro gb201 hg w9 hbox hb; have n0_ := Aside0.mk (blk_below (g := gb196) (o := .cells #[.string a0_0, .int .i64 a0_1, .int .i64 a0_2, .int .i64 a0_3, .string a0_4] 25 (0, 0)) (by (with_reducible repeat (first | refine blk_drewN ?_ _ | refine blk_drew ?_ | refine blk_alloc ?_ _)); exact BK196.out) hb); have n1_ := Aside0.mk (below_step (by repeat (first | (with_reducible first | exact HB.out | apply below_alloc | apply pw_below_drewN | apply below_drew1 | refine below_set ?_ GE196.out) | exact HB.out)) hb); have n2_ := Aside0.mk (hbox); have n3_ := Aside0.mk ((by rw [hg]; exact (below_size (by repeat (first | (with_reducible first | exact HB.out | apply below_alloc | apply pw_below_drewN | apply below_drew1 | refine below_set ?_ GE196.out) | exact HB.out))) : w.heap.size ≤ gb201)); have n4_ := Aside0.mk ((by rw [hg]; exact (below_size (by repeat (first | (with_reducible first | exact HB.out | apply below_alloc | apply pw_below_drewN | apply below_drew1 | refine below_set ?_ GE196.out) | exact HB.out))) : w.heap.size ≤ gb201)); have n5_ := Aside0.mk ((by rw [hg]; exact Nat.ne_of_lt (blk_lt (g := gb196) (o := .cells #[.string a0_0, .int .i64 a0_1, .int .i64 a0_2, .int .i64 a0_3, .string a0_4] 25 (0, 0)) (by (with_reducible repeat (first | refine blk_drewN ?_ _ | refine blk_drew ?_ | refine blk_alloc ?_ _)); exact BK196.out)) : gb196 ≠ gb201)); have n6_ := Aside0.mk ((by rw [hg]; exact Nat.ne_of_gt (blk_lt (g := gb196) (o := .cells #[.string a0_0, .int .i64 a0_1, .int .i64 a0_2, .int .i64 a0_3, .string a0_4] 25 (0, 0)) (by (with_reducible repeat (first | refine blk_drewN ?_ _ | refine blk_drew ?_ | refine blk_alloc ?_ _)); exact BK196.out)) : gb201 ≠ gb196)); clear BK196; clear HB; have BK196 := n0_; have HB := n1_; have BK201 := n2_; have GW201 := n3_; have GE201 := n4_; have NB196_201 := n5_; have NB201_196 := n6_; clear n0_ n1_ n2_ n3_ n4_ n5_ n6_; clear hb hbox hg; have hnb10 := NB201_196.out; have hnc10 := NB196_201.out; have hcz11_0 : w9.cell? ⟨gb201, 0, none⟩ = some (.int .i64 0) := (blk_cell BK201.out 0).trans rfl; have hcz11_1 : w9.cell? ⟨gb201, 1, none⟩ = some (.int .i64 0) := (blk_cell BK201.out 1).trans rfl; have hcz11_2 : w9.cell? ⟨gb201, 2, none⟩ = some (.string (⟨#[]⟩ : ByteArray)) := (blk_cell BK201.out 2).trans rfl; have hfz11_0 := blk_frozen BK201.out 0; have hfz11_1 := blk_frozen BK201.out 1; have hfz11_2 := blk_frozen BK201.out 2; have hcz12_0 : w9.cell? ⟨gb196, 0, none⟩ = some (.string a0_0) := (blk_cell BK196.out 0).trans rfl; have hcz12_1 : w9.cell? ⟨gb196, 1, none⟩ = some (.int .i64 a0_1) := (blk_cell BK196.out 1).trans rfl; have hcz12_2 : w9.cell? ⟨gb196, 2, none⟩ = some (.int .i64 a0_2) := (blk_cell BK196.out 2).trans rfl; have hcz12_3 : w9.cell? ⟨gb196, 3, none⟩ = some (.int .i64 a0_3) := (blk_cell BK196.out 3).trans rfl; have hcz12_4 : w9.cell? ⟨gb196, 4, none⟩ = some (.string a0_4) := (blk_cell BK196.out 4).trans rfl; have hfz12_0 := blk_frozen BK196.out 0; have hfz12_1 := blk_frozen BK196.out 1; have hfz12_2 := blk_frozen BK196.out 2; have hfz12_3 := blk_frozen BK196.out 3; have hfz12_4 := blk_frozen BK196.out 4) | (go_at_call 13; (with_reducible refine (rosetteref06_Holds.calls k a0_0 a0_1 a0_2 a0_3 a0_4 t197 t198 t199 t202 _ A5.out).mono ?_); rintro e w13 ⟨rfl, hb⟩; have n0_ := Aside0.mk (blk_below (g := gb196) (o := .cells #[.string a0_0, .int .i64 a0_1, .int .i64 a0_2, .int .i64 a0_3, .string a0_4] 25 (0, 0)) (by (with_reducible repeat (first | refine blk_drewN ?_ _ | refine blk_drew ?_ | refine blk_alloc ?_ _)); refine blk_far ?_ NB196_201.out _; (with_reducible repeat (first | refine blk_drewN ?_ _ | refine blk_drew ?_ | refine blk_alloc ?_ _)); refine blk_far ?_ NB196_201.out _; (with_reducible repeat (first | refine blk_drewN ?_ _ | refine blk_drew ?_ | refine blk_alloc ?_ _)); refine blk_far ?_ NB196_201.out _; (with_reducible repeat (first | refine blk_drewN ?_ _ | refine blk_drew ?_ | refine blk_alloc ?_ _)); exact BK196.out) hb); have n1_ := Aside0.mk (blk_below (g := gb201) (o := .cells #[.int .i64 t197, .int .i64 t198, .string t199] 23 (0, 0)) (by (with_reducible repeat (first | refine blk_drewN ?_ _ | refine blk_drew ?_ | refine blk_alloc ?_ _)); refine blk_put (cs := #[.int .i64 t197, .int .i64 t198, .string (⟨#[]⟩ : ByteArray)]) ?_ 2 _ rfl; (with_reducible repeat (first | refine blk_drewN ?_ _ | refine blk_drew ?_ | refine blk_alloc ?_ _)); refine blk_put (cs := #[.int .i64 t197, .int .i64 0, .string (⟨#[]⟩ : ByteArray)]) ?_ 1 _ rfl; (with_reducible repeat (first | refine blk_drewN ?_ _ | refine blk_drew ?_ | refine blk_alloc ?_ _)); refine blk_put (cs := #[.int .i64 0, .int .i64 0, .string (⟨#[]⟩ : ByteArray)]) ?_ 0 _ rfl; (with_reducible repeat (first | refine blk_drewN ?_ _ | refine blk_drew ?_ | refine blk_alloc ?_ _)); exact BK201.out) hb); have n2_ := Aside0.mk (below_step (by repeat (first | (with_reducible first | exact HB.out | apply below_alloc | apply pw_below_drewN | apply below_drew1 | refine below_set ?_ GE196.out | refine below_set ?_ GE201.out) | exact HB.out)) hb); clear BK196; clear BK201; clear HB; have BK196 := n0_; have BK201 := n1_; have HB := n2_; clear n0_ n1_ n2_; (try clear hb); (try clear hb2); (try clear hk); (try clear hi)))
    go_ret
    exact ⟨by first | rfl | (simp [errW_none, errW_some] <;> rfl) | (simp [*, errW_none, errW_some] <;> rfl), by repeat (first | (with_reducible first | exact HB.out | apply below_alloc | apply pw_below_drewN | apply below_drew1 | refine below_set ?_ GE196.out | refine below_set ?_ GE201.out) | exact HB.out)⟩
  · replace c4 := Bool.eq_false_iff.mpr c4
    subst c4
    have H1 : (some false) = some r := by rw [if_neg (show ¬ (false = true) by decide)] at H; exact H
    clear H
    have H := H1
    clear H1
    obtain rfl := Option.some.inj H
    go_enter Try.func15, Try.ntmps15
    go_wp2_with (first | ((with_reducible refine gate_dst (N := 2) rfl ?_); refine box_event ?hg (N := 2) ?hd (cs := #[.string a0_0, .int .i64 a0_1, .int .i64 a0_2, .int .i64 a0_3, .string a0_4]) (t := 25) ?hr ?_; (case hd => rfl); (case hg => rfl); (case hr => first | (go_simp; done) | (go_simp; rfl)); intro gb196 hg w14 hbox hb; have n0_ := Aside0.mk (below_step (by repeat (first | (with_reducible first | exact HB.out | apply below_alloc | apply pw_below_drewN | apply below_drew1) | exact HB.out)) hb); have n1_ := Aside0.mk (hbox); have n2_ := Aside0.mk ((by rw [hg]; exact (below_size (by repeat (first | (with_reducible first | exact HB.out | apply below_alloc | apply pw_below_drewN | apply below_drew1) | exact HB.out))) : w.heap.size ≤ gb196)); have n3_ := Aside0.mk ((by rw [hg]; exact (below_size (by repeat (first | (with_reducible first | exact HB.out | apply below_alloc | apply pw_below_drewN | apply below_drew1) | exact HB.out))) : w.heap.size ≤ gb196)); clear HB; have HB := n0_; have BK196 := n1_; have GW196 := n2_; have GE196 := n3_; clear n0_ n1_ n2_ n3_; clear hb hbox hg; have hcz15_0 : w14.cell? ⟨gb196, 0, none⟩ = some (.string a0_0) := (blk_cell BK196.out 0).trans rfl; have hcz15_1 : w14.cell? ⟨gb196, 1, none⟩ = some (.int .i64 a0_1) := (blk_cell BK196.out 1).trans rfl; have hcz15_2 : w14.cell? ⟨gb196, 2, none⟩ = some (.int .i64 a0_2) := (blk_cell BK196.out 2).trans rfl; have hcz15_3 : w14.cell? ⟨gb196, 3, none⟩ = some (.int .i64 a0_3) := (blk_cell BK196.out 3).trans rfl; have hcz15_4 : w14.cell? ⟨gb196, 4, none⟩ = some (.string a0_4) := (blk_cell BK196.out 4).trans rfl; have hfz15_0 := blk_frozen BK196.out 0; have hfz15_1 := blk_frozen BK196.out 1; have hfz15_2 := blk_frozen BK196.out 2; have hfz15_3 := blk_frozen BK196.out 3; have hfz15_4 := blk_frozen BK196.out 4) | ((with_reducible refine gate_callee (f := 30) rfl ?_); refine goesL_ (some 11) rfl rfl Try.func30 (by kernel_rfl) rfl #[.slice A1 l1.length c1, .string a0_0] rfl (by (try simp only [List.map_toArray, List.map_cons, List.map_nil]); first | done | rfl | (simp only [List.length_drop, List.length_take]; rfl)) ?_; (with_reducible refine (rosetteref05_Get.calls k _ _ l1 a0_0 t197 t198 t199 false _ ?side1 ?side2 A3.out).mono ?_); (case side1 => repeat (first | exact (Kd.C_below HR1.out HB.out) | (with_reducible refine Kd.C_alloc ?_ _) | (with_reducible refine Kd.C_drewN ?_ _) | (with_reducible refine Kd.C_drew ?_))); (case side2 => exact HC1.out); rintro e w16 ⟨rfl, hb⟩; refine ⟨_, rfl, ?_⟩; have n0_ := Aside0.mk (blk_below (g := gb196) (o := .cells #[.string a0_0, .int .i64 a0_1, .int .i64 a0_2, .int .i64 a0_3, .string a0_4] 25 (0, 0)) (by (with_reducible repeat (first | refine blk_drewN ?_ _ | refine blk_drew ?_ | refine blk_alloc ?_ _)); exact BK196.out) hb); have n1_ := Aside0.mk (below_step (by repeat (first | (with_reducible first | exact HB.out | apply below_alloc | apply pw_below_drewN | apply below_drew1 | refine below_set ?_ GE196.out) | exact HB.out)) hb); clear BK196; clear HB; have BK196 := n0_; have HB := n1_; clear n0_ n1_; (try clear hb); (try clear hb2); (try clear hk); (try clear hi)) | ((with_reducible refine gate_dst (N := 5) rfl ?_); refine box_event ?hg (N := 5) ?hd (cs := #[.int .i64 0, .int .i64 0, .string (⟨#[]⟩ : ByteArray)]) (t := 23) ?hr ?_; (case hd => rfl); (case hg => rfl); (case hr => first | (go_simp; done) | (go_simp; rfl)); intro gb201 hg w17 hbox hb; have n0_ := Aside0.mk (blk_below (g := gb196) (o := .cells #[.string a0_0, .int .i64 a0_1, .int .i64 a0_2, .int .i64 a0_3, .string a0_4] 25 (0, 0)) (by (with_reducible repeat (first | refine blk_drewN ?_ _ | refine blk_drew ?_ | refine blk_alloc ?_ _)); exact BK196.out) hb); have n1_ := Aside0.mk (below_step (by repeat (first | (with_reducible first | exact HB.out | apply below_alloc | apply pw_below_drewN | apply below_drew1 | refine below_set ?_ GE196.out) | exact HB.out)) hb); have n2_ := Aside0.mk (hbox); have n3_ := Aside0.mk ((by rw [hg]; exact (below_size (by repeat (first | (with_reducible first | exact HB.out | apply below_alloc | apply pw_below_drewN | apply below_drew1 | refine below_set ?_ GE196.out) | exact HB.out))) : w.heap.size ≤ gb201)); have n4_ := Aside0.mk ((by rw [hg]; exact (below_size (by repeat (first | (with_reducible first | exact HB.out | apply below_alloc | apply pw_below_drewN | apply below_drew1 | refine below_set ?_ GE196.out) | exact HB.out))) : w.heap.size ≤ gb201)); have n5_ := Aside0.mk ((by rw [hg]; exact Nat.ne_of_lt (blk_lt (g := gb196) (o := .cells #[.string a0_0, .int .i64 a0_1, .int .i64 a0_2, .int .i64 a0_3, .string a0_4] 25 (0, 0)) (by (with_reducible repeat (first | refine blk_drewN ?_ _ | refine blk_drew ?_ | refine blk_alloc ?_ _)); exact BK196.out)) : gb196 ≠ gb201)); have n6_ := Aside0.mk ((by rw [hg]; exact Nat.ne_of_gt (blk_lt (g := gb196) (o := .cells #[.string a0_0, .int .i64 a0_1, .int .i64 a0_2, .int .i64 a0_3, .string a0_4] 25 (0, 0)) (by (with_reducible repeat (first | refine blk_drewN ?_ _ | refine blk_drew ?_ | refine blk_alloc ?_ _)); exact BK196.out)) : gb201 ≠ gb196)); clear BK196; clear HB; have BK196 := n0_; have HB := n1_; have BK201 := n2_; have GW201 := n3_; have GE201 := n4_; have NB196_201 := n5_; have NB201_196 := n6_; clear n0_ n1_ n2_ n3_ n4_ n5_ n6_; clear hb hbox hg; have hnb18 := NB201_196.out; have hnc18 := NB196_201.out; have hcz19_0 : w17.cell? ⟨gb201, 0, none⟩ = some (.int .i64 0) := (blk_cell BK201.out 0).trans rfl; have hcz19_1 : w17.cell? ⟨gb201, 1, none⟩ = some (.int .i64 0) := (blk_cell BK201.out 1).trans rfl; have hcz19_2 : w17.cell? ⟨gb201, 2, none⟩ = some (.string (⟨#[]⟩ : ByteArray)) := (blk_cell BK201.out 2).trans rfl; have hfz19_0 := blk_frozen BK201.out 0; have hfz19_1 := blk_frozen BK201.out 1; have hfz19_2 := blk_frozen BK201.out 2))
    go_ret
    exact ⟨by first | rfl | (simp [errW_none, errW_some] <;> rfl) | (simp [*, errW_none, errW_some] <;> rfl), by repeat (first | (with_reducible first | exact HB.out | apply below_alloc | apply pw_below_drewN | apply below_drew1 | refine below_set ?_ GE196.out | refine below_set ?_ GE201.out) | exact HB.out)⟩

end Go.Proofs.Ytojefdnngkcaoaa.G
end

section
/- predicates over numbers and lists: which are right, of what they hold, their bytes -/
set_option linter.unusedVariables false
set_option linter.unusedSimpArgs false
set_option autoImplicit false
namespace Go.Proofs.Ytojefdnngkcaoaa
open Go.RowKit Go.Proofs.YtojefdnngkcaoaaW.PrintWords Go.Proofs.YtojefdnngkcaoaaW.PrintLast Go.Proofs.YtojefdnngkcaoaaW.PrintMore Go.Proofs.Ytojefdnngkcaoaa.G

theorem pright_at {K : Nat} (hK : 0 < K) (n : ByteArray) (o k i : Int) (t : ByteArray) (h0 : -9223372036854775808 ≤ i) (h1 : i < 9223372036854775808) : pred_Right.f K n o k i t = some (prightB n o k i t) := by
  obtain ⟨K, rfl⟩ : ∃ m, K = m + 1 := ⟨K - 1, by omega⟩
  exact pright_f K n o k i t h0 h1
theorem size_nil (n : ByteArray) : n.toList = [] ↔ n.size = 0 := by
  rw [ByteArray.toList_eq]
  constructor
  · intro h
    have := congrArg List.length h
    rw [Array.length_toList] at this
    exact this
  · intro h
    apply List.eq_nil_of_length_eq_zero
    rw [Array.length_toList]
    exact h
theorem pnamed_eq (n t : ByteArray) : pnamed n t = (decide (1 ≤ n.size ∧ n.size ≤ 16) && decide (t.size ≤ 32)) := by
  unfold pnamed
  by_cases h0 : n.toList = []
  · rw [if_pos h0, decide_eq_false (by have := (size_nil n).1 h0; omega)]; rfl
  · rw [if_neg h0]
    have hp : n.size ≠ 0 := fun h => h0 ((size_nil n).2 h)
    by_cases h1 : (n.size : Int) ≤ 16
    · rw [if_pos h1, decide_eq_true (show 1 ≤ n.size ∧ n.size ≤ 16 by omega), Bool.true_and, decide_eq_decide]; omega
    · rw [if_neg h1, decide_eq_false (show ¬ (1 ≤ n.size ∧ n.size ≤ 16) by omega)]; rfl
theorem rpright_f {K : Nat} (hK : 0 < K) (n : ByteArray) (o k i : Int) (t : ByteArray) (h0 : -9223372036854775808 ≤ i) (h1 : i < 9223372036854775808) : rosetteref06_Right.f K n o k i t = some (prightB n o k i t) := by
  obtain ⟨K, rfl⟩ : ∃ m, K = m + 1 := ⟨K - 1, by omega⟩
  have J : ∀ b, rosetteref06_Right.j0 (K + 1) b n o k i t = some (if b = true then false else if o = 8 then (k == 0 && (i == 0 && t.toList == [])) else if o = 7 ∧ k ≠ 2 then false else decide (t.size ≤ 32) && (decide (1 ≤ o) && decide (o ≤ 7) && vright k i t)) := by
    intro b
    simp only [rosetteref06_Right.j0]
    rw [rright_f]
    simp only [Option.bind_some]
    cases b with
    | true => rfl
    | false =>
      simp only [Bool.false_eq_true, if_false]
      by_cases a8 : o = 8
      · rw [if_pos a8, if_pos a8]
      rw [if_neg a8, if_neg a8]
      by_cases o1 : 1 ≤ o <;> by_cases o7 : o ≤ 7 <;> by_cases a7 : o = 7 <;> by_cases k2 : k = 2 <;> by_cases t3 : t.size ≤ 32 <;> cases vright k i t <;> simp [o1, o7, a7, k2, t3] <;> omega
  unfold rosetteref06_Right.f prightB
  rw [pnamed_eq]
  have hz : (k == 0 && (i == 0 && t.toList == [])) = true → t.size ≤ 32 := by
    intro h
    simp only [Bool.and_eq_true, beq_iff_eq] at h
    have := (size_nil t).1 h.2.2
    omega
  by_cases a1 : (n.size : Int) < 1
  · rw [if_pos a1, J, if_pos rfl, decide_eq_false (show ¬ (1 ≤ n.size ∧ n.size ≤ 16) by omega)]
    simp
  · rw [if_neg a1, J]
    by_cases a2 : (n.size : Int) > 16
    · rw [decide_eq_true a2, if_pos rfl, decide_eq_false (show ¬ (1 ≤ n.size ∧ n.size ≤ 16) by omega)]
      simp
    · rw [decide_eq_false a2, if_neg (by decide), decide_eq_true (show 1 ≤ n.size ∧ n.size ≤ 16 by omega)]
      congr 1
      by_cases a8 : o = 8
      · rw [if_pos a8, if_pos a8]
        cases hq : (k == 0 && (i == 0 && t.toList == [])) with
        | true => rw [decide_eq_true (hz hq)]; rfl
        | false => simp
      · rw [if_neg a8, if_neg a8]
        simp only [Bool.true_and]

def hasPre (s p : ByteArray) : Bool := if p.size ≤ s.size then (s.extract 0 p.size).toList == p.toList else false
theorem hasPrefix_f (s p : ByteArray) : strings_HasPrefix.f s p = some (hasPre s p) := by
  unfold strings_HasPrefix.f stringslite_HasPrefix.f hasPre
  by_cases h : p.size ≤ s.size
  · rw [if_pos (by omega), if_pos (by omega), if_pos (by omega), if_pos h]; rfl
  · rw [if_neg (by omega), if_neg h]; rfl
def askB (o c : Int) : Bool := if o = 1 then c == 0 else if o = 2 then c != 0 else if o = 3 then decide (c < 0) else if o = 4 then decide (c ≤ 0) else if o = 5 then decide (c > 0) else decide (c ≥ 0)
def holdsB (n : ByteArray) (o k i : Int) (t : ByteArray) (vk vi : Int) (vt : ByteArray) : Bool :=
  if prightB n o k i t = true then (if vright vk vi vt = true then (if o = 8 then true else if vk = k then (if o = 7 then hasPre vt t else askB o (vcmp vk vi vt k i t)) else false) else false) else false
theorem pright_op {n : ByteArray} {o k i : Int} {t : ByteArray} (h : prightB n o k i t = true) : 1 ≤ o ∧ o ≤ 8 := by
  unfold prightB at h
  by_cases a8 : o = 8
  · omega
  · rw [if_neg a8] at h
    split at h
    · cases h
    · simp only [Bool.and_eq_true, decide_eq_true_eq] at h
      omega
theorem holds_f {K : Nat} (hK : 6 ≤ K) (n : ByteArray) (o k i : Int) (t : ByteArray) (vk vi : Int) (vt : ByteArray) (h0 : -9223372036854775808 ≤ i) (h1 : i < 9223372036854775808) (g0 : -9223372036854775808 ≤ vi) (g1 : vi < 9223372036854775808) :
    pred_Holds.f K n o k i t vk vi vt = some (holdsB n o k i t vk vi vt) := by
  obtain ⟨K, rfl⟩ : ∃ m, K = m + 1 := ⟨K - 1, by omega⟩
  unfold pred_Holds.f holdsB
  rw [pright_f K n o k i t h0 h1]
  simp only [Option.bind_some]
  by_cases hp : prightB n o k i t = true
  · rw [if_pos hp, if_pos hp, right_f vk vi vt g0 g1]
    simp only [Option.bind_some, pred_Holds.j0]
    by_cases hv : vright vk vi vt = true
    · obtain ⟨o1, o8⟩ := pright_op hp
      rw [if_neg (by rw [hv]; decide), if_pos hv, compare_f K (by omega)]
      simp only [Option.bind_some]
      rw [hasPrefix_f]
      simp only [Option.bind_some]
      by_cases a8 : o = 8
      · rw [if_pos a8, if_pos a8]
      rw [if_neg a8, if_neg a8]
      by_cases ek : vk = k
      · rw [if_pos ek, if_pos ek]
        by_cases a7 : o = 7
        · rw [if_pos a7, if_pos a7]
        rw [if_neg a7, if_neg a7]
        generalize vcmp vk vi vt k i t = c
        have ho : o = 1 ∨ o = 2 ∨ o = 3 ∨ o = 4 ∨ o = 5 ∨ o = 6 := by omega
        have hc : c < 0 ∨ c = 0 ∨ c > 0 := by omega
        unfold askB
        rcases hc with hc | hc | hc
        · rcases ho with rfl | rfl | rfl | rfl | rfl | rfl <;> simp [hc, show ¬ (c > 0) by omega, show c ≠ 0 by omega, show c ≤ 0 by omega, show ¬ (0 ≤ c) by omega]
        · subst hc
          rcases ho with rfl | rfl | rfl | rfl | rfl | rfl <;> simp
        · rcases ho with rfl | rfl | rfl | rfl | rfl | rfl <;> simp [show c > 0 by omega, show ¬ (c < 0) by omega, show c ≠ 0 by omega, show ¬ (c ≤ 0) by omega, show 0 ≤ c by omega]
      · rw [if_neg ek, if_neg ek]
    · rw [if_pos (by simpa using hv), if_neg hv]
  · rw [if_neg hp, if_neg hp]
    simp only [pred_Holds.j0]
    rw [if_pos trivial]
theorem rholds_f {K : Nat} (n : ByteArray) (o k i : Int) (t : ByteArray) (vk vi : Int) (vt : ByteArray) (h0 : -9223372036854775808 ≤ i) (h1 : i < 9223372036854775808) (g0 : -9223372036854775808 ≤ vi) (g1 : vi < 9223372036854775808) (hs : vt.size < 9223372036854775807) (hK : 2 * vt.size + 5 ≤ K) :
    rosetteref06_Holds.f K n o k i t vk vi vt = some (holdsB n o k i t vk vi vt) := by
  obtain ⟨K, rfl⟩ : ∃ m, K = m + 1 := ⟨K - 1, by omega⟩
  unfold rosetteref06_Holds.f holdsB
  rw [rpright_f (by omega) n o k i t h0 h1, rright_f]
  simp only [Option.bind_some]
  by_cases hp : prightB n o k i t = true
  · rw [if_pos hp, if_pos hp]
    simp only [rosetteref06_Holds.j0]
    by_cases hv : vright vk vi vt = true
    · obtain ⟨o1, o8⟩ := pright_op hp
      rw [if_neg (by rw [hv]; decide), if_pos hv, rcompare_f K _ _ _ _ _ _ hs (by omega)]
      simp only [Option.bind_some]
      by_cases a8 : o = 8
      · rw [if_pos a8, if_pos a8]
      rw [if_neg a8, if_neg a8]
      by_cases ek : vk = k
      · rw [if_pos ek, if_pos ek]
        by_cases a7 : o = 7
        · subst a7
          simp only [show ¬ ((7 : Int) = 1) by decide, show ¬ ((7 : Int) = 2) by decide, show ¬ ((7 : Int) = 3) by decide, show ¬ ((7 : Int) = 4) by decide, show ¬ ((7 : Int) = 5) by decide, show ¬ ((7 : Int) = 6) by decide, if_false, if_true]
          unfold hasPre
          by_cases h : t.size ≤ vt.size
          · rw [if_pos (by omega), if_pos (by omega), if_pos (by omega), if_pos h]; rfl
          · rw [if_neg (by omega), if_neg h]
        rw [if_neg a7]
        generalize vcmp vk vi vt k i t = c
        have ho : o = 1 ∨ o = 2 ∨ o = 3 ∨ o = 4 ∨ o = 5 ∨ o = 6 := by omega
        unfold askB
        rcases ho with rfl | rfl | rfl | rfl | rfl | rfl <;> simp
      · rw [if_neg ek, if_neg ek]
    · rw [if_pos (by simpa using hv), if_neg hv]
  · rw [if_neg hp, if_neg hp]
    simp only [rosetteref06_Holds.j0]
    rw [if_pos trivial]
def pbytes (n : ByteArray) (o k i : Int) (t : ByteArray) : List Int := if prightB n o k i t = true then putL n.size ++ bytesOf n ++ putL o ++ vbytes k i t else []
theorem putL_small (o : Int) (h1 : 1 ≤ o) (h8 : o ≤ 8) : putL o = [o] := by
  have ho : o = 1 ∨ o = 2 ∨ o = 3 ∨ o = 4 ∨ o = 5 ∨ o = 6 ∨ o = 7 ∨ o = 8 := by omega
  rcases ho with rfl | rfl | rfl | rfl | rfl | rfl | rfl | rfl <;> decide +kernel
theorem pright_size {n : ByteArray} {o k i : Int} {t : ByteArray} (h : prightB n o k i t = true) : 1 ≤ n.size ∧ n.size ≤ 16 ∧ t.size ≤ 32 := by
  unfold prightB at h
  rw [pnamed_eq] at h
  split at h
  · simp only [Bool.and_eq_true, decide_eq_true_eq] at h; omega
  · split at h
    · cases h
    · simp only [Bool.and_eq_true, decide_eq_true_eq] at h; omega
theorem pput_f {K : Nat} (hK : 0 < K) (l : List Int) (n : ByteArray) (o k i : Int) (t : ByteArray) (hl : l.length ≤ 100000) (h0 : -9223372036854775808 ≤ i) (h1 : i < 9223372036854775808) :
    pred_Put.f K l n o k i t = some (l ++ pbytes n o k i t) := by
  unfold pred_Put.f pbytes
  refine (bind_of (pright_at hK n o k i t h0 h1)).trans ?_
  by_cases hp : prightB n o k i t = true
  · rw [if_pos hp, if_pos hp]
    obtain ⟨o1, o8⟩ := pright_op hp
    obtain ⟨n1, n16, _⟩ := pright_size hp
    have e1 := bytes_len n
    have e2 := putL_len (n.size : Int)
    have e3 := putL_len o
    refine (bind_of (putText_f l n (by omega) (by omega))).trans ?_
    rw [wrap_k o (by omega) (by omega)]
    refine (bind_of (put_f (l ++ putL n.size ++ bytesOf n) o (by omega) (by omega) (by simp only [List.length_append]; omega))).trans ?_
    refine (bind_of (put_val _ k i t (by simp only [List.length_append]; omega) h0 h1)).trans ?_
    simp only [List.append_assoc]
  · rw [if_neg hp, if_neg hp, List.append_nil]
    have : slices_Clone_byte_byte.f l = some l := by unfold slices_Clone_byte_byte.f; rw [if_pos (by omega)]
    exact (bind_of this).trans rfl
theorem rpput_f {K : Nat} (hK : 0 < K) (l : List Int) (n : ByteArray) (o k i : Int) (t : ByteArray) (hl : l.length ≤ 100000) (h0 : -9223372036854775808 ≤ i) (h1 : i < 9223372036854775808) :
    rosetteref06_Put.f K l n o k i t = some (l ++ pbytes n o k i t) := by
  unfold rosetteref06_Put.f pbytes
  simp only [Option.bind_some, List.nil_append]
  rw [if_pos (by simp; omega)]
  refine (bind_of (rpright_f hK n o k i t h0 h1)).trans ?_
  by_cases hp : prightB n o k i t = true
  · rw [if_pos hp, if_pos hp]
    obtain ⟨o1, o8⟩ := pright_op hp
    obtain ⟨n1, n16, _⟩ := pright_size hp
    have e1 := bytes_len n
    have e2 := putL_len (n.size : Int)
    refine (bind_of (rputText_f l n (by omega) (by omega))).trans ?_
    rw [if_pos (by simp only [List.length_append, List.length_cons, List.length_nil]; omega), show o % 256 = o by omega]
    refine (bind_of (rput_val _ k i t (by simp only [List.length_append, List.length_cons, List.length_nil]; omega) h0 h1)).trans ?_
    rw [putL_small o o1 o8]
    simp only [List.append_assoc]
  · rw [if_neg hp, if_neg hp, List.append_nil]
end Go.Proofs.Ytojefdnngkcaoaa
end

section
/- the small case of the predicates' laws, walked -/
set_option linter.unusedVariables false
set_option linter.unusedSimpArgs false
set_option autoImplicit false
namespace Go.Proofs.Ytojefdnngkcaoaa
open Go.RowKit Go.Proofs.YtojefdnngkcaoaaW.PrintWords Go.Proofs.YtojefdnngkcaoaaW.PrintLast Go.Proofs.YtojefdnngkcaoaaW.PrintMore Go.Proofs.Ytojefdnngkcaoaa.G

deriving instance DecidableEq for Sc
theorem sm1 : pred_Put.f 20 [] ⟨#[97]⟩ 5 1 5 ⟨#[]⟩ = some [1, 97, 5, 1, 10] := by decide +kernel
theorem sn1 : Sc.pred ⟨[1, 97, 5, 1, 10], 0⟩ = (⟨⟨#[97]⟩, 5, ⟨1, 5, ⟨#[]⟩⟩⟩, ⟨[], 0⟩) := by decide +kernel
theorem sn2 : Sc.pred ⟨[1, 97, 7, 1, 0], 0⟩ = (⟨⟨#[]⟩, 0, ⟨0, 0, ⟨#[]⟩⟩⟩, ⟨[], 3⟩) := by decide +kernel
theorem sm2 : pred_Right.f 20 ⟨#[97]⟩ 7 2 0 ⟨#[97, 98]⟩ = some true := by decide +kernel
theorem sm3 : pred_Holds.f 20 ⟨#[97]⟩ 7 2 0 ⟨#[97, 98]⟩ 2 0 ⟨#[97, 98, 99]⟩ = some true := by decide +kernel
theorem sm4 : pred_Holds.f 20 ⟨#[97]⟩ 7 2 0 ⟨#[97, 98]⟩ 2 0 ⟨#[97]⟩ = some false := by decide +kernel
theorem sm5 : pred_Meets.f 20 ⟨#[97]⟩ 5 1 5 ⟨#[]⟩ [⟨⟨#[97]⟩, ⟨1, 6, ⟨#[]⟩⟩⟩] = some true := by decide +kernel
theorem sm6 : pred_Meets.f 20 ⟨#[97]⟩ 5 1 5 ⟨#[]⟩ [] = some false := by decide +kernel
theorem sm7 : pred_Holds.f 20 ⟨#[97]⟩ 5 1 5 ⟨#[]⟩ 2 0 ⟨#[97, 98]⟩ = some false := by decide +kernel
theorem sm8 : pred_Holds.f 20 ⟨#[97]⟩ 2 1 5 ⟨#[]⟩ 2 0 ⟨#[97, 98]⟩ = some false := by decide +kernel
theorem sm9 : pred_Holds.f 20 ⟨#[97]⟩ 8 0 0 ⟨#[]⟩ 2 0 ⟨#[97, 98]⟩ = some true := by decide +kernel
theorem HeldB.mono {w : World} {S S' : Nat → Prop} {A : Option Addr} {l : List Int} (h : HeldB w S A l) (hS : ∀ k, S k → S' k) : HeldB w S' A l := by
  intro h0
  obtain ⟨ad, h1, h2, h3⟩ := h h0
  exact ⟨ad, h1, hS _ h2, h3⟩
theorem vkeepB {W W' : World} {b : Nat} {o : Obj} (h : W.heap[b]? = some o) (hB : Below W.heap.size W W') : W'.heap[b]? = some o := by rw [hB.block _ (lt_of_heap h)]; exact h
theorem vkeepG {W W' : World} {b g : Nat} {o : Obj} (h : W.heap[b]? = some o) (hG : W.grownBy W' (some g)) (hne : b ≠ g) : W'.heap[b]? = some o := by rw [hG.block _ (lt_of_heap h) (fun e => by cases e; exact hne rfl)]; exact h
theorem vcells {W : World} {b T : Nat} {x y z : Value} (h : W.heap[b]? = some (.cells #[x, y, z] T (0, 0))) :
    W.cell? ⟨b, 0, none⟩ = some x ∧ W.cell? ⟨b, 1, none⟩ = some y ∧ W.cell? ⟨b, 2, none⟩ = some z :=
  ⟨by rw [cell_of_row _ _ _ _ _ _ h]; rfl, by rw [cell_of_row _ _ _ _ _ _ h]; rfl, by rw [cell_of_row _ _ _ _ _ _ h]; rfl⟩
theorem vcells5 {W : World} {b T : Nat} {x y z u v : Value} (h : W.heap[b]? = some (.cells #[x, y, z, u, v] T (0, 0))) :
    W.cell? ⟨b, 0, none⟩ = some x ∧ W.cell? ⟨b, 1, none⟩ = some y ∧ W.cell? ⟨b, 2, none⟩ = some z ∧ W.cell? ⟨b, 3, none⟩ = some u ∧ W.cell? ⟨b, 4, none⟩ = some v :=
  ⟨by rw [cell_of_row _ _ _ _ _ _ h]; rfl, by rw [cell_of_row _ _ _ _ _ _ h]; rfl, by rw [cell_of_row _ _ _ _ _ _ h]; rfl, by rw [cell_of_row _ _ _ _ _ _ h]; rfl, by rw [cell_of_row _ _ _ _ _ _ h]; rfl⟩
theorem one_attr {W : World} {b : Nat} (x : S52) (h : W.heap[b]? = some (.cells #[.string x.f0, .int .i64 x.f1.f0, .int .i64 x.f1.f1, .string x.f1.f2] 52 (0, 0))) : Kd.C k52 W (some ⟨b, 0, none⟩) 1 [x] := by
  refine ⟨rfl, by decide, fun _ => ⟨_, rfl, fun j p hj => ?_⟩⟩
  have hj0 : j = 0 := by have := (List.getElem?_eq_some_iff.1 hj).1; simp at this; exact this
  subst hj0
  simp only [List.getElem?_cons_zero, Option.some.injEq] at hj
  subst hj
  refine ⟨[.string x.f0, .int .i64 x.f1.f0, .int .i64 x.f1.f1, .string x.f1.f2], rfl, k52_mk W x, fun i u hu => ?_⟩
  rw [Nat.zero_mul, Nat.zero_add, add_plain, cell_of_row _ _ _ _ _ _ h]
  simpa using hu
theorem allocs5 (w : World) (A B C D E : Obj) : (((((w.alloc A).alloc B).alloc C).alloc D).alloc E).heap[w.heap.size]? = some A ∧ (((((w.alloc A).alloc B).alloc C).alloc D).alloc E).heap[w.heap.size + 1]? = some B ∧ (((((w.alloc A).alloc B).alloc C).alloc D).alloc E).heap[w.heap.size + 1 + 1]? = some C ∧ (((((w.alloc A).alloc B).alloc C).alloc D).alloc E).heap[w.heap.size + 1 + 1 + 1]? = some D ∧ (((((w.alloc A).alloc B).alloc C).alloc D).alloc E).heap[w.heap.size + 1 + 1 + 1 + 1]? = some E ∧ Below w.heap.size w (((((w.alloc A).alloc B).alloc C).alloc D).alloc E) := by
  have h : (((((w.alloc A).alloc B).alloc C).alloc D).alloc E).heap = ((((w.heap.push A).push B).push C).push D).push E := rfl
  have b1 := (Below.refl w.heap.size w).alloc (Nat.le_refl _) A
  have b2 := b1.alloc b1.size B
  have b3 := b2.alloc b2.size C
  have b4 := b3.alloc b3.size D
  rw [h]
  refine ⟨?_, ?_, ?_, ?_, ?_, b4.alloc b4.size E⟩
  · rw [Array.getElem?_push, if_neg (by simp; omega), Array.getElem?_push, if_neg (by simp; omega), Array.getElem?_push, if_neg (by simp; omega), Array.getElem?_push, if_neg (by simp), Array.getElem?_push, if_pos rfl]
  · rw [Array.getElem?_push, if_neg (by simp), Array.getElem?_push, if_neg (by simp), Array.getElem?_push, if_neg (by simp), Array.getElem?_push, if_pos (by simp)]
  · rw [Array.getElem?_push, if_neg (by simp), Array.getElem?_push, if_neg (by simp), Array.getElem?_push, if_pos (by simp)]
  · rw [Array.getElem?_push, if_neg (by simp), Array.getElem?_push, if_pos (by simp)]
  · rw [Array.getElem?_push, if_pos (by simp)]
set_option maxRecDepth 100000 in
set_option maxHeartbeats 8000000 in
theorem small_any (w : World) : Calls Try.prog 8 #[] w fun e w' => e = .returned (.bool true) ∧ Below w.heap.size w w' := by
  obtain ⟨hF, hX, hP, hQ, hE, hB⟩ := allocs5 w (.cells #[.int .i64 1, .int .i64 5, .string ⟨#[]⟩] 23) (.cells #[.int .i64 2, .int .i64 0, .string ⟨#[97, 98]⟩] 23) (.cells #[.string ⟨#[97]⟩, .int .i64 5, .int .i64 1, .int .i64 5, .string ⟨#[]⟩] 25) (.cells #[.string ⟨#[97]⟩, .int .i64 7, .int .i64 2, .int .i64 0, .string ⟨#[97, 98]⟩] 25) (.cells #[.string ⟨#[97]⟩, .int .i64 1, .int .i64 6, .string ⟨#[]⟩] 52)
  have KF0 := Aside0.mk hF
  have KX0 := Aside0.mk hX
  have KP0 := Aside0.mk hP
  have KQ0 := Aside0.mk hQ
  have KE0 := Aside0.mk hE
  have HB0 := Aside0.mk hB
  clear hF hX hP hQ hE hB
  go_enter Try.func8, Try.ntmps8
  go_upto_region 6 with fail
  generalize ((((w.alloc (.cells #[.int .i64 1, .int .i64 5, .string ⟨#[]⟩] 23)).alloc (.cells #[.int .i64 2, .int .i64 0, .string ⟨#[97, 98]⟩] 23)).alloc (.cells #[.string ⟨#[97]⟩, .int .i64 5, .int .i64 1, .int .i64 5, .string ⟨#[]⟩] 25)).alloc (.cells #[.string ⟨#[97]⟩, .int .i64 7, .int .i64 2, .int .i64 0, .string ⟨#[97, 98]⟩] 25)).alloc (.cells #[.string ⟨#[97]⟩, .int .i64 1, .int .i64 6, .string ⟨#[]⟩] 52) = w0 at KF0 KX0 KP0 KQ0 KE0 HB0 ⊢
  generalize w.heap.size + 1 + 1 + 1 + 1 = b4 at KF0 KX0 KP0 KQ0 KE0 ⊢
  generalize w.heap.size + 1 + 1 + 1 = b3 at KF0 KX0 KP0 KQ0 KE0 ⊢
  generalize w.heap.size + 1 + 1 = b2 at KF0 KX0 KP0 KQ0 KE0 ⊢
  generalize w.heap.size + 1 = b1 at KF0 KX0 KP0 KQ0 KE0 ⊢
  obtain ⟨b0, hb0⟩ : ∃ b, w.heap.size = b := ⟨_, rfl⟩
  have HB0' : Aside0 (Below b0 w w0) := ⟨by have := HB0.out; rwa [hb0] at this⟩
  have HW := Aside0.mk hb0
  rw [hb0] at KF0
  try rw [hb0]
  clear HB0 hb0
  have HB0 := HB0'
  clear HB0'
  obtain ⟨p_0, p_1, p_2, p_3, p_4⟩ := vcells5 KP0.out
  go_wp2_with fail
  refine (pred_Put.calls 20 none 0 [] ⟨#[97]⟩ 5 1 5 ⟨#[]⟩ [1, 97, 5, 1, 10] w0 (nil_C w0 .u8) (Nat.le_refl _) sm1).mono ?_
  rintro e w1 ⟨vb, rfl, hR, hB⟩
  obtain ⟨Ab, nb, rfl, hnb, _, hH, hCb⟩ := held_own hR
  clear p_0 p_1 p_2 p_3 p_4
  have HB1 : Aside0 (Below b0 w w1) := ⟨HB0.out.trans (hB.mono (by have := HB0.out.size; have := HW.out; omega))⟩
  have KF1 := Aside0.mk (vkeepB KF0.out hB)
  have KX1 := Aside0.mk (vkeepB KX0.out hB)
  have KP1 := Aside0.mk (vkeepB KP0.out hB)
  have KQ1 := Aside0.mk (vkeepB KQ0.out hB)
  have KE1 := Aside0.mk (vkeepB KE0.out hB)
  clear HB0 KF0 KX0 KP0 KQ0 KE0
  have Hb1 := Aside0.mk (hH.mono (S' := fun k => k < w1.heap.size) (fun _ hk => hk.2))
  have C1 := Aside0.mk hCb
  have LW := Aside0.mk (show b0 < w1.heap.size ∧ b1 < w1.heap.size ∧ b2 < w1.heap.size ∧ b3 < w1.heap.size ∧ b4 < w1.heap.size from ⟨lt_of_heap KF1.out, lt_of_heap KX1.out, lt_of_heap KP1.out, lt_of_heap KQ1.out, lt_of_heap KE1.out⟩)
  clear hR hB hH hCb
  go_wp2_with fail
  refine (won Ab nb [1, 97, 5, 1, 10] w1 C1.out hnb (by decide) (by decide)).mono ?_
  rintro e w2 ⟨gs, rfl, hgs, hS, hB⟩
  have HB2 : Aside0 (Below b0 w w2) := ⟨HB1.out.trans (hB.mono (by have := HB1.out.size; have := HW.out; omega))⟩
  have KF2 := Aside0.mk (vkeepB KF1.out hB)
  have KX2 := Aside0.mk (vkeepB KX1.out hB)
  have KP2 := Aside0.mk (vkeepB KP1.out hB)
  have KQ2 := Aside0.mk (vkeepB KQ1.out hB)
  have KE2 := Aside0.mk (vkeepB KE1.out hB)
  have Hb2 := Aside0.mk (Hb1.out.below hB)
  clear HB1 KF1 KX1 KP1 KQ1 KE1 Hb1
  have Ss2 := Aside0.mk hS
  have GS := Aside0.mk (show w1.heap.size ≤ gs ∧ gs < w2.heap.size from ⟨hgs, hS.lt⟩)
  clear hB hS hgs C1
  go_wp2_with fail
  refine (won _ _ [1, 97, 7, 1, 0] _ (lit_C w2 5 .u8 [1, 97, 7, 1, 0] (by decide)) (Nat.le_refl _) (by decide) (by decide)).mono ?_
  rintro e w3 ⟨gt, rfl, hgt, hS, hB0⟩
  have hB : Below w2.heap.size w2 w3 := ((Below.refl _ _).alloc (Nat.le_refl _) _).trans (hB0.mono (by simp))
  have HB3 : Aside0 (Below b0 w w3) := ⟨HB2.out.trans (hB.mono (by have := HB2.out.size; have := HW.out; omega))⟩
  have KF3 := Aside0.mk (vkeepB KF2.out hB)
  have KX3 := Aside0.mk (vkeepB KX2.out hB)
  have KP3 := Aside0.mk (vkeepB KP2.out hB)
  have KQ3 := Aside0.mk (vkeepB KQ2.out hB)
  have KE3 := Aside0.mk (vkeepB KE2.out hB)
  have Ss3 := Aside0.mk (Ss2.out.below hB)
  have Hb3 := Aside0.mk (Hb2.out.below hB)
  clear HB2 KF2 KX2 KP2 KQ2 KE2 Ss2 Hb2
  have St3 := Aside0.mk (hS.mono (S' := fun k => w2.heap.size ≤ k ∧ k < gt) (fun k hk => ⟨by have := hk.1; simp at this; omega, hk.2⟩) (by omega))
  have GT := Aside0.mk (show w2.heap.size ≤ gt ∧ gt < w3.heap.size from ⟨by simp at hgt; omega, hS.lt⟩)
  clear hB hB0 hS hgt
  go_wp2_with fail
  have hop := wpget Ss3.out
  rw [sn1] at hop
  refine hop.mono ?_
  rintro e w4 ⟨rfl, hx, hG⟩
  simp only [Pd.c]
  have hb := (Below.refl w4.heap.size w4).alloc (Nat.le_refl _) (.cells #[.string ⟨#[97]⟩, .int .i64 5, .int .i64 1, .int .i64 5, .string ⟨#[]⟩] 25)
  have hB0 : Below b0 w w4 := HB3.out.grown hG (by have := HB3.out.size; have := HW.out; omega) (fun k hk => by cases hk; have := GS.out; have := GT.out; have := LW.out; omega)
  have HB5 : Aside0 (Below b0 w (w4.alloc (.cells #[.string ⟨#[97]⟩, .int .i64 5, .int .i64 1, .int .i64 5, .string ⟨#[]⟩] 25))) := ⟨hB0.alloc (by have := hB0.size; have := HW.out; omega) _⟩
  have KF5 := Aside0.mk (vkeepB (vkeepG KF3.out hG (by have := GS.out; have := GT.out; have := LW.out; omega)) hb)
  have KX5 := Aside0.mk (vkeepB (vkeepG KX3.out hG (by have := GS.out; have := GT.out; have := LW.out; omega)) hb)
  have KP5 := Aside0.mk (vkeepB (vkeepG KP3.out hG (by have := GS.out; have := GT.out; have := LW.out; omega)) hb)
  have KQ5 := Aside0.mk (vkeepB (vkeepG KQ3.out hG (by have := GS.out; have := GT.out; have := LW.out; omega)) hb)
  have KE5 := Aside0.mk (vkeepB (vkeepG KE3.out hG (by have := GS.out; have := GT.out; have := LW.out; omega)) hb)
  have KV5 := Aside0.mk (heap_alloc_new w4 (.cells #[.string ⟨#[97]⟩, .int .i64 5, .int .i64 1, .int .i64 5, .string ⟨#[]⟩] 25))
  have Ss5 := Aside0.mk (hx.below hb)
  have St5 := Aside0.mk ((St3.out.grown hG (by have := GS.out; have := GT.out; have := LW.out; omega) (by have := GS.out; have := GT.out; have := LW.out; omega)).below hb)
  have Hb5 := Aside0.mk ((Hb3.out.grown hG (by have := GS.out; have := GT.out; have := LW.out; omega)).below hb)
  have V1 := Aside0.mk (show w3.heap.size ≤ w4.heap.size from by have := hG.size; omega)
  clear hop hx hG hb hB0 HB3 KF3 KX3 KP3 KQ3 KE3 Ss3 St3 Hb3
  go_upto_region 12 with fail
  generalize w4.alloc (.cells #[.string ⟨#[97]⟩, .int .i64 5, .int .i64 1, .int .i64 5, .string ⟨#[]⟩] 25) = w5 at HB5 KF5 KX5 KP5 KQ5 KE5 KV5 Ss5 St5 Hb5 ⊢
  obtain ⟨v0, hv0⟩ : ∃ v, w4.heap.size = v := ⟨_, rfl⟩
  rw [hv0] at KV5 V1
  try rw [hv0]
  clear hv0
  go_wp2_with fail
  have hop := wpget St5.out
  rw [sn2] at hop
  refine hop.mono ?_
  rintro e w6 ⟨rfl, hx, hG⟩
  simp only [Pd.c]
  have hb := (Below.refl w6.heap.size w6).alloc (Nat.le_refl _) (.cells #[.string ⟨#[]⟩, .int .i64 0, .int .i64 0, .int .i64 0, .string ⟨#[]⟩] 25)
  have hB0 : Below b0 w w6 := HB5.out.grown hG (by have := HB5.out.size; have := HW.out; omega) (fun k hk => by cases hk; have := GS.out; have := GT.out; have := LW.out; omega)
  have HB7 : Aside0 (Below b0 w (w6.alloc (.cells #[.string ⟨#[]⟩, .int .i64 0, .int .i64 0, .int .i64 0, .string ⟨#[]⟩] 25))) := ⟨hB0.alloc (by have := hB0.size; have := HW.out; omega) _⟩
  have KF7 := Aside0.mk (vkeepB (vkeepG KF5.out hG (by have := GS.out; have := GT.out; have := LW.out; omega)) hb)
  have KX7 := Aside0.mk (vkeepB (vkeepG KX5.out hG (by have := GS.out; have := GT.out; have := LW.out; omega)) hb)
  have KP7 := Aside0.mk (vkeepB (vkeepG KP5.out hG (by have := GS.out; have := GT.out; have := LW.out; omega)) hb)
  have KQ7 := Aside0.mk (vkeepB (vkeepG KQ5.out hG (by have := GS.out; have := GT.out; have := LW.out; omega)) hb)
  have KE7 := Aside0.mk (vkeepB (vkeepG KE5.out hG (by have := GS.out; have := GT.out; have := LW.out; omega)) hb)
  have KV7 := Aside0.mk (vkeepB (vkeepG KV5.out hG (by have := V1.out; have := GS.out; have := GT.out; have := LW.out; omega)) hb)
  have KZ7 := Aside0.mk (heap_alloc_new w6 (.cells #[.string ⟨#[]⟩, .int .i64 0, .int .i64 0, .int .i64 0, .string ⟨#[]⟩] 25))
  have Ss7 := Aside0.mk ((Ss5.out.grown hG (by have := GS.out; have := GT.out; have := LW.out; omega) (by have := GS.out; have := GT.out; have := LW.out; omega)).below hb)
  have St7 := Aside0.mk (hx.below hb)
  have Hb7 := Aside0.mk ((Hb5.out.grown hG (by have := GS.out; have := GT.out; have := LW.out; omega)).below hb)
  skip
  clear hop hx hG hb hB0 HB5 KF5 KX5 KP5 KQ5 KE5 KV5 Ss5 St5 Hb5
  go_upto_region 13 with fail
  generalize w6.alloc (.cells #[.string ⟨#[]⟩, .int .i64 0, .int .i64 0, .int .i64 0, .string ⟨#[]⟩] 25) = w7 at HB7 KF7 KX7 KP7 KQ7 KE7 KV7 KZ7 Ss7 St7 Hb7 ⊢
  have hcs : (convert 27 9 (.slice Ab 5 nb)).run Try.prog w7 = .ok (.string ⟨#[1, 97, 5, 1, 10]⟩) w7 := Kd.C_string (P := Try.prog) (A := Ab) (c := nb) (xs := [1, 97, 5, 1, 10]) Try.underlying27 Try.underlying5 Try.underlying9 (Hb7.out.C (by decide))
  obtain ⟨f_0, f_1, f_2⟩ := vcells KF7.out
  obtain ⟨x_0, x_1, x_2⟩ := vcells KX7.out
  obtain ⟨p_0, p_1, p_2, p_3, p_4⟩ := vcells5 KP7.out
  obtain ⟨q_0, q_1, q_2, q_3, q_4⟩ := vcells5 KQ7.out
  obtain ⟨v_0, v_1, v_2, v_3, v_4⟩ := vcells5 KV7.out
  obtain ⟨z_0, z_1, z_2, z_3, z_4⟩ := vcells5 KZ7.out
  go_wp2_with fail
  have hop := wend Ss7.out
  refine hop.mono ?_
  rintro e w8 ⟨rfl, rfl⟩
  clear hop
  go_wp2_with fail
  have hop := werr St7.out
  refine hop.mono ?_
  rintro e w8 ⟨rfl, rfl⟩
  clear hop hcs
  clear Ss7 St7 Hb7
  go_wp2_with fail
  refine (pred_Right.calls 20 ⟨#[97]⟩ 7 2 0 ⟨#[97, 98]⟩ _ _ sm2).mono ?_
  rintro e w8 ⟨rfl, hB⟩
  clear f_0 f_1 f_2 x_0 x_1 x_2 p_0 p_1 p_2 p_3 p_4 q_0 q_1 q_2 q_3 q_4 v_0 v_1 v_2 v_3 v_4 z_0 z_1 z_2 z_3 z_4
  have HB8 : Aside0 (Below b0 w w8) := ⟨HB7.out.trans (hB.mono (by have := HB7.out.size; have := HW.out; omega))⟩
  have KF8 := Aside0.mk (vkeepB KF7.out hB)
  have KX8 := Aside0.mk (vkeepB KX7.out hB)
  have KP8 := Aside0.mk (vkeepB KP7.out hB)
  have KQ8 := Aside0.mk (vkeepB KQ7.out hB)
  have KE8 := Aside0.mk (vkeepB KE7.out hB)
  have KV8 := Aside0.mk (vkeepB KV7.out hB)
  have KZ8 := Aside0.mk (vkeepB KZ7.out hB)
  clear HB7 KF7 KX7 KP7 KQ7 KE7 KV7 KZ7
  clear hB
  obtain ⟨f_0, f_1, f_2⟩ := vcells KF8.out
  obtain ⟨x_0, x_1, x_2⟩ := vcells KX8.out
  obtain ⟨p_0, p_1, p_2, p_3, p_4⟩ := vcells5 KP8.out
  obtain ⟨q_0, q_1, q_2, q_3, q_4⟩ := vcells5 KQ8.out
  obtain ⟨v_0, v_1, v_2, v_3, v_4⟩ := vcells5 KV8.out
  obtain ⟨z_0, z_1, z_2, z_3, z_4⟩ := vcells5 KZ8.out
  go_wp2_with fail
  refine (pred_Holds.calls 20 ⟨#[97]⟩ 7 2 0 ⟨#[97, 98]⟩ 2 0 ⟨#[97, 98, 99]⟩ _ _ sm3).mono ?_
  rintro e w9 ⟨rfl, hB⟩
  clear f_0 f_1 f_2 x_0 x_1 x_2 p_0 p_1 p_2 p_3 p_4 q_0 q_1 q_2 q_3 q_4 v_0 v_1 v_2 v_3 v_4 z_0 z_1 z_2 z_3 z_4
  have HB9 : Aside0 (Below b0 w w9) := ⟨HB8.out.trans (hB.mono (by have := HB8.out.size; have := HW.out; omega))⟩
  have KF9 := Aside0.mk (vkeepB KF8.out hB)
  have KX9 := Aside0.mk (vkeepB KX8.out hB)
  have KP9 := Aside0.mk (vkeepB KP8.out hB)
  have KQ9 := Aside0.mk (vkeepB KQ8.out hB)
  have KE9 := Aside0.mk (vkeepB KE8.out hB)
  have KV9 := Aside0.mk (vkeepB KV8.out hB)
  have KZ9 := Aside0.mk (vkeepB KZ8.out hB)
  clear HB8 KF8 KX8 KP8 KQ8 KE8 KV8 KZ8
  clear hB
  obtain ⟨f_0, f_1, f_2⟩ := vcells KF9.out
  obtain ⟨x_0, x_1, x_2⟩ := vcells KX9.out
  obtain ⟨p_0, p_1, p_2, p_3, p_4⟩ := vcells5 KP9.out
  obtain ⟨q_0, q_1, q_2, q_3, q_4⟩ := vcells5 KQ9.out
  obtain ⟨v_0, v_1, v_2, v_3, v_4⟩ := vcells5 KV9.out
  obtain ⟨z_0, z_1, z_2, z_3, z_4⟩ := vcells5 KZ9.out
  go_wp2_with fail
  refine (pred_Holds.calls 20 ⟨#[97]⟩ 7 2 0 ⟨#[97, 98]⟩ 2 0 ⟨#[97]⟩ _ _ sm4).mono ?_
  rintro e w10 ⟨rfl, hB⟩
  clear f_0 f_1 f_2 x_0 x_1 x_2 p_0 p_1 p_2 p_3 p_4 q_0 q_1 q_2 q_3 q_4 v_0 v_1 v_2 v_3 v_4 z_0 z_1 z_2 z_3 z_4
  have HB10 : Aside0 (Below b0 w w10) := ⟨HB9.out.trans (hB.mono (by have := HB9.out.size; have := HW.out; omega))⟩
  have KF10 := Aside0.mk (vkeepB KF9.out hB)
  have KX10 := Aside0.mk (vkeepB KX9.out hB)
  have KP10 := Aside0.mk (vkeepB KP9.out hB)
  have KQ10 := Aside0.mk (vkeepB KQ9.out hB)
  have KE10 := Aside0.mk (vkeepB KE9.out hB)
  have KV10 := Aside0.mk (vkeepB KV9.out hB)
  have KZ10 := Aside0.mk (vkeepB KZ9.out hB)
  clear HB9 KF9 KX9 KP9 KQ9 KE9 KV9 KZ9
  clear hB
  obtain ⟨f_0, f_1, f_2⟩ := vcells KF10.out
  obtain ⟨x_0, x_1, x_2⟩ := vcells KX10.out
  obtain ⟨p_0, p_1, p_2, p_3, p_4⟩ := vcells5 KP10.out
  obtain ⟨q_0, q_1, q_2, q_3, q_4⟩ := vcells5 KQ10.out
  obtain ⟨v_0, v_1, v_2, v_3, v_4⟩ := vcells5 KV10.out
  obtain ⟨z_0, z_1, z_2, z_3, z_4⟩ := vcells5 KZ10.out
  go_wp2_with fail
  refine (pred_Meets.calls 20 ⟨#[97]⟩ 5 1 5 ⟨#[]⟩ (some ⟨b4, 0, none⟩) 1 [⟨⟨#[97]⟩, ⟨1, 6, ⟨#[]⟩⟩⟩] _ w10 (one_attr ⟨⟨#[97]⟩, ⟨1, 6, ⟨#[]⟩⟩⟩ KE10.out) (Nat.le_refl _) sm5).mono ?_
  rintro e w11 ⟨rfl, hB⟩
  clear f_0 f_1 f_2 x_0 x_1 x_2 p_0 p_1 p_2 p_3 p_4 q_0 q_1 q_2 q_3 q_4 v_0 v_1 v_2 v_3 v_4 z_0 z_1 z_2 z_3 z_4
  have HB11 : Aside0 (Below b0 w w11) := ⟨HB10.out.trans (hB.mono (by have := HB10.out.size; have := HW.out; omega))⟩
  have KF11 := Aside0.mk (vkeepB KF10.out hB)
  have KX11 := Aside0.mk (vkeepB KX10.out hB)
  have KP11 := Aside0.mk (vkeepB KP10.out hB)
  have KQ11 := Aside0.mk (vkeepB KQ10.out hB)
  have KE11 := Aside0.mk (vkeepB KE10.out hB)
  have KV11 := Aside0.mk (vkeepB KV10.out hB)
  have KZ11 := Aside0.mk (vkeepB KZ10.out hB)
  clear HB10 KF10 KX10 KP10 KQ10 KE10 KV10 KZ10
  clear hB
  obtain ⟨f_0, f_1, f_2⟩ := vcells KF11.out
  obtain ⟨x_0, x_1, x_2⟩ := vcells KX11.out
  obtain ⟨p_0, p_1, p_2, p_3, p_4⟩ := vcells5 KP11.out
  obtain ⟨q_0, q_1, q_2, q_3, q_4⟩ := vcells5 KQ11.out
  obtain ⟨v_0, v_1, v_2, v_3, v_4⟩ := vcells5 KV11.out
  obtain ⟨z_0, z_1, z_2, z_3, z_4⟩ := vcells5 KZ11.out
  go_wp2_with fail
  refine (pred_Meets.calls 20 ⟨#[97]⟩ 5 1 5 ⟨#[]⟩ none 0 [] _ w11 (Kd.C_nil _ _) (Nat.le_refl _) sm6).mono ?_
  rintro e w12 ⟨rfl, hB⟩
  clear f_0 f_1 f_2 x_0 x_1 x_2 p_0 p_1 p_2 p_3 p_4 q_0 q_1 q_2 q_3 q_4 v_0 v_1 v_2 v_3 v_4 z_0 z_1 z_2 z_3 z_4
  have HB12 : Aside0 (Below b0 w w12) := ⟨HB11.out.trans (hB.mono (by have := HB11.out.size; have := HW.out; omega))⟩
  have KF12 := Aside0.mk (vkeepB KF11.out hB)
  have KX12 := Aside0.mk (vkeepB KX11.out hB)
  have KP12 := Aside0.mk (vkeepB KP11.out hB)
  have KQ12 := Aside0.mk (vkeepB KQ11.out hB)
  have KE12 := Aside0.mk (vkeepB KE11.out hB)
  have KV12 := Aside0.mk (vkeepB KV11.out hB)
  have KZ12 := Aside0.mk (vkeepB KZ11.out hB)
  clear HB11 KF11 KX11 KP11 KQ11 KE11 KV11 KZ11
  clear hB
  obtain ⟨f_0, f_1, f_2⟩ := vcells KF12.out
  obtain ⟨x_0, x_1, x_2⟩ := vcells KX12.out
  obtain ⟨p_0, p_1, p_2, p_3, p_4⟩ := vcells5 KP12.out
  obtain ⟨q_0, q_1, q_2, q_3, q_4⟩ := vcells5 KQ12.out
  obtain ⟨v_0, v_1, v_2, v_3, v_4⟩ := vcells5 KV12.out
  obtain ⟨z_0, z_1, z_2, z_3, z_4⟩ := vcells5 KZ12.out
  go_wp2_with fail
  refine (pred_Holds.calls 20 ⟨#[97]⟩ 5 1 5 ⟨#[]⟩ 2 0 ⟨#[97, 98]⟩ _ _ sm7).mono ?_
  rintro e w13 ⟨rfl, hB⟩
  clear f_0 f_1 f_2 x_0 x_1 x_2 p_0 p_1 p_2 p_3 p_4 q_0 q_1 q_2 q_3 q_4 v_0 v_1 v_2 v_3 v_4 z_0 z_1 z_2 z_3 z_4
  have HB13 : Aside0 (Below b0 w w13) := ⟨HB12.out.trans (hB.mono (by have := HB12.out.size; have := HW.out; omega))⟩
  have KF13 := Aside0.mk (vkeepB KF12.out hB)
  have KX13 := Aside0.mk (vkeepB KX12.out hB)
  have KP13 := Aside0.mk (vkeepB KP12.out hB)
  have KQ13 := Aside0.mk (vkeepB KQ12.out hB)
  have KE13 := Aside0.mk (vkeepB KE12.out hB)
  have KV13 := Aside0.mk (vkeepB KV12.out hB)
  have KZ13 := Aside0.mk (vkeepB KZ12.out hB)
  clear HB12 KF12 KX12 KP12 KQ12 KE12 KV12 KZ12
  clear hB
  obtain ⟨f_0, f_1, f_2⟩ := vcells KF13.out
  obtain ⟨x_0, x_1, x_2⟩ := vcells KX13.out
  obtain ⟨p_0, p_1, p_2, p_3, p_4⟩ := vcells5 KP13.out
  obtain ⟨q_0, q_1, q_2, q_3, q_4⟩ := vcells5 KQ13.out
  obtain ⟨v_0, v_1, v_2, v_3, v_4⟩ := vcells5 KV13.out
  obtain ⟨z_0, z_1, z_2, z_3, z_4⟩ := vcells5 KZ13.out
  go_wp2_with fail
  refine (pred_Holds.calls 20 ⟨#[97]⟩ 2 1 5 ⟨#[]⟩ 2 0 ⟨#[97, 98]⟩ _ _ sm8).mono ?_
  rintro e w14 ⟨rfl, hB⟩
  clear f_0 f_1 f_2 x_0 x_1 x_2 p_0 p_1 p_2 p_3 p_4 q_0 q_1 q_2 q_3 q_4 v_0 v_1 v_2 v_3 v_4 z_0 z_1 z_2 z_3 z_4
  have HB14 : Aside0 (Below b0 w w14) := ⟨HB13.out.trans (hB.mono (by have := HB13.out.size; have := HW.out; omega))⟩
  have KF14 := Aside0.mk (vkeepB KF13.out hB)
  have KX14 := Aside0.mk (vkeepB KX13.out hB)
  have KP14 := Aside0.mk (vkeepB KP13.out hB)
  have KQ14 := Aside0.mk (vkeepB KQ13.out hB)
  have KE14 := Aside0.mk (vkeepB KE13.out hB)
  have KV14 := Aside0.mk (vkeepB KV13.out hB)
  have KZ14 := Aside0.mk (vkeepB KZ13.out hB)
  clear HB13 KF13 KX13 KP13 KQ13 KE13 KV13 KZ13
  clear hB
  obtain ⟨f_0, f_1, f_2⟩ := vcells KF14.out
  obtain ⟨x_0, x_1, x_2⟩ := vcells KX14.out
  obtain ⟨p_0, p_1, p_2, p_3, p_4⟩ := vcells5 KP14.out
  obtain ⟨q_0, q_1, q_2, q_3, q_4⟩ := vcells5 KQ14.out
  obtain ⟨v_0, v_1, v_2, v_3, v_4⟩ := vcells5 KV14.out
  obtain ⟨z_0, z_1, z_2, z_3, z_4⟩ := vcells5 KZ14.out
  go_wp2_with fail
  refine (pred_Holds.calls 20 ⟨#[97]⟩ 8 0 0 ⟨#[]⟩ 2 0 ⟨#[97, 98]⟩ _ _ sm9).mono ?_
  rintro e w15 ⟨rfl, hB⟩
  clear f_0 f_1 f_2 x_0 x_1 x_2 p_0 p_1 p_2 p_3 p_4 q_0 q_1 q_2 q_3 q_4 v_0 v_1 v_2 v_3 v_4 z_0 z_1 z_2 z_3 z_4
  have HB15 : Aside0 (Below b0 w w15) := ⟨HB14.out.trans (hB.mono (by have := HB14.out.size; have := HW.out; omega))⟩
  have KF15 := Aside0.mk (vkeepB KF14.out hB)
  have KX15 := Aside0.mk (vkeepB KX14.out hB)
  have KP15 := Aside0.mk (vkeepB KP14.out hB)
  have KQ15 := Aside0.mk (vkeepB KQ14.out hB)
  have KE15 := Aside0.mk (vkeepB KE14.out hB)
  have KV15 := Aside0.mk (vkeepB KV14.out hB)
  have KZ15 := Aside0.mk (vkeepB KZ14.out hB)
  clear HB14 KF14 KX14 KP14 KQ14 KE14 KV14 KZ14
  clear hB
  obtain ⟨f_0, f_1, f_2⟩ := vcells KF15.out
  obtain ⟨x_0, x_1, x_2⟩ := vcells KX15.out
  obtain ⟨p_0, p_1, p_2, p_3, p_4⟩ := vcells5 KP15.out
  obtain ⟨q_0, q_1, q_2, q_3, q_4⟩ := vcells5 KQ15.out
  obtain ⟨v_0, v_1, v_2, v_3, v_4⟩ := vcells5 KV15.out
  obtain ⟨z_0, z_1, z_2, z_3, z_4⟩ := vcells5 KZ15.out
  go_wp2_with fail
  go_ret
  exact ⟨rfl, by have h_ := HB15.out; rwa [← HW.out] at h_⟩
end Go.Proofs.Ytojefdnngkcaoaa
end

section
/- of a value of the kind that is asked just one of each pair holds: the law's walk -/
set_option linter.unusedVariables false
set_option linter.unusedSimpArgs false
set_option autoImplicit false
namespace Go.Proofs.Ytojefdnngkcaoaa
open Go.RowKit Go.Proofs.YtojefdnngkcaoaaW.PrintWords Go.Proofs.YtojefdnngkcaoaaW.PrintLast Go.Proofs.YtojefdnngkcaoaaW.PrintMore Go.Proofs.Ytojefdnngkcaoaa.G

theorem below_via3 {w W W' : World} (h0 : Below w.heap.size w W) (h : Below W.heap.size W W') : Below w.heap.size w W' := h0.trans (h.mono h0.size)
theorem ofList3 {a b : ByteArray} (h : a.data.toList = b.data.toList) : a = b := by
  cases a with
  | mk x => cases b with
    | mk y => cases x; cases y; simp only at h; rw [h]
theorem vcmp_zero (k i : Int) (t : ByteArray) (i' : Int) (t' : ByteArray) (h : vcmp k i t k i' t' = 0) : i = i' ∧ t = t' := by
  have hz := cmpB_zero t.data.toList t'.data.toList
  have e : cmpI k k = 0 := by unfold cmpI; rw [if_neg (by omega), if_neg (by omega)]
  unfold vcmp or3 at h
  rw [e, if_pos rfl] at h
  by_cases e2 : cmpI i i' = 0
  · rw [if_pos e2] at h
    refine ⟨?_, ofList3 (hz.1 h)⟩
    unfold cmpI at e2
    split at e2
    · omega
    · split at e2 <;> omega
  · rw [if_neg e2] at h
    exact absurd h e2
theorem vcmp_same (k i : Int) (t : ByteArray) : vcmp k i t k i t = 0 := by
  have hz := (cmpB_zero t.data.toList t.data.toList).2 rfl
  have e : ∀ x, cmpI x x = 0 := fun x => by unfold cmpI; rw [if_neg (by omega), if_neg (by omega)]
  unfold vcmp or3
  rw [e, e, if_pos rfl, if_pos rfl, hz]
/-- what the six questions say -/
def six (wk wi : Int) (wt : ByteArray) (vk vi : Int) (vt : ByteArray) (o : Int) : Bool := if vk = wk then askB o (vcmp vk vi vt wk wi wt) else false
theorem six_holds (nm : ByteArray) (wk wi : Int) (wt : ByteArray) (vk vi : Int) (vt : ByteArray) (o : Int) (h1 : 1 ≤ nm.size) (h16 : nm.size ≤ 16) (ht : wt.size ≤ 32) (hw : vright wk wi wt = true) (hv : vright vk vi vt = true) (o1 : 1 ≤ o) (o6 : o ≤ 6) :
    holdsB nm o wk wi wt vk vi vt = six wk wi wt vk vi vt o := by
  have hp : prightB nm o wk wi wt = true := by
    unfold prightB
    rw [if_neg (by omega), if_neg (by omega), pnamed_eq, hw, decide_eq_true (show 1 ≤ nm.size ∧ nm.size ≤ 16 by omega), decide_eq_true ht, decide_eq_true o1, decide_eq_true (show o ≤ 7 by omega)]
    rfl
  unfold holdsB six
  rw [if_pos hp, if_pos hv, if_neg (by omega)]
  split
  · rw [if_neg (by omega)]
  · rfl
/-- the row of nine after the questions below k -/
def is9 (h : Int → Bool) (k : Nat) : Array Value := #[.bool false, .bool (decide (1 < k) && h 1), .bool (decide (2 < k) && h 2), .bool (decide (3 < k) && h 3), .bool (decide (4 < k) && h 4), .bool (decide (5 < k) && h 5), .bool (decide (6 < k) && h 6), .bool false, .bool false]
theorem zero9 (w : World) : (zeroValue 36).run Try.prog w = .ok (.agg #[.bool false, .bool false, .bool false, .bool false, .bool false, .bool false, .bool false, .bool false, .bool false]) w := by kernel_rfl
theorem is9_get (h : Int → Bool) (k : Nat) (h1 : 1 ≤ k) (h7 : k < 7) : (is9 h k)[k]? = some (.bool false) := by
  have : k = 1 ∨ k = 2 ∨ k = 3 ∨ k = 4 ∨ k = 5 ∨ k = 6 := by omega
  rcases this with rfl | rfl | rfl | rfl | rfl | rfl <;> simp [is9]
theorem is9_set (h : Int → Bool) (k : Nat) (h1 : 1 ≤ k) (h7 : k < 7) : (is9 h k).setIfInBounds k (.bool (h k)) = is9 h (k + 1) := by
  have : k = 1 ∨ k = 2 ∨ k = 3 ∨ k = 4 ∨ k = 5 ∨ k = 6 := by omega
  rcases this with rfl | rfl | rfl | rfl | rfl | rfl <;> simp [is9]
theorem is9_cells {W : World} {b : Nat} {h : Int → Bool} (hb : W.heap[b]? = some (.cells (is9 h 7) 36 (0, 0))) (x1 x2 x3 x4 x5 x6 : Bool) (e1 : h 1 = x1) (e2 : h 2 = x2) (e3 : h 3 = x3) (e4 : h 4 = x4) (e5 : h 5 = x5) (e6 : h 6 = x6) :
    W.cell? ⟨b, 1, none⟩ = some (.bool x1) ∧ W.cell? ⟨b, 2, none⟩ = some (.bool x2) ∧ W.cell? ⟨b, 3, none⟩ = some (.bool x3) ∧ W.cell? ⟨b, 4, none⟩ = some (.bool x4) ∧ W.cell? ⟨b, 5, none⟩ = some (.bool x5) ∧ W.cell? ⟨b, 6, none⟩ = some (.bool x6) := by
  subst e1 e2 e3 e4 e5 e6
  exact ⟨by rw [cell_of_row _ _ _ _ _ _ hb]; simp [is9], by rw [cell_of_row _ _ _ _ _ _ hb]; simp [is9], by rw [cell_of_row _ _ _ _ _ _ hb]; simp [is9], by rw [cell_of_row _ _ _ _ _ _ hb]; simp [is9], by rw [cell_of_row _ _ _ _ _ _ hb]; simp [is9], by rw [cell_of_row _ _ _ _ _ _ hb]; simp [is9]⟩
theorem alloc2 (w : World) (A B : Obj) : ((w.alloc A).alloc B).heap[w.heap.size]? = some A ∧ ((w.alloc A).alloc B).heap[w.heap.size + 1]? = some B ∧ Below w.heap.size w ((w.alloc A).alloc B) := by
  have h : ((w.alloc A).alloc B).heap = (w.heap.push A).push B := rfl
  have b1 := (Below.refl w.heap.size w).alloc (Nat.le_refl _) A
  rw [h]
  refine ⟨?_, ?_, b1.alloc b1.size B⟩
  · rw [Array.getElem?_push, if_neg (by simp), Array.getElem?_push, if_pos (by simp)]
  · rw [Array.getElem?_push, if_pos (by simp)]
set_option maxRecDepth 100000 in
set_option maxHeartbeats 8000000 in
theorem predTurns_any (nm : ByteArray) (wk wi : Int) (wt : ByteArray) (vk vi : Int) (vt : ByteArray) (w : World) (hi : -9223372036854775808 ≤ wi ∧ wi < 9223372036854775808) (hj : -9223372036854775808 ≤ vi ∧ vi < 9223372036854775808) :
    Calls Try.prog 4 #[.string nm, .agg #[.int .i64 wk, .int .i64 wi, .string wt], .agg #[.int .i64 vk, .int .i64 vi, .string vt]] w fun e w' => e = .returned (.bool true) ∧ Below w.heap.size w w' := by
  obtain ⟨hA, hB, hb⟩ := alloc2 w (.cells #[.int .i64 wk, .int .i64 wi, .string wt] 23 (0, 0)) (.cells #[.int .i64 vk, .int .i64 vi, .string vt] 23 (0, 0))
  have HA := Aside0.mk hA
  have HV := Aside0.mk hB
  have HW := Aside0.mk hb
  have HI := Aside0.mk (And.intro hi hj)
  clear hA hB hb hi hj
  have hz := Aside0.mk zero9
  go_enter Try.func4, Try.ntmps4
  go_upto_region 1 with fail
  generalize ((w.alloc (.cells #[.int .i64 wk, .int .i64 wi, .string wt] 23 (0, 0))).alloc (.cells #[.int .i64 vk, .int .i64 vi, .string vt] 23 (0, 0))) = wa at HA HV HW ⊢
  go_wp2_with fail
  refine (small_any _).mono ?_
  rintro e w4 ⟨rfl, hX⟩
  have HW4 := Aside0.mk (below_via3 HW.out hX)
  have HA4 := Aside0.mk (vkeepB HA.out hX)
  have HV4 := Aside0.mk (vkeepB HV.out hX)
  clear hX HW HA HV
  obtain ⟨p0, p1, p2⟩ := vcells HA4.out
  obtain ⟨q0, q1, q2⟩ := vcells HV4.out
  by_cases g1 : 1 ≤ nm.size
  · by_cases g2 : nm.size ≤ 16
    · by_cases g3 : vt.size ≤ 64
      · by_cases g4 : wt.size ≤ 32
        · go_wp2_with fail
          have R1 : value_Right.f vk vi vt = some (vright vk vi vt) := right_f vk vi vt HI.out.2.1 HI.out.2.2
          have R2 : value_Right.f wk wi wt = some (vright wk wi wt) := right_f wk wi wt HI.out.1.1 HI.out.1.2
          by_cases r1 : vright vk vi vt = true
          · rw [r1] at R1
            refine (value_Right.calls vk vi vt true _ R1).mono ?_
            rintro e w5 ⟨rfl, hX⟩
            clear p0 p1 p2 q0 q1 q2
            have HW5 := Aside0.mk (below_via3 HW4.out hX)
            have HA5 := Aside0.mk (vkeepB HA4.out hX)
            have HV5 := Aside0.mk (vkeepB HV4.out hX)
            clear hX HW4 HA4 HV4
            obtain ⟨p0, p1, p2⟩ := vcells HA5.out
            obtain ⟨q0, q1, q2⟩ := vcells HV5.out
            go_wp2_with fail
            by_cases r2 : vright wk wi wt = true
            · rw [r2] at R2
              refine (value_Right.calls wk wi wt true _ R2).mono ?_
              rintro e w6 ⟨rfl, hX⟩
              clear p0 p1 p2 q0 q1 q2 R1 R2
              have HW6 := Aside0.mk (below_via3 HW5.out hX)
              have HA6 := Aside0.mk (vkeepB HA5.out hX)
              have HV6 := Aside0.mk (vkeepB HV5.out hX)
              clear hX HW5 HA5 HV5
              have HH : Aside0 (∀ o : Int, 1 ≤ o → o ≤ 6 → pred_Holds.f 9 nm o wk wi wt vk vi vt = some (six wk wi wt vk vi vt o)) := ⟨fun o o1 o6 => by rw [holds_f (by decide) nm o wk wi wt vk vi vt HI.out.1.1 HI.out.1.2 HI.out.2.1 HI.out.2.2, six_holds nm wk wi wt vk vi vt o g1 g2 g4 r2 r1 o1 o6]⟩
              have hz' := hz.out
              go_wp2_with fail
              clear hz' hz
              have HN := Aside0.mk (And.intro (heap_alloc_new w6 (.cells #[.bool false, .bool false, .bool false, .bool false, .bool false, .bool false, .bool false, .bool false, .bool false] 36 (0, 0))) ((Below.refl w6.heap.size w6).alloc (Nat.le_refl _) (.cells #[.bool false, .bool false, .bool false, .bool false, .bool false, .bool false, .bool false, .bool false, .bool false] 36 (0, 0))))
              have HW7 := Aside0.mk (below_via3 HW6.out HN.out.2)
              have HA7 := Aside0.mk (vkeepB HA6.out HN.out.2)
              have HV7 := Aside0.mk (vkeepB HV6.out HN.out.2)
              have HS := Aside0.mk HN.out.1
              have LTA := Aside0.mk (lt_of_heap HA6.out)
              have LTV := Aside0.mk (lt_of_heap HV6.out)
              have LE6 := Aside0.mk HW6.out.size
              generalize w6.alloc (.cells #[.bool false, .bool false, .bool false, .bool false, .bool false, .bool false, .bool false, .bool false, .bool false] 36 (0, 0)) = w7 at HN HW7 HA7 HV7 HS ⊢
              generalize w6.heap.size = gi at HN HS LTA LTV LE6 ⊢
              clear HN HW6 HA6 HV6
              go_loopw [9] (fun i wr => ∃ k : Nat, 1 ≤ k ∧ k ≤ 7 ∧ i = .int .i64 k ∧ Aside0 (wr.heap[gi]? = some (.cells (is9 (six wk wi wt vk vi vt) k) 36 (0, 0))) ∧ Aside0 (wr.heap[w.heap.size]? = some (.cells #[.int .i64 wk, .int .i64 wi, .string wt] 23 (0, 0))) ∧ Aside0 (wr.heap[w.heap.size + 1]? = some (.cells #[.int .i64 vk, .int .i64 vi, .string vt] 23 (0, 0))) ∧ Aside0 (Below w.heap.size w wr)) (fun i _ => 7 - (intOf i).toNat)
              case atStart => exact ⟨1, by omega, by omega, rfl, ⟨HS.out⟩, HA7, HV7, HW7⟩
              case round =>
                clear HS HA7 HV7 HW7
                obtain ⟨k, hk1, hk7, rfl, HS, HA8, HV8, HW8⟩ := hrel
                obtain ⟨p0, p1, p2⟩ := vcells HA8.out
                obtain ⟨q0, q1, q2⟩ := vcells HV8.out
                by_cases hlt : k < 7
                · go_wp2_with fail
                  refine (pred_Holds.calls 9 nm k wk wi wt vk vi vt _ _ (HH.out k (by omega) (by omega))).mono ?_
                  rintro e w9 ⟨rfl, hX⟩
                  clear p0 p1 p2 q0 q1 q2
                  have HW9 := Aside0.mk (below_via3 HW8.out hX)
                  have HA9 := Aside0.mk (vkeepB HA8.out hX)
                  have HV9 := Aside0.mk (vkeepB HV8.out hX)
                  have HS9 := Aside0.mk (vkeepB HS.out hX)
                  clear hX HW8 HA8 HV8 HS
                  have hc : w9.cell? ⟨gi, k, none⟩ = some (.bool false) := by rw [cell_of_row w9 _ _ _ _ _ HS9.out, is9_get _ _ hk1 hlt]
                  have hf : w9.frozen? ⟨gi, k, none⟩ = false := frozen_of_row w9 _ _ _ _ HS9.out
                  go_wp2_with fail
                  go_roundw
                  case rel => exact ⟨k + 1, by omega, by omega, by go_num, ⟨by rw [heap_setCell_same _ _ _ _ _ _ HS9.out, is9_set _ _ hk1 hlt]⟩, ⟨by rw [heap_setCell_other _ _ _ _ (show w.heap.size ≠ gi from by have := LTA.out; omega)]; exact HA9.out⟩, ⟨by rw [heap_setCell_other _ _ _ _ (show w.heap.size + 1 ≠ gi from by have := LTV.out; omega)]; exact HV9.out⟩, ⟨HW9.out.setCell LE6.out _⟩⟩
                  case measure => simp [intOf]; omega
                · obtain rfl : k = 7 := by omega
                  clear HH
                  by_cases hk : vk = wk
                  · subst hk
                    obtain ⟨c, hc⟩ : ∃ c, vcmp vk vi vt vk wi wt = c := ⟨_, rfl⟩
                    have hs : ∀ o, six vk wi wt vk vi vt o = askB o c := fun o => by unfold six; rw [if_pos rfl, hc]
                    by_cases c0 : c = 0
                    · obtain ⟨e1, e2⟩ := vcmp_zero _ _ _ _ _ (hc.trans c0)
                      subst e1 e2
                      subst c0
                      obtain ⟨b1, b2, b3, b4, b5, b6⟩ := is9_cells HS.out true false false true false true (by rw [hs]; decide) (by rw [hs]; decide) (by rw [hs]; decide) (by rw [hs]; decide) (by rw [hs]; decide) (by rw [hs]; decide)
                      clear hs hc HS
                      go_upto_region 11 with fail
                      go_quiet (fail)
                      go_wp2
                      go_ret
                      exact ⟨rfl, pw_below_drewN HW8.out _⟩
                    · have hE : ¬ (vi = wi ∧ vt = wt) := fun h => c0 (by rw [← hc, h.1, h.2]; exact vcmp_same _ _ _)
                      have two : (∃ x3 x5 : Bool, (six vk wi wt vk vi vt 1 = false ∧ six vk wi wt vk vi vt 2 = true ∧ six vk wi wt vk vi vt 3 = x3 ∧ six vk wi wt vk vi vt 4 = x3 ∧ six vk wi wt vk vi vt 5 = x5 ∧ six vk wi wt vk vi vt 6 = x5) ∧ (x3 = true ∧ x5 = false ∨ x3 = false ∧ x5 = true)) := by
                        simp only [hs]
                        unfold askB
                        by_cases cn : c < 0
                        · exact ⟨true, false, ⟨by simp [c0], by simp [c0], by simp [cn], by simp; omega, by simp; omega, by simp; omega⟩, Or.inl ⟨rfl, rfl⟩⟩
                        · exact ⟨false, true, ⟨by simp [c0], by simp [c0], by simp; omega, by simp; omega, by simp; omega, by simp; omega⟩, Or.inr ⟨rfl, rfl⟩⟩
                      obtain ⟨x3, x5, ⟨h1, h2, h3, h4, h5, h6⟩, hx⟩ := two
                      obtain ⟨b1, b2, b3, b4, b5, b6⟩ := is9_cells HS.out false true x3 x3 x5 x5 h1 h2 h3 h4 h5 h6
                      clear hs hc HS h1 h2 h3 h4 h5 h6 c0
                      by_cases n2 : vi = wi
                      · subst n2
                        have n3 : ¬ vt = wt := fun h => hE ⟨rfl, h⟩
                        have f1 : (vt.toList == wt.toList) = false := by
                          rw [beq_eq_false_iff_ne]
                          intro h
                          rw [ByteArray.toList_eq, ByteArray.toList_eq] at h
                          exact n3 (ofList3 h)
                        have f3 : decide (vt = wt) = false := decide_eq_false n3
                        clear hE
                        rcases hx with ⟨rfl, rfl⟩ | ⟨rfl, rfl⟩
                        · go_upto_region 11 with fail
                          go_quiet (fail)
                          go_wp2
                          go_ret
                          exact ⟨rfl, pw_below_drewN HW8.out _⟩
                        · go_upto_region 11 with fail
                          go_quiet (fail)
                          go_wp2
                          go_ret
                          exact ⟨rfl, pw_below_drewN HW8.out _⟩
                      · have f1 : (vi == wi) = false := by simpa using n2
                        clear hE
                        rcases hx with ⟨rfl, rfl⟩ | ⟨rfl, rfl⟩
                        · go_upto_region 11 with fail
                          go_quiet (fail)
                          go_wp2
                          go_ret
                          exact ⟨rfl, pw_below_drewN HW8.out _⟩
                        · go_upto_region 11 with fail
                          go_quiet (fail)
                          go_wp2
                          go_ret
                          exact ⟨rfl, pw_below_drewN HW8.out _⟩
                  · have hs : ∀ o, six wk wi wt vk vi vt o = false := fun o => by unfold six; rw [if_neg hk]
                    obtain ⟨b1, b2, b3, b4, b5, b6⟩ := is9_cells HS.out false false false false false false (hs _) (hs _) (hs _) (hs _) (hs _) (hs _)
                    clear hs HS
                    have f1 : (vk == wk) = false := by simpa using hk
                    go_wp2
                    go_ret
                    exact ⟨rfl, HW8.out⟩
            · have r2' : vright wk wi wt = false := by simpa using r2
              rw [r2'] at R2
              refine (value_Right.calls wk wi wt false _ R2).mono ?_
              rintro e w6 ⟨rfl, hX⟩
              clear p0 p1 p2 q0 q1 q2
              have HW6 := Aside0.mk (below_via3 HW5.out hX)
              clear hX hz
              go_wp2
              go_ret
              exact ⟨rfl, HW6.out⟩
          · have r1' : vright vk vi vt = false := by simpa using r1
            rw [r1'] at R1
            refine (value_Right.calls vk vi vt false _ R1).mono ?_
            rintro e w6 ⟨rfl, hX⟩
            clear p0 p1 p2 q0 q1 q2
            have HW6 := Aside0.mk (below_via3 HW4.out hX)
            clear hX hz
            go_wp2
            go_ret
            exact ⟨rfl, HW6.out⟩
        · go_wp2
          go_ret
          exact ⟨rfl, HW4.out⟩
      · go_wp2
        go_ret
        exact ⟨rfl, HW4.out⟩
    · go_wp2
      go_ret
      exact ⟨rfl, HW4.out⟩
  · go_wp2
    go_ret
    exact ⟨rfl, HW4.out⟩
end Go.Proofs.Ytojefdnngkcaoaa
namespace Go.Proofs.Ytojefdnngkcaoaa.G
open Go.RowKit Go.Proofs.Ytojefdnngkcaoaa Go.Proofs.YtojefdnngkcaoaaW.PrintWords Go.Proofs.YtojefdnngkcaoaaW.PrintLast Go.Proofs.YtojefdnngkcaoaaW.PrintMore
def rosettelaw06_PredTurns.f (nm : ByteArray) (wk wi : Int) (wt : ByteArray) (vk vi : Int) (vt : ByteArray) : Option Bool := if (-9223372036854775808 ≤ wi ∧ wi < 9223372036854775808) ∧ (-9223372036854775808 ≤ vi ∧ vi < 9223372036854775808) then some true else none
theorem rosettelaw06_PredTurns.calls (nm : ByteArray) (wk wi : Int) (wt : ByteArray) (vk vi : Int) (vt : ByteArray) (r : Bool) (w : World) (h : rosettelaw06_PredTurns.f nm wk wi wt vk vi vt = some r) :
    Calls Try.prog 4 #[.string nm, .agg #[.int .i64 wk, .int .i64 wi, .string wt], .agg #[.int .i64 vk, .int .i64 vi, .string vt]] w fun e w' => e = .returned (.bool r) ∧ Below w.heap.size w w' := by
  unfold rosettelaw06_PredTurns.f at h
  split at h
  · rename_i hc
    obtain rfl : true = r := Option.some.inj h
    exact predTurns_any nm wk wi wt vk vi vt w hc.1 hc.2
  · cases h
end Go.Proofs.Ytojefdnngkcaoaa.G
end

section
namespace Go.Proofs.Ytojefdnngkcaoaa.G
open Go.RowKit Go.Proofs.Ytojefdnngkcaoaa Go.Proofs.Ytojefdnngkcaoaa.G Go.Proofs.YtojefdnngkcaoaaW.PrintWords Go.Proofs.YtojefdnngkcaoaaW.PrintLast

/-- The pure statement of rosettelaw06_PredTurns. -/
def rosettelaw06_PredTurns.Pure : Prop := ∀ (a0 : ByteArray) (a1 : S23) (a2 : S23), a0.size ≤ 140737488351232 → ((Lit.int .i64 a1.f0).wf = true ∧ ((Lit.int .i64 a1.f1).wf = true ∧ a1.f2.size ≤ 140737488351232)) → ((Lit.int .i64 a2.f0).wf = true ∧ ((Lit.int .i64 a2.f1).wf = true ∧ a2.f2.size ≤ 140737488351232)) → rosettelaw06_PredTurns.f a0 a1.f0 a1.f1 a1.f2 a2.f0 a2.f1 a2.f2 = some true
end Go.Proofs.Ytojefdnngkcaoaa.G
end

section
/- The statement PredTurns over numbers and texts: of a value of the kind that is asked just one of each pair holds. -/
namespace Go.Proofs.Ytojefdnngkcaoaa.Pure
open Go.RowKit Go.Proofs.Ytojefdnngkcaoaa.G Go.Proofs.Ytojefdnngkcaoaa
theorem PredTurns : rosettelaw06_PredTurns.Pure := by
  rintro n p v h0 ⟨hp1, hp2, hp3⟩ ⟨hv1, hv2, hv3⟩
  have b1 := Go.bounds_i64 hp2
  have b2 := Go.bounds_i64 hv2
  unfold rosettelaw06_PredTurns.f
  rw [if_pos ⟨by omega, by omega⟩]
end Go.Proofs.Ytojefdnngkcaoaa.Pure
end

section
/- What comes in, opened kind by kind: a datum that is read whole reads as a list, a structure, a number; and no slice and no text of it is longer than the form's reach. -/
set_option linter.unusedVariables false
set_option linter.unusedSimpArgs false
set_option autoImplicit false
namespace Go.Proofs.Ytojefdnngkcaoaa.Op
open Go.RowKit Go.Deep Go.ChangeShapes Go.WideShapes Go.Proofs.YtojefdnngkcaoaaW.PrintWords

section
variable {H α β : Type} (enc : TypeId × Value → H) (P : Program) (W : World)
/-- no part of a datum is longer than the reach -/
def Lite (P : Program) (t : TypeId) (d : DataW H) : Prop := ∀ n ∈ d.weights P t, n ≤ 140737488351232
/-- whatever is read at type t, and is no longer than the reach, is of the kind d, and good -/
def Opens (t : TypeId) (d : Kd α) (good : α → Prop) : Prop :=
  ∀ fuel (cs : List Value) x, DataW.trod enc P W 0 (fun _ => true) true fuel t cs = some x → Lite P t x.1 → ∃ a, d.K W a cs ∧ good a
def OpensF (fs : List Field) (o : Nat) (d : Kd α) (good : α → Prop) : Prop :=
  ∀ fuel (cs : List Value) xs, (fs.mapM fun f => DataW.trod enc P W 0 (fun _ => true) true fuel f.type ((cs.drop f.offset).take (P.cellsOf f.type))) = some xs → (∀ n ∈ DataW.weightsEach P (fs.map (·.type)) (xs.map (·.1)), n ≤ 140737488351232) → cs.length = o + d.sz → ∃ a, d.K W a (cs.drop o) ∧ good a
variable {enc P W}
theorem opens_int {t : TypeId} {k : IntKind} (ht : P.underlying t = some (.int k)) : Opens enc P W t (Kd.int k) (fun n => (Lit.int k n).wf = true) := by
  intro fuel cs x h _
  obtain ⟨n, h1, _, h2⟩ := DataW.trod_int ht h
  exact ⟨n, h1, h2⟩
theorem opens_bool {t : TypeId} (ht : P.underlying t = some .bool) : Opens enc P W t Kd.bool (fun _ => True) := by
  intro fuel cs x h _
  obtain ⟨n, h1, _⟩ := DataW.trod_bool ht h
  exact ⟨n, h1, trivial⟩
theorem opens_str {t : TypeId} (ht : P.underlying t = some .string) : Opens enc P W t Kd.string (fun s => s.size ≤ 140737488351232) := by
  intro fuel cs x h hl
  obtain ⟨s, h1, h2, _⟩ := DataW.trod_string ht h
  refine ⟨s, h1, ?_⟩
  rw [h2] at hl
  have := hl s.data.toList.length (by simp [DataW.weights])
  rw [Array.length_toList] at this
  exact this
theorem weightsAll_mem {e : TypeId} : ∀ {ds : List (DataW H)} {d : DataW H}, d ∈ ds → ∀ n ∈ d.weights P e, n ∈ DataW.weightsAll P e ds := by
  intro ds
  induction ds with
  | nil => intro d h; cases h
  | cons y ys ih =>
    intro d h n hn
    rw [DataW.weightsAll]
    rcases List.mem_cons.1 h with rfl | h
    · exact List.mem_append_left _ hn
    · exact List.mem_append_right _ (ih h n hn)
theorem opens_slice {t e : TypeId} {d : Kd α} {good : α → Prop} {B : Nat} (ht : P.underlying t = some (.slice e)) (hs : P.cellsOf e = d.sz) (hB : P.bytesOf e = B) (h : Opens enc P W e d good) :
    Opens enc P W t (Kd.slice e d) (fun xs => (xs.length ≤ maxLen ∧ xs.length * B ≤ 140737488351232) ∧ ∀ x ∈ xs, good x) := by
  intro fuel cs x hx hw
  rcases open_slice ht hx with ⟨rfl, _⟩ | ⟨a, len, cap, m, n, D, Pl, rfl, hb, hl, hm, hmm, rfl, hel⟩
  · exact ⟨[], ⟨none, 0, rfl, Nat.le_refl _, Kd.C_nil _ _⟩, ⟨Nat.zero_le _, by simp⟩, fun _ h => by cases h⟩
  · simp only [if_true] at hmm
    have hwt : ∀ n ∈ (len + (m - len)) * P.bytesOf e :: (DataW.weightsAll P e ((List.range len).map D) ++ DataW.weightsAll P e ((List.range (m - len)).map fun j => D (len + j))), n ≤ 140737488351232 := by
      have h1 := hw
      unfold Lite at h1
      rw [DataW.weights] at h1
      simp only [ht, List.length_map, List.length_range] at h1
      exact h1
    have hlenB : len * B ≤ 140737488351232 := by
      have h1 := hwt _ List.mem_cons_self
      rw [hB] at h1
      exact Nat.le_trans (Nat.mul_le_mul_right _ (by omega)) h1
    have hlite : ∀ i, i < len → Lite P e (D i) := fun i hi n hn => hwt n (List.mem_cons_of_mem _ (List.mem_append_left _ (weightsAll_mem (List.mem_map.2 ⟨i, List.mem_range.2 hi, rfl⟩) n hn)))
    have each : ∀ i, i < len → ∃ y : α, ∃ c, W.cells? 0 (a.add (i * P.cellsOf e)) (P.cellsOf e) = some c ∧ d.K W y c ∧ good y := by
      intro i hi
      obtain ⟨c, h1, h2⟩ := hel i (by omega)
      obtain ⟨y, h3, h4⟩ := h _ _ _ h2 (hlite i hi)
      exact ⟨y, c, h1, h3, h4⟩
    have build : ∃ xs : List α, xs.length = len ∧ ∀ i y, xs[i]? = some y → ∃ c, W.cells? 0 (a.add (i * P.cellsOf e)) (P.cellsOf e) = some c ∧ d.K W y c ∧ good y := by
      clear hx hel hm hl hb hmm hw hwt hlenB hlite
      induction len with
      | zero => exact ⟨[], rfl, fun i y h => by simp at h⟩
      | succ len ih =>
        obtain ⟨xs, h1, h2⟩ := ih (fun i hi => each i (by omega))
        obtain ⟨y, c, h3, h4, h5⟩ := each len (by omega)
        refine ⟨xs ++ [y], by simp [h1], fun i z hz => ?_⟩
        by_cases hi : i < len
        · exact h2 i z (by rw [List.getElem?_append_left (by omega)] at hz; exact hz)
        · have hi2 : i < (xs ++ [y]).length := (List.getElem?_eq_some_iff.1 hz).1
          have : i = len := by rw [List.length_append, List.length_singleton] at hi2; omega
          subst this
          rw [List.getElem?_append_right (by omega), h1, Nat.sub_self] at hz
          simp only [List.getElem?_cons_zero, Option.some.injEq] at hz
          subst hz
          exact ⟨c, h3, h4, h5⟩
    obtain ⟨xs, h1, h2⟩ := build
    refine ⟨xs, ⟨some a, cap, by rw [h1], by omega, rfl, by rw [h1]; simp only [maxLen] at hm; omega, fun h0 => ⟨a, rfl, fun j p hj => ?_⟩⟩, ⟨by omega, by rw [h1]; exact hlenB⟩, fun y hy => ?_⟩
    · obtain ⟨c, h3, h4, h5⟩ := h2 j p hj
      obtain ⟨_, hlen, hcell⟩ := World.cells?_some h3
      refine ⟨c, by rw [hlen, hs], h4, fun i u hu => ?_⟩
      have hi : i < P.cellsOf e := by rw [← hlen]; exact (List.getElem?_eq_some_iff.1 hu).1
      have := hcell i hi
      rw [hu, Go.Proofs.YtojefdnngkcaoaaW.PrintWords.add_add, hs] at this
      exact this
    · obtain ⟨i, hi⟩ := List.getElem?_of_mem hy
      obtain ⟨c, _, _, h5⟩ := h2 i y hi
      exact h5
theorem opensF_one {f : Field} {o : Nat} {d : Kd α} {good : α → Prop} (ho : f.offset = o) (hc : P.cellsOf f.type = d.sz) (h : Opens enc P W f.type d good) : OpensF enc P W [f] o d good := by
  intro fuel cs xs hx hw hl
  simp only [List.mapM_cons, List.mapM_nil, Option.pure_def, Option.bind_eq_bind, Option.bind_eq_some_iff] at hx
  obtain ⟨y, h1, z, hz, hxs⟩ := hx
  simp only [Option.some.injEq] at hz hxs
  subst hz
  subst hxs
  obtain ⟨a, h2, h3⟩ := h _ _ _ h1 (fun n hn => hw n (by simp [DataW.weightsEach, hn]))
  rw [ho, hc, List.take_of_length_le (by rw [List.length_drop]; omega)] at h2
  exact ⟨a, h2, h3⟩
theorem opensF_cons {f : Field} {fs : List Field} {o : Nat} {d : Kd α} {e : Kd β} {g1 : α → Prop} {g2 : β → Prop} (ho : f.offset = o) (hc : P.cellsOf f.type = d.sz) (h : Opens enc P W f.type d g1) (hr : OpensF enc P W fs (o + d.sz) e g2) :
    OpensF enc P W (f :: fs) o (Kd.pair d e) (fun p => g1 p.1 ∧ g2 p.2) := by
  intro fuel cs xs hx hw hl
  simp only [List.mapM_cons, Option.pure_def, Option.bind_eq_bind, Option.bind_eq_some_iff] at hx
  obtain ⟨y, h1, ys, h2, hxs⟩ := hx
  simp only [Option.some.injEq] at hxs
  subst hxs
  have hsz : (Kd.pair d e).sz = d.sz + e.sz := rfl
  obtain ⟨a, h3, h4⟩ := h _ _ _ h1 (fun n hn => hw n (by simp [DataW.weightsEach, hn]))
  obtain ⟨b, h5, h6⟩ := hr _ _ _ h2 (fun n hn => hw n (by rw [List.map_cons, List.map_cons, DataW.weightsEach]; exact List.mem_append_right _ hn)) (by omega)
  rw [ho, hc] at h3
  refine ⟨(a, b), ⟨_, _, ?_, h3, h5⟩, h4, h6⟩
  rw [← List.drop_drop, List.take_append_drop]
theorem opens_struct {t : TypeId} {fs : Array Field} {d : Kd α} {good : α → Prop} (ht : P.underlying t = some (.struct fs)) (hc : P.cellsOf t = d.sz) (h : OpensF enc P W fs.toList 0 d good) : Opens enc P W t d good := by
  intro fuel cs x hx hw
  cases fuel with
  | zero => simp [DataW.trod] at hx
  | succ fuel =>
    have key : cs.length = P.cellsOf t ∧ ∃ xs, (fs.toList.mapM fun f => DataW.trod enc P W 0 (fun _ => true) true fuel f.type ((cs.drop f.offset).take (P.cellsOf f.type))) = some xs ∧ x.1 = .agg (xs.map (·.1)) := by
      unfold DataW.trod at hx
      rw [ht] at hx
      simp only at hx
      split at hx
      · rename_i hl
        rw [Option.map_eq_some_iff] at hx
        obtain ⟨xs, h1, h2⟩ := hx
        exact ⟨hl, xs, h1, by rw [← h2]⟩
      · cases hx
    obtain ⟨h1, xs, h2, h3⟩ := key
    have hw2 : ∀ n ∈ DataW.weightsEach P (fs.toList.map (·.type)) (xs.map (·.1)), n ≤ 140737488351232 := by
      unfold Lite at hw
      rw [h3, DataW.weights] at hw
      simp only [ht] at hw
      exact hw
    obtain ⟨a, h4, h5⟩ := h _ _ _ h2 hw2 (by omega)
    exact ⟨a, by simpa using h4, h5⟩
theorem opens_iso {t : TypeId} {d : Kd α} {good : α → Prop} (f : β → α) (g : α → β) (hfg : ∀ a, f (g a) = a) (h : Opens enc P W t d good) : Opens enc P W t (Kd.iso d f) (fun x => good (f x)) := by
  intro fuel cs x hx hw
  obtain ⟨a, h1, h2⟩ := h _ _ _ hx hw
  refine ⟨g a, ?_, by show good (f (g a)); rw [hfg]; exact h2⟩
  show d.K W (f (g a)) cs
  rw [hfg]
  exact h1
/-- the weight of an argument -/
theorem lite_arg {ts : List TypeId} {ds : List (DataW H)} (hsz : (DataW.weightsEach P ts ds).all (· ≤ reachBytes) = true) {j : Nat} {t : TypeId} {d : DataW H} (ht : ts[j]? = some t) (hd : ds[j]? = some d) : Lite P t d := by
  intro n hn
  have := List.all_eq_true.1 hsz n (DataW.weights_mem_each ht hd n hn)
  have h2 : n ≤ reachBytes := by simpa using this
  exact Nat.le_trans h2 (by decide)
/-- a slice that is handed in -/
theorem open_arg {t e : TypeId} {d : Kd α} {good : α → Prop} {B : Nat} (ht : P.underlying t = some (.slice e)) (hs : P.cellsOf e = d.sz) (hB : P.bytesOf e = B) (h : Opens enc P W e d good) {A : Option Addr} {n c : Nat} {y : DataW H} {p : List MemPlace}
    (hl : Lite P t y) (hx : DataW.Trod enc P W 0 (fun _ => true) true t (.slice A n c) y p) : ∃ xs : List α, n = xs.length ∧ xs.length ≤ c ∧ c ≤ maxLen ∧ d.C W A xs.length xs ∧ (xs.length ≤ maxLen ∧ xs.length * B ≤ 140737488351232) ∧ ∀ x ∈ xs, good x := by
  obtain ⟨fuel, hf⟩ := hx
  have hcap : c ≤ maxLen := by
    rcases open_slice ht hf with ⟨hcs, _⟩ | ⟨a, len, cap, m, n, D, Pl, hcs, hb, hl, hm, hmm, _, hel⟩
    · simp only [Value.cells, List.cons.injEq, Value.slice.injEq, and_true] at hcs
      omega
    · simp only [Value.cells, List.cons.injEq, Value.slice.injEq, and_true] at hcs
      omega
  obtain ⟨xs, ⟨A', c', h1, h2, h3⟩, h4, h5⟩ := opens_slice ht hs hB h _ _ _ hf hl
  simp only [Value.cells, List.cons.injEq, Value.slice.injEq, and_true] at h1
  obtain ⟨rfl, rfl, rfl⟩ := h1
  exact ⟨xs, rfl, h2, hcap, h3, h4, h5⟩
/-- a text that is handed in -/
theorem lite_str {t : TypeId} {s : ByteArray} (hl : Lite (H := H) P t (.lit (.string s.data.toList))) : s.size ≤ 140737488351232 := by
  have := hl s.data.toList.length (by simp [DataW.weights])
  rw [Array.length_toList] at this
  exact this
end
end Go.Proofs.Ytojefdnngkcaoaa.Op
end

section
namespace Go.Proofs.Ytojefdnngkcaoaa.predTurns
open Go.ChangeShapes Go.WideShapes Go.ChangeAt Go.RowKit Go.Proofs.Ytojefdnngkcaoaa Go.Proofs.Ytojefdnngkcaoaa.G Go.Proofs.YtojefdnngkcaoaaW.PrintWords Go.Proofs.YtojefdnngkcaoaaW.PrintLast Go.Proofs.YtojefdnngkcaoaaW.PrintMore
open Go.ChangeMaps (open_string shut_string)
set_option linter.unusedVariables false
set_option linter.unusedSimpArgs false
theorem own : ownKnob Try.prog.godebug = none := by kernel_rfl
theorem laidOut : laidOutB Try.prog = true := by kernel_rfl
set_option maxRecDepth 100000 in
theorem lifted (os : Os) (started : os.Started) (H : Type) (enc : TypeId × Value → H) :
    ReturnsInHanded {} Try.checked os 4 .any (Rows.predTurnsSpec.pre6 enc Try.prog Try.f4 Rows.predTurnsRow.domain false) (Rows.predTurnsSpec.post enc Try.prog Try.f4 false true false false) := by
  refine returnsInHanded_of_change_sized (C := Try.checked) own started (by kernel_rfl) Try.func4
    (ChangeSpec.witness6 (enc := enc) (C := Try.checked) false ⟨#[], #[.string ByteArray.empty, .agg #[.int .i64 0, .int .i64 0, .string ByteArray.empty], .agg #[.int .i64 0, .int .i64 0, .string ByteArray.empty]], []⟩ 8 (by kernel_rfl) (by kernel_rfl) (by kernel_rfl) (by kernel_rfl)) ?_
  intro W base args ds gs before hval0 hW hcnd hsz0 _
  have hsz : (DataW.weightsEach Try.prog (Try.f4.params.toList ++ Rows.predTurnsSpec.plain.varTypes Try.prog) (ds ++ gs)).all (· ≤ reachBytes) = true := hsz0
  have hval : ∀ (j : Nat) t v, Try.f4.params[j]? = some t → args[j]? = some v → Value.okWide Try.prog W .any base t v := hval0
  have hW' := hW
  obtain ⟨p, q, hA0, hV, rfl, hfz, hnd⟩ := hW
  have hA : DataW.TrodAll enc Try.prog W 0 (fun _ => true) true Try.f4.params.toList args.toList ds p := hA0
  rw [Try.params4] at hA hval hsz
  obtain ⟨v0, vs0, d0, ds0, p0, q0, hargs, rfl, rfl, h0, r0⟩ := trodAll_cons hA
  obtain ⟨v1, vs1, d1, ds1, p1, q1, rfl, rfl, rfl, h1, r1⟩ := trodAll_cons r0
  obtain ⟨v2, vs2, d2, ds2, p2, q2, rfl, rfl, rfl, h2, r2⟩ := trodAll_cons r1
  obtain ⟨rfl, rfl, rfl⟩ := trodAll_nil r2
  obtain rfl : args = #[v0, v1, v2] := by cases args; simp_all
  obtain ⟨rfl, rfl⟩ := trodVars_none hV
  obtain ⟨a0, rfl, rfl, rfl, hy0⟩ := open_string Try.underlying9 (hval 0 9 v0 rfl rfl) h0
  have hg0 : a0.size ≤ 140737488351232 := Op.lite_str (Op.lite_arg hsz (j := 0) (t := 9) rfl rfl)
  have k1 := h1
  have lt1 : ∀ x ∈ p1, x.block < W.heap.size := by obtain ⟨m, hm⟩ := k1; exact DataW.trod_lt m _ _ _ hm
  obtain ⟨cs1, rfl, _⟩ := okWide_struct Try.underlying23 (hval 1 23 v1 rfl rfl)
  have q1 := Op.lite_arg hsz (j := 1) (t := 23) rfl rfl
  obtain ⟨fu1, hf1⟩ := h1
  obtain ⟨a1, hK1, hg1⟩ := (Op.opens_iso (fun x : S23 => (x.f0, x.f1, x.f2)) (fun p => (⟨p.1, p.2.1, p.2.2⟩ : S23)) (fun _ => rfl) (Op.opens_struct Try.underlying23 (by kernel_rfl) (Op.opensF_cons rfl (by kernel_rfl) (Op.opens_int Try.underlying3) (Op.opensF_cons rfl (by kernel_rfl) (Op.opens_int Try.underlying3) (Op.opensF_one rfl (by kernel_rfl) (Op.opens_str Try.underlying9)))))) _ _ _ hf1 q1
  have e1 := k23_open hK1
  obtain rfl : cs1 = #[.int .i64 a1.f0, .int .i64 a1.f1, .string a1.f2] := by have h_ : cs1.toList = _ := e1; rw [← Array.toArray_toList (xs := cs1), h_]
  have k2 := h2
  have lt2 : ∀ x ∈ p2, x.block < W.heap.size := by obtain ⟨m, hm⟩ := k2; exact DataW.trod_lt m _ _ _ hm
  obtain ⟨cs2, rfl, _⟩ := okWide_struct Try.underlying23 (hval 2 23 v2 rfl rfl)
  have q2 := Op.lite_arg hsz (j := 2) (t := 23) rfl rfl
  obtain ⟨fu2, hf2⟩ := h2
  obtain ⟨a2, hK2, hg2⟩ := (Op.opens_iso (fun x : S23 => (x.f0, x.f1, x.f2)) (fun p => (⟨p.1, p.2.1, p.2.2⟩ : S23)) (fun _ => rfl) (Op.opens_struct Try.underlying23 (by kernel_rfl) (Op.opensF_cons rfl (by kernel_rfl) (Op.opens_int Try.underlying3) (Op.opensF_cons rfl (by kernel_rfl) (Op.opens_int Try.underlying3) (Op.opensF_one rfl (by kernel_rfl) (Op.opens_str Try.underlying9)))))) _ _ _ hf2 q2
  have e2 := k23_open hK2
  obtain rfl : cs2 = #[.int .i64 a2.f0, .int .i64 a2.f1, .string a2.f2] := by have h_ : cs2.toList = _ := e2; rw [← Array.toArray_toList (xs := cs2), h_]
  clear hA0 hval0 hsz0 hsz
  have h := Pure.PredTurns a0 a1 a2 hg0 hg1 hg2
  refine (rosettelaw06_PredTurns.calls a0 a1.f0 a1.f1 a1.f2 a2.f0 a2.f1 a2.f2 true W  h).mono fun e W' ⟨he, bel⟩ => ?_
  subst he
  exact ⟨_, rfl, _, _, _, [], _, [], hW', trodAll_mk1 (shut_bool Try.underlying4 _), (trodAll_cons_mk (shut_string Try.underlying9 hy0) (trodAll_cons_mk (Below.trod laidOut (by kernel_rfl) (of_decide_eq_true (by kernel_rfl)) k1 bel lt1) (trodAll_cons_mk (Below.trod laidOut (by kernel_rfl) (of_decide_eq_true (by kernel_rfl)) k2 bel lt2) trodAll_mk0))), rfl, bel.frame _, fun h => by cases h⟩
theorem over : Rows.predTurnsRow.holds Try.pinned (OpenSpec.ofChange Rows.predTurnsSpec) :=
  OpenClaim.holds_of_wide 4 Try.f4 rfl rfl rfl rfl rfl rfl rfl ⟨rfl, rfl, rfl, rfl, rfl⟩ rfl rfl rfl rfl rfl (by kernel_rfl) Try.func4 (by kernel_rfl)
    (of_decide_eq_true (by kernel_rfl)) (by unfold Func.isWrapper; first | (rw [if_pos (by decide +kernel)]; kernel_rfl) | (rw [if_neg (by decide +kernel)]; exact ⟨rfl, rfl⟩))
    (fun os started H enc _ => lifted os started H enc)
theorem proved : Rows.PredTurnsSaid := over
#print axioms proved
end Go.Proofs.Ytojefdnngkcaoaa.predTurns
namespace Go.Proofs.Ytojefdnngkcaoaa
/-- The row, under a short name, for the claim. -/
theorem predTurns_holds : Rows.PredTurnsSaid := predTurns.proved
end Go.Proofs.Ytojefdnngkcaoaa
end
