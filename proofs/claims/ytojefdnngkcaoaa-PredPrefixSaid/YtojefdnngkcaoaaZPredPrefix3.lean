import Derived.Test.YtojefdnngkcaoaaZPredPrefix0
import Derived.Test.YtojefdnngkcaoaaZPredPrefix1
import Derived.Test.YtojefdnngkcaoaaZPredPrefix2
import Derived.OpenShut
section
-- Written by a program of this session (wip/tools/myprint.py), over the kit's print.
namespace Go.Proofs.Ytojefdnngkcaoaa.G
open Go.RowKit Go.Proofs.YtojefdnngkcaoaaW.PrintWords Go.Proofs.YtojefdnngkcaoaaW.PrintLast Go.Proofs.YtojefdnngkcaoaaW.PrintMore
attribute [local go_sem] max2_int min2_int max_two min_two max_three min_three max_four min_four   -- for this text's walks alone
set_option linter.unusedVariables false
set_option linter.unusedSimpArgs false

/-! ### rosettelaw06_PredPrefix: function 5 -/
mutual
def rosettelaw06_PredPrefix.j0 : Nat → ByteArray → ByteArray → ByteArray → Bool → Bool → Option (Bool)
  | 0, _, _, _, _, _ => none
  | k + 1, x0, x1, x2, x7, x30 => if x30 = true then (some x7) else ((pred_Holds.f k x0 7 2 0 x2 2 0 x1).bind fun t278 => (rosettelaw06_PredPrefix.l0 k x1 x2 x7 t278 (decide ((x2.size : Int) ≤ (x1.size : Int))) 0))
def rosettelaw06_PredPrefix.l0 : Nat → ByteArray → ByteArray → Bool → Bool → Bool → Int → Option (Bool)
  | 0, _, _, _, _, _, _ => none
  | k + 1, x1, x2, x7, x9, x10, x11 => if x11 < (x2.size : Int) then (if x11 < (x1.size : Int) then (if x10 = true then (if 0 ≤ x11 then (rosettelaw06_PredPrefix.l0 k x1 x2 x7 x9 ((bt x2 x11) == (bt x1 x11)) (wrap64 (x11 + 1))) else (none)) else (rosettelaw06_PredPrefix.l0 k x1 x2 x7 x9 false (wrap64 (x11 + 1)))) else (if x7 = true then (some (x9 == x10)) else (some false))) else (if x7 = true then (some (x9 == x10)) else (some false))
end
def rosettelaw06_PredPrefix.f (k : Nat) (a0 : ByteArray) (a1 : ByteArray) (a2 : ByteArray) : Option (Bool) := (rosettelaw06_small.f).bind fun t276 => (if (a0.size : Int) < 1 then (rosettelaw06_PredPrefix.j0 k a0 a1 a2 t276 true) else (if (a0.size : Int) > 16 then (rosettelaw06_PredPrefix.j0 k a0 a1 a2 t276 true) else (if (a1.size : Int) > 64 then (rosettelaw06_PredPrefix.j0 k a0 a1 a2 t276 true) else (rosettelaw06_PredPrefix.j0 k a0 a1 a2 t276 (decide ((a2.size : Int) > 32))))))
theorem rosettelaw06_PredPrefix.mono_l : ∀ k, (∀ y0 y1 y2 y3 y4, LeO (rosettelaw06_PredPrefix.j0 k y0 y1 y2 y3 y4) (rosettelaw06_PredPrefix.j0 (k + 1) y0 y1 y2 y3 y4)) ∧ (∀ y0 y1 y2 y3 y4 y5, LeO (rosettelaw06_PredPrefix.l0 k y0 y1 y2 y3 y4 y5) (rosettelaw06_PredPrefix.l0 (k + 1) y0 y1 y2 y3 y4 y5))
  | 0 => ⟨fun _ _ _ _ _ r h => by simp [rosettelaw06_PredPrefix.j0] at h, fun _ _ _ _ _ _ r h => by simp [rosettelaw06_PredPrefix.l0] at h⟩
  | k + 1 => by
    obtain ⟨ih0, ih1⟩ := rosettelaw06_PredPrefix.mono_l k
    refine ⟨?_, ?_⟩
    · intro y0 y1 y2 y3 y4
      unfold rosettelaw06_PredPrefix.j0
      repeat' first
      | (with_reducible exact ih0 _ _ _ _ _)
      | (with_reducible exact ih1 _ _ _ _ _ _)
      | (with_reducible exact pred_Holds.mono _ _ _ _ _ _ _ _ _)
      | (with_reducible exact LeO.refl _)
      | (with_reducible exact LeO.none _)
      | (with_reducible refine LeO.ite ?_ ?_)
      | (with_reducible refine LeO.bind ?_ (fun _ => ?_))
      | exact ih0 _ _ _ _ _
      | exact ih1 _ _ _ _ _ _
      | exact pred_Holds.mono _ _ _ _ _ _ _ _ _
      | exact LeO.none _
      | refine LeO.ite ?_ ?_
      | refine LeO.bind ?_ (fun _ => ?_)
    · intro y0 y1 y2 y3 y4 y5
      unfold rosettelaw06_PredPrefix.l0
      repeat' first
      | (with_reducible exact ih0 _ _ _ _ _)
      | (with_reducible exact ih1 _ _ _ _ _ _)
      | (with_reducible exact pred_Holds.mono _ _ _ _ _ _ _ _ _)
      | (with_reducible exact LeO.refl _)
      | (with_reducible exact LeO.none _)
      | (with_reducible refine LeO.ite ?_ ?_)
      | (with_reducible refine LeO.bind ?_ (fun _ => ?_))
      | exact ih0 _ _ _ _ _
      | exact ih1 _ _ _ _ _ _
      | exact pred_Holds.mono _ _ _ _ _ _ _ _ _
      | exact LeO.none _
      | refine LeO.ite ?_ ?_
      | refine LeO.bind ?_ (fun _ => ?_)
theorem rosettelaw06_PredPrefix.mono : ∀ a0 a1 a2 k, LeO (rosettelaw06_PredPrefix.f k a0 a1 a2) (rosettelaw06_PredPrefix.f (k + 1) a0 a1 a2) := by
  intro a0 a1 a2 k
  obtain ⟨ih0, ih1⟩ := rosettelaw06_PredPrefix.mono_l k
  unfold rosettelaw06_PredPrefix.f
  repeat' first
      | (with_reducible exact ih0 _ _ _ _ _)
      | (with_reducible exact ih1 _ _ _ _ _ _)
      | (with_reducible exact pred_Holds.mono _ _ _ _ _ _ _ _ _)
      | (with_reducible exact LeO.refl _)
      | (with_reducible exact LeO.none _)
      | (with_reducible refine LeO.ite ?_ ?_)
      | (with_reducible refine LeO.bind ?_ (fun _ => ?_))
      | exact ih0 _ _ _ _ _
      | exact ih1 _ _ _ _ _ _
      | exact pred_Holds.mono _ _ _ _ _ _ _ _ _
      | exact LeO.none _
      | refine LeO.ite ?_ ?_
      | refine LeO.bind ?_ (fun _ => ?_)
set_option maxHeartbeats 8000000 in
set_option maxRecDepth 100000 in
theorem rosettelaw06_PredPrefix.calls (k : Nat) (a0 : ByteArray) (a1 : ByteArray) (a2 : ByteArray) (r : Bool) (w : World) (h : rosettelaw06_PredPrefix.f k a0 a1 a2 = some r) :
    Calls Try.prog 5 #[.string a0, .string a1, .string a2] w fun e w' => e = .returned (.bool r) ∧ Below w.heap.size w w' := by
  have hu23 := Try.underlying23
  have hu25 := Try.underlying25
  have HB := Aside0.mk (Below.refl w.heap.size w)
  have H : ((rosettelaw06_small.f).bind fun t276 => (if (a0.size : Int) < 1 then (rosettelaw06_PredPrefix.j0 k a0 a1 a2 t276 true) else (if (a0.size : Int) > 16 then (rosettelaw06_PredPrefix.j0 k a0 a1 a2 t276 true) else (if (a1.size : Int) > 64 then (rosettelaw06_PredPrefix.j0 k a0 a1 a2 t276 true) else (rosettelaw06_PredPrefix.j0 k a0 a1 a2 t276 (decide ((a2.size : Int) > 32))))))) = some r := h
  clear h
  replace H := Option.bind_eq_some_iff.mp H
  obtain ⟨t276, A40, H⟩ := H
  replace H : (if (a0.size : Int) < 1 then (rosettelaw06_PredPrefix.j0 k a0 a1 a2 t276 true) else (if (a0.size : Int) > 16 then (rosettelaw06_PredPrefix.j0 k a0 a1 a2 t276 true) else (if (a1.size : Int) > 64 then (rosettelaw06_PredPrefix.j0 k a0 a1 a2 t276 true) else (rosettelaw06_PredPrefix.j0 k a0 a1 a2 t276 (decide ((a2.size : Int) > 32)))))) = some r := H
  have A4 := Aside0.mk A40
  clear A40
  have HC5 := Aside0.mk H
  clear H
  go_enter Try.func5, Try.ntmps5
  go_upto_region 2 with (first | (go_at_call 8; (with_reducible refine (rosettelaw06_small.calls  t276 _ A4.out).mono ?_); rintro e w6 ⟨rfl, hb⟩; have n0_ := Aside0.mk (below_step (by repeat (first | (with_reducible first | exact HB.out | apply below_alloc | apply pw_below_drewN | apply below_drew1) | exact HB.out)) hb); clear HB; have HB := n0_; clear n0_; (try clear hb); (try clear hb2); (try clear hk); (try clear hi)))
  repeat (go_quiet (first | (go_at_call 8; (with_reducible refine (rosettelaw06_small.calls  t276 _ A4.out).mono ?_); rintro e w6 ⟨rfl, hb⟩; have n0_ := Aside0.mk (below_step (by repeat (first | (with_reducible first | exact HB.out | apply below_alloc | apply pw_below_drewN | apply below_drew1) | exact HB.out)) hb); clear HB; have HB := n0_; clear n0_; (try clear hb); (try clear hb2); (try clear hk); (try clear hi))); go_upto_region 2 with (first | (go_at_call 8; (with_reducible refine (rosettelaw06_small.calls  t276 _ A4.out).mono ?_); rintro e w6 ⟨rfl, hb⟩; have n0_ := Aside0.mk (below_step (by repeat (first | (with_reducible first | exact HB.out | apply below_alloc | apply pw_below_drewN | apply below_drew1) | exact HB.out)) hb); clear HB; have HB := n0_; clear n0_; (try clear hb); (try clear hb2); (try clear hk); (try clear hi))))
  (try simp only [Act.put, List.setIfInBounds_toArray, List.set_cons_zero, List.set_cons_succ])
  go_cut [30] (fun v30 wc => ∃ (kq : Nat) (x30_4 : Bool), v30 = .bool x30_4 ∧ Aside0 (rosettelaw06_PredPrefix.j0 kq a0 a1 a2 t276 x30_4 = some r) ∧ Aside0 (kq ≤ k) ∧ Aside0 (Below w.heap.size w wc))
  case first =>
    have H := HC5.out
    clear HC5
    by_cases c7 : (a0.size : Int) < 1
    · rw [if_pos c7] at H
      have c7b0 : decide ((a0.size : Int) < 1) = true := decide_eq_true c7
      have c7b1 : decide (a0.size < 1) = true := decide_eq_true (by omega)
      clear c7
      (first | rw [c7b0] | (simp only [i64_w, i32_w]; rw [c7b0]) | skip)
      have H' := Aside0.mk H
      clear H
      go_wp2
      repeat (go_quiet (fail); try go_wp2)
      go_meet
      case rel => exact ⟨_, (true), (by first | rfl | (simp; done) | (simp [*]; done)), H', ⟨by first | omega | exact Nat.le_refl _⟩, ⟨by repeat (first | (with_reducible first | exact HB.out | apply below_alloc | apply pw_below_drewN | apply below_drew1) | exact HB.out)⟩⟩
    · rw [if_neg c7] at H
      have c7b0 : decide ((a0.size : Int) < 1) = false := decide_eq_false c7
      have c7b1 : decide (a0.size < 1) = false := decide_eq_false (by omega)
      clear c7
      (first | rw [c7b0] | (simp only [i64_w, i32_w]; rw [c7b0]) | skip)
      by_cases c8 : (a0.size : Int) > 16
      · rw [if_pos c8] at H
        have c8b0 : decide (16 < (a0.size : Int)) = true := decide_eq_true c8
        have c8b1 : decide (16 < a0.size) = true := decide_eq_true (by omega)
        clear c8
        have H' := Aside0.mk H
        clear H
        go_wp2
        repeat (go_quiet (fail); try go_wp2)
        go_meet
        case rel => exact ⟨_, (true), (by first | rfl | (simp; done) | (simp [*]; done)), H', ⟨by first | omega | exact Nat.le_refl _⟩, ⟨by repeat (first | (with_reducible first | exact HB.out | apply below_alloc | apply pw_below_drewN | apply below_drew1) | exact HB.out)⟩⟩
      · rw [if_neg c8] at H
        have c8b0 : decide (16 < (a0.size : Int)) = false := decide_eq_false c8
        have c8b1 : decide (16 < a0.size) = false := decide_eq_false (by omega)
        clear c8
        by_cases c9 : (a1.size : Int) > 64
        · rw [if_pos c9] at H
          have c9b0 : decide (64 < (a1.size : Int)) = true := decide_eq_true c9
          have c9b1 : decide (64 < a1.size) = true := decide_eq_true (by omega)
          clear c9
          have H' := Aside0.mk H
          clear H
          go_wp2
          repeat (go_quiet (fail); try go_wp2)
          go_meet
          case rel => exact ⟨_, (true), (by first | rfl | (simp; done) | (simp [*]; done)), H', ⟨by first | omega | exact Nat.le_refl _⟩, ⟨by repeat (first | (with_reducible first | exact HB.out | apply below_alloc | apply pw_below_drewN | apply below_drew1) | exact HB.out)⟩⟩
        · rw [if_neg c9] at H
          have c9b0 : decide (64 < (a1.size : Int)) = false := decide_eq_false c9
          have c9b1 : decide (64 < a1.size) = false := decide_eq_false (by omega)
          clear c9
          have H' := Aside0.mk H
          clear H
          go_wp2
          repeat (go_quiet (fail); try go_wp2)
          go_meet
          case rel => exact ⟨_, (decide ((a2.size : Int) > 32)), (by first | rfl | (simp; done) | (simp [*]; done)), H', ⟨by first | omega | exact Nat.le_refl _⟩, ⟨by repeat (first | (with_reducible first | exact HB.out | apply below_alloc | apply pw_below_drewN | apply below_drew1) | exact HB.out)⟩⟩
  case rest =>
    clear HC5
    try clear p2
    try clear c5
    try clear c7
    try clear c7b0
    try clear c7b1
    try clear c8
    try clear c8b0
    try clear c8b1
    try clear c9
    try clear c9b0
    try clear c9b1
    obtain ⟨kq, x30_4, rfl, HA, HJ4, HB⟩ := hcut
    cases kq with
    | zero => exact absurd HA.out (by simp [rosettelaw06_PredPrefix.j0])
    | succ kj4 =>
      have H := HA.out
      clear HA
      simp only [rosettelaw06_PredPrefix.j0] at H
      by_cases c10 : x30_4 = true
      · subst c10
        have H1 : (some t276) = some r := by rw [if_pos rfl] at H; exact H
        clear H
        have H := H1
        clear H1
        obtain rfl := Option.some.inj H
        go_wp2
        repeat (go_quiet (fail); try go_wp2)
        go_ret
        exact ⟨by first | rfl | (simp [errW_none, errW_some] <;> rfl) | (simp [*, errW_none, errW_some] <;> rfl), by repeat (first | (with_reducible first | exact HB.out | apply below_alloc | apply pw_below_drewN | apply below_drew1) | exact HB.out)⟩
      · replace c10 := Bool.eq_false_iff.mpr c10
        subst c10
        have H1 : ((pred_Holds.f kj4 a0 7 2 0 a2 2 0 a1).bind fun t278 => (rosettelaw06_PredPrefix.l0 kj4 a1 a2 t276 t278 (decide ((a2.size : Int) ≤ (a1.size : Int))) 0)) = some r := by rw [if_neg (show ¬ (false = true) by decide)] at H; exact H
        clear H
        have H := H1
        clear H1
        replace H := Option.bind_eq_some_iff.mp H
        obtain ⟨t278, A110, H⟩ := H
        replace H : (rosettelaw06_PredPrefix.l0 kj4 a1 a2 t276 t278 (decide ((a2.size : Int) ≤ (a1.size : Int))) 0) = some r := H
        have A11 := Aside0.mk A110
        clear A110
        have H' := Aside0.mk H
        clear H
        go_wp2_with (first | ((with_reducible refine gate_dst (N := 8) rfl ?_); (try (refine gate_guard (by rfl) ?_; dsimp only)); refine box_event ?hg (N := 8) ?hd (cs := #[.int .i64 0, .int .i64 0, .string (⟨#[]⟩ : ByteArray)]) (t := 23) ?hr ?_; (case hd => rfl); (case hg => rfl); (case hr => first | (go_simp; done) | (go_simp; rfl)); intro gb277 hg w12 hbox hb; have n0_ := Aside0.mk (below_step (by repeat (first | (with_reducible first | exact HB.out | apply below_alloc | apply pw_below_drewN | apply below_drew1) | exact HB.out)) hb); have n1_ := Aside0.mk (hbox); have n2_ := Aside0.mk ((by rw [hg]; exact (below_size (by repeat (first | (with_reducible first | exact HB.out | apply below_alloc | apply pw_below_drewN | apply below_drew1) | exact HB.out))) : w.heap.size ≤ gb277)); have n3_ := Aside0.mk ((by rw [hg]; exact (below_size (by repeat (first | (with_reducible first | exact HB.out | apply below_alloc | apply pw_below_drewN | apply below_drew1) | exact HB.out))) : w.heap.size ≤ gb277)); clear HB; have HB := n0_; have BK277 := n1_; have GW277 := n2_; have GE277 := n3_; clear n0_ n1_ n2_ n3_; clear hb hbox hg; have hcz13_0 : w12.cell? ⟨gb277, 0, none⟩ = some (.int .i64 0) := (blk_cell BK277.out 0).trans rfl; have hcz13_1 : w12.cell? ⟨gb277, 1, none⟩ = some (.int .i64 0) := (blk_cell BK277.out 1).trans rfl; have hcz13_2 : w12.cell? ⟨gb277, 2, none⟩ = some (.string (⟨#[]⟩ : ByteArray)) := (blk_cell BK277.out 2).trans rfl; have hfz13_0 := blk_frozen BK277.out 0; have hfz13_1 := blk_frozen BK277.out 1; have hfz13_2 := blk_frozen BK277.out 2) | (go_at_call 12; (with_reducible refine (pred_Holds.calls kj4 a0 7 2 0 a2 2 0 a1 t278 _ A11.out).mono ?_); rintro e w14 ⟨rfl, hb⟩; have n0_ := Aside0.mk (blk_below (g := gb277) (o := .cells #[.int .i64 2, .int .i64 0, .string a1] 23 (0, 0)) (by (with_reducible repeat (first | refine blk_drewN ?_ _ | refine blk_drew ?_ | refine blk_alloc ?_ _)); refine blk_put (cs := #[.int .i64 2, .int .i64 0, .string (⟨#[]⟩ : ByteArray)]) ?_ 2 _ rfl; (with_reducible repeat (first | refine blk_drewN ?_ _ | refine blk_drew ?_ | refine blk_alloc ?_ _)); refine blk_put (cs := #[.int .i64 2, .int .i64 0, .string (⟨#[]⟩ : ByteArray)]) ?_ 1 _ rfl; (with_reducible repeat (first | refine blk_drewN ?_ _ | refine blk_drew ?_ | refine blk_alloc ?_ _)); refine blk_put (cs := #[.int .i64 0, .int .i64 0, .string (⟨#[]⟩ : ByteArray)]) ?_ 0 _ rfl; (with_reducible repeat (first | refine blk_drewN ?_ _ | refine blk_drew ?_ | refine blk_alloc ?_ _)); exact BK277.out) hb); have n1_ := Aside0.mk (below_step (by repeat (first | (with_reducible first | exact HB.out | apply below_alloc | apply pw_below_drewN | apply below_drew1 | refine below_set ?_ GE277.out) | exact HB.out)) hb); clear BK277; clear HB; have BK277 := n0_; have HB := n1_; clear n0_ n1_; (try clear hb); (try clear hb2); (try clear hk); (try clear hi)))
        repeat (go_quiet (first | ((with_reducible refine gate_dst (N := 8) rfl ?_); (try (refine gate_guard (by rfl) ?_; dsimp only)); refine box_event ?hg (N := 8) ?hd (cs := #[.int .i64 0, .int .i64 0, .string (⟨#[]⟩ : ByteArray)]) (t := 23) ?hr ?_; (case hd => rfl); (case hg => rfl); (case hr => first | (go_simp; done) | (go_simp; rfl)); intro gb277 hg w12 hbox hb; have n0_ := Aside0.mk (below_step (by repeat (first | (with_reducible first | exact HB.out | apply below_alloc | apply pw_below_drewN | apply below_drew1) | exact HB.out)) hb); have n1_ := Aside0.mk (hbox); have n2_ := Aside0.mk ((by rw [hg]; exact (below_size (by repeat (first | (with_reducible first | exact HB.out | apply below_alloc | apply pw_below_drewN | apply below_drew1) | exact HB.out))) : w.heap.size ≤ gb277)); have n3_ := Aside0.mk ((by rw [hg]; exact (below_size (by repeat (first | (with_reducible first | exact HB.out | apply below_alloc | apply pw_below_drewN | apply below_drew1) | exact HB.out))) : w.heap.size ≤ gb277)); clear HB; have HB := n0_; have BK277 := n1_; have GW277 := n2_; have GE277 := n3_; clear n0_ n1_ n2_ n3_; clear hb hbox hg; have hcz13_0 : w12.cell? ⟨gb277, 0, none⟩ = some (.int .i64 0) := (blk_cell BK277.out 0).trans rfl; have hcz13_1 : w12.cell? ⟨gb277, 1, none⟩ = some (.int .i64 0) := (blk_cell BK277.out 1).trans rfl; have hcz13_2 : w12.cell? ⟨gb277, 2, none⟩ = some (.string (⟨#[]⟩ : ByteArray)) := (blk_cell BK277.out 2).trans rfl; have hfz13_0 := blk_frozen BK277.out 0; have hfz13_1 := blk_frozen BK277.out 1; have hfz13_2 := blk_frozen BK277.out 2) | (go_at_call 12; (with_reducible refine (pred_Holds.calls kj4 a0 7 2 0 a2 2 0 a1 t278 _ A11.out).mono ?_); rintro e w14 ⟨rfl, hb⟩; have n0_ := Aside0.mk (blk_below (g := gb277) (o := .cells #[.int .i64 2, .int .i64 0, .string a1] 23 (0, 0)) (by (with_reducible repeat (first | refine blk_drewN ?_ _ | refine blk_drew ?_ | refine blk_alloc ?_ _)); refine blk_put (cs := #[.int .i64 2, .int .i64 0, .string (⟨#[]⟩ : ByteArray)]) ?_ 2 _ rfl; (with_reducible repeat (first | refine blk_drewN ?_ _ | refine blk_drew ?_ | refine blk_alloc ?_ _)); refine blk_put (cs := #[.int .i64 2, .int .i64 0, .string (⟨#[]⟩ : ByteArray)]) ?_ 1 _ rfl; (with_reducible repeat (first | refine blk_drewN ?_ _ | refine blk_drew ?_ | refine blk_alloc ?_ _)); refine blk_put (cs := #[.int .i64 0, .int .i64 0, .string (⟨#[]⟩ : ByteArray)]) ?_ 0 _ rfl; (with_reducible repeat (first | refine blk_drewN ?_ _ | refine blk_drew ?_ | refine blk_alloc ?_ _)); exact BK277.out) hb); have n1_ := Aside0.mk (below_step (by repeat (first | (with_reducible first | exact HB.out | apply below_alloc | apply pw_below_drewN | apply below_drew1 | refine below_set ?_ GE277.out) | exact HB.out)) hb); clear BK277; clear HB; have BK277 := n0_; have HB := n1_; clear n0_ n1_; (try clear hb); (try clear hb2); (try clear hk); (try clear hi))); try go_wp2_with (first | ((with_reducible refine gate_dst (N := 8) rfl ?_); (try (refine gate_guard (by rfl) ?_; dsimp only)); refine box_event ?hg (N := 8) ?hd (cs := #[.int .i64 0, .int .i64 0, .string (⟨#[]⟩ : ByteArray)]) (t := 23) ?hr ?_; (case hd => rfl); (case hg => rfl); (case hr => first | (go_simp; done) | (go_simp; rfl)); intro gb277 hg w12 hbox hb; have n0_ := Aside0.mk (below_step (by repeat (first | (with_reducible first | exact HB.out | apply below_alloc | apply pw_below_drewN | apply below_drew1) | exact HB.out)) hb); have n1_ := Aside0.mk (hbox); have n2_ := Aside0.mk ((by rw [hg]; exact (below_size (by repeat (first | (with_reducible first | exact HB.out | apply below_alloc | apply pw_below_drewN | apply below_drew1) | exact HB.out))) : w.heap.size ≤ gb277)); have n3_ := Aside0.mk ((by rw [hg]; exact (below_size (by repeat (first | (with_reducible first | exact HB.out | apply below_alloc | apply pw_below_drewN | apply below_drew1) | exact HB.out))) : w.heap.size ≤ gb277)); clear HB; have HB := n0_; have BK277 := n1_; have GW277 := n2_; have GE277 := n3_; clear n0_ n1_ n2_ n3_; clear hb hbox hg; have hcz13_0 : w12.cell? ⟨gb277, 0, none⟩ = some (.int .i64 0) := (blk_cell BK277.out 0).trans rfl; have hcz13_1 : w12.cell? ⟨gb277, 1, none⟩ = some (.int .i64 0) := (blk_cell BK277.out 1).trans rfl; have hcz13_2 : w12.cell? ⟨gb277, 2, none⟩ = some (.string (⟨#[]⟩ : ByteArray)) := (blk_cell BK277.out 2).trans rfl; have hfz13_0 := blk_frozen BK277.out 0; have hfz13_1 := blk_frozen BK277.out 1; have hfz13_2 := blk_frozen BK277.out 2) | (go_at_call 12; (with_reducible refine (pred_Holds.calls kj4 a0 7 2 0 a2 2 0 a1 t278 _ A11.out).mono ?_); rintro e w14 ⟨rfl, hb⟩; have n0_ := Aside0.mk (blk_below (g := gb277) (o := .cells #[.int .i64 2, .int .i64 0, .string a1] 23 (0, 0)) (by (with_reducible repeat (first | refine blk_drewN ?_ _ | refine blk_drew ?_ | refine blk_alloc ?_ _)); refine blk_put (cs := #[.int .i64 2, .int .i64 0, .string (⟨#[]⟩ : ByteArray)]) ?_ 2 _ rfl; (with_reducible repeat (first | refine blk_drewN ?_ _ | refine blk_drew ?_ | refine blk_alloc ?_ _)); refine blk_put (cs := #[.int .i64 2, .int .i64 0, .string (⟨#[]⟩ : ByteArray)]) ?_ 1 _ rfl; (with_reducible repeat (first | refine blk_drewN ?_ _ | refine blk_drew ?_ | refine blk_alloc ?_ _)); refine blk_put (cs := #[.int .i64 0, .int .i64 0, .string (⟨#[]⟩ : ByteArray)]) ?_ 0 _ rfl; (with_reducible repeat (first | refine blk_drewN ?_ _ | refine blk_drew ?_ | refine blk_alloc ?_ _)); exact BK277.out) hb); have n1_ := Aside0.mk (below_step (by repeat (first | (with_reducible first | exact HB.out | apply below_alloc | apply pw_below_drewN | apply below_drew1 | refine below_set ?_ GE277.out) | exact HB.out)) hb); clear BK277; clear HB; have BK277 := n0_; have HB := n1_; clear n0_ n1_; (try clear hb); (try clear hb2); (try clear hk); (try clear hi))))
        go_loopg [10, 11] kj4 (fun kq v10 v11 w' => ∃ (x10_2 : Bool) (x11_2 : Int), v10 = .bool x10_2 ∧ v11 = .int .i64 x11_2 ∧ Aside0 (rosettelaw06_PredPrefix.l0 kq a1 a2 t276 t278 x10_2 x11_2 = some r) ∧ Aside0 (kq ≤ kj4) ∧ Aside0 (w'.heap[gb277]? = some (.cells #[.int .i64 2, .int .i64 0, .string a1] 23 (0, 0))) ∧ Aside0 (Below w.heap.size w w'))
        case atStart => exact ⟨(decide ((a2.size : Int) ≤ (a1.size : Int))), (0), (by first | rfl | (simp; done) | (simp [*]; done)), (by first | rfl | (simp; done) | (simp [*]; done)), H', ⟨Nat.le_refl _⟩, ⟨by (with_reducible repeat (first | refine blk_drewN ?_ _ | refine blk_drew ?_ | refine blk_alloc ?_ _)); exact BK277.out⟩, ⟨by repeat (first | (with_reducible first | exact HB.out | apply below_alloc | apply pw_below_drewN | apply below_drew1 | refine below_set ?_ GE277.out) | exact HB.out)⟩⟩
        case round =>
          clear H'
          try clear c1
          try clear p2
          try clear c5
          try clear c7
          try clear c7b0
          try clear c7b1
          try clear c8
          try clear c8b0
          try clear c8b1
          try clear c9
          try clear c9b0
          try clear c9b1
          try clear c10
          try clear hcz13_0
          try clear hcz13_1
          try clear hcz13_2
          try clear hfz13_0
          try clear hfz13_1
          try clear hfz13_2
          try clear p2
          obtain ⟨x10_2, x11_2, rfl, rfl, HA, HK2, BK277, HB⟩ := hrel
          cases gk with
          | zero => exact absurd HA.out (by simp [rosettelaw06_PredPrefix.l0])
          | succ k2 =>
            have H := HA.out
            clear HA
            simp only [rosettelaw06_PredPrefix.l0] at H
            by_cases c15 : x11_2 < (a2.size : Int)
            · rw [if_pos c15] at H
              have c15b0 : decide (x11_2 < (a2.size : Int)) = true := decide_eq_true c15
              clear c15
              by_cases c16 : x11_2 < (a1.size : Int)
              · rw [if_pos c16] at H
                have c16b0 : decide (x11_2 < (a1.size : Int)) = true := decide_eq_true c16
                clear c16
                by_cases c17 : x10_2 = true
                · subst c17
                  have H1 : (if 0 ≤ x11_2 then (rosettelaw06_PredPrefix.l0 k2 a1 a2 t276 t278 ((bt a2 x11_2) == (bt a1 x11_2)) (wrap64 (x11_2 + 1))) else (none)) = some r := by rw [if_pos rfl] at H; exact H
                  clear H
                  have H := H1
                  clear H1
                  by_cases c18 : 0 ≤ x11_2
                  · rw [if_pos c18] at H
                    have c18b0 : decide (0 ≤ x11_2) = true := decide_eq_true c18
                    clear c18
                    have H' := Aside0.mk H
                    clear H
                    have p19 : 0 ≤ (x11_2 : Int) := of_decide_eq_true (by first | (with_reducible assumption) | assumption)
                    have q19 : x11_2 < (a2.size : Int) := of_decide_eq_true (by first | (with_reducible assumption) | assumption)
                    have hx19 := bt_at a2 x11_2
                    replace p19 := eq_true p19
                    replace q19 := eq_true q19
                    have p20 : 0 ≤ (x11_2 : Int) := of_decide_eq_true (by first | (with_reducible assumption) | assumption)
                    have q20 : x11_2 < (a1.size : Int) := of_decide_eq_true (by first | (with_reducible assumption) | assumption)
                    have hx20 := bt_at a1 x11_2
                    replace p20 := eq_true p20
                    replace q20 := eq_true q20
                    go_wp2
                    repeat (go_quiet (fail); try go_wp2)
                    go_roundg k2
                    case measure => have := HJ4.out; have := HK2.out; omega
                    case rel => exact ⟨(((bt a2 x11_2) == (bt a1 x11_2))), (wrap64 (x11_2 + 1)), (by first | rfl | (simp; done) | (simp [*]; done)), (by first | rfl | (simp; done) | (simp [*]; done)), H', ⟨by have := HJ4.out; have := HK2.out; omega⟩, ⟨by (with_reducible repeat (first | refine blk_drewN ?_ _ | refine blk_drew ?_ | refine blk_alloc ?_ _)); exact BK277.out⟩, ⟨by repeat (first | (with_reducible first | exact HB.out | apply below_alloc | apply pw_below_drewN | apply below_drew1 | refine below_set ?_ GE277.out) | exact HB.out)⟩⟩
                  · rw [if_neg c18] at H
                    exact absurd H (by simp)
                · replace c17 := Bool.eq_false_iff.mpr c17
                  subst c17
                  have H1 : (rosettelaw06_PredPrefix.l0 k2 a1 a2 t276 t278 false (wrap64 (x11_2 + 1))) = some r := by rw [if_neg (show ¬ (false = true) by decide)] at H; exact H
                  clear H
                  have H := H1
                  clear H1
                  have H' := Aside0.mk H
                  clear H
                  go_wp2
                  repeat (go_quiet (fail); try go_wp2)
                  go_roundg k2
                  case measure => have := HJ4.out; have := HK2.out; omega
                  case rel => exact ⟨(false), (wrap64 (x11_2 + 1)), (by first | rfl | (simp; done) | (simp [*]; done)), (by first | rfl | (simp; done) | (simp [*]; done)), H', ⟨by have := HJ4.out; have := HK2.out; omega⟩, ⟨by (with_reducible repeat (first | refine blk_drewN ?_ _ | refine blk_drew ?_ | refine blk_alloc ?_ _)); exact BK277.out⟩, ⟨by repeat (first | (with_reducible first | exact HB.out | apply below_alloc | apply pw_below_drewN | apply below_drew1 | refine below_set ?_ GE277.out) | exact HB.out)⟩⟩
              · rw [if_neg c16] at H
                have c16b0 : decide (x11_2 < (a1.size : Int)) = false := decide_eq_false c16
                clear c16
                by_cases c21 : t276 = true
                · subst c21
                  have H1 : (some (t278 == x10_2)) = some r := by rw [if_pos rfl] at H; exact H
                  clear H
                  have H := H1
                  clear H1
                  obtain rfl := Option.some.inj H
                  go_wp2
                  repeat (go_quiet (fail); try go_wp2)
                  go_ret
                  exact ⟨by first | rfl | (simp [errW_none, errW_some] <;> rfl) | (simp [*, errW_none, errW_some] <;> rfl), by repeat (first | (with_reducible first | exact HB.out | apply below_alloc | apply pw_below_drewN | apply below_drew1 | refine below_set ?_ GE277.out) | exact HB.out)⟩
                · replace c21 := Bool.eq_false_iff.mpr c21
                  subst c21
                  have H1 : (some false) = some r := by rw [if_neg (show ¬ (false = true) by decide)] at H; exact H
                  clear H
                  have H := H1
                  clear H1
                  obtain rfl := Option.some.inj H
                  go_wp2
                  repeat (go_quiet (fail); try go_wp2)
                  go_ret
                  exact ⟨by first | rfl | (simp [errW_none, errW_some] <;> rfl) | (simp [*, errW_none, errW_some] <;> rfl), by repeat (first | (with_reducible first | exact HB.out | apply below_alloc | apply pw_below_drewN | apply below_drew1 | refine below_set ?_ GE277.out) | exact HB.out)⟩
            · rw [if_neg c15] at H
              have c15b0 : decide (x11_2 < (a2.size : Int)) = false := decide_eq_false c15
              clear c15
              by_cases c22 : t276 = true
              · subst c22
                have H1 : (some (t278 == x10_2)) = some r := by rw [if_pos rfl] at H; exact H
                clear H
                have H := H1
                clear H1
                obtain rfl := Option.some.inj H
                go_wp2
                repeat (go_quiet (fail); try go_wp2)
                go_ret
                exact ⟨by first | rfl | (simp [errW_none, errW_some] <;> rfl) | (simp [*, errW_none, errW_some] <;> rfl), by repeat (first | (with_reducible first | exact HB.out | apply below_alloc | apply pw_below_drewN | apply below_drew1 | refine below_set ?_ GE277.out) | exact HB.out)⟩
              · replace c22 := Bool.eq_false_iff.mpr c22
                subst c22
                have H1 : (some false) = some r := by rw [if_neg (show ¬ (false = true) by decide)] at H; exact H
                clear H
                have H := H1
                clear H1
                obtain rfl := Option.some.inj H
                go_wp2
                repeat (go_quiet (fail); try go_wp2)
                go_ret
                exact ⟨by first | rfl | (simp [errW_none, errW_some] <;> rfl) | (simp [*, errW_none, errW_some] <;> rfl), by repeat (first | (with_reducible first | exact HB.out | apply below_alloc | apply pw_below_drewN | apply below_drew1 | refine below_set ?_ GE277.out) | exact HB.out)⟩

/-- THE ONE PURE STATEMENT of rosettelaw06_PredPrefix: yours. -/
def rosettelaw06_PredPrefix.Pure : Prop := ∀ (a0 : ByteArray) (a1 : ByteArray) (a2 : ByteArray), a0.size ≤ 140737488351232 → a1.size ≤ 140737488351232 → a2.size ≤ 140737488351232 → ∃ k, rosettelaw06_PredPrefix.f k a0 a1 a2 = some true
theorem rosettelaw06_PredPrefix.walk (P : rosettelaw06_PredPrefix.Pure) (a0 : ByteArray) (a1 : ByteArray) (a2 : ByteArray) (w : World) (w0 : a0.size ≤ 140737488351232) (w1 : a1.size ≤ 140737488351232) (w2 : a2.size ≤ 140737488351232) :
    Calls Try.prog 5 #[.string a0, .string a1, .string a2] w fun e w' => e = .returned (.bool true) ∧ Below w.heap.size w w' := by
  obtain ⟨k, h⟩ := P a0 a1 a2 w0 w1 w2
  refine (rosettelaw06_PredPrefix.calls k a0 a1 a2 true w h).mono ?_
  rintro e w' ⟨rfl, hd⟩
  exact ⟨rfl, hd⟩

end Go.Proofs.Ytojefdnngkcaoaa.G
end

section
-- Written by a program of this session (wip/tools/myprint.py), over the kit's print.
namespace Go.Proofs.Ytojefdnngkcaoaa.G
open Go.RowKit Go.Proofs.YtojefdnngkcaoaaW.PrintWords Go.Proofs.YtojefdnngkcaoaaW.PrintLast Go.Proofs.YtojefdnngkcaoaaW.PrintMore
attribute [local go_sem] max2_int min2_int max_two min_two max_three min_three max_four min_four   -- for this text's walks alone
set_option linter.unusedVariables false
set_option linter.unusedSimpArgs false

/-! ### rosetteref05_Get: function 30 -/
def rosetteref05_Get.l0 : Nat → List (S52) → ByteArray → Int → Option (Int × Int × ByteArray × Bool)
  | 0, _, _, _ => none
  | k + 1, x0, x1, x6 => if x6 < (x0.length : Int) then (if 0 ≤ x6 then (if ((rd_T52 x0 x6).f0).toList = x1.toList then (some ((rd_T52 x0 x6).f1.f0, (rd_T52 x0 x6).f1.f1, (rd_T52 x0 x6).f1.f2, true)) else (rosetteref05_Get.l0 k x0 x1 (wrap64 (x6 + 1)))) else (none)) else (some (0, 0, (⟨#[]⟩ : ByteArray), false))
def rosetteref05_Get.f (k : Nat) (l0 : List (S52)) (a1 : ByteArray) : Option (Int × Int × ByteArray × Bool) := rosetteref05_Get.l0 k l0 a1 0
theorem rosetteref05_Get.mono_l : ∀ k, (∀ y0 y1 y2, LeO (rosetteref05_Get.l0 k y0 y1 y2) (rosetteref05_Get.l0 (k + 1) y0 y1 y2))
  | 0 => fun _ _ _ r h => by simp [rosetteref05_Get.l0] at h
  | k + 1 => by
    have ih0 := rosetteref05_Get.mono_l k
    · intro y0 y1 y2
      unfold rosetteref05_Get.l0
      repeat' first
      | (with_reducible exact ih0 _ _ _)
      | (with_reducible exact LeO.refl _)
      | (with_reducible exact LeO.none _)
      | (with_reducible refine LeO.ite ?_ ?_)
      | (with_reducible refine LeO.bind ?_ (fun _ => ?_))
      | exact ih0 _ _ _
      | exact LeO.none _
      | refine LeO.ite ?_ ?_
      | refine LeO.bind ?_ (fun _ => ?_)
theorem rosetteref05_Get.mono : ∀ a0 a1 k, LeO (rosetteref05_Get.f k a0 a1) (rosetteref05_Get.f (k + 1) a0 a1) := by
  intro a0 a1 k
  have ih0 := rosetteref05_Get.mono_l k
  unfold rosetteref05_Get.f
  repeat' first
      | (with_reducible exact ih0 _ _ _)
      | (with_reducible exact LeO.refl _)
      | (with_reducible exact LeO.none _)
      | (with_reducible refine LeO.ite ?_ ?_)
      | (with_reducible refine LeO.bind ?_ (fun _ => ?_))
      | exact ih0 _ _ _
      | exact LeO.none _
      | refine LeO.ite ?_ ?_
      | refine LeO.bind ?_ (fun _ => ?_)
set_option maxHeartbeats 8000000 in
set_option maxRecDepth 100000 in
theorem rosetteref05_Get.calls (k : Nat) (A0 : Option Addr) (c0 : Nat) (l0 : List (S52)) (a1 : ByteArray) (r1 : Int) (r2 : Int) (r3 : ByteArray) (r4 : Bool) (w : World) (hr0 : Kd.C k52 w A0 l0.length l0) (hc0 : l0.length ≤ c0) (h : rosetteref05_Get.f k l0 a1 = some (r1, r2, r3, r4)) :
    Calls Try.prog 30 #[.slice A0 l0.length c0, .string a1] w fun e w' => e = .returned (.tuple #[.agg #[.int .i64 r1, .int .i64 r2, .string r3], .bool r4]) ∧ Below w.heap.size w w' := by
  have hu23 := Try.underlying23
  have HR0 := Aside0.mk hr0
  have HC0 := Aside0.mk hc0
  clear hr0 hc0
  have HB := Aside0.mk (Below.refl w.heap.size w)
  have H : (rosetteref05_Get.l0 k l0 a1 0) = some (r1, r2, r3, r4) := h
  clear h
  have H' := Aside0.mk H
  clear H
  go_enter Try.func30, Try.ntmps30
  go_wp2_with (first | ((with_reducible refine gate_dst (N := 4) rfl ?_); refine box_event ?hg (N := 4) ?hd (cs := #[.int .i64 0, .int .i64 0, .string (⟨#[]⟩ : ByteArray)]) (t := 23) ?hr ?_; (case hd => rfl); (case hg => rfl); (case hr => first | (go_simp; done) | (go_simp; rfl)); intro gb193 hg w3 hbox hb; have n0_ := Aside0.mk (below_step (by repeat (first | (with_reducible first | exact HB.out | apply below_alloc | apply pw_below_drewN | apply below_drew1) | exact HB.out)) hb); have n1_ := Aside0.mk (hbox); have n2_ := Aside0.mk ((by rw [hg]; exact (below_size (by repeat (first | (with_reducible first | exact HB.out | apply below_alloc | apply pw_below_drewN | apply below_drew1) | exact HB.out))) : w.heap.size ≤ gb193)); have n3_ := Aside0.mk ((by rw [hg]; exact (below_size (by repeat (first | (with_reducible first | exact HB.out | apply below_alloc | apply pw_below_drewN | apply below_drew1) | exact HB.out))) : w.heap.size ≤ gb193)); clear HB; have HB := n0_; have BK193 := n1_; have GW193 := n2_; have GE193 := n3_; clear n0_ n1_ n2_ n3_; clear hb hbox hg))
  go_loopg [6] k (fun kq v6 w' => ∃ (x6_1 : Int) (x194000_1 : Int) (x194001_1 : Int) (x194002_1 : ByteArray), v6 = .int .i64 x6_1 ∧ Aside0 (rosetteref05_Get.l0 kq l0 a1 x6_1 = some (r1, r2, r3, r4)) ∧ Aside0 (kq ≤ k) ∧ Aside0 (w'.heap[gb193]? = some (.cells #[.int .i64 x194000_1, .int .i64 x194001_1, .string x194002_1] 23 (0, 0))) ∧ Aside0 (Below w.heap.size w w'))
  case atStart => exact ⟨(0), (0), (0), ((⟨#[]⟩ : ByteArray)), (by first | rfl | (simp; done) | (simp [*]; done)), H', ⟨Nat.le_refl _⟩, ⟨by (with_reducible repeat (first | refine blk_drewN ?_ _ | refine blk_drew ?_ | refine blk_alloc ?_ _)); exact BK193.out⟩, ⟨by repeat (first | (with_reducible first | exact HB.out | apply below_alloc | apply pw_below_drewN | apply below_drew1 | refine below_set ?_ GE193.out) | exact HB.out)⟩⟩
  case round =>
    clear H'
    try clear p2
    try clear c3
    obtain ⟨x6_1, x194000_1, x194001_1, x194002_1, rfl, HA, HK1, BK193, HB⟩ := hrel
    cases gk with
    | zero => exact absurd HA.out (by simp [rosetteref05_Get.l0])
    | succ k1 =>
      have H := HA.out
      clear HA
      simp only [rosetteref05_Get.l0] at H
      by_cases c4 : x6_1 < (l0.length : Int)
      · rw [if_pos c4] at H
        have c4b0 : decide (x6_1 < (l0.length : Int)) = true := decide_eq_true c4
        clear c4
        by_cases c5 : 0 ≤ x6_1
        · rw [if_pos c5] at H
          have c5b0 : decide (0 ≤ x6_1) = true := decide_eq_true c5
          clear c5
          by_cases c6 : ((rd_T52 l0 x6_1).f0).toList = a1.toList
          · rw [if_pos c6] at H
            have c6b0 : (((rd_T52 l0 x6_1).f0).toList == a1.toList) = true := beq_iff_eq.mpr c6
            have c6b1 : (((rd_T52 l0 x6_1).f0).toList != a1.toList) = false := bne_eq_false_iff_eq.mpr c6
            clear c6
            simp only [Option.some.injEq, Prod.mk.injEq] at H
            obtain ⟨rfl, rfl, rfl, rfl⟩ := H
            have p194 : 0 ≤ (x6_1 : Int) := of_decide_eq_true (by first | (with_reducible assumption) | assumption)
            have q194 : x6_1 < (l0.length : Int) := of_decide_eq_true (by first | (with_reducible assumption) | assumption)
            obtain ⟨ad194, e194, hx194_0, hx194_1, hx194_2, hx194_3⟩ := at_T52 HR0.out x6_1 p194 q194
            cases e194
            replace hx194_0 := (HB.out.cell (World.block_lt_of_cell? w _ hx194_0)).trans hx194_0
            replace hx194_1 := (HB.out.cell (World.block_lt_of_cell? w _ hx194_1)).trans hx194_1
            replace hx194_2 := (HB.out.cell (World.block_lt_of_cell? w _ hx194_2)).trans hx194_2
            replace hx194_3 := (HB.out.cell (World.block_lt_of_cell? w _ hx194_3)).trans hx194_3
            replace p194 := eq_true p194
            replace q194 := eq_true q194
            have p195 : 0 ≤ (x6_1 : Int) := of_decide_eq_true (by first | (with_reducible assumption) | assumption)
            have q195 : x6_1 < (l0.length : Int) := of_decide_eq_true (by first | (with_reducible assumption) | assumption)
            obtain ⟨ad195, e195, hx195_0, hx195_1, hx195_2, hx195_3⟩ := at_T52 HR0.out x6_1 p195 q195
            obtain rfl : ad194 = ad195 := (by injection e195)
            replace hx195_0 := (HB.out.cell (World.block_lt_of_cell? w _ hx195_0)).trans hx195_0
            replace hx195_1 := (HB.out.cell (World.block_lt_of_cell? w _ hx195_1)).trans hx195_1
            replace hx195_2 := (HB.out.cell (World.block_lt_of_cell? w _ hx195_2)).trans hx195_2
            replace hx195_3 := (HB.out.cell (World.block_lt_of_cell? w _ hx195_3)).trans hx195_3
            replace p195 := eq_true p195
            replace q195 := eq_true q195
            have hcz7_0 : wr.cell? ⟨gb193, 0, none⟩ = some (.int .i64 x194000_1) := (blk_cell BK193.out 0).trans rfl
            have hcz7_1 : wr.cell? ⟨gb193, 1, none⟩ = some (.int .i64 x194001_1) := (blk_cell BK193.out 1).trans rfl
            have hcz7_2 : wr.cell? ⟨gb193, 2, none⟩ = some (.string x194002_1) := (blk_cell BK193.out 2).trans rfl
            have hfz7_0 := blk_frozen BK193.out 0
            have hfz7_1 := blk_frozen BK193.out 1
            have hfz7_2 := blk_frozen BK193.out 2
            go_wp2
            refine bodyPost_ret (results_ct rfl _ _ gb193 23 #[.int .i64 ((rd_T52 l0 x6_1).f1.f0), .int .i64 ((rd_T52 l0 x6_1).f1.f1), .string ((rd_T52 l0 x6_1).f1.f2)] (0, 0) _ rfl (by (with_reducible repeat (first | refine blk_drewN ?_ _ | refine blk_drew ?_ | refine blk_alloc ?_ _)); refine blk_put (cs := #[.int .i64 ((rd_T52 l0 x6_1).f1.f0), .int .i64 ((rd_T52 l0 x6_1).f1.f1), .string x194002_1]) ?_ 2 _ rfl; (with_reducible repeat (first | refine blk_drewN ?_ _ | refine blk_drew ?_ | refine blk_alloc ?_ _)); refine blk_put (cs := #[.int .i64 ((rd_T52 l0 x6_1).f1.f0), .int .i64 x194001_1, .string x194002_1]) ?_ 1 _ rfl; (with_reducible repeat (first | refine blk_drewN ?_ _ | refine blk_drew ?_ | refine blk_alloc ?_ _)); refine blk_put (cs := #[.int .i64 x194000_1, .int .i64 x194001_1, .string x194002_1]) ?_ 0 _ rfl; (with_reducible repeat (first | refine blk_drewN ?_ _ | refine blk_drew ?_ | refine blk_alloc ?_ _)); exact BK193.out) Try.underlying23 rfl (by kernel_rfl)) rfl ?_
            exact ⟨by first | rfl | (simp [errW_none, errW_some] <;> rfl) | (simp [*, errW_none, errW_some] <;> rfl), by repeat (first | (with_reducible first | exact HB.out | apply below_alloc | apply pw_below_drewN | apply below_drew1 | refine below_set ?_ GE193.out) | exact HB.out)⟩
          · rw [if_neg c6] at H
            have c6b0 : (((rd_T52 l0 x6_1).f0).toList == a1.toList) = false := beq_eq_false_iff_ne.mpr c6
            have c6b1 : (((rd_T52 l0 x6_1).f0).toList != a1.toList) = true := bne_iff_ne.mpr c6
            have H' := Aside0.mk H
            clear H
            have p194 : 0 ≤ (x6_1 : Int) := of_decide_eq_true (by first | (with_reducible assumption) | assumption)
            have q194 : x6_1 < (l0.length : Int) := of_decide_eq_true (by first | (with_reducible assumption) | assumption)
            obtain ⟨ad194, e194, hx194_0, hx194_1, hx194_2, hx194_3⟩ := at_T52 HR0.out x6_1 p194 q194
            cases e194
            replace hx194_0 := (HB.out.cell (World.block_lt_of_cell? w _ hx194_0)).trans hx194_0
            replace hx194_1 := (HB.out.cell (World.block_lt_of_cell? w _ hx194_1)).trans hx194_1
            replace hx194_2 := (HB.out.cell (World.block_lt_of_cell? w _ hx194_2)).trans hx194_2
            replace hx194_3 := (HB.out.cell (World.block_lt_of_cell? w _ hx194_3)).trans hx194_3
            replace p194 := eq_true p194
            replace q194 := eq_true q194
            go_wp2
            go_roundg k1
            case measure => have := HK1.out; omega
            case rel => exact ⟨(wrap64 (x6_1 + 1)), (x194000_1), (x194001_1), (x194002_1), (by first | rfl | (simp; done) | (simp [*]; done)), H', ⟨by have := HK1.out; omega⟩, ⟨by (with_reducible repeat (first | refine blk_drewN ?_ _ | refine blk_drew ?_ | refine blk_alloc ?_ _)); exact BK193.out⟩, ⟨by repeat (first | (with_reducible first | exact HB.out | apply below_alloc | apply pw_below_drewN | apply below_drew1 | refine below_set ?_ GE193.out) | exact HB.out)⟩⟩
        · rw [if_neg c5] at H
          exact absurd H (by simp)
      · rw [if_neg c4] at H
        have c4b0 : decide (x6_1 < (l0.length : Int)) = false := decide_eq_false c4
        clear c4
        simp only [Option.some.injEq, Prod.mk.injEq] at H
        obtain ⟨rfl, rfl, rfl, rfl⟩ := H
        have hcz8_0 : wr.cell? ⟨gb193, 0, none⟩ = some (.int .i64 x194000_1) := (blk_cell BK193.out 0).trans rfl
        have hcz8_1 : wr.cell? ⟨gb193, 1, none⟩ = some (.int .i64 x194001_1) := (blk_cell BK193.out 1).trans rfl
        have hcz8_2 : wr.cell? ⟨gb193, 2, none⟩ = some (.string x194002_1) := (blk_cell BK193.out 2).trans rfl
        have hfz8_0 := blk_frozen BK193.out 0
        have hfz8_1 := blk_frozen BK193.out 1
        have hfz8_2 := blk_frozen BK193.out 2
        go_wp2
        refine bodyPost_ret (results_ct rfl _ _ gb193 23 #[.int .i64 0, .int .i64 0, .string (⟨#[]⟩ : ByteArray)] (0, 0) _ rfl (by (with_reducible repeat (first | refine blk_drewN ?_ _ | refine blk_drew ?_ | refine blk_alloc ?_ _)); refine blk_put (cs := #[.int .i64 0, .int .i64 0, .string x194002_1]) ?_ 2 _ rfl; (with_reducible repeat (first | refine blk_drewN ?_ _ | refine blk_drew ?_ | refine blk_alloc ?_ _)); refine blk_put (cs := #[.int .i64 0, .int .i64 x194001_1, .string x194002_1]) ?_ 1 _ rfl; (with_reducible repeat (first | refine blk_drewN ?_ _ | refine blk_drew ?_ | refine blk_alloc ?_ _)); refine blk_put (cs := #[.int .i64 x194000_1, .int .i64 x194001_1, .string x194002_1]) ?_ 0 _ rfl; (with_reducible repeat (first | refine blk_drewN ?_ _ | refine blk_drew ?_ | refine blk_alloc ?_ _)); exact BK193.out) Try.underlying23 rfl (by kernel_rfl)) rfl ?_
        exact ⟨by first | rfl | (simp [errW_none, errW_some] <;> rfl) | (simp [*, errW_none, errW_some] <;> rfl), by repeat (first | (with_reducible first | exact HB.out | apply below_alloc | apply pw_below_drewN | apply below_drew1 | refine below_set ?_ GE193.out) | exact HB.out)⟩

end Go.Proofs.Ytojefdnngkcaoaa.G
end

section
-- Written by a program of this session (wip/tools/myprint.py), over the kit's print.
namespace Go.Proofs.Ytojefdnngkcaoaa.G
open Go.RowKit Go.Proofs.YtojefdnngkcaoaaW.PrintWords Go.Proofs.YtojefdnngkcaoaaW.PrintLast Go.Proofs.YtojefdnngkcaoaaW.PrintMore
attribute [local go_sem] max2_int min2_int max_two min_two max_three min_three max_four min_four   -- for this text's walks alone
set_option linter.unusedVariables false
set_option linter.unusedSimpArgs false

/-! ### rosettelaw05_Few: function 9 -/
def rosettelaw05_Few.l0 : Nat → List (S52) → Int → Option (Bool)
  | 0, _, _ => none
  | k + 1, x0, x3 => if x3 < (x0.length : Int) then (if 0 ≤ x3 then (if (((rd_T52 x0 x3).f0).size : Int) > 100 then (some false) else (if (((rd_T52 x0 x3).f1.f2).size : Int) > 300 then (some false) else (rosettelaw05_Few.l0 k x0 (wrap64 (x3 + 1))))) else (none)) else (some (decide ((x0.length : Int) ≤ 40)))
def rosettelaw05_Few.f (k : Nat) (l0 : List (S52)) : Option (Bool) := rosettelaw05_Few.l0 k l0 0
theorem rosettelaw05_Few.mono_l : ∀ k, (∀ y0 y1, LeO (rosettelaw05_Few.l0 k y0 y1) (rosettelaw05_Few.l0 (k + 1) y0 y1))
  | 0 => fun _ _ r h => by simp [rosettelaw05_Few.l0] at h
  | k + 1 => by
    have ih0 := rosettelaw05_Few.mono_l k
    · intro y0 y1
      unfold rosettelaw05_Few.l0
      repeat' first
      | (with_reducible exact ih0 _ _)
      | (with_reducible exact LeO.refl _)
      | (with_reducible exact LeO.none _)
      | (with_reducible refine LeO.ite ?_ ?_)
      | (with_reducible refine LeO.bind ?_ (fun _ => ?_))
      | exact ih0 _ _
      | exact LeO.none _
      | refine LeO.ite ?_ ?_
      | refine LeO.bind ?_ (fun _ => ?_)
theorem rosettelaw05_Few.mono : ∀ a0 k, LeO (rosettelaw05_Few.f k a0) (rosettelaw05_Few.f (k + 1) a0) := by
  intro a0 k
  have ih0 := rosettelaw05_Few.mono_l k
  unfold rosettelaw05_Few.f
  repeat' first
      | (with_reducible exact ih0 _ _)
      | (with_reducible exact LeO.refl _)
      | (with_reducible exact LeO.none _)
      | (with_reducible refine LeO.ite ?_ ?_)
      | (with_reducible refine LeO.bind ?_ (fun _ => ?_))
      | exact ih0 _ _
      | exact LeO.none _
      | refine LeO.ite ?_ ?_
      | refine LeO.bind ?_ (fun _ => ?_)
set_option maxHeartbeats 8000000 in
set_option maxRecDepth 100000 in
theorem rosettelaw05_Few.calls (k : Nat) (A0 : Option Addr) (c0 : Nat) (l0 : List (S52)) (r : Bool) (w : World) (hr0 : Kd.C k52 w A0 l0.length l0) (hc0 : l0.length ≤ c0) (h : rosettelaw05_Few.f k l0 = some r) :
    Calls Try.prog 9 #[.slice A0 l0.length c0] w fun e w' => e = .returned (.bool r) ∧ Drawn0 w w' := by
  have HR0 := Aside0.mk hr0
  have HC0 := Aside0.mk hc0
  clear hr0 hc0
  have H : (rosettelaw05_Few.l0 k l0 0) = some r := h
  clear h
  have H' := Aside0.mk H
  clear H
  go_enter Try.func9, Try.ntmps9
  go_wp2
  go_loopg [3] k (fun kq v3 w' => ∃ (x3_1 : Int), v3 = .int .i64 x3_1 ∧ Aside0 (rosettelaw05_Few.l0 kq l0 x3_1 = some r) ∧ Aside0 (kq ≤ k) ∧ Drawn0 w w')
  case atStart => exact ⟨(0), (by first | rfl | (simp; done) | (simp [*]; done)), H', ⟨Nat.le_refl _⟩, by repeat (first | exact Drawn0.refl _ | apply Drawn0.step)⟩
  case round =>
    clear H'
    obtain ⟨x3_1, rfl, HA, HK1, ⟨m1, rfl⟩⟩ := hrel
    cases gk with
    | zero => exact absurd HA.out (by simp [rosettelaw05_Few.l0])
    | succ k1 =>
      have H := HA.out
      clear HA
      simp only [rosettelaw05_Few.l0] at H
      by_cases c2 : x3_1 < (l0.length : Int)
      · rw [if_pos c2] at H
        have c2b0 : decide (x3_1 < (l0.length : Int)) = true := decide_eq_true c2
        clear c2
        by_cases c3 : 0 ≤ x3_1
        · rw [if_pos c3] at H
          have c3b0 : decide (0 ≤ x3_1) = true := decide_eq_true c3
          clear c3
          by_cases c4 : (((rd_T52 l0 x3_1).f0).size : Int) > 100
          · rw [if_pos c4] at H
            have c4b0 : decide (100 < (((rd_T52 l0 x3_1).f0).size : Int)) = true := decide_eq_true c4
            have c4b1 : decide (100 < ((rd_T52 l0 x3_1).f0).size) = true := decide_eq_true (by omega)
            clear c4
            obtain rfl := Option.some.inj H
            have p178 : 0 ≤ (x3_1 : Int) := of_decide_eq_true (by first | (with_reducible assumption) | assumption)
            have q178 : x3_1 < (l0.length : Int) := of_decide_eq_true (by first | (with_reducible assumption) | assumption)
            obtain ⟨ad178, e178, hx178_0, hx178_1, hx178_2, hx178_3⟩ := at_T52 HR0.out x3_1 p178 q178
            cases e178
            replace p178 := eq_true p178
            replace q178 := eq_true q178
            go_wp2
            go_ret
            exact ⟨by first | rfl | (simp; done) | (simp [*]; done), by repeat (first | exact Drawn0.refl _ | apply Drawn0.step)⟩
          · rw [if_neg c4] at H
            have c4b0 : decide (100 < (((rd_T52 l0 x3_1).f0).size : Int)) = false := decide_eq_false c4
            have c4b1 : decide (100 < ((rd_T52 l0 x3_1).f0).size) = false := decide_eq_false (by omega)
            clear c4
            by_cases c5 : (((rd_T52 l0 x3_1).f1.f2).size : Int) > 300
            · rw [if_pos c5] at H
              have c5b0 : decide (300 < (((rd_T52 l0 x3_1).f1.f2).size : Int)) = true := decide_eq_true c5
              have c5b1 : decide (300 < ((rd_T52 l0 x3_1).f1.f2).size) = true := decide_eq_true (by omega)
              clear c5
              obtain rfl := Option.some.inj H
              have p178 : 0 ≤ (x3_1 : Int) := of_decide_eq_true (by first | (with_reducible assumption) | assumption)
              have q178 : x3_1 < (l0.length : Int) := of_decide_eq_true (by first | (with_reducible assumption) | assumption)
              obtain ⟨ad178, e178, hx178_0, hx178_1, hx178_2, hx178_3⟩ := at_T52 HR0.out x3_1 p178 q178
              cases e178
              replace p178 := eq_true p178
              replace q178 := eq_true q178
              have p179 : 0 ≤ (x3_1 : Int) := of_decide_eq_true (by first | (with_reducible assumption) | assumption)
              have q179 : x3_1 < (l0.length : Int) := of_decide_eq_true (by first | (with_reducible assumption) | assumption)
              obtain ⟨ad179, e179, hx179_0, hx179_1, hx179_2, hx179_3⟩ := at_T52 HR0.out x3_1 p179 q179
              obtain rfl : ad178 = ad179 := (by injection e179)
              replace p179 := eq_true p179
              replace q179 := eq_true q179
              go_wp2
              go_ret
              exact ⟨by first | rfl | (simp; done) | (simp [*]; done), by repeat (first | exact Drawn0.refl _ | apply Drawn0.step)⟩
            · rw [if_neg c5] at H
              have c5b0 : decide (300 < (((rd_T52 l0 x3_1).f1.f2).size : Int)) = false := decide_eq_false c5
              have c5b1 : decide (300 < ((rd_T52 l0 x3_1).f1.f2).size) = false := decide_eq_false (by omega)
              clear c5
              have H' := Aside0.mk H
              clear H
              have p178 : 0 ≤ (x3_1 : Int) := of_decide_eq_true (by first | (with_reducible assumption) | assumption)
              have q178 : x3_1 < (l0.length : Int) := of_decide_eq_true (by first | (with_reducible assumption) | assumption)
              obtain ⟨ad178, e178, hx178_0, hx178_1, hx178_2, hx178_3⟩ := at_T52 HR0.out x3_1 p178 q178
              cases e178
              replace p178 := eq_true p178
              replace q178 := eq_true q178
              have p179 : 0 ≤ (x3_1 : Int) := of_decide_eq_true (by first | (with_reducible assumption) | assumption)
              have q179 : x3_1 < (l0.length : Int) := of_decide_eq_true (by first | (with_reducible assumption) | assumption)
              obtain ⟨ad179, e179, hx179_0, hx179_1, hx179_2, hx179_3⟩ := at_T52 HR0.out x3_1 p179 q179
              obtain rfl : ad178 = ad179 := (by injection e179)
              replace p179 := eq_true p179
              replace q179 := eq_true q179
              go_wp2
              go_roundg k1
              case measure => have := HK1.out; omega
              case rel => exact ⟨(wrap64 (x3_1 + 1)), (by first | rfl | (simp; done) | (simp [*]; done)), H', ⟨by have := HK1.out; omega⟩, by repeat (first | exact Drawn0.refl _ | apply Drawn0.step)⟩
        · rw [if_neg c3] at H
          exact absurd H (by simp)
      · rw [if_neg c2] at H
        have c2b0 : decide (x3_1 < (l0.length : Int)) = false := decide_eq_false c2
        clear c2
        obtain rfl := Option.some.inj H
        go_wp2
        go_ret
        exact ⟨by first | rfl | (simp; done) | (simp [*]; done), by repeat (first | exact Drawn0.refl _ | apply Drawn0.step)⟩

end Go.Proofs.Ytojefdnngkcaoaa.G
end

section
/- events over lists: what is looked up; which are few -/
set_option linter.unusedVariables false
set_option linter.unusedSimpArgs false
set_option autoImplicit false
namespace Go.Proofs.Ytojefdnngkcaoaa
open Go.RowKit Go.Proofs.YtojefdnngkcaoaaW.PrintWords Go.Proofs.YtojefdnngkcaoaaW.PrintLast Go.Proofs.YtojefdnngkcaoaaW.PrintMore Go.Proofs.Ytojefdnngkcaoaa.G

theorem wrap_s (x : Int) (h0 : -9223372036854775808 ≤ x) (h1 : x < 9223372036854775808) : wrap64 x = x := by unfold wrap64; omega
theorem rd_attr (l : List S52) (k : Nat) (hk : k < l.length) : rd_T52 l (k : Int) = l[k] := by simp [rd_T52, List.getD_eq_getElem?_getD, hk]
theorem rget_go (l : List S52) (n : ByteArray) (hl : l.length ≤ 9223372036854775806) : ∀ (d K k : Nat), k + d = l.length → d < K → rosetteref05_Get.l0 K l n (k : Int) = event_Get.f (l.drop k) n := by
  intro d
  induction d with
  | zero =>
    intro K k h1 h2
    obtain ⟨K, rfl⟩ : ∃ m, K = m + 1 := ⟨K - 1, by omega⟩
    rw [rosetteref05_Get.l0, if_neg (by omega), List.drop_of_length_le (by omega)]
    rfl
  | succ d ih =>
    intro K k h1 h2
    obtain ⟨K, rfl⟩ : ∃ m, K = m + 1 := ⟨K - 1, by omega⟩
    have hk : k < l.length := by omega
    rw [rosetteref05_Get.l0, if_pos (by omega), if_pos (by omega), rd_attr l k hk, List.drop_eq_getElem_cons hk]
    unfold event_Get.f
    rw [List.find?_cons]
    by_cases hn : l[k].f0.toList = n.toList
    · rw [if_pos hn, beq_iff_eq.mpr hn]
    · rw [if_neg hn, beq_eq_false_iff_ne.mpr hn, wrap_s _ (by omega) (by omega), show (k : Int) + 1 = ((k + 1 : Nat) : Int) by omega]
      exact ih K (k + 1) (by omega) (by omega)
theorem rget_f (l : List S52) (n : ByteArray) (hl : l.length ≤ 9223372036854775806) (K : Nat) (hK : l.length < K) : rosetteref05_Get.f K l n = event_Get.f l n := by
  unfold rosetteref05_Get.f
  have := rget_go l n hl l.length K 0 (by omega) hK
  simpa using this
theorem get_some (l : List S52) (n : ByteArray) (hw : ∀ x ∈ l, (Lit.int .i64 x.f1.f1).wf = true) : ∃ r, event_Get.f l n = some r ∧ -9223372036854775808 ≤ r.2.1 ∧ r.2.1 < 9223372036854775808 := by
  unfold event_Get.f
  cases h : l.find? (fun a => a.f0.toList == n.toList) with
  | none => exact ⟨_, rfl, by decide, by decide⟩
  | some a =>
    have := Go.bounds_i64 (hw a (List.mem_of_find?_eq_some h))
    exact ⟨_, rfl, by simp only; omega, by simp only; omega⟩
def fewB (l : List S52) : Bool := (l.all fun a => decide (a.f0.size ≤ 100) && decide (a.f1.f2.size ≤ 300)) && decide (l.length ≤ 40)
theorem few_go (l : List S52) (hl : l.length ≤ 9223372036854775806) : ∀ (d K k : Nat), k + d = l.length → d < K → rosettelaw05_Few.l0 K l (k : Int) = some (((l.drop k).all fun a => decide (a.f0.size ≤ 100) && decide (a.f1.f2.size ≤ 300)) && decide (l.length ≤ 40)) := by
  intro d
  induction d with
  | zero =>
    intro K k h1 h2
    obtain ⟨K, rfl⟩ : ∃ m, K = m + 1 := ⟨K - 1, by omega⟩
    rw [rosettelaw05_Few.l0, if_neg (by omega), List.drop_of_length_le (by omega)]
    simp only [List.all_nil, Bool.true_and]
    congr 1
    rw [decide_eq_decide]
    omega
  | succ d ih =>
    intro K k h1 h2
    obtain ⟨K, rfl⟩ : ∃ m, K = m + 1 := ⟨K - 1, by omega⟩
    have hk : k < l.length := by omega
    rw [rosettelaw05_Few.l0, if_pos (by omega), if_pos (by omega), rd_attr l k hk, List.drop_eq_getElem_cons hk, List.all_cons]
    by_cases a1 : (l[k].f0.size : Int) > 100
    · rw [if_pos a1, decide_eq_false (by omega)]; simp
    rw [if_neg a1, decide_eq_true (show l[k].f0.size ≤ 100 by omega)]
    by_cases a2 : (l[k].f1.f2.size : Int) > 300
    · rw [if_pos a2, decide_eq_false (by omega)]; simp
    rw [if_neg a2, decide_eq_true (show l[k].f1.f2.size ≤ 300 by omega), wrap_s _ (by omega) (by omega), show (k : Int) + 1 = ((k + 1 : Nat) : Int) by omega]
    simp only [Bool.true_and]
    exact ih K (k + 1) (by omega) (by omega)
theorem few_f (l : List S52) (hl : l.length ≤ 9223372036854775806) (K : Nat) (hK : l.length < K) : rosettelaw05_Few.f K l = some (fewB l) := by
  unfold rosettelaw05_Few.f
  have := few_go l hl l.length K 0 (by omega) hK
  rw [List.drop_zero] at this
  exact this
theorem few_len {l : List S52} (h : fewB l = true) : l.length ≤ 40 := by
  unfold fewB at h
  rw [Bool.and_eq_true, decide_eq_true_eq] at h
  exact h.2
theorem get_size {l : List S52} (h : fewB l = true) {n : ByteArray} {r : Int × Int × ByteArray × Bool} (hr : event_Get.f l n = some r) : r.2.2.1.size ≤ 300 := by
  unfold event_Get.f at hr
  cases hf : l.find? (fun a => a.f0.toList == n.toList) with
  | none => rw [hf] at hr; cases hr; decide
  | some a =>
    rw [hf] at hr
    cases hr
    unfold fewB at h
    rw [Bool.and_eq_true, List.all_eq_true] at h
    have := h.1 a (List.mem_of_find?_eq_some hf)
    simp only [Bool.and_eq_true, decide_eq_true_eq] at this
    exact this.2
end Go.Proofs.Ytojefdnngkcaoaa
end

section
-- Written by a program of this session (wip/tools/myprint.py), over the kit's print.
namespace Go.Proofs.Ytojefdnngkcaoaa.G
open Go.RowKit Go.Proofs.YtojefdnngkcaoaaW.PrintWords Go.Proofs.YtojefdnngkcaoaaW.PrintLast Go.Proofs.YtojefdnngkcaoaaW.PrintMore
attribute [local go_sem] max2_int min2_int max_two min_two max_three min_three max_four min_four   -- for this text's walks alone
set_option linter.unusedVariables false
set_option linter.unusedSimpArgs false

attribute [local go_sem high] eqA23
/-! ### rosetteref06_Right: function 11 -/
def rosetteref06_Right.j0 : Nat → Bool → ByteArray → Int → Int → Int → ByteArray → Option (Bool)
  | 0, _, _, _, _, _, _ => none
  | k + 1, x13, x182000, x182001, x182002, x182003, x182004 => if x13 = true then (some false) else (if x182001 = 8 then (some (x182002 == 0 && (x182003 == 0 && (x182004.toList == ([] : List UInt8))))) else ((rosetteref04_Right.f x182002 x182003 x182004).bind fun t182 => (if t182 = true then (if (x182004.size : Int) ≤ 32 then (if x182001 ≥ 1 then (if x182001 ≤ 7 then (if x182001 = 7 then (some (x182002 == 2)) else (some true)) else (some false)) else (some false)) else (some false)) else (some false))))
def rosetteref06_Right.f (k : Nat) (a0_0 : ByteArray) (a0_1 : Int) (a0_2 : Int) (a0_3 : Int) (a0_4 : ByteArray) : Option (Bool) := if (a0_0.size : Int) < 1 then (rosetteref06_Right.j0 k true a0_0 a0_1 a0_2 a0_3 a0_4) else (rosetteref06_Right.j0 k (decide ((a0_0.size : Int) > 16)) a0_0 a0_1 a0_2 a0_3 a0_4)
theorem rosetteref06_Right.mono_l : ∀ k, (∀ y0 y1 y2 y3 y4 y5, LeO (rosetteref06_Right.j0 k y0 y1 y2 y3 y4 y5) (rosetteref06_Right.j0 (k + 1) y0 y1 y2 y3 y4 y5))
  | 0 => fun _ _ _ _ _ _ r h => by simp [rosetteref06_Right.j0] at h
  | k + 1 => by
    have ih0 := rosetteref06_Right.mono_l k
    · intro y0 y1 y2 y3 y4 y5
      unfold rosetteref06_Right.j0
      repeat' first
      | (with_reducible exact ih0 _ _ _ _ _ _)
      | (with_reducible exact LeO.refl _)
      | (with_reducible exact LeO.none _)
      | (with_reducible refine LeO.ite ?_ ?_)
      | (with_reducible refine LeO.bind ?_ (fun _ => ?_))
      | exact ih0 _ _ _ _ _ _
      | exact LeO.none _
      | refine LeO.ite ?_ ?_
      | refine LeO.bind ?_ (fun _ => ?_)
theorem rosetteref06_Right.mono : ∀ a0 a1 a2 a3 a4 k, LeO (rosetteref06_Right.f k a0 a1 a2 a3 a4) (rosetteref06_Right.f (k + 1) a0 a1 a2 a3 a4) := by
  intro a0 a1 a2 a3 a4 k
  have ih0 := rosetteref06_Right.mono_l k
  unfold rosetteref06_Right.f
  repeat' first
      | (with_reducible exact ih0 _ _ _ _ _ _)
      | (with_reducible exact LeO.refl _)
      | (with_reducible exact LeO.none _)
      | (with_reducible refine LeO.ite ?_ ?_)
      | (with_reducible refine LeO.bind ?_ (fun _ => ?_))
      | exact ih0 _ _ _ _ _ _
      | exact LeO.none _
      | refine LeO.ite ?_ ?_
      | refine LeO.bind ?_ (fun _ => ?_)
set_option maxHeartbeats 8000000 in
set_option maxRecDepth 100000 in
theorem rosetteref06_Right.calls (k : Nat) (a0_0 : ByteArray) (a0_1 : Int) (a0_2 : Int) (a0_3 : Int) (a0_4 : ByteArray) (r : Bool) (w : World) (h : rosetteref06_Right.f k a0_0 a0_1 a0_2 a0_3 a0_4 = some r) :
    Calls Try.prog 11 #[.agg #[.string a0_0, .int .i64 a0_1, .int .i64 a0_2, .int .i64 a0_3, .string a0_4]] w fun e w' => e = .returned (.bool r) ∧ Below w.heap.size w w' := by
  have hu25 := Try.underlying25
  have hu23 := Try.underlying23
  have HB := Aside0.mk (Below.refl w.heap.size w)
  have H : (if (a0_0.size : Int) < 1 then (rosetteref06_Right.j0 k true a0_0 a0_1 a0_2 a0_3 a0_4) else (rosetteref06_Right.j0 k (decide ((a0_0.size : Int) > 16)) a0_0 a0_1 a0_2 a0_3 a0_4)) = some r := h
  clear h
  have HC2 := Aside0.mk H
  clear H
  go_enter Try.func11, Try.ntmps11
  go_upto_region 1 with (first | ((with_reducible refine gate_dst (N := 1) rfl ?_); (try (refine gate_guard (by rfl) ?_; dsimp only)); refine box_event ?hg (N := 1) ?hd (cs := #[.string a0_0, .int .i64 a0_1, .int .i64 a0_2, .int .i64 a0_3, .string a0_4]) (t := 25) ?hr ?_; (case hd => rfl); (case hg => rfl); (case hr => first | (go_simp; done) | (go_simp; rfl)); intro gb181 hg w3 hbox hb; have n0_ := Aside0.mk (below_step (by repeat (first | (with_reducible first | exact HB.out | apply below_alloc | apply pw_below_drewN | apply below_drew1) | exact HB.out)) hb); have n1_ := Aside0.mk (hbox); have n2_ := Aside0.mk ((by rw [hg]; exact (below_size (by repeat (first | (with_reducible first | exact HB.out | apply below_alloc | apply pw_below_drewN | apply below_drew1) | exact HB.out))) : w.heap.size ≤ gb181)); have n3_ := Aside0.mk ((by rw [hg]; exact (below_size (by repeat (first | (with_reducible first | exact HB.out | apply below_alloc | apply pw_below_drewN | apply below_drew1) | exact HB.out))) : w.heap.size ≤ gb181)); clear HB; have HB := n0_; have BK181 := n1_; have GW181 := n2_; have GE181 := n3_; clear n0_ n1_ n2_ n3_; clear hb hbox hg))
  (try simp only [Act.put, List.setIfInBounds_toArray, List.set_cons_zero, List.set_cons_succ])
  go_cut [13] (fun v13 wc => ∃ (kq : Nat) (x13_1 : Bool), v13 = .bool x13_1 ∧ Aside0 (rosetteref06_Right.j0 kq x13_1 a0_0 a0_1 a0_2 a0_3 a0_4 = some r) ∧ Aside0 (kq ≤ k) ∧ Aside0 (wc.heap[gb181]? = some (.cells #[.string a0_0, .int .i64 a0_1, .int .i64 a0_2, .int .i64 a0_3, .string a0_4] 25 (0, 0))) ∧ Aside0 (Below w.heap.size w wc))
  case first =>
    have H := HC2.out
    clear HC2
    by_cases c4 : (a0_0.size : Int) < 1
    · rw [if_pos c4] at H
      have c4b0 : decide ((a0_0.size : Int) < 1) = true := decide_eq_true c4
      have c4b1 : decide (a0_0.size < 1) = true := decide_eq_true (by omega)
      clear c4
      (first | rw [c4b0] | (simp only [i64_w, i32_w]; rw [c4b0]) | skip)
      have H' := Aside0.mk H
      clear H
      have hcz5_0 : w3.cell? ⟨gb181, 0, none⟩ = some (.string a0_0) := (blk_cell BK181.out 0).trans rfl
      have hcz5_1 : w3.cell? ⟨gb181, 1, none⟩ = some (.int .i64 a0_1) := (blk_cell BK181.out 1).trans rfl
      have hcz5_2 : w3.cell? ⟨gb181, 2, none⟩ = some (.int .i64 a0_2) := (blk_cell BK181.out 2).trans rfl
      have hcz5_3 : w3.cell? ⟨gb181, 3, none⟩ = some (.int .i64 a0_3) := (blk_cell BK181.out 3).trans rfl
      have hcz5_4 : w3.cell? ⟨gb181, 4, none⟩ = some (.string a0_4) := (blk_cell BK181.out 4).trans rfl
      have hfz5_0 := blk_frozen BK181.out 0
      have hfz5_1 := blk_frozen BK181.out 1
      have hfz5_2 := blk_frozen BK181.out 2
      have hfz5_3 := blk_frozen BK181.out 3
      have hfz5_4 := blk_frozen BK181.out 4
      go_wp2
      go_meet
      case rel => exact ⟨_, (true), (by first | rfl | (simp; done) | (simp [*]; done)), H', ⟨by first | omega | exact Nat.le_refl _⟩, ⟨by (with_reducible repeat (first | refine blk_drewN ?_ _ | refine blk_drew ?_ | refine blk_alloc ?_ _)); exact BK181.out⟩, ⟨by repeat (first | (with_reducible first | exact HB.out | apply below_alloc | apply pw_below_drewN | apply below_drew1 | refine below_set ?_ GE181.out) | exact HB.out)⟩⟩
    · rw [if_neg c4] at H
      have c4b0 : decide ((a0_0.size : Int) < 1) = false := decide_eq_false c4
      have c4b1 : decide (a0_0.size < 1) = false := decide_eq_false (by omega)
      clear c4
      (first | rw [c4b0] | (simp only [i64_w, i32_w]; rw [c4b0]) | skip)
      have H' := Aside0.mk H
      clear H
      have hcz6_0 : w3.cell? ⟨gb181, 0, none⟩ = some (.string a0_0) := (blk_cell BK181.out 0).trans rfl
      have hcz6_1 : w3.cell? ⟨gb181, 1, none⟩ = some (.int .i64 a0_1) := (blk_cell BK181.out 1).trans rfl
      have hcz6_2 : w3.cell? ⟨gb181, 2, none⟩ = some (.int .i64 a0_2) := (blk_cell BK181.out 2).trans rfl
      have hcz6_3 : w3.cell? ⟨gb181, 3, none⟩ = some (.int .i64 a0_3) := (blk_cell BK181.out 3).trans rfl
      have hcz6_4 : w3.cell? ⟨gb181, 4, none⟩ = some (.string a0_4) := (blk_cell BK181.out 4).trans rfl
      have hfz6_0 := blk_frozen BK181.out 0
      have hfz6_1 := blk_frozen BK181.out 1
      have hfz6_2 := blk_frozen BK181.out 2
      have hfz6_3 := blk_frozen BK181.out 3
      have hfz6_4 := blk_frozen BK181.out 4
      go_wp2
      go_meet
      case rel => exact ⟨_, (decide ((a0_0.size : Int) > 16)), (by first | rfl | (simp; done) | (simp [*]; done)), H', ⟨by first | omega | exact Nat.le_refl _⟩, ⟨by (with_reducible repeat (first | refine blk_drewN ?_ _ | refine blk_drew ?_ | refine blk_alloc ?_ _)); exact BK181.out⟩, ⟨by repeat (first | (with_reducible first | exact HB.out | apply below_alloc | apply pw_below_drewN | apply below_drew1 | refine below_set ?_ GE181.out) | exact HB.out)⟩⟩
  case rest =>
    clear HC2
    try clear c1
    try clear p2
    try clear c4
    try clear c4b0
    try clear c4b1
    try clear hcz5_0
    try clear hcz5_1
    try clear hcz5_2
    try clear hcz5_3
    try clear hcz5_4
    try clear hcz6_0
    try clear hcz6_1
    try clear hcz6_2
    try clear hcz6_3
    try clear hcz6_4
    try clear hfz5_0
    try clear hfz5_1
    try clear hfz5_2
    try clear hfz5_3
    try clear hfz5_4
    try clear hfz6_0
    try clear hfz6_1
    try clear hfz6_2
    try clear hfz6_3
    try clear hfz6_4
    obtain ⟨kq, x13_1, rfl, HA, HJ1, BK181, HB⟩ := hcut
    cases kq with
    | zero => exact absurd HA.out (by simp [rosetteref06_Right.j0])
    | succ kj1 =>
      have H := HA.out
      clear HA
      simp only [rosetteref06_Right.j0] at H
      by_cases c7 : x13_1 = true
      · subst c7
        have H1 : (some false) = some r := by rw [if_pos rfl] at H; exact H
        clear H
        have H := H1
        clear H1
        obtain rfl := Option.some.inj H
        go_wp2
        go_ret
        exact ⟨by first | rfl | (simp [errW_none, errW_some] <;> rfl) | (simp [*, errW_none, errW_some] <;> rfl), by repeat (first | (with_reducible first | exact HB.out | apply below_alloc | apply pw_below_drewN | apply below_drew1 | refine below_set ?_ GE181.out) | exact HB.out)⟩
      · replace c7 := Bool.eq_false_iff.mpr c7
        subst c7
        have H1 : (if a0_1 = 8 then (some (a0_2 == 0 && (a0_3 == 0 && (a0_4.toList == ([] : List UInt8))))) else ((rosetteref04_Right.f a0_2 a0_3 a0_4).bind fun t182 => (if t182 = true then (if (a0_4.size : Int) ≤ 32 then (if a0_1 ≥ 1 then (if a0_1 ≤ 7 then (if a0_1 = 7 then (some (a0_2 == 2)) else (some true)) else (some false)) else (some false)) else (some false)) else (some false)))) = some r := by rw [if_neg (show ¬ (false = true) by decide)] at H; exact H
        clear H
        have H := H1
        clear H1
        by_cases c8 : a0_1 = 8
        · rw [if_pos c8] at H
          have c8b0 : (a0_1 == 8) = true := beq_iff_eq.mpr c8
          have c8b1 : (a0_1 != 8) = false := bne_eq_false_iff_eq.mpr c8
          clear c8
          obtain rfl := Option.some.inj H
          have hcz9_0 : wc.cell? ⟨gb181, 0, none⟩ = some (.string a0_0) := (blk_cell BK181.out 0).trans rfl
          have hcz9_1 : wc.cell? ⟨gb181, 1, none⟩ = some (.int .i64 a0_1) := (blk_cell BK181.out 1).trans rfl
          have hcz9_2 : wc.cell? ⟨gb181, 2, none⟩ = some (.int .i64 a0_2) := (blk_cell BK181.out 2).trans rfl
          have hcz9_3 : wc.cell? ⟨gb181, 3, none⟩ = some (.int .i64 a0_3) := (blk_cell BK181.out 3).trans rfl
          have hcz9_4 : wc.cell? ⟨gb181, 4, none⟩ = some (.string a0_4) := (blk_cell BK181.out 4).trans rfl
          have hfz9_0 := blk_frozen BK181.out 0
          have hfz9_1 := blk_frozen BK181.out 1
          have hfz9_2 := blk_frozen BK181.out 2
          have hfz9_3 := blk_frozen BK181.out 3
          have hfz9_4 := blk_frozen BK181.out 4
          go_wp2
          go_ret
          exact ⟨by first | rfl | (simp [errW_none, errW_some] <;> rfl) | (simp [*, errW_none, errW_some] <;> rfl), by repeat (first | (with_reducible first | exact HB.out | apply below_alloc | apply pw_below_drewN | apply below_drew1 | refine below_set ?_ GE181.out) | exact HB.out)⟩
        · rw [if_neg c8] at H
          have c8b0 : (a0_1 == 8) = false := beq_eq_false_iff_ne.mpr c8
          have c8b1 : (a0_1 != 8) = true := bne_iff_ne.mpr c8
          replace H := Option.bind_eq_some_iff.mp H
          obtain ⟨t182, A100, H⟩ := H
          replace H : (if t182 = true then (if (a0_4.size : Int) ≤ 32 then (if a0_1 ≥ 1 then (if a0_1 ≤ 7 then (if a0_1 = 7 then (some (a0_2 == 2)) else (some true)) else (some false)) else (some false)) else (some false)) else (some false)) = some r := H
          have A10 := Aside0.mk A100
          clear A100
          by_cases c11 : t182 = true
          · subst c11
            have H1 : (if (a0_4.size : Int) ≤ 32 then (if a0_1 ≥ 1 then (if a0_1 ≤ 7 then (if a0_1 = 7 then (some (a0_2 == 2)) else (some true)) else (some false)) else (some false)) else (some false)) = some r := by rw [if_pos rfl] at H; exact H
            clear H
            have H := H1
            clear H1
            by_cases c12 : (a0_4.size : Int) ≤ 32
            · rw [if_pos c12] at H
              have c12b0 : decide ((a0_4.size : Int) ≤ 32) = true := decide_eq_true c12
              have c12b1 : decide (a0_4.size ≤ 32) = true := decide_eq_true (by omega)
              clear c12
              by_cases c13 : a0_1 ≥ 1
              · rw [if_pos c13] at H
                have c13b0 : decide (1 ≤ a0_1) = true := decide_eq_true c13
                clear c13
                by_cases c14 : a0_1 ≤ 7
                · rw [if_pos c14] at H
                  have c14b0 : decide (a0_1 ≤ 7) = true := decide_eq_true c14
                  clear c14
                  by_cases c15 : a0_1 = 7
                  · rw [if_pos c15] at H
                    have c15b0 : (a0_1 == 7) = true := beq_iff_eq.mpr c15
                    have c15b1 : (a0_1 != 7) = false := bne_eq_false_iff_eq.mpr c15
                    clear c15
                    obtain rfl := Option.some.inj H
                    have hcz16_0 : wc.cell? ⟨gb181, 0, none⟩ = some (.string a0_0) := (blk_cell BK181.out 0).trans rfl
                    have hcz16_1 : wc.cell? ⟨gb181, 1, none⟩ = some (.int .i64 a0_1) := (blk_cell BK181.out 1).trans rfl
                    have hcz16_2 : wc.cell? ⟨gb181, 2, none⟩ = some (.int .i64 a0_2) := (blk_cell BK181.out 2).trans rfl
                    have hcz16_3 : wc.cell? ⟨gb181, 3, none⟩ = some (.int .i64 a0_3) := (blk_cell BK181.out 3).trans rfl
                    have hcz16_4 : wc.cell? ⟨gb181, 4, none⟩ = some (.string a0_4) := (blk_cell BK181.out 4).trans rfl
                    have hfz16_0 := blk_frozen BK181.out 0
                    have hfz16_1 := blk_frozen BK181.out 1
                    have hfz16_2 := blk_frozen BK181.out 2
                    have hfz16_3 := blk_frozen BK181.out 3
                    have hfz16_4 := blk_frozen BK181.out 4
                    go_wp2_with (first | ((with_reducible refine gate_callee (f := 25) rfl ?_); refine goesL_ (some 23) rfl rfl Try.func25 (by kernel_rfl) rfl #[.agg #[.int .i64 a0_2, .int .i64 a0_3, .string a0_4]] rfl (by (try simp only [List.map_toArray, List.map_cons, List.map_nil]); first | done | rfl | (simp only [List.length_drop, List.length_take]; rfl)) ?_; (with_reducible refine (rosetteref04_Right.calls a0_2 a0_3 a0_4 true _ A10.out).mono ?_); rintro e w17 ⟨rfl, hb⟩; refine ⟨_, rfl, ?_⟩; have n0_ := Aside0.mk (blk_below (g := gb181) (o := .cells #[.string a0_0, .int .i64 a0_1, .int .i64 a0_2, .int .i64 a0_3, .string a0_4] 25 (0, 0)) (by (with_reducible repeat (first | refine blk_drewN ?_ _ | refine blk_drew ?_ | refine blk_alloc ?_ _)); exact BK181.out) hb); have n1_ := Aside0.mk (below_step (by repeat (first | (with_reducible first | exact HB.out | apply below_alloc | apply pw_below_drewN | apply below_drew1 | refine below_set ?_ GE181.out) | exact HB.out)) hb); clear BK181; clear HB; have BK181 := n0_; have HB := n1_; clear n0_ n1_; (try clear hb); (try clear hb2); (try clear hk); (try clear hi); have hcz18_0 : w17.cell? ⟨gb181, 0, none⟩ = some (.string a0_0) := (blk_cell BK181.out 0).trans rfl; have hcz18_1 : w17.cell? ⟨gb181, 1, none⟩ = some (.int .i64 a0_1) := (blk_cell BK181.out 1).trans rfl; have hcz18_2 : w17.cell? ⟨gb181, 2, none⟩ = some (.int .i64 a0_2) := (blk_cell BK181.out 2).trans rfl; have hcz18_3 : w17.cell? ⟨gb181, 3, none⟩ = some (.int .i64 a0_3) := (blk_cell BK181.out 3).trans rfl; have hcz18_4 : w17.cell? ⟨gb181, 4, none⟩ = some (.string a0_4) := (blk_cell BK181.out 4).trans rfl; have hfz18_0 := blk_frozen BK181.out 0; have hfz18_1 := blk_frozen BK181.out 1; have hfz18_2 := blk_frozen BK181.out 2; have hfz18_3 := blk_frozen BK181.out 3; have hfz18_4 := blk_frozen BK181.out 4))
                    go_ret
                    exact ⟨by first | rfl | (simp [errW_none, errW_some] <;> rfl) | (simp [*, errW_none, errW_some] <;> rfl), by repeat (first | (with_reducible first | exact HB.out | apply below_alloc | apply pw_below_drewN | apply below_drew1 | refine below_set ?_ GE181.out) | exact HB.out)⟩
                  · rw [if_neg c15] at H
                    have c15b0 : (a0_1 == 7) = false := beq_eq_false_iff_ne.mpr c15
                    have c15b1 : (a0_1 != 7) = true := bne_iff_ne.mpr c15
                    obtain rfl := Option.some.inj H
                    have hcz19_0 : wc.cell? ⟨gb181, 0, none⟩ = some (.string a0_0) := (blk_cell BK181.out 0).trans rfl
                    have hcz19_1 : wc.cell? ⟨gb181, 1, none⟩ = some (.int .i64 a0_1) := (blk_cell BK181.out 1).trans rfl
                    have hcz19_2 : wc.cell? ⟨gb181, 2, none⟩ = some (.int .i64 a0_2) := (blk_cell BK181.out 2).trans rfl
                    have hcz19_3 : wc.cell? ⟨gb181, 3, none⟩ = some (.int .i64 a0_3) := (blk_cell BK181.out 3).trans rfl
                    have hcz19_4 : wc.cell? ⟨gb181, 4, none⟩ = some (.string a0_4) := (blk_cell BK181.out 4).trans rfl
                    have hfz19_0 := blk_frozen BK181.out 0
                    have hfz19_1 := blk_frozen BK181.out 1
                    have hfz19_2 := blk_frozen BK181.out 2
                    have hfz19_3 := blk_frozen BK181.out 3
                    have hfz19_4 := blk_frozen BK181.out 4
                    go_wp2_with (first | ((with_reducible refine gate_callee (f := 25) rfl ?_); refine goesL_ (some 23) rfl rfl Try.func25 (by kernel_rfl) rfl #[.agg #[.int .i64 a0_2, .int .i64 a0_3, .string a0_4]] rfl (by (try simp only [List.map_toArray, List.map_cons, List.map_nil]); first | done | rfl | (simp only [List.length_drop, List.length_take]; rfl)) ?_; (with_reducible refine (rosetteref04_Right.calls a0_2 a0_3 a0_4 true _ A10.out).mono ?_); rintro e w20 ⟨rfl, hb⟩; refine ⟨_, rfl, ?_⟩; have n0_ := Aside0.mk (blk_below (g := gb181) (o := .cells #[.string a0_0, .int .i64 a0_1, .int .i64 a0_2, .int .i64 a0_3, .string a0_4] 25 (0, 0)) (by (with_reducible repeat (first | refine blk_drewN ?_ _ | refine blk_drew ?_ | refine blk_alloc ?_ _)); exact BK181.out) hb); have n1_ := Aside0.mk (below_step (by repeat (first | (with_reducible first | exact HB.out | apply below_alloc | apply pw_below_drewN | apply below_drew1 | refine below_set ?_ GE181.out) | exact HB.out)) hb); clear BK181; clear HB; have BK181 := n0_; have HB := n1_; clear n0_ n1_; (try clear hb); (try clear hb2); (try clear hk); (try clear hi); have hcz21_0 : w20.cell? ⟨gb181, 0, none⟩ = some (.string a0_0) := (blk_cell BK181.out 0).trans rfl; have hcz21_1 : w20.cell? ⟨gb181, 1, none⟩ = some (.int .i64 a0_1) := (blk_cell BK181.out 1).trans rfl; have hcz21_2 : w20.cell? ⟨gb181, 2, none⟩ = some (.int .i64 a0_2) := (blk_cell BK181.out 2).trans rfl; have hcz21_3 : w20.cell? ⟨gb181, 3, none⟩ = some (.int .i64 a0_3) := (blk_cell BK181.out 3).trans rfl; have hcz21_4 : w20.cell? ⟨gb181, 4, none⟩ = some (.string a0_4) := (blk_cell BK181.out 4).trans rfl; have hfz21_0 := blk_frozen BK181.out 0; have hfz21_1 := blk_frozen BK181.out 1; have hfz21_2 := blk_frozen BK181.out 2; have hfz21_3 := blk_frozen BK181.out 3; have hfz21_4 := blk_frozen BK181.out 4))
                    go_ret
                    exact ⟨by first | rfl | (simp [errW_none, errW_some] <;> rfl) | (simp [*, errW_none, errW_some] <;> rfl), by repeat (first | (with_reducible first | exact HB.out | apply below_alloc | apply pw_below_drewN | apply below_drew1 | refine below_set ?_ GE181.out) | exact HB.out)⟩
                · rw [if_neg c14] at H
                  have c14b0 : decide (a0_1 ≤ 7) = false := decide_eq_false c14
                  clear c14
                  obtain rfl := Option.some.inj H
                  have hcz22_0 : wc.cell? ⟨gb181, 0, none⟩ = some (.string a0_0) := (blk_cell BK181.out 0).trans rfl
                  have hcz22_1 : wc.cell? ⟨gb181, 1, none⟩ = some (.int .i64 a0_1) := (blk_cell BK181.out 1).trans rfl
                  have hcz22_2 : wc.cell? ⟨gb181, 2, none⟩ = some (.int .i64 a0_2) := (blk_cell BK181.out 2).trans rfl
                  have hcz22_3 : wc.cell? ⟨gb181, 3, none⟩ = some (.int .i64 a0_3) := (blk_cell BK181.out 3).trans rfl
                  have hcz22_4 : wc.cell? ⟨gb181, 4, none⟩ = some (.string a0_4) := (blk_cell BK181.out 4).trans rfl
                  have hfz22_0 := blk_frozen BK181.out 0
                  have hfz22_1 := blk_frozen BK181.out 1
                  have hfz22_2 := blk_frozen BK181.out 2
                  have hfz22_3 := blk_frozen BK181.out 3
                  have hfz22_4 := blk_frozen BK181.out 4
                  go_wp2_with (first | ((with_reducible refine gate_callee (f := 25) rfl ?_); refine goesL_ (some 23) rfl rfl Try.func25 (by kernel_rfl) rfl #[.agg #[.int .i64 a0_2, .int .i64 a0_3, .string a0_4]] rfl (by (try simp only [List.map_toArray, List.map_cons, List.map_nil]); first | done | rfl | (simp only [List.length_drop, List.length_take]; rfl)) ?_; (with_reducible refine (rosetteref04_Right.calls a0_2 a0_3 a0_4 true _ A10.out).mono ?_); rintro e w23 ⟨rfl, hb⟩; refine ⟨_, rfl, ?_⟩; have n0_ := Aside0.mk (blk_below (g := gb181) (o := .cells #[.string a0_0, .int .i64 a0_1, .int .i64 a0_2, .int .i64 a0_3, .string a0_4] 25 (0, 0)) (by (with_reducible repeat (first | refine blk_drewN ?_ _ | refine blk_drew ?_ | refine blk_alloc ?_ _)); exact BK181.out) hb); have n1_ := Aside0.mk (below_step (by repeat (first | (with_reducible first | exact HB.out | apply below_alloc | apply pw_below_drewN | apply below_drew1 | refine below_set ?_ GE181.out) | exact HB.out)) hb); clear BK181; clear HB; have BK181 := n0_; have HB := n1_; clear n0_ n1_; (try clear hb); (try clear hb2); (try clear hk); (try clear hi); have hcz24_0 : w23.cell? ⟨gb181, 0, none⟩ = some (.string a0_0) := (blk_cell BK181.out 0).trans rfl; have hcz24_1 : w23.cell? ⟨gb181, 1, none⟩ = some (.int .i64 a0_1) := (blk_cell BK181.out 1).trans rfl; have hcz24_2 : w23.cell? ⟨gb181, 2, none⟩ = some (.int .i64 a0_2) := (blk_cell BK181.out 2).trans rfl; have hcz24_3 : w23.cell? ⟨gb181, 3, none⟩ = some (.int .i64 a0_3) := (blk_cell BK181.out 3).trans rfl; have hcz24_4 : w23.cell? ⟨gb181, 4, none⟩ = some (.string a0_4) := (blk_cell BK181.out 4).trans rfl; have hfz24_0 := blk_frozen BK181.out 0; have hfz24_1 := blk_frozen BK181.out 1; have hfz24_2 := blk_frozen BK181.out 2; have hfz24_3 := blk_frozen BK181.out 3; have hfz24_4 := blk_frozen BK181.out 4))
                  go_ret
                  exact ⟨by first | rfl | (simp [errW_none, errW_some] <;> rfl) | (simp [*, errW_none, errW_some] <;> rfl), by repeat (first | (with_reducible first | exact HB.out | apply below_alloc | apply pw_below_drewN | apply below_drew1 | refine below_set ?_ GE181.out) | exact HB.out)⟩
              · rw [if_neg c13] at H
                have c13b0 : decide (1 ≤ a0_1) = false := decide_eq_false c13
                clear c13
                obtain rfl := Option.some.inj H
                have hcz25_0 : wc.cell? ⟨gb181, 0, none⟩ = some (.string a0_0) := (blk_cell BK181.out 0).trans rfl
                have hcz25_1 : wc.cell? ⟨gb181, 1, none⟩ = some (.int .i64 a0_1) := (blk_cell BK181.out 1).trans rfl
                have hcz25_2 : wc.cell? ⟨gb181, 2, none⟩ = some (.int .i64 a0_2) := (blk_cell BK181.out 2).trans rfl
                have hcz25_3 : wc.cell? ⟨gb181, 3, none⟩ = some (.int .i64 a0_3) := (blk_cell BK181.out 3).trans rfl
                have hcz25_4 : wc.cell? ⟨gb181, 4, none⟩ = some (.string a0_4) := (blk_cell BK181.out 4).trans rfl
                have hfz25_0 := blk_frozen BK181.out 0
                have hfz25_1 := blk_frozen BK181.out 1
                have hfz25_2 := blk_frozen BK181.out 2
                have hfz25_3 := blk_frozen BK181.out 3
                have hfz25_4 := blk_frozen BK181.out 4
                go_wp2_with (first | ((with_reducible refine gate_callee (f := 25) rfl ?_); refine goesL_ (some 23) rfl rfl Try.func25 (by kernel_rfl) rfl #[.agg #[.int .i64 a0_2, .int .i64 a0_3, .string a0_4]] rfl (by (try simp only [List.map_toArray, List.map_cons, List.map_nil]); first | done | rfl | (simp only [List.length_drop, List.length_take]; rfl)) ?_; (with_reducible refine (rosetteref04_Right.calls a0_2 a0_3 a0_4 true _ A10.out).mono ?_); rintro e w26 ⟨rfl, hb⟩; refine ⟨_, rfl, ?_⟩; have n0_ := Aside0.mk (blk_below (g := gb181) (o := .cells #[.string a0_0, .int .i64 a0_1, .int .i64 a0_2, .int .i64 a0_3, .string a0_4] 25 (0, 0)) (by (with_reducible repeat (first | refine blk_drewN ?_ _ | refine blk_drew ?_ | refine blk_alloc ?_ _)); exact BK181.out) hb); have n1_ := Aside0.mk (below_step (by repeat (first | (with_reducible first | exact HB.out | apply below_alloc | apply pw_below_drewN | apply below_drew1 | refine below_set ?_ GE181.out) | exact HB.out)) hb); clear BK181; clear HB; have BK181 := n0_; have HB := n1_; clear n0_ n1_; (try clear hb); (try clear hb2); (try clear hk); (try clear hi); have hcz27_0 : w26.cell? ⟨gb181, 0, none⟩ = some (.string a0_0) := (blk_cell BK181.out 0).trans rfl; have hcz27_1 : w26.cell? ⟨gb181, 1, none⟩ = some (.int .i64 a0_1) := (blk_cell BK181.out 1).trans rfl; have hcz27_2 : w26.cell? ⟨gb181, 2, none⟩ = some (.int .i64 a0_2) := (blk_cell BK181.out 2).trans rfl; have hcz27_3 : w26.cell? ⟨gb181, 3, none⟩ = some (.int .i64 a0_3) := (blk_cell BK181.out 3).trans rfl; have hcz27_4 : w26.cell? ⟨gb181, 4, none⟩ = some (.string a0_4) := (blk_cell BK181.out 4).trans rfl; have hfz27_0 := blk_frozen BK181.out 0; have hfz27_1 := blk_frozen BK181.out 1; have hfz27_2 := blk_frozen BK181.out 2; have hfz27_3 := blk_frozen BK181.out 3; have hfz27_4 := blk_frozen BK181.out 4))
                go_ret
                exact ⟨by first | rfl | (simp [errW_none, errW_some] <;> rfl) | (simp [*, errW_none, errW_some] <;> rfl), by repeat (first | (with_reducible first | exact HB.out | apply below_alloc | apply pw_below_drewN | apply below_drew1 | refine below_set ?_ GE181.out) | exact HB.out)⟩
            · rw [if_neg c12] at H
              have c12b0 : decide ((a0_4.size : Int) ≤ 32) = false := decide_eq_false c12
              have c12b1 : decide (a0_4.size ≤ 32) = false := decide_eq_false (by omega)
              clear c12
              obtain rfl := Option.some.inj H
              have hcz28_0 : wc.cell? ⟨gb181, 0, none⟩ = some (.string a0_0) := (blk_cell BK181.out 0).trans rfl
              have hcz28_1 : wc.cell? ⟨gb181, 1, none⟩ = some (.int .i64 a0_1) := (blk_cell BK181.out 1).trans rfl
              have hcz28_2 : wc.cell? ⟨gb181, 2, none⟩ = some (.int .i64 a0_2) := (blk_cell BK181.out 2).trans rfl
              have hcz28_3 : wc.cell? ⟨gb181, 3, none⟩ = some (.int .i64 a0_3) := (blk_cell BK181.out 3).trans rfl
              have hcz28_4 : wc.cell? ⟨gb181, 4, none⟩ = some (.string a0_4) := (blk_cell BK181.out 4).trans rfl
              have hfz28_0 := blk_frozen BK181.out 0
              have hfz28_1 := blk_frozen BK181.out 1
              have hfz28_2 := blk_frozen BK181.out 2
              have hfz28_3 := blk_frozen BK181.out 3
              have hfz28_4 := blk_frozen BK181.out 4
              go_wp2_with (first | ((with_reducible refine gate_callee (f := 25) rfl ?_); refine goesL_ (some 23) rfl rfl Try.func25 (by kernel_rfl) rfl #[.agg #[.int .i64 a0_2, .int .i64 a0_3, .string a0_4]] rfl (by (try simp only [List.map_toArray, List.map_cons, List.map_nil]); first | done | rfl | (simp only [List.length_drop, List.length_take]; rfl)) ?_; (with_reducible refine (rosetteref04_Right.calls a0_2 a0_3 a0_4 true _ A10.out).mono ?_); rintro e w29 ⟨rfl, hb⟩; refine ⟨_, rfl, ?_⟩; have n0_ := Aside0.mk (blk_below (g := gb181) (o := .cells #[.string a0_0, .int .i64 a0_1, .int .i64 a0_2, .int .i64 a0_3, .string a0_4] 25 (0, 0)) (by (with_reducible repeat (first | refine blk_drewN ?_ _ | refine blk_drew ?_ | refine blk_alloc ?_ _)); exact BK181.out) hb); have n1_ := Aside0.mk (below_step (by repeat (first | (with_reducible first | exact HB.out | apply below_alloc | apply pw_below_drewN | apply below_drew1 | refine below_set ?_ GE181.out) | exact HB.out)) hb); clear BK181; clear HB; have BK181 := n0_; have HB := n1_; clear n0_ n1_; (try clear hb); (try clear hb2); (try clear hk); (try clear hi); have hcz30_0 : w29.cell? ⟨gb181, 0, none⟩ = some (.string a0_0) := (blk_cell BK181.out 0).trans rfl; have hcz30_1 : w29.cell? ⟨gb181, 1, none⟩ = some (.int .i64 a0_1) := (blk_cell BK181.out 1).trans rfl; have hcz30_2 : w29.cell? ⟨gb181, 2, none⟩ = some (.int .i64 a0_2) := (blk_cell BK181.out 2).trans rfl; have hcz30_3 : w29.cell? ⟨gb181, 3, none⟩ = some (.int .i64 a0_3) := (blk_cell BK181.out 3).trans rfl; have hcz30_4 : w29.cell? ⟨gb181, 4, none⟩ = some (.string a0_4) := (blk_cell BK181.out 4).trans rfl; have hfz30_0 := blk_frozen BK181.out 0; have hfz30_1 := blk_frozen BK181.out 1; have hfz30_2 := blk_frozen BK181.out 2; have hfz30_3 := blk_frozen BK181.out 3; have hfz30_4 := blk_frozen BK181.out 4))
              go_ret
              exact ⟨by first | rfl | (simp [errW_none, errW_some] <;> rfl) | (simp [*, errW_none, errW_some] <;> rfl), by repeat (first | (with_reducible first | exact HB.out | apply below_alloc | apply pw_below_drewN | apply below_drew1 | refine below_set ?_ GE181.out) | exact HB.out)⟩
          · replace c11 := Bool.eq_false_iff.mpr c11
            subst c11
            have H1 : (some false) = some r := by rw [if_neg (show ¬ (false = true) by decide)] at H; exact H
            clear H
            have H := H1
            clear H1
            obtain rfl := Option.some.inj H
            have hcz31_0 : wc.cell? ⟨gb181, 0, none⟩ = some (.string a0_0) := (blk_cell BK181.out 0).trans rfl
            have hcz31_1 : wc.cell? ⟨gb181, 1, none⟩ = some (.int .i64 a0_1) := (blk_cell BK181.out 1).trans rfl
            have hcz31_2 : wc.cell? ⟨gb181, 2, none⟩ = some (.int .i64 a0_2) := (blk_cell BK181.out 2).trans rfl
            have hcz31_3 : wc.cell? ⟨gb181, 3, none⟩ = some (.int .i64 a0_3) := (blk_cell BK181.out 3).trans rfl
            have hcz31_4 : wc.cell? ⟨gb181, 4, none⟩ = some (.string a0_4) := (blk_cell BK181.out 4).trans rfl
            have hfz31_0 := blk_frozen BK181.out 0
            have hfz31_1 := blk_frozen BK181.out 1
            have hfz31_2 := blk_frozen BK181.out 2
            have hfz31_3 := blk_frozen BK181.out 3
            have hfz31_4 := blk_frozen BK181.out 4
            go_wp2_with (first | ((with_reducible refine gate_callee (f := 25) rfl ?_); refine goesL_ (some 23) rfl rfl Try.func25 (by kernel_rfl) rfl #[.agg #[.int .i64 a0_2, .int .i64 a0_3, .string a0_4]] rfl (by (try simp only [List.map_toArray, List.map_cons, List.map_nil]); first | done | rfl | (simp only [List.length_drop, List.length_take]; rfl)) ?_; (with_reducible refine (rosetteref04_Right.calls a0_2 a0_3 a0_4 false _ A10.out).mono ?_); rintro e w32 ⟨rfl, hb⟩; refine ⟨_, rfl, ?_⟩; have n0_ := Aside0.mk (blk_below (g := gb181) (o := .cells #[.string a0_0, .int .i64 a0_1, .int .i64 a0_2, .int .i64 a0_3, .string a0_4] 25 (0, 0)) (by (with_reducible repeat (first | refine blk_drewN ?_ _ | refine blk_drew ?_ | refine blk_alloc ?_ _)); exact BK181.out) hb); have n1_ := Aside0.mk (below_step (by repeat (first | (with_reducible first | exact HB.out | apply below_alloc | apply pw_below_drewN | apply below_drew1 | refine below_set ?_ GE181.out) | exact HB.out)) hb); clear BK181; clear HB; have BK181 := n0_; have HB := n1_; clear n0_ n1_; (try clear hb); (try clear hb2); (try clear hk); (try clear hi)))
            go_ret
            exact ⟨by first | rfl | (simp [errW_none, errW_some] <;> rfl) | (simp [*, errW_none, errW_some] <;> rfl), by repeat (first | (with_reducible first | exact HB.out | apply below_alloc | apply pw_below_drewN | apply below_drew1 | refine below_set ?_ GE181.out) | exact HB.out)⟩

end Go.Proofs.Ytojefdnngkcaoaa.G
end

section
-- Written by a program of this session (wip/tools/myprint.py), over the kit's print.
namespace Go.Proofs.Ytojefdnngkcaoaa.G
open Go.RowKit Go.Proofs.YtojefdnngkcaoaaW.PrintWords Go.Proofs.YtojefdnngkcaoaaW.PrintLast Go.Proofs.YtojefdnngkcaoaaW.PrintMore
attribute [local go_sem] max2_int min2_int max_two min_two max_three min_three max_four min_four   -- for this text's walks alone
set_option linter.unusedVariables false
set_option linter.unusedSimpArgs false

/-! ### rosetteref06_Put: function 17 -/
def rosetteref06_Put.f (k : Nat) (l0 : List Int) (a1_0 : ByteArray) (a1_1 : Int) (a1_2 : Int) (a1_3 : Int) (a1_4 : ByteArray) : Option (List Int) := (some (([] : List Int) : List Int)).bind fun y236 => (if y236.length + l0.length < 140737488355328 then ((some (y236 ++ l0 : List Int)).bind fun y239 => ((rosetteref06_Right.f k a1_0 a1_1 a1_2 a1_3 a1_4).bind fun t242 => (if t242 = true then ((rosetteref02_PutText.f y239 a1_0).bind fun t243 => ((some (([(a1_1) % 256] : List Int) : List Int)).bind fun y246 => (if t243.length + y246.length < 140737488355328 then ((rosetteref04_Put.f (t243 ++ y246) a1_2 a1_3 a1_4).bind fun t252 => (some t252)) else (none)))) else (some y239)))) else (none))
theorem rosetteref06_Put.mono : ∀ a0 a1 a2 a3 a4 a5 k, LeO (rosetteref06_Put.f k a0 a1 a2 a3 a4 a5) (rosetteref06_Put.f (k + 1) a0 a1 a2 a3 a4 a5) := by
  intro a0 a1 a2 a3 a4 a5 k
  unfold rosetteref06_Put.f
  repeat' first
      | (with_reducible exact rosetteref06_Right.mono _ _ _ _ _ _)
      | (with_reducible exact LeO.refl _)
      | (with_reducible exact LeO.none _)
      | (with_reducible refine LeO.ite ?_ ?_)
      | (with_reducible refine LeO.bind ?_ (fun _ => ?_))
      | exact rosetteref06_Right.mono _ _ _ _ _ _
      | exact LeO.none _
      | refine LeO.ite ?_ ?_
      | refine LeO.bind ?_ (fun _ => ?_)
def rosetteref06_Put.T4 : Bool × List (List Nat × List Nat) := (true, [([], []), ([], []), ([1], [1]), ([0, 2], [0, 2]), ([], []), ([4], [4]), ([5], [5]), ([6], [6]), ([3, 7, 3], [3, 7]), ([8, 8, 0, 1, 2, 3, 4, 5, 6, 7, 8], [0, 8])])
def rosetteref06_Put.B4 : List Nat := [0, 0, 2, 7, 0, 16, 48, 112, 255, 511]
theorem rosetteref06_Put.tab4 : rtab .any (opsOf Try.f17 4) = rosetteref06_Put.T4 := by kernel_rfl
theorem rosetteref06_Put.bits4 : waitsOk rosetteref06_Put.T4.2 rosetteref06_Put.B4 = true := by kernel_rfl
set_option maxHeartbeats 8000000 in
set_option maxRecDepth 100000 in
theorem rosetteref06_Put.calls (k : Nat) (A0 : Option Addr) (c0 : Nat) (l0 : List Int) (a1_0 : ByteArray) (a1_1 : Int) (a1_2 : Int) (a1_3 : Int) (a1_4 : ByteArray) (r : List Int) (w : World) (hr0 : Kd.C (Kd.int .u8) w A0 l0.length l0) (hc0 : l0.length ≤ c0) (h : rosetteref06_Put.f k l0 a1_0 a1_1 a1_2 a1_3 a1_4 = some r) :
    Calls Try.prog 17 #[.slice A0 l0.length c0, .agg #[.string a1_0, .int .i64 a1_1, .int .i64 a1_2, .int .i64 a1_3, .string a1_4]] w fun e w' => ∃ v0_ : Value, e = .returned (v0_) ∧ Kd.R (Kd.int .u8) 5 w' w.heap.size (fun _ => True) v0_ r ∧ Below w.heap.size w w' := by
  have hu25 := Try.underlying25
  have hu23 := Try.underlying23
  have HR0 := Aside0.mk hr0
  have HC0 := Aside0.mk hc0
  clear hr0 hc0
  have HB := Aside0.mk (Below.refl w.heap.size w)
  have H : ((some (([] : List Int) : List Int)).bind fun y236 => (if y236.length + l0.length < 140737488355328 then ((some (y236 ++ l0 : List Int)).bind fun y239 => ((rosetteref06_Right.f k a1_0 a1_1 a1_2 a1_3 a1_4).bind fun t242 => (if t242 = true then ((rosetteref02_PutText.f y239 a1_0).bind fun t243 => ((some (([(a1_1) % 256] : List Int) : List Int)).bind fun y246 => (if t243.length + y246.length < 140737488355328 then ((rosetteref04_Put.f (t243 ++ y246) a1_2 a1_3 a1_4).bind fun t252 => (some t252)) else (none)))) else (some y239)))) else (none))) = some r := h
  clear h
  obtain ⟨y236, hy236⟩ : ∃ y_ : List Int, y_ = (([] : List Int)) := ⟨_, rfl⟩
  replace H : (if y236.length + l0.length < 140737488355328 then ((some (y236 ++ l0 : List Int)).bind fun y239 => ((rosetteref06_Right.f k a1_0 a1_1 a1_2 a1_3 a1_4).bind fun t242 => (if t242 = true then ((rosetteref02_PutText.f y239 a1_0).bind fun t243 => ((some (([(a1_1) % 256] : List Int) : List Int)).bind fun y246 => (if t243.length + y246.length < 140737488355328 then ((rosetteref04_Put.f (t243 ++ y246) a1_2 a1_3 a1_4).bind fun t252 => (some t252)) else (none)))) else (some y239)))) else (none)) = some r := by first | (rw [hy236]; with_reducible exact H) | (have H2_ := (Option.bind_some _ _).symm.trans H; rw [hy236]; with_reducible exact H2_) | (have H2_ := (Option.bind_some _ _).symm.trans H; with_reducible exact H2_) | with_reducible exact H | (rw [hy236]; exact H) | exact H
  have Ny236 := Aside0.mk hy236
  clear hy236
  by_cases c3 : y236.length + l0.length < 140737488355328
  · rw [if_pos c3] at H
    have LMc3 := Aside0.mk c3
    clear c3
    obtain ⟨y239, hy239⟩ : ∃ y_ : List Int, y_ = (y236 ++ l0) := ⟨_, rfl⟩
    replace H : ((rosetteref06_Right.f k a1_0 a1_1 a1_2 a1_3 a1_4).bind fun t242 => (if t242 = true then ((rosetteref02_PutText.f y239 a1_0).bind fun t243 => ((some (([(a1_1) % 256] : List Int) : List Int)).bind fun y246 => (if t243.length + y246.length < 140737488355328 then ((rosetteref04_Put.f (t243 ++ y246) a1_2 a1_3 a1_4).bind fun t252 => (some t252)) else (none)))) else (some y239))) = some r := by first | (rw [hy239]; with_reducible exact H) | (have H2_ := (Option.bind_some _ _).symm.trans H; rw [hy239]; with_reducible exact H2_) | (have H2_ := (Option.bind_some _ _).symm.trans H; with_reducible exact H2_) | with_reducible exact H | (rw [hy239]; exact H) | exact H
    have Ny239 := Aside0.mk hy239
    clear hy239
    replace H := Option.bind_eq_some_iff.mp H
    obtain ⟨t242, A40, H⟩ := H
    replace H : (if t242 = true then ((rosetteref02_PutText.f y239 a1_0).bind fun t243 => ((some (([(a1_1) % 256] : List Int) : List Int)).bind fun y246 => (if t243.length + y246.length < 140737488355328 then ((rosetteref04_Put.f (t243 ++ y246) a1_2 a1_3 a1_4).bind fun t252 => (some t252)) else (none)))) else (some y239)) = some r := H
    have A4 := Aside0.mk A40
    clear A40
    by_cases c5 : t242 = true
    · subst c5
      have H1 : ((rosetteref02_PutText.f y239 a1_0).bind fun t243 => ((some (([(a1_1) % 256] : List Int) : List Int)).bind fun y246 => (if t243.length + y246.length < 140737488355328 then ((rosetteref04_Put.f (t243 ++ y246) a1_2 a1_3 a1_4).bind fun t252 => (some t252)) else (none)))) = some r := by rw [if_pos rfl] at H; exact H
      clear H
      have H := H1
      clear H1
      replace H := Option.bind_eq_some_iff.mp H
      obtain ⟨t243, A60, H⟩ := H
      replace H : ((some (([(a1_1) % 256] : List Int) : List Int)).bind fun y246 => (if t243.length + y246.length < 140737488355328 then ((rosetteref04_Put.f (t243 ++ y246) a1_2 a1_3 a1_4).bind fun t252 => (some t252)) else (none))) = some r := H
      have A6 := Aside0.mk A60
      clear A60
      obtain ⟨y246, hy246⟩ : ∃ y_ : List Int, y_ = (([(a1_1) % 256] : List Int)) := ⟨_, rfl⟩
      replace H : (if t243.length + y246.length < 140737488355328 then ((rosetteref04_Put.f (t243 ++ y246) a1_2 a1_3 a1_4).bind fun t252 => (some t252)) else (none)) = some r := by first | (rw [hy246]; with_reducible exact H) | (have H2_ := (Option.bind_some _ _).symm.trans H; rw [hy246]; with_reducible exact H2_) | (have H2_ := (Option.bind_some _ _).symm.trans H; with_reducible exact H2_) | with_reducible exact H | (rw [hy246]; exact H) | exact H
      have Ny246 := Aside0.mk hy246
      clear hy246
      by_cases c7 : t243.length + y246.length < 140737488355328
      · rw [if_pos c7] at H
        have LMc7 := Aside0.mk c7
        clear c7
        obtain ⟨y249, hy249⟩ : ∃ y_ : List Int, y_ = (t243 ++ y246) := ⟨_, rfl⟩
        replace H : ((rosetteref04_Put.f y249 a1_2 a1_3 a1_4).bind fun t252 => (some t252)) = some r := by first | (rw [hy249]; with_reducible exact H) | (have H2_ := (Option.bind_some _ _).symm.trans H; rw [hy249]; with_reducible exact H2_) | (have H2_ := (Option.bind_some _ _).symm.trans H; with_reducible exact H2_) | with_reducible exact H | (rw [hy249]; exact H) | exact H
        have Ny249 := Aside0.mk hy249
        clear hy249
        replace H := Option.bind_eq_some_iff.mp H
        obtain ⟨t252, A80, H⟩ := H
        replace H : (some t252) = some r := H
        have A8 := Aside0.mk A80
        clear A80
        obtain rfl := Option.some.inj H
        go_enter Try.func17, Try.ntmps17
        try go_wp2_with (first | ((with_reducible refine gate_dst (N := 3) rfl ?_); refine box_event ?hg (N := 3) ?hd (cs := #[.string a1_0, .int .i64 a1_1, .int .i64 a1_2, .int .i64 a1_3, .string a1_4]) (t := 25) ?hr ?_; (case hd => rfl); (case hg => rfl); (case hr => first | (go_simp; done) | (go_simp; rfl)); intro gb235 hg w9 hbox hb; have n0_ := Aside0.mk (below_step (by repeat (first | (with_reducible first | exact HB.out | apply below_alloc | apply pw_below_drewN | apply below_drew1) | exact HB.out)) hb); have n1_ := Aside0.mk (hbox); have n2_ := Aside0.mk ((by rw [hg]; exact (below_size (by repeat (first | (with_reducible first | exact HB.out | apply below_alloc | apply pw_below_drewN | apply below_drew1) | exact HB.out))) : w.heap.size ≤ gb235)); have n3_ := Aside0.mk ((by rw [hg]; exact (below_size (by repeat (first | (with_reducible first | exact HB.out | apply below_alloc | apply pw_below_drewN | apply below_drew1) | exact HB.out))) : w.heap.size ≤ gb235)); clear HB; have HB := n0_; have BK235 := n1_; have GW235 := n2_; have GE235 := n3_; clear n0_ n1_ n2_ n3_; clear hb hbox hg) | ((with_reducible refine gate_dst (N := 6) rfl ?_); refine Kd.R_lit (Kd.int .u8) _ 5 ?hg (N := 6) ?hd (xs := ([] : List Int)) (inner := []) (ok := fun _ => True) (okp := fun _ => True) ?hr ?hp (fun _ hk => hk) trivial (Below.refl _ _) (Nat.le_refl _) (by simp) ?_; (case hd => rfl); (case hg => rfl); (case hr => first | (go_simp; done) | (go_simp; rfl)); (case hp => exact (Reps.none _ _)); intro v237 w10 ho11 hb hg_ hnew_; clear hg_ hnew_; (first | rw [← Ny236.out] at ho11 | (simp only [Int.reduceToNat] at ho11; rw [← Ny236.out] at ho11)); have n0_ := Aside0.mk (Kd.R_lower ho11 (below_size (by repeat (first | (with_reducible first | exact HB.out | apply below_alloc | apply pw_below_drewN | apply below_drew1 | refine below_set ?_ GE235.out) | exact HB.out)))); have n1_ := Aside0.mk (blk_below (g := gb235) (o := .cells #[.string a1_0, .int .i64 a1_1, .int .i64 a1_2, .int .i64 a1_3, .string a1_4] 25 (0, 0)) (by (with_reducible repeat (first | refine blk_drewN ?_ _ | refine blk_drew ?_ | refine blk_alloc ?_ _)); exact BK235.out) hb); have n2_ := Aside0.mk (below_step (by repeat (first | (with_reducible first | exact HB.out | apply below_alloc | apply pw_below_drewN | apply below_drew1 | refine below_set ?_ GE235.out) | exact HB.out)) hb); clear BK235; clear HB; have HO238 := n0_; have BK235 := n1_; have HB := n2_; clear n0_ n1_ n2_; clear hb ho11) | ((with_reducible refine gate_builtin (b := .append) (xs := #[.tmp 6, .tmp 7]) rfl ?_); at_builtin; refine Kd.R_append_rows (Kd.int .u8) (w0 := w) w.heap.size rfl (.tmp 6) (.tmp 7) 27 5 (.int .u8 0) 1 rfl Try.underlying27 info5 rfl (by decide) (by decide) v237 y236 l0 _ _ _ (fun _ => True) (fun _ => False) rfl rfl ?aO ?aR (fun _ _ h => h) (fun _ h => h.elim) ?aF ?aB ?aS ?aL ?_; (case aR => repeat (first | exact (Kd.C_below HR0.out HB.out) | (with_reducible refine Kd.C_alloc ?_ _) | (with_reducible refine Kd.C_drewN ?_ _) | (with_reducible refine Kd.C_drew ?_))); (case aB => exact (by repeat (first | (with_reducible first | exact HB.out | apply below_alloc | apply pw_below_drewN | apply below_drew1 | refine below_set ?_ GE235.out) | exact HB.out))); (case aF => exact (fun _ _ => trivial)); (case aO => exact (by (with_reducible repeat (first | apply Kd.R_alloc | apply Kd.R_drewN | apply Kd.R_drew)); exact HO238.out)); (case aS => exact (below_size (by repeat (first | (with_reducible first | exact HB.out | apply below_alloc | apply pw_below_drewN | apply below_drew1 | refine below_set ?_ GE235.out) | exact HB.out)))); (case aL => have := LMc3.out; omega); intro v240 w12 ho hb hg hat; rw [← Ny239.out] at ho; have n0_ := Aside0.mk (blk_grown (g := gb235) (o := .cells #[.string a1_0, .int .i64 a1_1, .int .i64 a1_2, .int .i64 a1_3, .string a1_4] 25 (0, 0)) (by (with_reducible repeat (first | refine blk_drewN ?_ _ | refine blk_drew ?_ | refine blk_alloc ?_ _)); exact BK235.out) hg (Kd.R_ne HO238.out BK235.out (by decide))); have n1_ := Aside0.mk (hb); have n2_ := Aside0.mk (ho); clear BK235; clear HB; clear HO238; have BK235 := n0_; have HB := n1_; have HO241 := n2_; clear n0_ n1_ n2_; clear ho hb hg hat; have hcz13_0 : w12.cell? ⟨gb235, 0, none⟩ = some (.string a1_0) := (blk_cell BK235.out 0).trans rfl; have hcz13_1 : w12.cell? ⟨gb235, 1, none⟩ = some (.int .i64 a1_1) := (blk_cell BK235.out 1).trans rfl; have hcz13_2 : w12.cell? ⟨gb235, 2, none⟩ = some (.int .i64 a1_2) := (blk_cell BK235.out 2).trans rfl; have hcz13_3 : w12.cell? ⟨gb235, 3, none⟩ = some (.int .i64 a1_3) := (blk_cell BK235.out 3).trans rfl; have hcz13_4 : w12.cell? ⟨gb235, 4, none⟩ = some (.string a1_4) := (blk_cell BK235.out 4).trans rfl; have hfz13_0 := blk_frozen BK235.out 0; have hfz13_1 := blk_frozen BK235.out 1; have hfz13_2 := blk_frozen BK235.out 2; have hfz13_3 := blk_frozen BK235.out 3; have hfz13_4 := blk_frozen BK235.out 4) | ((with_reducible refine gate_callee (f := 11) rfl ?_); refine goesL_ (some 10) rfl rfl Try.func11 (by kernel_rfl) rfl #[.agg #[.string a1_0, .int .i64 a1_1, .int .i64 a1_2, .int .i64 a1_3, .string a1_4]] rfl (by (try simp only [List.map_toArray, List.map_cons, List.map_nil]); first | done | rfl | (simp only [List.length_drop, List.length_take]; rfl)) ?_; (with_reducible refine (rosetteref06_Right.calls k a1_0 a1_1 a1_2 a1_3 a1_4 true _ A4.out).mono ?_); rintro e w14 ⟨rfl, hb⟩; refine ⟨_, rfl, ?_⟩; have n0_ := Aside0.mk (Kd.R_below (by (with_reducible repeat (first | apply Kd.R_alloc | apply Kd.R_drewN | apply Kd.R_drew)); exact HO241.out) hb); have n1_ := Aside0.mk (blk_below (g := gb235) (o := .cells #[.string a1_0, .int .i64 a1_1, .int .i64 a1_2, .int .i64 a1_3, .string a1_4] 25 (0, 0)) (by (with_reducible repeat (first | refine blk_drewN ?_ _ | refine blk_drew ?_ | refine blk_alloc ?_ _)); exact BK235.out) hb); have n2_ := Aside0.mk (below_step (by repeat (first | (with_reducible first | exact HB.out | apply below_alloc | apply pw_below_drewN | apply below_drew1 | refine below_set ?_ GE235.out) | exact HB.out)) hb); clear HO241; clear BK235; clear HB; have HO241 := n0_; have BK235 := n1_; have HB := n2_; clear n0_ n1_ n2_; (try clear hb); (try clear hb2); (try clear hk); (try clear hi); obtain ⟨Ao15, co15, eo15⟩ := Kd.R_slice HO241.out; subst eo15))
        have n0_ := Aside0.mk (Kd.R_drew HO241.out)
        have n1_ := Aside0.mk (blk_drew BK235.out)
        have n2_ := Aside0.mk (below_drew1 HB.out)
        clear HO241
        clear BK235
        clear HB
        have HO241 := n0_
        have BK235 := n1_
        have HB := n2_
        clear n0_ n1_ n2_
        refine start_ (n := 10) (S := fun w' => w'.cell? ⟨gb235, 0, none⟩ = some (.string a1_0) ∧ w'.cell? ⟨gb235, 1, none⟩ = some (.int .i64 a1_1) ∧ w'.cell? ⟨gb235, 2, none⟩ = some (.int .i64 a1_2) ∧ w'.cell? ⟨gb235, 3, none⟩ = some (.int .i64 a1_3) ∧ w'.cell? ⟨gb235, 4, none⟩ = some (.string a1_4)) (ds := []) #[false, false, false, false, false, false, false, false, false, false] (by kernel_rfl) rfl rfl ⟨(blk_cell BK235.out 0).trans rfl, (blk_cell BK235.out 1).trans rfl, (blk_cell BK235.out 2).trans rfl, (blk_cell BK235.out 3).trans rfl, (blk_cell BK235.out 4).trans rfl⟩ (fun hHeld => ?_); refine with_tabW rosetteref06_Put.tab4 rosetteref06_Put.bits4 (fun HT_ HW_ => ?_)
        generalize w14.drew = w16 at HO241 BK235 HB hHeld ⊢
        refine pure_ (i := 0) (N := some 13) (v := ?_) (a' := ?_) #[true, false, false, false, false, false, false, false, false, false] rfl rfl (any_of HT_.out (by kernel_rfl)) (fun _ _ _ h => h) (Or.inl ⟨by rfl, ?_⟩) ?_ ?_
        rotate_left
        · intro w'
          go_simp
          with_reducible rfl
        rotate_left
        · simp only [Act.put, List.setIfInBounds_toArray, List.set_cons_zero, List.set_cons_succ, i64_w, i32_w]
          rfl
        refine pure_ (i := 1) (N := some 14) (v := ?_) (a' := ?_) #[true, true, false, false, false, false, false, false, false, false] rfl rfl (any_of HT_.out (by kernel_rfl)) (fun _ _ _ h => h) (Or.inl ⟨by rfl, ?_⟩) ?_ ?_
        rotate_left
        · intro w'
          go_simp
          with_reducible rfl
        rotate_left
        · simp only [Act.put, List.setIfInBounds_toArray, List.set_cons_zero, List.set_cons_succ, i64_w, i32_w]
          rfl
        refine pure_ (i := 4) (N := some 17) (v := ?_) (a' := ?_) #[true, true, false, false, true, false, false, false, false, false] rfl rfl (any_of HT_.out (by kernel_rfl)) (fun _ _ _ h => h) (Or.inl ⟨by rfl, ?_⟩) ?_ ?_
        rotate_left
        · intro w'
          go_simp
          with_reducible rfl
        rotate_left
        · simp only [Act.put, List.setIfInBounds_toArray, List.set_cons_zero, List.set_cons_succ, i64_w, i32_w]
          rfl
        refine take_ (i := 2) (N := some 15) (v := ?_) (a' := ?_) #[true, true, true, false, true, false, false, false, false, false] rfl rfl (take_ofW HT_.out HW_.out (by kernel_rfl)) (fun _ _ _ h => h) (Or.inl ⟨by rfl, ?_⟩) hHeld ?_ ?_
        rotate_left
        · rintro w' ⟨s0, s1, s2, s3, s4⟩
          go_simp
          with_reducible rfl
        rotate_left
        · simp only [Act.put, List.setIfInBounds_toArray, List.set_cons_zero, List.set_cons_succ, i64_w, i32_w]
          rfl
        refine take_ (i := 5) (N := some 18) (v := ?_) (a' := ?_) #[true, true, true, false, true, true, false, false, false, false] rfl rfl (take_ofW HT_.out HW_.out (by kernel_rfl)) (fun _ _ _ h => h) (Or.inl ⟨by rfl, ?_⟩) hHeld ?_ ?_
        rotate_left
        · rintro w' ⟨s0, s1, s2, s3, s4⟩
          go_simp
          with_reducible rfl
        rotate_left
        · simp only [Act.put, List.setIfInBounds_toArray, List.set_cons_zero, List.set_cons_succ, i64_w, i32_w]
          rfl
        refine pure_ (i := 6) (N := some 19) (v := ?_) (a' := ?_) #[true, true, true, false, true, true, true, false, false, false] rfl rfl (any_of HT_.out (by kernel_rfl)) (fun _ _ _ h => h) (Or.inl ⟨by rfl, ?_⟩) ?_ ?_
        rotate_left
        · intro w'
          go_simp
          with_reducible rfl
        rotate_left
        · simp only [Act.put, List.setIfInBounds_toArray, List.set_cons_zero, List.set_cons_succ, i64_w, i32_w]
          rfl
        refine join_ (σ := Value × Value) 2 #[true, true, true, true, true, true, true, true, false, false] (fun s_ => [(16, s_.1), (20, s_.2)]) (fun s_ w' => (w'.cell? ⟨gb235, 0, none⟩ = some (.string a1_0) ∧ w'.cell? ⟨gb235, 1, none⟩ = some (.int .i64 a1_1) ∧ w'.cell? ⟨gb235, 2, none⟩ = some (.int .i64 a1_2) ∧ w'.cell? ⟨gb235, 3, none⟩ = some (.int .i64 a1_3) ∧ w'.cell? ⟨gb235, 4, none⟩ = some (.string a1_4)) ∧ (Kd.R (Kd.int .u8) 5 w' w.heap.size (fun k_ => some k_ ≠ (s_.1 : Value).ownBlock ∧ some k_ ≠ (s_.2 : Value).ownBlock) (.slice Ao15 y239.length co15) y239) ∧ (Kd.R (Kd.int .u8) 5 w' w.heap.size (fun k_ => some k_ ≠ (.slice Ao15 y239.length co15 : Value).ownBlock ∧ some k_ ≠ (s_.2 : Value).ownBlock) s_.1 t243) ∧ (Kd.R (Kd.int .u8) 5 w' w.heap.size (fun k_ => some k_ ≠ (.slice Ao15 y239.length co15 : Value).ownBlock ∧ some k_ ≠ (s_.1 : Value).ownBlock) s_.2 y246) ∧ (w'.heap[gb235]? = some (.cells #[.string a1_0, .int .i64 a1_1, .int .i64 a1_2, .int .i64 a1_3, .string a1_4] 25 (0, 0))) ∧ (Below w.heap.size w w')) ?_ ?_
        rotate_left
        · intro hCont
          refine two_ (i := 3) (j := 7) (Ni := some 16) (Nj := some 20) #[true, true, true, true, true, true, true, false, false, false] #[true, true, true, false, true, true, true, true, false, false] rfl rfl rfl rfl (two_of HT_.out (by kernel_rfl)) (by decide) (by decide) (fun K hK => ?_) (fun K hK => ?_)
          · skip
            refine goes_ Try.func35 (by kernel_rfl) rfl #[.slice Ao15 y239.length co15, .string a1_0] (by rfl) rfl rfl (by (try simp only [List.map_toArray, List.map_cons, List.map_nil]); first | done | rfl | (simp only [List.length_drop, List.length_take]; rfl)) ?_
            with_reducible refine (rosetteref02_PutText.calls _ _ y239 a1_0 t243 _ ?side1 ?side2 A6.out).mono ?_
            (case side1 => repeat (first | exact (Kd.R_reads' HO241.out).2.2 | (with_reducible refine Kd.C_alloc ?_ _) | (with_reducible refine Kd.C_drewN ?_ _) | (with_reducible refine Kd.C_drew ?_)))
            (case side2 => exact (Kd.R_reads' HO241.out).2.1)
            rintro e w17 ⟨v244, rfl, ho0, hb⟩
            refine ⟨_, rfl, ?_⟩
            have n0_ := Aside0.mk (Kd.R_elder' (by (with_reducible repeat (first | apply Kd.R_alloc | apply Kd.R_drewN | apply Kd.R_drew)); exact HO241.out) (Kd.R_base ho0) hb)
            have n1_ := Aside0.mk (Kd.R_lower (Kd.R_new' ho0 (Kd.R_lt (by (with_reducible repeat (first | apply Kd.R_alloc | apply Kd.R_drewN | apply Kd.R_drew)); exact HO241.out))) (below_size (by repeat (first | (with_reducible first | exact HB.out | apply below_alloc | apply pw_below_drewN | apply below_drew1 | refine below_set ?_ GE235.out) | exact HB.out))))
            have n2_ := Aside0.mk (blk_below (g := gb235) (o := .cells #[.string a1_0, .int .i64 a1_1, .int .i64 a1_2, .int .i64 a1_3, .string a1_4] 25 (0, 0)) (by (with_reducible repeat (first | refine blk_drewN ?_ _ | refine blk_drew ?_ | refine blk_alloc ?_ _)); exact BK235.out) hb)
            have n3_ := Aside0.mk (below_step (by repeat (first | (with_reducible first | exact HB.out | apply below_alloc | apply pw_below_drewN | apply below_drew1 | refine below_set ?_ GE235.out) | exact HB.out)) hb)
            clear HO241
            clear BK235
            clear HB
            have HO241 := n0_
            have HO245 := n1_
            have BK235 := n2_
            have HB := n3_
            clear n0_ n1_ n2_ n3_
            (try clear hb)
            (try clear hb2)
            (try clear hk)
            (try clear hi)
            (try clear ho0)
            refine hK.out _ _ ⟨(blk_cell BK235.out 0).trans rfl, (blk_cell BK235.out 1).trans rfl, (blk_cell BK235.out 2).trans rfl, (blk_cell BK235.out 3).trans rfl, (blk_cell BK235.out 4).trans rfl⟩ (fun hHeld => ?_)
            clear hK K
            refine norm_ (a' := ?_) ?_ ?_
            rotate_left
            · show Act.put _ (some 16) _ = _
              simp only [Act.put, List.setIfInBounds_toArray, List.set_cons_zero, List.set_cons_succ, i64_w, i32_w]
              rfl
            refine one_ (i := 7) (N := some 20) #[true, true, true, true, true, true, true, true, false, false] rfl rfl (one_of HT_.out (by kernel_rfl)) (by decide) (fun K hK => ?_)
            refine Kd.R_lit_step (Kd.int .u8) _ 5 ?hg (N := 20) ?hd (xs := ([(a1_1) % 256] : List Int)) (inner := [.int .u8 ((a1_1) % 256)]) (ok := fun _ => True) (okp := fun _ => True) ?hr ?hp (fun _ hk => hk) trivial (Below.refl _ _) (Nat.le_refl _) (by simp) ?_; (case hd => rfl); (case hg => rfl); (case hr => first | (go_simp; done) | (go_simp; rfl)); (case hp => exact (Reps.one (show Kd.M (Kd.int .u8) _ _ _ ((a1_1) % 256) [.int .u8 ((a1_1) % 256)] from rfl) (Reps.none _ _)))
            intro v247 w18 ho19 hb hg_ hnew_
            clear hg_ hnew_
            (first | rw [← Ny246.out] at ho19 | (simp only [Int.reduceToNat] at ho19; rw [← Ny246.out] at ho19))
            have n0_ := Aside0.mk (Kd.R_elder' (by (with_reducible repeat (first | apply Kd.R_alloc | apply Kd.R_drewN | apply Kd.R_drew)); exact HO241.out) (Kd.R_base ho19) hb)
            have n1_ := Aside0.mk (Kd.R_elder' (by (with_reducible repeat (first | apply Kd.R_alloc | apply Kd.R_drewN | apply Kd.R_drew)); exact HO245.out) (Kd.R_base ho19) hb)
            have n2_ := Aside0.mk (Kd.R_lower (Kd.R_new' (Kd.R_new' ho19 (Kd.R_lt (by (with_reducible repeat (first | apply Kd.R_alloc | apply Kd.R_drewN | apply Kd.R_drew)); exact HO241.out))) (Kd.R_lt (by (with_reducible repeat (first | apply Kd.R_alloc | apply Kd.R_drewN | apply Kd.R_drew)); exact HO245.out))) (below_size (by repeat (first | (with_reducible first | exact HB.out | apply below_alloc | apply pw_below_drewN | apply below_drew1 | refine below_set ?_ GE235.out) | exact HB.out))))
            have n3_ := Aside0.mk (blk_below (g := gb235) (o := .cells #[.string a1_0, .int .i64 a1_1, .int .i64 a1_2, .int .i64 a1_3, .string a1_4] 25 (0, 0)) (by (with_reducible repeat (first | refine blk_drewN ?_ _ | refine blk_drew ?_ | refine blk_alloc ?_ _)); exact BK235.out) hb)
            have n4_ := Aside0.mk (below_step (by repeat (first | (with_reducible first | exact HB.out | apply below_alloc | apply pw_below_drewN | apply below_drew1 | refine below_set ?_ GE235.out) | exact HB.out)) hb)
            clear HO241
            clear HO245
            clear BK235
            clear HB
            have HO241 := n0_
            have HO245 := n1_
            have HO248 := n2_
            have BK235 := n3_
            have HB := n4_
            clear n0_ n1_ n2_ n3_ n4_
            clear hb ho19
            refine hK.out _ _ ⟨(blk_cell BK235.out 0).trans rfl, (blk_cell BK235.out 1).trans rfl, (blk_cell BK235.out 2).trans rfl, (blk_cell BK235.out 3).trans rfl, (blk_cell BK235.out 4).trans rfl⟩ (fun hHeld => ?_)
            clear hK K
            refine norm_ (a' := ?_) ?_ ?_
            rotate_left
            · show Act.put _ (some 20) _ = _
              simp only [Act.put, List.setIfInBounds_toArray, List.set_cons_zero, List.set_cons_succ, i64_w, i32_w]
              rfl
            exact norm_ (by simp only [putAll, Act.put, List.setIfInBounds_toArray, List.set_cons_zero, List.set_cons_succ]) (hCont (v244, v247) _ ⟨hHeld, (by (with_reducible repeat (first | apply Kd.R_alloc | apply Kd.R_drewN | apply Kd.R_drew)); exact Kd.R_mono HO241.out (fun _ hk => ⟨hk.1.2, hk.2⟩)), (by (with_reducible repeat (first | apply Kd.R_alloc | apply Kd.R_drewN | apply Kd.R_drew)); exact Kd.R_mono HO245.out (fun _ hk => ⟨hk.1.2, hk.2⟩)), (by (with_reducible repeat (first | apply Kd.R_alloc | apply Kd.R_drewN | apply Kd.R_drew)); exact Kd.R_mono HO248.out (fun _ hk => ⟨hk.1.2, hk.2⟩)), (by (with_reducible repeat (first | refine blk_drewN ?_ _ | refine blk_drew ?_ | refine blk_alloc ?_ _)); exact BK235.out), (by repeat (first | (with_reducible first | exact HB.out | apply below_alloc | apply pw_below_drewN | apply below_drew1 | refine below_set ?_ GE235.out) | exact HB.out))⟩)
          · skip
            refine Kd.R_lit_step (Kd.int .u8) _ 5 ?hg (N := 20) ?hd (xs := ([(a1_1) % 256] : List Int)) (inner := [.int .u8 ((a1_1) % 256)]) (ok := fun _ => True) (okp := fun _ => True) ?hr ?hp (fun _ hk => hk) trivial (Below.refl _ _) (Nat.le_refl _) (by simp) ?_; (case hd => rfl); (case hg => rfl); (case hr => first | (go_simp; done) | (go_simp; rfl)); (case hp => exact (Reps.one (show Kd.M (Kd.int .u8) _ _ _ ((a1_1) % 256) [.int .u8 ((a1_1) % 256)] from rfl) (Reps.none _ _)))
            intro v247 w17 ho18 hb hg_ hnew_
            clear hg_ hnew_
            (first | rw [← Ny246.out] at ho18 | (simp only [Int.reduceToNat] at ho18; rw [← Ny246.out] at ho18))
            have n0_ := Aside0.mk (Kd.R_elder' (by (with_reducible repeat (first | apply Kd.R_alloc | apply Kd.R_drewN | apply Kd.R_drew)); exact HO241.out) (Kd.R_base ho18) hb)
            have n1_ := Aside0.mk (Kd.R_lower (Kd.R_new' ho18 (Kd.R_lt (by (with_reducible repeat (first | apply Kd.R_alloc | apply Kd.R_drewN | apply Kd.R_drew)); exact HO241.out))) (below_size (by repeat (first | (with_reducible first | exact HB.out | apply below_alloc | apply pw_below_drewN | apply below_drew1 | refine below_set ?_ GE235.out) | exact HB.out))))
            have n2_ := Aside0.mk (blk_below (g := gb235) (o := .cells #[.string a1_0, .int .i64 a1_1, .int .i64 a1_2, .int .i64 a1_3, .string a1_4] 25 (0, 0)) (by (with_reducible repeat (first | refine blk_drewN ?_ _ | refine blk_drew ?_ | refine blk_alloc ?_ _)); exact BK235.out) hb)
            have n3_ := Aside0.mk (below_step (by repeat (first | (with_reducible first | exact HB.out | apply below_alloc | apply pw_below_drewN | apply below_drew1 | refine below_set ?_ GE235.out) | exact HB.out)) hb)
            clear HO241
            clear BK235
            clear HB
            have HO241 := n0_
            have HO248 := n1_
            have BK235 := n2_
            have HB := n3_
            clear n0_ n1_ n2_ n3_
            clear hb ho18
            refine hK.out _ _ ⟨(blk_cell BK235.out 0).trans rfl, (blk_cell BK235.out 1).trans rfl, (blk_cell BK235.out 2).trans rfl, (blk_cell BK235.out 3).trans rfl, (blk_cell BK235.out 4).trans rfl⟩ (fun hHeld => ?_)
            clear hK K
            refine norm_ (a' := ?_) ?_ ?_
            rotate_left
            · show Act.put _ (some 20) _ = _
              simp only [Act.put, List.setIfInBounds_toArray, List.set_cons_zero, List.set_cons_succ, i64_w, i32_w]
              rfl
            refine one_ (i := 3) (N := some 16) #[true, true, true, true, true, true, true, true, false, false] rfl rfl (one_of HT_.out (by kernel_rfl)) (by decide) (fun K hK => ?_)
            refine goes_ Try.func35 (by kernel_rfl) rfl #[.slice Ao15 y239.length co15, .string a1_0] (by rfl) rfl rfl (by (try simp only [List.map_toArray, List.map_cons, List.map_nil]); first | done | rfl | (simp only [List.length_drop, List.length_take]; rfl)) ?_
            with_reducible refine (rosetteref02_PutText.calls _ _ y239 a1_0 t243 _ ?side1 ?side2 A6.out).mono ?_
            (case side1 => repeat (first | exact (Kd.R_reads' HO241.out).2.2 | (with_reducible refine Kd.C_alloc ?_ _) | (with_reducible refine Kd.C_drewN ?_ _) | (with_reducible refine Kd.C_drew ?_)))
            (case side2 => exact (Kd.R_reads' HO241.out).2.1)
            rintro e w19 ⟨v244, rfl, ho0, hb⟩
            refine ⟨_, rfl, ?_⟩
            have n0_ := Aside0.mk (Kd.R_elder' (by (with_reducible repeat (first | apply Kd.R_alloc | apply Kd.R_drewN | apply Kd.R_drew)); exact HO241.out) (Kd.R_base ho0) hb)
            have n1_ := Aside0.mk (Kd.R_elder' (by (with_reducible repeat (first | apply Kd.R_alloc | apply Kd.R_drewN | apply Kd.R_drew)); exact HO248.out) (Kd.R_base ho0) hb)
            have n2_ := Aside0.mk (Kd.R_lower (Kd.R_new' (Kd.R_new' ho0 (Kd.R_lt (by (with_reducible repeat (first | apply Kd.R_alloc | apply Kd.R_drewN | apply Kd.R_drew)); exact HO241.out))) (Kd.R_lt (by (with_reducible repeat (first | apply Kd.R_alloc | apply Kd.R_drewN | apply Kd.R_drew)); exact HO248.out))) (below_size (by repeat (first | (with_reducible first | exact HB.out | apply below_alloc | apply pw_below_drewN | apply below_drew1 | refine below_set ?_ GE235.out) | exact HB.out))))
            have n3_ := Aside0.mk (blk_below (g := gb235) (o := .cells #[.string a1_0, .int .i64 a1_1, .int .i64 a1_2, .int .i64 a1_3, .string a1_4] 25 (0, 0)) (by (with_reducible repeat (first | refine blk_drewN ?_ _ | refine blk_drew ?_ | refine blk_alloc ?_ _)); exact BK235.out) hb)
            have n4_ := Aside0.mk (below_step (by repeat (first | (with_reducible first | exact HB.out | apply below_alloc | apply pw_below_drewN | apply below_drew1 | refine below_set ?_ GE235.out) | exact HB.out)) hb)
            clear HO241
            clear HO248
            clear BK235
            clear HB
            have HO241 := n0_
            have HO248 := n1_
            have HO245 := n2_
            have BK235 := n3_
            have HB := n4_
            clear n0_ n1_ n2_ n3_ n4_
            (try clear hb)
            (try clear hb2)
            (try clear hk)
            (try clear hi)
            (try clear ho0)
            refine hK.out _ _ ⟨(blk_cell BK235.out 0).trans rfl, (blk_cell BK235.out 1).trans rfl, (blk_cell BK235.out 2).trans rfl, (blk_cell BK235.out 3).trans rfl, (blk_cell BK235.out 4).trans rfl⟩ (fun hHeld => ?_)
            clear hK K
            refine norm_ (a' := ?_) ?_ ?_
            rotate_left
            · show Act.put _ (some 16) _ = _
              simp only [Act.put, List.setIfInBounds_toArray, List.set_cons_zero, List.set_cons_succ, i64_w, i32_w]
              rfl
            exact norm_ (by simp only [putAll, Act.put, List.setIfInBounds_toArray, List.set_cons_zero, List.set_cons_succ]) (hCont (v244, v247) _ ⟨hHeld, (by (with_reducible repeat (first | apply Kd.R_alloc | apply Kd.R_drewN | apply Kd.R_drew)); exact Kd.R_mono HO241.out (fun _ hk => ⟨hk.2, hk.1.2⟩)), (by (with_reducible repeat (first | apply Kd.R_alloc | apply Kd.R_drewN | apply Kd.R_drew)); exact Kd.R_mono HO245.out (fun _ hk => ⟨hk.1.2, hk.2⟩)), (by (with_reducible repeat (first | apply Kd.R_alloc | apply Kd.R_drewN | apply Kd.R_drew)); exact Kd.R_mono HO248.out (fun _ hk => ⟨hk.1.2, hk.2⟩)), (by (with_reducible repeat (first | refine blk_drewN ?_ _ | refine blk_drew ?_ | refine blk_alloc ?_ _)); exact BK235.out), (by repeat (first | (with_reducible first | exact HB.out | apply below_alloc | apply pw_below_drewN | apply below_drew1 | refine below_set ?_ GE235.out) | exact HB.out))⟩)
        rintro ⟨v244, v247⟩ w20 ⟨hS_, h0_, h1_, h2_, h3_, h4_⟩
        have n0_ : Aside0 (Kd.R (Kd.int .u8) 5 w20 w.heap.size (fun k_ => some k_ ≠ (v244 : Value).ownBlock ∧ some k_ ≠ (v247 : Value).ownBlock) (.slice Ao15 y239.length co15) y239) := ⟨h0_⟩
        have n1_ : Aside0 (Kd.R (Kd.int .u8) 5 w20 w.heap.size (fun k_ => some k_ ≠ (.slice Ao15 y239.length co15 : Value).ownBlock ∧ some k_ ≠ (v247 : Value).ownBlock) v244 t243) := ⟨h1_⟩
        have n2_ : Aside0 (Kd.R (Kd.int .u8) 5 w20 w.heap.size (fun k_ => some k_ ≠ (.slice Ao15 y239.length co15 : Value).ownBlock ∧ some k_ ≠ (v244 : Value).ownBlock) v247 y246) := ⟨h2_⟩
        have n3_ : Aside0 (w20.heap[gb235]? = some (.cells #[.string a1_0, .int .i64 a1_1, .int .i64 a1_2, .int .i64 a1_3, .string a1_4] 25 (0, 0))) := ⟨h3_⟩
        have n4_ : Aside0 (Below w.heap.size w w20) := ⟨h4_⟩
        clear HO241
        clear BK235
        clear HB
        clear h0_ h1_ h2_ h3_ h4_
        have HO241 := n0_
        have HO245 := n1_
        have HO248 := n2_
        have BK235 := n3_
        have HB := n4_
        clear n0_ n1_ n2_ n3_ n4_
        have hHeld : w20.cell? ⟨gb235, 0, none⟩ = some (.string a1_0) ∧ w20.cell? ⟨gb235, 1, none⟩ = some (.int .i64 a1_1) ∧ w20.cell? ⟨gb235, 2, none⟩ = some (.int .i64 a1_2) ∧ w20.cell? ⟨gb235, 3, none⟩ = some (.int .i64 a1_3) ∧ w20.cell? ⟨gb235, 4, none⟩ = some (.string a1_4) := hS_
        obtain ⟨Ao22, co22, eo22⟩ := Kd.R_slice HO248.out
        (first | subst eo22 | (injection eo22 with f1_ f2_ f3_; have f4_ := f1_.symm; have f5_ := f3_.symm; clear f1_ f2_ f3_; subst f4_; subst f5_))
        refine norm_ (a' := ?_) ?_ ?_
        rotate_left
        · simp only [putAll, Act.put, List.setIfInBounds_toArray, List.set_cons_zero, List.set_cons_succ]
          rfl
        refine one_ (i := 8) (N := some 21) #[true, true, true, true, true, true, true, true, true, false] rfl rfl (one_of HT_.out (by kernel_rfl)) (by decide) (fun K hK => ?_)
        refine Kd.R_append_rows_step (Kd.int .u8) (w0 := w) w.heap.size (by rfl) (.tmp 16) (.tmp 20) 27 5 (.int .u8 0) 1 rfl Try.underlying27 info5 rfl (by decide) (by decide) v244 t243 y246 _ _ _ (fun k_ => some k_ ≠ (.slice Ao15 y239.length co15 : Value).ownBlock ∧ some k_ ≠ (.slice Ao22 y246.length co22 : Value).ownBlock) (fun _ => False) rfl rfl ?aO ?aR (fun _ _ h => h) (fun _ h => h.elim) ?aF ?aB ?aS ?aL ?_
        (case aR => repeat (first | exact (Kd.R_reads' HO248.out).2.2 | (with_reducible refine Kd.C_alloc ?_ _) | (with_reducible refine Kd.C_drewN ?_ _) | (with_reducible refine Kd.C_drew ?_)))
        (case aB => exact (by repeat (first | (with_reducible first | exact HB.out | apply below_alloc | apply pw_below_drewN | apply below_drew1 | refine below_set ?_ GE235.out) | exact HB.out)))
        (case aF => exact (fun k_ hk => ⟨Kd.fresh' (Kd.R_lt (by (with_reducible repeat (first | apply Kd.R_alloc | apply Kd.R_drewN | apply Kd.R_drew)); exact HO241.out)) k_ hk, Kd.fresh' (Kd.R_lt (by (with_reducible repeat (first | apply Kd.R_alloc | apply Kd.R_drewN | apply Kd.R_drew)); exact HO248.out)) k_ hk⟩))
        (case aO => exact (by (with_reducible repeat (first | apply Kd.R_alloc | apply Kd.R_drewN | apply Kd.R_drew)); exact HO245.out))
        (case aS => exact (below_size (by repeat (first | (with_reducible first | exact HB.out | apply below_alloc | apply pw_below_drewN | apply below_drew1 | refine below_set ?_ GE235.out) | exact HB.out))))
        (case aL => have := LMc7.out; omega)
        intro v250 w21 ho hb hg hat
        rw [← Ny249.out] at ho
        have n0_ := Aside0.mk (blk_grown (g := gb235) (o := .cells #[.string a1_0, .int .i64 a1_1, .int .i64 a1_2, .int .i64 a1_3, .string a1_4] 25 (0, 0)) (by (with_reducible repeat (first | refine blk_drewN ?_ _ | refine blk_drew ?_ | refine blk_alloc ?_ _)); exact BK235.out) hg (Kd.R_ne HO245.out BK235.out (by decide)))
        have n1_ := Aside0.mk (Kd.R_after (ok := (fun k_ => some k_ ≠ (.slice Ao22 y246.length co22 : Value).ownBlock)) (by (with_reducible repeat (first | apply Kd.R_alloc | apply Kd.R_drewN | apply Kd.R_drew)); exact Kd.R_mono HO241.out (fun _ hk => ⟨hk.2, hk.1⟩)) hg hat)
        have n2_ := Aside0.mk (Kd.R_after (ok := (fun k_ => some k_ ≠ (.slice Ao15 y239.length co15 : Value).ownBlock)) (by (with_reducible repeat (first | apply Kd.R_alloc | apply Kd.R_drewN | apply Kd.R_drew)); exact HO248.out) hg hat)
        have n3_ := Aside0.mk (hb)
        have n4_ := Aside0.mk (ho)
        clear BK235
        clear HO241
        clear HO248
        clear HB
        clear HO245
        have BK235 := n0_
        have HO241 := n1_
        have HO248 := n2_
        have HB := n3_
        have HO251 := n4_
        clear n0_ n1_ n2_ n3_ n4_
        clear ho hb hg hat
        refine hK.out _ _ ⟨(blk_cell BK235.out 0).trans rfl, (blk_cell BK235.out 1).trans rfl, (blk_cell BK235.out 2).trans rfl, (blk_cell BK235.out 3).trans rfl, (blk_cell BK235.out 4).trans rfl⟩ (fun hHeld => ?_)
        clear hK K
        refine norm_ (a' := ?_) ?_ ?_
        rotate_left
        · show Act.put _ (some 21) _ = _
          simp only [Act.put, List.setIfInBounds_toArray, List.set_cons_zero, List.set_cons_succ, i64_w, i32_w]
          rfl
        refine pure_ (i := 9) (N := some 5) (v := ?_) (a' := ?_) #[true, true, true, true, true, true, true, true, true, true] rfl rfl (any_of HT_.out (by kernel_rfl)) (fun _ _ _ h => h) (Or.inl ⟨by rfl, ?_⟩) ?_ ?_
        rotate_left
        · intro w'
          go_simp
          with_reducible rfl
        rotate_left
        · simp only [Act.put, List.setIfInBounds_toArray, List.set_cons_zero, List.set_cons_succ, i64_w, i32_w]
          rfl
        refine done_ (done_of HT_.out (by kernel_rfl)) ?_
        have hcz23_0 : w21.cell? ⟨gb235, 0, none⟩ = some (.string a1_0) := (blk_cell BK235.out 0).trans rfl
        have hcz23_1 : w21.cell? ⟨gb235, 1, none⟩ = some (.int .i64 a1_1) := (blk_cell BK235.out 1).trans rfl
        have hcz23_2 : w21.cell? ⟨gb235, 2, none⟩ = some (.int .i64 a1_2) := (blk_cell BK235.out 2).trans rfl
        have hcz23_3 : w21.cell? ⟨gb235, 3, none⟩ = some (.int .i64 a1_3) := (blk_cell BK235.out 3).trans rfl
        have hcz23_4 : w21.cell? ⟨gb235, 4, none⟩ = some (.string a1_4) := (blk_cell BK235.out 4).trans rfl
        have hfz23_0 := blk_frozen BK235.out 0
        have hfz23_1 := blk_frozen BK235.out 1
        have hfz23_2 := blk_frozen BK235.out 2
        have hfz23_3 := blk_frozen BK235.out 3
        have hfz23_4 := blk_frozen BK235.out 4
        obtain ⟨Ao24, co24, eo24⟩ := Kd.R_slice HO251.out
        subst eo24
        try go_wp2_with (first | ((with_reducible refine gate_callee (f := 36) rfl ?_); refine goesL_ (some 25) rfl rfl Try.func36 (by kernel_rfl) rfl #[.slice Ao24 y249.length co24, .agg #[.int .i64 a1_2, .int .i64 a1_3, .string a1_4]] rfl (by (try simp only [List.map_toArray, List.map_cons, List.map_nil]); first | done | rfl | (simp only [List.length_drop, List.length_take]; rfl)) ?_; (with_reducible refine (rosetteref04_Put.calls _ _ y249 a1_2 a1_3 a1_4 t252 _ ?side1 ?side2 A8.out).mono ?_); (case side1 => repeat (first | exact (Kd.R_reads' HO251.out).2.2 | (with_reducible refine Kd.C_alloc ?_ _) | (with_reducible refine Kd.C_drewN ?_ _) | (with_reducible refine Kd.C_drew ?_))); (case side2 => exact (Kd.R_reads' HO251.out).2.1); rintro e w25 ⟨v253, rfl, ho0, hb⟩; refine ⟨_, rfl, ?_⟩; have n0_ := Aside0.mk (Kd.R_elder' (by (with_reducible repeat (first | apply Kd.R_alloc | apply Kd.R_drewN | apply Kd.R_drew)); exact HO241.out) (Kd.R_base ho0) hb); have n1_ := Aside0.mk (Kd.R_elder' (by (with_reducible repeat (first | apply Kd.R_alloc | apply Kd.R_drewN | apply Kd.R_drew)); exact HO248.out) (Kd.R_base ho0) hb); have n2_ := Aside0.mk (Kd.R_elder' (by (with_reducible repeat (first | apply Kd.R_alloc | apply Kd.R_drewN | apply Kd.R_drew)); exact HO251.out) (Kd.R_base ho0) hb); have n3_ := Aside0.mk (Kd.R_lower (Kd.R_new' (Kd.R_new' (Kd.R_new' ho0 (Kd.R_lt (by (with_reducible repeat (first | apply Kd.R_alloc | apply Kd.R_drewN | apply Kd.R_drew)); exact HO241.out))) (Kd.R_lt (by (with_reducible repeat (first | apply Kd.R_alloc | apply Kd.R_drewN | apply Kd.R_drew)); exact HO248.out))) (Kd.R_lt (by (with_reducible repeat (first | apply Kd.R_alloc | apply Kd.R_drewN | apply Kd.R_drew)); exact HO251.out))) (below_size (by repeat (first | (with_reducible first | exact HB.out | apply below_alloc | apply pw_below_drewN | apply below_drew1 | refine below_set ?_ GE235.out) | exact HB.out)))); have n4_ := Aside0.mk (blk_below (g := gb235) (o := .cells #[.string a1_0, .int .i64 a1_1, .int .i64 a1_2, .int .i64 a1_3, .string a1_4] 25 (0, 0)) (by (with_reducible repeat (first | refine blk_drewN ?_ _ | refine blk_drew ?_ | refine blk_alloc ?_ _)); exact BK235.out) hb); have n5_ := Aside0.mk (below_step (by repeat (first | (with_reducible first | exact HB.out | apply below_alloc | apply pw_below_drewN | apply below_drew1 | refine below_set ?_ GE235.out) | exact HB.out)) hb); clear HO241; clear HO248; clear HO251; clear BK235; clear HB; have HO241 := n0_; have HO248 := n1_; have HO251 := n2_; have HO254 := n3_; have BK235 := n4_; have HB := n5_; clear n0_ n1_ n2_ n3_ n4_ n5_; (try clear hb); (try clear hb2); (try clear hk); (try clear hi); (try clear ho0)))
        go_ret
        exact ⟨_, by first | rfl | (simp [errW_none, errW_some] <;> rfl) | (simp [*, errW_none, errW_some] <;> rfl), by (with_reducible repeat (first | apply Kd.R_alloc | apply Kd.R_drewN | apply Kd.R_drew)); exact Kd.R_mono HO254.out (fun _ hk => trivial), by repeat (first | (with_reducible first | exact HB.out | apply below_alloc | apply pw_below_drewN | apply below_drew1 | refine below_set ?_ GE235.out) | exact HB.out)⟩
      · rw [if_neg c7] at H
        exact absurd H (by simp)
    · replace c5 := Bool.eq_false_iff.mpr c5
      subst c5
      have H1 : (some y239) = some r := by rw [if_neg (show ¬ (false = true) by decide)] at H; exact H
      clear H
      have H := H1
      clear H1
      obtain rfl := Option.some.inj H
      go_enter Try.func17, Try.ntmps17
      go_wp2_with (first | ((with_reducible refine gate_dst (N := 3) rfl ?_); refine box_event ?hg (N := 3) ?hd (cs := #[.string a1_0, .int .i64 a1_1, .int .i64 a1_2, .int .i64 a1_3, .string a1_4]) (t := 25) ?hr ?_; (case hd => rfl); (case hg => rfl); (case hr => first | (go_simp; done) | (go_simp; rfl)); intro gb235 hg w26 hbox hb; have n0_ := Aside0.mk (below_step (by repeat (first | (with_reducible first | exact HB.out | apply below_alloc | apply pw_below_drewN | apply below_drew1) | exact HB.out)) hb); have n1_ := Aside0.mk (hbox); have n2_ := Aside0.mk ((by rw [hg]; exact (below_size (by repeat (first | (with_reducible first | exact HB.out | apply below_alloc | apply pw_below_drewN | apply below_drew1) | exact HB.out))) : w.heap.size ≤ gb235)); have n3_ := Aside0.mk ((by rw [hg]; exact (below_size (by repeat (first | (with_reducible first | exact HB.out | apply below_alloc | apply pw_below_drewN | apply below_drew1) | exact HB.out))) : w.heap.size ≤ gb235)); clear HB; have HB := n0_; have BK235 := n1_; have GW235 := n2_; have GE235 := n3_; clear n0_ n1_ n2_ n3_; clear hb hbox hg) | ((with_reducible refine gate_dst (N := 6) rfl ?_); refine Kd.R_lit (Kd.int .u8) _ 5 ?hg (N := 6) ?hd (xs := ([] : List Int)) (inner := []) (ok := fun _ => True) (okp := fun _ => True) ?hr ?hp (fun _ hk => hk) trivial (Below.refl _ _) (Nat.le_refl _) (by simp) ?_; (case hd => rfl); (case hg => rfl); (case hr => first | (go_simp; done) | (go_simp; rfl)); (case hp => exact (Reps.none _ _)); intro v237 w27 ho28 hb hg_ hnew_; clear hg_ hnew_; (first | rw [← Ny236.out] at ho28 | (simp only [Int.reduceToNat] at ho28; rw [← Ny236.out] at ho28)); have n0_ := Aside0.mk (Kd.R_lower ho28 (below_size (by repeat (first | (with_reducible first | exact HB.out | apply below_alloc | apply pw_below_drewN | apply below_drew1 | refine below_set ?_ GE235.out) | exact HB.out)))); have n1_ := Aside0.mk (blk_below (g := gb235) (o := .cells #[.string a1_0, .int .i64 a1_1, .int .i64 a1_2, .int .i64 a1_3, .string a1_4] 25 (0, 0)) (by (with_reducible repeat (first | refine blk_drewN ?_ _ | refine blk_drew ?_ | refine blk_alloc ?_ _)); exact BK235.out) hb); have n2_ := Aside0.mk (below_step (by repeat (first | (with_reducible first | exact HB.out | apply below_alloc | apply pw_below_drewN | apply below_drew1 | refine below_set ?_ GE235.out) | exact HB.out)) hb); clear BK235; clear HB; have HO238 := n0_; have BK235 := n1_; have HB := n2_; clear n0_ n1_ n2_; clear hb ho28) | ((with_reducible refine gate_builtin (b := .append) (xs := #[.tmp 6, .tmp 7]) rfl ?_); at_builtin; refine Kd.R_append_rows (Kd.int .u8) (w0 := w) w.heap.size rfl (.tmp 6) (.tmp 7) 27 5 (.int .u8 0) 1 rfl Try.underlying27 info5 rfl (by decide) (by decide) v237 y236 l0 _ _ _ (fun _ => True) (fun _ => False) rfl rfl ?aO ?aR (fun _ _ h => h) (fun _ h => h.elim) ?aF ?aB ?aS ?aL ?_; (case aR => repeat (first | exact (Kd.C_below HR0.out HB.out) | (with_reducible refine Kd.C_alloc ?_ _) | (with_reducible refine Kd.C_drewN ?_ _) | (with_reducible refine Kd.C_drew ?_))); (case aB => exact (by repeat (first | (with_reducible first | exact HB.out | apply below_alloc | apply pw_below_drewN | apply below_drew1 | refine below_set ?_ GE235.out) | exact HB.out))); (case aF => exact (fun _ _ => trivial)); (case aO => exact (by (with_reducible repeat (first | apply Kd.R_alloc | apply Kd.R_drewN | apply Kd.R_drew)); exact HO238.out)); (case aS => exact (below_size (by repeat (first | (with_reducible first | exact HB.out | apply below_alloc | apply pw_below_drewN | apply below_drew1 | refine below_set ?_ GE235.out) | exact HB.out)))); (case aL => have := LMc3.out; omega); intro v240 w29 ho hb hg hat; rw [← Ny239.out] at ho; have n0_ := Aside0.mk (blk_grown (g := gb235) (o := .cells #[.string a1_0, .int .i64 a1_1, .int .i64 a1_2, .int .i64 a1_3, .string a1_4] 25 (0, 0)) (by (with_reducible repeat (first | refine blk_drewN ?_ _ | refine blk_drew ?_ | refine blk_alloc ?_ _)); exact BK235.out) hg (Kd.R_ne HO238.out BK235.out (by decide))); have n1_ := Aside0.mk (hb); have n2_ := Aside0.mk (ho); clear BK235; clear HB; clear HO238; have BK235 := n0_; have HB := n1_; have HO241 := n2_; clear n0_ n1_ n2_; clear ho hb hg hat; have hcz30_0 : w29.cell? ⟨gb235, 0, none⟩ = some (.string a1_0) := (blk_cell BK235.out 0).trans rfl; have hcz30_1 : w29.cell? ⟨gb235, 1, none⟩ = some (.int .i64 a1_1) := (blk_cell BK235.out 1).trans rfl; have hcz30_2 : w29.cell? ⟨gb235, 2, none⟩ = some (.int .i64 a1_2) := (blk_cell BK235.out 2).trans rfl; have hcz30_3 : w29.cell? ⟨gb235, 3, none⟩ = some (.int .i64 a1_3) := (blk_cell BK235.out 3).trans rfl; have hcz30_4 : w29.cell? ⟨gb235, 4, none⟩ = some (.string a1_4) := (blk_cell BK235.out 4).trans rfl; have hfz30_0 := blk_frozen BK235.out 0; have hfz30_1 := blk_frozen BK235.out 1; have hfz30_2 := blk_frozen BK235.out 2; have hfz30_3 := blk_frozen BK235.out 3; have hfz30_4 := blk_frozen BK235.out 4) | ((with_reducible refine gate_callee (f := 11) rfl ?_); refine goesL_ (some 10) rfl rfl Try.func11 (by kernel_rfl) rfl #[.agg #[.string a1_0, .int .i64 a1_1, .int .i64 a1_2, .int .i64 a1_3, .string a1_4]] rfl (by (try simp only [List.map_toArray, List.map_cons, List.map_nil]); first | done | rfl | (simp only [List.length_drop, List.length_take]; rfl)) ?_; (with_reducible refine (rosetteref06_Right.calls k a1_0 a1_1 a1_2 a1_3 a1_4 false _ A4.out).mono ?_); rintro e w31 ⟨rfl, hb⟩; refine ⟨_, rfl, ?_⟩; have n0_ := Aside0.mk (Kd.R_below (by (with_reducible repeat (first | apply Kd.R_alloc | apply Kd.R_drewN | apply Kd.R_drew)); exact HO241.out) hb); have n1_ := Aside0.mk (blk_below (g := gb235) (o := .cells #[.string a1_0, .int .i64 a1_1, .int .i64 a1_2, .int .i64 a1_3, .string a1_4] 25 (0, 0)) (by (with_reducible repeat (first | refine blk_drewN ?_ _ | refine blk_drew ?_ | refine blk_alloc ?_ _)); exact BK235.out) hb); have n2_ := Aside0.mk (below_step (by repeat (first | (with_reducible first | exact HB.out | apply below_alloc | apply pw_below_drewN | apply below_drew1 | refine below_set ?_ GE235.out) | exact HB.out)) hb); clear HO241; clear BK235; clear HB; have HO241 := n0_; have BK235 := n1_; have HB := n2_; clear n0_ n1_ n2_; (try clear hb); (try clear hb2); (try clear hk); (try clear hi)))
      go_ret
      exact ⟨_, by first | rfl | (simp [errW_none, errW_some] <;> rfl) | (simp [*, errW_none, errW_some] <;> rfl), by (with_reducible repeat (first | apply Kd.R_alloc | apply Kd.R_drewN | apply Kd.R_drew)); exact HO241.out, by repeat (first | (with_reducible first | exact HB.out | apply below_alloc | apply pw_below_drewN | apply below_drew1 | refine below_set ?_ GE235.out) | exact HB.out)⟩
  · rw [if_neg c3] at H
    exact absurd H (by simp)

end Go.Proofs.Ytojefdnngkcaoaa.G
end
