import Derived.Test.YtbcnknmgljdmlaaZIndexMeets0
import Derived.Lib.Strings
import Derived.Lib.Slices
import Derived.Lib.Walk
import Derived.Lib.Bytealg
import Derived.Deep.RegionHeld
section
-- Written by a program of this session (wip/tools/myprint.py), over the kit's print.
namespace Go.Proofs.Ytbcnknmgljdmlaa.G
open Go.RowKit Go.Proofs.YtbcnknmgljdmlaaW.PrintWords Go.Proofs.YtbcnknmgljdmlaaW.PrintLast Go.Proofs.YtbcnknmgljdmlaaW.PrintMore
attribute [local go_sem] max2_int min2_int max_two min_two max_three min_three max_four min_four   -- for this text's walks alone
set_option linter.unusedVariables false
set_option linter.unusedSimpArgs false

attribute [local go_sem high] eqA45
/-! ### pred_Right: function 32 -/
def pred_Right.j0 : Nat → Bool → ByteArray → Int → Int → Int → ByteArray → Option (Bool)
  | 0, _, _, _, _, _, _ => none
  | k + 1, x3, x103000, x103001, x103002, x103003, x103004 => if x103001 = 8 then (if x3 = true then (some (x103002 == 0 && (x103003 == 0 && (x103004.toList == ([] : List UInt8))))) else (some false)) else (if x103001 = 7 then (if x103002 = 2 then (if x3 = true then (if x103001 ≥ 1 then (if x103001 ≤ 7 then ((value_Right.f x103002 x103003 x103004).bind fun t103 => (some t103)) else (some false)) else (some false)) else (some false)) else (some false)) else (if x3 = true then (if x103001 ≥ 1 then (if x103001 ≤ 7 then ((value_Right.f x103002 x103003 x103004).bind fun t104 => (some t104)) else (some false)) else (some false)) else (some false)))
def pred_Right.f (k : Nat) (a0_0 : ByteArray) (a0_1 : Int) (a0_2 : Int) (a0_3 : Int) (a0_4 : ByteArray) : Option (Bool) := if a0_0.toList = ([] : List UInt8) then (pred_Right.j0 k false a0_0 a0_1 a0_2 a0_3 a0_4) else (if (a0_0.size : Int) ≤ 16 then (pred_Right.j0 k (decide ((a0_4.size : Int) ≤ 32)) a0_0 a0_1 a0_2 a0_3 a0_4) else (pred_Right.j0 k false a0_0 a0_1 a0_2 a0_3 a0_4))
theorem pred_Right.mono_l : ∀ k, (∀ y0 y1 y2 y3 y4 y5, LeO (pred_Right.j0 k y0 y1 y2 y3 y4 y5) (pred_Right.j0 (k + 1) y0 y1 y2 y3 y4 y5))
  | 0 => fun _ _ _ _ _ _ r h => by simp [pred_Right.j0] at h
  | k + 1 => by
    have ih0 := pred_Right.mono_l k
    · intro y0 y1 y2 y3 y4 y5
      unfold pred_Right.j0
      repeat' first
      | (with_reducible exact ih0 _ _ _ _ _ _)
      | (with_reducible exact LeO.refl _)
      | (with_reducible exact LeO.none _)
      | (with_reducible refine LeO.ite ?_ ?_)
      | (with_reducible refine LeO.bind ?_ (fun _ => ?_))
      | exact ih0 _ _ _ _ _ _
      | exact LeO.none _
      | refine LeO.ite ?_ ?_
      | refine LeO.bind ?_ (fun _ => ?_)
theorem pred_Right.mono : ∀ a0 a1 a2 a3 a4 k, LeO (pred_Right.f k a0 a1 a2 a3 a4) (pred_Right.f (k + 1) a0 a1 a2 a3 a4) := by
  intro a0 a1 a2 a3 a4 k
  have ih0 := pred_Right.mono_l k
  unfold pred_Right.f
  repeat' first
      | (with_reducible exact ih0 _ _ _ _ _ _)
      | (with_reducible exact LeO.refl _)
      | (with_reducible exact LeO.none _)
      | (with_reducible refine LeO.ite ?_ ?_)
      | (with_reducible refine LeO.bind ?_ (fun _ => ?_))
      | exact ih0 _ _ _ _ _ _
      | exact LeO.none _
      | refine LeO.ite ?_ ?_
      | refine LeO.bind ?_ (fun _ => ?_)
set_option maxHeartbeats 8000000 in
set_option maxRecDepth 100000 in
theorem pred_Right.calls (k : Nat) (a0_0 : ByteArray) (a0_1 : Int) (a0_2 : Int) (a0_3 : Int) (a0_4 : ByteArray) (r : Bool) (w : World) (h : pred_Right.f k a0_0 a0_1 a0_2 a0_3 a0_4 = some r) :
    Calls Try.prog 32 #[.agg #[.string a0_0, .int .i64 a0_1, .int .i64 a0_2, .int .i64 a0_3, .string a0_4]] w fun e w' => e = .returned (.bool r) ∧ Below w.heap.size w w' := by
  have hu47 := Try.underlying47
  have hu45 := Try.underlying45
  have HB := Aside0.mk (Below.refl w.heap.size w)
  have H : (if a0_0.toList = ([] : List UInt8) then (pred_Right.j0 k false a0_0 a0_1 a0_2 a0_3 a0_4) else (if (a0_0.size : Int) ≤ 16 then (pred_Right.j0 k (decide ((a0_4.size : Int) ≤ 32)) a0_0 a0_1 a0_2 a0_3 a0_4) else (pred_Right.j0 k false a0_0 a0_1 a0_2 a0_3 a0_4))) = some r := h
  clear h
  have HC2 := Aside0.mk H
  clear H
  go_enter Try.func32, Try.ntmps32
  go_upto_region 1 with (first | ((with_reducible refine gate_dst (N := 1) rfl ?_); (try (refine gate_guard (by rfl) ?_; dsimp only)); refine box_event ?hg (N := 1) ?hd (cs := #[.string a0_0, .int .i64 a0_1, .int .i64 a0_2, .int .i64 a0_3, .string a0_4]) (t := 47) ?hr ?_; (case hd => rfl); (case hg => rfl); (case hr => first | (go_simp; done) | (go_simp; rfl)); intro gb102 hg w3 hbox hb; have n0_ := Aside0.mk (below_step (by repeat (first | (with_reducible first | exact HB.out | apply below_alloc | apply pw_below_drewN | apply below_drew1) | exact HB.out)) hb); have n1_ := Aside0.mk (hbox); have n2_ := Aside0.mk ((by rw [hg]; exact (below_size (by repeat (first | (with_reducible first | exact HB.out | apply below_alloc | apply pw_below_drewN | apply below_drew1) | exact HB.out))) : w.heap.size ≤ gb102)); have n3_ := Aside0.mk ((by rw [hg]; exact (below_size (by repeat (first | (with_reducible first | exact HB.out | apply below_alloc | apply pw_below_drewN | apply below_drew1) | exact HB.out))) : w.heap.size ≤ gb102)); clear HB; have HB := n0_; have BK102 := n1_; have GW102 := n2_; have GE102 := n3_; clear n0_ n1_ n2_ n3_; clear hb hbox hg))
  (try simp only [Act.put, List.setIfInBounds_toArray, List.set_cons_zero, List.set_cons_succ])
  go_cut [3] (fun v3 wc => ∃ (kq : Nat) (x3_1 : Bool), v3 = .bool x3_1 ∧ Aside0 (pred_Right.j0 kq x3_1 a0_0 a0_1 a0_2 a0_3 a0_4 = some r) ∧ Aside0 (kq ≤ k) ∧ Aside0 (wc.heap[gb102]? = some (.cells #[.string a0_0, .int .i64 a0_1, .int .i64 a0_2, .int .i64 a0_3, .string a0_4] 47 (0, 0))) ∧ Aside0 (Below w.heap.size w wc))
  case first =>
    have H := HC2.out
    clear HC2
    by_cases c4 : a0_0.toList = ([] : List UInt8)
    · rw [if_pos c4] at H
      have c4b0 : (a0_0.toList == ([] : List UInt8)) = true := beq_iff_eq.mpr c4
      have c4b1 : (a0_0.toList != ([] : List UInt8)) = false := bne_eq_false_iff_eq.mpr c4
      clear c4
      (first | rw [c4b0] | (simp only [i64_w, i32_w]; rw [c4b0]) | skip)
      have H' := Aside0.mk H
      clear H
      have hcz5_0 : w3.cell? ⟨gb102, 0, none⟩ = some (.string a0_0) := (blk_cell BK102.out 0).trans rfl
      have hcz5_1 : w3.cell? ⟨gb102, 1, none⟩ = some (.int .i64 a0_1) := (blk_cell BK102.out 1).trans rfl
      have hcz5_2 : w3.cell? ⟨gb102, 2, none⟩ = some (.int .i64 a0_2) := (blk_cell BK102.out 2).trans rfl
      have hcz5_3 : w3.cell? ⟨gb102, 3, none⟩ = some (.int .i64 a0_3) := (blk_cell BK102.out 3).trans rfl
      have hcz5_4 : w3.cell? ⟨gb102, 4, none⟩ = some (.string a0_4) := (blk_cell BK102.out 4).trans rfl
      have hfz5_0 := blk_frozen BK102.out 0
      have hfz5_1 := blk_frozen BK102.out 1
      have hfz5_2 := blk_frozen BK102.out 2
      have hfz5_3 := blk_frozen BK102.out 3
      have hfz5_4 := blk_frozen BK102.out 4
      go_wp2
      go_meet
      case rel => exact ⟨_, (false), (by first | rfl | (simp; done) | (simp [*]; done)), H', ⟨by first | omega | exact Nat.le_refl _⟩, ⟨by (with_reducible repeat (first | refine blk_drewN ?_ _ | refine blk_drew ?_ | refine blk_alloc ?_ _)); exact BK102.out⟩, ⟨by repeat (first | (with_reducible first | exact HB.out | apply below_alloc | apply pw_below_drewN | apply below_drew1 | refine below_set ?_ GE102.out) | exact HB.out)⟩⟩
    · rw [if_neg c4] at H
      have c4b0 : (a0_0.toList == ([] : List UInt8)) = false := beq_eq_false_iff_ne.mpr c4
      have c4b1 : (a0_0.toList != ([] : List UInt8)) = true := bne_iff_ne.mpr c4
      (first | rw [c4b0] | (simp only [i64_w, i32_w]; rw [c4b0]) | skip)
      by_cases c6 : (a0_0.size : Int) ≤ 16
      · rw [if_pos c6] at H
        have c6b0 : decide ((a0_0.size : Int) ≤ 16) = true := decide_eq_true c6
        have c6b1 : decide (a0_0.size ≤ 16) = true := decide_eq_true (by omega)
        clear c6
        have H' := Aside0.mk H
        clear H
        have hcz7_0 : w3.cell? ⟨gb102, 0, none⟩ = some (.string a0_0) := (blk_cell BK102.out 0).trans rfl
        have hcz7_1 : w3.cell? ⟨gb102, 1, none⟩ = some (.int .i64 a0_1) := (blk_cell BK102.out 1).trans rfl
        have hcz7_2 : w3.cell? ⟨gb102, 2, none⟩ = some (.int .i64 a0_2) := (blk_cell BK102.out 2).trans rfl
        have hcz7_3 : w3.cell? ⟨gb102, 3, none⟩ = some (.int .i64 a0_3) := (blk_cell BK102.out 3).trans rfl
        have hcz7_4 : w3.cell? ⟨gb102, 4, none⟩ = some (.string a0_4) := (blk_cell BK102.out 4).trans rfl
        have hfz7_0 := blk_frozen BK102.out 0
        have hfz7_1 := blk_frozen BK102.out 1
        have hfz7_2 := blk_frozen BK102.out 2
        have hfz7_3 := blk_frozen BK102.out 3
        have hfz7_4 := blk_frozen BK102.out 4
        go_wp2
        go_meet
        case rel => exact ⟨_, (decide ((a0_4.size : Int) ≤ 32)), (by first | rfl | (simp; done) | (simp [*]; done)), H', ⟨by first | omega | exact Nat.le_refl _⟩, ⟨by (with_reducible repeat (first | refine blk_drewN ?_ _ | refine blk_drew ?_ | refine blk_alloc ?_ _)); exact BK102.out⟩, ⟨by repeat (first | (with_reducible first | exact HB.out | apply below_alloc | apply pw_below_drewN | apply below_drew1 | refine below_set ?_ GE102.out) | exact HB.out)⟩⟩
      · rw [if_neg c6] at H
        have c6b0 : decide ((a0_0.size : Int) ≤ 16) = false := decide_eq_false c6
        have c6b1 : decide (a0_0.size ≤ 16) = false := decide_eq_false (by omega)
        clear c6
        have H' := Aside0.mk H
        clear H
        have hcz8_0 : w3.cell? ⟨gb102, 0, none⟩ = some (.string a0_0) := (blk_cell BK102.out 0).trans rfl
        have hcz8_1 : w3.cell? ⟨gb102, 1, none⟩ = some (.int .i64 a0_1) := (blk_cell BK102.out 1).trans rfl
        have hcz8_2 : w3.cell? ⟨gb102, 2, none⟩ = some (.int .i64 a0_2) := (blk_cell BK102.out 2).trans rfl
        have hcz8_3 : w3.cell? ⟨gb102, 3, none⟩ = some (.int .i64 a0_3) := (blk_cell BK102.out 3).trans rfl
        have hcz8_4 : w3.cell? ⟨gb102, 4, none⟩ = some (.string a0_4) := (blk_cell BK102.out 4).trans rfl
        have hfz8_0 := blk_frozen BK102.out 0
        have hfz8_1 := blk_frozen BK102.out 1
        have hfz8_2 := blk_frozen BK102.out 2
        have hfz8_3 := blk_frozen BK102.out 3
        have hfz8_4 := blk_frozen BK102.out 4
        go_wp2
        go_meet
        case rel => exact ⟨_, (false), (by first | rfl | (simp; done) | (simp [*]; done)), H', ⟨by first | omega | exact Nat.le_refl _⟩, ⟨by (with_reducible repeat (first | refine blk_drewN ?_ _ | refine blk_drew ?_ | refine blk_alloc ?_ _)); exact BK102.out⟩, ⟨by repeat (first | (with_reducible first | exact HB.out | apply below_alloc | apply pw_below_drewN | apply below_drew1 | refine below_set ?_ GE102.out) | exact HB.out)⟩⟩
  case rest =>
    clear HC2
    try clear p2
    try clear c3
    try clear c4
    try clear c4b0
    try clear c4b1
    try clear c6
    try clear c6b0
    try clear c6b1
    try clear hcz5_0
    try clear hcz5_1
    try clear hcz5_2
    try clear hcz5_3
    try clear hcz5_4
    try clear hcz7_0
    try clear hcz7_1
    try clear hcz7_2
    try clear hcz7_3
    try clear hcz7_4
    try clear hcz8_0
    try clear hcz8_1
    try clear hcz8_2
    try clear hcz8_3
    try clear hcz8_4
    try clear hfz5_0
    try clear hfz5_1
    try clear hfz5_2
    try clear hfz5_3
    try clear hfz5_4
    try clear hfz7_0
    try clear hfz7_1
    try clear hfz7_2
    try clear hfz7_3
    try clear hfz7_4
    try clear hfz8_0
    try clear hfz8_1
    try clear hfz8_2
    try clear hfz8_3
    try clear hfz8_4
    obtain ⟨kq, x3_1, rfl, HA, HJ1, BK102, HB⟩ := hcut
    cases kq with
    | zero => exact absurd HA.out (by simp [pred_Right.j0])
    | succ kj1 =>
      have H := HA.out
      clear HA
      simp only [pred_Right.j0] at H
      by_cases c9 : a0_1 = 8
      · rw [if_pos c9] at H
        have c9b0 : (a0_1 == 8) = true := beq_iff_eq.mpr c9
        have c9b1 : (a0_1 != 8) = false := bne_eq_false_iff_eq.mpr c9
        clear c9
        by_cases c10 : x3_1 = true
        · subst c10
          have H1 : (some (a0_2 == 0 && (a0_3 == 0 && (a0_4.toList == ([] : List UInt8))))) = some r := by rw [if_pos rfl] at H; exact H
          clear H
          have H := H1
          clear H1
          obtain rfl := Option.some.inj H
          have hcz11_0 : wc.cell? ⟨gb102, 0, none⟩ = some (.string a0_0) := (blk_cell BK102.out 0).trans rfl
          have hcz11_1 : wc.cell? ⟨gb102, 1, none⟩ = some (.int .i64 a0_1) := (blk_cell BK102.out 1).trans rfl
          have hcz11_2 : wc.cell? ⟨gb102, 2, none⟩ = some (.int .i64 a0_2) := (blk_cell BK102.out 2).trans rfl
          have hcz11_3 : wc.cell? ⟨gb102, 3, none⟩ = some (.int .i64 a0_3) := (blk_cell BK102.out 3).trans rfl
          have hcz11_4 : wc.cell? ⟨gb102, 4, none⟩ = some (.string a0_4) := (blk_cell BK102.out 4).trans rfl
          have hfz11_0 := blk_frozen BK102.out 0
          have hfz11_1 := blk_frozen BK102.out 1
          have hfz11_2 := blk_frozen BK102.out 2
          have hfz11_3 := blk_frozen BK102.out 3
          have hfz11_4 := blk_frozen BK102.out 4
          go_wp2
          go_ret
          exact ⟨by first | rfl | (simp [errW_none, errW_some] <;> rfl) | (simp [*, errW_none, errW_some] <;> rfl), by repeat (first | (with_reducible first | exact HB.out | apply below_alloc | apply pw_below_drewN | apply below_drew1 | refine below_set ?_ GE102.out) | exact HB.out)⟩
        · replace c10 := Bool.eq_false_iff.mpr c10
          subst c10
          have H1 : (some false) = some r := by rw [if_neg (show ¬ (false = true) by decide)] at H; exact H
          clear H
          have H := H1
          clear H1
          obtain rfl := Option.some.inj H
          have hcz12_0 : wc.cell? ⟨gb102, 0, none⟩ = some (.string a0_0) := (blk_cell BK102.out 0).trans rfl
          have hcz12_1 : wc.cell? ⟨gb102, 1, none⟩ = some (.int .i64 a0_1) := (blk_cell BK102.out 1).trans rfl
          have hcz12_2 : wc.cell? ⟨gb102, 2, none⟩ = some (.int .i64 a0_2) := (blk_cell BK102.out 2).trans rfl
          have hcz12_3 : wc.cell? ⟨gb102, 3, none⟩ = some (.int .i64 a0_3) := (blk_cell BK102.out 3).trans rfl
          have hcz12_4 : wc.cell? ⟨gb102, 4, none⟩ = some (.string a0_4) := (blk_cell BK102.out 4).trans rfl
          have hfz12_0 := blk_frozen BK102.out 0
          have hfz12_1 := blk_frozen BK102.out 1
          have hfz12_2 := blk_frozen BK102.out 2
          have hfz12_3 := blk_frozen BK102.out 3
          have hfz12_4 := blk_frozen BK102.out 4
          go_wp2
          go_ret
          exact ⟨by first | rfl | (simp [errW_none, errW_some] <;> rfl) | (simp [*, errW_none, errW_some] <;> rfl), by repeat (first | (with_reducible first | exact HB.out | apply below_alloc | apply pw_below_drewN | apply below_drew1 | refine below_set ?_ GE102.out) | exact HB.out)⟩
      · rw [if_neg c9] at H
        have c9b0 : (a0_1 == 8) = false := beq_eq_false_iff_ne.mpr c9
        have c9b1 : (a0_1 != 8) = true := bne_iff_ne.mpr c9
        by_cases c13 : a0_1 = 7
        · rw [if_pos c13] at H
          have c13b0 : (a0_1 == 7) = true := beq_iff_eq.mpr c13
          have c13b1 : (a0_1 != 7) = false := bne_eq_false_iff_eq.mpr c13
          clear c13
          by_cases c14 : a0_2 = 2
          · rw [if_pos c14] at H
            have c14b0 : (a0_2 == 2) = true := beq_iff_eq.mpr c14
            have c14b1 : (a0_2 != 2) = false := bne_eq_false_iff_eq.mpr c14
            clear c14
            by_cases c15 : x3_1 = true
            · subst c15
              have H1 : (if a0_1 ≥ 1 then (if a0_1 ≤ 7 then ((value_Right.f a0_2 a0_3 a0_4).bind fun t103 => (some t103)) else (some false)) else (some false)) = some r := by rw [if_pos rfl] at H; exact H
              clear H
              have H := H1
              clear H1
              by_cases c16 : a0_1 ≥ 1
              · rw [if_pos c16] at H
                have c16b0 : decide (1 ≤ a0_1) = true := decide_eq_true c16
                clear c16
                by_cases c17 : a0_1 ≤ 7
                · rw [if_pos c17] at H
                  have c17b0 : decide (a0_1 ≤ 7) = true := decide_eq_true c17
                  clear c17
                  replace H := Option.bind_eq_some_iff.mp H
                  obtain ⟨t103, A180, H⟩ := H
                  replace H : (some t103) = some r := H
                  have A18 := Aside0.mk A180
                  clear A180
                  obtain rfl := Option.some.inj H
                  have hcz19_0 : wc.cell? ⟨gb102, 0, none⟩ = some (.string a0_0) := (blk_cell BK102.out 0).trans rfl
                  have hcz19_1 : wc.cell? ⟨gb102, 1, none⟩ = some (.int .i64 a0_1) := (blk_cell BK102.out 1).trans rfl
                  have hcz19_2 : wc.cell? ⟨gb102, 2, none⟩ = some (.int .i64 a0_2) := (blk_cell BK102.out 2).trans rfl
                  have hcz19_3 : wc.cell? ⟨gb102, 3, none⟩ = some (.int .i64 a0_3) := (blk_cell BK102.out 3).trans rfl
                  have hcz19_4 : wc.cell? ⟨gb102, 4, none⟩ = some (.string a0_4) := (blk_cell BK102.out 4).trans rfl
                  have hfz19_0 := blk_frozen BK102.out 0
                  have hfz19_1 := blk_frozen BK102.out 1
                  have hfz19_2 := blk_frozen BK102.out 2
                  have hfz19_3 := blk_frozen BK102.out 3
                  have hfz19_4 := blk_frozen BK102.out 4
                  go_wp2_with (first | (go_at_call 30; (with_reducible refine (value_Right.calls a0_2 a0_3 a0_4 t103 _ A18.out).mono ?_); rintro e w20 ⟨rfl, hb⟩; have n0_ := Aside0.mk (blk_below (g := gb102) (o := .cells #[.string a0_0, .int .i64 a0_1, .int .i64 a0_2, .int .i64 a0_3, .string a0_4] 47 (0, 0)) (by (with_reducible repeat (first | refine blk_drewN ?_ _ | refine blk_drew ?_ | refine blk_alloc ?_ _)); exact BK102.out) hb); have n1_ := Aside0.mk (below_step (by repeat (first | (with_reducible first | exact HB.out | apply below_alloc | apply pw_below_drewN | apply below_drew1 | refine below_set ?_ GE102.out) | exact HB.out)) hb); clear BK102; clear HB; have BK102 := n0_; have HB := n1_; clear n0_ n1_; (try clear hb); (try clear hb2); (try clear hk); (try clear hi)))
                  go_ret
                  exact ⟨by first | rfl | (simp [errW_none, errW_some] <;> rfl) | (simp [*, errW_none, errW_some] <;> rfl), by repeat (first | (with_reducible first | exact HB.out | apply below_alloc | apply pw_below_drewN | apply below_drew1 | refine below_set ?_ GE102.out) | exact HB.out)⟩
                · rw [if_neg c17] at H
                  have c17b0 : decide (a0_1 ≤ 7) = false := decide_eq_false c17
                  clear c17
                  obtain rfl := Option.some.inj H
                  have hcz21_0 : wc.cell? ⟨gb102, 0, none⟩ = some (.string a0_0) := (blk_cell BK102.out 0).trans rfl
                  have hcz21_1 : wc.cell? ⟨gb102, 1, none⟩ = some (.int .i64 a0_1) := (blk_cell BK102.out 1).trans rfl
                  have hcz21_2 : wc.cell? ⟨gb102, 2, none⟩ = some (.int .i64 a0_2) := (blk_cell BK102.out 2).trans rfl
                  have hcz21_3 : wc.cell? ⟨gb102, 3, none⟩ = some (.int .i64 a0_3) := (blk_cell BK102.out 3).trans rfl
                  have hcz21_4 : wc.cell? ⟨gb102, 4, none⟩ = some (.string a0_4) := (blk_cell BK102.out 4).trans rfl
                  have hfz21_0 := blk_frozen BK102.out 0
                  have hfz21_1 := blk_frozen BK102.out 1
                  have hfz21_2 := blk_frozen BK102.out 2
                  have hfz21_3 := blk_frozen BK102.out 3
                  have hfz21_4 := blk_frozen BK102.out 4
                  go_wp2
                  go_ret
                  exact ⟨by first | rfl | (simp [errW_none, errW_some] <;> rfl) | (simp [*, errW_none, errW_some] <;> rfl), by repeat (first | (with_reducible first | exact HB.out | apply below_alloc | apply pw_below_drewN | apply below_drew1 | refine below_set ?_ GE102.out) | exact HB.out)⟩
              · rw [if_neg c16] at H
                have c16b0 : decide (1 ≤ a0_1) = false := decide_eq_false c16
                clear c16
                obtain rfl := Option.some.inj H
                have hcz22_0 : wc.cell? ⟨gb102, 0, none⟩ = some (.string a0_0) := (blk_cell BK102.out 0).trans rfl
                have hcz22_1 : wc.cell? ⟨gb102, 1, none⟩ = some (.int .i64 a0_1) := (blk_cell BK102.out 1).trans rfl
                have hcz22_2 : wc.cell? ⟨gb102, 2, none⟩ = some (.int .i64 a0_2) := (blk_cell BK102.out 2).trans rfl
                have hcz22_3 : wc.cell? ⟨gb102, 3, none⟩ = some (.int .i64 a0_3) := (blk_cell BK102.out 3).trans rfl
                have hcz22_4 : wc.cell? ⟨gb102, 4, none⟩ = some (.string a0_4) := (blk_cell BK102.out 4).trans rfl
                have hfz22_0 := blk_frozen BK102.out 0
                have hfz22_1 := blk_frozen BK102.out 1
                have hfz22_2 := blk_frozen BK102.out 2
                have hfz22_3 := blk_frozen BK102.out 3
                have hfz22_4 := blk_frozen BK102.out 4
                go_wp2
                go_ret
                exact ⟨by first | rfl | (simp [errW_none, errW_some] <;> rfl) | (simp [*, errW_none, errW_some] <;> rfl), by repeat (first | (with_reducible first | exact HB.out | apply below_alloc | apply pw_below_drewN | apply below_drew1 | refine below_set ?_ GE102.out) | exact HB.out)⟩
            · replace c15 := Bool.eq_false_iff.mpr c15
              subst c15
              have H1 : (some false) = some r := by rw [if_neg (show ¬ (false = true) by decide)] at H; exact H
              clear H
              have H := H1
              clear H1
              obtain rfl := Option.some.inj H
              have hcz23_0 : wc.cell? ⟨gb102, 0, none⟩ = some (.string a0_0) := (blk_cell BK102.out 0).trans rfl
              have hcz23_1 : wc.cell? ⟨gb102, 1, none⟩ = some (.int .i64 a0_1) := (blk_cell BK102.out 1).trans rfl
              have hcz23_2 : wc.cell? ⟨gb102, 2, none⟩ = some (.int .i64 a0_2) := (blk_cell BK102.out 2).trans rfl
              have hcz23_3 : wc.cell? ⟨gb102, 3, none⟩ = some (.int .i64 a0_3) := (blk_cell BK102.out 3).trans rfl
              have hcz23_4 : wc.cell? ⟨gb102, 4, none⟩ = some (.string a0_4) := (blk_cell BK102.out 4).trans rfl
              have hfz23_0 := blk_frozen BK102.out 0
              have hfz23_1 := blk_frozen BK102.out 1
              have hfz23_2 := blk_frozen BK102.out 2
              have hfz23_3 := blk_frozen BK102.out 3
              have hfz23_4 := blk_frozen BK102.out 4
              go_wp2
              go_ret
              exact ⟨by first | rfl | (simp [errW_none, errW_some] <;> rfl) | (simp [*, errW_none, errW_some] <;> rfl), by repeat (first | (with_reducible first | exact HB.out | apply below_alloc | apply pw_below_drewN | apply below_drew1 | refine below_set ?_ GE102.out) | exact HB.out)⟩
          · rw [if_neg c14] at H
            have c14b0 : (a0_2 == 2) = false := beq_eq_false_iff_ne.mpr c14
            have c14b1 : (a0_2 != 2) = true := bne_iff_ne.mpr c14
            obtain rfl := Option.some.inj H
            have hcz24_0 : wc.cell? ⟨gb102, 0, none⟩ = some (.string a0_0) := (blk_cell BK102.out 0).trans rfl
            have hcz24_1 : wc.cell? ⟨gb102, 1, none⟩ = some (.int .i64 a0_1) := (blk_cell BK102.out 1).trans rfl
            have hcz24_2 : wc.cell? ⟨gb102, 2, none⟩ = some (.int .i64 a0_2) := (blk_cell BK102.out 2).trans rfl
            have hcz24_3 : wc.cell? ⟨gb102, 3, none⟩ = some (.int .i64 a0_3) := (blk_cell BK102.out 3).trans rfl
            have hcz24_4 : wc.cell? ⟨gb102, 4, none⟩ = some (.string a0_4) := (blk_cell BK102.out 4).trans rfl
            have hfz24_0 := blk_frozen BK102.out 0
            have hfz24_1 := blk_frozen BK102.out 1
            have hfz24_2 := blk_frozen BK102.out 2
            have hfz24_3 := blk_frozen BK102.out 3
            have hfz24_4 := blk_frozen BK102.out 4
            go_wp2
            go_ret
            exact ⟨by first | rfl | (simp [errW_none, errW_some] <;> rfl) | (simp [*, errW_none, errW_some] <;> rfl), by repeat (first | (with_reducible first | exact HB.out | apply below_alloc | apply pw_below_drewN | apply below_drew1 | refine below_set ?_ GE102.out) | exact HB.out)⟩
        · rw [if_neg c13] at H
          have c13b0 : (a0_1 == 7) = false := beq_eq_false_iff_ne.mpr c13
          have c13b1 : (a0_1 != 7) = true := bne_iff_ne.mpr c13
          by_cases c25 : x3_1 = true
          · subst c25
            have H1 : (if a0_1 ≥ 1 then (if a0_1 ≤ 7 then ((value_Right.f a0_2 a0_3 a0_4).bind fun t104 => (some t104)) else (some false)) else (some false)) = some r := by rw [if_pos rfl] at H; exact H
            clear H
            have H := H1
            clear H1
            by_cases c26 : a0_1 ≥ 1
            · rw [if_pos c26] at H
              have c26b0 : decide (1 ≤ a0_1) = true := decide_eq_true c26
              clear c26
              by_cases c27 : a0_1 ≤ 7
              · rw [if_pos c27] at H
                have c27b0 : decide (a0_1 ≤ 7) = true := decide_eq_true c27
                clear c27
                replace H := Option.bind_eq_some_iff.mp H
                obtain ⟨t104, A280, H⟩ := H
                replace H : (some t104) = some r := H
                have A28 := Aside0.mk A280
                clear A280
                obtain rfl := Option.some.inj H
                have hcz29_0 : wc.cell? ⟨gb102, 0, none⟩ = some (.string a0_0) := (blk_cell BK102.out 0).trans rfl
                have hcz29_1 : wc.cell? ⟨gb102, 1, none⟩ = some (.int .i64 a0_1) := (blk_cell BK102.out 1).trans rfl
                have hcz29_2 : wc.cell? ⟨gb102, 2, none⟩ = some (.int .i64 a0_2) := (blk_cell BK102.out 2).trans rfl
                have hcz29_3 : wc.cell? ⟨gb102, 3, none⟩ = some (.int .i64 a0_3) := (blk_cell BK102.out 3).trans rfl
                have hcz29_4 : wc.cell? ⟨gb102, 4, none⟩ = some (.string a0_4) := (blk_cell BK102.out 4).trans rfl
                have hfz29_0 := blk_frozen BK102.out 0
                have hfz29_1 := blk_frozen BK102.out 1
                have hfz29_2 := blk_frozen BK102.out 2
                have hfz29_3 := blk_frozen BK102.out 3
                have hfz29_4 := blk_frozen BK102.out 4
                go_wp2_with (first | (go_at_call 30; (with_reducible refine (value_Right.calls a0_2 a0_3 a0_4 t104 _ A28.out).mono ?_); rintro e w30 ⟨rfl, hb⟩; have n0_ := Aside0.mk (blk_below (g := gb102) (o := .cells #[.string a0_0, .int .i64 a0_1, .int .i64 a0_2, .int .i64 a0_3, .string a0_4] 47 (0, 0)) (by (with_reducible repeat (first | refine blk_drewN ?_ _ | refine blk_drew ?_ | refine blk_alloc ?_ _)); exact BK102.out) hb); have n1_ := Aside0.mk (below_step (by repeat (first | (with_reducible first | exact HB.out | apply below_alloc | apply pw_below_drewN | apply below_drew1 | refine below_set ?_ GE102.out) | exact HB.out)) hb); clear BK102; clear HB; have BK102 := n0_; have HB := n1_; clear n0_ n1_; (try clear hb); (try clear hb2); (try clear hk); (try clear hi)))
                go_ret
                exact ⟨by first | rfl | (simp [errW_none, errW_some] <;> rfl) | (simp [*, errW_none, errW_some] <;> rfl), by repeat (first | (with_reducible first | exact HB.out | apply below_alloc | apply pw_below_drewN | apply below_drew1 | refine below_set ?_ GE102.out) | exact HB.out)⟩
              · rw [if_neg c27] at H
                have c27b0 : decide (a0_1 ≤ 7) = false := decide_eq_false c27
                clear c27
                obtain rfl := Option.some.inj H
                have hcz31_0 : wc.cell? ⟨gb102, 0, none⟩ = some (.string a0_0) := (blk_cell BK102.out 0).trans rfl
                have hcz31_1 : wc.cell? ⟨gb102, 1, none⟩ = some (.int .i64 a0_1) := (blk_cell BK102.out 1).trans rfl
                have hcz31_2 : wc.cell? ⟨gb102, 2, none⟩ = some (.int .i64 a0_2) := (blk_cell BK102.out 2).trans rfl
                have hcz31_3 : wc.cell? ⟨gb102, 3, none⟩ = some (.int .i64 a0_3) := (blk_cell BK102.out 3).trans rfl
                have hcz31_4 : wc.cell? ⟨gb102, 4, none⟩ = some (.string a0_4) := (blk_cell BK102.out 4).trans rfl
                have hfz31_0 := blk_frozen BK102.out 0
                have hfz31_1 := blk_frozen BK102.out 1
                have hfz31_2 := blk_frozen BK102.out 2
                have hfz31_3 := blk_frozen BK102.out 3
                have hfz31_4 := blk_frozen BK102.out 4
                go_wp2
                go_ret
                exact ⟨by first | rfl | (simp [errW_none, errW_some] <;> rfl) | (simp [*, errW_none, errW_some] <;> rfl), by repeat (first | (with_reducible first | exact HB.out | apply below_alloc | apply pw_below_drewN | apply below_drew1 | refine below_set ?_ GE102.out) | exact HB.out)⟩
            · rw [if_neg c26] at H
              have c26b0 : decide (1 ≤ a0_1) = false := decide_eq_false c26
              clear c26
              obtain rfl := Option.some.inj H
              have hcz32_0 : wc.cell? ⟨gb102, 0, none⟩ = some (.string a0_0) := (blk_cell BK102.out 0).trans rfl
              have hcz32_1 : wc.cell? ⟨gb102, 1, none⟩ = some (.int .i64 a0_1) := (blk_cell BK102.out 1).trans rfl
              have hcz32_2 : wc.cell? ⟨gb102, 2, none⟩ = some (.int .i64 a0_2) := (blk_cell BK102.out 2).trans rfl
              have hcz32_3 : wc.cell? ⟨gb102, 3, none⟩ = some (.int .i64 a0_3) := (blk_cell BK102.out 3).trans rfl
              have hcz32_4 : wc.cell? ⟨gb102, 4, none⟩ = some (.string a0_4) := (blk_cell BK102.out 4).trans rfl
              have hfz32_0 := blk_frozen BK102.out 0
              have hfz32_1 := blk_frozen BK102.out 1
              have hfz32_2 := blk_frozen BK102.out 2
              have hfz32_3 := blk_frozen BK102.out 3
              have hfz32_4 := blk_frozen BK102.out 4
              go_wp2
              go_ret
              exact ⟨by first | rfl | (simp [errW_none, errW_some] <;> rfl) | (simp [*, errW_none, errW_some] <;> rfl), by repeat (first | (with_reducible first | exact HB.out | apply below_alloc | apply pw_below_drewN | apply below_drew1 | refine below_set ?_ GE102.out) | exact HB.out)⟩
          · replace c25 := Bool.eq_false_iff.mpr c25
            subst c25
            have H1 : (some false) = some r := by rw [if_neg (show ¬ (false = true) by decide)] at H; exact H
            clear H
            have H := H1
            clear H1
            obtain rfl := Option.some.inj H
            have hcz33_0 : wc.cell? ⟨gb102, 0, none⟩ = some (.string a0_0) := (blk_cell BK102.out 0).trans rfl
            have hcz33_1 : wc.cell? ⟨gb102, 1, none⟩ = some (.int .i64 a0_1) := (blk_cell BK102.out 1).trans rfl
            have hcz33_2 : wc.cell? ⟨gb102, 2, none⟩ = some (.int .i64 a0_2) := (blk_cell BK102.out 2).trans rfl
            have hcz33_3 : wc.cell? ⟨gb102, 3, none⟩ = some (.int .i64 a0_3) := (blk_cell BK102.out 3).trans rfl
            have hcz33_4 : wc.cell? ⟨gb102, 4, none⟩ = some (.string a0_4) := (blk_cell BK102.out 4).trans rfl
            have hfz33_0 := blk_frozen BK102.out 0
            have hfz33_1 := blk_frozen BK102.out 1
            have hfz33_2 := blk_frozen BK102.out 2
            have hfz33_3 := blk_frozen BK102.out 3
            have hfz33_4 := blk_frozen BK102.out 4
            go_wp2
            go_ret
            exact ⟨by first | rfl | (simp [errW_none, errW_some] <;> rfl) | (simp [*, errW_none, errW_some] <;> rfl), by repeat (first | (with_reducible first | exact HB.out | apply below_alloc | apply pw_below_drewN | apply below_drew1 | refine below_set ?_ GE102.out) | exact HB.out)⟩

end Go.Proofs.Ytbcnknmgljdmlaa.G
end

section
-- Written by a program of this session (wip/tools/myprint.py), over the kit's print.
namespace Go.Proofs.Ytbcnknmgljdmlaa.G
open Go.RowKit Go.Proofs.YtbcnknmgljdmlaaW.PrintWords Go.Proofs.YtbcnknmgljdmlaaW.PrintLast Go.Proofs.YtbcnknmgljdmlaaW.PrintMore
attribute [local go_sem] max2_int min2_int max_two min_two max_three min_three max_four min_four   -- for this text's walks alone
set_option linter.unusedVariables false
set_option linter.unusedSimpArgs false

-- BY HAND
-- LIB Derived.Lib.Strings
-- LIB Derived.Lib.Slices
-- LIB Derived.Lib.Walk
-- LIB Derived.Lib.Bytealg
set_option maxHeartbeats 1000000 in
set_option maxRecDepth 100000 in
theorem compare_bytes (a b : ByteArray) (w : World) :
    Calls Try.prog 38 #[.string a, .string b] w fun e w' => e = .returned (.int .i64 (Lib.compareBytes a.data.toList b.data.toList)) ∧ w' = w := by
  go_enter Try.func38, Try.ntmps38
  go_wp2
  rw [run_callFunc_extern Try.func45 (by kernel_rfl) (by kernel_rfl) (by kernel_rfl) (e := Extern.BytealgCompare.compare) (by kernel_rfl), Lib.run_compareString]
  simp only [Result.andThen]
  rw [Oper.upon_value]
  go_wp2
  go_ret
  exact ⟨rfl, rfl⟩
def strings_Compare.f (a0 a1 : ByteArray) : Option Int := some (Lib.compareBytes a0.data.toList a1.data.toList)
set_option maxHeartbeats 1000000 in
theorem strings_Compare.calls (a0 a1 : ByteArray) (r : Int) (w : World) (h : strings_Compare.f a0 a1 = some r) :
    Calls Try.prog 31 #[.string a0, .string a1] w fun e w' => e = .returned (.int .i64 r) ∧ Drawn0 w w' := by
  obtain rfl := Option.some.inj h
  go_enter Try.func31, Try.ntmps31
  go_wp2_with (go_at_call 38; refine (compare_bytes _ _ _).mono ?_; rintro e w' ⟨rfl, rfl⟩)
  go_ret
  exact ⟨rfl, Drawn0.refl _⟩

end Go.Proofs.Ytbcnknmgljdmlaa.G
end

section
-- Written by a program of this session (wip/tools/myprint.py), over the kit's print.
namespace Go.Proofs.Ytbcnknmgljdmlaa.G
open Go.RowKit Go.Proofs.YtbcnknmgljdmlaaW.PrintWords Go.Proofs.YtbcnknmgljdmlaaW.PrintLast Go.Proofs.YtbcnknmgljdmlaaW.PrintMore
attribute [local go_sem] max2_int min2_int max_two min_two max_three min_three max_four min_four   -- for this text's walks alone
set_option linter.unusedVariables false
set_option linter.unusedSimpArgs false

/-! ### cmp_Or_int: function 39 -/
def cmp_Or_int.l0 : Nat → Int → List Int → Int → Int → Option (Int)
  | 0, _, _, _, _ => none
  | k + 1, x3, x6, x7, x8 => if x8 < x7 then (if 0 ≤ x8 then (if x8 < (x6.length : Int) then (if (rd x6 x8) = x3 then (cmp_Or_int.l0 k x3 x6 x7 (wrap64 (x8 + 1))) else (some (rd x6 x8))) else (none)) else (none)) else (some x3)
def cmp_Or_int.f (k : Nat) (l0 : List Int) : Option (Int) := cmp_Or_int.l0 k 0 l0 (l0.length : Int) 0
theorem cmp_Or_int.mono_l : ∀ k, (∀ y0 y1 y2 y3, LeO (cmp_Or_int.l0 k y0 y1 y2 y3) (cmp_Or_int.l0 (k + 1) y0 y1 y2 y3))
  | 0 => fun _ _ _ _ r h => by simp [cmp_Or_int.l0] at h
  | k + 1 => by
    have ih0 := cmp_Or_int.mono_l k
    · intro y0 y1 y2 y3
      unfold cmp_Or_int.l0
      repeat' first
      | (with_reducible exact ih0 _ _ _ _)
      | (with_reducible exact LeO.refl _)
      | (with_reducible exact LeO.none _)
      | (with_reducible refine LeO.ite ?_ ?_)
      | (with_reducible refine LeO.bind ?_ (fun _ => ?_))
      | exact ih0 _ _ _ _
      | exact LeO.none _
      | refine LeO.ite ?_ ?_
      | refine LeO.bind ?_ (fun _ => ?_)
theorem cmp_Or_int.mono : ∀ a0 k, LeO (cmp_Or_int.f k a0) (cmp_Or_int.f (k + 1) a0) := by
  intro a0 k
  have ih0 := cmp_Or_int.mono_l k
  unfold cmp_Or_int.f
  repeat' first
      | (with_reducible exact ih0 _ _ _ _)
      | (with_reducible exact LeO.refl _)
      | (with_reducible exact LeO.none _)
      | (with_reducible refine LeO.ite ?_ ?_)
      | (with_reducible refine LeO.bind ?_ (fun _ => ?_))
      | exact ih0 _ _ _ _
      | exact LeO.none _
      | refine LeO.ite ?_ ?_
      | refine LeO.bind ?_ (fun _ => ?_)
set_option maxHeartbeats 8000000 in
set_option maxRecDepth 100000 in
theorem cmp_Or_int.calls (k : Nat) (A0 : Option Addr) (c0 : Nat) (l0 : List Int) (r : Int) (w : World) (hr0 : Kd.C (Kd.int .i64) w A0 l0.length l0) (hc0 : l0.length ≤ c0) (h : cmp_Or_int.f k l0 = some r) :
    Calls Try.prog 39 #[.slice A0 l0.length c0] w fun e w' => e = .returned (.int .i64 r) ∧ Drawn0 w w' := by
  have HR0 := Aside0.mk hr0
  have HC0 := Aside0.mk hc0
  clear hr0 hc0
  have H : (cmp_Or_int.l0 k 0 l0 (l0.length : Int) 0) = some r := h
  clear h
  have H' := Aside0.mk H
  clear H
  go_enter Try.func39, Try.ntmps39
  go_wp2
  go_loopg [8] k (fun kq v8 w' => ∃ (x8_1 : Int), v8 = .int .i64 x8_1 ∧ Aside0 (cmp_Or_int.l0 kq 0 l0 (l0.length : Int) x8_1 = some r) ∧ Aside0 (kq ≤ k) ∧ Drawn0 w w')
  case atStart => exact ⟨(0), (by first | rfl | (simp; done) | (simp [*]; done)), H', ⟨Nat.le_refl _⟩, by repeat (first | exact Drawn0.refl _ | apply Drawn0.step)⟩
  case round =>
    clear H'
    obtain ⟨x8_1, rfl, HA, HK1, ⟨m1, rfl⟩⟩ := hrel
    cases gk with
    | zero => exact absurd HA.out (by simp [cmp_Or_int.l0])
    | succ k1 =>
      have H := HA.out
      clear HA
      simp only [cmp_Or_int.l0] at H
      by_cases c2 : x8_1 < (l0.length : Int)
      · rw [if_pos c2] at H
        have c2b0 : decide (x8_1 < (l0.length : Int)) = true := decide_eq_true c2
        clear c2
        by_cases c3 : 0 ≤ x8_1
        · rw [if_pos c3] at H
          have c3b0 : decide (0 ≤ x8_1) = true := decide_eq_true c3
          clear c3
          by_cases c4 : x8_1 < (l0.length : Int)
          · rw [if_pos c4] at H
            have c4b0 : decide (x8_1 < (l0.length : Int)) = true := decide_eq_true c4
            clear c4
            by_cases c5 : (rd l0 x8_1) = 0
            · rw [if_pos c5] at H
              have c5b0 : ((rd l0 x8_1) == 0) = true := beq_iff_eq.mpr c5
              have c5b1 : ((rd l0 x8_1) != 0) = false := bne_eq_false_iff_eq.mpr c5
              clear c5
              have H' := Aside0.mk H
              clear H
              have p105 : 0 ≤ (x8_1 : Int) := of_decide_eq_true (by first | (with_reducible assumption) | assumption)
              have q105 : x8_1 < (l0.length : Int) := of_decide_eq_true (by first | (with_reducible assumption) | assumption)
              obtain ⟨ad105, e105, hx105_0⟩ := Kd.at_int HR0.out x8_1 p105 q105
              cases e105
              replace p105 := eq_true p105
              replace q105 := eq_true q105
              go_wp2
              go_roundg k1
              case measure => have := HK1.out; omega
              case rel => exact ⟨(wrap64 (x8_1 + 1)), (by first | rfl | (simp; done) | (simp [*]; done)), H', ⟨by have := HK1.out; omega⟩, by repeat (first | exact Drawn0.refl _ | apply Drawn0.step)⟩
            · rw [if_neg c5] at H
              have c5b0 : ((rd l0 x8_1) == 0) = false := beq_eq_false_iff_ne.mpr c5
              have c5b1 : ((rd l0 x8_1) != 0) = true := bne_iff_ne.mpr c5
              obtain rfl := Option.some.inj H
              have p105 : 0 ≤ (x8_1 : Int) := of_decide_eq_true (by first | (with_reducible assumption) | assumption)
              have q105 : x8_1 < (l0.length : Int) := of_decide_eq_true (by first | (with_reducible assumption) | assumption)
              obtain ⟨ad105, e105, hx105_0⟩ := Kd.at_int HR0.out x8_1 p105 q105
              cases e105
              replace p105 := eq_true p105
              replace q105 := eq_true q105
              go_wp2
              go_ret
              exact ⟨by first | rfl | (simp; done) | (simp [*]; done), by repeat (first | exact Drawn0.refl _ | apply Drawn0.step)⟩
          · rw [if_neg c4] at H
            exact absurd H (by simp)
        · rw [if_neg c3] at H
          exact absurd H (by simp)
      · rw [if_neg c2] at H
        have c2b0 : decide (x8_1 < (l0.length : Int)) = false := decide_eq_false c2
        clear c2
        obtain rfl := Option.some.inj H
        go_wp2
        go_ret
        exact ⟨by first | rfl | (simp; done) | (simp [*]; done), by repeat (first | exact Drawn0.refl _ | apply Drawn0.step)⟩

end Go.Proofs.Ytbcnknmgljdmlaa.G
end

section
-- Written by a program of this session (wip/tools/myprint.py), over the kit's print.
namespace Go.Proofs.Ytbcnknmgljdmlaa.G
open Go.RowKit Go.Proofs.YtbcnknmgljdmlaaW.PrintWords Go.Proofs.YtbcnknmgljdmlaaW.PrintLast Go.Proofs.YtbcnknmgljdmlaaW.PrintMore
attribute [local go_sem] max2_int min2_int max_two min_two max_three min_three max_four min_four   -- for this text's walks alone
set_option linter.unusedVariables false
set_option linter.unusedSimpArgs false

/-! ### cmp_isNaN_int: function 46 -/
def cmp_isNaN_int.f (a0 : Int) : Option (Bool) := some (a0 != a0)
set_option maxHeartbeats 8000000 in
set_option maxRecDepth 100000 in
theorem cmp_isNaN_int.calls (a0 : Int) (r : Bool) (w : World) (h : cmp_isNaN_int.f a0 = some r) :
    Calls Try.prog 46 #[.int .i64 a0] w fun e w' => e = .returned (.bool r) ∧ Drawn0 w w' := by
  have H : (some (a0 != a0)) = some r := h
  clear h
  obtain rfl := Option.some.inj H
  go_enter Try.func46, Try.ntmps46
  go_wp2
  go_ret
  exact ⟨by first | rfl | (simp; done) | (simp [*]; done), by repeat (first | exact Drawn0.refl _ | apply Drawn0.step)⟩

end Go.Proofs.Ytbcnknmgljdmlaa.G
end

section
-- Written by a program of this session (wip/tools/myprint.py), over the kit's print.
namespace Go.Proofs.Ytbcnknmgljdmlaa.G
open Go.RowKit Go.Proofs.YtbcnknmgljdmlaaW.PrintWords Go.Proofs.YtbcnknmgljdmlaaW.PrintLast Go.Proofs.YtbcnknmgljdmlaaW.PrintMore
attribute [local go_sem] max2_int min2_int max_two min_two max_three min_three max_four min_four   -- for this text's walks alone
set_option linter.unusedVariables false
set_option linter.unusedSimpArgs false

/-! ### cmp_Compare_int: function 40 -/
def cmp_Compare_int.f (a0 : Int) (a1 : Int) : Option (Int) := (cmp_isNaN_int.f a0).bind fun t106 => ((cmp_isNaN_int.f a1).bind fun t107 => (if t106 = true then (if t107 = true then (some 0) else (some (-1))) else (if t107 = true then (some 1) else (if a0 < a1 then (some (-1)) else (if a0 > a1 then (some 1) else (some 0))))))
set_option maxHeartbeats 8000000 in
set_option maxRecDepth 100000 in
theorem cmp_Compare_int.calls (a0 : Int) (a1 : Int) (r : Int) (w : World) (h : cmp_Compare_int.f a0 a1 = some r) :
    Calls Try.prog 40 #[.int .i64 a0, .int .i64 a1] w fun e w' => e = .returned (.int .i64 r) ∧ Drawn0 w w' := by
  have H : ((cmp_isNaN_int.f a0).bind fun t106 => ((cmp_isNaN_int.f a1).bind fun t107 => (if t106 = true then (if t107 = true then (some 0) else (some (-1))) else (if t107 = true then (some 1) else (if a0 < a1 then (some (-1)) else (if a0 > a1 then (some 1) else (some 0))))))) = some r := h
  clear h
  replace H := Option.bind_eq_some_iff.mp H
  obtain ⟨t106, A30, H⟩ := H
  replace H : ((cmp_isNaN_int.f a1).bind fun t107 => (if t106 = true then (if t107 = true then (some 0) else (some (-1))) else (if t107 = true then (some 1) else (if a0 < a1 then (some (-1)) else (if a0 > a1 then (some 1) else (some 0)))))) = some r := H
  have A3 := Aside0.mk A30
  clear A30
  replace H := Option.bind_eq_some_iff.mp H
  obtain ⟨t107, A40, H⟩ := H
  replace H : (if t106 = true then (if t107 = true then (some 0) else (some (-1))) else (if t107 = true then (some 1) else (if a0 < a1 then (some (-1)) else (if a0 > a1 then (some 1) else (some 0))))) = some r := H
  have A4 := Aside0.mk A40
  clear A40
  by_cases c5 : t106 = true
  · subst c5
    have H1 : (if t107 = true then (some 0) else (some (-1))) = some r := by rw [if_pos rfl] at H; exact H
    clear H
    have H := H1
    clear H1
    by_cases c6 : t107 = true
    · subst c6
      have H1 : (some 0) = some r := by rw [if_pos rfl] at H; exact H
      clear H
      have H := H1
      clear H1
      obtain rfl := Option.some.inj H
      go_enter Try.func40, Try.ntmps40
      go_wp2_with (first | ((with_reducible refine gate_callee (f := 46) rfl ?_); refine goesL_ (some 8) rfl rfl Try.func46 (by kernel_rfl) rfl #[.int .i64 a0] rfl (by (try simp only [List.map_toArray, List.map_cons, List.map_nil]); first | done | rfl | (simp only [List.length_drop, List.length_take]; rfl)) ?_; (with_reducible refine (cmp_isNaN_int.calls a0 true _ A3.out).mono ?_); rintro e w' ⟨rfl, ⟨nd, rfl⟩⟩; refine ⟨_, rfl, ?_⟩) | ((with_reducible refine gate_callee (f := 46) rfl ?_); refine goesL_ (some 10) rfl rfl Try.func46 (by kernel_rfl) rfl #[.int .i64 a1] rfl (by (try simp only [List.map_toArray, List.map_cons, List.map_nil]); first | done | rfl | (simp only [List.length_drop, List.length_take]; rfl)) ?_; (with_reducible refine (cmp_isNaN_int.calls a1 true _ A4.out).mono ?_); rintro e w' ⟨rfl, ⟨nd, rfl⟩⟩; refine ⟨_, rfl, ?_⟩))
      go_ret
      exact ⟨by first | rfl | (simp; done) | (simp [*]; done), by repeat (first | exact Drawn0.refl _ | apply Drawn0.step)⟩
    · replace c6 := Bool.eq_false_iff.mpr c6
      subst c6
      have H1 : (some (-1)) = some r := by rw [if_neg (show ¬ (false = true) by decide)] at H; exact H
      clear H
      have H := H1
      clear H1
      obtain rfl := Option.some.inj H
      go_enter Try.func40, Try.ntmps40
      go_wp2_with (first | ((with_reducible refine gate_callee (f := 46) rfl ?_); refine goesL_ (some 8) rfl rfl Try.func46 (by kernel_rfl) rfl #[.int .i64 a0] rfl (by (try simp only [List.map_toArray, List.map_cons, List.map_nil]); first | done | rfl | (simp only [List.length_drop, List.length_take]; rfl)) ?_; (with_reducible refine (cmp_isNaN_int.calls a0 true _ A3.out).mono ?_); rintro e w' ⟨rfl, ⟨nd, rfl⟩⟩; refine ⟨_, rfl, ?_⟩) | ((with_reducible refine gate_callee (f := 46) rfl ?_); refine goesL_ (some 10) rfl rfl Try.func46 (by kernel_rfl) rfl #[.int .i64 a1] rfl (by (try simp only [List.map_toArray, List.map_cons, List.map_nil]); first | done | rfl | (simp only [List.length_drop, List.length_take]; rfl)) ?_; (with_reducible refine (cmp_isNaN_int.calls a1 false _ A4.out).mono ?_); rintro e w' ⟨rfl, ⟨nd, rfl⟩⟩; refine ⟨_, rfl, ?_⟩))
      go_ret
      exact ⟨by first | rfl | (simp; done) | (simp [*]; done), by repeat (first | exact Drawn0.refl _ | apply Drawn0.step)⟩
  · replace c5 := Bool.eq_false_iff.mpr c5
    subst c5
    have H1 : (if t107 = true then (some 1) else (if a0 < a1 then (some (-1)) else (if a0 > a1 then (some 1) else (some 0)))) = some r := by rw [if_neg (show ¬ (false = true) by decide)] at H; exact H
    clear H
    have H := H1
    clear H1
    by_cases c7 : t107 = true
    · subst c7
      have H1 : (some 1) = some r := by rw [if_pos rfl] at H; exact H
      clear H
      have H := H1
      clear H1
      obtain rfl := Option.some.inj H
      go_enter Try.func40, Try.ntmps40
      go_wp2_with (first | ((with_reducible refine gate_callee (f := 46) rfl ?_); refine goesL_ (some 8) rfl rfl Try.func46 (by kernel_rfl) rfl #[.int .i64 a0] rfl (by (try simp only [List.map_toArray, List.map_cons, List.map_nil]); first | done | rfl | (simp only [List.length_drop, List.length_take]; rfl)) ?_; (with_reducible refine (cmp_isNaN_int.calls a0 false _ A3.out).mono ?_); rintro e w' ⟨rfl, ⟨nd, rfl⟩⟩; refine ⟨_, rfl, ?_⟩) | ((with_reducible refine gate_callee (f := 46) rfl ?_); refine goesL_ (some 10) rfl rfl Try.func46 (by kernel_rfl) rfl #[.int .i64 a1] rfl (by (try simp only [List.map_toArray, List.map_cons, List.map_nil]); first | done | rfl | (simp only [List.length_drop, List.length_take]; rfl)) ?_; (with_reducible refine (cmp_isNaN_int.calls a1 true _ A4.out).mono ?_); rintro e w' ⟨rfl, ⟨nd, rfl⟩⟩; refine ⟨_, rfl, ?_⟩))
      go_ret
      exact ⟨by first | rfl | (simp; done) | (simp [*]; done), by repeat (first | exact Drawn0.refl _ | apply Drawn0.step)⟩
    · replace c7 := Bool.eq_false_iff.mpr c7
      subst c7
      have H1 : (if a0 < a1 then (some (-1)) else (if a0 > a1 then (some 1) else (some 0))) = some r := by rw [if_neg (show ¬ (false = true) by decide)] at H; exact H
      clear H
      have H := H1
      clear H1
      by_cases c8 : a0 < a1
      · rw [if_pos c8] at H
        have c8b0 : decide (a0 < a1) = true := decide_eq_true c8
        clear c8
        obtain rfl := Option.some.inj H
        go_enter Try.func40, Try.ntmps40
        go_wp2_with (first | ((with_reducible refine gate_callee (f := 46) rfl ?_); refine goesL_ (some 8) rfl rfl Try.func46 (by kernel_rfl) rfl #[.int .i64 a0] rfl (by (try simp only [List.map_toArray, List.map_cons, List.map_nil]); first | done | rfl | (simp only [List.length_drop, List.length_take]; rfl)) ?_; (with_reducible refine (cmp_isNaN_int.calls a0 false _ A3.out).mono ?_); rintro e w' ⟨rfl, ⟨nd, rfl⟩⟩; refine ⟨_, rfl, ?_⟩) | ((with_reducible refine gate_callee (f := 46) rfl ?_); refine goesL_ (some 10) rfl rfl Try.func46 (by kernel_rfl) rfl #[.int .i64 a1] rfl (by (try simp only [List.map_toArray, List.map_cons, List.map_nil]); first | done | rfl | (simp only [List.length_drop, List.length_take]; rfl)) ?_; (with_reducible refine (cmp_isNaN_int.calls a1 false _ A4.out).mono ?_); rintro e w' ⟨rfl, ⟨nd, rfl⟩⟩; refine ⟨_, rfl, ?_⟩))
        go_ret
        exact ⟨by first | rfl | (simp; done) | (simp [*]; done), by repeat (first | exact Drawn0.refl _ | apply Drawn0.step)⟩
      · rw [if_neg c8] at H
        have c8b0 : decide (a0 < a1) = false := decide_eq_false c8
        clear c8
        by_cases c9 : a0 > a1
        · rw [if_pos c9] at H
          have c9b0 : decide (a1 < a0) = true := decide_eq_true c9
          clear c9
          obtain rfl := Option.some.inj H
          go_enter Try.func40, Try.ntmps40
          go_wp2_with (first | ((with_reducible refine gate_callee (f := 46) rfl ?_); refine goesL_ (some 8) rfl rfl Try.func46 (by kernel_rfl) rfl #[.int .i64 a0] rfl (by (try simp only [List.map_toArray, List.map_cons, List.map_nil]); first | done | rfl | (simp only [List.length_drop, List.length_take]; rfl)) ?_; (with_reducible refine (cmp_isNaN_int.calls a0 false _ A3.out).mono ?_); rintro e w' ⟨rfl, ⟨nd, rfl⟩⟩; refine ⟨_, rfl, ?_⟩) | ((with_reducible refine gate_callee (f := 46) rfl ?_); refine goesL_ (some 10) rfl rfl Try.func46 (by kernel_rfl) rfl #[.int .i64 a1] rfl (by (try simp only [List.map_toArray, List.map_cons, List.map_nil]); first | done | rfl | (simp only [List.length_drop, List.length_take]; rfl)) ?_; (with_reducible refine (cmp_isNaN_int.calls a1 false _ A4.out).mono ?_); rintro e w' ⟨rfl, ⟨nd, rfl⟩⟩; refine ⟨_, rfl, ?_⟩))
          go_ret
          exact ⟨by first | rfl | (simp; done) | (simp [*]; done), by repeat (first | exact Drawn0.refl _ | apply Drawn0.step)⟩
        · rw [if_neg c9] at H
          have c9b0 : decide (a1 < a0) = false := decide_eq_false c9
          clear c9
          obtain rfl := Option.some.inj H
          go_enter Try.func40, Try.ntmps40
          go_wp2_with (first | ((with_reducible refine gate_callee (f := 46) rfl ?_); refine goesL_ (some 8) rfl rfl Try.func46 (by kernel_rfl) rfl #[.int .i64 a0] rfl (by (try simp only [List.map_toArray, List.map_cons, List.map_nil]); first | done | rfl | (simp only [List.length_drop, List.length_take]; rfl)) ?_; (with_reducible refine (cmp_isNaN_int.calls a0 false _ A3.out).mono ?_); rintro e w' ⟨rfl, ⟨nd, rfl⟩⟩; refine ⟨_, rfl, ?_⟩) | ((with_reducible refine gate_callee (f := 46) rfl ?_); refine goesL_ (some 10) rfl rfl Try.func46 (by kernel_rfl) rfl #[.int .i64 a1] rfl (by (try simp only [List.map_toArray, List.map_cons, List.map_nil]); first | done | rfl | (simp only [List.length_drop, List.length_take]; rfl)) ?_; (with_reducible refine (cmp_isNaN_int.calls a1 false _ A4.out).mono ?_); rintro e w' ⟨rfl, ⟨nd, rfl⟩⟩; refine ⟨_, rfl, ?_⟩))
          go_ret
          exact ⟨by first | rfl | (simp; done) | (simp [*]; done), by repeat (first | exact Drawn0.refl _ | apply Drawn0.step)⟩

end Go.Proofs.Ytbcnknmgljdmlaa.G
end

section
-- Written by a program of this session (wip/tools/myprint.py), over the kit's print.
namespace Go.Proofs.Ytbcnknmgljdmlaa.G
open Go.RowKit Go.Proofs.YtbcnknmgljdmlaaW.PrintWords Go.Proofs.YtbcnknmgljdmlaaW.PrintLast Go.Proofs.YtbcnknmgljdmlaaW.PrintMore
attribute [local go_sem] max2_int min2_int max_two min_two max_three min_three max_four min_four   -- for this text's walks alone
set_option linter.unusedVariables false
set_option linter.unusedSimpArgs false

/-! ### value_Compare: function 33 -/
def value_Compare.f (k : Nat) (a0_0 : Int) (a0_1 : Int) (a0_2 : ByteArray) (a1_0 : Int) (a1_1 : Int) (a1_2 : ByteArray) : Option (Int) := (cmp_Compare_int.f a0_0 a1_0).bind fun t110 => ((cmp_Compare_int.f a0_1 a1_1).bind fun t111 => ((strings_Compare.f a0_2 a1_2).bind fun t112 => ((cmp_Or_int.f k (([t110, t111, t112] : List Int))).bind fun t116 => (some t116))))
theorem value_Compare.mono : ∀ a0 a1 a2 a3 a4 a5 k, LeO (value_Compare.f k a0 a1 a2 a3 a4 a5) (value_Compare.f (k + 1) a0 a1 a2 a3 a4 a5) := by
  intro a0 a1 a2 a3 a4 a5 k
  unfold value_Compare.f
  repeat' first
      | (with_reducible exact cmp_Or_int.mono _ _)
      | (with_reducible exact LeO.refl _)
      | (with_reducible exact LeO.none _)
      | (with_reducible refine LeO.ite ?_ ?_)
      | (with_reducible refine LeO.bind ?_ (fun _ => ?_))
      | exact cmp_Or_int.mono _ _
      | exact LeO.none _
      | refine LeO.ite ?_ ?_
      | refine LeO.bind ?_ (fun _ => ?_)
def value_Compare.T1 : Bool × List (List Nat × List Nat) := (true, [([], []), ([0], [0]), ([], []), ([2], [2]), ([1, 3], [1, 3]), ([], []), ([5], [5]), ([], []), ([7], [7]), ([6, 8, 4], [6, 8]), ([], []), ([10], [10]), ([], []), ([12], [12]), ([11, 13, 9], [11, 13]), ([4, 9, 14], [4, 9, 14]), ([15, 14], [15]), ([16, 16, 0, 1, 2, 3, 4, 5, 6, 7, 8, 9, 10, 11, 12, 13, 14, 15, 16], [16])])
def value_Compare.B1 : List Nat := [0, 1, 0, 4, 15, 0, 32, 0, 128, 511, 0, 1024, 0, 4096, 16383, 32767, 65535, 131071]
theorem value_Compare.tab1 : rtab .any (opsOf Try.f33 1) = value_Compare.T1 := by kernel_rfl
theorem value_Compare.bits1 : waitsOk value_Compare.T1.2 value_Compare.B1 = true := by kernel_rfl
set_option maxHeartbeats 8000000 in
set_option maxRecDepth 100000 in
theorem value_Compare.calls (k : Nat) (a0_0 : Int) (a0_1 : Int) (a0_2 : ByteArray) (a1_0 : Int) (a1_1 : Int) (a1_2 : ByteArray) (r : Int) (w : World) (h : value_Compare.f k a0_0 a0_1 a0_2 a1_0 a1_1 a1_2 = some r) :
    Calls Try.prog 33 #[.agg #[.int .i64 a0_0, .int .i64 a0_1, .string a0_2], .agg #[.int .i64 a1_0, .int .i64 a1_1, .string a1_2]] w fun e w' => e = .returned (.int .i64 r) ∧ Below w.heap.size w w' := by
  have hu45 := Try.underlying45
  have HB := Aside0.mk (Below.refl w.heap.size w)
  have H : ((cmp_Compare_int.f a0_0 a1_0).bind fun t110 => ((cmp_Compare_int.f a0_1 a1_1).bind fun t111 => ((strings_Compare.f a0_2 a1_2).bind fun t112 => ((cmp_Or_int.f k (([t110, t111, t112] : List Int))).bind fun t116 => (some t116))))) = some r := h
  clear h
  replace H := Option.bind_eq_some_iff.mp H
  obtain ⟨t110, A30, H⟩ := H
  replace H : ((cmp_Compare_int.f a0_1 a1_1).bind fun t111 => ((strings_Compare.f a0_2 a1_2).bind fun t112 => ((cmp_Or_int.f k (([t110, t111, t112] : List Int))).bind fun t116 => (some t116)))) = some r := H
  have A3 := Aside0.mk A30
  clear A30
  replace H := Option.bind_eq_some_iff.mp H
  obtain ⟨t111, A40, H⟩ := H
  replace H : ((strings_Compare.f a0_2 a1_2).bind fun t112 => ((cmp_Or_int.f k (([t110, t111, t112] : List Int))).bind fun t116 => (some t116))) = some r := H
  have A4 := Aside0.mk A40
  clear A40
  replace H := Option.bind_eq_some_iff.mp H
  obtain ⟨t112, A50, H⟩ := H
  replace H : ((cmp_Or_int.f k (([t110, t111, t112] : List Int))).bind fun t116 => (some t116)) = some r := H
  have A5 := Aside0.mk A50
  clear A50
  obtain ⟨y113, hy113⟩ : ∃ y_ : List Int, y_ = (([t110, t111, t112] : List Int)) := ⟨_, rfl⟩
  replace H : ((cmp_Or_int.f k y113).bind fun t116 => (some t116)) = some r := by first | (rw [hy113]; with_reducible exact H) | (have H2_ := (Option.bind_some _ _).symm.trans H; rw [hy113]; with_reducible exact H2_) | (have H2_ := (Option.bind_some _ _).symm.trans H; with_reducible exact H2_) | with_reducible exact H | (rw [hy113]; exact H) | exact H
  have Ny113 := Aside0.mk hy113
  clear hy113
  replace H := Option.bind_eq_some_iff.mp H
  obtain ⟨t116, A60, H⟩ := H
  replace H : (some t116) = some r := H
  have A6 := Aside0.mk A60
  clear A60
  obtain rfl := Option.some.inj H
  go_enter Try.func33, Try.ntmps33
  try go_wp2_with (first | ((with_reducible refine gate_dst (N := 2) rfl ?_); refine box_event ?hg (N := 2) ?hd (cs := #[.int .i64 a0_0, .int .i64 a0_1, .string a0_2]) (t := 45) ?hr ?_; (case hd => rfl); (case hg => rfl); (case hr => first | (go_simp; done) | (go_simp; rfl)); intro gb108 hg w7 hbox hb; have n0_ := Aside0.mk (below_step (by repeat (first | (with_reducible first | exact HB.out | apply below_alloc | apply pw_below_drewN | apply below_drew1) | exact HB.out)) hb); have n1_ := Aside0.mk (hbox); have n2_ := Aside0.mk ((by rw [hg]; exact (below_size (by repeat (first | (with_reducible first | exact HB.out | apply below_alloc | apply pw_below_drewN | apply below_drew1) | exact HB.out))) : w.heap.size ≤ gb108)); have n3_ := Aside0.mk ((by rw [hg]; exact (below_size (by repeat (first | (with_reducible first | exact HB.out | apply below_alloc | apply pw_below_drewN | apply below_drew1) | exact HB.out))) : w.heap.size ≤ gb108)); clear HB; have HB := n0_; have BK108 := n1_; have GW108 := n2_; have GE108 := n3_; clear n0_ n1_ n2_ n3_; clear hb hbox hg) | ((with_reducible refine gate_dst (N := 3) rfl ?_); refine box_event ?hg (N := 3) ?hd (cs := #[.int .i64 a1_0, .int .i64 a1_1, .string a1_2]) (t := 45) ?hr ?_; (case hd => rfl); (case hg => rfl); (case hr => first | (go_simp; done) | (go_simp; rfl)); intro gb109 hg w8 hbox hb; have n0_ := Aside0.mk (blk_below (g := gb108) (o := .cells #[.int .i64 a0_0, .int .i64 a0_1, .string a0_2] 45 (0, 0)) (by (with_reducible repeat (first | refine blk_drewN ?_ _ | refine blk_drew ?_ | refine blk_alloc ?_ _)); exact BK108.out) hb); have n1_ := Aside0.mk (below_step (by repeat (first | (with_reducible first | exact HB.out | apply below_alloc | apply pw_below_drewN | apply below_drew1 | refine below_set ?_ GE108.out) | exact HB.out)) hb); have n2_ := Aside0.mk (hbox); have n3_ := Aside0.mk ((by rw [hg]; exact (below_size (by repeat (first | (with_reducible first | exact HB.out | apply below_alloc | apply pw_below_drewN | apply below_drew1 | refine below_set ?_ GE108.out) | exact HB.out))) : w.heap.size ≤ gb109)); have n4_ := Aside0.mk ((by rw [hg]; exact (below_size (by repeat (first | (with_reducible first | exact HB.out | apply below_alloc | apply pw_below_drewN | apply below_drew1 | refine below_set ?_ GE108.out) | exact HB.out))) : w.heap.size ≤ gb109)); have n5_ := Aside0.mk ((by rw [hg]; exact Nat.ne_of_lt (blk_lt (g := gb108) (o := .cells #[.int .i64 a0_0, .int .i64 a0_1, .string a0_2] 45 (0, 0)) (by (with_reducible repeat (first | refine blk_drewN ?_ _ | refine blk_drew ?_ | refine blk_alloc ?_ _)); exact BK108.out)) : gb108 ≠ gb109)); have n6_ := Aside0.mk ((by rw [hg]; exact Nat.ne_of_gt (blk_lt (g := gb108) (o := .cells #[.int .i64 a0_0, .int .i64 a0_1, .string a0_2] 45 (0, 0)) (by (with_reducible repeat (first | refine blk_drewN ?_ _ | refine blk_drew ?_ | refine blk_alloc ?_ _)); exact BK108.out)) : gb109 ≠ gb108)); clear BK108; clear HB; have BK108 := n0_; have HB := n1_; have BK109 := n2_; have GW109 := n3_; have GE109 := n4_; have NB108_109 := n5_; have NB109_108 := n6_; clear n0_ n1_ n2_ n3_ n4_ n5_ n6_; clear hb hbox hg))
  have n0_ := Aside0.mk (blk_drew BK108.out)
  have n1_ := Aside0.mk (blk_drew BK109.out)
  have n2_ := Aside0.mk (below_drew1 HB.out)
  clear BK108
  clear BK109
  clear HB
  have BK108 := n0_
  have BK109 := n1_
  have HB := n2_
  clear n0_ n1_ n2_
  refine start_ (n := 18) (S := fun w' => w'.cell? ⟨gb108, 0, none⟩ = some (.int .i64 a0_0) ∧ w'.cell? ⟨gb108, 1, none⟩ = some (.int .i64 a0_1) ∧ w'.cell? ⟨gb108, 2, none⟩ = some (.string a0_2) ∧ w'.cell? ⟨gb109, 0, none⟩ = some (.int .i64 a1_0) ∧ w'.cell? ⟨gb109, 1, none⟩ = some (.int .i64 a1_1) ∧ w'.cell? ⟨gb109, 2, none⟩ = some (.string a1_2)) (ds := []) #[false, false, false, false, false, false, false, false, false, false, false, false, false, false, false, false, false, false] (by kernel_rfl) rfl rfl ⟨(blk_cell BK108.out 0).trans rfl, (blk_cell BK108.out 1).trans rfl, (blk_cell BK108.out 2).trans rfl, (blk_cell BK109.out 0).trans rfl, (blk_cell BK109.out 1).trans rfl, (blk_cell BK109.out 2).trans rfl⟩ (fun hHeld => ?_); refine with_tabW value_Compare.tab1 value_Compare.bits1 (fun HT_ HW_ => ?_)
  generalize w8.drew = w9 at BK108 BK109 HB hHeld ⊢
  refine pure_ (i := 0) (N := some 5) (v := ?_) (a' := ?_) #[true, false, false, false, false, false, false, false, false, false, false, false, false, false, false, false, false, false] rfl rfl (any_of HT_.out (by kernel_rfl)) (fun _ _ _ h => h) (Or.inl ⟨by rfl, ?_⟩) ?_ ?_
  rotate_left
  · intro w'
    go_simp
    with_reducible rfl
  rotate_left
  · simp only [Act.put, List.setIfInBounds_toArray, List.set_cons_zero, List.set_cons_succ, i64_w, i32_w]
    rfl
  refine pure_ (i := 2) (N := some 7) (v := ?_) (a' := ?_) #[true, false, true, false, false, false, false, false, false, false, false, false, false, false, false, false, false, false] rfl rfl (any_of HT_.out (by kernel_rfl)) (fun _ _ _ h => h) (Or.inl ⟨by rfl, ?_⟩) ?_ ?_
  rotate_left
  · intro w'
    go_simp
    with_reducible rfl
  rotate_left
  · simp only [Act.put, List.setIfInBounds_toArray, List.set_cons_zero, List.set_cons_succ, i64_w, i32_w]
    rfl
  refine pure_ (i := 5) (N := some 10) (v := ?_) (a' := ?_) #[true, false, true, false, false, true, false, false, false, false, false, false, false, false, false, false, false, false] rfl rfl (any_of HT_.out (by kernel_rfl)) (fun _ _ _ h => h) (Or.inl ⟨by rfl, ?_⟩) ?_ ?_
  rotate_left
  · intro w'
    go_simp
    with_reducible rfl
  rotate_left
  · simp only [Act.put, List.setIfInBounds_toArray, List.set_cons_zero, List.set_cons_succ, i64_w, i32_w]
    rfl
  refine pure_ (i := 7) (N := some 12) (v := ?_) (a' := ?_) #[true, false, true, false, false, true, false, true, false, false, false, false, false, false, false, false, false, false] rfl rfl (any_of HT_.out (by kernel_rfl)) (fun _ _ _ h => h) (Or.inl ⟨by rfl, ?_⟩) ?_ ?_
  rotate_left
  · intro w'
    go_simp
    with_reducible rfl
  rotate_left
  · simp only [Act.put, List.setIfInBounds_toArray, List.set_cons_zero, List.set_cons_succ, i64_w, i32_w]
    rfl
  refine pure_ (i := 10) (N := some 15) (v := ?_) (a' := ?_) #[true, false, true, false, false, true, false, true, false, false, true, false, false, false, false, false, false, false] rfl rfl (any_of HT_.out (by kernel_rfl)) (fun _ _ _ h => h) (Or.inl ⟨by rfl, ?_⟩) ?_ ?_
  rotate_left
  · intro w'
    go_simp
    with_reducible rfl
  rotate_left
  · simp only [Act.put, List.setIfInBounds_toArray, List.set_cons_zero, List.set_cons_succ, i64_w, i32_w]
    rfl
  refine pure_ (i := 12) (N := some 17) (v := ?_) (a' := ?_) #[true, false, true, false, false, true, false, true, false, false, true, false, true, false, false, false, false, false] rfl rfl (any_of HT_.out (by kernel_rfl)) (fun _ _ _ h => h) (Or.inl ⟨by rfl, ?_⟩) ?_ ?_
  rotate_left
  · intro w'
    go_simp
    with_reducible rfl
  rotate_left
  · simp only [Act.put, List.setIfInBounds_toArray, List.set_cons_zero, List.set_cons_succ, i64_w, i32_w]
    rfl
  refine take_ (i := 1) (N := some 6) (v := ?_) (a' := ?_) #[true, true, true, false, false, true, false, true, false, false, true, false, true, false, false, false, false, false] rfl rfl (take_ofW HT_.out HW_.out (by kernel_rfl)) (fun _ _ _ h => h) (Or.inl ⟨by rfl, ?_⟩) hHeld ?_ ?_
  rotate_left
  · rintro w' ⟨s0, s1, s2, s3, s4, s5⟩
    go_simp
    with_reducible rfl
  rotate_left
  · simp only [Act.put, List.setIfInBounds_toArray, List.set_cons_zero, List.set_cons_succ, i64_w, i32_w]
    rfl
  refine take_ (i := 3) (N := some 8) (v := ?_) (a' := ?_) #[true, true, true, true, false, true, false, true, false, false, true, false, true, false, false, false, false, false] rfl rfl (take_ofW HT_.out HW_.out (by kernel_rfl)) (fun _ _ _ h => h) (Or.inl ⟨by rfl, ?_⟩) hHeld ?_ ?_
  rotate_left
  · rintro w' ⟨s0, s1, s2, s3, s4, s5⟩
    go_simp
    with_reducible rfl
  rotate_left
  · simp only [Act.put, List.setIfInBounds_toArray, List.set_cons_zero, List.set_cons_succ, i64_w, i32_w]
    rfl
  refine take_ (i := 6) (N := some 11) (v := ?_) (a' := ?_) #[true, true, true, true, false, true, true, true, false, false, true, false, true, false, false, false, false, false] rfl rfl (take_ofW HT_.out HW_.out (by kernel_rfl)) (fun _ _ _ h => h) (Or.inl ⟨by rfl, ?_⟩) hHeld ?_ ?_
  rotate_left
  · rintro w' ⟨s0, s1, s2, s3, s4, s5⟩
    go_simp
    with_reducible rfl
  rotate_left
  · simp only [Act.put, List.setIfInBounds_toArray, List.set_cons_zero, List.set_cons_succ, i64_w, i32_w]
    rfl
  refine take_ (i := 8) (N := some 13) (v := ?_) (a' := ?_) #[true, true, true, true, false, true, true, true, true, false, true, false, true, false, false, false, false, false] rfl rfl (take_ofW HT_.out HW_.out (by kernel_rfl)) (fun _ _ _ h => h) (Or.inl ⟨by rfl, ?_⟩) hHeld ?_ ?_
  rotate_left
  · rintro w' ⟨s0, s1, s2, s3, s4, s5⟩
    go_simp
    with_reducible rfl
  rotate_left
  · simp only [Act.put, List.setIfInBounds_toArray, List.set_cons_zero, List.set_cons_succ, i64_w, i32_w]
    rfl
  refine take_ (i := 11) (N := some 16) (v := ?_) (a' := ?_) #[true, true, true, true, false, true, true, true, true, false, true, true, true, false, false, false, false, false] rfl rfl (take_ofW HT_.out HW_.out (by kernel_rfl)) (fun _ _ _ h => h) (Or.inl ⟨by rfl, ?_⟩) hHeld ?_ ?_
  rotate_left
  · rintro w' ⟨s0, s1, s2, s3, s4, s5⟩
    go_simp
    with_reducible rfl
  rotate_left
  · simp only [Act.put, List.setIfInBounds_toArray, List.set_cons_zero, List.set_cons_succ, i64_w, i32_w]
    rfl
  refine take_ (i := 13) (N := some 18) (v := ?_) (a' := ?_) #[true, true, true, true, false, true, true, true, true, false, true, true, true, true, false, false, false, false] rfl rfl (take_ofW HT_.out HW_.out (by kernel_rfl)) (fun _ _ _ h => h) (Or.inl ⟨by rfl, ?_⟩) hHeld ?_ ?_
  rotate_left
  · rintro w' ⟨s0, s1, s2, s3, s4, s5⟩
    go_simp
    with_reducible rfl
  rotate_left
  · simp only [Act.put, List.setIfInBounds_toArray, List.set_cons_zero, List.set_cons_succ, i64_w, i32_w]
    rfl
  refine one_ (i := 4) (N := some 9) #[true, true, true, true, true, true, true, true, true, false, true, true, true, true, false, false, false, false] rfl rfl (one_of HT_.out (by kernel_rfl)) (by decide) (fun K hK => ?_)
  refine goes_ Try.func40 (by kernel_rfl) rfl #[.int .i64 a0_0, .int .i64 a1_0] (by rfl) rfl rfl (by (try simp only [List.map_toArray, List.map_cons, List.map_nil]); first | done | rfl | (simp only [List.length_drop, List.length_take]; rfl)) ?_
  with_reducible refine (cmp_Compare_int.calls a0_0 a1_0 t110 _ A3.out).mono ?_
  rintro e w' ⟨rfl, ⟨nd, rfl⟩⟩
  refine ⟨_, rfl, ?_⟩
  refine hK.out _ _ ⟨(blk_cell BK108.out 0).trans rfl, (blk_cell BK108.out 1).trans rfl, (blk_cell BK108.out 2).trans rfl, (blk_cell BK109.out 0).trans rfl, (blk_cell BK109.out 1).trans rfl, (blk_cell BK109.out 2).trans rfl⟩ (fun hHeld => ?_)
  clear hK K
  refine norm_ (a' := ?_) ?_ ?_
  rotate_left
  · show Act.put _ (some 9) _ = _
    simp only [Act.put, List.setIfInBounds_toArray, List.set_cons_zero, List.set_cons_succ, i64_w, i32_w]
    rfl
  refine one_ (i := 9) (N := some 14) #[true, true, true, true, true, true, true, true, true, true, true, true, true, true, false, false, false, false] rfl rfl (one_of HT_.out (by kernel_rfl)) (by decide) (fun K hK => ?_)
  refine goes_ Try.func40 (by kernel_rfl) rfl #[.int .i64 a0_1, .int .i64 a1_1] (by rfl) rfl rfl (by (try simp only [List.map_toArray, List.map_cons, List.map_nil]); first | done | rfl | (simp only [List.length_drop, List.length_take]; rfl)) ?_
  with_reducible refine (cmp_Compare_int.calls a0_1 a1_1 t111 _ A4.out).mono ?_
  rintro e w' ⟨rfl, ⟨nd, rfl⟩⟩
  refine ⟨_, rfl, ?_⟩
  refine hK.out _ _ ⟨(blk_cell BK108.out 0).trans rfl, (blk_cell BK108.out 1).trans rfl, (blk_cell BK108.out 2).trans rfl, (blk_cell BK109.out 0).trans rfl, (blk_cell BK109.out 1).trans rfl, (blk_cell BK109.out 2).trans rfl⟩ (fun hHeld => ?_)
  clear hK K
  refine norm_ (a' := ?_) ?_ ?_
  rotate_left
  · show Act.put _ (some 14) _ = _
    simp only [Act.put, List.setIfInBounds_toArray, List.set_cons_zero, List.set_cons_succ, i64_w, i32_w]
    rfl
  refine one_ (i := 14) (N := some 19) #[true, true, true, true, true, true, true, true, true, true, true, true, true, true, true, false, false, false] rfl rfl (one_of HT_.out (by kernel_rfl)) (by decide) (fun K hK => ?_)
  refine goes_ Try.func31 (by kernel_rfl) rfl #[.string a0_2, .string a1_2] (by rfl) rfl rfl (by (try simp only [List.map_toArray, List.map_cons, List.map_nil]); first | done | rfl | (simp only [List.length_drop, List.length_take]; rfl)) ?_
  with_reducible refine (strings_Compare.calls a0_2 a1_2 t112 _ A5.out).mono ?_
  rintro e w' ⟨rfl, ⟨nd, rfl⟩⟩
  refine ⟨_, rfl, ?_⟩
  refine hK.out _ _ ⟨(blk_cell BK108.out 0).trans rfl, (blk_cell BK108.out 1).trans rfl, (blk_cell BK108.out 2).trans rfl, (blk_cell BK109.out 0).trans rfl, (blk_cell BK109.out 1).trans rfl, (blk_cell BK109.out 2).trans rfl⟩ (fun hHeld => ?_)
  clear hK K
  refine norm_ (a' := ?_) ?_ ?_
  rotate_left
  · show Act.put _ (some 19) _ = _
    simp only [Act.put, List.setIfInBounds_toArray, List.set_cons_zero, List.set_cons_succ, i64_w, i32_w]
    rfl
  refine one_ (i := 15) (N := some 20) #[true, true, true, true, true, true, true, true, true, true, true, true, true, true, true, true, false, false] rfl rfl (one_of HT_.out (by kernel_rfl)) (by decide) (fun K hK => ?_)
  refine Kd.R_lit_step (Kd.int .i64) _ 3 ?hg (N := 20) ?hd (xs := ([t110, t111, t112] : List Int)) (inner := [.int .i64 t110, .int .i64 t111, .int .i64 t112]) (ok := fun _ => True) (okp := fun _ => True) ?hr ?hp (fun _ hk => hk) trivial (Below.refl _ _) (Nat.le_refl _) (by simp) ?_; (case hd => rfl); (case hg => rfl); (case hr => first | (go_simp; done) | (go_simp; rfl)); (case hp => exact (Reps.one (show Kd.M (Kd.int .i64) _ _ _ t110 [.int .i64 t110] from rfl) (Reps.one (show Kd.M (Kd.int .i64) _ _ _ t111 [.int .i64 t111] from rfl) (Reps.one (show Kd.M (Kd.int .i64) _ _ _ t112 [.int .i64 t112] from rfl) (Reps.none _ _)))))
  intro v114 w10 ho11 hb hg_ hnew_
  clear hg_ hnew_
  (first | rw [← Ny113.out] at ho11 | (simp only [Int.reduceToNat] at ho11; rw [← Ny113.out] at ho11))
  have n0_ := Aside0.mk (Kd.R_lower ho11 (below_size (by repeat (first | (with_reducible first | exact HB.out | apply below_alloc | apply pw_below_drewN | apply below_drew1 | refine below_set ?_ GE108.out | refine below_set ?_ GE109.out) | exact HB.out))))
  have n1_ := Aside0.mk (blk_below (g := gb108) (o := .cells #[.int .i64 a0_0, .int .i64 a0_1, .string a0_2] 45 (0, 0)) (by (with_reducible repeat (first | refine blk_drewN ?_ _ | refine blk_drew ?_ | refine blk_alloc ?_ _)); exact BK108.out) hb)
  have n2_ := Aside0.mk (blk_below (g := gb109) (o := .cells #[.int .i64 a1_0, .int .i64 a1_1, .string a1_2] 45 (0, 0)) (by (with_reducible repeat (first | refine blk_drewN ?_ _ | refine blk_drew ?_ | refine blk_alloc ?_ _)); exact BK109.out) hb)
  have n3_ := Aside0.mk (below_step (by repeat (first | (with_reducible first | exact HB.out | apply below_alloc | apply pw_below_drewN | apply below_drew1 | refine below_set ?_ GE108.out | refine below_set ?_ GE109.out) | exact HB.out)) hb)
  clear BK108
  clear BK109
  clear HB
  have HO115 := n0_
  have BK108 := n1_
  have BK109 := n2_
  have HB := n3_
  clear n0_ n1_ n2_ n3_
  clear hb ho11
  obtain ⟨Ao12, co12, eo12⟩ := Kd.R_slice HO115.out
  (first | subst eo12 | (injection eo12 with f1_ f2_ f3_; have f4_ := f1_.symm; have f5_ := f3_.symm; clear f1_ f2_ f3_; subst f4_; subst f5_))
  refine hK.out _ _ ⟨(blk_cell BK108.out 0).trans rfl, (blk_cell BK108.out 1).trans rfl, (blk_cell BK108.out 2).trans rfl, (blk_cell BK109.out 0).trans rfl, (blk_cell BK109.out 1).trans rfl, (blk_cell BK109.out 2).trans rfl⟩ (fun hHeld => ?_)
  clear hK K
  refine norm_ (a' := ?_) ?_ ?_
  rotate_left
  · show Act.put _ (some 20) _ = _
    simp only [Act.put, List.setIfInBounds_toArray, List.set_cons_zero, List.set_cons_succ, i64_w, i32_w]
    rfl
  refine one_ (i := 16) (N := some 21) #[true, true, true, true, true, true, true, true, true, true, true, true, true, true, true, true, true, false] rfl rfl (one_of HT_.out (by kernel_rfl)) (by decide) (fun K hK => ?_)
  refine goes_ Try.func39 (by kernel_rfl) rfl #[.slice Ao12 y113.length co12] (by rfl) rfl rfl (by (try simp only [List.map_toArray, List.map_cons, List.map_nil]); first | done | rfl | (simp only [List.length_drop, List.length_take]; rfl)) ?_
  with_reducible refine (cmp_Or_int.calls k _ _ y113 t116 _ ?side1 ?side2 A6.out).mono ?_
  (case side1 => repeat (first | exact (Kd.R_reads' HO115.out).2.2 | (with_reducible refine Kd.C_alloc ?_ _) | (with_reducible refine Kd.C_drewN ?_ _) | (with_reducible refine Kd.C_drew ?_)))
  (case side2 => exact (Kd.R_reads' HO115.out).2.1)
  rintro e w' ⟨rfl, ⟨nd, rfl⟩⟩
  refine ⟨_, rfl, ?_⟩
  refine hK.out _ _ ⟨(blk_cell BK108.out 0).trans rfl, (blk_cell BK108.out 1).trans rfl, (blk_cell BK108.out 2).trans rfl, (blk_cell BK109.out 0).trans rfl, (blk_cell BK109.out 1).trans rfl, (blk_cell BK109.out 2).trans rfl⟩ (fun hHeld => ?_)
  clear hK K
  refine norm_ (a' := ?_) ?_ ?_
  rotate_left
  · show Act.put _ (some 21) _ = _
    simp only [Act.put, List.setIfInBounds_toArray, List.set_cons_zero, List.set_cons_succ, i64_w, i32_w]
    rfl
  refine pure_ (i := 17) (N := some 4) (v := ?_) (a' := ?_) #[true, true, true, true, true, true, true, true, true, true, true, true, true, true, true, true, true, true] rfl rfl (any_of HT_.out (by kernel_rfl)) (fun _ _ _ h => h) (Or.inl ⟨by rfl, ?_⟩) ?_ ?_
  rotate_left
  · intro w'
    go_simp
    with_reducible rfl
  rotate_left
  · simp only [Act.put, List.setIfInBounds_toArray, List.set_cons_zero, List.set_cons_succ, i64_w, i32_w]
    rfl
  refine done_ (done_of HT_.out (by kernel_rfl)) ?_
  try go_wp2
  go_ret
  exact ⟨by first | rfl | (simp [errW_none, errW_some] <;> rfl) | (simp [*, errW_none, errW_some] <;> rfl), by repeat (first | (with_reducible first | exact HB.out | apply below_alloc | apply pw_below_drewN | apply below_drew1 | refine below_set ?_ GE108.out | refine below_set ?_ GE109.out) | exact HB.out)⟩

end Go.Proofs.Ytbcnknmgljdmlaa.G
end

section
-- Written by a program of this session (wip/tools/myprint.py), over the kit's print.
namespace Go.Proofs.Ytbcnknmgljdmlaa.G
open Go.RowKit Go.Proofs.YtbcnknmgljdmlaaW.PrintWords Go.Proofs.YtbcnknmgljdmlaaW.PrintLast Go.Proofs.YtbcnknmgljdmlaaW.PrintMore
attribute [local go_sem] max2_int min2_int max_two min_two max_three min_three max_four min_four   -- for this text's walks alone
set_option linter.unusedVariables false
set_option linter.unusedSimpArgs false

/-! ### stringslite_HasPrefix: function 41 -/
def stringslite_HasPrefix.f (a0 : ByteArray) (a1 : ByteArray) : Option (Bool) := if (a0.size : Int) ≥ (a1.size : Int) then (if 0 ≤ (a1.size : Int) then (if (a1.size : Int) ≤ (a0.size : Int) then (some ((a0.extract 0 ((a1.size : Int) : Int).toNat).toList == a1.toList)) else (none)) else (none)) else (some false)
set_option maxHeartbeats 8000000 in
set_option maxRecDepth 100000 in
theorem stringslite_HasPrefix.calls (a0 : ByteArray) (a1 : ByteArray) (r : Bool) (w : World) (h : stringslite_HasPrefix.f a0 a1 = some r) :
    Calls Try.prog 41 #[.string a0, .string a1] w fun e w' => e = .returned (.bool r) ∧ Drawn0 w w' := by
  have H : (if (a0.size : Int) ≥ (a1.size : Int) then (if 0 ≤ (a1.size : Int) then (if (a1.size : Int) ≤ (a0.size : Int) then (some ((a0.extract 0 ((a1.size : Int) : Int).toNat).toList == a1.toList)) else (none)) else (none)) else (some false)) = some r := h
  clear h
  by_cases c3 : (a0.size : Int) ≥ (a1.size : Int)
  · rw [if_pos c3] at H
    have c3b0 : decide ((a1.size : Int) ≤ (a0.size : Int)) = true := decide_eq_true c3
    have c3b1 : decide (a1.size ≤ a0.size) = true := decide_eq_true (Int.ofNat_le.mp c3)
    clear c3
    by_cases c4 : 0 ≤ (a1.size : Int)
    · rw [if_pos c4] at H
      have c4b0 := eq_true c4
      have c4b1 : decide (0 ≤ (a1.size : Int)) = true := decide_eq_true c4
      clear c4
      by_cases c5 : (a1.size : Int) ≤ (a0.size : Int)
      · rw [if_pos c5] at H
        have c5b0 := eq_true c5
        have c5b1 : decide ((a1.size : Int) ≤ (a0.size : Int)) = true := decide_eq_true c5
        clear c5
        obtain rfl := Option.some.inj H
        go_enter Try.func41, Try.ntmps41
        go_wp2
        go_ret
        exact ⟨by first | rfl | (simp; done) | (simp [*]; done), by repeat (first | exact Drawn0.refl _ | apply Drawn0.step)⟩
      · rw [if_neg c5] at H
        exact absurd H (by simp)
    · rw [if_neg c4] at H
      exact absurd H (by simp)
  · rw [if_neg c3] at H
    have c3b0 : decide ((a1.size : Int) ≤ (a0.size : Int)) = false := decide_eq_false c3
    have c3b1 : decide (a1.size ≤ a0.size) = false := decide_eq_false (fun h => c3 (Int.ofNat_le.mpr h))
    clear c3
    obtain rfl := Option.some.inj H
    go_enter Try.func41, Try.ntmps41
    go_wp2
    go_ret
    exact ⟨by first | rfl | (simp; done) | (simp [*]; done), by repeat (first | exact Drawn0.refl _ | apply Drawn0.step)⟩

end Go.Proofs.Ytbcnknmgljdmlaa.G
end

section
-- Written by a program of this session (wip/tools/myprint.py), over the kit's print.
namespace Go.Proofs.Ytbcnknmgljdmlaa.G
open Go.RowKit Go.Proofs.YtbcnknmgljdmlaaW.PrintWords Go.Proofs.YtbcnknmgljdmlaaW.PrintLast Go.Proofs.YtbcnknmgljdmlaaW.PrintMore
attribute [local go_sem] max2_int min2_int max_two min_two max_three min_three max_four min_four   -- for this text's walks alone
set_option linter.unusedVariables false
set_option linter.unusedSimpArgs false

/-! ### strings_HasPrefix: function 34 -/
def strings_HasPrefix.f (a0 : ByteArray) (a1 : ByteArray) : Option (Bool) := (stringslite_HasPrefix.f a0 a1).bind fun t117 => (some t117)
set_option maxHeartbeats 8000000 in
set_option maxRecDepth 100000 in
theorem strings_HasPrefix.calls (a0 : ByteArray) (a1 : ByteArray) (r : Bool) (w : World) (h : strings_HasPrefix.f a0 a1 = some r) :
    Calls Try.prog 34 #[.string a0, .string a1] w fun e w' => e = .returned (.bool r) ∧ Drawn0 w w' := by
  have H : ((stringslite_HasPrefix.f a0 a1).bind fun t117 => (some t117)) = some r := h
  clear h
  replace H := Option.bind_eq_some_iff.mp H
  obtain ⟨t117, A30, H⟩ := H
  replace H : (some t117) = some r := H
  have A3 := Aside0.mk A30
  clear A30
  obtain rfl := Option.some.inj H
  go_enter Try.func34, Try.ntmps34
  go_wp2_with (first | ((with_reducible refine gate_callee (f := 41) rfl ?_); refine goesL_ (some 7) rfl rfl Try.func41 (by kernel_rfl) rfl #[.string a0, .string a1] rfl (by (try simp only [List.map_toArray, List.map_cons, List.map_nil]); first | done | rfl | (simp only [List.length_drop, List.length_take]; rfl)) ?_; (with_reducible refine (stringslite_HasPrefix.calls a0 a1 t117 _ A3.out).mono ?_); rintro e w' ⟨rfl, ⟨nd, rfl⟩⟩; refine ⟨_, rfl, ?_⟩))
  go_ret
  exact ⟨by first | rfl | (simp; done) | (simp [*]; done), by repeat (first | exact Drawn0.refl _ | apply Drawn0.step)⟩

end Go.Proofs.Ytbcnknmgljdmlaa.G
end

section
-- Written by a program of this session (wip/tools/myprint.py), over the kit's print.
namespace Go.Proofs.Ytbcnknmgljdmlaa.G
open Go.RowKit Go.Proofs.YtbcnknmgljdmlaaW.PrintWords Go.Proofs.YtbcnknmgljdmlaaW.PrintLast Go.Proofs.YtbcnknmgljdmlaaW.PrintMore
attribute [local go_sem] max2_int min2_int max_two min_two max_three min_three max_four min_four   -- for this text's walks alone
set_option linter.unusedVariables false
set_option linter.unusedSimpArgs false

/-! ### pred_Holds: function 24 -/
def pred_Holds.j0 : Nat → Bool → ByteArray → Int → Int → Int → ByteArray → Int → Int → ByteArray → Option (Bool)
  | 0, _, _, _, _, _, _, _, _, _ => none
  | k + 1, x13, x119000, x119001, x119002, x119003, x119004, x120000, x120001, x120002 => if x13 = true then (some false) else ((value_Compare.f k x120000 x120001 x120002 x119002 x119003 x119004).bind fun t122 => (if x119001 = 8 then (some true) else (if x120000 = x119002 then (if x119001 = 7 then ((strings_HasPrefix.f x120002 x119004).bind fun t123 => (some t123)) else (if t122 < 0 then (if x119001 = 2 then (some true) else (if x119001 = 3 then (some true) else (some (x119001 == 4)))) else (if t122 > 0 then (if x119001 = 2 then (some true) else (if x119001 = 5 then (some true) else (some (x119001 == 6)))) else (if x119001 = 1 then (some true) else (if x119001 = 4 then (some true) else (some (x119001 == 6))))))) else (some false))))
def pred_Holds.f (k : Nat) (a0_0 : ByteArray) (a0_1 : Int) (a0_2 : Int) (a0_3 : Int) (a0_4 : ByteArray) (a1_0 : Int) (a1_1 : Int) (a1_2 : ByteArray) : Option (Bool) := (pred_Right.f k a0_0 a0_1 a0_2 a0_3 a0_4).bind fun t120 => (if t120 = true then ((value_Right.f a1_0 a1_1 a1_2).bind fun t121 => (pred_Holds.j0 k (!t121) a0_0 a0_1 a0_2 a0_3 a0_4 a1_0 a1_1 a1_2)) else (pred_Holds.j0 k true a0_0 a0_1 a0_2 a0_3 a0_4 a1_0 a1_1 a1_2))
theorem pred_Holds.mono_l : ∀ k, (∀ y0 y1 y2 y3 y4 y5 y6 y7 y8, LeO (pred_Holds.j0 k y0 y1 y2 y3 y4 y5 y6 y7 y8) (pred_Holds.j0 (k + 1) y0 y1 y2 y3 y4 y5 y6 y7 y8))
  | 0 => fun _ _ _ _ _ _ _ _ _ r h => by simp [pred_Holds.j0] at h
  | k + 1 => by
    have ih0 := pred_Holds.mono_l k
    · intro y0 y1 y2 y3 y4 y5 y6 y7 y8
      unfold pred_Holds.j0
      repeat' first
      | (with_reducible exact ih0 _ _ _ _ _ _ _ _ _)
      | (with_reducible exact pred_Right.mono _ _ _ _ _ _)
      | (with_reducible exact value_Compare.mono _ _ _ _ _ _ _)
      | (with_reducible exact LeO.refl _)
      | (with_reducible exact LeO.none _)
      | (with_reducible refine LeO.ite ?_ ?_)
      | (with_reducible refine LeO.bind ?_ (fun _ => ?_))
      | exact ih0 _ _ _ _ _ _ _ _ _
      | exact pred_Right.mono _ _ _ _ _ _
      | exact value_Compare.mono _ _ _ _ _ _ _
      | exact LeO.none _
      | refine LeO.ite ?_ ?_
      | refine LeO.bind ?_ (fun _ => ?_)
theorem pred_Holds.mono : ∀ a0 a1 a2 a3 a4 a5 a6 a7 k, LeO (pred_Holds.f k a0 a1 a2 a3 a4 a5 a6 a7) (pred_Holds.f (k + 1) a0 a1 a2 a3 a4 a5 a6 a7) := by
  intro a0 a1 a2 a3 a4 a5 a6 a7 k
  have ih0 := pred_Holds.mono_l k
  unfold pred_Holds.f
  repeat' first
      | (with_reducible exact ih0 _ _ _ _ _ _ _ _ _)
      | (with_reducible exact pred_Right.mono _ _ _ _ _ _)
      | (with_reducible exact value_Compare.mono _ _ _ _ _ _ _)
      | (with_reducible exact LeO.refl _)
      | (with_reducible exact LeO.none _)
      | (with_reducible refine LeO.ite ?_ ?_)
      | (with_reducible refine LeO.bind ?_ (fun _ => ?_))
      | exact ih0 _ _ _ _ _ _ _ _ _
      | exact pred_Right.mono _ _ _ _ _ _
      | exact value_Compare.mono _ _ _ _ _ _ _
      | exact LeO.none _
      | refine LeO.ite ?_ ?_
      | refine LeO.bind ?_ (fun _ => ?_)
set_option maxHeartbeats 8000000 in
set_option maxRecDepth 100000 in
theorem pred_Holds.calls (k : Nat) (a0_0 : ByteArray) (a0_1 : Int) (a0_2 : Int) (a0_3 : Int) (a0_4 : ByteArray) (a1_0 : Int) (a1_1 : Int) (a1_2 : ByteArray) (r : Bool) (w : World) (h : pred_Holds.f k a0_0 a0_1 a0_2 a0_3 a0_4 a1_0 a1_1 a1_2 = some r) :
    Calls Try.prog 24 #[.agg #[.string a0_0, .int .i64 a0_1, .int .i64 a0_2, .int .i64 a0_3, .string a0_4], .agg #[.int .i64 a1_0, .int .i64 a1_1, .string a1_2]] w fun e w' => e = .returned (.bool r) ∧ Below w.heap.size w w' := by
  have hu47 := Try.underlying47
  have hu45 := Try.underlying45
  have HB := Aside0.mk (Below.refl w.heap.size w)
  have H : ((pred_Right.f k a0_0 a0_1 a0_2 a0_3 a0_4).bind fun t120 => (if t120 = true then ((value_Right.f a1_0 a1_1 a1_2).bind fun t121 => (pred_Holds.j0 k (!t121) a0_0 a0_1 a0_2 a0_3 a0_4 a1_0 a1_1 a1_2)) else (pred_Holds.j0 k true a0_0 a0_1 a0_2 a0_3 a0_4 a1_0 a1_1 a1_2))) = some r := h
  clear h
  have HC3 := Aside0.mk H
  clear H
  go_enter Try.func24, Try.ntmps24
  go_upto_region 1 with (first | ((with_reducible refine gate_dst (N := 2) rfl ?_); refine box_event ?hg (N := 2) ?hd (cs := #[.string a0_0, .int .i64 a0_1, .int .i64 a0_2, .int .i64 a0_3, .string a0_4]) (t := 47) ?hr ?_; (case hd => rfl); (case hg => rfl); (case hr => first | (go_simp; done) | (go_simp; rfl)); intro gb118 hg w4 hbox hb; have n0_ := Aside0.mk (below_step (by repeat (first | (with_reducible first | exact HB.out | apply below_alloc | apply pw_below_drewN | apply below_drew1) | exact HB.out)) hb); have n1_ := Aside0.mk (hbox); have n2_ := Aside0.mk ((by rw [hg]; exact (below_size (by repeat (first | (with_reducible first | exact HB.out | apply below_alloc | apply pw_below_drewN | apply below_drew1) | exact HB.out))) : w.heap.size ≤ gb118)); have n3_ := Aside0.mk ((by rw [hg]; exact (below_size (by repeat (first | (with_reducible first | exact HB.out | apply below_alloc | apply pw_below_drewN | apply below_drew1) | exact HB.out))) : w.heap.size ≤ gb118)); clear HB; have HB := n0_; have BK118 := n1_; have GW118 := n2_; have GE118 := n3_; clear n0_ n1_ n2_ n3_; clear hb hbox hg) | ((with_reducible refine gate_dst (N := 3) rfl ?_); refine box_event ?hg (N := 3) ?hd (cs := #[.int .i64 a1_0, .int .i64 a1_1, .string a1_2]) (t := 45) ?hr ?_; (case hd => rfl); (case hg => rfl); (case hr => first | (go_simp; done) | (go_simp; rfl)); intro gb119 hg w5 hbox hb; have n0_ := Aside0.mk (blk_below (g := gb118) (o := .cells #[.string a0_0, .int .i64 a0_1, .int .i64 a0_2, .int .i64 a0_3, .string a0_4] 47 (0, 0)) (by (with_reducible repeat (first | refine blk_drewN ?_ _ | refine blk_drew ?_ | refine blk_alloc ?_ _)); exact BK118.out) hb); have n1_ := Aside0.mk (below_step (by repeat (first | (with_reducible first | exact HB.out | apply below_alloc | apply pw_below_drewN | apply below_drew1 | refine below_set ?_ GE118.out) | exact HB.out)) hb); have n2_ := Aside0.mk (hbox); have n3_ := Aside0.mk ((by rw [hg]; exact (below_size (by repeat (first | (with_reducible first | exact HB.out | apply below_alloc | apply pw_below_drewN | apply below_drew1 | refine below_set ?_ GE118.out) | exact HB.out))) : w.heap.size ≤ gb119)); have n4_ := Aside0.mk ((by rw [hg]; exact (below_size (by repeat (first | (with_reducible first | exact HB.out | apply below_alloc | apply pw_below_drewN | apply below_drew1 | refine below_set ?_ GE118.out) | exact HB.out))) : w.heap.size ≤ gb119)); have n5_ := Aside0.mk ((by rw [hg]; exact Nat.ne_of_lt (blk_lt (g := gb118) (o := .cells #[.string a0_0, .int .i64 a0_1, .int .i64 a0_2, .int .i64 a0_3, .string a0_4] 47 (0, 0)) (by (with_reducible repeat (first | refine blk_drewN ?_ _ | refine blk_drew ?_ | refine blk_alloc ?_ _)); exact BK118.out)) : gb118 ≠ gb119)); have n6_ := Aside0.mk ((by rw [hg]; exact Nat.ne_of_gt (blk_lt (g := gb118) (o := .cells #[.string a0_0, .int .i64 a0_1, .int .i64 a0_2, .int .i64 a0_3, .string a0_4] 47 (0, 0)) (by (with_reducible repeat (first | refine blk_drewN ?_ _ | refine blk_drew ?_ | refine blk_alloc ?_ _)); exact BK118.out)) : gb119 ≠ gb118)); clear BK118; clear HB; have BK118 := n0_; have HB := n1_; have BK119 := n2_; have GW119 := n3_; have GE119 := n4_; have NB118_119 := n5_; have NB119_118 := n6_; clear n0_ n1_ n2_ n3_ n4_ n5_ n6_; clear hb hbox hg))
  (try simp only [Act.put, List.setIfInBounds_toArray, List.set_cons_zero, List.set_cons_succ])
  go_cut [13] (fun v13 wc => ∃ (kq : Nat) (x13_2 : Bool), v13 = .bool x13_2 ∧ Aside0 (pred_Holds.j0 kq x13_2 a0_0 a0_1 a0_2 a0_3 a0_4 a1_0 a1_1 a1_2 = some r) ∧ Aside0 (kq ≤ k) ∧ Aside0 (wc.heap[gb118]? = some (.cells #[.string a0_0, .int .i64 a0_1, .int .i64 a0_2, .int .i64 a0_3, .string a0_4] 47 (0, 0))) ∧ Aside0 (wc.heap[gb119]? = some (.cells #[.int .i64 a1_0, .int .i64 a1_1, .string a1_2] 45 (0, 0))) ∧ Aside0 (Below w.heap.size w wc))
  case first =>
    have H := HC3.out
    clear HC3
    replace H := Option.bind_eq_some_iff.mp H
    obtain ⟨t120, A60, H⟩ := H
    replace H : (if t120 = true then ((value_Right.f a1_0 a1_1 a1_2).bind fun t121 => (pred_Holds.j0 k (!t121) a0_0 a0_1 a0_2 a0_3 a0_4 a1_0 a1_1 a1_2)) else (pred_Holds.j0 k true a0_0 a0_1 a0_2 a0_3 a0_4 a1_0 a1_1 a1_2)) = some r := H
    have A6 := Aside0.mk A60
    clear A60
    by_cases c7 : t120 = true
    · subst c7
      have H1 : ((value_Right.f a1_0 a1_1 a1_2).bind fun t121 => (pred_Holds.j0 k (!t121) a0_0 a0_1 a0_2 a0_3 a0_4 a1_0 a1_1 a1_2)) = some r := by rw [if_pos rfl] at H; exact H
      clear H
      have H := H1
      clear H1
      replace H := Option.bind_eq_some_iff.mp H
      obtain ⟨t121, A80, H⟩ := H
      replace H : (pred_Holds.j0 k (!t121) a0_0 a0_1 a0_2 a0_3 a0_4 a1_0 a1_1 a1_2) = some r := H
      have A8 := Aside0.mk A80
      clear A80
      have H' := Aside0.mk H
      clear H
      have hnb9 := NB118_119.out
      have hnc9 := NB119_118.out
      have hcz10_0 : w5.cell? ⟨gb118, 0, none⟩ = some (.string a0_0) := (blk_cell BK118.out 0).trans rfl
      have hcz10_1 : w5.cell? ⟨gb118, 1, none⟩ = some (.int .i64 a0_1) := (blk_cell BK118.out 1).trans rfl
      have hcz10_2 : w5.cell? ⟨gb118, 2, none⟩ = some (.int .i64 a0_2) := (blk_cell BK118.out 2).trans rfl
      have hcz10_3 : w5.cell? ⟨gb118, 3, none⟩ = some (.int .i64 a0_3) := (blk_cell BK118.out 3).trans rfl
      have hcz10_4 : w5.cell? ⟨gb118, 4, none⟩ = some (.string a0_4) := (blk_cell BK118.out 4).trans rfl
      have hfz10_0 := blk_frozen BK118.out 0
      have hfz10_1 := blk_frozen BK118.out 1
      have hfz10_2 := blk_frozen BK118.out 2
      have hfz10_3 := blk_frozen BK118.out 3
      have hfz10_4 := blk_frozen BK118.out 4
      go_wp2_with (first | ((with_reducible refine gate_callee (f := 32) rfl ?_); refine goesL_ (some 7) rfl rfl Try.func32 (by kernel_rfl) rfl #[.agg #[.string a0_0, .int .i64 a0_1, .int .i64 a0_2, .int .i64 a0_3, .string a0_4]] rfl (by (try simp only [List.map_toArray, List.map_cons, List.map_nil]); first | done | rfl | (simp only [List.length_drop, List.length_take]; rfl)) ?_; (with_reducible refine (pred_Right.calls k a0_0 a0_1 a0_2 a0_3 a0_4 true _ A6.out).mono ?_); rintro e w11 ⟨rfl, hb⟩; refine ⟨_, rfl, ?_⟩; have n0_ := Aside0.mk (blk_below (g := gb118) (o := .cells #[.string a0_0, .int .i64 a0_1, .int .i64 a0_2, .int .i64 a0_3, .string a0_4] 47 (0, 0)) (by (with_reducible repeat (first | refine blk_drewN ?_ _ | refine blk_drew ?_ | refine blk_alloc ?_ _)); exact BK118.out) hb); have n1_ := Aside0.mk (blk_below (g := gb119) (o := .cells #[.int .i64 a1_0, .int .i64 a1_1, .string a1_2] 45 (0, 0)) (by (with_reducible repeat (first | refine blk_drewN ?_ _ | refine blk_drew ?_ | refine blk_alloc ?_ _)); exact BK119.out) hb); have n2_ := Aside0.mk (below_step (by repeat (first | (with_reducible first | exact HB.out | apply below_alloc | apply pw_below_drewN | apply below_drew1 | refine below_set ?_ GE118.out | refine below_set ?_ GE119.out) | exact HB.out)) hb); clear BK118; clear BK119; clear HB; have BK118 := n0_; have BK119 := n1_; have HB := n2_; clear n0_ n1_ n2_; (try clear hb); (try clear hb2); (try clear hk); (try clear hi); have hcz12_0 : w11.cell? ⟨gb119, 0, none⟩ = some (.int .i64 a1_0) := (blk_cell BK119.out 0).trans rfl; have hcz12_1 : w11.cell? ⟨gb119, 1, none⟩ = some (.int .i64 a1_1) := (blk_cell BK119.out 1).trans rfl; have hcz12_2 : w11.cell? ⟨gb119, 2, none⟩ = some (.string a1_2) := (blk_cell BK119.out 2).trans rfl; have hfz12_0 := blk_frozen BK119.out 0; have hfz12_1 := blk_frozen BK119.out 1; have hfz12_2 := blk_frozen BK119.out 2) | (go_at_call 30; (with_reducible refine (value_Right.calls a1_0 a1_1 a1_2 t121 _ A8.out).mono ?_); rintro e w13 ⟨rfl, hb⟩; have n0_ := Aside0.mk (blk_below (g := gb118) (o := .cells #[.string a0_0, .int .i64 a0_1, .int .i64 a0_2, .int .i64 a0_3, .string a0_4] 47 (0, 0)) (by (with_reducible repeat (first | refine blk_drewN ?_ _ | refine blk_drew ?_ | refine blk_alloc ?_ _)); exact BK118.out) hb); have n1_ := Aside0.mk (blk_below (g := gb119) (o := .cells #[.int .i64 a1_0, .int .i64 a1_1, .string a1_2] 45 (0, 0)) (by (with_reducible repeat (first | refine blk_drewN ?_ _ | refine blk_drew ?_ | refine blk_alloc ?_ _)); exact BK119.out) hb); have n2_ := Aside0.mk (below_step (by repeat (first | (with_reducible first | exact HB.out | apply below_alloc | apply pw_below_drewN | apply below_drew1 | refine below_set ?_ GE118.out | refine below_set ?_ GE119.out) | exact HB.out)) hb); clear BK118; clear BK119; clear HB; have BK118 := n0_; have BK119 := n1_; have HB := n2_; clear n0_ n1_ n2_; (try clear hb); (try clear hb2); (try clear hk); (try clear hi)))
      go_meet
      case rel => exact ⟨_, (!t121), (by first | rfl | (simp; done) | (simp [*]; done)), H', ⟨by first | omega | exact Nat.le_refl _⟩, ⟨by (with_reducible repeat (first | refine blk_drewN ?_ _ | refine blk_drew ?_ | refine blk_alloc ?_ _)); exact BK118.out⟩, ⟨by (with_reducible repeat (first | refine blk_drewN ?_ _ | refine blk_drew ?_ | refine blk_alloc ?_ _)); exact BK119.out⟩, ⟨by repeat (first | (with_reducible first | exact HB.out | apply below_alloc | apply pw_below_drewN | apply below_drew1 | refine below_set ?_ GE118.out | refine below_set ?_ GE119.out) | exact HB.out)⟩⟩
    · replace c7 := Bool.eq_false_iff.mpr c7
      subst c7
      have H1 : (pred_Holds.j0 k true a0_0 a0_1 a0_2 a0_3 a0_4 a1_0 a1_1 a1_2) = some r := by rw [if_neg (show ¬ (false = true) by decide)] at H; exact H
      clear H
      have H := H1
      clear H1
      have H' := Aside0.mk H
      clear H
      have hnb14 := NB118_119.out
      have hnc14 := NB119_118.out
      have hcz15_0 : w5.cell? ⟨gb118, 0, none⟩ = some (.string a0_0) := (blk_cell BK118.out 0).trans rfl
      have hcz15_1 : w5.cell? ⟨gb118, 1, none⟩ = some (.int .i64 a0_1) := (blk_cell BK118.out 1).trans rfl
      have hcz15_2 : w5.cell? ⟨gb118, 2, none⟩ = some (.int .i64 a0_2) := (blk_cell BK118.out 2).trans rfl
      have hcz15_3 : w5.cell? ⟨gb118, 3, none⟩ = some (.int .i64 a0_3) := (blk_cell BK118.out 3).trans rfl
      have hcz15_4 : w5.cell? ⟨gb118, 4, none⟩ = some (.string a0_4) := (blk_cell BK118.out 4).trans rfl
      have hfz15_0 := blk_frozen BK118.out 0
      have hfz15_1 := blk_frozen BK118.out 1
      have hfz15_2 := blk_frozen BK118.out 2
      have hfz15_3 := blk_frozen BK118.out 3
      have hfz15_4 := blk_frozen BK118.out 4
      go_wp2_with (first | ((with_reducible refine gate_callee (f := 32) rfl ?_); refine goesL_ (some 7) rfl rfl Try.func32 (by kernel_rfl) rfl #[.agg #[.string a0_0, .int .i64 a0_1, .int .i64 a0_2, .int .i64 a0_3, .string a0_4]] rfl (by (try simp only [List.map_toArray, List.map_cons, List.map_nil]); first | done | rfl | (simp only [List.length_drop, List.length_take]; rfl)) ?_; (with_reducible refine (pred_Right.calls k a0_0 a0_1 a0_2 a0_3 a0_4 false _ A6.out).mono ?_); rintro e w16 ⟨rfl, hb⟩; refine ⟨_, rfl, ?_⟩; have n0_ := Aside0.mk (blk_below (g := gb118) (o := .cells #[.string a0_0, .int .i64 a0_1, .int .i64 a0_2, .int .i64 a0_3, .string a0_4] 47 (0, 0)) (by (with_reducible repeat (first | refine blk_drewN ?_ _ | refine blk_drew ?_ | refine blk_alloc ?_ _)); exact BK118.out) hb); have n1_ := Aside0.mk (blk_below (g := gb119) (o := .cells #[.int .i64 a1_0, .int .i64 a1_1, .string a1_2] 45 (0, 0)) (by (with_reducible repeat (first | refine blk_drewN ?_ _ | refine blk_drew ?_ | refine blk_alloc ?_ _)); exact BK119.out) hb); have n2_ := Aside0.mk (below_step (by repeat (first | (with_reducible first | exact HB.out | apply below_alloc | apply pw_below_drewN | apply below_drew1 | refine below_set ?_ GE118.out | refine below_set ?_ GE119.out) | exact HB.out)) hb); clear BK118; clear BK119; clear HB; have BK118 := n0_; have BK119 := n1_; have HB := n2_; clear n0_ n1_ n2_; (try clear hb); (try clear hb2); (try clear hk); (try clear hi)))
      go_meet
      case rel => exact ⟨_, (true), (by first | rfl | (simp; done) | (simp [*]; done)), H', ⟨by first | omega | exact Nat.le_refl _⟩, ⟨by (with_reducible repeat (first | refine blk_drewN ?_ _ | refine blk_drew ?_ | refine blk_alloc ?_ _)); exact BK118.out⟩, ⟨by (with_reducible repeat (first | refine blk_drewN ?_ _ | refine blk_drew ?_ | refine blk_alloc ?_ _)); exact BK119.out⟩, ⟨by repeat (first | (with_reducible first | exact HB.out | apply below_alloc | apply pw_below_drewN | apply below_drew1 | refine below_set ?_ GE118.out | refine below_set ?_ GE119.out) | exact HB.out)⟩⟩
  case rest =>
    clear HC3
    try clear c1
    try clear c2
    try clear p2
    try clear c3
    try clear c7
    try clear c9
    try clear c14
    try clear hcz10_0
    try clear hcz10_1
    try clear hcz10_2
    try clear hcz10_3
    try clear hcz10_4
    try clear hcz12_0
    try clear hcz12_1
    try clear hcz12_2
    try clear hcz15_0
    try clear hcz15_1
    try clear hcz15_2
    try clear hcz15_3
    try clear hcz15_4
    try clear hfz10_0
    try clear hfz10_1
    try clear hfz10_2
    try clear hfz10_3
    try clear hfz10_4
    try clear hfz12_0
    try clear hfz12_1
    try clear hfz12_2
    try clear hfz15_0
    try clear hfz15_1
    try clear hfz15_2
    try clear hfz15_3
    try clear hfz15_4
    obtain ⟨kq, x13_2, rfl, HA, HJ2, BK118, BK119, HB⟩ := hcut
    cases kq with
    | zero => exact absurd HA.out (by simp [pred_Holds.j0])
    | succ kj2 =>
      have H := HA.out
      clear HA
      simp only [pred_Holds.j0] at H
      by_cases c17 : x13_2 = true
      · subst c17
        have H1 : (some false) = some r := by rw [if_pos rfl] at H; exact H
        clear H
        have H := H1
        clear H1
        obtain rfl := Option.some.inj H
        go_wp2
        go_ret
        exact ⟨by first | rfl | (simp [errW_none, errW_some] <;> rfl) | (simp [*, errW_none, errW_some] <;> rfl), by repeat (first | (with_reducible first | exact HB.out | apply below_alloc | apply pw_below_drewN | apply below_drew1 | refine below_set ?_ GE118.out | refine below_set ?_ GE119.out) | exact HB.out)⟩
      · replace c17 := Bool.eq_false_iff.mpr c17
        subst c17
        have H1 : ((value_Compare.f kj2 a1_0 a1_1 a1_2 a0_2 a0_3 a0_4).bind fun t122 => (if a0_1 = 8 then (some true) else (if a1_0 = a0_2 then (if a0_1 = 7 then ((strings_HasPrefix.f a1_2 a0_4).bind fun t123 => (some t123)) else (if t122 < 0 then (if a0_1 = 2 then (some true) else (if a0_1 = 3 then (some true) else (some (a0_1 == 4)))) else (if t122 > 0 then (if a0_1 = 2 then (some true) else (if a0_1 = 5 then (some true) else (some (a0_1 == 6)))) else (if a0_1 = 1 then (some true) else (if a0_1 = 4 then (some true) else (some (a0_1 == 6))))))) else (some false)))) = some r := by rw [if_neg (show ¬ (false = true) by decide)] at H; exact H
        clear H
        have H := H1
        clear H1
        replace H := Option.bind_eq_some_iff.mp H
        obtain ⟨t122, A180, H⟩ := H
        replace H : (if a0_1 = 8 then (some true) else (if a1_0 = a0_2 then (if a0_1 = 7 then ((strings_HasPrefix.f a1_2 a0_4).bind fun t123 => (some t123)) else (if t122 < 0 then (if a0_1 = 2 then (some true) else (if a0_1 = 3 then (some true) else (some (a0_1 == 4)))) else (if t122 > 0 then (if a0_1 = 2 then (some true) else (if a0_1 = 5 then (some true) else (some (a0_1 == 6)))) else (if a0_1 = 1 then (some true) else (if a0_1 = 4 then (some true) else (some (a0_1 == 6))))))) else (some false))) = some r := H
        have A18 := Aside0.mk A180
        clear A180
        by_cases c19 : a0_1 = 8
        · rw [if_pos c19] at H
          have c19b0 : (a0_1 == 8) = true := beq_iff_eq.mpr c19
          have c19b1 : (a0_1 != 8) = false := bne_eq_false_iff_eq.mpr c19
          clear c19
          obtain rfl := Option.some.inj H
          have hnb20 := NB119_118.out
          have hnc20 := NB118_119.out
          have hcz21_0 : wc.cell? ⟨gb119, 0, none⟩ = some (.int .i64 a1_0) := (blk_cell BK119.out 0).trans rfl
          have hcz21_1 : wc.cell? ⟨gb119, 1, none⟩ = some (.int .i64 a1_1) := (blk_cell BK119.out 1).trans rfl
          have hcz21_2 : wc.cell? ⟨gb119, 2, none⟩ = some (.string a1_2) := (blk_cell BK119.out 2).trans rfl
          have hfz21_0 := blk_frozen BK119.out 0
          have hfz21_1 := blk_frozen BK119.out 1
          have hfz21_2 := blk_frozen BK119.out 2
          have hcz22_0 : wc.cell? ⟨gb118, 0, none⟩ = some (.string a0_0) := (blk_cell BK118.out 0).trans rfl
          have hcz22_1 : wc.cell? ⟨gb118, 1, none⟩ = some (.int .i64 a0_1) := (blk_cell BK118.out 1).trans rfl
          have hcz22_2 : wc.cell? ⟨gb118, 2, none⟩ = some (.int .i64 a0_2) := (blk_cell BK118.out 2).trans rfl
          have hcz22_3 : wc.cell? ⟨gb118, 3, none⟩ = some (.int .i64 a0_3) := (blk_cell BK118.out 3).trans rfl
          have hcz22_4 : wc.cell? ⟨gb118, 4, none⟩ = some (.string a0_4) := (blk_cell BK118.out 4).trans rfl
          have hfz22_0 := blk_frozen BK118.out 0
          have hfz22_1 := blk_frozen BK118.out 1
          have hfz22_2 := blk_frozen BK118.out 2
          have hfz22_3 := blk_frozen BK118.out 3
          have hfz22_4 := blk_frozen BK118.out 4
          go_wp2_with (first | ((with_reducible refine gate_callee (f := 33) rfl ?_); refine goesL_ (some 17) rfl rfl Try.func33 (by kernel_rfl) rfl #[.agg #[.int .i64 a1_0, .int .i64 a1_1, .string a1_2], .agg #[.int .i64 a0_2, .int .i64 a0_3, .string a0_4]] rfl (by (try simp only [List.map_toArray, List.map_cons, List.map_nil]); first | done | rfl | (simp only [List.length_drop, List.length_take]; rfl)) ?_; (with_reducible refine (value_Compare.calls kj2 a1_0 a1_1 a1_2 a0_2 a0_3 a0_4 t122 _ A18.out).mono ?_); rintro e w23 ⟨rfl, hb⟩; refine ⟨_, rfl, ?_⟩; have n0_ := Aside0.mk (blk_below (g := gb118) (o := .cells #[.string a0_0, .int .i64 a0_1, .int .i64 a0_2, .int .i64 a0_3, .string a0_4] 47 (0, 0)) (by (with_reducible repeat (first | refine blk_drewN ?_ _ | refine blk_drew ?_ | refine blk_alloc ?_ _)); exact BK118.out) hb); have n1_ := Aside0.mk (blk_below (g := gb119) (o := .cells #[.int .i64 a1_0, .int .i64 a1_1, .string a1_2] 45 (0, 0)) (by (with_reducible repeat (first | refine blk_drewN ?_ _ | refine blk_drew ?_ | refine blk_alloc ?_ _)); exact BK119.out) hb); have n2_ := Aside0.mk (below_step (by repeat (first | (with_reducible first | exact HB.out | apply below_alloc | apply pw_below_drewN | apply below_drew1 | refine below_set ?_ GE118.out | refine below_set ?_ GE119.out) | exact HB.out)) hb); clear BK118; clear BK119; clear HB; have BK118 := n0_; have BK119 := n1_; have HB := n2_; clear n0_ n1_ n2_; (try clear hb); (try clear hb2); (try clear hk); (try clear hi); have hcz24_0 : w23.cell? ⟨gb118, 0, none⟩ = some (.string a0_0) := (blk_cell BK118.out 0).trans rfl; have hcz24_1 : w23.cell? ⟨gb118, 1, none⟩ = some (.int .i64 a0_1) := (blk_cell BK118.out 1).trans rfl; have hcz24_2 : w23.cell? ⟨gb118, 2, none⟩ = some (.int .i64 a0_2) := (blk_cell BK118.out 2).trans rfl; have hcz24_3 : w23.cell? ⟨gb118, 3, none⟩ = some (.int .i64 a0_3) := (blk_cell BK118.out 3).trans rfl; have hcz24_4 : w23.cell? ⟨gb118, 4, none⟩ = some (.string a0_4) := (blk_cell BK118.out 4).trans rfl; have hfz24_0 := blk_frozen BK118.out 0; have hfz24_1 := blk_frozen BK118.out 1; have hfz24_2 := blk_frozen BK118.out 2; have hfz24_3 := blk_frozen BK118.out 3; have hfz24_4 := blk_frozen BK118.out 4))
          go_ret
          exact ⟨by first | rfl | (simp [errW_none, errW_some] <;> rfl) | (simp [*, errW_none, errW_some] <;> rfl), by repeat (first | (with_reducible first | exact HB.out | apply below_alloc | apply pw_below_drewN | apply below_drew1 | refine below_set ?_ GE118.out | refine below_set ?_ GE119.out) | exact HB.out)⟩
        · rw [if_neg c19] at H
          have c19b0 : (a0_1 == 8) = false := beq_eq_false_iff_ne.mpr c19
          have c19b1 : (a0_1 != 8) = true := bne_iff_ne.mpr c19
          by_cases c25 : a1_0 = a0_2
          · rw [if_pos c25] at H
            have c25b0 : (a1_0 == a0_2) = true := beq_iff_eq.mpr c25
            have c25b1 : (a1_0 != a0_2) = false := bne_eq_false_iff_eq.mpr c25
            clear c25
            by_cases c26 : a0_1 = 7
            · rw [if_pos c26] at H
              have c26b0 : (a0_1 == 7) = true := beq_iff_eq.mpr c26
              have c26b1 : (a0_1 != 7) = false := bne_eq_false_iff_eq.mpr c26
              clear c26
              replace H := Option.bind_eq_some_iff.mp H
              obtain ⟨t123, A270, H⟩ := H
              replace H : (some t123) = some r := H
              have A27 := Aside0.mk A270
              clear A270
              obtain rfl := Option.some.inj H
              have hnb28 := NB119_118.out
              have hnc28 := NB118_119.out
              have hcz29_0 : wc.cell? ⟨gb119, 0, none⟩ = some (.int .i64 a1_0) := (blk_cell BK119.out 0).trans rfl
              have hcz29_1 : wc.cell? ⟨gb119, 1, none⟩ = some (.int .i64 a1_1) := (blk_cell BK119.out 1).trans rfl
              have hcz29_2 : wc.cell? ⟨gb119, 2, none⟩ = some (.string a1_2) := (blk_cell BK119.out 2).trans rfl
              have hfz29_0 := blk_frozen BK119.out 0
              have hfz29_1 := blk_frozen BK119.out 1
              have hfz29_2 := blk_frozen BK119.out 2
              have hcz30_0 : wc.cell? ⟨gb118, 0, none⟩ = some (.string a0_0) := (blk_cell BK118.out 0).trans rfl
              have hcz30_1 : wc.cell? ⟨gb118, 1, none⟩ = some (.int .i64 a0_1) := (blk_cell BK118.out 1).trans rfl
              have hcz30_2 : wc.cell? ⟨gb118, 2, none⟩ = some (.int .i64 a0_2) := (blk_cell BK118.out 2).trans rfl
              have hcz30_3 : wc.cell? ⟨gb118, 3, none⟩ = some (.int .i64 a0_3) := (blk_cell BK118.out 3).trans rfl
              have hcz30_4 : wc.cell? ⟨gb118, 4, none⟩ = some (.string a0_4) := (blk_cell BK118.out 4).trans rfl
              have hfz30_0 := blk_frozen BK118.out 0
              have hfz30_1 := blk_frozen BK118.out 1
              have hfz30_2 := blk_frozen BK118.out 2
              have hfz30_3 := blk_frozen BK118.out 3
              have hfz30_4 := blk_frozen BK118.out 4
              go_wp2_with (first | ((with_reducible refine gate_callee (f := 33) rfl ?_); refine goesL_ (some 17) rfl rfl Try.func33 (by kernel_rfl) rfl #[.agg #[.int .i64 a1_0, .int .i64 a1_1, .string a1_2], .agg #[.int .i64 a0_2, .int .i64 a0_3, .string a0_4]] rfl (by (try simp only [List.map_toArray, List.map_cons, List.map_nil]); first | done | rfl | (simp only [List.length_drop, List.length_take]; rfl)) ?_; (with_reducible refine (value_Compare.calls kj2 a1_0 a1_1 a1_2 a0_2 a0_3 a0_4 t122 _ A18.out).mono ?_); rintro e w31 ⟨rfl, hb⟩; refine ⟨_, rfl, ?_⟩; have n0_ := Aside0.mk (blk_below (g := gb118) (o := .cells #[.string a0_0, .int .i64 a0_1, .int .i64 a0_2, .int .i64 a0_3, .string a0_4] 47 (0, 0)) (by (with_reducible repeat (first | refine blk_drewN ?_ _ | refine blk_drew ?_ | refine blk_alloc ?_ _)); exact BK118.out) hb); have n1_ := Aside0.mk (blk_below (g := gb119) (o := .cells #[.int .i64 a1_0, .int .i64 a1_1, .string a1_2] 45 (0, 0)) (by (with_reducible repeat (first | refine blk_drewN ?_ _ | refine blk_drew ?_ | refine blk_alloc ?_ _)); exact BK119.out) hb); have n2_ := Aside0.mk (below_step (by repeat (first | (with_reducible first | exact HB.out | apply below_alloc | apply pw_below_drewN | apply below_drew1 | refine below_set ?_ GE118.out | refine below_set ?_ GE119.out) | exact HB.out)) hb); clear BK118; clear BK119; clear HB; have BK118 := n0_; have BK119 := n1_; have HB := n2_; clear n0_ n1_ n2_; (try clear hb); (try clear hb2); (try clear hk); (try clear hi); have hcz32_0 : w31.cell? ⟨gb118, 0, none⟩ = some (.string a0_0) := (blk_cell BK118.out 0).trans rfl; have hcz32_1 : w31.cell? ⟨gb118, 1, none⟩ = some (.int .i64 a0_1) := (blk_cell BK118.out 1).trans rfl; have hcz32_2 : w31.cell? ⟨gb118, 2, none⟩ = some (.int .i64 a0_2) := (blk_cell BK118.out 2).trans rfl; have hcz32_3 : w31.cell? ⟨gb118, 3, none⟩ = some (.int .i64 a0_3) := (blk_cell BK118.out 3).trans rfl; have hcz32_4 : w31.cell? ⟨gb118, 4, none⟩ = some (.string a0_4) := (blk_cell BK118.out 4).trans rfl; have hfz32_0 := blk_frozen BK118.out 0; have hfz32_1 := blk_frozen BK118.out 1; have hfz32_2 := blk_frozen BK118.out 2; have hfz32_3 := blk_frozen BK118.out 3; have hfz32_4 := blk_frozen BK118.out 4; have hcz33_0 : w31.cell? ⟨gb119, 0, none⟩ = some (.int .i64 a1_0) := (blk_cell BK119.out 0).trans rfl; have hcz33_1 : w31.cell? ⟨gb119, 1, none⟩ = some (.int .i64 a1_1) := (blk_cell BK119.out 1).trans rfl; have hcz33_2 : w31.cell? ⟨gb119, 2, none⟩ = some (.string a1_2) := (blk_cell BK119.out 2).trans rfl; have hfz33_0 := blk_frozen BK119.out 0; have hfz33_1 := blk_frozen BK119.out 1; have hfz33_2 := blk_frozen BK119.out 2) | ((with_reducible refine gate_callee (f := 34) rfl ?_); refine goesL_ (some 38) rfl rfl Try.func34 (by kernel_rfl) rfl #[.string a1_2, .string a0_4] rfl (by (try simp only [List.map_toArray, List.map_cons, List.map_nil]); first | done | rfl | (simp only [List.length_drop, List.length_take]; rfl)) ?_; (with_reducible refine (strings_HasPrefix.calls a1_2 a0_4 t123 _ A27.out).mono ?_); rintro e w' ⟨rfl, ⟨nd, rfl⟩⟩; refine ⟨_, rfl, ?_⟩))
              go_ret
              exact ⟨by first | rfl | (simp [errW_none, errW_some] <;> rfl) | (simp [*, errW_none, errW_some] <;> rfl), by repeat (first | (with_reducible first | exact HB.out | apply below_alloc | apply pw_below_drewN | apply below_drew1 | refine below_set ?_ GE118.out | refine below_set ?_ GE119.out) | exact HB.out)⟩
            · rw [if_neg c26] at H
              have c26b0 : (a0_1 == 7) = false := beq_eq_false_iff_ne.mpr c26
              have c26b1 : (a0_1 != 7) = true := bne_iff_ne.mpr c26
              by_cases c34 : t122 < 0
              · rw [if_pos c34] at H
                have c34b0 : decide (t122 < 0) = true := decide_eq_true c34
                clear c34
                by_cases c35 : a0_1 = 2
                · rw [if_pos c35] at H
                  have c35b0 : (a0_1 == 2) = true := beq_iff_eq.mpr c35
                  have c35b1 : (a0_1 != 2) = false := bne_eq_false_iff_eq.mpr c35
                  clear c35
                  obtain rfl := Option.some.inj H
                  have hnb36 := NB119_118.out
                  have hnc36 := NB118_119.out
                  have hcz37_0 : wc.cell? ⟨gb119, 0, none⟩ = some (.int .i64 a1_0) := (blk_cell BK119.out 0).trans rfl
                  have hcz37_1 : wc.cell? ⟨gb119, 1, none⟩ = some (.int .i64 a1_1) := (blk_cell BK119.out 1).trans rfl
                  have hcz37_2 : wc.cell? ⟨gb119, 2, none⟩ = some (.string a1_2) := (blk_cell BK119.out 2).trans rfl
                  have hfz37_0 := blk_frozen BK119.out 0
                  have hfz37_1 := blk_frozen BK119.out 1
                  have hfz37_2 := blk_frozen BK119.out 2
                  have hcz38_0 : wc.cell? ⟨gb118, 0, none⟩ = some (.string a0_0) := (blk_cell BK118.out 0).trans rfl
                  have hcz38_1 : wc.cell? ⟨gb118, 1, none⟩ = some (.int .i64 a0_1) := (blk_cell BK118.out 1).trans rfl
                  have hcz38_2 : wc.cell? ⟨gb118, 2, none⟩ = some (.int .i64 a0_2) := (blk_cell BK118.out 2).trans rfl
                  have hcz38_3 : wc.cell? ⟨gb118, 3, none⟩ = some (.int .i64 a0_3) := (blk_cell BK118.out 3).trans rfl
                  have hcz38_4 : wc.cell? ⟨gb118, 4, none⟩ = some (.string a0_4) := (blk_cell BK118.out 4).trans rfl
                  have hfz38_0 := blk_frozen BK118.out 0
                  have hfz38_1 := blk_frozen BK118.out 1
                  have hfz38_2 := blk_frozen BK118.out 2
                  have hfz38_3 := blk_frozen BK118.out 3
                  have hfz38_4 := blk_frozen BK118.out 4
                  go_wp2_with (first | ((with_reducible refine gate_callee (f := 33) rfl ?_); refine goesL_ (some 17) rfl rfl Try.func33 (by kernel_rfl) rfl #[.agg #[.int .i64 a1_0, .int .i64 a1_1, .string a1_2], .agg #[.int .i64 a0_2, .int .i64 a0_3, .string a0_4]] rfl (by (try simp only [List.map_toArray, List.map_cons, List.map_nil]); first | done | rfl | (simp only [List.length_drop, List.length_take]; rfl)) ?_; (with_reducible refine (value_Compare.calls kj2 a1_0 a1_1 a1_2 a0_2 a0_3 a0_4 t122 _ A18.out).mono ?_); rintro e w39 ⟨rfl, hb⟩; refine ⟨_, rfl, ?_⟩; have n0_ := Aside0.mk (blk_below (g := gb118) (o := .cells #[.string a0_0, .int .i64 a0_1, .int .i64 a0_2, .int .i64 a0_3, .string a0_4] 47 (0, 0)) (by (with_reducible repeat (first | refine blk_drewN ?_ _ | refine blk_drew ?_ | refine blk_alloc ?_ _)); exact BK118.out) hb); have n1_ := Aside0.mk (blk_below (g := gb119) (o := .cells #[.int .i64 a1_0, .int .i64 a1_1, .string a1_2] 45 (0, 0)) (by (with_reducible repeat (first | refine blk_drewN ?_ _ | refine blk_drew ?_ | refine blk_alloc ?_ _)); exact BK119.out) hb); have n2_ := Aside0.mk (below_step (by repeat (first | (with_reducible first | exact HB.out | apply below_alloc | apply pw_below_drewN | apply below_drew1 | refine below_set ?_ GE118.out | refine below_set ?_ GE119.out) | exact HB.out)) hb); clear BK118; clear BK119; clear HB; have BK118 := n0_; have BK119 := n1_; have HB := n2_; clear n0_ n1_ n2_; (try clear hb); (try clear hb2); (try clear hk); (try clear hi); have hcz40_0 : w39.cell? ⟨gb118, 0, none⟩ = some (.string a0_0) := (blk_cell BK118.out 0).trans rfl; have hcz40_1 : w39.cell? ⟨gb118, 1, none⟩ = some (.int .i64 a0_1) := (blk_cell BK118.out 1).trans rfl; have hcz40_2 : w39.cell? ⟨gb118, 2, none⟩ = some (.int .i64 a0_2) := (blk_cell BK118.out 2).trans rfl; have hcz40_3 : w39.cell? ⟨gb118, 3, none⟩ = some (.int .i64 a0_3) := (blk_cell BK118.out 3).trans rfl; have hcz40_4 : w39.cell? ⟨gb118, 4, none⟩ = some (.string a0_4) := (blk_cell BK118.out 4).trans rfl; have hfz40_0 := blk_frozen BK118.out 0; have hfz40_1 := blk_frozen BK118.out 1; have hfz40_2 := blk_frozen BK118.out 2; have hfz40_3 := blk_frozen BK118.out 3; have hfz40_4 := blk_frozen BK118.out 4; have hcz41_0 : w39.cell? ⟨gb119, 0, none⟩ = some (.int .i64 a1_0) := (blk_cell BK119.out 0).trans rfl; have hcz41_1 : w39.cell? ⟨gb119, 1, none⟩ = some (.int .i64 a1_1) := (blk_cell BK119.out 1).trans rfl; have hcz41_2 : w39.cell? ⟨gb119, 2, none⟩ = some (.string a1_2) := (blk_cell BK119.out 2).trans rfl; have hfz41_0 := blk_frozen BK119.out 0; have hfz41_1 := blk_frozen BK119.out 1; have hfz41_2 := blk_frozen BK119.out 2))
                  go_ret
                  exact ⟨by first | rfl | (simp [errW_none, errW_some] <;> rfl) | (simp [*, errW_none, errW_some] <;> rfl), by repeat (first | (with_reducible first | exact HB.out | apply below_alloc | apply pw_below_drewN | apply below_drew1 | refine below_set ?_ GE118.out | refine below_set ?_ GE119.out) | exact HB.out)⟩
                · rw [if_neg c35] at H
                  have c35b0 : (a0_1 == 2) = false := beq_eq_false_iff_ne.mpr c35
                  have c35b1 : (a0_1 != 2) = true := bne_iff_ne.mpr c35
                  by_cases c42 : a0_1 = 3
                  · rw [if_pos c42] at H
                    have c42b0 : (a0_1 == 3) = true := beq_iff_eq.mpr c42
                    have c42b1 : (a0_1 != 3) = false := bne_eq_false_iff_eq.mpr c42
                    clear c42
                    obtain rfl := Option.some.inj H
                    have hnb43 := NB119_118.out
                    have hnc43 := NB118_119.out
                    have hcz44_0 : wc.cell? ⟨gb119, 0, none⟩ = some (.int .i64 a1_0) := (blk_cell BK119.out 0).trans rfl
                    have hcz44_1 : wc.cell? ⟨gb119, 1, none⟩ = some (.int .i64 a1_1) := (blk_cell BK119.out 1).trans rfl
                    have hcz44_2 : wc.cell? ⟨gb119, 2, none⟩ = some (.string a1_2) := (blk_cell BK119.out 2).trans rfl
                    have hfz44_0 := blk_frozen BK119.out 0
                    have hfz44_1 := blk_frozen BK119.out 1
                    have hfz44_2 := blk_frozen BK119.out 2
                    have hcz45_0 : wc.cell? ⟨gb118, 0, none⟩ = some (.string a0_0) := (blk_cell BK118.out 0).trans rfl
                    have hcz45_1 : wc.cell? ⟨gb118, 1, none⟩ = some (.int .i64 a0_1) := (blk_cell BK118.out 1).trans rfl
                    have hcz45_2 : wc.cell? ⟨gb118, 2, none⟩ = some (.int .i64 a0_2) := (blk_cell BK118.out 2).trans rfl
                    have hcz45_3 : wc.cell? ⟨gb118, 3, none⟩ = some (.int .i64 a0_3) := (blk_cell BK118.out 3).trans rfl
                    have hcz45_4 : wc.cell? ⟨gb118, 4, none⟩ = some (.string a0_4) := (blk_cell BK118.out 4).trans rfl
                    have hfz45_0 := blk_frozen BK118.out 0
                    have hfz45_1 := blk_frozen BK118.out 1
                    have hfz45_2 := blk_frozen BK118.out 2
                    have hfz45_3 := blk_frozen BK118.out 3
                    have hfz45_4 := blk_frozen BK118.out 4
                    go_wp2_with (first | ((with_reducible refine gate_callee (f := 33) rfl ?_); refine goesL_ (some 17) rfl rfl Try.func33 (by kernel_rfl) rfl #[.agg #[.int .i64 a1_0, .int .i64 a1_1, .string a1_2], .agg #[.int .i64 a0_2, .int .i64 a0_3, .string a0_4]] rfl (by (try simp only [List.map_toArray, List.map_cons, List.map_nil]); first | done | rfl | (simp only [List.length_drop, List.length_take]; rfl)) ?_; (with_reducible refine (value_Compare.calls kj2 a1_0 a1_1 a1_2 a0_2 a0_3 a0_4 t122 _ A18.out).mono ?_); rintro e w46 ⟨rfl, hb⟩; refine ⟨_, rfl, ?_⟩; have n0_ := Aside0.mk (blk_below (g := gb118) (o := .cells #[.string a0_0, .int .i64 a0_1, .int .i64 a0_2, .int .i64 a0_3, .string a0_4] 47 (0, 0)) (by (with_reducible repeat (first | refine blk_drewN ?_ _ | refine blk_drew ?_ | refine blk_alloc ?_ _)); exact BK118.out) hb); have n1_ := Aside0.mk (blk_below (g := gb119) (o := .cells #[.int .i64 a1_0, .int .i64 a1_1, .string a1_2] 45 (0, 0)) (by (with_reducible repeat (first | refine blk_drewN ?_ _ | refine blk_drew ?_ | refine blk_alloc ?_ _)); exact BK119.out) hb); have n2_ := Aside0.mk (below_step (by repeat (first | (with_reducible first | exact HB.out | apply below_alloc | apply pw_below_drewN | apply below_drew1 | refine below_set ?_ GE118.out | refine below_set ?_ GE119.out) | exact HB.out)) hb); clear BK118; clear BK119; clear HB; have BK118 := n0_; have BK119 := n1_; have HB := n2_; clear n0_ n1_ n2_; (try clear hb); (try clear hb2); (try clear hk); (try clear hi); have hcz47_0 : w46.cell? ⟨gb118, 0, none⟩ = some (.string a0_0) := (blk_cell BK118.out 0).trans rfl; have hcz47_1 : w46.cell? ⟨gb118, 1, none⟩ = some (.int .i64 a0_1) := (blk_cell BK118.out 1).trans rfl; have hcz47_2 : w46.cell? ⟨gb118, 2, none⟩ = some (.int .i64 a0_2) := (blk_cell BK118.out 2).trans rfl; have hcz47_3 : w46.cell? ⟨gb118, 3, none⟩ = some (.int .i64 a0_3) := (blk_cell BK118.out 3).trans rfl; have hcz47_4 : w46.cell? ⟨gb118, 4, none⟩ = some (.string a0_4) := (blk_cell BK118.out 4).trans rfl; have hfz47_0 := blk_frozen BK118.out 0; have hfz47_1 := blk_frozen BK118.out 1; have hfz47_2 := blk_frozen BK118.out 2; have hfz47_3 := blk_frozen BK118.out 3; have hfz47_4 := blk_frozen BK118.out 4; have hcz48_0 : w46.cell? ⟨gb119, 0, none⟩ = some (.int .i64 a1_0) := (blk_cell BK119.out 0).trans rfl; have hcz48_1 : w46.cell? ⟨gb119, 1, none⟩ = some (.int .i64 a1_1) := (blk_cell BK119.out 1).trans rfl; have hcz48_2 : w46.cell? ⟨gb119, 2, none⟩ = some (.string a1_2) := (blk_cell BK119.out 2).trans rfl; have hfz48_0 := blk_frozen BK119.out 0; have hfz48_1 := blk_frozen BK119.out 1; have hfz48_2 := blk_frozen BK119.out 2))
                    go_ret
                    exact ⟨by first | rfl | (simp [errW_none, errW_some] <;> rfl) | (simp [*, errW_none, errW_some] <;> rfl), by repeat (first | (with_reducible first | exact HB.out | apply below_alloc | apply pw_below_drewN | apply below_drew1 | refine below_set ?_ GE118.out | refine below_set ?_ GE119.out) | exact HB.out)⟩
                  · rw [if_neg c42] at H
                    have c42b0 : (a0_1 == 3) = false := beq_eq_false_iff_ne.mpr c42
                    have c42b1 : (a0_1 != 3) = true := bne_iff_ne.mpr c42
                    obtain rfl := Option.some.inj H
                    have hnb49 := NB119_118.out
                    have hnc49 := NB118_119.out
                    have hcz50_0 : wc.cell? ⟨gb119, 0, none⟩ = some (.int .i64 a1_0) := (blk_cell BK119.out 0).trans rfl
                    have hcz50_1 : wc.cell? ⟨gb119, 1, none⟩ = some (.int .i64 a1_1) := (blk_cell BK119.out 1).trans rfl
                    have hcz50_2 : wc.cell? ⟨gb119, 2, none⟩ = some (.string a1_2) := (blk_cell BK119.out 2).trans rfl
                    have hfz50_0 := blk_frozen BK119.out 0
                    have hfz50_1 := blk_frozen BK119.out 1
                    have hfz50_2 := blk_frozen BK119.out 2
                    have hcz51_0 : wc.cell? ⟨gb118, 0, none⟩ = some (.string a0_0) := (blk_cell BK118.out 0).trans rfl
                    have hcz51_1 : wc.cell? ⟨gb118, 1, none⟩ = some (.int .i64 a0_1) := (blk_cell BK118.out 1).trans rfl
                    have hcz51_2 : wc.cell? ⟨gb118, 2, none⟩ = some (.int .i64 a0_2) := (blk_cell BK118.out 2).trans rfl
                    have hcz51_3 : wc.cell? ⟨gb118, 3, none⟩ = some (.int .i64 a0_3) := (blk_cell BK118.out 3).trans rfl
                    have hcz51_4 : wc.cell? ⟨gb118, 4, none⟩ = some (.string a0_4) := (blk_cell BK118.out 4).trans rfl
                    have hfz51_0 := blk_frozen BK118.out 0
                    have hfz51_1 := blk_frozen BK118.out 1
                    have hfz51_2 := blk_frozen BK118.out 2
                    have hfz51_3 := blk_frozen BK118.out 3
                    have hfz51_4 := blk_frozen BK118.out 4
                    go_wp2_with (first | ((with_reducible refine gate_callee (f := 33) rfl ?_); refine goesL_ (some 17) rfl rfl Try.func33 (by kernel_rfl) rfl #[.agg #[.int .i64 a1_0, .int .i64 a1_1, .string a1_2], .agg #[.int .i64 a0_2, .int .i64 a0_3, .string a0_4]] rfl (by (try simp only [List.map_toArray, List.map_cons, List.map_nil]); first | done | rfl | (simp only [List.length_drop, List.length_take]; rfl)) ?_; (with_reducible refine (value_Compare.calls kj2 a1_0 a1_1 a1_2 a0_2 a0_3 a0_4 t122 _ A18.out).mono ?_); rintro e w52 ⟨rfl, hb⟩; refine ⟨_, rfl, ?_⟩; have n0_ := Aside0.mk (blk_below (g := gb118) (o := .cells #[.string a0_0, .int .i64 a0_1, .int .i64 a0_2, .int .i64 a0_3, .string a0_4] 47 (0, 0)) (by (with_reducible repeat (first | refine blk_drewN ?_ _ | refine blk_drew ?_ | refine blk_alloc ?_ _)); exact BK118.out) hb); have n1_ := Aside0.mk (blk_below (g := gb119) (o := .cells #[.int .i64 a1_0, .int .i64 a1_1, .string a1_2] 45 (0, 0)) (by (with_reducible repeat (first | refine blk_drewN ?_ _ | refine blk_drew ?_ | refine blk_alloc ?_ _)); exact BK119.out) hb); have n2_ := Aside0.mk (below_step (by repeat (first | (with_reducible first | exact HB.out | apply below_alloc | apply pw_below_drewN | apply below_drew1 | refine below_set ?_ GE118.out | refine below_set ?_ GE119.out) | exact HB.out)) hb); clear BK118; clear BK119; clear HB; have BK118 := n0_; have BK119 := n1_; have HB := n2_; clear n0_ n1_ n2_; (try clear hb); (try clear hb2); (try clear hk); (try clear hi); have hcz53_0 : w52.cell? ⟨gb118, 0, none⟩ = some (.string a0_0) := (blk_cell BK118.out 0).trans rfl; have hcz53_1 : w52.cell? ⟨gb118, 1, none⟩ = some (.int .i64 a0_1) := (blk_cell BK118.out 1).trans rfl; have hcz53_2 : w52.cell? ⟨gb118, 2, none⟩ = some (.int .i64 a0_2) := (blk_cell BK118.out 2).trans rfl; have hcz53_3 : w52.cell? ⟨gb118, 3, none⟩ = some (.int .i64 a0_3) := (blk_cell BK118.out 3).trans rfl; have hcz53_4 : w52.cell? ⟨gb118, 4, none⟩ = some (.string a0_4) := (blk_cell BK118.out 4).trans rfl; have hfz53_0 := blk_frozen BK118.out 0; have hfz53_1 := blk_frozen BK118.out 1; have hfz53_2 := blk_frozen BK118.out 2; have hfz53_3 := blk_frozen BK118.out 3; have hfz53_4 := blk_frozen BK118.out 4; have hcz54_0 : w52.cell? ⟨gb119, 0, none⟩ = some (.int .i64 a1_0) := (blk_cell BK119.out 0).trans rfl; have hcz54_1 : w52.cell? ⟨gb119, 1, none⟩ = some (.int .i64 a1_1) := (blk_cell BK119.out 1).trans rfl; have hcz54_2 : w52.cell? ⟨gb119, 2, none⟩ = some (.string a1_2) := (blk_cell BK119.out 2).trans rfl; have hfz54_0 := blk_frozen BK119.out 0; have hfz54_1 := blk_frozen BK119.out 1; have hfz54_2 := blk_frozen BK119.out 2))
                    go_ret
                    exact ⟨by first | rfl | (simp [errW_none, errW_some] <;> rfl) | (simp [*, errW_none, errW_some] <;> rfl), by repeat (first | (with_reducible first | exact HB.out | apply below_alloc | apply pw_below_drewN | apply below_drew1 | refine below_set ?_ GE118.out | refine below_set ?_ GE119.out) | exact HB.out)⟩
              · rw [if_neg c34] at H
                have c34b0 : decide (t122 < 0) = false := decide_eq_false c34
                clear c34
                by_cases c55 : t122 > 0
                · rw [if_pos c55] at H
                  have c55b0 : decide (0 < t122) = true := decide_eq_true c55
                  clear c55
                  by_cases c56 : a0_1 = 2
                  · rw [if_pos c56] at H
                    have c56b0 : (a0_1 == 2) = true := beq_iff_eq.mpr c56
                    have c56b1 : (a0_1 != 2) = false := bne_eq_false_iff_eq.mpr c56
                    clear c56
                    obtain rfl := Option.some.inj H
                    have hnb57 := NB119_118.out
                    have hnc57 := NB118_119.out
                    have hcz58_0 : wc.cell? ⟨gb119, 0, none⟩ = some (.int .i64 a1_0) := (blk_cell BK119.out 0).trans rfl
                    have hcz58_1 : wc.cell? ⟨gb119, 1, none⟩ = some (.int .i64 a1_1) := (blk_cell BK119.out 1).trans rfl
                    have hcz58_2 : wc.cell? ⟨gb119, 2, none⟩ = some (.string a1_2) := (blk_cell BK119.out 2).trans rfl
                    have hfz58_0 := blk_frozen BK119.out 0
                    have hfz58_1 := blk_frozen BK119.out 1
                    have hfz58_2 := blk_frozen BK119.out 2
                    have hcz59_0 : wc.cell? ⟨gb118, 0, none⟩ = some (.string a0_0) := (blk_cell BK118.out 0).trans rfl
                    have hcz59_1 : wc.cell? ⟨gb118, 1, none⟩ = some (.int .i64 a0_1) := (blk_cell BK118.out 1).trans rfl
                    have hcz59_2 : wc.cell? ⟨gb118, 2, none⟩ = some (.int .i64 a0_2) := (blk_cell BK118.out 2).trans rfl
                    have hcz59_3 : wc.cell? ⟨gb118, 3, none⟩ = some (.int .i64 a0_3) := (blk_cell BK118.out 3).trans rfl
                    have hcz59_4 : wc.cell? ⟨gb118, 4, none⟩ = some (.string a0_4) := (blk_cell BK118.out 4).trans rfl
                    have hfz59_0 := blk_frozen BK118.out 0
                    have hfz59_1 := blk_frozen BK118.out 1
                    have hfz59_2 := blk_frozen BK118.out 2
                    have hfz59_3 := blk_frozen BK118.out 3
                    have hfz59_4 := blk_frozen BK118.out 4
                    go_wp2_with (first | ((with_reducible refine gate_callee (f := 33) rfl ?_); refine goesL_ (some 17) rfl rfl Try.func33 (by kernel_rfl) rfl #[.agg #[.int .i64 a1_0, .int .i64 a1_1, .string a1_2], .agg #[.int .i64 a0_2, .int .i64 a0_3, .string a0_4]] rfl (by (try simp only [List.map_toArray, List.map_cons, List.map_nil]); first | done | rfl | (simp only [List.length_drop, List.length_take]; rfl)) ?_; (with_reducible refine (value_Compare.calls kj2 a1_0 a1_1 a1_2 a0_2 a0_3 a0_4 t122 _ A18.out).mono ?_); rintro e w60 ⟨rfl, hb⟩; refine ⟨_, rfl, ?_⟩; have n0_ := Aside0.mk (blk_below (g := gb118) (o := .cells #[.string a0_0, .int .i64 a0_1, .int .i64 a0_2, .int .i64 a0_3, .string a0_4] 47 (0, 0)) (by (with_reducible repeat (first | refine blk_drewN ?_ _ | refine blk_drew ?_ | refine blk_alloc ?_ _)); exact BK118.out) hb); have n1_ := Aside0.mk (blk_below (g := gb119) (o := .cells #[.int .i64 a1_0, .int .i64 a1_1, .string a1_2] 45 (0, 0)) (by (with_reducible repeat (first | refine blk_drewN ?_ _ | refine blk_drew ?_ | refine blk_alloc ?_ _)); exact BK119.out) hb); have n2_ := Aside0.mk (below_step (by repeat (first | (with_reducible first | exact HB.out | apply below_alloc | apply pw_below_drewN | apply below_drew1 | refine below_set ?_ GE118.out | refine below_set ?_ GE119.out) | exact HB.out)) hb); clear BK118; clear BK119; clear HB; have BK118 := n0_; have BK119 := n1_; have HB := n2_; clear n0_ n1_ n2_; (try clear hb); (try clear hb2); (try clear hk); (try clear hi); have hcz61_0 : w60.cell? ⟨gb118, 0, none⟩ = some (.string a0_0) := (blk_cell BK118.out 0).trans rfl; have hcz61_1 : w60.cell? ⟨gb118, 1, none⟩ = some (.int .i64 a0_1) := (blk_cell BK118.out 1).trans rfl; have hcz61_2 : w60.cell? ⟨gb118, 2, none⟩ = some (.int .i64 a0_2) := (blk_cell BK118.out 2).trans rfl; have hcz61_3 : w60.cell? ⟨gb118, 3, none⟩ = some (.int .i64 a0_3) := (blk_cell BK118.out 3).trans rfl; have hcz61_4 : w60.cell? ⟨gb118, 4, none⟩ = some (.string a0_4) := (blk_cell BK118.out 4).trans rfl; have hfz61_0 := blk_frozen BK118.out 0; have hfz61_1 := blk_frozen BK118.out 1; have hfz61_2 := blk_frozen BK118.out 2; have hfz61_3 := blk_frozen BK118.out 3; have hfz61_4 := blk_frozen BK118.out 4; have hcz62_0 : w60.cell? ⟨gb119, 0, none⟩ = some (.int .i64 a1_0) := (blk_cell BK119.out 0).trans rfl; have hcz62_1 : w60.cell? ⟨gb119, 1, none⟩ = some (.int .i64 a1_1) := (blk_cell BK119.out 1).trans rfl; have hcz62_2 : w60.cell? ⟨gb119, 2, none⟩ = some (.string a1_2) := (blk_cell BK119.out 2).trans rfl; have hfz62_0 := blk_frozen BK119.out 0; have hfz62_1 := blk_frozen BK119.out 1; have hfz62_2 := blk_frozen BK119.out 2))
                    go_ret
                    exact ⟨by first | rfl | (simp [errW_none, errW_some] <;> rfl) | (simp [*, errW_none, errW_some] <;> rfl), by repeat (first | (with_reducible first | exact HB.out | apply below_alloc | apply pw_below_drewN | apply below_drew1 | refine below_set ?_ GE118.out | refine below_set ?_ GE119.out) | exact HB.out)⟩
                  · rw [if_neg c56] at H
                    have c56b0 : (a0_1 == 2) = false := beq_eq_false_iff_ne.mpr c56
                    have c56b1 : (a0_1 != 2) = true := bne_iff_ne.mpr c56
                    by_cases c63 : a0_1 = 5
                    · rw [if_pos c63] at H
                      have c63b0 : (a0_1 == 5) = true := beq_iff_eq.mpr c63
                      have c63b1 : (a0_1 != 5) = false := bne_eq_false_iff_eq.mpr c63
                      clear c63
                      obtain rfl := Option.some.inj H
                      have hnb64 := NB119_118.out
                      have hnc64 := NB118_119.out
                      have hcz65_0 : wc.cell? ⟨gb119, 0, none⟩ = some (.int .i64 a1_0) := (blk_cell BK119.out 0).trans rfl
                      have hcz65_1 : wc.cell? ⟨gb119, 1, none⟩ = some (.int .i64 a1_1) := (blk_cell BK119.out 1).trans rfl
                      have hcz65_2 : wc.cell? ⟨gb119, 2, none⟩ = some (.string a1_2) := (blk_cell BK119.out 2).trans rfl
                      have hfz65_0 := blk_frozen BK119.out 0
                      have hfz65_1 := blk_frozen BK119.out 1
                      have hfz65_2 := blk_frozen BK119.out 2
                      have hcz66_0 : wc.cell? ⟨gb118, 0, none⟩ = some (.string a0_0) := (blk_cell BK118.out 0).trans rfl
                      have hcz66_1 : wc.cell? ⟨gb118, 1, none⟩ = some (.int .i64 a0_1) := (blk_cell BK118.out 1).trans rfl
                      have hcz66_2 : wc.cell? ⟨gb118, 2, none⟩ = some (.int .i64 a0_2) := (blk_cell BK118.out 2).trans rfl
                      have hcz66_3 : wc.cell? ⟨gb118, 3, none⟩ = some (.int .i64 a0_3) := (blk_cell BK118.out 3).trans rfl
                      have hcz66_4 : wc.cell? ⟨gb118, 4, none⟩ = some (.string a0_4) := (blk_cell BK118.out 4).trans rfl
                      have hfz66_0 := blk_frozen BK118.out 0
                      have hfz66_1 := blk_frozen BK118.out 1
                      have hfz66_2 := blk_frozen BK118.out 2
                      have hfz66_3 := blk_frozen BK118.out 3
                      have hfz66_4 := blk_frozen BK118.out 4
                      go_wp2_with (first | ((with_reducible refine gate_callee (f := 33) rfl ?_); refine goesL_ (some 17) rfl rfl Try.func33 (by kernel_rfl) rfl #[.agg #[.int .i64 a1_0, .int .i64 a1_1, .string a1_2], .agg #[.int .i64 a0_2, .int .i64 a0_3, .string a0_4]] rfl (by (try simp only [List.map_toArray, List.map_cons, List.map_nil]); first | done | rfl | (simp only [List.length_drop, List.length_take]; rfl)) ?_; (with_reducible refine (value_Compare.calls kj2 a1_0 a1_1 a1_2 a0_2 a0_3 a0_4 t122 _ A18.out).mono ?_); rintro e w67 ⟨rfl, hb⟩; refine ⟨_, rfl, ?_⟩; have n0_ := Aside0.mk (blk_below (g := gb118) (o := .cells #[.string a0_0, .int .i64 a0_1, .int .i64 a0_2, .int .i64 a0_3, .string a0_4] 47 (0, 0)) (by (with_reducible repeat (first | refine blk_drewN ?_ _ | refine blk_drew ?_ | refine blk_alloc ?_ _)); exact BK118.out) hb); have n1_ := Aside0.mk (blk_below (g := gb119) (o := .cells #[.int .i64 a1_0, .int .i64 a1_1, .string a1_2] 45 (0, 0)) (by (with_reducible repeat (first | refine blk_drewN ?_ _ | refine blk_drew ?_ | refine blk_alloc ?_ _)); exact BK119.out) hb); have n2_ := Aside0.mk (below_step (by repeat (first | (with_reducible first | exact HB.out | apply below_alloc | apply pw_below_drewN | apply below_drew1 | refine below_set ?_ GE118.out | refine below_set ?_ GE119.out) | exact HB.out)) hb); clear BK118; clear BK119; clear HB; have BK118 := n0_; have BK119 := n1_; have HB := n2_; clear n0_ n1_ n2_; (try clear hb); (try clear hb2); (try clear hk); (try clear hi); have hcz68_0 : w67.cell? ⟨gb118, 0, none⟩ = some (.string a0_0) := (blk_cell BK118.out 0).trans rfl; have hcz68_1 : w67.cell? ⟨gb118, 1, none⟩ = some (.int .i64 a0_1) := (blk_cell BK118.out 1).trans rfl; have hcz68_2 : w67.cell? ⟨gb118, 2, none⟩ = some (.int .i64 a0_2) := (blk_cell BK118.out 2).trans rfl; have hcz68_3 : w67.cell? ⟨gb118, 3, none⟩ = some (.int .i64 a0_3) := (blk_cell BK118.out 3).trans rfl; have hcz68_4 : w67.cell? ⟨gb118, 4, none⟩ = some (.string a0_4) := (blk_cell BK118.out 4).trans rfl; have hfz68_0 := blk_frozen BK118.out 0; have hfz68_1 := blk_frozen BK118.out 1; have hfz68_2 := blk_frozen BK118.out 2; have hfz68_3 := blk_frozen BK118.out 3; have hfz68_4 := blk_frozen BK118.out 4; have hcz69_0 : w67.cell? ⟨gb119, 0, none⟩ = some (.int .i64 a1_0) := (blk_cell BK119.out 0).trans rfl; have hcz69_1 : w67.cell? ⟨gb119, 1, none⟩ = some (.int .i64 a1_1) := (blk_cell BK119.out 1).trans rfl; have hcz69_2 : w67.cell? ⟨gb119, 2, none⟩ = some (.string a1_2) := (blk_cell BK119.out 2).trans rfl; have hfz69_0 := blk_frozen BK119.out 0; have hfz69_1 := blk_frozen BK119.out 1; have hfz69_2 := blk_frozen BK119.out 2))
                      go_ret
                      exact ⟨by first | rfl | (simp [errW_none, errW_some] <;> rfl) | (simp [*, errW_none, errW_some] <;> rfl), by repeat (first | (with_reducible first | exact HB.out | apply below_alloc | apply pw_below_drewN | apply below_drew1 | refine below_set ?_ GE118.out | refine below_set ?_ GE119.out) | exact HB.out)⟩
                    · rw [if_neg c63] at H
                      have c63b0 : (a0_1 == 5) = false := beq_eq_false_iff_ne.mpr c63
                      have c63b1 : (a0_1 != 5) = true := bne_iff_ne.mpr c63
                      obtain rfl := Option.some.inj H
                      have hnb70 := NB119_118.out
                      have hnc70 := NB118_119.out
                      have hcz71_0 : wc.cell? ⟨gb119, 0, none⟩ = some (.int .i64 a1_0) := (blk_cell BK119.out 0).trans rfl
                      have hcz71_1 : wc.cell? ⟨gb119, 1, none⟩ = some (.int .i64 a1_1) := (blk_cell BK119.out 1).trans rfl
                      have hcz71_2 : wc.cell? ⟨gb119, 2, none⟩ = some (.string a1_2) := (blk_cell BK119.out 2).trans rfl
                      have hfz71_0 := blk_frozen BK119.out 0
                      have hfz71_1 := blk_frozen BK119.out 1
                      have hfz71_2 := blk_frozen BK119.out 2
                      have hcz72_0 : wc.cell? ⟨gb118, 0, none⟩ = some (.string a0_0) := (blk_cell BK118.out 0).trans rfl
                      have hcz72_1 : wc.cell? ⟨gb118, 1, none⟩ = some (.int .i64 a0_1) := (blk_cell BK118.out 1).trans rfl
                      have hcz72_2 : wc.cell? ⟨gb118, 2, none⟩ = some (.int .i64 a0_2) := (blk_cell BK118.out 2).trans rfl
                      have hcz72_3 : wc.cell? ⟨gb118, 3, none⟩ = some (.int .i64 a0_3) := (blk_cell BK118.out 3).trans rfl
                      have hcz72_4 : wc.cell? ⟨gb118, 4, none⟩ = some (.string a0_4) := (blk_cell BK118.out 4).trans rfl
                      have hfz72_0 := blk_frozen BK118.out 0
                      have hfz72_1 := blk_frozen BK118.out 1
                      have hfz72_2 := blk_frozen BK118.out 2
                      have hfz72_3 := blk_frozen BK118.out 3
                      have hfz72_4 := blk_frozen BK118.out 4
                      go_wp2_with (first | ((with_reducible refine gate_callee (f := 33) rfl ?_); refine goesL_ (some 17) rfl rfl Try.func33 (by kernel_rfl) rfl #[.agg #[.int .i64 a1_0, .int .i64 a1_1, .string a1_2], .agg #[.int .i64 a0_2, .int .i64 a0_3, .string a0_4]] rfl (by (try simp only [List.map_toArray, List.map_cons, List.map_nil]); first | done | rfl | (simp only [List.length_drop, List.length_take]; rfl)) ?_; (with_reducible refine (value_Compare.calls kj2 a1_0 a1_1 a1_2 a0_2 a0_3 a0_4 t122 _ A18.out).mono ?_); rintro e w73 ⟨rfl, hb⟩; refine ⟨_, rfl, ?_⟩; have n0_ := Aside0.mk (blk_below (g := gb118) (o := .cells #[.string a0_0, .int .i64 a0_1, .int .i64 a0_2, .int .i64 a0_3, .string a0_4] 47 (0, 0)) (by (with_reducible repeat (first | refine blk_drewN ?_ _ | refine blk_drew ?_ | refine blk_alloc ?_ _)); exact BK118.out) hb); have n1_ := Aside0.mk (blk_below (g := gb119) (o := .cells #[.int .i64 a1_0, .int .i64 a1_1, .string a1_2] 45 (0, 0)) (by (with_reducible repeat (first | refine blk_drewN ?_ _ | refine blk_drew ?_ | refine blk_alloc ?_ _)); exact BK119.out) hb); have n2_ := Aside0.mk (below_step (by repeat (first | (with_reducible first | exact HB.out | apply below_alloc | apply pw_below_drewN | apply below_drew1 | refine below_set ?_ GE118.out | refine below_set ?_ GE119.out) | exact HB.out)) hb); clear BK118; clear BK119; clear HB; have BK118 := n0_; have BK119 := n1_; have HB := n2_; clear n0_ n1_ n2_; (try clear hb); (try clear hb2); (try clear hk); (try clear hi); have hcz74_0 : w73.cell? ⟨gb118, 0, none⟩ = some (.string a0_0) := (blk_cell BK118.out 0).trans rfl; have hcz74_1 : w73.cell? ⟨gb118, 1, none⟩ = some (.int .i64 a0_1) := (blk_cell BK118.out 1).trans rfl; have hcz74_2 : w73.cell? ⟨gb118, 2, none⟩ = some (.int .i64 a0_2) := (blk_cell BK118.out 2).trans rfl; have hcz74_3 : w73.cell? ⟨gb118, 3, none⟩ = some (.int .i64 a0_3) := (blk_cell BK118.out 3).trans rfl; have hcz74_4 : w73.cell? ⟨gb118, 4, none⟩ = some (.string a0_4) := (blk_cell BK118.out 4).trans rfl; have hfz74_0 := blk_frozen BK118.out 0; have hfz74_1 := blk_frozen BK118.out 1; have hfz74_2 := blk_frozen BK118.out 2; have hfz74_3 := blk_frozen BK118.out 3; have hfz74_4 := blk_frozen BK118.out 4; have hcz75_0 : w73.cell? ⟨gb119, 0, none⟩ = some (.int .i64 a1_0) := (blk_cell BK119.out 0).trans rfl; have hcz75_1 : w73.cell? ⟨gb119, 1, none⟩ = some (.int .i64 a1_1) := (blk_cell BK119.out 1).trans rfl; have hcz75_2 : w73.cell? ⟨gb119, 2, none⟩ = some (.string a1_2) := (blk_cell BK119.out 2).trans rfl; have hfz75_0 := blk_frozen BK119.out 0; have hfz75_1 := blk_frozen BK119.out 1; have hfz75_2 := blk_frozen BK119.out 2))
                      go_ret
                      exact ⟨by first | rfl | (simp [errW_none, errW_some] <;> rfl) | (simp [*, errW_none, errW_some] <;> rfl), by repeat (first | (with_reducible first | exact HB.out | apply below_alloc | apply pw_below_drewN | apply below_drew1 | refine below_set ?_ GE118.out | refine below_set ?_ GE119.out) | exact HB.out)⟩
                · rw [if_neg c55] at H
                  have c55b0 : decide (0 < t122) = false := decide_eq_false c55
                  clear c55
                  by_cases c76 : a0_1 = 1
                  · rw [if_pos c76] at H
                    have c76b0 : (a0_1 == 1) = true := beq_iff_eq.mpr c76
                    have c76b1 : (a0_1 != 1) = false := bne_eq_false_iff_eq.mpr c76
                    clear c76
                    obtain rfl := Option.some.inj H
                    have hnb77 := NB119_118.out
                    have hnc77 := NB118_119.out
                    have hcz78_0 : wc.cell? ⟨gb119, 0, none⟩ = some (.int .i64 a1_0) := (blk_cell BK119.out 0).trans rfl
                    have hcz78_1 : wc.cell? ⟨gb119, 1, none⟩ = some (.int .i64 a1_1) := (blk_cell BK119.out 1).trans rfl
                    have hcz78_2 : wc.cell? ⟨gb119, 2, none⟩ = some (.string a1_2) := (blk_cell BK119.out 2).trans rfl
                    have hfz78_0 := blk_frozen BK119.out 0
                    have hfz78_1 := blk_frozen BK119.out 1
                    have hfz78_2 := blk_frozen BK119.out 2
                    have hcz79_0 : wc.cell? ⟨gb118, 0, none⟩ = some (.string a0_0) := (blk_cell BK118.out 0).trans rfl
                    have hcz79_1 : wc.cell? ⟨gb118, 1, none⟩ = some (.int .i64 a0_1) := (blk_cell BK118.out 1).trans rfl
                    have hcz79_2 : wc.cell? ⟨gb118, 2, none⟩ = some (.int .i64 a0_2) := (blk_cell BK118.out 2).trans rfl
                    have hcz79_3 : wc.cell? ⟨gb118, 3, none⟩ = some (.int .i64 a0_3) := (blk_cell BK118.out 3).trans rfl
                    have hcz79_4 : wc.cell? ⟨gb118, 4, none⟩ = some (.string a0_4) := (blk_cell BK118.out 4).trans rfl
                    have hfz79_0 := blk_frozen BK118.out 0
                    have hfz79_1 := blk_frozen BK118.out 1
                    have hfz79_2 := blk_frozen BK118.out 2
                    have hfz79_3 := blk_frozen BK118.out 3
                    have hfz79_4 := blk_frozen BK118.out 4
                    go_wp2_with (first | ((with_reducible refine gate_callee (f := 33) rfl ?_); refine goesL_ (some 17) rfl rfl Try.func33 (by kernel_rfl) rfl #[.agg #[.int .i64 a1_0, .int .i64 a1_1, .string a1_2], .agg #[.int .i64 a0_2, .int .i64 a0_3, .string a0_4]] rfl (by (try simp only [List.map_toArray, List.map_cons, List.map_nil]); first | done | rfl | (simp only [List.length_drop, List.length_take]; rfl)) ?_; (with_reducible refine (value_Compare.calls kj2 a1_0 a1_1 a1_2 a0_2 a0_3 a0_4 t122 _ A18.out).mono ?_); rintro e w80 ⟨rfl, hb⟩; refine ⟨_, rfl, ?_⟩; have n0_ := Aside0.mk (blk_below (g := gb118) (o := .cells #[.string a0_0, .int .i64 a0_1, .int .i64 a0_2, .int .i64 a0_3, .string a0_4] 47 (0, 0)) (by (with_reducible repeat (first | refine blk_drewN ?_ _ | refine blk_drew ?_ | refine blk_alloc ?_ _)); exact BK118.out) hb); have n1_ := Aside0.mk (blk_below (g := gb119) (o := .cells #[.int .i64 a1_0, .int .i64 a1_1, .string a1_2] 45 (0, 0)) (by (with_reducible repeat (first | refine blk_drewN ?_ _ | refine blk_drew ?_ | refine blk_alloc ?_ _)); exact BK119.out) hb); have n2_ := Aside0.mk (below_step (by repeat (first | (with_reducible first | exact HB.out | apply below_alloc | apply pw_below_drewN | apply below_drew1 | refine below_set ?_ GE118.out | refine below_set ?_ GE119.out) | exact HB.out)) hb); clear BK118; clear BK119; clear HB; have BK118 := n0_; have BK119 := n1_; have HB := n2_; clear n0_ n1_ n2_; (try clear hb); (try clear hb2); (try clear hk); (try clear hi); have hcz81_0 : w80.cell? ⟨gb118, 0, none⟩ = some (.string a0_0) := (blk_cell BK118.out 0).trans rfl; have hcz81_1 : w80.cell? ⟨gb118, 1, none⟩ = some (.int .i64 a0_1) := (blk_cell BK118.out 1).trans rfl; have hcz81_2 : w80.cell? ⟨gb118, 2, none⟩ = some (.int .i64 a0_2) := (blk_cell BK118.out 2).trans rfl; have hcz81_3 : w80.cell? ⟨gb118, 3, none⟩ = some (.int .i64 a0_3) := (blk_cell BK118.out 3).trans rfl; have hcz81_4 : w80.cell? ⟨gb118, 4, none⟩ = some (.string a0_4) := (blk_cell BK118.out 4).trans rfl; have hfz81_0 := blk_frozen BK118.out 0; have hfz81_1 := blk_frozen BK118.out 1; have hfz81_2 := blk_frozen BK118.out 2; have hfz81_3 := blk_frozen BK118.out 3; have hfz81_4 := blk_frozen BK118.out 4; have hcz82_0 : w80.cell? ⟨gb119, 0, none⟩ = some (.int .i64 a1_0) := (blk_cell BK119.out 0).trans rfl; have hcz82_1 : w80.cell? ⟨gb119, 1, none⟩ = some (.int .i64 a1_1) := (blk_cell BK119.out 1).trans rfl; have hcz82_2 : w80.cell? ⟨gb119, 2, none⟩ = some (.string a1_2) := (blk_cell BK119.out 2).trans rfl; have hfz82_0 := blk_frozen BK119.out 0; have hfz82_1 := blk_frozen BK119.out 1; have hfz82_2 := blk_frozen BK119.out 2))
                    go_ret
                    exact ⟨by first | rfl | (simp [errW_none, errW_some] <;> rfl) | (simp [*, errW_none, errW_some] <;> rfl), by repeat (first | (with_reducible first | exact HB.out | apply below_alloc | apply pw_below_drewN | apply below_drew1 | refine below_set ?_ GE118.out | refine below_set ?_ GE119.out) | exact HB.out)⟩
                  · rw [if_neg c76] at H
                    have c76b0 : (a0_1 == 1) = false := beq_eq_false_iff_ne.mpr c76
                    have c76b1 : (a0_1 != 1) = true := bne_iff_ne.mpr c76
                    by_cases c83 : a0_1 = 4
                    · rw [if_pos c83] at H
                      have c83b0 : (a0_1 == 4) = true := beq_iff_eq.mpr c83
                      have c83b1 : (a0_1 != 4) = false := bne_eq_false_iff_eq.mpr c83
                      clear c83
                      obtain rfl := Option.some.inj H
                      have hnb84 := NB119_118.out
                      have hnc84 := NB118_119.out
                      have hcz85_0 : wc.cell? ⟨gb119, 0, none⟩ = some (.int .i64 a1_0) := (blk_cell BK119.out 0).trans rfl
                      have hcz85_1 : wc.cell? ⟨gb119, 1, none⟩ = some (.int .i64 a1_1) := (blk_cell BK119.out 1).trans rfl
                      have hcz85_2 : wc.cell? ⟨gb119, 2, none⟩ = some (.string a1_2) := (blk_cell BK119.out 2).trans rfl
                      have hfz85_0 := blk_frozen BK119.out 0
                      have hfz85_1 := blk_frozen BK119.out 1
                      have hfz85_2 := blk_frozen BK119.out 2
                      have hcz86_0 : wc.cell? ⟨gb118, 0, none⟩ = some (.string a0_0) := (blk_cell BK118.out 0).trans rfl
                      have hcz86_1 : wc.cell? ⟨gb118, 1, none⟩ = some (.int .i64 a0_1) := (blk_cell BK118.out 1).trans rfl
                      have hcz86_2 : wc.cell? ⟨gb118, 2, none⟩ = some (.int .i64 a0_2) := (blk_cell BK118.out 2).trans rfl
                      have hcz86_3 : wc.cell? ⟨gb118, 3, none⟩ = some (.int .i64 a0_3) := (blk_cell BK118.out 3).trans rfl
                      have hcz86_4 : wc.cell? ⟨gb118, 4, none⟩ = some (.string a0_4) := (blk_cell BK118.out 4).trans rfl
                      have hfz86_0 := blk_frozen BK118.out 0
                      have hfz86_1 := blk_frozen BK118.out 1
                      have hfz86_2 := blk_frozen BK118.out 2
                      have hfz86_3 := blk_frozen BK118.out 3
                      have hfz86_4 := blk_frozen BK118.out 4
                      go_wp2_with (first | ((with_reducible refine gate_callee (f := 33) rfl ?_); refine goesL_ (some 17) rfl rfl Try.func33 (by kernel_rfl) rfl #[.agg #[.int .i64 a1_0, .int .i64 a1_1, .string a1_2], .agg #[.int .i64 a0_2, .int .i64 a0_3, .string a0_4]] rfl (by (try simp only [List.map_toArray, List.map_cons, List.map_nil]); first | done | rfl | (simp only [List.length_drop, List.length_take]; rfl)) ?_; (with_reducible refine (value_Compare.calls kj2 a1_0 a1_1 a1_2 a0_2 a0_3 a0_4 t122 _ A18.out).mono ?_); rintro e w87 ⟨rfl, hb⟩; refine ⟨_, rfl, ?_⟩; have n0_ := Aside0.mk (blk_below (g := gb118) (o := .cells #[.string a0_0, .int .i64 a0_1, .int .i64 a0_2, .int .i64 a0_3, .string a0_4] 47 (0, 0)) (by (with_reducible repeat (first | refine blk_drewN ?_ _ | refine blk_drew ?_ | refine blk_alloc ?_ _)); exact BK118.out) hb); have n1_ := Aside0.mk (blk_below (g := gb119) (o := .cells #[.int .i64 a1_0, .int .i64 a1_1, .string a1_2] 45 (0, 0)) (by (with_reducible repeat (first | refine blk_drewN ?_ _ | refine blk_drew ?_ | refine blk_alloc ?_ _)); exact BK119.out) hb); have n2_ := Aside0.mk (below_step (by repeat (first | (with_reducible first | exact HB.out | apply below_alloc | apply pw_below_drewN | apply below_drew1 | refine below_set ?_ GE118.out | refine below_set ?_ GE119.out) | exact HB.out)) hb); clear BK118; clear BK119; clear HB; have BK118 := n0_; have BK119 := n1_; have HB := n2_; clear n0_ n1_ n2_; (try clear hb); (try clear hb2); (try clear hk); (try clear hi); have hcz88_0 : w87.cell? ⟨gb118, 0, none⟩ = some (.string a0_0) := (blk_cell BK118.out 0).trans rfl; have hcz88_1 : w87.cell? ⟨gb118, 1, none⟩ = some (.int .i64 a0_1) := (blk_cell BK118.out 1).trans rfl; have hcz88_2 : w87.cell? ⟨gb118, 2, none⟩ = some (.int .i64 a0_2) := (blk_cell BK118.out 2).trans rfl; have hcz88_3 : w87.cell? ⟨gb118, 3, none⟩ = some (.int .i64 a0_3) := (blk_cell BK118.out 3).trans rfl; have hcz88_4 : w87.cell? ⟨gb118, 4, none⟩ = some (.string a0_4) := (blk_cell BK118.out 4).trans rfl; have hfz88_0 := blk_frozen BK118.out 0; have hfz88_1 := blk_frozen BK118.out 1; have hfz88_2 := blk_frozen BK118.out 2; have hfz88_3 := blk_frozen BK118.out 3; have hfz88_4 := blk_frozen BK118.out 4; have hcz89_0 : w87.cell? ⟨gb119, 0, none⟩ = some (.int .i64 a1_0) := (blk_cell BK119.out 0).trans rfl; have hcz89_1 : w87.cell? ⟨gb119, 1, none⟩ = some (.int .i64 a1_1) := (blk_cell BK119.out 1).trans rfl; have hcz89_2 : w87.cell? ⟨gb119, 2, none⟩ = some (.string a1_2) := (blk_cell BK119.out 2).trans rfl; have hfz89_0 := blk_frozen BK119.out 0; have hfz89_1 := blk_frozen BK119.out 1; have hfz89_2 := blk_frozen BK119.out 2))
                      go_ret
                      exact ⟨by first | rfl | (simp [errW_none, errW_some] <;> rfl) | (simp [*, errW_none, errW_some] <;> rfl), by repeat (first | (with_reducible first | exact HB.out | apply below_alloc | apply pw_below_drewN | apply below_drew1 | refine below_set ?_ GE118.out | refine below_set ?_ GE119.out) | exact HB.out)⟩
                    · rw [if_neg c83] at H
                      have c83b0 : (a0_1 == 4) = false := beq_eq_false_iff_ne.mpr c83
                      have c83b1 : (a0_1 != 4) = true := bne_iff_ne.mpr c83
                      obtain rfl := Option.some.inj H
                      have hnb90 := NB119_118.out
                      have hnc90 := NB118_119.out
                      have hcz91_0 : wc.cell? ⟨gb119, 0, none⟩ = some (.int .i64 a1_0) := (blk_cell BK119.out 0).trans rfl
                      have hcz91_1 : wc.cell? ⟨gb119, 1, none⟩ = some (.int .i64 a1_1) := (blk_cell BK119.out 1).trans rfl
                      have hcz91_2 : wc.cell? ⟨gb119, 2, none⟩ = some (.string a1_2) := (blk_cell BK119.out 2).trans rfl
                      have hfz91_0 := blk_frozen BK119.out 0
                      have hfz91_1 := blk_frozen BK119.out 1
                      have hfz91_2 := blk_frozen BK119.out 2
                      have hcz92_0 : wc.cell? ⟨gb118, 0, none⟩ = some (.string a0_0) := (blk_cell BK118.out 0).trans rfl
                      have hcz92_1 : wc.cell? ⟨gb118, 1, none⟩ = some (.int .i64 a0_1) := (blk_cell BK118.out 1).trans rfl
                      have hcz92_2 : wc.cell? ⟨gb118, 2, none⟩ = some (.int .i64 a0_2) := (blk_cell BK118.out 2).trans rfl
                      have hcz92_3 : wc.cell? ⟨gb118, 3, none⟩ = some (.int .i64 a0_3) := (blk_cell BK118.out 3).trans rfl
                      have hcz92_4 : wc.cell? ⟨gb118, 4, none⟩ = some (.string a0_4) := (blk_cell BK118.out 4).trans rfl
                      have hfz92_0 := blk_frozen BK118.out 0
                      have hfz92_1 := blk_frozen BK118.out 1
                      have hfz92_2 := blk_frozen BK118.out 2
                      have hfz92_3 := blk_frozen BK118.out 3
                      have hfz92_4 := blk_frozen BK118.out 4
                      go_wp2_with (first | ((with_reducible refine gate_callee (f := 33) rfl ?_); refine goesL_ (some 17) rfl rfl Try.func33 (by kernel_rfl) rfl #[.agg #[.int .i64 a1_0, .int .i64 a1_1, .string a1_2], .agg #[.int .i64 a0_2, .int .i64 a0_3, .string a0_4]] rfl (by (try simp only [List.map_toArray, List.map_cons, List.map_nil]); first | done | rfl | (simp only [List.length_drop, List.length_take]; rfl)) ?_; (with_reducible refine (value_Compare.calls kj2 a1_0 a1_1 a1_2 a0_2 a0_3 a0_4 t122 _ A18.out).mono ?_); rintro e w93 ⟨rfl, hb⟩; refine ⟨_, rfl, ?_⟩; have n0_ := Aside0.mk (blk_below (g := gb118) (o := .cells #[.string a0_0, .int .i64 a0_1, .int .i64 a0_2, .int .i64 a0_3, .string a0_4] 47 (0, 0)) (by (with_reducible repeat (first | refine blk_drewN ?_ _ | refine blk_drew ?_ | refine blk_alloc ?_ _)); exact BK118.out) hb); have n1_ := Aside0.mk (blk_below (g := gb119) (o := .cells #[.int .i64 a1_0, .int .i64 a1_1, .string a1_2] 45 (0, 0)) (by (with_reducible repeat (first | refine blk_drewN ?_ _ | refine blk_drew ?_ | refine blk_alloc ?_ _)); exact BK119.out) hb); have n2_ := Aside0.mk (below_step (by repeat (first | (with_reducible first | exact HB.out | apply below_alloc | apply pw_below_drewN | apply below_drew1 | refine below_set ?_ GE118.out | refine below_set ?_ GE119.out) | exact HB.out)) hb); clear BK118; clear BK119; clear HB; have BK118 := n0_; have BK119 := n1_; have HB := n2_; clear n0_ n1_ n2_; (try clear hb); (try clear hb2); (try clear hk); (try clear hi); have hcz94_0 : w93.cell? ⟨gb118, 0, none⟩ = some (.string a0_0) := (blk_cell BK118.out 0).trans rfl; have hcz94_1 : w93.cell? ⟨gb118, 1, none⟩ = some (.int .i64 a0_1) := (blk_cell BK118.out 1).trans rfl; have hcz94_2 : w93.cell? ⟨gb118, 2, none⟩ = some (.int .i64 a0_2) := (blk_cell BK118.out 2).trans rfl; have hcz94_3 : w93.cell? ⟨gb118, 3, none⟩ = some (.int .i64 a0_3) := (blk_cell BK118.out 3).trans rfl; have hcz94_4 : w93.cell? ⟨gb118, 4, none⟩ = some (.string a0_4) := (blk_cell BK118.out 4).trans rfl; have hfz94_0 := blk_frozen BK118.out 0; have hfz94_1 := blk_frozen BK118.out 1; have hfz94_2 := blk_frozen BK118.out 2; have hfz94_3 := blk_frozen BK118.out 3; have hfz94_4 := blk_frozen BK118.out 4; have hcz95_0 : w93.cell? ⟨gb119, 0, none⟩ = some (.int .i64 a1_0) := (blk_cell BK119.out 0).trans rfl; have hcz95_1 : w93.cell? ⟨gb119, 1, none⟩ = some (.int .i64 a1_1) := (blk_cell BK119.out 1).trans rfl; have hcz95_2 : w93.cell? ⟨gb119, 2, none⟩ = some (.string a1_2) := (blk_cell BK119.out 2).trans rfl; have hfz95_0 := blk_frozen BK119.out 0; have hfz95_1 := blk_frozen BK119.out 1; have hfz95_2 := blk_frozen BK119.out 2))
                      go_ret
                      exact ⟨by first | rfl | (simp [errW_none, errW_some] <;> rfl) | (simp [*, errW_none, errW_some] <;> rfl), by repeat (first | (with_reducible first | exact HB.out | apply below_alloc | apply pw_below_drewN | apply below_drew1 | refine below_set ?_ GE118.out | refine below_set ?_ GE119.out) | exact HB.out)⟩
          · rw [if_neg c25] at H
            have c25b0 : (a1_0 == a0_2) = false := beq_eq_false_iff_ne.mpr c25
            have c25b1 : (a1_0 != a0_2) = true := bne_iff_ne.mpr c25
            obtain rfl := Option.some.inj H
            have hnb96 := NB119_118.out
            have hnc96 := NB118_119.out
            have hcz97_0 : wc.cell? ⟨gb119, 0, none⟩ = some (.int .i64 a1_0) := (blk_cell BK119.out 0).trans rfl
            have hcz97_1 : wc.cell? ⟨gb119, 1, none⟩ = some (.int .i64 a1_1) := (blk_cell BK119.out 1).trans rfl
            have hcz97_2 : wc.cell? ⟨gb119, 2, none⟩ = some (.string a1_2) := (blk_cell BK119.out 2).trans rfl
            have hfz97_0 := blk_frozen BK119.out 0
            have hfz97_1 := blk_frozen BK119.out 1
            have hfz97_2 := blk_frozen BK119.out 2
            have hcz98_0 : wc.cell? ⟨gb118, 0, none⟩ = some (.string a0_0) := (blk_cell BK118.out 0).trans rfl
            have hcz98_1 : wc.cell? ⟨gb118, 1, none⟩ = some (.int .i64 a0_1) := (blk_cell BK118.out 1).trans rfl
            have hcz98_2 : wc.cell? ⟨gb118, 2, none⟩ = some (.int .i64 a0_2) := (blk_cell BK118.out 2).trans rfl
            have hcz98_3 : wc.cell? ⟨gb118, 3, none⟩ = some (.int .i64 a0_3) := (blk_cell BK118.out 3).trans rfl
            have hcz98_4 : wc.cell? ⟨gb118, 4, none⟩ = some (.string a0_4) := (blk_cell BK118.out 4).trans rfl
            have hfz98_0 := blk_frozen BK118.out 0
            have hfz98_1 := blk_frozen BK118.out 1
            have hfz98_2 := blk_frozen BK118.out 2
            have hfz98_3 := blk_frozen BK118.out 3
            have hfz98_4 := blk_frozen BK118.out 4
            go_wp2_with (first | ((with_reducible refine gate_callee (f := 33) rfl ?_); refine goesL_ (some 17) rfl rfl Try.func33 (by kernel_rfl) rfl #[.agg #[.int .i64 a1_0, .int .i64 a1_1, .string a1_2], .agg #[.int .i64 a0_2, .int .i64 a0_3, .string a0_4]] rfl (by (try simp only [List.map_toArray, List.map_cons, List.map_nil]); first | done | rfl | (simp only [List.length_drop, List.length_take]; rfl)) ?_; (with_reducible refine (value_Compare.calls kj2 a1_0 a1_1 a1_2 a0_2 a0_3 a0_4 t122 _ A18.out).mono ?_); rintro e w99 ⟨rfl, hb⟩; refine ⟨_, rfl, ?_⟩; have n0_ := Aside0.mk (blk_below (g := gb118) (o := .cells #[.string a0_0, .int .i64 a0_1, .int .i64 a0_2, .int .i64 a0_3, .string a0_4] 47 (0, 0)) (by (with_reducible repeat (first | refine blk_drewN ?_ _ | refine blk_drew ?_ | refine blk_alloc ?_ _)); exact BK118.out) hb); have n1_ := Aside0.mk (blk_below (g := gb119) (o := .cells #[.int .i64 a1_0, .int .i64 a1_1, .string a1_2] 45 (0, 0)) (by (with_reducible repeat (first | refine blk_drewN ?_ _ | refine blk_drew ?_ | refine blk_alloc ?_ _)); exact BK119.out) hb); have n2_ := Aside0.mk (below_step (by repeat (first | (with_reducible first | exact HB.out | apply below_alloc | apply pw_below_drewN | apply below_drew1 | refine below_set ?_ GE118.out | refine below_set ?_ GE119.out) | exact HB.out)) hb); clear BK118; clear BK119; clear HB; have BK118 := n0_; have BK119 := n1_; have HB := n2_; clear n0_ n1_ n2_; (try clear hb); (try clear hb2); (try clear hk); (try clear hi); have hcz100_0 : w99.cell? ⟨gb118, 0, none⟩ = some (.string a0_0) := (blk_cell BK118.out 0).trans rfl; have hcz100_1 : w99.cell? ⟨gb118, 1, none⟩ = some (.int .i64 a0_1) := (blk_cell BK118.out 1).trans rfl; have hcz100_2 : w99.cell? ⟨gb118, 2, none⟩ = some (.int .i64 a0_2) := (blk_cell BK118.out 2).trans rfl; have hcz100_3 : w99.cell? ⟨gb118, 3, none⟩ = some (.int .i64 a0_3) := (blk_cell BK118.out 3).trans rfl; have hcz100_4 : w99.cell? ⟨gb118, 4, none⟩ = some (.string a0_4) := (blk_cell BK118.out 4).trans rfl; have hfz100_0 := blk_frozen BK118.out 0; have hfz100_1 := blk_frozen BK118.out 1; have hfz100_2 := blk_frozen BK118.out 2; have hfz100_3 := blk_frozen BK118.out 3; have hfz100_4 := blk_frozen BK118.out 4; have hcz101_0 : w99.cell? ⟨gb119, 0, none⟩ = some (.int .i64 a1_0) := (blk_cell BK119.out 0).trans rfl; have hcz101_1 : w99.cell? ⟨gb119, 1, none⟩ = some (.int .i64 a1_1) := (blk_cell BK119.out 1).trans rfl; have hcz101_2 : w99.cell? ⟨gb119, 2, none⟩ = some (.string a1_2) := (blk_cell BK119.out 2).trans rfl; have hfz101_0 := blk_frozen BK119.out 0; have hfz101_1 := blk_frozen BK119.out 1; have hfz101_2 := blk_frozen BK119.out 2))
            go_ret
            exact ⟨by first | rfl | (simp [errW_none, errW_some] <;> rfl) | (simp [*, errW_none, errW_some] <;> rfl), by repeat (first | (with_reducible first | exact HB.out | apply below_alloc | apply pw_below_drewN | apply below_drew1 | refine below_set ?_ GE118.out | refine below_set ?_ GE119.out) | exact HB.out)⟩

end Go.Proofs.Ytbcnknmgljdmlaa.G
end

section
/- index.Size and index.Meet, walked -/
set_option linter.unusedVariables false
set_option linter.unusedSimpArgs false
set_option autoImplicit false
namespace Go.Proofs.Ytbcnknmgljdmlaa
open Go Go.RowKit Go.Proofs.YtbcnknmgljdmlaaW.PrintWords Go.Proofs.YtbcnknmgljdmlaaW.PrintLast Go.Proofs.YtbcnknmgljdmlaaW.PrintMore Go.Proofs.Ytbcnknmgljdmlaa.G

theorem IxQ.step {w W W1 : World} {fs : List (Nat × Obj)} {q : List (Int × S47)} {ids needs : List Int} (h : IxQ w W fs q ids needs) (hb : Below W.heap.size W W1) : IxQ w W1 fs q ids needs := by
  obtain ⟨v, h⟩ := h.ex
  exact ⟨v, h.step hb⟩
/-! ### a row of the index, read -/
theorem ints_C {W : World} {base e : Nat} {v : Value} {l : List Int} (h : W.ownsRow base e 1 v l.length (intsV l)) : ∃ A c, v = .slice A l.length c ∧ l.length ≤ c ∧ (Kd.int .i64).C W A l.length l := by
  have h2 : W.ownsRow base e 1 v l.length (nums .i64 l) := h
  exact own_C (kd_R h2)
theorem reps_preds : ∀ (l : List S47) (W : World) (base : Nat) (ok : Nat → Prop), Reps (fun p cs => k47.M W base ok p cs) 5 l (l.flatMap predC) := by
  intro l W base ok
  refine ⟨?_, fun j p hj => ?_⟩
  · induction l with
    | nil => rfl
    | cons x l ih => simp only [List.flatMap_cons, List.length_append, List.length_cons]; rw [ih]; simp [predC]; omega
  · have : ((l.flatMap predC).drop (j * 5)).take 5 = predC p := by
      induction l generalizing j with
      | nil => simp at hj
      | cons x l ih =>
        cases j with
        | zero =>
          simp only [List.getElem?_cons_zero, Option.some.injEq] at hj
          subst hj
          rw [Nat.zero_mul, List.drop_zero, List.flatMap_cons, List.take_append_of_le_length (by simp [predC])]
          rfl
        | succ j =>
          rw [List.getElem?_cons_succ] at hj
          have := ih j hj
          rw [List.flatMap_cons, show (j + 1) * 5 = (predC x).length + j * 5 by simp [predC]; omega, ← List.drop_drop, List.drop_left]
          exact this
    rw [this]
    exact k47_mkM W base ok p
theorem preds_C {W : World} {base : Nat} {v : Value} {l : List S47} (h : W.ownsRow base 47 5 v l.length (l.flatMap predC)) : ∃ A c, v = .slice A l.length c ∧ l.length ≤ c ∧ k47.C W A l.length l := by
  have hR : k47.R 47 W base (fun _ => True) v l := ⟨fun _ _ => trivial, l.flatMap predC, h, reps_preds l _ _ _⟩
  obtain ⟨A, c, rfl⟩ := Kd.R_slice hR
  have := Kd.R_reads' hR
  exact ⟨A, c, rfl, this.2.1, this.2.2⟩
set_option maxHeartbeats 1000000 in
theorem wsize {w W : World} {q : List (Int × S47)} {ids needs : List Int} (h : IxQ w W [] q ids needs) :
    Calls Try.prog 11 #[.pointer (some ⟨w.heap.size + 2, 0, none⟩)] W fun e w' => e = .returned (.int .i64 (keysOf q).length) ∧ w' = W := by
  obtain ⟨val, hI⟩ := h.ex
  obtain ⟨⟨x0, x1, x2, x3⟩, x4, x5, x6, x7⟩ := cells4x hI.heap
  have hlen := hI.of.len (ty := 3) Try.underlying50
  rw [List.length_map] at hlen
  clear hI h
  go_enter Try.func11, Try.ntmps11
  go_wp2_with fail
  go_ret
  exact ⟨rfl, rfl⟩
/-! ### what Meet reckons -/
def incs (c : List Int) (ks : List Int) : List Int := ks.foldl (fun c k => c.set k.toNat (rd c k + 1)) c
def cntP (hb : S47 → S45 → Bool) (q : List (Int × S47)) (v : S45) (c : List Int) (p : S47) : List Int := if hb p v = true then incs c (occ q p) else c
def cntA (hb : S47 → S45 → Bool) (q : List (Int × S47)) (c : List Int) (a : S49) : List Int := (named (keysOf q) a.f0).foldl (cntP hb q a.f1) c
def meetC (hb : S47 → S45 → Bool) (q : List (Int × S47)) (n : Nat) (e : List S49) : List Int := e.foldl (cntA hb q) (List.replicate n 0)
def pickI (ids needs c : List Int) : Nat → List Int
  | 0 => []
  | k + 1 => pickI ids needs c k ++ (if rd c (k : Int) = rd needs (k : Int) then [rd ids (k : Int)] else [])
def meetI (hb : S47 → S45 → Bool) (q : List (Int × S47)) (ids needs : List Int) (e : List S49) : List Int := pickI ids needs (meetC hb q ids.length e) ids.length
theorem incs_len (ks : List Int) : ∀ c : List Int, (incs c ks).length = c.length := by
  induction ks with
  | nil => intro c; rfl
  | cons k ks ih => intro c; show (incs (c.set k.toNat (rd c k + 1)) ks).length = _; rw [ih, List.length_set]
theorem cntP_len (hb : S47 → S45 → Bool) (q : List (Int × S47)) (v : S45) (c : List Int) (p : S47) : (cntP hb q v c p).length = c.length := by
  unfold cntP; split
  · exact incs_len _ _
  · rfl
theorem fold_len {α : Type} (f : List Int → α → List Int) (hf : ∀ c a, (f c a).length = c.length) (l : List α) : ∀ c, (l.foldl f c).length = c.length := by
  induction l with
  | nil => intro c; rfl
  | cons a l ih => intro c; rw [List.foldl_cons, ih, hf]
theorem cntA_len (hb : S47 → S45 → Bool) (q : List (Int × S47)) (c : List Int) (a : S49) : (cntA hb q c a).length = c.length := fold_len _ (cntP_len hb q a.f1) _ _
theorem pickI_len (ids needs c : List Int) : ∀ k, (pickI ids needs c k).length ≤ k := by
  intro k
  induction k with
  | zero => simp [pickI]
  | succ k ih => rw [pickI, List.length_append]; split <;> simp <;> omega
/-- all counts lie between 0 and a bound -/
def CntOk (c : List Int) (M : Int) : Prop := ∀ x ∈ c, 0 ≤ x ∧ x ≤ M
theorem rd_mem {c : List Int} {k : Int} (h : k.toNat < c.length) : rd c k ∈ c := by simp [rd, List.getD_eq_getElem?_getD, h]
theorem CntOk.inc {c : List Int} {M : Int} (h : CntOk c M) (k : Int) : CntOk (c.set k.toNat (rd c k + 1)) (M + 1) := by
  by_cases hk : k.toNat < c.length
  · intro x hx
    rcases List.mem_or_eq_of_mem_set hx with hx | rfl
    · have := h x hx; omega
    · have := h _ (rd_mem hk); omega
  · rw [List.set_eq_of_length_le (by omega)]
    intro x hx
    have := h x hx
    omega
theorem CntOk.mono {c : List Int} {M M' : Int} (h : CntOk c M) (hm : M ≤ M') : CntOk c M' := fun x hx => by have := h x hx; omega
theorem CntOk.incs (ks : List Int) : ∀ {c : List Int} {M : Int}, CntOk c M → CntOk (incs c ks) (M + ks.length) := by
  induction ks with
  | nil => intro c M h; simpa [Go.Proofs.Ytbcnknmgljdmlaa.incs] using h
  | cons k ks ih =>
    intro c M h
    have := ih (h.inc k)
    exact CntOk.mono this (by simp only [List.length_cons]; omega)
theorem CntOk.fold {α : Type} (f : List Int → α → List Int) (K : Nat) (hf : ∀ c M a, CntOk c M → CntOk (f c a) (M + K)) (l : List α) : ∀ {c : List Int} {M : Int}, CntOk c M → CntOk (l.foldl f c) (M + (l.length * K : Nat)) := by
  induction l with
  | nil => intro c M h; simpa using h
  | cons a l ih =>
    intro c M h
    have := ih (hf c M a h)
    exact CntOk.mono this (by simp only [List.length_cons, Nat.add_mul, Nat.one_mul]; omega)
theorem cnt_bound (hb : S47 → S45 → Bool) (q : List (Int × S47)) (n : Nat) (e : List S49) (ns : List S47) (v : S45) (ks : List Int) (hq : q.length ≤ 100000) (he : e.length ≤ 100000) (hn : ns.length ≤ 100000) (hk : ks.length ≤ 100000) :
    CntOk (incs (ns.foldl (cntP hb q v) (e.foldl (cntA hb q) (List.replicate n 0))) ks) 2000000000000000 := by
  have hp : ∀ v (c : List Int) (M : Int) (p : S47), CntOk c M → CntOk (cntP hb q v c p) (M + (100000 : Nat)) := fun v c M p h => by
    unfold cntP
    split
    · exact CntOk.mono (h.incs (occ q p)) (by have := occ_len q p; omega)
    · exact h.mono (by omega)
  have ha : ∀ (c : List Int) (M : Int) (a : S49), CntOk c M → CntOk (cntA hb q c a) (M + (10000000000 : Nat)) := fun c M a h => by
    have h1 := CntOk.fold (cntP hb q a.f1) 100000 (hp a.f1) (named (keysOf q) a.f0) h
    have h2 := named_len (keysOf q) a.f0
    have h3 := keys_len q
    exact CntOk.mono h1 (by omega)
  have h0 : CntOk (List.replicate n (0 : Int)) 0 := fun x hx => by rw [List.mem_replicate] at hx; omega
  have h1 := CntOk.fold (cntA hb q) 10000000000 ha e h0
  have h2 := CntOk.fold (cntP hb q v) 100000 (hp v) ns h1
  exact CntOk.mono (h2.incs ks) (by omega)
theorem vkeepBm {W W' : World} {b : Nat} {o : Obj} (h : W.heap[b]? = some o) (hB : Below W.heap.size W W') : W'.heap[b]? = some o := by rw [hB.block _ (lt_of_heap h)]; exact h
/-- where Meet stands: the counts lie in a block of their own -/
structure MtS (w W : World) (cb : Nat) (fs : List (Nat × Obj)) (c : List Int) : Prop where
  row : W.heap[cb]? = some (.cells (intsV c).toArray 3 (0, 0))
  hcb : w.heap.size ≤ cb
  fr : ∀ x ∈ fs, W.heap[x.1]? = some x.2 ∧ x.1 ≠ cb
  below : Below w.heap.size w W
section
variable {w W W1 : World} {cb : Nat} {fs : List (Nat × Obj)} {c : List Int}
theorem MtS.step (h : MtS w W cb fs c) (hb : Below W.heap.size W W1) : MtS w W1 cb fs c :=
  ⟨vkeepBm h.row hb, h.hcb, fun x hx => ⟨vkeepBm (h.fr x hx).1 hb, (h.fr x hx).2⟩, h.below.trans (hb.mono h.below.size)⟩
theorem MtS.foreign (h : MtS w W cb fs c) (o : Obj) : MtS w (W.alloc o) cb ((W.heap.size, o) :: fs) c := by
  have hs := h.step ((Below.refl W.heap.size W).alloc (Nat.le_refl _) o)
  refine ⟨hs.row, hs.hcb, fun x hx => ?_, hs.below⟩
  rcases List.mem_cons.1 hx with rfl | hx
  · exact ⟨heap_alloc_new W o, fun e => by have := lt_of_heap h.row; simp only at e; omega⟩
  · exact hs.fr x hx
theorem MtS.drop (h : MtS w W cb fs c) {fs' : List (Nat × Obj)} (hf : ∀ x ∈ fs', x ∈ fs) : MtS w W cb fs' c := ⟨h.row, h.hcb, fun x hx => h.fr x (hf x hx), h.below⟩
theorem MtS.set (h : MtS w W cb fs c) (k : Nat) (v : Int) : MtS w (W.setCell ⟨cb, k, none⟩ (.int .i64 v)) cb fs (c.set k v) := by
  refine ⟨?_, h.hcb, fun x hx => ⟨by rw [heap_setCell_other _ _ _ _ (h.fr x hx).2]; exact (h.fr x hx).1, (h.fr x hx).2⟩, h.below.setCell h.hcb _⟩
  rw [heap_setCell_same _ _ _ _ _ _ h.row]
  simp [intsV, List.map_set]
theorem MtS.cell (h : MtS w W cb fs c) (k : Int) (h0 : 0 ≤ k) (hk : k < c.length) : W.cell? ⟨cb, k.toNat, none⟩ = some (.int .i64 (rd c k)) ∧ W.frozen? ⟨cb, k.toNat, none⟩ = false := by
  refine ⟨?_, frozen_of_row _ _ _ _ _ h.row⟩
  rw [cell_of_row _ _ _ _ _ _ h.row]
  have hlt : k.toNat < c.length := by omega
  simp [intsV, rd, List.getD_eq_getElem?_getD, hlt]
end
theorem made_ints (n : Nat) : madeCells #[Value.int .i64 0] n = (intsV (List.replicate n 0)).toArray := by
  apply Array.ext'
  refine List.ext_getElem? fun i => ?_
  simp only [madeCells, intsV, List.map_replicate]
  by_cases hi : i < n
  · simp [hi, Nat.mod_one]
  · simp [hi]
theorem occ_in {q : List (Int × S47)} {n : Nat} (h : ∀ x ∈ q, 0 ≤ x.1 ∧ x.1 < (n : Int)) (p : S47) : ∀ k ∈ occ q p, 0 ≤ k ∧ k < (n : Int) := by
  intro k hk
  obtain ⟨x, hx, rfl⟩ := List.mem_map.1 hk
  exact h x (List.mem_filter.1 hx).1
theorem cells4y {W : World} {b T : Nat} {a c d e : Value} (h : W.heap[b]? = some (.cells #[a, c, d, e] T (0, 0))) : W.cell? ⟨b, 0, none⟩ = some a ∧ W.cell? ⟨b, 1, none⟩ = some c ∧ W.cell? ⟨b, 2, none⟩ = some d ∧ W.cell? ⟨b, 3, none⟩ = some e := (cells4x h).1
/-- the index at the call's begin, as it is read -/
structure IxV (w W : World) (q : List (Int × S47)) (ids needs : List Int) (val : Slot → Value) : Prop where
  s : IxS w W [] (occ q) (named (keysOf q)) ids needs (keysOf q) (namesIn (keysOf q)) val (val (.inr (.inr true))) (val (.inr (.inr false)))
set_option maxRecDepth 100000 in
set_option maxHeartbeats 8000000 in
theorem wmeet (hb : S47 → S45 → Bool) (kf : Nat) {w0 : World} (q : List (Int × S47)) (ids needs : List Int) (A1 : Option Addr) (c1 : Nat) (e : List S49) (w : World) (h : IxQ w0 w [] q ids needs) (hr1 : Kd.C k49 w A1 e.length e) (hc1 : e.length ≤ c1) (hn : needs.length = ids.length) (hq : q.length ≤ 100000) (he : e.length ≤ 100000) (hi : ids.length ≤ 100000)
    (hqk : ∀ x ∈ q, 0 ≤ x.1 ∧ x.1 < (ids.length : Int)) (hko : ∀ p ∈ keysOf q, KeyOk p) (hko2 : ∀ a ∈ e, a.f0.size ≤ maxLen) (hH : ∀ p ∈ keysOf q, ∀ a ∈ e, pred_Holds.f kf p.f0 p.f1 p.f2.f0 p.f2.f1 p.f2.f2 a.f1.f0 a.f1.f1 a.f1.f2 = some (hb p a.f1)) :
    Calls Try.prog 15 #[.pointer (some ⟨w0.heap.size + 2, 0, none⟩), .slice A1 e.length c1] w fun e' w' => ∃ v, e' = .returned v ∧ (Kd.int .i64).R 3 w' w.heap.size (fun _ => True) v (meetI hb q ids needs e) ∧ Below w.heap.size w w' := by
  obtain ⟨val, hI⟩ := h.ex
  obtain ⟨Ai, ci, hvi, hci, hCi⟩ := ints_C (hI.own.own (.inr (.inr true)))
  obtain ⟨Ae, ce, hve, hce, hCe⟩ := ints_C (hI.own.own (.inr (.inr false)))
  have HX := Aside0.mk hI
  have HR1 := Aside0.mk hr1
  have HVI := Aside0.mk hvi
  have HVE := Aside0.mk hve
  have HCI := Aside0.mk hCi
  have HCE := Aside0.mk hCe
  have HNL := Aside0.mk hn
  have HSZ := Aside0.mk (And.intro hq (And.intro he hi))
  have HQK := Aside0.mk hqk
  have HKK := Aside0.mk (And.intro hko hko2)
  have HHA := Aside0.mk hH
  have hlm := hr1.2.1
  have hmk := make_cap 32 3 .i64 8 Try.underlying32 info3 (ids.length : Int) (ids.length : Int) (by omega) (by omega) (by omega) (by omega) w
  rw [Int.toNat_natCast, made_ints] at hmk
  have HM1 := Aside0.mk (show MtS w (w.alloc (.cells (intsV (List.replicate ids.length 0)).toArray 3)) w.heap.size [] (List.replicate ids.length 0) from ⟨heap_alloc_new w _, Nat.le_refl _, by simp, (Below.refl _ _).alloc (Nat.le_refl _) _⟩)
  obtain ⟨⟨x0, x1, x2, x3⟩, x4, x5, x6, x7⟩ := cells4x hI.heap
  rw [hvi] at x2
  rw [hve] at x3
  clear hI h hr1 hvi hve hCi hCe hn hqk hko hko2 hH hq he
  go_enter Try.func15, Try.ntmps15
  go_upto_region 2 with fail
  clear x0 x1 x2 x3 x4 x5 x6 x7 hmk
  generalize w.alloc (.cells (intsV (List.replicate ids.length 0)).toArray 3) = w1 at HM1 ⊢
  obtain ⟨cb, hcb⟩ : ∃ x, x = w.heap.size := ⟨_, rfl⟩
  rw [← hcb] at HM1 ⊢
  have HCB := Aside0.mk hcb
  clear hcb
  go_wp2_with fail
  go_loopw [22] (fun i wr => ∃ (j : Nat), j ≤ e.length ∧ i = .int .i64 j ∧ Aside0 (MtS w wr cb [] ((e.take j).foldl (cntA hb q) (List.replicate ids.length 0)))) (fun i _ => e.length - (intOf i).toNat)
  case atStart => exact ⟨0, Nat.zero_le _, rfl, HM1⟩
  case round =>
    obtain ⟨j, hj, rfl, HM⟩ := hrel
    clear HM1
    by_cases hlt : j < e.length
    case neg =>
      obtain rfl : j = e.length := by omega
      have HMF := Aside0.mk (show MtS w wr cb [] (meetC hb q ids.length e) by have h_ := HM.out; rw [List.take_of_length_le (Nat.le_refl _)] at h_; exact h_)
      clear HM
      have HCL := Aside0.mk (show (meetC hb q ids.length e).length = ids.length by unfold meetC; rw [fold_len _ (cntA_len hb q), List.length_replicate])
      have HGO := Aside0.mk (show pickI ids needs (meetC hb q ids.length e) ids.length = meetI hb q ids needs e from rfl)
      generalize meetC hb q ids.length e = c at HMF HCL HGO
      obtain ⟨w2, hw2⟩ : ∃ x, x = wr := ⟨_, rfl⟩
      rw [← hw2] at HMF ⊢
      clear hw2
      have HXF := Aside0.mk (HX.out.step HMF.out.below)
      obtain ⟨⟨x0, x1, x2, x3⟩, x4, x5, x6, x7⟩ := cells4x HXF.out.heap
      rw [HVI.out] at x2
      rw [HVE.out] at x3
      have HS2 := Aside0.mk (HMF.out.below.size)
      go_wp2_with fail
      clear x0 x1 x2 x3 x4 x5 x6 x7
      go_loopw [4, 68] (fun v i wr => ∃ (j : Nat) (out : List Int) (Ao : Option Addr) (co : Nat), j ≤ ids.length ∧ i = .int .i64 j ∧ v = .slice Ao out.length co ∧ out.length ≤ j ∧ Aside0 (pickI ids needs c j = out) ∧ Aside0 ((Kd.int .i64).R 3 wr w2.heap.size (fun _ => True) (.slice Ao out.length co) out) ∧ Aside0 (Below w2.heap.size w2 wr)) (fun _ i _ => ids.length - (intOf i).toNat)
      case atStart => exact ⟨0, [], none, 0, Nat.zero_le _, rfl, rfl, Nat.le_refl _, ⟨rfl⟩, ⟨Kd.R_nil _ _ _ _ _⟩, ⟨Below.refl _ _⟩⟩
      case round =>
        obtain ⟨j, out, Ao, co, hj, rfl, rfl, hol, HP, HO, HB⟩ := hrel
        by_cases hlt : j < ids.length
        case neg =>
          obtain rfl : j = ids.length := by omega
          go_wp2_with fail
          go_ret
          exact ⟨_, rfl, by rw [← HGO.out, HP.out]; exact Kd.R_lower HO.out HS2.out, HMF.out.below.trans (HB.out.mono HS2.out)⟩
        have HMr := Aside0.mk (HMF.out.step HB.out)
        have HXr := Aside0.mk (HXF.out.step HB.out)
        obtain ⟨adi, hAi, hidc⟩ := Kd.at_int (Kd.C_below (Kd.C_below HCI.out HMF.out.below) HB.out) (j : Int) (by omega) (by omega)
        obtain ⟨adn, hAn, hndc⟩ := Kd.at_int (Kd.C_below (Kd.C_below HCE.out HMF.out.below) HB.out) (j : Int) (by have := HNL.out; omega) (by have := HNL.out; omega)
        subst hAi hAn
        rw [Int.toNat_natCast] at hidc hndc
        have hpk : pickI ids needs c (j + 1) = out ++ (if rd c (j : Int) = rd needs (j : Int) then [rd ids (j : Int)] else []) := by rw [pickI, HP.out]
        have hnj_ := fun W (hb_ : Below wr.heap.size wr W) => below_cell hb_ hndc
        have HCJ := Aside0.mk (show ∃ cj, rd c (j : Int) = cj from ⟨_, rfl⟩)
        obtain ⟨cj, hcj⟩ := HCJ.out
        clear HCJ
        have HCJ := Aside0.mk hcj
        rw [hcj] at hpk
        clear hcj
        generalize rd needs (j : Int) = nj at hndc hnj_ hpk
        generalize rd ids (j : Int) = idj at hidc hpk
        have HPK := Aside0.mk hpk
        clear hpk
        have hnl : j < needs.length := by have := HNL.out; omega
        go_upto_region 19 with fail
        have HMc := Aside0.mk (HMr.out.step (below_drew (Below.refl _ _)))
        have HXc := Aside0.mk (HXr.out.step (below_drew (Below.refl _ _)))
        have HOc := Aside0.mk (Kd.R_drew HO.out)
        have HBc := Aside0.mk (below_drew HB.out)
        clear HMr HXr hidc hndc
        refine wp_region_held_drew (S := (fun W => W.cell? ⟨cb, j, none⟩ = some (.int .i64 cj) ∧ W.cell? ⟨w0.heap.size + 2, 3, none⟩ = some (.slice (some adn) needs.length ce) ∧ W.cell? (adn.add j) = some (.int .i64 nj))) (by kernel_rfl) ⟨by have h_ := (HMc.out.cell (j : Int) (by omega) (by have := HCL.out; omega)).1; rw [Int.toNat_natCast, HCJ.out] at h_; exact h_, by have h_ := (cells4x HXc.out.heap).1.2.2.2; rw [HVE.out] at h_; exact h_, hnj_ _ (below_drew (Below.refl _ _))⟩ (fun hHeld => ?_)
        refine wpAnyH_take (i := 0) (oi := { dst := some 73, op := Op.move (Operand.tmp 5), type := 32, pos := "index.go:49", after := #[], guard := none }) (v := ?_) rfl (by kernel_rfl) (by kernel_rfl) (by kernel_rfl) (fun _ _ _ h => h) (Or.inl ⟨by rfl, ?_⟩) (by assumption) ?_
        rotate_left
        · intro w hSw
          try dsimp only at hSw
          go_simp
          all_goals with_reducible rfl
        try simp only [Act.put, List.setIfInBounds_toArray, List.set_cons_zero, List.set_cons_succ]
        refine wpAnyH_take (i := 1) (oi := { dst := some 74, op := Op.move (Operand.tmp 12), type := 3, pos := "index.go:49", after := #[], guard := none }) (v := ?_) rfl (by kernel_rfl) (by kernel_rfl) (by kernel_rfl) (fun _ _ _ h => h) (Or.inl ⟨by rfl, ?_⟩) (by assumption) ?_
        rotate_left
        · intro w hSw
          try dsimp only at hSw
          go_simp
          all_goals with_reducible rfl
        try simp only [Act.put, List.setIfInBounds_toArray, List.set_cons_zero, List.set_cons_succ]
        refine wpAnyH_take (i := 2) (oi := { dst := some 75, op := Op.indexAddr 32 (Operand.tmp 73) (Operand.tmp 74), type := 0, pos := "index.go:49", after := #[{ on := 0, ground := Ground.data }, { on := 1, ground := Ground.data }], guard := none }) (v := ?_) rfl (by kernel_rfl) (by kernel_rfl) (by kernel_rfl) (fun _ _ _ h => h) (Or.inl ⟨by rfl, ?_⟩) (by assumption) ?_
        rotate_left
        · intro w hSw
          try dsimp only at hSw
          go_simp
          all_goals with_reducible rfl
        try simp only [Act.put, List.setIfInBounds_toArray, List.set_cons_zero, List.set_cons_succ]
        refine wpAnyH_take (i := 3) (oi := { dst := some 76, op := Op.load 3 (Operand.tmp 75), type := 3, pos := "index.go:49", after := #[{ on := 2, ground := Ground.data }], guard := none }) (v := ?_) rfl (by kernel_rfl) (by kernel_rfl) (by kernel_rfl) (fun _ _ _ h => h) (Or.inl ⟨by rfl, ?_⟩) (by assumption) ?_
        rotate_left
        · intro w hSw
          try dsimp only at hSw
          go_simp
          all_goals with_reducible rfl
        try simp only [Act.put, List.setIfInBounds_toArray, List.set_cons_zero, List.set_cons_succ]
        refine wpAnyH_take (i := 4) (oi := { dst := some 77, op := Op.move (Operand.tmp 0), type := 26, pos := "index.go:49", after := #[], guard := none }) (v := ?_) rfl (by kernel_rfl) (by kernel_rfl) (by kernel_rfl) (fun _ _ _ h => h) (Or.inl ⟨by rfl, ?_⟩) (by assumption) ?_
        rotate_left
        · intro w hSw
          try dsimp only at hSw
          go_simp
          all_goals with_reducible rfl
        try simp only [Act.put, List.setIfInBounds_toArray, List.set_cons_zero, List.set_cons_succ]
        refine wpAnyH_take (i := 5) (oi := { dst := some 78, op := Op.nilCheck (Operand.tmp 77), type := 0, pos := "index.go:49", after := #[{ on := 4, ground := Ground.data }], guard := none }) (v := ?_) rfl (by kernel_rfl) (by kernel_rfl) (by kernel_rfl) (fun _ _ _ h => h) (Or.inl ⟨by rfl, ?_⟩) (by assumption) ?_
        rotate_left
        · intro w hSw
          try dsimp only at hSw
          go_simp
          all_goals with_reducible rfl
        try simp only [Act.put, List.setIfInBounds_toArray, List.set_cons_zero, List.set_cons_succ]
        refine wpAnyH_take (i := 6) (oi := { dst := some 79, op := Op.fieldAddr 53 (Operand.tmp 78) 3, type := 0, pos := "index.go:49", after := #[{ on := 5, ground := Ground.data }], guard := none }) (v := ?_) rfl (by kernel_rfl) (by kernel_rfl) (by kernel_rfl) (fun _ _ _ h => h) (Or.inl ⟨by rfl, ?_⟩) (by assumption) ?_
        rotate_left
        · intro w hSw
          try dsimp only at hSw
          go_simp
          all_goals with_reducible rfl
        try simp only [Act.put, List.setIfInBounds_toArray, List.set_cons_zero, List.set_cons_succ]
        refine wpAnyH_take (i := 7) (oi := { dst := some 80, op := Op.load 32 (Operand.tmp 79), type := 32, pos := "index.go:49", after := #[{ on := 6, ground := Ground.data }], guard := none }) (v := ?_) rfl (by kernel_rfl) (by kernel_rfl) (by kernel_rfl) (fun _ _ _ h => h) (Or.inl ⟨by rfl, ?_⟩) (by assumption) ?_
        rotate_left
        · intro w hSw
          try dsimp only at hSw
          go_simp
          all_goals with_reducible rfl
        try simp only [Act.put, List.setIfInBounds_toArray, List.set_cons_zero, List.set_cons_succ]
        refine wpAnyH_take (i := 8) (oi := { dst := some 81, op := Op.move (Operand.tmp 12), type := 3, pos := "index.go:49", after := #[], guard := none }) (v := ?_) rfl (by kernel_rfl) (by kernel_rfl) (by kernel_rfl) (fun _ _ _ h => h) (Or.inl ⟨by rfl, ?_⟩) (by assumption) ?_
        rotate_left
        · intro w hSw
          try dsimp only at hSw
          go_simp
          all_goals with_reducible rfl
        try simp only [Act.put, List.setIfInBounds_toArray, List.set_cons_zero, List.set_cons_succ]
        refine wpAnyH_take (i := 9) (oi := { dst := some 82, op := Op.indexAddr 32 (Operand.tmp 80) (Operand.tmp 81), type := 0, pos := "index.go:49", after := #[{ on := 7, ground := Ground.data }, { on := 8, ground := Ground.data }], guard := none }) (v := ?_) rfl (by kernel_rfl) (by kernel_rfl) (by kernel_rfl) (fun _ _ _ h => h) (Or.inl ⟨by rfl, ?_⟩) (by assumption) ?_
        rotate_left
        · intro w hSw
          try dsimp only at hSw
          go_simp
          all_goals with_reducible rfl
        try simp only [Act.put, List.setIfInBounds_toArray, List.set_cons_zero, List.set_cons_succ]
        refine wpAnyH_take (i := 10) (oi := { dst := some 83, op := Op.load 3 (Operand.tmp 82), type := 3, pos := "index.go:49", after := #[{ on := 9, ground := Ground.data }], guard := none }) (v := ?_) rfl (by kernel_rfl) (by kernel_rfl) (by kernel_rfl) (fun _ _ _ h => h) (Or.inl ⟨by rfl, ?_⟩) (by assumption) ?_
        rotate_left
        · intro w hSw
          try dsimp only at hSw
          go_simp
          all_goals with_reducible rfl
        try simp only [Act.put, List.setIfInBounds_toArray, List.set_cons_zero, List.set_cons_succ]
        refine wpAnyH_take (i := 11) (oi := { dst := some 84, op := Op.binOp BinOp.eql 3 (Operand.tmp 76) (Operand.tmp 83) 3, type := 4, pos := "index.go:49", after := #[{ on := 3, ground := Ground.data }, { on := 10, ground := Ground.data }], guard := none }) (v := ?_) rfl (by kernel_rfl) (by kernel_rfl) (by kernel_rfl) (fun _ _ _ h => h) (Or.inl ⟨by rfl, ?_⟩) (by assumption) ?_
        rotate_left
        · intro w hSw
          try dsimp only at hSw
          go_simp
          all_goals with_reducible rfl
        try simp only [Act.put, List.setIfInBounds_toArray, List.set_cons_zero, List.set_cons_succ]
        refine wpAnyH_done (by kernel_rfl) ?_ _
        clear hHeld
        clear hnj_ HMc HXc
        obtain ⟨w3, hw3⟩ : ∃ x, x = wr.drew := ⟨_, rfl⟩
        rw [← hw3] at HOc HBc ⊢
        clear hw3
        by_cases heq : cj = nj
        · have hd : (cj == nj) = true := by simp [heq]
          have HF := Aside0.mk (show pickI ids needs c (j + 1) = out ++ [idj] by rw [HPK.out, if_pos heq])
          clear heq
          go_wp2_with (at_builtin; refine app_num (w0 := w2) w2.heap.size rfl (.tmp 85) (.tmp 87) 32 3 .i64 8 rfl Try.underlying32 info3 (by decide) (.slice Ao out.length co) out idj rfl rfl HOc.out HBc.out HBc.out.size (by have := HSZ.out.2.2; omega) ?_; intro v5 w5 HO5 hB5; have HB5 := Aside0.mk hB5; clear hB5; obtain ⟨A5, c5, rfl⟩ := Kd.R_slice HO5.out)
          exact ⟨⟨j + 1, _, A5, c5, by omega, by go_num, by simp, by simp; omega, HF, HO5, HB5⟩, by simp [intOf]; omega⟩
        · have hd : (cj == nj) = false := by simp [heq]
          have HF := Aside0.mk (show pickI ids needs c (j + 1) = out by rw [HPK.out, if_neg heq, List.append_nil])
          clear heq
          go_wp2_with fail
          exact ⟨⟨j + 1, out, Ao, co, by omega, by go_num, rfl, by omega, HF, HOc, HBc⟩, by simp [intOf]; omega⟩
    obtain ⟨ad, hA, h0, h1, h2, h3⟩ := at_T49 (Kd.C_below HR1.out HM.out.below) (j : Int) (by omega) (by omega)
    subst hA
    rw [Int.toNat_natCast] at h0 h1 h2 h3
    have hmem : rd_T49 e (j : Int) ∈ e := by simp [rd_T49, List.getD_eq_getElem?_getD, hlt]
    have htj : e.take (j + 1) = e.take j ++ [rd_T49 e (j : Int)] := by rw [List.take_add_one]; simp [rd_T49, List.getD_eq_getElem?_getD, hlt]
    have HHH := Aside0.mk (fun p hp => HHA.out p hp _ hmem)
    have HAN := Aside0.mk (HKK.out.2 _ hmem)
    generalize rd_T49 e (j : Int) = a at h0 h1 h2 h3 hmem htj HHH HAN
    obtain ⟨af0, ⟨af10, af11, af12⟩⟩ := a
    simp only at h0 h1 h2 h3
    have HTJ := Aside0.mk htj
    obtain ⟨ns, hns⟩ : ∃ x, named (keysOf q) af0 = x := ⟨_, rfl⟩
    obtain ⟨An, cn, hvn, hcn, hCn⟩ := preds_C (HX.out.own.own (.inr (.inl af0)))
    rw [hns] at hvn hcn hCn
    have HLN := Aside0.mk (show ns.length ≤ 100000 by rw [← hns]; have := named_len (keysOf q) af0; have := keys_len q; have := HSZ.out.1; omega)
    have hln := HLN.out
    have HNS := Aside0.mk hns
    have HVN := Aside0.mk hvn
    have HCN := Aside0.mk hCn
    obtain ⟨cj0, hcj0⟩ : ∃ c, (e.take j).foldl (cntA hb q) (List.replicate ids.length 0) = c := ⟨_, rfl⟩
    rw [hcj0] at HM
    have HCJ0 := Aside0.mk hcj0
    clear hmem htj hns hvn hCn hcn hcj0
    go_upto_region 5 with fail
    have HMc := Aside0.mk ((HM.out.foreign (.cells #[.string af0, .int .i64 af10, .int .i64 af11, .string af12] 49 (0, 0))).step (below_drew (Below.refl _ _)))
    have HXc := Aside0.mk (HX.out.step HMc.out.below)
    clear h0 h1 h2 h3 HM
    generalize hab : wr.heap.size = ab at HMc HXc ⊢
    clear hab
    refine wp_region_held_drew (S := (fun W => W.cell? ⟨w0.heap.size + 2, 1, none⟩ = some (.map (some (w0.heap.size + 1))) ∧ W.cell? ⟨ab, 0, none⟩ = some (.string af0) ∧ (Instr.lookup 51 (.map (some (w0.heap.size + 1))) (.string af0) false).run Try.prog W = .ok (.slice An ns.length cn) W)) (by kernel_rfl) ⟨(cells4x HXc.out.heap).1.2.1, (cells4y (HMc.out.fr (ab, (.cells #[.string af0, .int .i64 af10, .int .i64 af11, .string af12] 49 (0, 0))) (by simp)).1).1, by have h_ := HXc.out.lookNm af0 HAN.out (zeroSP _); rw [HVN.out] at h_; exact h_⟩ (fun hHeld => ?_)
    refine wpAnyH_take (i := 0) (oi := { dst := some 26, op := Op.move (Operand.tmp 0), type := 26, pos := "index.go:39", after := #[], guard := none }) (v := ?_) rfl (by kernel_rfl) (by kernel_rfl) (by kernel_rfl) (fun _ _ _ h => h) (Or.inl ⟨by rfl, ?_⟩) (by assumption) ?_
    rotate_left
    · intro w hSw
      try dsimp only at hSw
      go_simp
      all_goals with_reducible rfl
    try simp only [Act.put, List.setIfInBounds_toArray, List.set_cons_zero, List.set_cons_succ]
    refine wpAnyH_take (i := 1) (oi := { dst := some 27, op := Op.nilCheck (Operand.tmp 26), type := 0, pos := "index.go:39", after := #[{ on := 0, ground := Ground.data }], guard := none }) (v := ?_) rfl (by kernel_rfl) (by kernel_rfl) (by kernel_rfl) (fun _ _ _ h => h) (Or.inl ⟨by rfl, ?_⟩) (by assumption) ?_
    rotate_left
    · intro w hSw
      try dsimp only at hSw
      go_simp
      all_goals with_reducible rfl
    try simp only [Act.put, List.setIfInBounds_toArray, List.set_cons_zero, List.set_cons_succ]
    refine wpAnyH_take (i := 2) (oi := { dst := some 28, op := Op.fieldAddr 53 (Operand.tmp 27) 1, type := 0, pos := "index.go:39", after := #[{ on := 1, ground := Ground.data }], guard := none }) (v := ?_) rfl (by kernel_rfl) (by kernel_rfl) (by kernel_rfl) (fun _ _ _ h => h) (Or.inl ⟨by rfl, ?_⟩) (by assumption) ?_
    rotate_left
    · intro w hSw
      try dsimp only at hSw
      go_simp
      all_goals with_reducible rfl
    try simp only [Act.put, List.setIfInBounds_toArray, List.set_cons_zero, List.set_cons_succ]
    refine wpAnyH_take (i := 3) (oi := { dst := some 29, op := Op.load 51 (Operand.tmp 28), type := 51, pos := "index.go:39", after := #[{ on := 2, ground := Ground.data }], guard := none }) (v := ?_) rfl (by kernel_rfl) (by kernel_rfl) (by kernel_rfl) (fun _ _ _ h => h) (Or.inl ⟨by rfl, ?_⟩) (by assumption) ?_
    rotate_left
    · intro w hSw
      try dsimp only at hSw
      go_simp
      all_goals with_reducible rfl
    try simp only [Act.put, List.setIfInBounds_toArray, List.set_cons_zero, List.set_cons_succ]
    refine wpAnyH_take (i := 4) (oi := { dst := some 30, op := Op.fieldAddr 49 (Operand.tmp 7) 0, type := 0, pos := "index.go:39", after := #[], guard := none }) (v := ?_) rfl (by kernel_rfl) (by kernel_rfl) (by kernel_rfl) (fun _ _ _ h => h) (Or.inl ⟨by rfl, ?_⟩) (by assumption) ?_
    rotate_left
    · intro w hSw
      try dsimp only at hSw
      go_simp
      all_goals with_reducible rfl
    try simp only [Act.put, List.setIfInBounds_toArray, List.set_cons_zero, List.set_cons_succ]
    refine wpAnyH_take (i := 5) (oi := { dst := some 31, op := Op.load 9 (Operand.tmp 30), type := 9, pos := "index.go:39", after := #[{ on := 4, ground := Ground.data }], guard := none }) (v := ?_) rfl (by kernel_rfl) (by kernel_rfl) (by kernel_rfl) (fun _ _ _ h => h) (Or.inl ⟨by rfl, ?_⟩) (by assumption) ?_
    rotate_left
    · intro w hSw
      try dsimp only at hSw
      go_simp
      all_goals with_reducible rfl
    try simp only [Act.put, List.setIfInBounds_toArray, List.set_cons_zero, List.set_cons_succ]
    refine wpAnyH_take (i := 6) (oi := { dst := some 32, op := Op.lookup 51 (Operand.tmp 29) (Operand.tmp 31) false, type := 39, pos := "index.go:39", after := #[{ on := 3, ground := Ground.data }, { on := 5, ground := Ground.data }], guard := none }) (v := ?_) rfl (by kernel_rfl) (by kernel_rfl) (by kernel_rfl) (fun _ _ _ h => h) (Or.inl ⟨by rfl, ?_⟩) (by assumption) ?_
    rotate_left
    · intro w hSw
      try dsimp only at hSw
      go_simp
      all_goals with_reducible rfl
    try simp only [Act.put, List.setIfInBounds_toArray, List.set_cons_zero, List.set_cons_succ]
    refine wpAnyH_take (i := 7) (oi := { dst := some 33, op := Op.call { callee := Callee.builtin Builtin.len, args := #[Operand.tmp 32], argTypes := #[39] }, type := 3, pos := "index.go:39", after := #[{ on := 6, ground := Ground.data }], guard := none }) (v := ?_) rfl (by kernel_rfl) (by kernel_rfl) (by kernel_rfl) (fun _ _ _ h => h) (Or.inl ⟨by rfl, ?_⟩) (by assumption) ?_
    rotate_left
    · intro w hSw
      try dsimp only at hSw
      go_simp
      all_goals with_reducible rfl
    try simp only [Act.put, List.setIfInBounds_toArray, List.set_cons_zero, List.set_cons_succ]
    refine wpAnyH_take (i := 8) (oi := { dst := some 34, op := Op.move (Operand.const (Value.int IntKind.i64 0)), type := 3, pos := "index.go:39", after := #[], guard := none }) (v := ?_) rfl (by kernel_rfl) (by kernel_rfl) (by kernel_rfl) (fun _ _ _ h => h) (Or.inl ⟨by rfl, ?_⟩) (by assumption) ?_
    rotate_left
    · intro w hSw
      try dsimp only at hSw
      go_simp
      all_goals with_reducible rfl
    try simp only [Act.put, List.setIfInBounds_toArray, List.set_cons_zero, List.set_cons_succ]
    refine wpAnyH_done (by kernel_rfl) ?_ _
    clear hHeld
    obtain ⟨w5, hw5⟩ : ∃ x, x = (wr.alloc (.cells #[.string af0, .int .i64 af10, .int .i64 af11, .string af12] 49 (0, 0))).drew := ⟨_, rfl⟩
    rw [← hw5] at HMc HXc ⊢
    clear hw5
    go_wp2_with fail
    go_loopw [34] (fun i wr => ∃ (m : Nat), m ≤ ns.length ∧ i = .int .i64 m ∧ Aside0 (MtS w wr cb [(ab, (.cells #[.string af0, .int .i64 af10, .int .i64 af11, .string af12] 49 (0, 0)))] ((ns.take m).foldl (cntP hb q (⟨af10, af11, af12⟩ : S45)) cj0))) (fun i _ => ns.length - (intOf i).toNat)
    case atStart => exact ⟨0, Nat.zero_le _, rfl, ⟨HMc.out⟩⟩
    case round =>
      obtain ⟨m, hm, rfl, HM⟩ := hrel
      clear HMc HXc
      by_cases hlt2 : m < ns.length
      case neg =>
        obtain rfl : m = ns.length := by omega
        go_wp2_with fail
        exact ⟨⟨j + 1, by omega, by go_num, ⟨by have h_ := HM.out; rw [List.take_of_length_le (Nat.le_refl _)] at h_; rw [HTJ.out, List.foldl_append, List.foldl_cons, List.foldl_nil, HCJ0.out]; unfold cntA; simp only; rw [HNS.out]; exact h_.drop (by simp)⟩⟩, by simp [intOf]; omega⟩
      obtain ⟨adn, hA, h0, h1, h2, h3, h4⟩ := at_T47 (Kd.C_below HCN.out HM.out.below) (m : Int) (by omega) (by omega)
      subst hA
      rw [Int.toNat_natCast] at h0 h1 h2 h3 h4
      have hmem : rd_T47 ns (m : Int) ∈ keysOf q := by
        have h_ : rd_T47 ns (m : Int) ∈ ns := by simp [rd_T47, List.getD_eq_getElem?_getD, hlt2]
        have h2_ : ∀ x ∈ ns, x ∈ keysOf q := by rw [← HNS.out]; exact fun x hx => (List.mem_filter.1 hx).1
        exact h2_ _ h_
      have htm : ns.take (m + 1) = ns.take m ++ [rd_T47 ns (m : Int)] := by rw [List.take_add_one]; simp [rd_T47, List.getD_eq_getElem?_getD, hlt2]
      generalize rd_T47 ns (m : Int) = p at h0 h1 h2 h3 h4 hmem htm
      obtain ⟨pf0, pf1, ⟨pf20, pf21, pf22⟩⟩ := p
      simp only at h0 h1 h2 h3 h4
      have HKO := Aside0.mk (HKK.out.1 _ hmem)
      have HHP := Aside0.mk (HHH.out _ hmem)
      have HTM := Aside0.mk htm
      obtain ⟨cm, hcm⟩ : ∃ c, (ns.take m).foldl (cntP hb q (⟨af10, af11, af12⟩ : S45)) cj0 = c := ⟨_, rfl⟩
      have HBD := Aside0.mk (show ∀ ks' : List Int, ks'.length ≤ 100000 → CntOk (incs cm ks') 2000000000000000 from fun ks' hks => by rw [← hcm, ← HCJ0.out]; exact cnt_bound hb q ids.length (e.take j) (ns.take m) (⟨af10, af11, af12⟩ : S45) ks' HSZ.out.1 (by rw [List.length_take]; have := HSZ.out.2.1; omega) (by rw [List.length_take]; have := HLN.out; omega) hks)
      have HCL := Aside0.mk (show cm.length = ids.length by rw [← hcm, fold_len _ (cntP_len hb q _), ← HCJ0.out, fold_len _ (cntA_len hb q), List.length_replicate])
      rw [hcm] at HM
      have HCM := Aside0.mk hcm
      clear hcm htm hmem
      go_upto_region 8 with fail
      have HM8 := Aside0.mk (HM.out.foreign (.cells #[.string pf0, .int .i64 pf1, .int .i64 pf20, .int .i64 pf21, .string pf22] 47 (0, 0)))
      clear h0 h1 h2 h3 h4 HM
      generalize hpb : wr.heap.size = pb at HM8 ⊢
      clear hpb
      obtain ⟨w8, hw8⟩ : ∃ x, x = wr.alloc (.cells #[.string pf0, .int .i64 pf1, .int .i64 pf20, .int .i64 pf21, .string pf22] 47 (0, 0)) := ⟨_, rfl⟩
      rw [← hw8] at HM8 ⊢
      clear hw8
      obtain ⟨p0, p1, p2, p3, p4⟩ := cells5x (HM8.out.fr (pb, (.cells #[.string pf0, .int .i64 pf1, .int .i64 pf20, .int .i64 pf21, .string pf22] 47 (0, 0))) (by simp)).1
      obtain ⟨a0, a1, a2, a3⟩ := cells4y (HM8.out.fr (ab, (.cells #[.string af0, .int .i64 af10, .int .i64 af11, .string af12] 49 (0, 0))) (by simp)).1
      go_wp2_with fail
      refine (pred_Holds.calls kf pf0 pf1 pf20 pf21 pf22 af10 af11 af12 (hb (⟨pf0, pf1, ⟨pf20, pf21, pf22⟩⟩ : S47) (⟨af10, af11, af12⟩ : S45)) w8 HHP.out).mono ?_
      rintro e' w9 ⟨rfl, hX⟩
      have HM9 := Aside0.mk (HM8.out.step hX)
      clear hX HM8 p0 p1 p2 p3 p4 a0 a1 a2 a3 HHP
      cases hbb : hb (⟨pf0, pf1, ⟨pf20, pf21, pf22⟩⟩ : S47) (⟨af10, af11, af12⟩ : S45) with
      | false =>
        have HBB := Aside0.mk hbb
        clear hbb
        go_wp2_with fail
        exact ⟨⟨m + 1, by omega, by go_num, ⟨by rw [HTM.out, List.foldl_append, List.foldl_cons, List.foldl_nil, HCM.out]; unfold cntP; rw [if_neg (by rw [HBB.out]; decide)]; exact HM9.out.drop (by simp)⟩⟩, by simp [intOf]; omega⟩
      | true =>
        have HBB := Aside0.mk hbb
        clear hbb
        obtain ⟨ks, hks⟩ : ∃ x, occ q (⟨pf0, pf1, ⟨pf20, pf21, pf22⟩⟩ : S47) = x := ⟨_, rfl⟩
        obtain ⟨Ao, co, hvo, hco, hCo⟩ := ints_C (HX.out.own.own (.inl (⟨pf0, pf1, ⟨pf20, pf21, pf22⟩⟩ : S47)))
        rw [hks] at hvo hco hCo
        have HOI := Aside0.mk (show ∀ k ∈ ks, 0 ≤ k ∧ k < (ids.length : Int) by rw [← hks]; exact occ_in HQK.out _)
        have HLO := Aside0.mk (show ks.length ≤ 100000 by rw [← hks]; have := occ_len q (⟨pf0, pf1, ⟨pf20, pf21, pf22⟩⟩ : S47); have := HSZ.out.1; omega)
        have HKS := Aside0.mk hks
        have HVO := Aside0.mk hvo
        have HCO := Aside0.mk hCo
        have hlo := HLO.out
        clear hks hvo hCo hco
        go_upto_region 9 with fail
        have HMc := Aside0.mk (HM9.out.step (below_drew (Below.refl _ _)))
        have HXc := Aside0.mk (HX.out.step HMc.out.below)
        clear HM9
        refine wp_region_held_drew (S := (fun W => W.cell? ⟨w0.heap.size + 2, 0, none⟩ = some (.map (some w0.heap.size)) ∧ (W.cell? ⟨pb, 0, none⟩ = some (.string pf0) ∧ W.cell? ⟨pb, 1, none⟩ = some (.int .i64 pf1) ∧ W.cell? ⟨pb, 2, none⟩ = some (.int .i64 pf20) ∧ W.cell? ⟨pb, 3, none⟩ = some (.int .i64 pf21) ∧ W.cell? ⟨pb, 4, none⟩ = some (.string pf22)) ∧ (Instr.lookup 50 (.map (some w0.heap.size)) (.agg #[.string pf0, .int .i64 pf1, .int .i64 pf20, .int .i64 pf21, .string pf22]) false).run Try.prog W = .ok (.slice Ao ks.length co) W)) (by kernel_rfl) ⟨(cells4x HXc.out.heap).1.1, cells5x (HMc.out.fr (pb, (.cells #[.string pf0, .int .i64 pf1, .int .i64 pf20, .int .i64 pf21, .string pf22] 47 (0, 0))) (by simp)).1, by have h_ := HXc.out.lookOf (⟨pf0, pf1, ⟨pf20, pf21, pf22⟩⟩ : S47) HKO.out (zeroSI _) false; simp only [Bool.false_eq_true, if_false] at h_; rw [HVO.out] at h_; exact h_⟩ (fun hHeld => ?_)
        refine wpAnyH_take (i := 0) (oi := { dst := some 43, op := Op.move (Operand.tmp 0), type := 26, pos := "index.go:43", after := #[], guard := none }) (v := ?_) rfl (by kernel_rfl) (by kernel_rfl) (by kernel_rfl) (fun _ _ _ h => h) (Or.inl ⟨by rfl, ?_⟩) (by assumption) ?_
        rotate_left
        · intro w hSw
          try dsimp only at hSw
          go_simp
          all_goals with_reducible rfl
        try simp only [Act.put, List.setIfInBounds_toArray, List.set_cons_zero, List.set_cons_succ]
        refine wpAnyH_take (i := 1) (oi := { dst := some 44, op := Op.nilCheck (Operand.tmp 43), type := 0, pos := "index.go:43", after := #[{ on := 0, ground := Ground.data }], guard := none }) (v := ?_) rfl (by kernel_rfl) (by kernel_rfl) (by kernel_rfl) (fun _ _ _ h => h) (Or.inl ⟨by rfl, ?_⟩) (by assumption) ?_
        rotate_left
        · intro w hSw
          try dsimp only at hSw
          go_simp
          all_goals with_reducible rfl
        try simp only [Act.put, List.setIfInBounds_toArray, List.set_cons_zero, List.set_cons_succ]
        refine wpAnyH_take (i := 2) (oi := { dst := some 45, op := Op.fieldAddr 53 (Operand.tmp 44) 0, type := 0, pos := "index.go:43", after := #[{ on := 1, ground := Ground.data }], guard := none }) (v := ?_) rfl (by kernel_rfl) (by kernel_rfl) (by kernel_rfl) (fun _ _ _ h => h) (Or.inl ⟨by rfl, ?_⟩) (by assumption) ?_
        rotate_left
        · intro w hSw
          try dsimp only at hSw
          go_simp
          all_goals with_reducible rfl
        try simp only [Act.put, List.setIfInBounds_toArray, List.set_cons_zero, List.set_cons_succ]
        refine wpAnyH_take (i := 3) (oi := { dst := some 46, op := Op.load 50 (Operand.tmp 45), type := 50, pos := "index.go:43", after := #[{ on := 2, ground := Ground.data }], guard := none }) (v := ?_) rfl (by kernel_rfl) (by kernel_rfl) (by kernel_rfl) (fun _ _ _ h => h) (Or.inl ⟨by rfl, ?_⟩) (by assumption) ?_
        rotate_left
        · intro w hSw
          try dsimp only at hSw
          go_simp
          all_goals with_reducible rfl
        try simp only [Act.put, List.setIfInBounds_toArray, List.set_cons_zero, List.set_cons_succ]
        refine wpAnyH_take (i := 4) (oi := { dst := some 47, op := Op.load 47 (Operand.tmp 9), type := 47, pos := "index.go:43", after := #[], guard := none }) (v := ?_) rfl (by kernel_rfl) (by kernel_rfl) (by kernel_rfl) (fun _ _ _ h => h) (Or.inl ⟨by rfl, ?_⟩) (by assumption) ?_
        rotate_left
        · intro w hSw
          try dsimp only at hSw
          go_simp
          all_goals with_reducible rfl
        try simp only [Act.put, List.setIfInBounds_toArray, List.set_cons_zero, List.set_cons_succ]
        refine wpAnyH_take (i := 5) (oi := { dst := some 48, op := Op.lookup 50 (Operand.tmp 46) (Operand.tmp 47) false, type := 32, pos := "index.go:43", after := #[{ on := 3, ground := Ground.data }, { on := 4, ground := Ground.data }], guard := none }) (v := ?_) rfl (by kernel_rfl) (by kernel_rfl) (by kernel_rfl) (fun _ _ _ h => h) (Or.inl ⟨by rfl, ?_⟩) (by assumption) ?_
        rotate_left
        · intro w hSw
          try dsimp only at hSw
          go_simp
          all_goals with_reducible rfl
        try simp only [Act.put, List.setIfInBounds_toArray, List.set_cons_zero, List.set_cons_succ]
        refine wpAnyH_take (i := 6) (oi := { dst := some 49, op := Op.call { callee := Callee.builtin Builtin.len, args := #[Operand.tmp 48], argTypes := #[32] }, type := 3, pos := "index.go:43", after := #[{ on := 5, ground := Ground.data }], guard := none }) (v := ?_) rfl (by kernel_rfl) (by kernel_rfl) (by kernel_rfl) (fun _ _ _ h => h) (Or.inl ⟨by rfl, ?_⟩) (by assumption) ?_
        rotate_left
        · intro w hSw
          try dsimp only at hSw
          go_simp
          all_goals with_reducible rfl
        try simp only [Act.put, List.setIfInBounds_toArray, List.set_cons_zero, List.set_cons_succ]
        refine wpAnyH_take (i := 7) (oi := { dst := some 50, op := Op.move (Operand.const (Value.int IntKind.i64 0)), type := 3, pos := "index.go:43", after := #[], guard := none }) (v := ?_) rfl (by kernel_rfl) (by kernel_rfl) (by kernel_rfl) (fun _ _ _ h => h) (Or.inl ⟨by rfl, ?_⟩) (by assumption) ?_
        rotate_left
        · intro w hSw
          try dsimp only at hSw
          go_simp
          all_goals with_reducible rfl
        try simp only [Act.put, List.setIfInBounds_toArray, List.set_cons_zero, List.set_cons_succ]
        refine wpAnyH_done (by kernel_rfl) ?_ _
        clear hHeld
        have HM5 := Aside0.mk (show MtS w _ cb [(pb, (.cells #[.string pf0, .int .i64 pf1, .int .i64 pf20, .int .i64 pf21, .string pf22] 47 (0, 0))), (ab, (.cells #[.string af0, .int .i64 af10, .int .i64 af11, .string af12] 49 (0, 0)))] (incs cm (ks.take 0)) from HMc.out)
        clear HMc HXc
        obtain ⟨w10, hw10⟩ : ∃ x, x = w9.drew := ⟨_, rfl⟩
        rw [← hw10] at HM5 ⊢
        clear hw10
        go_wp2_with fail
        go_loopw [50] (fun i wr => ∃ (t : Nat), t ≤ ks.length ∧ i = .int .i64 t ∧ Aside0 (MtS w wr cb [(pb, (.cells #[.string pf0, .int .i64 pf1, .int .i64 pf20, .int .i64 pf21, .string pf22] 47 (0, 0))), (ab, (.cells #[.string af0, .int .i64 af10, .int .i64 af11, .string af12] 49 (0, 0)))] (incs cm (ks.take t)))) (fun i _ => ks.length - (intOf i).toNat)
        case atStart => exact ⟨0, Nat.zero_le _, rfl, HM5⟩
        case round =>
          obtain ⟨t, ht, rfl, HM⟩ := hrel
          clear HM5
          by_cases hlt3 : t < ks.length
          case neg =>
            obtain rfl : t = ks.length := by omega
            go_wp2_with fail
            exact ⟨⟨m + 1, by omega, by go_num, ⟨by have h_ := HM.out; rw [List.take_of_length_le (Nat.le_refl _)] at h_; rw [HTM.out, List.foldl_append, List.foldl_cons, List.foldl_nil, HCM.out]; unfold cntP; rw [if_pos HBB.out, HKS.out]; exact h_.drop (by simp)⟩⟩, by simp [intOf]; omega⟩
          obtain ⟨adk, hA, hcell⟩ := Kd.at_int (Kd.C_below HCO.out HM.out.below) (t : Int) (by omega) (by omega)
          subst hA
          rw [Int.toNat_natCast] at hcell
          have htk : incs cm (ks.take (t + 1)) = (incs cm (ks.take t)).set (rd ks (t : Int)).toNat (rd (incs cm (ks.take t)) (rd ks (t : Int)) + 1) := by
            rw [List.take_add_one, show ks[t]?.toList = [rd ks (t : Int)] by simp [rd, List.getD_eq_getElem?_getD, hlt3]]
            unfold incs
            rw [List.foldl_append]
            rfl
          have hkr := HOI.out (rd ks (t : Int)) (rd_mem (by simpa using hlt3))
          have hbd := HBD.out (ks.take t) (by rw [List.length_take]; have := HLO.out; omega)
          have hcl : (incs cm (ks.take t)).length = ids.length := by rw [incs_len]; exact HCL.out
          generalize rd ks (t : Int) = kx at hcell htk hkr
          have HTK := Aside0.mk htk
          clear htk
          generalize incs cm (ks.take t) = cc at HM HTK hbd hcl
          obtain ⟨hc1, hc2⟩ := HM.out.cell kx hkr.1 (by omega)
          have hcv := hbd (rd cc kx) (rd_mem (by omega))
          have HM7 := Aside0.mk (HM.out.set kx.toNat (rd cc kx + 1))
          obtain ⟨kn, rfl⟩ : ∃ kn : Nat, kx = (kn : Int) := ⟨kx.toNat, by omega⟩
          rw [Int.toNat_natCast] at hc1 hc2 HM7 HTK
          have hkn : kn < ids.length := by omega
          have hwl : wrap64 (rd cc (kn : Int) + 1) = rd cc (kn : Int) + 1 := by unfold wrap64; omega
          generalize rd cc (kn : Int) = cv at hc1 hcv HM7 HTK hwl
          clear hbd hcl HM
          go_wp2_with fail
          exact ⟨⟨t + 1, by omega, by go_num, ⟨by rw [HTK.out]; exact HM7.out⟩⟩, by simp [intOf]; omega⟩
end Go.Proofs.Ytbcnknmgljdmlaa
end

section
-- Written by a program of this session (wip/tools/myprint.py), over the kit's print.
namespace Go.Proofs.Ytbcnknmgljdmlaa.G
open Go.RowKit Go.Proofs.YtbcnknmgljdmlaaW.PrintWords Go.Proofs.YtbcnknmgljdmlaaW.PrintLast Go.Proofs.YtbcnknmgljdmlaaW.PrintMore
attribute [local go_sem] max2_int min2_int max_two min_two max_three min_three max_four min_four   -- for this text's walks alone
set_option linter.unusedVariables false
set_option linter.unusedSimpArgs false

/-! ### event_wrong: function 20 -/
def event_wrong.f (a0_0 : ByteArray) (a0_1 : Int) (a0_2 : Int) (a0_3 : ByteArray) : Option (Bool) := if a0_0.toList = ([] : List UInt8) then (some true) else (if (a0_0.size : Int) > 16 then (some true) else ((value_Right.f a0_1 a0_2 a0_3).bind fun t153 => (some (!t153))))
set_option maxHeartbeats 8000000 in
set_option maxRecDepth 100000 in
theorem event_wrong.calls (a0_0 : ByteArray) (a0_1 : Int) (a0_2 : Int) (a0_3 : ByteArray) (r : Bool) (w : World) (h : event_wrong.f a0_0 a0_1 a0_2 a0_3 = some r) :
    Calls Try.prog 20 #[.agg #[.string a0_0, .int .i64 a0_1, .int .i64 a0_2, .string a0_3]] w fun e w' => e = .returned (.bool r) ∧ Below w.heap.size w w' := by
  have hu49 := Try.underlying49
  have hu45 := Try.underlying45
  have HB := Aside0.mk (Below.refl w.heap.size w)
  have H : (if a0_0.toList = ([] : List UInt8) then (some true) else (if (a0_0.size : Int) > 16 then (some true) else ((value_Right.f a0_1 a0_2 a0_3).bind fun t153 => (some (!t153))))) = some r := h
  clear h
  by_cases c2 : a0_0.toList = ([] : List UInt8)
  · rw [if_pos c2] at H
    have c2b0 : (a0_0.toList == ([] : List UInt8)) = true := beq_iff_eq.mpr c2
    have c2b1 : (a0_0.toList != ([] : List UInt8)) = false := bne_eq_false_iff_eq.mpr c2
    clear c2
    obtain rfl := Option.some.inj H
    go_enter Try.func20, Try.ntmps20
    go_wp2_with (first | ((with_reducible refine gate_dst (N := 1) rfl ?_); (try (refine gate_guard (by rfl) ?_; dsimp only)); refine box_event ?hg (N := 1) ?hd (cs := #[.string a0_0, .int .i64 a0_1, .int .i64 a0_2, .string a0_3]) (t := 49) ?hr ?_; (case hd => rfl); (case hg => rfl); (case hr => first | (go_simp; done) | (go_simp; rfl)); intro gb152 hg w3 hbox hb; have n0_ := Aside0.mk (below_step (by repeat (first | (with_reducible first | exact HB.out | apply below_alloc | apply pw_below_drewN | apply below_drew1) | exact HB.out)) hb); have n1_ := Aside0.mk (hbox); have n2_ := Aside0.mk ((by rw [hg]; exact (below_size (by repeat (first | (with_reducible first | exact HB.out | apply below_alloc | apply pw_below_drewN | apply below_drew1) | exact HB.out))) : w.heap.size ≤ gb152)); have n3_ := Aside0.mk ((by rw [hg]; exact (below_size (by repeat (first | (with_reducible first | exact HB.out | apply below_alloc | apply pw_below_drewN | apply below_drew1) | exact HB.out))) : w.heap.size ≤ gb152)); clear HB; have HB := n0_; have BK152 := n1_; have GW152 := n2_; have GE152 := n3_; clear n0_ n1_ n2_ n3_; clear hb hbox hg; have hcz4_0 : w3.cell? ⟨gb152, 0, none⟩ = some (.string a0_0) := (blk_cell BK152.out 0).trans rfl; have hcz4_1 : w3.cell? ⟨gb152, 1, none⟩ = some (.int .i64 a0_1) := (blk_cell BK152.out 1).trans rfl; have hcz4_2 : w3.cell? ⟨gb152, 2, none⟩ = some (.int .i64 a0_2) := (blk_cell BK152.out 2).trans rfl; have hcz4_3 : w3.cell? ⟨gb152, 3, none⟩ = some (.string a0_3) := (blk_cell BK152.out 3).trans rfl; have hfz4_0 := blk_frozen BK152.out 0; have hfz4_1 := blk_frozen BK152.out 1; have hfz4_2 := blk_frozen BK152.out 2; have hfz4_3 := blk_frozen BK152.out 3))
    go_ret
    exact ⟨by first | rfl | (simp [errW_none, errW_some] <;> rfl) | (simp [*, errW_none, errW_some] <;> rfl), by repeat (first | (with_reducible first | exact HB.out | apply below_alloc | apply pw_below_drewN | apply below_drew1 | refine below_set ?_ GE152.out) | exact HB.out)⟩
  · rw [if_neg c2] at H
    have c2b0 : (a0_0.toList == ([] : List UInt8)) = false := beq_eq_false_iff_ne.mpr c2
    have c2b1 : (a0_0.toList != ([] : List UInt8)) = true := bne_iff_ne.mpr c2
    by_cases c5 : (a0_0.size : Int) > 16
    · rw [if_pos c5] at H
      have c5b0 : decide (16 < (a0_0.size : Int)) = true := decide_eq_true c5
      have c5b1 : decide (16 < a0_0.size) = true := decide_eq_true (by omega)
      clear c5
      obtain rfl := Option.some.inj H
      go_enter Try.func20, Try.ntmps20
      go_wp2_with (first | ((with_reducible refine gate_dst (N := 1) rfl ?_); (try (refine gate_guard (by rfl) ?_; dsimp only)); refine box_event ?hg (N := 1) ?hd (cs := #[.string a0_0, .int .i64 a0_1, .int .i64 a0_2, .string a0_3]) (t := 49) ?hr ?_; (case hd => rfl); (case hg => rfl); (case hr => first | (go_simp; done) | (go_simp; rfl)); intro gb152 hg w6 hbox hb; have n0_ := Aside0.mk (below_step (by repeat (first | (with_reducible first | exact HB.out | apply below_alloc | apply pw_below_drewN | apply below_drew1) | exact HB.out)) hb); have n1_ := Aside0.mk (hbox); have n2_ := Aside0.mk ((by rw [hg]; exact (below_size (by repeat (first | (with_reducible first | exact HB.out | apply below_alloc | apply pw_below_drewN | apply below_drew1) | exact HB.out))) : w.heap.size ≤ gb152)); have n3_ := Aside0.mk ((by rw [hg]; exact (below_size (by repeat (first | (with_reducible first | exact HB.out | apply below_alloc | apply pw_below_drewN | apply below_drew1) | exact HB.out))) : w.heap.size ≤ gb152)); clear HB; have HB := n0_; have BK152 := n1_; have GW152 := n2_; have GE152 := n3_; clear n0_ n1_ n2_ n3_; clear hb hbox hg; have hcz7_0 : w6.cell? ⟨gb152, 0, none⟩ = some (.string a0_0) := (blk_cell BK152.out 0).trans rfl; have hcz7_1 : w6.cell? ⟨gb152, 1, none⟩ = some (.int .i64 a0_1) := (blk_cell BK152.out 1).trans rfl; have hcz7_2 : w6.cell? ⟨gb152, 2, none⟩ = some (.int .i64 a0_2) := (blk_cell BK152.out 2).trans rfl; have hcz7_3 : w6.cell? ⟨gb152, 3, none⟩ = some (.string a0_3) := (blk_cell BK152.out 3).trans rfl; have hfz7_0 := blk_frozen BK152.out 0; have hfz7_1 := blk_frozen BK152.out 1; have hfz7_2 := blk_frozen BK152.out 2; have hfz7_3 := blk_frozen BK152.out 3))
      go_ret
      exact ⟨by first | rfl | (simp [errW_none, errW_some] <;> rfl) | (simp [*, errW_none, errW_some] <;> rfl), by repeat (first | (with_reducible first | exact HB.out | apply below_alloc | apply pw_below_drewN | apply below_drew1 | refine below_set ?_ GE152.out) | exact HB.out)⟩
    · rw [if_neg c5] at H
      have c5b0 : decide (16 < (a0_0.size : Int)) = false := decide_eq_false c5
      have c5b1 : decide (16 < a0_0.size) = false := decide_eq_false (by omega)
      clear c5
      replace H := Option.bind_eq_some_iff.mp H
      obtain ⟨t153, A80, H⟩ := H
      replace H : (some (!t153)) = some r := H
      have A8 := Aside0.mk A80
      clear A80
      obtain rfl := Option.some.inj H
      go_enter Try.func20, Try.ntmps20
      go_wp2_with (first | ((with_reducible refine gate_dst (N := 1) rfl ?_); (try (refine gate_guard (by rfl) ?_; dsimp only)); refine box_event ?hg (N := 1) ?hd (cs := #[.string a0_0, .int .i64 a0_1, .int .i64 a0_2, .string a0_3]) (t := 49) ?hr ?_; (case hd => rfl); (case hg => rfl); (case hr => first | (go_simp; done) | (go_simp; rfl)); intro gb152 hg w9 hbox hb; have n0_ := Aside0.mk (below_step (by repeat (first | (with_reducible first | exact HB.out | apply below_alloc | apply pw_below_drewN | apply below_drew1) | exact HB.out)) hb); have n1_ := Aside0.mk (hbox); have n2_ := Aside0.mk ((by rw [hg]; exact (below_size (by repeat (first | (with_reducible first | exact HB.out | apply below_alloc | apply pw_below_drewN | apply below_drew1) | exact HB.out))) : w.heap.size ≤ gb152)); have n3_ := Aside0.mk ((by rw [hg]; exact (below_size (by repeat (first | (with_reducible first | exact HB.out | apply below_alloc | apply pw_below_drewN | apply below_drew1) | exact HB.out))) : w.heap.size ≤ gb152)); clear HB; have HB := n0_; have BK152 := n1_; have GW152 := n2_; have GE152 := n3_; clear n0_ n1_ n2_ n3_; clear hb hbox hg; have hcz10_0 : w9.cell? ⟨gb152, 0, none⟩ = some (.string a0_0) := (blk_cell BK152.out 0).trans rfl; have hcz10_1 : w9.cell? ⟨gb152, 1, none⟩ = some (.int .i64 a0_1) := (blk_cell BK152.out 1).trans rfl; have hcz10_2 : w9.cell? ⟨gb152, 2, none⟩ = some (.int .i64 a0_2) := (blk_cell BK152.out 2).trans rfl; have hcz10_3 : w9.cell? ⟨gb152, 3, none⟩ = some (.string a0_3) := (blk_cell BK152.out 3).trans rfl; have hfz10_0 := blk_frozen BK152.out 0; have hfz10_1 := blk_frozen BK152.out 1; have hfz10_2 := blk_frozen BK152.out 2; have hfz10_3 := blk_frozen BK152.out 3) | (go_at_call 30; (with_reducible refine (value_Right.calls a0_1 a0_2 a0_3 t153 _ A8.out).mono ?_); rintro e w11 ⟨rfl, hb⟩; have n0_ := Aside0.mk (blk_below (g := gb152) (o := .cells #[.string a0_0, .int .i64 a0_1, .int .i64 a0_2, .string a0_3] 49 (0, 0)) (by (with_reducible repeat (first | refine blk_drewN ?_ _ | refine blk_drew ?_ | refine blk_alloc ?_ _)); exact BK152.out) hb); have n1_ := Aside0.mk (below_step (by repeat (first | (with_reducible first | exact HB.out | apply below_alloc | apply pw_below_drewN | apply below_drew1 | refine below_set ?_ GE152.out) | exact HB.out)) hb); clear BK152; clear HB; have BK152 := n0_; have HB := n1_; clear n0_ n1_; (try clear hb); (try clear hb2); (try clear hk); (try clear hi)))
      go_ret
      exact ⟨by first | rfl | (simp [errW_none, errW_some] <;> rfl) | (simp [*, errW_none, errW_some] <;> rfl), by repeat (first | (with_reducible first | exact HB.out | apply below_alloc | apply pw_below_drewN | apply below_drew1 | refine below_set ?_ GE152.out) | exact HB.out)⟩

end Go.Proofs.Ytbcnknmgljdmlaa.G
end

section
-- Written by a program of this session (wip/tools/myprint.py), over the kit's print.
namespace Go.Proofs.Ytbcnknmgljdmlaa.G
open Go.RowKit Go.Proofs.YtbcnknmgljdmlaaW.PrintWords Go.Proofs.YtbcnknmgljdmlaaW.PrintLast Go.Proofs.YtbcnknmgljdmlaaW.PrintMore
attribute [local go_sem] max2_int min2_int max_two min_two max_three min_three max_four min_four   -- for this text's walks alone
set_option linter.unusedVariables false
set_option linter.unusedSimpArgs false

/-! ### event_byName: function 22 -/
def event_byName.f (a0_0 : ByteArray) (a0_1 : Int) (a0_2 : Int) (a0_3 : ByteArray) (a1_0 : ByteArray) (a1_1 : Int) (a1_2 : Int) (a1_3 : ByteArray) : Option (Int) := (strings_Compare.f a0_0 a1_0).bind fun t156 => (some t156)
set_option maxHeartbeats 8000000 in
set_option maxRecDepth 100000 in
theorem event_byName.calls (a0_0 : ByteArray) (a0_1 : Int) (a0_2 : Int) (a0_3 : ByteArray) (a1_0 : ByteArray) (a1_1 : Int) (a1_2 : Int) (a1_3 : ByteArray) (r : Int) (w : World) (h : event_byName.f a0_0 a0_1 a0_2 a0_3 a1_0 a1_1 a1_2 a1_3 = some r) :
    Calls Try.prog 22 #[.agg #[.string a0_0, .int .i64 a0_1, .int .i64 a0_2, .string a0_3], .agg #[.string a1_0, .int .i64 a1_1, .int .i64 a1_2, .string a1_3]] w fun e w' => e = .returned (.int .i64 r) ∧ Below w.heap.size w w' := by
  have hu49 := Try.underlying49
  have HB := Aside0.mk (Below.refl w.heap.size w)
  have H : ((strings_Compare.f a0_0 a1_0).bind fun t156 => (some t156)) = some r := h
  clear h
  replace H := Option.bind_eq_some_iff.mp H
  obtain ⟨t156, A30, H⟩ := H
  replace H : (some t156) = some r := H
  have A3 := Aside0.mk A30
  clear A30
  obtain rfl := Option.some.inj H
  go_enter Try.func22, Try.ntmps22
  go_wp2_with (first | ((with_reducible refine gate_dst (N := 2) rfl ?_); refine box_event ?hg (N := 2) ?hd (cs := #[.string a0_0, .int .i64 a0_1, .int .i64 a0_2, .string a0_3]) (t := 49) ?hr ?_; (case hd => rfl); (case hg => rfl); (case hr => first | (go_simp; done) | (go_simp; rfl)); intro gb154 hg w4 hbox hb; have n0_ := Aside0.mk (below_step (by repeat (first | (with_reducible first | exact HB.out | apply below_alloc | apply pw_below_drewN | apply below_drew1) | exact HB.out)) hb); have n1_ := Aside0.mk (hbox); have n2_ := Aside0.mk ((by rw [hg]; exact (below_size (by repeat (first | (with_reducible first | exact HB.out | apply below_alloc | apply pw_below_drewN | apply below_drew1) | exact HB.out))) : w.heap.size ≤ gb154)); have n3_ := Aside0.mk ((by rw [hg]; exact (below_size (by repeat (first | (with_reducible first | exact HB.out | apply below_alloc | apply pw_below_drewN | apply below_drew1) | exact HB.out))) : w.heap.size ≤ gb154)); clear HB; have HB := n0_; have BK154 := n1_; have GW154 := n2_; have GE154 := n3_; clear n0_ n1_ n2_ n3_; clear hb hbox hg) | ((with_reducible refine gate_dst (N := 3) rfl ?_); refine box_event ?hg (N := 3) ?hd (cs := #[.string a1_0, .int .i64 a1_1, .int .i64 a1_2, .string a1_3]) (t := 49) ?hr ?_; (case hd => rfl); (case hg => rfl); (case hr => first | (go_simp; done) | (go_simp; rfl)); intro gb155 hg w5 hbox hb; have n0_ := Aside0.mk (blk_below (g := gb154) (o := .cells #[.string a0_0, .int .i64 a0_1, .int .i64 a0_2, .string a0_3] 49 (0, 0)) (by (with_reducible repeat (first | refine blk_drewN ?_ _ | refine blk_drew ?_ | refine blk_alloc ?_ _)); exact BK154.out) hb); have n1_ := Aside0.mk (below_step (by repeat (first | (with_reducible first | exact HB.out | apply below_alloc | apply pw_below_drewN | apply below_drew1 | refine below_set ?_ GE154.out) | exact HB.out)) hb); have n2_ := Aside0.mk (hbox); have n3_ := Aside0.mk ((by rw [hg]; exact (below_size (by repeat (first | (with_reducible first | exact HB.out | apply below_alloc | apply pw_below_drewN | apply below_drew1 | refine below_set ?_ GE154.out) | exact HB.out))) : w.heap.size ≤ gb155)); have n4_ := Aside0.mk ((by rw [hg]; exact (below_size (by repeat (first | (with_reducible first | exact HB.out | apply below_alloc | apply pw_below_drewN | apply below_drew1 | refine below_set ?_ GE154.out) | exact HB.out))) : w.heap.size ≤ gb155)); have n5_ := Aside0.mk ((by rw [hg]; exact Nat.ne_of_lt (blk_lt (g := gb154) (o := .cells #[.string a0_0, .int .i64 a0_1, .int .i64 a0_2, .string a0_3] 49 (0, 0)) (by (with_reducible repeat (first | refine blk_drewN ?_ _ | refine blk_drew ?_ | refine blk_alloc ?_ _)); exact BK154.out)) : gb154 ≠ gb155)); have n6_ := Aside0.mk ((by rw [hg]; exact Nat.ne_of_gt (blk_lt (g := gb154) (o := .cells #[.string a0_0, .int .i64 a0_1, .int .i64 a0_2, .string a0_3] 49 (0, 0)) (by (with_reducible repeat (first | refine blk_drewN ?_ _ | refine blk_drew ?_ | refine blk_alloc ?_ _)); exact BK154.out)) : gb155 ≠ gb154)); clear BK154; clear HB; have BK154 := n0_; have HB := n1_; have BK155 := n2_; have GW155 := n3_; have GE155 := n4_; have NB154_155 := n5_; have NB155_154 := n6_; clear n0_ n1_ n2_ n3_ n4_ n5_ n6_; clear hb hbox hg; have hnb6 := NB154_155.out; have hnc6 := NB155_154.out; have hcz7_0 : w5.cell? ⟨gb154, 0, none⟩ = some (.string a0_0) := (blk_cell BK154.out 0).trans rfl; have hcz7_1 : w5.cell? ⟨gb154, 1, none⟩ = some (.int .i64 a0_1) := (blk_cell BK154.out 1).trans rfl; have hcz7_2 : w5.cell? ⟨gb154, 2, none⟩ = some (.int .i64 a0_2) := (blk_cell BK154.out 2).trans rfl; have hcz7_3 : w5.cell? ⟨gb154, 3, none⟩ = some (.string a0_3) := (blk_cell BK154.out 3).trans rfl; have hfz7_0 := blk_frozen BK154.out 0; have hfz7_1 := blk_frozen BK154.out 1; have hfz7_2 := blk_frozen BK154.out 2; have hfz7_3 := blk_frozen BK154.out 3; have hcz8_0 : w5.cell? ⟨gb155, 0, none⟩ = some (.string a1_0) := (blk_cell BK155.out 0).trans rfl; have hcz8_1 : w5.cell? ⟨gb155, 1, none⟩ = some (.int .i64 a1_1) := (blk_cell BK155.out 1).trans rfl; have hcz8_2 : w5.cell? ⟨gb155, 2, none⟩ = some (.int .i64 a1_2) := (blk_cell BK155.out 2).trans rfl; have hcz8_3 : w5.cell? ⟨gb155, 3, none⟩ = some (.string a1_3) := (blk_cell BK155.out 3).trans rfl; have hfz8_0 := blk_frozen BK155.out 0; have hfz8_1 := blk_frozen BK155.out 1; have hfz8_2 := blk_frozen BK155.out 2; have hfz8_3 := blk_frozen BK155.out 3) | ((with_reducible refine gate_callee (f := 31) rfl ?_); refine goesL_ (some 9) rfl rfl Try.func31 (by kernel_rfl) rfl #[.string a0_0, .string a1_0] rfl (by (try simp only [List.map_toArray, List.map_cons, List.map_nil]); first | done | rfl | (simp only [List.length_drop, List.length_take]; rfl)) ?_; (with_reducible refine (strings_Compare.calls a0_0 a1_0 t156 _ A3.out).mono ?_); rintro e w' ⟨rfl, ⟨nd, rfl⟩⟩; refine ⟨_, rfl, ?_⟩))
  go_ret
  exact ⟨by first | rfl | (simp [errW_none, errW_some] <;> rfl) | (simp [*, errW_none, errW_some] <;> rfl), by repeat (first | (with_reducible first | exact HB.out | apply below_alloc | apply pw_below_drewN | apply below_drew1 | refine below_set ?_ GE154.out | refine below_set ?_ GE155.out) | exact HB.out)⟩

end Go.Proofs.Ytbcnknmgljdmlaa.G
end
