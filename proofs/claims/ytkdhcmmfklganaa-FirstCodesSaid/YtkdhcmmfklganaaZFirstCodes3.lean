import Derived.Test.YtkdhcmmfklganaaZFirstCodes0
import Derived.Test.YtkdhcmmfklganaaZFirstCodes2
section
-- Written by a program of this session (wip/tools/myprint.py), over the kit's print.
namespace Go.Proofs.Ytkdhcmmfklganaa.G
open Go.RowKit Go.Proofs.YtkdhcmmfklganaaW.PrintWords Go.Proofs.YtkdhcmmfklganaaW.PrintLast Go.Proofs.YtkdhcmmfklganaaW.PrintMore
attribute [local go_sem] max2_int min2_int max_two min_two max_three min_three max_four min_four   -- for this text's walks alone
set_option linter.unusedVariables false
set_option linter.unusedSimpArgs false

/-! ### rosetteref15_one: function 39 -/
mutual
def rosetteref15_one.l0 : Nat → List Int → Int → Int → Int → List (S46) → Option (Bool)
  | 0, _, _, _, _, _ => none
  | k + 1, x1, x5, x149000, x149001, x149002 => if x5 < (x149002.length : Int) then (if 0 ≤ x5 then (if (((rd_T46 x149002 x5).f0).size : Int) < 1 then (some false) else (if (((rd_T46 x149002 x5).f0).size : Int) > 16 then (some false) else (if ((rd_T46 x149002 x5).f1) < (-2147483648) then (some false) else (if ((rd_T46 x149002 x5).f1) > 2147483647 then (some false) else (if ((rd_T46 x149002 x5).f2) < (-2147483648) then (some false) else (if ((rd_T46 x149002 x5).f2) > 2147483647 then (some false) else (rosetteref15_one.l0 k x1 (wrap64 (x5 + 1)) x149000 x149001 x149002))))))) else (none)) else (rosetteref15_one.l1 k x1 false 0 x149000 x149001 x149002)
def rosetteref15_one.l1 : Nat → List Int → Bool → Int → Int → Int → List (S46) → Option (Bool)
  | 0, _, _, _, _, _, _ => none
  | k + 1, x1, x7, x8, x149000, x149001, x149002 => if x8 < (x1.length : Int) then (if x7 = true then (rosetteref15_one.l1 k x1 true (wrap64 (x8 + 1)) x149000 x149001 x149002) else (if 0 ≤ x8 then (rosetteref15_one.l1 k x1 ((rd x1 x8) == x149001) (wrap64 (x8 + 1)) x149000 x149001 x149002) else (none))) else (if x7 = true then (some (decide ((x149002.length : Int) ≤ 12))) else (some false))
end
def rosetteref15_one.f (k : Nat) (a0_0 : Int) (a0_1 : Int) (l0_2 : List (S46)) (l1 : List Int) : Option (Bool) := rosetteref15_one.l0 k l1 0 a0_0 a0_1 l0_2
theorem rosetteref15_one.mono_l : ∀ k, (∀ y0 y1 y2 y3 y4, LeO (rosetteref15_one.l0 k y0 y1 y2 y3 y4) (rosetteref15_one.l0 (k + 1) y0 y1 y2 y3 y4)) ∧ (∀ y0 y1 y2 y3 y4 y5, LeO (rosetteref15_one.l1 k y0 y1 y2 y3 y4 y5) (rosetteref15_one.l1 (k + 1) y0 y1 y2 y3 y4 y5))
  | 0 => ⟨fun _ _ _ _ _ r h => by simp [rosetteref15_one.l0] at h, fun _ _ _ _ _ _ r h => by simp [rosetteref15_one.l1] at h⟩
  | k + 1 => by
    obtain ⟨ih0, ih1⟩ := rosetteref15_one.mono_l k
    refine ⟨?_, ?_⟩
    · intro y0 y1 y2 y3 y4
      unfold rosetteref15_one.l0
      repeat' first
      | (with_reducible exact ih0 _ _ _ _ _)
      | (with_reducible exact ih1 _ _ _ _ _ _)
      | (with_reducible exact LeO.refl _)
      | (with_reducible exact LeO.none _)
      | (with_reducible refine LeO.ite ?_ ?_)
      | (with_reducible refine LeO.bind ?_ (fun _ => ?_))
      | exact ih0 _ _ _ _ _
      | exact ih1 _ _ _ _ _ _
      | exact LeO.none _
      | refine LeO.ite ?_ ?_
      | refine LeO.bind ?_ (fun _ => ?_)
    · intro y0 y1 y2 y3 y4 y5
      unfold rosetteref15_one.l1
      repeat' first
      | (with_reducible exact ih0 _ _ _ _ _)
      | (with_reducible exact ih1 _ _ _ _ _ _)
      | (with_reducible exact LeO.refl _)
      | (with_reducible exact LeO.none _)
      | (with_reducible refine LeO.ite ?_ ?_)
      | (with_reducible refine LeO.bind ?_ (fun _ => ?_))
      | exact ih0 _ _ _ _ _
      | exact ih1 _ _ _ _ _ _
      | exact LeO.none _
      | refine LeO.ite ?_ ?_
      | refine LeO.bind ?_ (fun _ => ?_)
theorem rosetteref15_one.mono : ∀ a0 a1 a2 a3 k, LeO (rosetteref15_one.f k a0 a1 a2 a3) (rosetteref15_one.f (k + 1) a0 a1 a2 a3) := by
  intro a0 a1 a2 a3 k
  obtain ⟨ih0, ih1⟩ := rosetteref15_one.mono_l k
  unfold rosetteref15_one.f
  repeat' first
      | (with_reducible exact ih0 _ _ _ _ _)
      | (with_reducible exact ih1 _ _ _ _ _ _)
      | (with_reducible exact LeO.refl _)
      | (with_reducible exact LeO.none _)
      | (with_reducible refine LeO.ite ?_ ?_)
      | (with_reducible refine LeO.bind ?_ (fun _ => ?_))
      | exact ih0 _ _ _ _ _
      | exact ih1 _ _ _ _ _ _
      | exact LeO.none _
      | refine LeO.ite ?_ ?_
      | refine LeO.bind ?_ (fun _ => ?_)
set_option maxHeartbeats 8000000 in
set_option maxRecDepth 100000 in
theorem rosetteref15_one.calls (k : Nat) (a0_0 : Int) (a0_1 : Int) (A0_2 : Option Addr) (c0_2 : Nat) (l0_2 : List (S46)) (A1 : Option Addr) (c1 : Nat) (l1 : List Int) (r : Bool) (w : World) (hr0_2 : Kd.C k46 w A0_2 l0_2.length l0_2) (hc0_2 : l0_2.length ≤ c0_2) (hr1 : Kd.C (Kd.int .i64) w A1 l1.length l1) (hc1 : l1.length ≤ c1) (h : rosetteref15_one.f k a0_0 a0_1 l0_2 l1 = some r) :
    Calls Try.prog 39 #[.agg #[.int .i64 a0_0, .int .i64 a0_1, .slice A0_2 l0_2.length c0_2], .slice A1 l1.length c1] w fun e w' => e = .returned (.bool r) ∧ Below w.heap.size w w' := by
  have hu40 := Try.underlying40
  have hu46 := Try.underlying46
  have HR0_2 := Aside0.mk hr0_2
  have HC0_2 := Aside0.mk hc0_2
  clear hr0_2 hc0_2
  have HR1 := Aside0.mk hr1
  have HC1 := Aside0.mk hc1
  clear hr1 hc1
  have HB := Aside0.mk (Below.refl w.heap.size w)
  have H : (rosetteref15_one.l0 k l1 0 a0_0 a0_1 l0_2) = some r := h
  clear h
  have H' := Aside0.mk H
  clear H
  go_enter Try.func39, Try.ntmps39
  go_wp2_with (first | ((with_reducible refine gate_dst (N := 2) rfl ?_); (try (refine gate_guard (by rfl) ?_; dsimp only)); refine box_event ?hg (N := 2) ?hd (cs := #[.int .i64 a0_0, .int .i64 a0_1, .slice A0_2 l0_2.length c0_2]) (t := 40) ?hr ?_; (case hd => rfl); (case hg => rfl); (case hr => first | (go_simp; done) | (go_simp; rfl)); intro gb148 hg w3 hbox hb; have n0_ := Aside0.mk (below_step (by repeat (first | (with_reducible first | exact HB.out | apply below_alloc | apply pw_below_drewN | apply below_drew1) | exact HB.out)) hb); have n1_ := Aside0.mk (hbox); have n2_ := Aside0.mk ((by rw [hg]; exact (below_size (by repeat (first | (with_reducible first | exact HB.out | apply below_alloc | apply pw_below_drewN | apply below_drew1) | exact HB.out))) : w.heap.size ≤ gb148)); have n3_ := Aside0.mk ((by rw [hg]; exact (below_size (by repeat (first | (with_reducible first | exact HB.out | apply below_alloc | apply pw_below_drewN | apply below_drew1) | exact HB.out))) : w.heap.size ≤ gb148)); clear HB; have HB := n0_; have BK148 := n1_; have GW148 := n2_; have GE148 := n3_; clear n0_ n1_ n2_ n3_; clear hb hbox hg))
  repeat (go_quiet (first | ((with_reducible refine gate_dst (N := 2) rfl ?_); (try (refine gate_guard (by rfl) ?_; dsimp only)); refine box_event ?hg (N := 2) ?hd (cs := #[.int .i64 a0_0, .int .i64 a0_1, .slice A0_2 l0_2.length c0_2]) (t := 40) ?hr ?_; (case hd => rfl); (case hg => rfl); (case hr => first | (go_simp; done) | (go_simp; rfl)); intro gb148 hg w3 hbox hb; have n0_ := Aside0.mk (below_step (by repeat (first | (with_reducible first | exact HB.out | apply below_alloc | apply pw_below_drewN | apply below_drew1) | exact HB.out)) hb); have n1_ := Aside0.mk (hbox); have n2_ := Aside0.mk ((by rw [hg]; exact (below_size (by repeat (first | (with_reducible first | exact HB.out | apply below_alloc | apply pw_below_drewN | apply below_drew1) | exact HB.out))) : w.heap.size ≤ gb148)); have n3_ := Aside0.mk ((by rw [hg]; exact (below_size (by repeat (first | (with_reducible first | exact HB.out | apply below_alloc | apply pw_below_drewN | apply below_drew1) | exact HB.out))) : w.heap.size ≤ gb148)); clear HB; have HB := n0_; have BK148 := n1_; have GW148 := n2_; have GE148 := n3_; clear n0_ n1_ n2_ n3_; clear hb hbox hg)); try go_wp2_with (first | ((with_reducible refine gate_dst (N := 2) rfl ?_); (try (refine gate_guard (by rfl) ?_; dsimp only)); refine box_event ?hg (N := 2) ?hd (cs := #[.int .i64 a0_0, .int .i64 a0_1, .slice A0_2 l0_2.length c0_2]) (t := 40) ?hr ?_; (case hd => rfl); (case hg => rfl); (case hr => first | (go_simp; done) | (go_simp; rfl)); intro gb148 hg w3 hbox hb; have n0_ := Aside0.mk (below_step (by repeat (first | (with_reducible first | exact HB.out | apply below_alloc | apply pw_below_drewN | apply below_drew1) | exact HB.out)) hb); have n1_ := Aside0.mk (hbox); have n2_ := Aside0.mk ((by rw [hg]; exact (below_size (by repeat (first | (with_reducible first | exact HB.out | apply below_alloc | apply pw_below_drewN | apply below_drew1) | exact HB.out))) : w.heap.size ≤ gb148)); have n3_ := Aside0.mk ((by rw [hg]; exact (below_size (by repeat (first | (with_reducible first | exact HB.out | apply below_alloc | apply pw_below_drewN | apply below_drew1) | exact HB.out))) : w.heap.size ≤ gb148)); clear HB; have HB := n0_; have BK148 := n1_; have GW148 := n2_; have GE148 := n3_; clear n0_ n1_ n2_ n3_; clear hb hbox hg)))
  go_loopg [5] k (fun kq v5 w' => ∃ (x5_1 : Int), v5 = .int .i64 x5_1 ∧ Aside0 (rosetteref15_one.l0 kq l1 x5_1 a0_0 a0_1 l0_2 = some r) ∧ Aside0 (kq ≤ k) ∧ Aside0 (w'.heap[gb148]? = some (.cells #[.int .i64 a0_0, .int .i64 a0_1, (.slice A0_2 l0_2.length c0_2)] 40 (0, 0))) ∧ Aside0 (Below w.heap.size w w'))
  case atStart => exact ⟨(0), (by first | rfl | (simp; done) | (simp [*]; done)), H', ⟨Nat.le_refl _⟩, ⟨by (with_reducible repeat (first | refine blk_drewN ?_ _ | refine blk_drew ?_ | refine blk_alloc ?_ _)); exact BK148.out⟩, ⟨by repeat (first | (with_reducible first | exact HB.out | apply below_alloc | apply pw_below_drewN | apply below_drew1 | refine below_set ?_ GE148.out) | exact HB.out)⟩⟩
  case round =>
    clear H'
    try clear c1
    try clear p2
    try clear c3
    obtain ⟨x5_1, rfl, HA, HK1, BK148, HB⟩ := hrel
    cases gk with
    | zero => exact absurd HA.out (by simp [rosetteref15_one.l0])
    | succ k1 =>
      have H := HA.out
      clear HA
      simp only [rosetteref15_one.l0] at H
      by_cases c4 : x5_1 < (l0_2.length : Int)
      · rw [if_pos c4] at H
        have c4b0 : decide (x5_1 < (l0_2.length : Int)) = true := decide_eq_true c4
        clear c4
        by_cases c5 : 0 ≤ x5_1
        · rw [if_pos c5] at H
          have c5b0 : decide (0 ≤ x5_1) = true := decide_eq_true c5
          clear c5
          by_cases c6 : (((rd_T46 l0_2 x5_1).f0).size : Int) < 1
          · rw [if_pos c6] at H
            have c6b0 : decide ((((rd_T46 l0_2 x5_1).f0).size : Int) < 1) = true := decide_eq_true c6
            have c6b1 : decide (((rd_T46 l0_2 x5_1).f0).size < 1) = true := decide_eq_true (by omega)
            clear c6
            obtain rfl := Option.some.inj H
            have hcz7_0 : wr.cell? ⟨gb148, 0, none⟩ = some (.int .i64 a0_0) := (blk_cell BK148.out 0).trans rfl
            have hcz7_1 : wr.cell? ⟨gb148, 1, none⟩ = some (.int .i64 a0_1) := (blk_cell BK148.out 1).trans rfl
            have hcz7_2 : wr.cell? ⟨gb148, 2, none⟩ = some (.slice A0_2 l0_2.length c0_2) := (blk_cell BK148.out 2).trans rfl
            have hfz7_0 := blk_frozen BK148.out 0
            have hfz7_1 := blk_frozen BK148.out 1
            have hfz7_2 := blk_frozen BK148.out 2
            have p149 : 0 ≤ (x5_1 : Int) := of_decide_eq_true (by first | (with_reducible assumption) | assumption)
            have q149 : x5_1 < (l0_2.length : Int) := of_decide_eq_true (by first | (with_reducible assumption) | assumption)
            obtain ⟨ad149, e149, hx149_0, hx149_1, hx149_2⟩ := at_T46 HR0_2.out x5_1 p149 q149
            cases e149
            replace hx149_0 := (HB.out.cell (World.block_lt_of_cell? w _ hx149_0)).trans hx149_0
            replace hx149_1 := (HB.out.cell (World.block_lt_of_cell? w _ hx149_1)).trans hx149_1
            replace hx149_2 := (HB.out.cell (World.block_lt_of_cell? w _ hx149_2)).trans hx149_2
            replace p149 := eq_true p149
            replace q149 := eq_true q149
            go_wp2_with (first | ((with_reducible refine gate_dst (N := 6) rfl ?_); (try (refine gate_guard (by rfl) ?_; dsimp only)); refine box_event ?hg (N := 6) ?hd (cs := #[.string (⟨#[]⟩ : ByteArray), .int .i64 0, .int .i64 0]) (t := 46) ?hr ?_; (case hd => rfl); (case hg => rfl); (case hr => first | (go_simp; done) | (go_simp; rfl)); intro gb150 hg w8 hbox hb; have n0_ := Aside0.mk (blk_below (g := gb148) (o := .cells #[.int .i64 a0_0, .int .i64 a0_1, .slice (some ad149) l0_2.length c0_2] 40 (0, 0)) (by (with_reducible repeat (first | refine blk_drewN ?_ _ | refine blk_drew ?_ | refine blk_alloc ?_ _)); exact BK148.out) hb); have n1_ := Aside0.mk (below_step (by repeat (first | (with_reducible first | exact HB.out | apply below_alloc | apply pw_below_drewN | apply below_drew1 | refine below_set ?_ GE148.out) | exact HB.out)) hb); have n2_ := Aside0.mk (hbox); have n3_ := Aside0.mk ((by rw [hg]; exact (below_size (by repeat (first | (with_reducible first | exact HB.out | apply below_alloc | apply pw_below_drewN | apply below_drew1 | refine below_set ?_ GE148.out) | exact HB.out))) : w.heap.size ≤ gb150)); have n4_ := Aside0.mk ((by rw [hg]; exact (below_size (by repeat (first | (with_reducible first | exact HB.out | apply below_alloc | apply pw_below_drewN | apply below_drew1 | refine below_set ?_ GE148.out) | exact HB.out))) : w.heap.size ≤ gb150)); have n5_ := Aside0.mk ((by rw [hg]; exact Nat.ne_of_lt (blk_lt (g := gb148) (o := .cells #[.int .i64 a0_0, .int .i64 a0_1, .slice (some ad149) l0_2.length c0_2] 40 (0, 0)) (by (with_reducible repeat (first | refine blk_drewN ?_ _ | refine blk_drew ?_ | refine blk_alloc ?_ _)); exact BK148.out)) : gb148 ≠ gb150)); have n6_ := Aside0.mk ((by rw [hg]; exact Nat.ne_of_gt (blk_lt (g := gb148) (o := .cells #[.int .i64 a0_0, .int .i64 a0_1, .slice (some ad149) l0_2.length c0_2] 40 (0, 0)) (by (with_reducible repeat (first | refine blk_drewN ?_ _ | refine blk_drew ?_ | refine blk_alloc ?_ _)); exact BK148.out)) : gb150 ≠ gb148)); clear BK148; clear HB; have BK148 := n0_; have HB := n1_; have BK150 := n2_; have GW150 := n3_; have GE150 := n4_; have NB148_150 := n5_; have NB150_148 := n6_; clear n0_ n1_ n2_ n3_ n4_ n5_ n6_; clear hb hbox hg; have hnb9 := NB150_148.out; have hnc9 := NB148_150.out; have hcz10_0 : w8.cell? ⟨gb150, 0, none⟩ = some (.string (⟨#[]⟩ : ByteArray)) := (blk_cell BK150.out 0).trans rfl; have hcz10_1 : w8.cell? ⟨gb150, 1, none⟩ = some (.int .i64 0) := (blk_cell BK150.out 1).trans rfl; have hcz10_2 : w8.cell? ⟨gb150, 2, none⟩ = some (.int .i64 0) := (blk_cell BK150.out 2).trans rfl; have hfz10_0 := blk_frozen BK150.out 0; have hfz10_1 := blk_frozen BK150.out 1; have hfz10_2 := blk_frozen BK150.out 2))
            repeat (go_quiet (first | ((with_reducible refine gate_dst (N := 6) rfl ?_); (try (refine gate_guard (by rfl) ?_; dsimp only)); refine box_event ?hg (N := 6) ?hd (cs := #[.string (⟨#[]⟩ : ByteArray), .int .i64 0, .int .i64 0]) (t := 46) ?hr ?_; (case hd => rfl); (case hg => rfl); (case hr => first | (go_simp; done) | (go_simp; rfl)); intro gb150 hg w8 hbox hb; have n0_ := Aside0.mk (blk_below (g := gb148) (o := .cells #[.int .i64 a0_0, .int .i64 a0_1, .slice (some ad149) l0_2.length c0_2] 40 (0, 0)) (by (with_reducible repeat (first | refine blk_drewN ?_ _ | refine blk_drew ?_ | refine blk_alloc ?_ _)); exact BK148.out) hb); have n1_ := Aside0.mk (below_step (by repeat (first | (with_reducible first | exact HB.out | apply below_alloc | apply pw_below_drewN | apply below_drew1 | refine below_set ?_ GE148.out) | exact HB.out)) hb); have n2_ := Aside0.mk (hbox); have n3_ := Aside0.mk ((by rw [hg]; exact (below_size (by repeat (first | (with_reducible first | exact HB.out | apply below_alloc | apply pw_below_drewN | apply below_drew1 | refine below_set ?_ GE148.out) | exact HB.out))) : w.heap.size ≤ gb150)); have n4_ := Aside0.mk ((by rw [hg]; exact (below_size (by repeat (first | (with_reducible first | exact HB.out | apply below_alloc | apply pw_below_drewN | apply below_drew1 | refine below_set ?_ GE148.out) | exact HB.out))) : w.heap.size ≤ gb150)); have n5_ := Aside0.mk ((by rw [hg]; exact Nat.ne_of_lt (blk_lt (g := gb148) (o := .cells #[.int .i64 a0_0, .int .i64 a0_1, .slice (some ad149) l0_2.length c0_2] 40 (0, 0)) (by (with_reducible repeat (first | refine blk_drewN ?_ _ | refine blk_drew ?_ | refine blk_alloc ?_ _)); exact BK148.out)) : gb148 ≠ gb150)); have n6_ := Aside0.mk ((by rw [hg]; exact Nat.ne_of_gt (blk_lt (g := gb148) (o := .cells #[.int .i64 a0_0, .int .i64 a0_1, .slice (some ad149) l0_2.length c0_2] 40 (0, 0)) (by (with_reducible repeat (first | refine blk_drewN ?_ _ | refine blk_drew ?_ | refine blk_alloc ?_ _)); exact BK148.out)) : gb150 ≠ gb148)); clear BK148; clear HB; have BK148 := n0_; have HB := n1_; have BK150 := n2_; have GW150 := n3_; have GE150 := n4_; have NB148_150 := n5_; have NB150_148 := n6_; clear n0_ n1_ n2_ n3_ n4_ n5_ n6_; clear hb hbox hg; have hnb9 := NB150_148.out; have hnc9 := NB148_150.out; have hcz10_0 : w8.cell? ⟨gb150, 0, none⟩ = some (.string (⟨#[]⟩ : ByteArray)) := (blk_cell BK150.out 0).trans rfl; have hcz10_1 : w8.cell? ⟨gb150, 1, none⟩ = some (.int .i64 0) := (blk_cell BK150.out 1).trans rfl; have hcz10_2 : w8.cell? ⟨gb150, 2, none⟩ = some (.int .i64 0) := (blk_cell BK150.out 2).trans rfl; have hfz10_0 := blk_frozen BK150.out 0; have hfz10_1 := blk_frozen BK150.out 1; have hfz10_2 := blk_frozen BK150.out 2)); try go_wp2_with (first | ((with_reducible refine gate_dst (N := 6) rfl ?_); (try (refine gate_guard (by rfl) ?_; dsimp only)); refine box_event ?hg (N := 6) ?hd (cs := #[.string (⟨#[]⟩ : ByteArray), .int .i64 0, .int .i64 0]) (t := 46) ?hr ?_; (case hd => rfl); (case hg => rfl); (case hr => first | (go_simp; done) | (go_simp; rfl)); intro gb150 hg w8 hbox hb; have n0_ := Aside0.mk (blk_below (g := gb148) (o := .cells #[.int .i64 a0_0, .int .i64 a0_1, .slice (some ad149) l0_2.length c0_2] 40 (0, 0)) (by (with_reducible repeat (first | refine blk_drewN ?_ _ | refine blk_drew ?_ | refine blk_alloc ?_ _)); exact BK148.out) hb); have n1_ := Aside0.mk (below_step (by repeat (first | (with_reducible first | exact HB.out | apply below_alloc | apply pw_below_drewN | apply below_drew1 | refine below_set ?_ GE148.out) | exact HB.out)) hb); have n2_ := Aside0.mk (hbox); have n3_ := Aside0.mk ((by rw [hg]; exact (below_size (by repeat (first | (with_reducible first | exact HB.out | apply below_alloc | apply pw_below_drewN | apply below_drew1 | refine below_set ?_ GE148.out) | exact HB.out))) : w.heap.size ≤ gb150)); have n4_ := Aside0.mk ((by rw [hg]; exact (below_size (by repeat (first | (with_reducible first | exact HB.out | apply below_alloc | apply pw_below_drewN | apply below_drew1 | refine below_set ?_ GE148.out) | exact HB.out))) : w.heap.size ≤ gb150)); have n5_ := Aside0.mk ((by rw [hg]; exact Nat.ne_of_lt (blk_lt (g := gb148) (o := .cells #[.int .i64 a0_0, .int .i64 a0_1, .slice (some ad149) l0_2.length c0_2] 40 (0, 0)) (by (with_reducible repeat (first | refine blk_drewN ?_ _ | refine blk_drew ?_ | refine blk_alloc ?_ _)); exact BK148.out)) : gb148 ≠ gb150)); have n6_ := Aside0.mk ((by rw [hg]; exact Nat.ne_of_gt (blk_lt (g := gb148) (o := .cells #[.int .i64 a0_0, .int .i64 a0_1, .slice (some ad149) l0_2.length c0_2] 40 (0, 0)) (by (with_reducible repeat (first | refine blk_drewN ?_ _ | refine blk_drew ?_ | refine blk_alloc ?_ _)); exact BK148.out)) : gb150 ≠ gb148)); clear BK148; clear HB; have BK148 := n0_; have HB := n1_; have BK150 := n2_; have GW150 := n3_; have GE150 := n4_; have NB148_150 := n5_; have NB150_148 := n6_; clear n0_ n1_ n2_ n3_ n4_ n5_ n6_; clear hb hbox hg; have hnb9 := NB150_148.out; have hnc9 := NB148_150.out; have hcz10_0 : w8.cell? ⟨gb150, 0, none⟩ = some (.string (⟨#[]⟩ : ByteArray)) := (blk_cell BK150.out 0).trans rfl; have hcz10_1 : w8.cell? ⟨gb150, 1, none⟩ = some (.int .i64 0) := (blk_cell BK150.out 1).trans rfl; have hcz10_2 : w8.cell? ⟨gb150, 2, none⟩ = some (.int .i64 0) := (blk_cell BK150.out 2).trans rfl; have hfz10_0 := blk_frozen BK150.out 0; have hfz10_1 := blk_frozen BK150.out 1; have hfz10_2 := blk_frozen BK150.out 2)))
            go_ret
            exact ⟨by first | rfl | (simp [errW_none, errW_some] <;> rfl) | (simp [*, errW_none, errW_some] <;> rfl), by repeat (first | (with_reducible first | exact HB.out | apply below_alloc | apply pw_below_drewN | apply below_drew1 | refine below_set ?_ GE148.out | refine below_set ?_ GE150.out) | exact HB.out)⟩
          · rw [if_neg c6] at H
            have c6b0 : decide ((((rd_T46 l0_2 x5_1).f0).size : Int) < 1) = false := decide_eq_false c6
            have c6b1 : decide (((rd_T46 l0_2 x5_1).f0).size < 1) = false := decide_eq_false (by omega)
            clear c6
            by_cases c11 : (((rd_T46 l0_2 x5_1).f0).size : Int) > 16
            · rw [if_pos c11] at H
              have c11b0 : decide (16 < (((rd_T46 l0_2 x5_1).f0).size : Int)) = true := decide_eq_true c11
              have c11b1 : decide (16 < ((rd_T46 l0_2 x5_1).f0).size) = true := decide_eq_true (by omega)
              clear c11
              obtain rfl := Option.some.inj H
              have hcz12_0 : wr.cell? ⟨gb148, 0, none⟩ = some (.int .i64 a0_0) := (blk_cell BK148.out 0).trans rfl
              have hcz12_1 : wr.cell? ⟨gb148, 1, none⟩ = some (.int .i64 a0_1) := (blk_cell BK148.out 1).trans rfl
              have hcz12_2 : wr.cell? ⟨gb148, 2, none⟩ = some (.slice A0_2 l0_2.length c0_2) := (blk_cell BK148.out 2).trans rfl
              have hfz12_0 := blk_frozen BK148.out 0
              have hfz12_1 := blk_frozen BK148.out 1
              have hfz12_2 := blk_frozen BK148.out 2
              have p149 : 0 ≤ (x5_1 : Int) := of_decide_eq_true (by first | (with_reducible assumption) | assumption)
              have q149 : x5_1 < (l0_2.length : Int) := of_decide_eq_true (by first | (with_reducible assumption) | assumption)
              obtain ⟨ad149, e149, hx149_0, hx149_1, hx149_2⟩ := at_T46 HR0_2.out x5_1 p149 q149
              cases e149
              replace hx149_0 := (HB.out.cell (World.block_lt_of_cell? w _ hx149_0)).trans hx149_0
              replace hx149_1 := (HB.out.cell (World.block_lt_of_cell? w _ hx149_1)).trans hx149_1
              replace hx149_2 := (HB.out.cell (World.block_lt_of_cell? w _ hx149_2)).trans hx149_2
              replace p149 := eq_true p149
              replace q149 := eq_true q149
              go_wp2_with (first | ((with_reducible refine gate_dst (N := 6) rfl ?_); (try (refine gate_guard (by rfl) ?_; dsimp only)); refine box_event ?hg (N := 6) ?hd (cs := #[.string (⟨#[]⟩ : ByteArray), .int .i64 0, .int .i64 0]) (t := 46) ?hr ?_; (case hd => rfl); (case hg => rfl); (case hr => first | (go_simp; done) | (go_simp; rfl)); intro gb150 hg w13 hbox hb; have n0_ := Aside0.mk (blk_below (g := gb148) (o := .cells #[.int .i64 a0_0, .int .i64 a0_1, .slice (some ad149) l0_2.length c0_2] 40 (0, 0)) (by (with_reducible repeat (first | refine blk_drewN ?_ _ | refine blk_drew ?_ | refine blk_alloc ?_ _)); exact BK148.out) hb); have n1_ := Aside0.mk (below_step (by repeat (first | (with_reducible first | exact HB.out | apply below_alloc | apply pw_below_drewN | apply below_drew1 | refine below_set ?_ GE148.out) | exact HB.out)) hb); have n2_ := Aside0.mk (hbox); have n3_ := Aside0.mk ((by rw [hg]; exact (below_size (by repeat (first | (with_reducible first | exact HB.out | apply below_alloc | apply pw_below_drewN | apply below_drew1 | refine below_set ?_ GE148.out) | exact HB.out))) : w.heap.size ≤ gb150)); have n4_ := Aside0.mk ((by rw [hg]; exact (below_size (by repeat (first | (with_reducible first | exact HB.out | apply below_alloc | apply pw_below_drewN | apply below_drew1 | refine below_set ?_ GE148.out) | exact HB.out))) : w.heap.size ≤ gb150)); have n5_ := Aside0.mk ((by rw [hg]; exact Nat.ne_of_lt (blk_lt (g := gb148) (o := .cells #[.int .i64 a0_0, .int .i64 a0_1, .slice (some ad149) l0_2.length c0_2] 40 (0, 0)) (by (with_reducible repeat (first | refine blk_drewN ?_ _ | refine blk_drew ?_ | refine blk_alloc ?_ _)); exact BK148.out)) : gb148 ≠ gb150)); have n6_ := Aside0.mk ((by rw [hg]; exact Nat.ne_of_gt (blk_lt (g := gb148) (o := .cells #[.int .i64 a0_0, .int .i64 a0_1, .slice (some ad149) l0_2.length c0_2] 40 (0, 0)) (by (with_reducible repeat (first | refine blk_drewN ?_ _ | refine blk_drew ?_ | refine blk_alloc ?_ _)); exact BK148.out)) : gb150 ≠ gb148)); clear BK148; clear HB; have BK148 := n0_; have HB := n1_; have BK150 := n2_; have GW150 := n3_; have GE150 := n4_; have NB148_150 := n5_; have NB150_148 := n6_; clear n0_ n1_ n2_ n3_ n4_ n5_ n6_; clear hb hbox hg; have hnb14 := NB150_148.out; have hnc14 := NB148_150.out; have hcz15_0 : w13.cell? ⟨gb150, 0, none⟩ = some (.string (⟨#[]⟩ : ByteArray)) := (blk_cell BK150.out 0).trans rfl; have hcz15_1 : w13.cell? ⟨gb150, 1, none⟩ = some (.int .i64 0) := (blk_cell BK150.out 1).trans rfl; have hcz15_2 : w13.cell? ⟨gb150, 2, none⟩ = some (.int .i64 0) := (blk_cell BK150.out 2).trans rfl; have hfz15_0 := blk_frozen BK150.out 0; have hfz15_1 := blk_frozen BK150.out 1; have hfz15_2 := blk_frozen BK150.out 2))
              repeat (go_quiet (first | ((with_reducible refine gate_dst (N := 6) rfl ?_); (try (refine gate_guard (by rfl) ?_; dsimp only)); refine box_event ?hg (N := 6) ?hd (cs := #[.string (⟨#[]⟩ : ByteArray), .int .i64 0, .int .i64 0]) (t := 46) ?hr ?_; (case hd => rfl); (case hg => rfl); (case hr => first | (go_simp; done) | (go_simp; rfl)); intro gb150 hg w13 hbox hb; have n0_ := Aside0.mk (blk_below (g := gb148) (o := .cells #[.int .i64 a0_0, .int .i64 a0_1, .slice (some ad149) l0_2.length c0_2] 40 (0, 0)) (by (with_reducible repeat (first | refine blk_drewN ?_ _ | refine blk_drew ?_ | refine blk_alloc ?_ _)); exact BK148.out) hb); have n1_ := Aside0.mk (below_step (by repeat (first | (with_reducible first | exact HB.out | apply below_alloc | apply pw_below_drewN | apply below_drew1 | refine below_set ?_ GE148.out) | exact HB.out)) hb); have n2_ := Aside0.mk (hbox); have n3_ := Aside0.mk ((by rw [hg]; exact (below_size (by repeat (first | (with_reducible first | exact HB.out | apply below_alloc | apply pw_below_drewN | apply below_drew1 | refine below_set ?_ GE148.out) | exact HB.out))) : w.heap.size ≤ gb150)); have n4_ := Aside0.mk ((by rw [hg]; exact (below_size (by repeat (first | (with_reducible first | exact HB.out | apply below_alloc | apply pw_below_drewN | apply below_drew1 | refine below_set ?_ GE148.out) | exact HB.out))) : w.heap.size ≤ gb150)); have n5_ := Aside0.mk ((by rw [hg]; exact Nat.ne_of_lt (blk_lt (g := gb148) (o := .cells #[.int .i64 a0_0, .int .i64 a0_1, .slice (some ad149) l0_2.length c0_2] 40 (0, 0)) (by (with_reducible repeat (first | refine blk_drewN ?_ _ | refine blk_drew ?_ | refine blk_alloc ?_ _)); exact BK148.out)) : gb148 ≠ gb150)); have n6_ := Aside0.mk ((by rw [hg]; exact Nat.ne_of_gt (blk_lt (g := gb148) (o := .cells #[.int .i64 a0_0, .int .i64 a0_1, .slice (some ad149) l0_2.length c0_2] 40 (0, 0)) (by (with_reducible repeat (first | refine blk_drewN ?_ _ | refine blk_drew ?_ | refine blk_alloc ?_ _)); exact BK148.out)) : gb150 ≠ gb148)); clear BK148; clear HB; have BK148 := n0_; have HB := n1_; have BK150 := n2_; have GW150 := n3_; have GE150 := n4_; have NB148_150 := n5_; have NB150_148 := n6_; clear n0_ n1_ n2_ n3_ n4_ n5_ n6_; clear hb hbox hg; have hnb14 := NB150_148.out; have hnc14 := NB148_150.out; have hcz15_0 : w13.cell? ⟨gb150, 0, none⟩ = some (.string (⟨#[]⟩ : ByteArray)) := (blk_cell BK150.out 0).trans rfl; have hcz15_1 : w13.cell? ⟨gb150, 1, none⟩ = some (.int .i64 0) := (blk_cell BK150.out 1).trans rfl; have hcz15_2 : w13.cell? ⟨gb150, 2, none⟩ = some (.int .i64 0) := (blk_cell BK150.out 2).trans rfl; have hfz15_0 := blk_frozen BK150.out 0; have hfz15_1 := blk_frozen BK150.out 1; have hfz15_2 := blk_frozen BK150.out 2)); try go_wp2_with (first | ((with_reducible refine gate_dst (N := 6) rfl ?_); (try (refine gate_guard (by rfl) ?_; dsimp only)); refine box_event ?hg (N := 6) ?hd (cs := #[.string (⟨#[]⟩ : ByteArray), .int .i64 0, .int .i64 0]) (t := 46) ?hr ?_; (case hd => rfl); (case hg => rfl); (case hr => first | (go_simp; done) | (go_simp; rfl)); intro gb150 hg w13 hbox hb; have n0_ := Aside0.mk (blk_below (g := gb148) (o := .cells #[.int .i64 a0_0, .int .i64 a0_1, .slice (some ad149) l0_2.length c0_2] 40 (0, 0)) (by (with_reducible repeat (first | refine blk_drewN ?_ _ | refine blk_drew ?_ | refine blk_alloc ?_ _)); exact BK148.out) hb); have n1_ := Aside0.mk (below_step (by repeat (first | (with_reducible first | exact HB.out | apply below_alloc | apply pw_below_drewN | apply below_drew1 | refine below_set ?_ GE148.out) | exact HB.out)) hb); have n2_ := Aside0.mk (hbox); have n3_ := Aside0.mk ((by rw [hg]; exact (below_size (by repeat (first | (with_reducible first | exact HB.out | apply below_alloc | apply pw_below_drewN | apply below_drew1 | refine below_set ?_ GE148.out) | exact HB.out))) : w.heap.size ≤ gb150)); have n4_ := Aside0.mk ((by rw [hg]; exact (below_size (by repeat (first | (with_reducible first | exact HB.out | apply below_alloc | apply pw_below_drewN | apply below_drew1 | refine below_set ?_ GE148.out) | exact HB.out))) : w.heap.size ≤ gb150)); have n5_ := Aside0.mk ((by rw [hg]; exact Nat.ne_of_lt (blk_lt (g := gb148) (o := .cells #[.int .i64 a0_0, .int .i64 a0_1, .slice (some ad149) l0_2.length c0_2] 40 (0, 0)) (by (with_reducible repeat (first | refine blk_drewN ?_ _ | refine blk_drew ?_ | refine blk_alloc ?_ _)); exact BK148.out)) : gb148 ≠ gb150)); have n6_ := Aside0.mk ((by rw [hg]; exact Nat.ne_of_gt (blk_lt (g := gb148) (o := .cells #[.int .i64 a0_0, .int .i64 a0_1, .slice (some ad149) l0_2.length c0_2] 40 (0, 0)) (by (with_reducible repeat (first | refine blk_drewN ?_ _ | refine blk_drew ?_ | refine blk_alloc ?_ _)); exact BK148.out)) : gb150 ≠ gb148)); clear BK148; clear HB; have BK148 := n0_; have HB := n1_; have BK150 := n2_; have GW150 := n3_; have GE150 := n4_; have NB148_150 := n5_; have NB150_148 := n6_; clear n0_ n1_ n2_ n3_ n4_ n5_ n6_; clear hb hbox hg; have hnb14 := NB150_148.out; have hnc14 := NB148_150.out; have hcz15_0 : w13.cell? ⟨gb150, 0, none⟩ = some (.string (⟨#[]⟩ : ByteArray)) := (blk_cell BK150.out 0).trans rfl; have hcz15_1 : w13.cell? ⟨gb150, 1, none⟩ = some (.int .i64 0) := (blk_cell BK150.out 1).trans rfl; have hcz15_2 : w13.cell? ⟨gb150, 2, none⟩ = some (.int .i64 0) := (blk_cell BK150.out 2).trans rfl; have hfz15_0 := blk_frozen BK150.out 0; have hfz15_1 := blk_frozen BK150.out 1; have hfz15_2 := blk_frozen BK150.out 2)))
              go_ret
              exact ⟨by first | rfl | (simp [errW_none, errW_some] <;> rfl) | (simp [*, errW_none, errW_some] <;> rfl), by repeat (first | (with_reducible first | exact HB.out | apply below_alloc | apply pw_below_drewN | apply below_drew1 | refine below_set ?_ GE148.out | refine below_set ?_ GE150.out) | exact HB.out)⟩
            · rw [if_neg c11] at H
              have c11b0 : decide (16 < (((rd_T46 l0_2 x5_1).f0).size : Int)) = false := decide_eq_false c11
              have c11b1 : decide (16 < ((rd_T46 l0_2 x5_1).f0).size) = false := decide_eq_false (by omega)
              clear c11
              by_cases c16 : ((rd_T46 l0_2 x5_1).f1) < (-2147483648)
              · rw [if_pos c16] at H
                have c16b0 : decide (((rd_T46 l0_2 x5_1).f1) < (-2147483648)) = true := decide_eq_true c16
                clear c16
                obtain rfl := Option.some.inj H
                have hcz17_0 : wr.cell? ⟨gb148, 0, none⟩ = some (.int .i64 a0_0) := (blk_cell BK148.out 0).trans rfl
                have hcz17_1 : wr.cell? ⟨gb148, 1, none⟩ = some (.int .i64 a0_1) := (blk_cell BK148.out 1).trans rfl
                have hcz17_2 : wr.cell? ⟨gb148, 2, none⟩ = some (.slice A0_2 l0_2.length c0_2) := (blk_cell BK148.out 2).trans rfl
                have hfz17_0 := blk_frozen BK148.out 0
                have hfz17_1 := blk_frozen BK148.out 1
                have hfz17_2 := blk_frozen BK148.out 2
                have p149 : 0 ≤ (x5_1 : Int) := of_decide_eq_true (by first | (with_reducible assumption) | assumption)
                have q149 : x5_1 < (l0_2.length : Int) := of_decide_eq_true (by first | (with_reducible assumption) | assumption)
                obtain ⟨ad149, e149, hx149_0, hx149_1, hx149_2⟩ := at_T46 HR0_2.out x5_1 p149 q149
                cases e149
                replace hx149_0 := (HB.out.cell (World.block_lt_of_cell? w _ hx149_0)).trans hx149_0
                replace hx149_1 := (HB.out.cell (World.block_lt_of_cell? w _ hx149_1)).trans hx149_1
                replace hx149_2 := (HB.out.cell (World.block_lt_of_cell? w _ hx149_2)).trans hx149_2
                replace p149 := eq_true p149
                replace q149 := eq_true q149
                go_wp2_with (first | ((with_reducible refine gate_dst (N := 6) rfl ?_); (try (refine gate_guard (by rfl) ?_; dsimp only)); refine box_event ?hg (N := 6) ?hd (cs := #[.string (⟨#[]⟩ : ByteArray), .int .i64 0, .int .i64 0]) (t := 46) ?hr ?_; (case hd => rfl); (case hg => rfl); (case hr => first | (go_simp; done) | (go_simp; rfl)); intro gb150 hg w18 hbox hb; have n0_ := Aside0.mk (blk_below (g := gb148) (o := .cells #[.int .i64 a0_0, .int .i64 a0_1, .slice (some ad149) l0_2.length c0_2] 40 (0, 0)) (by (with_reducible repeat (first | refine blk_drewN ?_ _ | refine blk_drew ?_ | refine blk_alloc ?_ _)); exact BK148.out) hb); have n1_ := Aside0.mk (below_step (by repeat (first | (with_reducible first | exact HB.out | apply below_alloc | apply pw_below_drewN | apply below_drew1 | refine below_set ?_ GE148.out) | exact HB.out)) hb); have n2_ := Aside0.mk (hbox); have n3_ := Aside0.mk ((by rw [hg]; exact (below_size (by repeat (first | (with_reducible first | exact HB.out | apply below_alloc | apply pw_below_drewN | apply below_drew1 | refine below_set ?_ GE148.out) | exact HB.out))) : w.heap.size ≤ gb150)); have n4_ := Aside0.mk ((by rw [hg]; exact (below_size (by repeat (first | (with_reducible first | exact HB.out | apply below_alloc | apply pw_below_drewN | apply below_drew1 | refine below_set ?_ GE148.out) | exact HB.out))) : w.heap.size ≤ gb150)); have n5_ := Aside0.mk ((by rw [hg]; exact Nat.ne_of_lt (blk_lt (g := gb148) (o := .cells #[.int .i64 a0_0, .int .i64 a0_1, .slice (some ad149) l0_2.length c0_2] 40 (0, 0)) (by (with_reducible repeat (first | refine blk_drewN ?_ _ | refine blk_drew ?_ | refine blk_alloc ?_ _)); exact BK148.out)) : gb148 ≠ gb150)); have n6_ := Aside0.mk ((by rw [hg]; exact Nat.ne_of_gt (blk_lt (g := gb148) (o := .cells #[.int .i64 a0_0, .int .i64 a0_1, .slice (some ad149) l0_2.length c0_2] 40 (0, 0)) (by (with_reducible repeat (first | refine blk_drewN ?_ _ | refine blk_drew ?_ | refine blk_alloc ?_ _)); exact BK148.out)) : gb150 ≠ gb148)); clear BK148; clear HB; have BK148 := n0_; have HB := n1_; have BK150 := n2_; have GW150 := n3_; have GE150 := n4_; have NB148_150 := n5_; have NB150_148 := n6_; clear n0_ n1_ n2_ n3_ n4_ n5_ n6_; clear hb hbox hg; have hnb19 := NB150_148.out; have hnc19 := NB148_150.out; have hcz20_0 : w18.cell? ⟨gb150, 0, none⟩ = some (.string (⟨#[]⟩ : ByteArray)) := (blk_cell BK150.out 0).trans rfl; have hcz20_1 : w18.cell? ⟨gb150, 1, none⟩ = some (.int .i64 0) := (blk_cell BK150.out 1).trans rfl; have hcz20_2 : w18.cell? ⟨gb150, 2, none⟩ = some (.int .i64 0) := (blk_cell BK150.out 2).trans rfl; have hfz20_0 := blk_frozen BK150.out 0; have hfz20_1 := blk_frozen BK150.out 1; have hfz20_2 := blk_frozen BK150.out 2))
                repeat (go_quiet (first | ((with_reducible refine gate_dst (N := 6) rfl ?_); (try (refine gate_guard (by rfl) ?_; dsimp only)); refine box_event ?hg (N := 6) ?hd (cs := #[.string (⟨#[]⟩ : ByteArray), .int .i64 0, .int .i64 0]) (t := 46) ?hr ?_; (case hd => rfl); (case hg => rfl); (case hr => first | (go_simp; done) | (go_simp; rfl)); intro gb150 hg w18 hbox hb; have n0_ := Aside0.mk (blk_below (g := gb148) (o := .cells #[.int .i64 a0_0, .int .i64 a0_1, .slice (some ad149) l0_2.length c0_2] 40 (0, 0)) (by (with_reducible repeat (first | refine blk_drewN ?_ _ | refine blk_drew ?_ | refine blk_alloc ?_ _)); exact BK148.out) hb); have n1_ := Aside0.mk (below_step (by repeat (first | (with_reducible first | exact HB.out | apply below_alloc | apply pw_below_drewN | apply below_drew1 | refine below_set ?_ GE148.out) | exact HB.out)) hb); have n2_ := Aside0.mk (hbox); have n3_ := Aside0.mk ((by rw [hg]; exact (below_size (by repeat (first | (with_reducible first | exact HB.out | apply below_alloc | apply pw_below_drewN | apply below_drew1 | refine below_set ?_ GE148.out) | exact HB.out))) : w.heap.size ≤ gb150)); have n4_ := Aside0.mk ((by rw [hg]; exact (below_size (by repeat (first | (with_reducible first | exact HB.out | apply below_alloc | apply pw_below_drewN | apply below_drew1 | refine below_set ?_ GE148.out) | exact HB.out))) : w.heap.size ≤ gb150)); have n5_ := Aside0.mk ((by rw [hg]; exact Nat.ne_of_lt (blk_lt (g := gb148) (o := .cells #[.int .i64 a0_0, .int .i64 a0_1, .slice (some ad149) l0_2.length c0_2] 40 (0, 0)) (by (with_reducible repeat (first | refine blk_drewN ?_ _ | refine blk_drew ?_ | refine blk_alloc ?_ _)); exact BK148.out)) : gb148 ≠ gb150)); have n6_ := Aside0.mk ((by rw [hg]; exact Nat.ne_of_gt (blk_lt (g := gb148) (o := .cells #[.int .i64 a0_0, .int .i64 a0_1, .slice (some ad149) l0_2.length c0_2] 40 (0, 0)) (by (with_reducible repeat (first | refine blk_drewN ?_ _ | refine blk_drew ?_ | refine blk_alloc ?_ _)); exact BK148.out)) : gb150 ≠ gb148)); clear BK148; clear HB; have BK148 := n0_; have HB := n1_; have BK150 := n2_; have GW150 := n3_; have GE150 := n4_; have NB148_150 := n5_; have NB150_148 := n6_; clear n0_ n1_ n2_ n3_ n4_ n5_ n6_; clear hb hbox hg; have hnb19 := NB150_148.out; have hnc19 := NB148_150.out; have hcz20_0 : w18.cell? ⟨gb150, 0, none⟩ = some (.string (⟨#[]⟩ : ByteArray)) := (blk_cell BK150.out 0).trans rfl; have hcz20_1 : w18.cell? ⟨gb150, 1, none⟩ = some (.int .i64 0) := (blk_cell BK150.out 1).trans rfl; have hcz20_2 : w18.cell? ⟨gb150, 2, none⟩ = some (.int .i64 0) := (blk_cell BK150.out 2).trans rfl; have hfz20_0 := blk_frozen BK150.out 0; have hfz20_1 := blk_frozen BK150.out 1; have hfz20_2 := blk_frozen BK150.out 2)); try go_wp2_with (first | ((with_reducible refine gate_dst (N := 6) rfl ?_); (try (refine gate_guard (by rfl) ?_; dsimp only)); refine box_event ?hg (N := 6) ?hd (cs := #[.string (⟨#[]⟩ : ByteArray), .int .i64 0, .int .i64 0]) (t := 46) ?hr ?_; (case hd => rfl); (case hg => rfl); (case hr => first | (go_simp; done) | (go_simp; rfl)); intro gb150 hg w18 hbox hb; have n0_ := Aside0.mk (blk_below (g := gb148) (o := .cells #[.int .i64 a0_0, .int .i64 a0_1, .slice (some ad149) l0_2.length c0_2] 40 (0, 0)) (by (with_reducible repeat (first | refine blk_drewN ?_ _ | refine blk_drew ?_ | refine blk_alloc ?_ _)); exact BK148.out) hb); have n1_ := Aside0.mk (below_step (by repeat (first | (with_reducible first | exact HB.out | apply below_alloc | apply pw_below_drewN | apply below_drew1 | refine below_set ?_ GE148.out) | exact HB.out)) hb); have n2_ := Aside0.mk (hbox); have n3_ := Aside0.mk ((by rw [hg]; exact (below_size (by repeat (first | (with_reducible first | exact HB.out | apply below_alloc | apply pw_below_drewN | apply below_drew1 | refine below_set ?_ GE148.out) | exact HB.out))) : w.heap.size ≤ gb150)); have n4_ := Aside0.mk ((by rw [hg]; exact (below_size (by repeat (first | (with_reducible first | exact HB.out | apply below_alloc | apply pw_below_drewN | apply below_drew1 | refine below_set ?_ GE148.out) | exact HB.out))) : w.heap.size ≤ gb150)); have n5_ := Aside0.mk ((by rw [hg]; exact Nat.ne_of_lt (blk_lt (g := gb148) (o := .cells #[.int .i64 a0_0, .int .i64 a0_1, .slice (some ad149) l0_2.length c0_2] 40 (0, 0)) (by (with_reducible repeat (first | refine blk_drewN ?_ _ | refine blk_drew ?_ | refine blk_alloc ?_ _)); exact BK148.out)) : gb148 ≠ gb150)); have n6_ := Aside0.mk ((by rw [hg]; exact Nat.ne_of_gt (blk_lt (g := gb148) (o := .cells #[.int .i64 a0_0, .int .i64 a0_1, .slice (some ad149) l0_2.length c0_2] 40 (0, 0)) (by (with_reducible repeat (first | refine blk_drewN ?_ _ | refine blk_drew ?_ | refine blk_alloc ?_ _)); exact BK148.out)) : gb150 ≠ gb148)); clear BK148; clear HB; have BK148 := n0_; have HB := n1_; have BK150 := n2_; have GW150 := n3_; have GE150 := n4_; have NB148_150 := n5_; have NB150_148 := n6_; clear n0_ n1_ n2_ n3_ n4_ n5_ n6_; clear hb hbox hg; have hnb19 := NB150_148.out; have hnc19 := NB148_150.out; have hcz20_0 : w18.cell? ⟨gb150, 0, none⟩ = some (.string (⟨#[]⟩ : ByteArray)) := (blk_cell BK150.out 0).trans rfl; have hcz20_1 : w18.cell? ⟨gb150, 1, none⟩ = some (.int .i64 0) := (blk_cell BK150.out 1).trans rfl; have hcz20_2 : w18.cell? ⟨gb150, 2, none⟩ = some (.int .i64 0) := (blk_cell BK150.out 2).trans rfl; have hfz20_0 := blk_frozen BK150.out 0; have hfz20_1 := blk_frozen BK150.out 1; have hfz20_2 := blk_frozen BK150.out 2)))
                go_ret
                exact ⟨by first | rfl | (simp [errW_none, errW_some] <;> rfl) | (simp [*, errW_none, errW_some] <;> rfl), by repeat (first | (with_reducible first | exact HB.out | apply below_alloc | apply pw_below_drewN | apply below_drew1 | refine below_set ?_ GE148.out | refine below_set ?_ GE150.out) | exact HB.out)⟩
              · rw [if_neg c16] at H
                have c16b0 : decide (((rd_T46 l0_2 x5_1).f1) < (-2147483648)) = false := decide_eq_false c16
                clear c16
                by_cases c21 : ((rd_T46 l0_2 x5_1).f1) > 2147483647
                · rw [if_pos c21] at H
                  have c21b0 : decide (2147483647 < ((rd_T46 l0_2 x5_1).f1)) = true := decide_eq_true c21
                  clear c21
                  obtain rfl := Option.some.inj H
                  have hcz22_0 : wr.cell? ⟨gb148, 0, none⟩ = some (.int .i64 a0_0) := (blk_cell BK148.out 0).trans rfl
                  have hcz22_1 : wr.cell? ⟨gb148, 1, none⟩ = some (.int .i64 a0_1) := (blk_cell BK148.out 1).trans rfl
                  have hcz22_2 : wr.cell? ⟨gb148, 2, none⟩ = some (.slice A0_2 l0_2.length c0_2) := (blk_cell BK148.out 2).trans rfl
                  have hfz22_0 := blk_frozen BK148.out 0
                  have hfz22_1 := blk_frozen BK148.out 1
                  have hfz22_2 := blk_frozen BK148.out 2
                  have p149 : 0 ≤ (x5_1 : Int) := of_decide_eq_true (by first | (with_reducible assumption) | assumption)
                  have q149 : x5_1 < (l0_2.length : Int) := of_decide_eq_true (by first | (with_reducible assumption) | assumption)
                  obtain ⟨ad149, e149, hx149_0, hx149_1, hx149_2⟩ := at_T46 HR0_2.out x5_1 p149 q149
                  cases e149
                  replace hx149_0 := (HB.out.cell (World.block_lt_of_cell? w _ hx149_0)).trans hx149_0
                  replace hx149_1 := (HB.out.cell (World.block_lt_of_cell? w _ hx149_1)).trans hx149_1
                  replace hx149_2 := (HB.out.cell (World.block_lt_of_cell? w _ hx149_2)).trans hx149_2
                  replace p149 := eq_true p149
                  replace q149 := eq_true q149
                  go_wp2_with (first | ((with_reducible refine gate_dst (N := 6) rfl ?_); (try (refine gate_guard (by rfl) ?_; dsimp only)); refine box_event ?hg (N := 6) ?hd (cs := #[.string (⟨#[]⟩ : ByteArray), .int .i64 0, .int .i64 0]) (t := 46) ?hr ?_; (case hd => rfl); (case hg => rfl); (case hr => first | (go_simp; done) | (go_simp; rfl)); intro gb150 hg w23 hbox hb; have n0_ := Aside0.mk (blk_below (g := gb148) (o := .cells #[.int .i64 a0_0, .int .i64 a0_1, .slice (some ad149) l0_2.length c0_2] 40 (0, 0)) (by (with_reducible repeat (first | refine blk_drewN ?_ _ | refine blk_drew ?_ | refine blk_alloc ?_ _)); exact BK148.out) hb); have n1_ := Aside0.mk (below_step (by repeat (first | (with_reducible first | exact HB.out | apply below_alloc | apply pw_below_drewN | apply below_drew1 | refine below_set ?_ GE148.out) | exact HB.out)) hb); have n2_ := Aside0.mk (hbox); have n3_ := Aside0.mk ((by rw [hg]; exact (below_size (by repeat (first | (with_reducible first | exact HB.out | apply below_alloc | apply pw_below_drewN | apply below_drew1 | refine below_set ?_ GE148.out) | exact HB.out))) : w.heap.size ≤ gb150)); have n4_ := Aside0.mk ((by rw [hg]; exact (below_size (by repeat (first | (with_reducible first | exact HB.out | apply below_alloc | apply pw_below_drewN | apply below_drew1 | refine below_set ?_ GE148.out) | exact HB.out))) : w.heap.size ≤ gb150)); have n5_ := Aside0.mk ((by rw [hg]; exact Nat.ne_of_lt (blk_lt (g := gb148) (o := .cells #[.int .i64 a0_0, .int .i64 a0_1, .slice (some ad149) l0_2.length c0_2] 40 (0, 0)) (by (with_reducible repeat (first | refine blk_drewN ?_ _ | refine blk_drew ?_ | refine blk_alloc ?_ _)); exact BK148.out)) : gb148 ≠ gb150)); have n6_ := Aside0.mk ((by rw [hg]; exact Nat.ne_of_gt (blk_lt (g := gb148) (o := .cells #[.int .i64 a0_0, .int .i64 a0_1, .slice (some ad149) l0_2.length c0_2] 40 (0, 0)) (by (with_reducible repeat (first | refine blk_drewN ?_ _ | refine blk_drew ?_ | refine blk_alloc ?_ _)); exact BK148.out)) : gb150 ≠ gb148)); clear BK148; clear HB; have BK148 := n0_; have HB := n1_; have BK150 := n2_; have GW150 := n3_; have GE150 := n4_; have NB148_150 := n5_; have NB150_148 := n6_; clear n0_ n1_ n2_ n3_ n4_ n5_ n6_; clear hb hbox hg; have hnb24 := NB150_148.out; have hnc24 := NB148_150.out; have hcz25_0 : w23.cell? ⟨gb150, 0, none⟩ = some (.string (⟨#[]⟩ : ByteArray)) := (blk_cell BK150.out 0).trans rfl; have hcz25_1 : w23.cell? ⟨gb150, 1, none⟩ = some (.int .i64 0) := (blk_cell BK150.out 1).trans rfl; have hcz25_2 : w23.cell? ⟨gb150, 2, none⟩ = some (.int .i64 0) := (blk_cell BK150.out 2).trans rfl; have hfz25_0 := blk_frozen BK150.out 0; have hfz25_1 := blk_frozen BK150.out 1; have hfz25_2 := blk_frozen BK150.out 2))
                  repeat (go_quiet (first | ((with_reducible refine gate_dst (N := 6) rfl ?_); (try (refine gate_guard (by rfl) ?_; dsimp only)); refine box_event ?hg (N := 6) ?hd (cs := #[.string (⟨#[]⟩ : ByteArray), .int .i64 0, .int .i64 0]) (t := 46) ?hr ?_; (case hd => rfl); (case hg => rfl); (case hr => first | (go_simp; done) | (go_simp; rfl)); intro gb150 hg w23 hbox hb; have n0_ := Aside0.mk (blk_below (g := gb148) (o := .cells #[.int .i64 a0_0, .int .i64 a0_1, .slice (some ad149) l0_2.length c0_2] 40 (0, 0)) (by (with_reducible repeat (first | refine blk_drewN ?_ _ | refine blk_drew ?_ | refine blk_alloc ?_ _)); exact BK148.out) hb); have n1_ := Aside0.mk (below_step (by repeat (first | (with_reducible first | exact HB.out | apply below_alloc | apply pw_below_drewN | apply below_drew1 | refine below_set ?_ GE148.out) | exact HB.out)) hb); have n2_ := Aside0.mk (hbox); have n3_ := Aside0.mk ((by rw [hg]; exact (below_size (by repeat (first | (with_reducible first | exact HB.out | apply below_alloc | apply pw_below_drewN | apply below_drew1 | refine below_set ?_ GE148.out) | exact HB.out))) : w.heap.size ≤ gb150)); have n4_ := Aside0.mk ((by rw [hg]; exact (below_size (by repeat (first | (with_reducible first | exact HB.out | apply below_alloc | apply pw_below_drewN | apply below_drew1 | refine below_set ?_ GE148.out) | exact HB.out))) : w.heap.size ≤ gb150)); have n5_ := Aside0.mk ((by rw [hg]; exact Nat.ne_of_lt (blk_lt (g := gb148) (o := .cells #[.int .i64 a0_0, .int .i64 a0_1, .slice (some ad149) l0_2.length c0_2] 40 (0, 0)) (by (with_reducible repeat (first | refine blk_drewN ?_ _ | refine blk_drew ?_ | refine blk_alloc ?_ _)); exact BK148.out)) : gb148 ≠ gb150)); have n6_ := Aside0.mk ((by rw [hg]; exact Nat.ne_of_gt (blk_lt (g := gb148) (o := .cells #[.int .i64 a0_0, .int .i64 a0_1, .slice (some ad149) l0_2.length c0_2] 40 (0, 0)) (by (with_reducible repeat (first | refine blk_drewN ?_ _ | refine blk_drew ?_ | refine blk_alloc ?_ _)); exact BK148.out)) : gb150 ≠ gb148)); clear BK148; clear HB; have BK148 := n0_; have HB := n1_; have BK150 := n2_; have GW150 := n3_; have GE150 := n4_; have NB148_150 := n5_; have NB150_148 := n6_; clear n0_ n1_ n2_ n3_ n4_ n5_ n6_; clear hb hbox hg; have hnb24 := NB150_148.out; have hnc24 := NB148_150.out; have hcz25_0 : w23.cell? ⟨gb150, 0, none⟩ = some (.string (⟨#[]⟩ : ByteArray)) := (blk_cell BK150.out 0).trans rfl; have hcz25_1 : w23.cell? ⟨gb150, 1, none⟩ = some (.int .i64 0) := (blk_cell BK150.out 1).trans rfl; have hcz25_2 : w23.cell? ⟨gb150, 2, none⟩ = some (.int .i64 0) := (blk_cell BK150.out 2).trans rfl; have hfz25_0 := blk_frozen BK150.out 0; have hfz25_1 := blk_frozen BK150.out 1; have hfz25_2 := blk_frozen BK150.out 2)); try go_wp2_with (first | ((with_reducible refine gate_dst (N := 6) rfl ?_); (try (refine gate_guard (by rfl) ?_; dsimp only)); refine box_event ?hg (N := 6) ?hd (cs := #[.string (⟨#[]⟩ : ByteArray), .int .i64 0, .int .i64 0]) (t := 46) ?hr ?_; (case hd => rfl); (case hg => rfl); (case hr => first | (go_simp; done) | (go_simp; rfl)); intro gb150 hg w23 hbox hb; have n0_ := Aside0.mk (blk_below (g := gb148) (o := .cells #[.int .i64 a0_0, .int .i64 a0_1, .slice (some ad149) l0_2.length c0_2] 40 (0, 0)) (by (with_reducible repeat (first | refine blk_drewN ?_ _ | refine blk_drew ?_ | refine blk_alloc ?_ _)); exact BK148.out) hb); have n1_ := Aside0.mk (below_step (by repeat (first | (with_reducible first | exact HB.out | apply below_alloc | apply pw_below_drewN | apply below_drew1 | refine below_set ?_ GE148.out) | exact HB.out)) hb); have n2_ := Aside0.mk (hbox); have n3_ := Aside0.mk ((by rw [hg]; exact (below_size (by repeat (first | (with_reducible first | exact HB.out | apply below_alloc | apply pw_below_drewN | apply below_drew1 | refine below_set ?_ GE148.out) | exact HB.out))) : w.heap.size ≤ gb150)); have n4_ := Aside0.mk ((by rw [hg]; exact (below_size (by repeat (first | (with_reducible first | exact HB.out | apply below_alloc | apply pw_below_drewN | apply below_drew1 | refine below_set ?_ GE148.out) | exact HB.out))) : w.heap.size ≤ gb150)); have n5_ := Aside0.mk ((by rw [hg]; exact Nat.ne_of_lt (blk_lt (g := gb148) (o := .cells #[.int .i64 a0_0, .int .i64 a0_1, .slice (some ad149) l0_2.length c0_2] 40 (0, 0)) (by (with_reducible repeat (first | refine blk_drewN ?_ _ | refine blk_drew ?_ | refine blk_alloc ?_ _)); exact BK148.out)) : gb148 ≠ gb150)); have n6_ := Aside0.mk ((by rw [hg]; exact Nat.ne_of_gt (blk_lt (g := gb148) (o := .cells #[.int .i64 a0_0, .int .i64 a0_1, .slice (some ad149) l0_2.length c0_2] 40 (0, 0)) (by (with_reducible repeat (first | refine blk_drewN ?_ _ | refine blk_drew ?_ | refine blk_alloc ?_ _)); exact BK148.out)) : gb150 ≠ gb148)); clear BK148; clear HB; have BK148 := n0_; have HB := n1_; have BK150 := n2_; have GW150 := n3_; have GE150 := n4_; have NB148_150 := n5_; have NB150_148 := n6_; clear n0_ n1_ n2_ n3_ n4_ n5_ n6_; clear hb hbox hg; have hnb24 := NB150_148.out; have hnc24 := NB148_150.out; have hcz25_0 : w23.cell? ⟨gb150, 0, none⟩ = some (.string (⟨#[]⟩ : ByteArray)) := (blk_cell BK150.out 0).trans rfl; have hcz25_1 : w23.cell? ⟨gb150, 1, none⟩ = some (.int .i64 0) := (blk_cell BK150.out 1).trans rfl; have hcz25_2 : w23.cell? ⟨gb150, 2, none⟩ = some (.int .i64 0) := (blk_cell BK150.out 2).trans rfl; have hfz25_0 := blk_frozen BK150.out 0; have hfz25_1 := blk_frozen BK150.out 1; have hfz25_2 := blk_frozen BK150.out 2)))
                  go_ret
                  exact ⟨by first | rfl | (simp [errW_none, errW_some] <;> rfl) | (simp [*, errW_none, errW_some] <;> rfl), by repeat (first | (with_reducible first | exact HB.out | apply below_alloc | apply pw_below_drewN | apply below_drew1 | refine below_set ?_ GE148.out | refine below_set ?_ GE150.out) | exact HB.out)⟩
                · rw [if_neg c21] at H
                  have c21b0 : decide (2147483647 < ((rd_T46 l0_2 x5_1).f1)) = false := decide_eq_false c21
                  clear c21
                  by_cases c26 : ((rd_T46 l0_2 x5_1).f2) < (-2147483648)
                  · rw [if_pos c26] at H
                    have c26b0 : decide (((rd_T46 l0_2 x5_1).f2) < (-2147483648)) = true := decide_eq_true c26
                    clear c26
                    obtain rfl := Option.some.inj H
                    have hcz27_0 : wr.cell? ⟨gb148, 0, none⟩ = some (.int .i64 a0_0) := (blk_cell BK148.out 0).trans rfl
                    have hcz27_1 : wr.cell? ⟨gb148, 1, none⟩ = some (.int .i64 a0_1) := (blk_cell BK148.out 1).trans rfl
                    have hcz27_2 : wr.cell? ⟨gb148, 2, none⟩ = some (.slice A0_2 l0_2.length c0_2) := (blk_cell BK148.out 2).trans rfl
                    have hfz27_0 := blk_frozen BK148.out 0
                    have hfz27_1 := blk_frozen BK148.out 1
                    have hfz27_2 := blk_frozen BK148.out 2
                    have p149 : 0 ≤ (x5_1 : Int) := of_decide_eq_true (by first | (with_reducible assumption) | assumption)
                    have q149 : x5_1 < (l0_2.length : Int) := of_decide_eq_true (by first | (with_reducible assumption) | assumption)
                    obtain ⟨ad149, e149, hx149_0, hx149_1, hx149_2⟩ := at_T46 HR0_2.out x5_1 p149 q149
                    cases e149
                    replace hx149_0 := (HB.out.cell (World.block_lt_of_cell? w _ hx149_0)).trans hx149_0
                    replace hx149_1 := (HB.out.cell (World.block_lt_of_cell? w _ hx149_1)).trans hx149_1
                    replace hx149_2 := (HB.out.cell (World.block_lt_of_cell? w _ hx149_2)).trans hx149_2
                    replace p149 := eq_true p149
                    replace q149 := eq_true q149
                    go_wp2_with (first | ((with_reducible refine gate_dst (N := 6) rfl ?_); (try (refine gate_guard (by rfl) ?_; dsimp only)); refine box_event ?hg (N := 6) ?hd (cs := #[.string (⟨#[]⟩ : ByteArray), .int .i64 0, .int .i64 0]) (t := 46) ?hr ?_; (case hd => rfl); (case hg => rfl); (case hr => first | (go_simp; done) | (go_simp; rfl)); intro gb150 hg w28 hbox hb; have n0_ := Aside0.mk (blk_below (g := gb148) (o := .cells #[.int .i64 a0_0, .int .i64 a0_1, .slice (some ad149) l0_2.length c0_2] 40 (0, 0)) (by (with_reducible repeat (first | refine blk_drewN ?_ _ | refine blk_drew ?_ | refine blk_alloc ?_ _)); exact BK148.out) hb); have n1_ := Aside0.mk (below_step (by repeat (first | (with_reducible first | exact HB.out | apply below_alloc | apply pw_below_drewN | apply below_drew1 | refine below_set ?_ GE148.out) | exact HB.out)) hb); have n2_ := Aside0.mk (hbox); have n3_ := Aside0.mk ((by rw [hg]; exact (below_size (by repeat (first | (with_reducible first | exact HB.out | apply below_alloc | apply pw_below_drewN | apply below_drew1 | refine below_set ?_ GE148.out) | exact HB.out))) : w.heap.size ≤ gb150)); have n4_ := Aside0.mk ((by rw [hg]; exact (below_size (by repeat (first | (with_reducible first | exact HB.out | apply below_alloc | apply pw_below_drewN | apply below_drew1 | refine below_set ?_ GE148.out) | exact HB.out))) : w.heap.size ≤ gb150)); have n5_ := Aside0.mk ((by rw [hg]; exact Nat.ne_of_lt (blk_lt (g := gb148) (o := .cells #[.int .i64 a0_0, .int .i64 a0_1, .slice (some ad149) l0_2.length c0_2] 40 (0, 0)) (by (with_reducible repeat (first | refine blk_drewN ?_ _ | refine blk_drew ?_ | refine blk_alloc ?_ _)); exact BK148.out)) : gb148 ≠ gb150)); have n6_ := Aside0.mk ((by rw [hg]; exact Nat.ne_of_gt (blk_lt (g := gb148) (o := .cells #[.int .i64 a0_0, .int .i64 a0_1, .slice (some ad149) l0_2.length c0_2] 40 (0, 0)) (by (with_reducible repeat (first | refine blk_drewN ?_ _ | refine blk_drew ?_ | refine blk_alloc ?_ _)); exact BK148.out)) : gb150 ≠ gb148)); clear BK148; clear HB; have BK148 := n0_; have HB := n1_; have BK150 := n2_; have GW150 := n3_; have GE150 := n4_; have NB148_150 := n5_; have NB150_148 := n6_; clear n0_ n1_ n2_ n3_ n4_ n5_ n6_; clear hb hbox hg; have hnb29 := NB150_148.out; have hnc29 := NB148_150.out; have hcz30_0 : w28.cell? ⟨gb150, 0, none⟩ = some (.string (⟨#[]⟩ : ByteArray)) := (blk_cell BK150.out 0).trans rfl; have hcz30_1 : w28.cell? ⟨gb150, 1, none⟩ = some (.int .i64 0) := (blk_cell BK150.out 1).trans rfl; have hcz30_2 : w28.cell? ⟨gb150, 2, none⟩ = some (.int .i64 0) := (blk_cell BK150.out 2).trans rfl; have hfz30_0 := blk_frozen BK150.out 0; have hfz30_1 := blk_frozen BK150.out 1; have hfz30_2 := blk_frozen BK150.out 2))
                    repeat (go_quiet (first | ((with_reducible refine gate_dst (N := 6) rfl ?_); (try (refine gate_guard (by rfl) ?_; dsimp only)); refine box_event ?hg (N := 6) ?hd (cs := #[.string (⟨#[]⟩ : ByteArray), .int .i64 0, .int .i64 0]) (t := 46) ?hr ?_; (case hd => rfl); (case hg => rfl); (case hr => first | (go_simp; done) | (go_simp; rfl)); intro gb150 hg w28 hbox hb; have n0_ := Aside0.mk (blk_below (g := gb148) (o := .cells #[.int .i64 a0_0, .int .i64 a0_1, .slice (some ad149) l0_2.length c0_2] 40 (0, 0)) (by (with_reducible repeat (first | refine blk_drewN ?_ _ | refine blk_drew ?_ | refine blk_alloc ?_ _)); exact BK148.out) hb); have n1_ := Aside0.mk (below_step (by repeat (first | (with_reducible first | exact HB.out | apply below_alloc | apply pw_below_drewN | apply below_drew1 | refine below_set ?_ GE148.out) | exact HB.out)) hb); have n2_ := Aside0.mk (hbox); have n3_ := Aside0.mk ((by rw [hg]; exact (below_size (by repeat (first | (with_reducible first | exact HB.out | apply below_alloc | apply pw_below_drewN | apply below_drew1 | refine below_set ?_ GE148.out) | exact HB.out))) : w.heap.size ≤ gb150)); have n4_ := Aside0.mk ((by rw [hg]; exact (below_size (by repeat (first | (with_reducible first | exact HB.out | apply below_alloc | apply pw_below_drewN | apply below_drew1 | refine below_set ?_ GE148.out) | exact HB.out))) : w.heap.size ≤ gb150)); have n5_ := Aside0.mk ((by rw [hg]; exact Nat.ne_of_lt (blk_lt (g := gb148) (o := .cells #[.int .i64 a0_0, .int .i64 a0_1, .slice (some ad149) l0_2.length c0_2] 40 (0, 0)) (by (with_reducible repeat (first | refine blk_drewN ?_ _ | refine blk_drew ?_ | refine blk_alloc ?_ _)); exact BK148.out)) : gb148 ≠ gb150)); have n6_ := Aside0.mk ((by rw [hg]; exact Nat.ne_of_gt (blk_lt (g := gb148) (o := .cells #[.int .i64 a0_0, .int .i64 a0_1, .slice (some ad149) l0_2.length c0_2] 40 (0, 0)) (by (with_reducible repeat (first | refine blk_drewN ?_ _ | refine blk_drew ?_ | refine blk_alloc ?_ _)); exact BK148.out)) : gb150 ≠ gb148)); clear BK148; clear HB; have BK148 := n0_; have HB := n1_; have BK150 := n2_; have GW150 := n3_; have GE150 := n4_; have NB148_150 := n5_; have NB150_148 := n6_; clear n0_ n1_ n2_ n3_ n4_ n5_ n6_; clear hb hbox hg; have hnb29 := NB150_148.out; have hnc29 := NB148_150.out; have hcz30_0 : w28.cell? ⟨gb150, 0, none⟩ = some (.string (⟨#[]⟩ : ByteArray)) := (blk_cell BK150.out 0).trans rfl; have hcz30_1 : w28.cell? ⟨gb150, 1, none⟩ = some (.int .i64 0) := (blk_cell BK150.out 1).trans rfl; have hcz30_2 : w28.cell? ⟨gb150, 2, none⟩ = some (.int .i64 0) := (blk_cell BK150.out 2).trans rfl; have hfz30_0 := blk_frozen BK150.out 0; have hfz30_1 := blk_frozen BK150.out 1; have hfz30_2 := blk_frozen BK150.out 2)); try go_wp2_with (first | ((with_reducible refine gate_dst (N := 6) rfl ?_); (try (refine gate_guard (by rfl) ?_; dsimp only)); refine box_event ?hg (N := 6) ?hd (cs := #[.string (⟨#[]⟩ : ByteArray), .int .i64 0, .int .i64 0]) (t := 46) ?hr ?_; (case hd => rfl); (case hg => rfl); (case hr => first | (go_simp; done) | (go_simp; rfl)); intro gb150 hg w28 hbox hb; have n0_ := Aside0.mk (blk_below (g := gb148) (o := .cells #[.int .i64 a0_0, .int .i64 a0_1, .slice (some ad149) l0_2.length c0_2] 40 (0, 0)) (by (with_reducible repeat (first | refine blk_drewN ?_ _ | refine blk_drew ?_ | refine blk_alloc ?_ _)); exact BK148.out) hb); have n1_ := Aside0.mk (below_step (by repeat (first | (with_reducible first | exact HB.out | apply below_alloc | apply pw_below_drewN | apply below_drew1 | refine below_set ?_ GE148.out) | exact HB.out)) hb); have n2_ := Aside0.mk (hbox); have n3_ := Aside0.mk ((by rw [hg]; exact (below_size (by repeat (first | (with_reducible first | exact HB.out | apply below_alloc | apply pw_below_drewN | apply below_drew1 | refine below_set ?_ GE148.out) | exact HB.out))) : w.heap.size ≤ gb150)); have n4_ := Aside0.mk ((by rw [hg]; exact (below_size (by repeat (first | (with_reducible first | exact HB.out | apply below_alloc | apply pw_below_drewN | apply below_drew1 | refine below_set ?_ GE148.out) | exact HB.out))) : w.heap.size ≤ gb150)); have n5_ := Aside0.mk ((by rw [hg]; exact Nat.ne_of_lt (blk_lt (g := gb148) (o := .cells #[.int .i64 a0_0, .int .i64 a0_1, .slice (some ad149) l0_2.length c0_2] 40 (0, 0)) (by (with_reducible repeat (first | refine blk_drewN ?_ _ | refine blk_drew ?_ | refine blk_alloc ?_ _)); exact BK148.out)) : gb148 ≠ gb150)); have n6_ := Aside0.mk ((by rw [hg]; exact Nat.ne_of_gt (blk_lt (g := gb148) (o := .cells #[.int .i64 a0_0, .int .i64 a0_1, .slice (some ad149) l0_2.length c0_2] 40 (0, 0)) (by (with_reducible repeat (first | refine blk_drewN ?_ _ | refine blk_drew ?_ | refine blk_alloc ?_ _)); exact BK148.out)) : gb150 ≠ gb148)); clear BK148; clear HB; have BK148 := n0_; have HB := n1_; have BK150 := n2_; have GW150 := n3_; have GE150 := n4_; have NB148_150 := n5_; have NB150_148 := n6_; clear n0_ n1_ n2_ n3_ n4_ n5_ n6_; clear hb hbox hg; have hnb29 := NB150_148.out; have hnc29 := NB148_150.out; have hcz30_0 : w28.cell? ⟨gb150, 0, none⟩ = some (.string (⟨#[]⟩ : ByteArray)) := (blk_cell BK150.out 0).trans rfl; have hcz30_1 : w28.cell? ⟨gb150, 1, none⟩ = some (.int .i64 0) := (blk_cell BK150.out 1).trans rfl; have hcz30_2 : w28.cell? ⟨gb150, 2, none⟩ = some (.int .i64 0) := (blk_cell BK150.out 2).trans rfl; have hfz30_0 := blk_frozen BK150.out 0; have hfz30_1 := blk_frozen BK150.out 1; have hfz30_2 := blk_frozen BK150.out 2)))
                    go_ret
                    exact ⟨by first | rfl | (simp [errW_none, errW_some] <;> rfl) | (simp [*, errW_none, errW_some] <;> rfl), by repeat (first | (with_reducible first | exact HB.out | apply below_alloc | apply pw_below_drewN | apply below_drew1 | refine below_set ?_ GE148.out | refine below_set ?_ GE150.out) | exact HB.out)⟩
                  · rw [if_neg c26] at H
                    have c26b0 : decide (((rd_T46 l0_2 x5_1).f2) < (-2147483648)) = false := decide_eq_false c26
                    clear c26
                    by_cases c31 : ((rd_T46 l0_2 x5_1).f2) > 2147483647
                    · rw [if_pos c31] at H
                      have c31b0 : decide (2147483647 < ((rd_T46 l0_2 x5_1).f2)) = true := decide_eq_true c31
                      clear c31
                      obtain rfl := Option.some.inj H
                      have hcz32_0 : wr.cell? ⟨gb148, 0, none⟩ = some (.int .i64 a0_0) := (blk_cell BK148.out 0).trans rfl
                      have hcz32_1 : wr.cell? ⟨gb148, 1, none⟩ = some (.int .i64 a0_1) := (blk_cell BK148.out 1).trans rfl
                      have hcz32_2 : wr.cell? ⟨gb148, 2, none⟩ = some (.slice A0_2 l0_2.length c0_2) := (blk_cell BK148.out 2).trans rfl
                      have hfz32_0 := blk_frozen BK148.out 0
                      have hfz32_1 := blk_frozen BK148.out 1
                      have hfz32_2 := blk_frozen BK148.out 2
                      have p149 : 0 ≤ (x5_1 : Int) := of_decide_eq_true (by first | (with_reducible assumption) | assumption)
                      have q149 : x5_1 < (l0_2.length : Int) := of_decide_eq_true (by first | (with_reducible assumption) | assumption)
                      obtain ⟨ad149, e149, hx149_0, hx149_1, hx149_2⟩ := at_T46 HR0_2.out x5_1 p149 q149
                      cases e149
                      replace hx149_0 := (HB.out.cell (World.block_lt_of_cell? w _ hx149_0)).trans hx149_0
                      replace hx149_1 := (HB.out.cell (World.block_lt_of_cell? w _ hx149_1)).trans hx149_1
                      replace hx149_2 := (HB.out.cell (World.block_lt_of_cell? w _ hx149_2)).trans hx149_2
                      replace p149 := eq_true p149
                      replace q149 := eq_true q149
                      go_wp2_with (first | ((with_reducible refine gate_dst (N := 6) rfl ?_); (try (refine gate_guard (by rfl) ?_; dsimp only)); refine box_event ?hg (N := 6) ?hd (cs := #[.string (⟨#[]⟩ : ByteArray), .int .i64 0, .int .i64 0]) (t := 46) ?hr ?_; (case hd => rfl); (case hg => rfl); (case hr => first | (go_simp; done) | (go_simp; rfl)); intro gb150 hg w33 hbox hb; have n0_ := Aside0.mk (blk_below (g := gb148) (o := .cells #[.int .i64 a0_0, .int .i64 a0_1, .slice (some ad149) l0_2.length c0_2] 40 (0, 0)) (by (with_reducible repeat (first | refine blk_drewN ?_ _ | refine blk_drew ?_ | refine blk_alloc ?_ _)); exact BK148.out) hb); have n1_ := Aside0.mk (below_step (by repeat (first | (with_reducible first | exact HB.out | apply below_alloc | apply pw_below_drewN | apply below_drew1 | refine below_set ?_ GE148.out) | exact HB.out)) hb); have n2_ := Aside0.mk (hbox); have n3_ := Aside0.mk ((by rw [hg]; exact (below_size (by repeat (first | (with_reducible first | exact HB.out | apply below_alloc | apply pw_below_drewN | apply below_drew1 | refine below_set ?_ GE148.out) | exact HB.out))) : w.heap.size ≤ gb150)); have n4_ := Aside0.mk ((by rw [hg]; exact (below_size (by repeat (first | (with_reducible first | exact HB.out | apply below_alloc | apply pw_below_drewN | apply below_drew1 | refine below_set ?_ GE148.out) | exact HB.out))) : w.heap.size ≤ gb150)); have n5_ := Aside0.mk ((by rw [hg]; exact Nat.ne_of_lt (blk_lt (g := gb148) (o := .cells #[.int .i64 a0_0, .int .i64 a0_1, .slice (some ad149) l0_2.length c0_2] 40 (0, 0)) (by (with_reducible repeat (first | refine blk_drewN ?_ _ | refine blk_drew ?_ | refine blk_alloc ?_ _)); exact BK148.out)) : gb148 ≠ gb150)); have n6_ := Aside0.mk ((by rw [hg]; exact Nat.ne_of_gt (blk_lt (g := gb148) (o := .cells #[.int .i64 a0_0, .int .i64 a0_1, .slice (some ad149) l0_2.length c0_2] 40 (0, 0)) (by (with_reducible repeat (first | refine blk_drewN ?_ _ | refine blk_drew ?_ | refine blk_alloc ?_ _)); exact BK148.out)) : gb150 ≠ gb148)); clear BK148; clear HB; have BK148 := n0_; have HB := n1_; have BK150 := n2_; have GW150 := n3_; have GE150 := n4_; have NB148_150 := n5_; have NB150_148 := n6_; clear n0_ n1_ n2_ n3_ n4_ n5_ n6_; clear hb hbox hg; have hnb34 := NB150_148.out; have hnc34 := NB148_150.out; have hcz35_0 : w33.cell? ⟨gb150, 0, none⟩ = some (.string (⟨#[]⟩ : ByteArray)) := (blk_cell BK150.out 0).trans rfl; have hcz35_1 : w33.cell? ⟨gb150, 1, none⟩ = some (.int .i64 0) := (blk_cell BK150.out 1).trans rfl; have hcz35_2 : w33.cell? ⟨gb150, 2, none⟩ = some (.int .i64 0) := (blk_cell BK150.out 2).trans rfl; have hfz35_0 := blk_frozen BK150.out 0; have hfz35_1 := blk_frozen BK150.out 1; have hfz35_2 := blk_frozen BK150.out 2))
                      repeat (go_quiet (first | ((with_reducible refine gate_dst (N := 6) rfl ?_); (try (refine gate_guard (by rfl) ?_; dsimp only)); refine box_event ?hg (N := 6) ?hd (cs := #[.string (⟨#[]⟩ : ByteArray), .int .i64 0, .int .i64 0]) (t := 46) ?hr ?_; (case hd => rfl); (case hg => rfl); (case hr => first | (go_simp; done) | (go_simp; rfl)); intro gb150 hg w33 hbox hb; have n0_ := Aside0.mk (blk_below (g := gb148) (o := .cells #[.int .i64 a0_0, .int .i64 a0_1, .slice (some ad149) l0_2.length c0_2] 40 (0, 0)) (by (with_reducible repeat (first | refine blk_drewN ?_ _ | refine blk_drew ?_ | refine blk_alloc ?_ _)); exact BK148.out) hb); have n1_ := Aside0.mk (below_step (by repeat (first | (with_reducible first | exact HB.out | apply below_alloc | apply pw_below_drewN | apply below_drew1 | refine below_set ?_ GE148.out) | exact HB.out)) hb); have n2_ := Aside0.mk (hbox); have n3_ := Aside0.mk ((by rw [hg]; exact (below_size (by repeat (first | (with_reducible first | exact HB.out | apply below_alloc | apply pw_below_drewN | apply below_drew1 | refine below_set ?_ GE148.out) | exact HB.out))) : w.heap.size ≤ gb150)); have n4_ := Aside0.mk ((by rw [hg]; exact (below_size (by repeat (first | (with_reducible first | exact HB.out | apply below_alloc | apply pw_below_drewN | apply below_drew1 | refine below_set ?_ GE148.out) | exact HB.out))) : w.heap.size ≤ gb150)); have n5_ := Aside0.mk ((by rw [hg]; exact Nat.ne_of_lt (blk_lt (g := gb148) (o := .cells #[.int .i64 a0_0, .int .i64 a0_1, .slice (some ad149) l0_2.length c0_2] 40 (0, 0)) (by (with_reducible repeat (first | refine blk_drewN ?_ _ | refine blk_drew ?_ | refine blk_alloc ?_ _)); exact BK148.out)) : gb148 ≠ gb150)); have n6_ := Aside0.mk ((by rw [hg]; exact Nat.ne_of_gt (blk_lt (g := gb148) (o := .cells #[.int .i64 a0_0, .int .i64 a0_1, .slice (some ad149) l0_2.length c0_2] 40 (0, 0)) (by (with_reducible repeat (first | refine blk_drewN ?_ _ | refine blk_drew ?_ | refine blk_alloc ?_ _)); exact BK148.out)) : gb150 ≠ gb148)); clear BK148; clear HB; have BK148 := n0_; have HB := n1_; have BK150 := n2_; have GW150 := n3_; have GE150 := n4_; have NB148_150 := n5_; have NB150_148 := n6_; clear n0_ n1_ n2_ n3_ n4_ n5_ n6_; clear hb hbox hg; have hnb34 := NB150_148.out; have hnc34 := NB148_150.out; have hcz35_0 : w33.cell? ⟨gb150, 0, none⟩ = some (.string (⟨#[]⟩ : ByteArray)) := (blk_cell BK150.out 0).trans rfl; have hcz35_1 : w33.cell? ⟨gb150, 1, none⟩ = some (.int .i64 0) := (blk_cell BK150.out 1).trans rfl; have hcz35_2 : w33.cell? ⟨gb150, 2, none⟩ = some (.int .i64 0) := (blk_cell BK150.out 2).trans rfl; have hfz35_0 := blk_frozen BK150.out 0; have hfz35_1 := blk_frozen BK150.out 1; have hfz35_2 := blk_frozen BK150.out 2)); try go_wp2_with (first | ((with_reducible refine gate_dst (N := 6) rfl ?_); (try (refine gate_guard (by rfl) ?_; dsimp only)); refine box_event ?hg (N := 6) ?hd (cs := #[.string (⟨#[]⟩ : ByteArray), .int .i64 0, .int .i64 0]) (t := 46) ?hr ?_; (case hd => rfl); (case hg => rfl); (case hr => first | (go_simp; done) | (go_simp; rfl)); intro gb150 hg w33 hbox hb; have n0_ := Aside0.mk (blk_below (g := gb148) (o := .cells #[.int .i64 a0_0, .int .i64 a0_1, .slice (some ad149) l0_2.length c0_2] 40 (0, 0)) (by (with_reducible repeat (first | refine blk_drewN ?_ _ | refine blk_drew ?_ | refine blk_alloc ?_ _)); exact BK148.out) hb); have n1_ := Aside0.mk (below_step (by repeat (first | (with_reducible first | exact HB.out | apply below_alloc | apply pw_below_drewN | apply below_drew1 | refine below_set ?_ GE148.out) | exact HB.out)) hb); have n2_ := Aside0.mk (hbox); have n3_ := Aside0.mk ((by rw [hg]; exact (below_size (by repeat (first | (with_reducible first | exact HB.out | apply below_alloc | apply pw_below_drewN | apply below_drew1 | refine below_set ?_ GE148.out) | exact HB.out))) : w.heap.size ≤ gb150)); have n4_ := Aside0.mk ((by rw [hg]; exact (below_size (by repeat (first | (with_reducible first | exact HB.out | apply below_alloc | apply pw_below_drewN | apply below_drew1 | refine below_set ?_ GE148.out) | exact HB.out))) : w.heap.size ≤ gb150)); have n5_ := Aside0.mk ((by rw [hg]; exact Nat.ne_of_lt (blk_lt (g := gb148) (o := .cells #[.int .i64 a0_0, .int .i64 a0_1, .slice (some ad149) l0_2.length c0_2] 40 (0, 0)) (by (with_reducible repeat (first | refine blk_drewN ?_ _ | refine blk_drew ?_ | refine blk_alloc ?_ _)); exact BK148.out)) : gb148 ≠ gb150)); have n6_ := Aside0.mk ((by rw [hg]; exact Nat.ne_of_gt (blk_lt (g := gb148) (o := .cells #[.int .i64 a0_0, .int .i64 a0_1, .slice (some ad149) l0_2.length c0_2] 40 (0, 0)) (by (with_reducible repeat (first | refine blk_drewN ?_ _ | refine blk_drew ?_ | refine blk_alloc ?_ _)); exact BK148.out)) : gb150 ≠ gb148)); clear BK148; clear HB; have BK148 := n0_; have HB := n1_; have BK150 := n2_; have GW150 := n3_; have GE150 := n4_; have NB148_150 := n5_; have NB150_148 := n6_; clear n0_ n1_ n2_ n3_ n4_ n5_ n6_; clear hb hbox hg; have hnb34 := NB150_148.out; have hnc34 := NB148_150.out; have hcz35_0 : w33.cell? ⟨gb150, 0, none⟩ = some (.string (⟨#[]⟩ : ByteArray)) := (blk_cell BK150.out 0).trans rfl; have hcz35_1 : w33.cell? ⟨gb150, 1, none⟩ = some (.int .i64 0) := (blk_cell BK150.out 1).trans rfl; have hcz35_2 : w33.cell? ⟨gb150, 2, none⟩ = some (.int .i64 0) := (blk_cell BK150.out 2).trans rfl; have hfz35_0 := blk_frozen BK150.out 0; have hfz35_1 := blk_frozen BK150.out 1; have hfz35_2 := blk_frozen BK150.out 2)))
                      go_ret
                      exact ⟨by first | rfl | (simp [errW_none, errW_some] <;> rfl) | (simp [*, errW_none, errW_some] <;> rfl), by repeat (first | (with_reducible first | exact HB.out | apply below_alloc | apply pw_below_drewN | apply below_drew1 | refine below_set ?_ GE148.out | refine below_set ?_ GE150.out) | exact HB.out)⟩
                    · rw [if_neg c31] at H
                      have c31b0 : decide (2147483647 < ((rd_T46 l0_2 x5_1).f2)) = false := decide_eq_false c31
                      clear c31
                      have H' := Aside0.mk H
                      clear H
                      have hcz36_0 : wr.cell? ⟨gb148, 0, none⟩ = some (.int .i64 a0_0) := (blk_cell BK148.out 0).trans rfl
                      have hcz36_1 : wr.cell? ⟨gb148, 1, none⟩ = some (.int .i64 a0_1) := (blk_cell BK148.out 1).trans rfl
                      have hcz36_2 : wr.cell? ⟨gb148, 2, none⟩ = some (.slice A0_2 l0_2.length c0_2) := (blk_cell BK148.out 2).trans rfl
                      have hfz36_0 := blk_frozen BK148.out 0
                      have hfz36_1 := blk_frozen BK148.out 1
                      have hfz36_2 := blk_frozen BK148.out 2
                      have p149 : 0 ≤ (x5_1 : Int) := of_decide_eq_true (by first | (with_reducible assumption) | assumption)
                      have q149 : x5_1 < (l0_2.length : Int) := of_decide_eq_true (by first | (with_reducible assumption) | assumption)
                      obtain ⟨ad149, e149, hx149_0, hx149_1, hx149_2⟩ := at_T46 HR0_2.out x5_1 p149 q149
                      cases e149
                      replace hx149_0 := (HB.out.cell (World.block_lt_of_cell? w _ hx149_0)).trans hx149_0
                      replace hx149_1 := (HB.out.cell (World.block_lt_of_cell? w _ hx149_1)).trans hx149_1
                      replace hx149_2 := (HB.out.cell (World.block_lt_of_cell? w _ hx149_2)).trans hx149_2
                      replace p149 := eq_true p149
                      replace q149 := eq_true q149
                      go_wp2_with (first | ((with_reducible refine gate_dst (N := 6) rfl ?_); (try (refine gate_guard (by rfl) ?_; dsimp only)); refine box_event ?hg (N := 6) ?hd (cs := #[.string (⟨#[]⟩ : ByteArray), .int .i64 0, .int .i64 0]) (t := 46) ?hr ?_; (case hd => rfl); (case hg => rfl); (case hr => first | (go_simp; done) | (go_simp; rfl)); intro gb150 hg w37 hbox hb; have n0_ := Aside0.mk (blk_below (g := gb148) (o := .cells #[.int .i64 a0_0, .int .i64 a0_1, .slice (some ad149) l0_2.length c0_2] 40 (0, 0)) (by (with_reducible repeat (first | refine blk_drewN ?_ _ | refine blk_drew ?_ | refine blk_alloc ?_ _)); exact BK148.out) hb); have n1_ := Aside0.mk (below_step (by repeat (first | (with_reducible first | exact HB.out | apply below_alloc | apply pw_below_drewN | apply below_drew1 | refine below_set ?_ GE148.out) | exact HB.out)) hb); have n2_ := Aside0.mk (hbox); have n3_ := Aside0.mk ((by rw [hg]; exact (below_size (by repeat (first | (with_reducible first | exact HB.out | apply below_alloc | apply pw_below_drewN | apply below_drew1 | refine below_set ?_ GE148.out) | exact HB.out))) : w.heap.size ≤ gb150)); have n4_ := Aside0.mk ((by rw [hg]; exact (below_size (by repeat (first | (with_reducible first | exact HB.out | apply below_alloc | apply pw_below_drewN | apply below_drew1 | refine below_set ?_ GE148.out) | exact HB.out))) : w.heap.size ≤ gb150)); have n5_ := Aside0.mk ((by rw [hg]; exact Nat.ne_of_lt (blk_lt (g := gb148) (o := .cells #[.int .i64 a0_0, .int .i64 a0_1, .slice (some ad149) l0_2.length c0_2] 40 (0, 0)) (by (with_reducible repeat (first | refine blk_drewN ?_ _ | refine blk_drew ?_ | refine blk_alloc ?_ _)); exact BK148.out)) : gb148 ≠ gb150)); have n6_ := Aside0.mk ((by rw [hg]; exact Nat.ne_of_gt (blk_lt (g := gb148) (o := .cells #[.int .i64 a0_0, .int .i64 a0_1, .slice (some ad149) l0_2.length c0_2] 40 (0, 0)) (by (with_reducible repeat (first | refine blk_drewN ?_ _ | refine blk_drew ?_ | refine blk_alloc ?_ _)); exact BK148.out)) : gb150 ≠ gb148)); clear BK148; clear HB; have BK148 := n0_; have HB := n1_; have BK150 := n2_; have GW150 := n3_; have GE150 := n4_; have NB148_150 := n5_; have NB150_148 := n6_; clear n0_ n1_ n2_ n3_ n4_ n5_ n6_; clear hb hbox hg; have hnb38 := NB150_148.out; have hnc38 := NB148_150.out; have hcz39_0 : w37.cell? ⟨gb150, 0, none⟩ = some (.string (⟨#[]⟩ : ByteArray)) := (blk_cell BK150.out 0).trans rfl; have hcz39_1 : w37.cell? ⟨gb150, 1, none⟩ = some (.int .i64 0) := (blk_cell BK150.out 1).trans rfl; have hcz39_2 : w37.cell? ⟨gb150, 2, none⟩ = some (.int .i64 0) := (blk_cell BK150.out 2).trans rfl; have hfz39_0 := blk_frozen BK150.out 0; have hfz39_1 := blk_frozen BK150.out 1; have hfz39_2 := blk_frozen BK150.out 2))
                      repeat (go_quiet (first | ((with_reducible refine gate_dst (N := 6) rfl ?_); (try (refine gate_guard (by rfl) ?_; dsimp only)); refine box_event ?hg (N := 6) ?hd (cs := #[.string (⟨#[]⟩ : ByteArray), .int .i64 0, .int .i64 0]) (t := 46) ?hr ?_; (case hd => rfl); (case hg => rfl); (case hr => first | (go_simp; done) | (go_simp; rfl)); intro gb150 hg w37 hbox hb; have n0_ := Aside0.mk (blk_below (g := gb148) (o := .cells #[.int .i64 a0_0, .int .i64 a0_1, .slice (some ad149) l0_2.length c0_2] 40 (0, 0)) (by (with_reducible repeat (first | refine blk_drewN ?_ _ | refine blk_drew ?_ | refine blk_alloc ?_ _)); exact BK148.out) hb); have n1_ := Aside0.mk (below_step (by repeat (first | (with_reducible first | exact HB.out | apply below_alloc | apply pw_below_drewN | apply below_drew1 | refine below_set ?_ GE148.out) | exact HB.out)) hb); have n2_ := Aside0.mk (hbox); have n3_ := Aside0.mk ((by rw [hg]; exact (below_size (by repeat (first | (with_reducible first | exact HB.out | apply below_alloc | apply pw_below_drewN | apply below_drew1 | refine below_set ?_ GE148.out) | exact HB.out))) : w.heap.size ≤ gb150)); have n4_ := Aside0.mk ((by rw [hg]; exact (below_size (by repeat (first | (with_reducible first | exact HB.out | apply below_alloc | apply pw_below_drewN | apply below_drew1 | refine below_set ?_ GE148.out) | exact HB.out))) : w.heap.size ≤ gb150)); have n5_ := Aside0.mk ((by rw [hg]; exact Nat.ne_of_lt (blk_lt (g := gb148) (o := .cells #[.int .i64 a0_0, .int .i64 a0_1, .slice (some ad149) l0_2.length c0_2] 40 (0, 0)) (by (with_reducible repeat (first | refine blk_drewN ?_ _ | refine blk_drew ?_ | refine blk_alloc ?_ _)); exact BK148.out)) : gb148 ≠ gb150)); have n6_ := Aside0.mk ((by rw [hg]; exact Nat.ne_of_gt (blk_lt (g := gb148) (o := .cells #[.int .i64 a0_0, .int .i64 a0_1, .slice (some ad149) l0_2.length c0_2] 40 (0, 0)) (by (with_reducible repeat (first | refine blk_drewN ?_ _ | refine blk_drew ?_ | refine blk_alloc ?_ _)); exact BK148.out)) : gb150 ≠ gb148)); clear BK148; clear HB; have BK148 := n0_; have HB := n1_; have BK150 := n2_; have GW150 := n3_; have GE150 := n4_; have NB148_150 := n5_; have NB150_148 := n6_; clear n0_ n1_ n2_ n3_ n4_ n5_ n6_; clear hb hbox hg; have hnb38 := NB150_148.out; have hnc38 := NB148_150.out; have hcz39_0 : w37.cell? ⟨gb150, 0, none⟩ = some (.string (⟨#[]⟩ : ByteArray)) := (blk_cell BK150.out 0).trans rfl; have hcz39_1 : w37.cell? ⟨gb150, 1, none⟩ = some (.int .i64 0) := (blk_cell BK150.out 1).trans rfl; have hcz39_2 : w37.cell? ⟨gb150, 2, none⟩ = some (.int .i64 0) := (blk_cell BK150.out 2).trans rfl; have hfz39_0 := blk_frozen BK150.out 0; have hfz39_1 := blk_frozen BK150.out 1; have hfz39_2 := blk_frozen BK150.out 2)); try go_wp2_with (first | ((with_reducible refine gate_dst (N := 6) rfl ?_); (try (refine gate_guard (by rfl) ?_; dsimp only)); refine box_event ?hg (N := 6) ?hd (cs := #[.string (⟨#[]⟩ : ByteArray), .int .i64 0, .int .i64 0]) (t := 46) ?hr ?_; (case hd => rfl); (case hg => rfl); (case hr => first | (go_simp; done) | (go_simp; rfl)); intro gb150 hg w37 hbox hb; have n0_ := Aside0.mk (blk_below (g := gb148) (o := .cells #[.int .i64 a0_0, .int .i64 a0_1, .slice (some ad149) l0_2.length c0_2] 40 (0, 0)) (by (with_reducible repeat (first | refine blk_drewN ?_ _ | refine blk_drew ?_ | refine blk_alloc ?_ _)); exact BK148.out) hb); have n1_ := Aside0.mk (below_step (by repeat (first | (with_reducible first | exact HB.out | apply below_alloc | apply pw_below_drewN | apply below_drew1 | refine below_set ?_ GE148.out) | exact HB.out)) hb); have n2_ := Aside0.mk (hbox); have n3_ := Aside0.mk ((by rw [hg]; exact (below_size (by repeat (first | (with_reducible first | exact HB.out | apply below_alloc | apply pw_below_drewN | apply below_drew1 | refine below_set ?_ GE148.out) | exact HB.out))) : w.heap.size ≤ gb150)); have n4_ := Aside0.mk ((by rw [hg]; exact (below_size (by repeat (first | (with_reducible first | exact HB.out | apply below_alloc | apply pw_below_drewN | apply below_drew1 | refine below_set ?_ GE148.out) | exact HB.out))) : w.heap.size ≤ gb150)); have n5_ := Aside0.mk ((by rw [hg]; exact Nat.ne_of_lt (blk_lt (g := gb148) (o := .cells #[.int .i64 a0_0, .int .i64 a0_1, .slice (some ad149) l0_2.length c0_2] 40 (0, 0)) (by (with_reducible repeat (first | refine blk_drewN ?_ _ | refine blk_drew ?_ | refine blk_alloc ?_ _)); exact BK148.out)) : gb148 ≠ gb150)); have n6_ := Aside0.mk ((by rw [hg]; exact Nat.ne_of_gt (blk_lt (g := gb148) (o := .cells #[.int .i64 a0_0, .int .i64 a0_1, .slice (some ad149) l0_2.length c0_2] 40 (0, 0)) (by (with_reducible repeat (first | refine blk_drewN ?_ _ | refine blk_drew ?_ | refine blk_alloc ?_ _)); exact BK148.out)) : gb150 ≠ gb148)); clear BK148; clear HB; have BK148 := n0_; have HB := n1_; have BK150 := n2_; have GW150 := n3_; have GE150 := n4_; have NB148_150 := n5_; have NB150_148 := n6_; clear n0_ n1_ n2_ n3_ n4_ n5_ n6_; clear hb hbox hg; have hnb38 := NB150_148.out; have hnc38 := NB148_150.out; have hcz39_0 : w37.cell? ⟨gb150, 0, none⟩ = some (.string (⟨#[]⟩ : ByteArray)) := (blk_cell BK150.out 0).trans rfl; have hcz39_1 : w37.cell? ⟨gb150, 1, none⟩ = some (.int .i64 0) := (blk_cell BK150.out 1).trans rfl; have hcz39_2 : w37.cell? ⟨gb150, 2, none⟩ = some (.int .i64 0) := (blk_cell BK150.out 2).trans rfl; have hfz39_0 := blk_frozen BK150.out 0; have hfz39_1 := blk_frozen BK150.out 1; have hfz39_2 := blk_frozen BK150.out 2)))
                      go_roundg k1
                      case measure => have := HK1.out; omega
                      case rel => exact ⟨(wrap64 (x5_1 + 1)), (by first | rfl | (simp; done) | (simp [*]; done)), H', ⟨by have := HK1.out; omega⟩, ⟨by (with_reducible repeat (first | refine blk_drewN ?_ _ | refine blk_drew ?_ | refine blk_alloc ?_ _)); refine blk_far ?_ NB148_150.out _; (with_reducible repeat (first | refine blk_drewN ?_ _ | refine blk_drew ?_ | refine blk_alloc ?_ _)); refine blk_far ?_ NB148_150.out _; (with_reducible repeat (first | refine blk_drewN ?_ _ | refine blk_drew ?_ | refine blk_alloc ?_ _)); refine blk_far ?_ NB148_150.out _; (with_reducible repeat (first | refine blk_drewN ?_ _ | refine blk_drew ?_ | refine blk_alloc ?_ _)); exact BK148.out⟩, ⟨by repeat (first | (with_reducible first | exact HB.out | apply below_alloc | apply pw_below_drewN | apply below_drew1 | refine below_set ?_ GE148.out | refine below_set ?_ GE150.out) | exact HB.out)⟩⟩
        · rw [if_neg c5] at H
          exact absurd H (by simp)
      · rw [if_neg c4] at H
        have c4b0 : decide (x5_1 < (l0_2.length : Int)) = false := decide_eq_false c4
        clear c4
        have H' := Aside0.mk H
        clear H
        have hcz40_0 : wr.cell? ⟨gb148, 0, none⟩ = some (.int .i64 a0_0) := (blk_cell BK148.out 0).trans rfl
        have hcz40_1 : wr.cell? ⟨gb148, 1, none⟩ = some (.int .i64 a0_1) := (blk_cell BK148.out 1).trans rfl
        have hcz40_2 : wr.cell? ⟨gb148, 2, none⟩ = some (.slice A0_2 l0_2.length c0_2) := (blk_cell BK148.out 2).trans rfl
        have hfz40_0 := blk_frozen BK148.out 0
        have hfz40_1 := blk_frozen BK148.out 1
        have hfz40_2 := blk_frozen BK148.out 2
        go_wp2
        repeat (go_quiet (fail); try go_wp2)
        go_loopg [7, 8] k1 (fun kq v7 v8 w' => ∃ (x7_2 : Bool) (x8_2 : Int), v7 = .bool x7_2 ∧ v8 = .int .i64 x8_2 ∧ Aside0 (rosetteref15_one.l1 kq l1 x7_2 x8_2 a0_0 a0_1 l0_2 = some r) ∧ Aside0 (kq ≤ k1) ∧ Aside0 (w'.heap[gb148]? = some (.cells #[.int .i64 a0_0, .int .i64 a0_1, (.slice A0_2 l0_2.length c0_2)] 40 (0, 0))) ∧ Aside0 (Below w.heap.size w w'))
        case atStart => exact ⟨(false), (0), (by first | rfl | (simp; done) | (simp [*]; done)), (by first | rfl | (simp; done) | (simp [*]; done)), H', ⟨Nat.le_refl _⟩, ⟨by (with_reducible repeat (first | refine blk_drewN ?_ _ | refine blk_drew ?_ | refine blk_alloc ?_ _)); exact BK148.out⟩, ⟨by repeat (first | (with_reducible first | exact HB.out | apply below_alloc | apply pw_below_drewN | apply below_drew1 | refine below_set ?_ GE148.out) | exact HB.out)⟩⟩
        case round =>
          clear H'
          try clear c1
          try clear p1
          try clear q1
          try clear hx1
          try clear c2
          try clear p2
          try clear c3
          try clear c4
          try clear c4b0
          try clear c5
          try clear c5b0
          try clear c6
          try clear c6b0
          try clear c6b1
          try clear p6
          try clear c9
          try clear c11
          try clear c11b0
          try clear c11b1
          try clear c14
          try clear p14
          try clear q14
          try clear hx14
          try clear c16
          try clear c16b0
          try clear c19
          try clear c21
          try clear c21b0
          try clear c24
          try clear c26
          try clear c26b0
          try clear c29
          try clear c31
          try clear c31b0
          try clear c34
          try clear c38
          try clear c39
          try clear hcz10_0
          try clear hcz10_1
          try clear hcz10_2
          try clear hcz12_0
          try clear hcz12_1
          try clear hcz12_2
          try clear hcz15_0
          try clear hcz15_1
          try clear hcz15_2
          try clear hcz17_0
          try clear hcz17_1
          try clear hcz17_2
          try clear hcz20_0
          try clear hcz20_1
          try clear hcz20_2
          try clear hcz22_0
          try clear hcz22_1
          try clear hcz22_2
          try clear hcz25_0
          try clear hcz25_1
          try clear hcz25_2
          try clear hcz27_0
          try clear hcz27_1
          try clear hcz27_2
          try clear hcz30_0
          try clear hcz30_1
          try clear hcz30_2
          try clear hcz32_0
          try clear hcz32_1
          try clear hcz32_2
          try clear hcz35_0
          try clear hcz35_1
          try clear hcz35_2
          try clear hcz36_0
          try clear hcz36_1
          try clear hcz36_2
          try clear hcz39_0
          try clear hcz39_1
          try clear hcz39_2
          try clear hcz40_0
          try clear hcz40_1
          try clear hcz40_2
          try clear hcz7_0
          try clear hcz7_1
          try clear hcz7_2
          try clear hfz10_0
          try clear hfz10_1
          try clear hfz10_2
          try clear hfz12_0
          try clear hfz12_1
          try clear hfz12_2
          try clear hfz15_0
          try clear hfz15_1
          try clear hfz15_2
          try clear hfz17_0
          try clear hfz17_1
          try clear hfz17_2
          try clear hfz20_0
          try clear hfz20_1
          try clear hfz20_2
          try clear hfz22_0
          try clear hfz22_1
          try clear hfz22_2
          try clear hfz25_0
          try clear hfz25_1
          try clear hfz25_2
          try clear hfz27_0
          try clear hfz27_1
          try clear hfz27_2
          try clear hfz30_0
          try clear hfz30_1
          try clear hfz30_2
          try clear hfz32_0
          try clear hfz32_1
          try clear hfz32_2
          try clear hfz35_0
          try clear hfz35_1
          try clear hfz35_2
          try clear hfz36_0
          try clear hfz36_1
          try clear hfz36_2
          try clear hfz39_0
          try clear hfz39_1
          try clear hfz39_2
          try clear hfz40_0
          try clear hfz40_1
          try clear hfz40_2
          try clear hfz7_0
          try clear hfz7_1
          try clear hfz7_2
          try clear hx149_0
          try clear hx149_1
          try clear hx149_2
          try clear p149
          try clear p2
          try clear q149
          obtain ⟨x7_2, x8_2, rfl, rfl, HA, HK2, BK148, HB⟩ := hrel
          cases gk with
          | zero => exact absurd HA.out (by simp [rosetteref15_one.l1])
          | succ k2 =>
            have H := HA.out
            clear HA
            simp only [rosetteref15_one.l1] at H
            by_cases c41 : x8_2 < (l1.length : Int)
            · rw [if_pos c41] at H
              have c41b0 : decide (x8_2 < (l1.length : Int)) = true := decide_eq_true c41
              clear c41
              by_cases c42 : x7_2 = true
              · subst c42
                have H1 : (rosetteref15_one.l1 k2 l1 true (wrap64 (x8_2 + 1)) a0_0 a0_1 l0_2) = some r := by rw [if_pos rfl] at H; exact H
                clear H
                have H := H1
                clear H1
                have H' := Aside0.mk H
                clear H
                go_wp2
                repeat (go_quiet (fail); try go_wp2)
                go_roundg k2
                case measure => have := HK1.out; have := HK2.out; omega
                case rel => exact ⟨(true), (wrap64 (x8_2 + 1)), (by first | rfl | (simp; done) | (simp [*]; done)), (by first | rfl | (simp; done) | (simp [*]; done)), H', ⟨by have := HK1.out; have := HK2.out; omega⟩, ⟨by (with_reducible repeat (first | refine blk_drewN ?_ _ | refine blk_drew ?_ | refine blk_alloc ?_ _)); exact BK148.out⟩, ⟨by repeat (first | (with_reducible first | exact HB.out | apply below_alloc | apply pw_below_drewN | apply below_drew1 | refine below_set ?_ GE148.out) | exact HB.out)⟩⟩
              · replace c42 := Bool.eq_false_iff.mpr c42
                subst c42
                have H1 : (if 0 ≤ x8_2 then (rosetteref15_one.l1 k2 l1 ((rd l1 x8_2) == a0_1) (wrap64 (x8_2 + 1)) a0_0 a0_1 l0_2) else (none)) = some r := by rw [if_neg (show ¬ (false = true) by decide)] at H; exact H
                clear H
                have H := H1
                clear H1
                by_cases c43 : 0 ≤ x8_2
                · rw [if_pos c43] at H
                  have c43b0 : decide (0 ≤ x8_2) = true := decide_eq_true c43
                  clear c43
                  have H' := Aside0.mk H
                  clear H
                  have p151 : 0 ≤ (x8_2 : Int) := of_decide_eq_true (by first | (with_reducible assumption) | assumption)
                  have q151 : x8_2 < (l1.length : Int) := of_decide_eq_true (by first | (with_reducible assumption) | assumption)
                  obtain ⟨ad151, e151, hx151_0⟩ := Kd.at_int HR1.out x8_2 p151 q151
                  cases e151
                  replace hx151_0 := (HB.out.cell (World.block_lt_of_cell? w _ hx151_0)).trans hx151_0
                  replace p151 := eq_true p151
                  replace q151 := eq_true q151
                  have hcz44_0 : wr.cell? ⟨gb148, 0, none⟩ = some (.int .i64 a0_0) := (blk_cell BK148.out 0).trans rfl
                  have hcz44_1 : wr.cell? ⟨gb148, 1, none⟩ = some (.int .i64 a0_1) := (blk_cell BK148.out 1).trans rfl
                  have hcz44_2 : wr.cell? ⟨gb148, 2, none⟩ = some (.slice A0_2 l0_2.length c0_2) := (blk_cell BK148.out 2).trans rfl
                  have hfz44_0 := blk_frozen BK148.out 0
                  have hfz44_1 := blk_frozen BK148.out 1
                  have hfz44_2 := blk_frozen BK148.out 2
                  go_wp2
                  repeat (go_quiet (fail); try go_wp2)
                  go_roundg k2
                  case measure => have := HK1.out; have := HK2.out; omega
                  case rel => exact ⟨(((rd l1 x8_2) == a0_1)), (wrap64 (x8_2 + 1)), (by first | rfl | (simp; done) | (simp [*]; done)), (by first | rfl | (simp; done) | (simp [*]; done)), H', ⟨by have := HK1.out; have := HK2.out; omega⟩, ⟨by (with_reducible repeat (first | refine blk_drewN ?_ _ | refine blk_drew ?_ | refine blk_alloc ?_ _)); exact BK148.out⟩, ⟨by repeat (first | (with_reducible first | exact HB.out | apply below_alloc | apply pw_below_drewN | apply below_drew1 | refine below_set ?_ GE148.out) | exact HB.out)⟩⟩
                · rw [if_neg c43] at H
                  exact absurd H (by simp)
            · rw [if_neg c41] at H
              have c41b0 : decide (x8_2 < (l1.length : Int)) = false := decide_eq_false c41
              clear c41
              by_cases c45 : x7_2 = true
              · subst c45
                have H1 : (some (decide ((l0_2.length : Int) ≤ 12))) = some r := by rw [if_pos rfl] at H; exact H
                clear H
                have H := H1
                clear H1
                obtain rfl := Option.some.inj H
                have hcz46_0 : wr.cell? ⟨gb148, 0, none⟩ = some (.int .i64 a0_0) := (blk_cell BK148.out 0).trans rfl
                have hcz46_1 : wr.cell? ⟨gb148, 1, none⟩ = some (.int .i64 a0_1) := (blk_cell BK148.out 1).trans rfl
                have hcz46_2 : wr.cell? ⟨gb148, 2, none⟩ = some (.slice A0_2 l0_2.length c0_2) := (blk_cell BK148.out 2).trans rfl
                have hfz46_0 := blk_frozen BK148.out 0
                have hfz46_1 := blk_frozen BK148.out 1
                have hfz46_2 := blk_frozen BK148.out 2
                go_wp2
                repeat (go_quiet (fail); try go_wp2)
                go_ret
                exact ⟨by first | rfl | (simp [errW_none, errW_some] <;> rfl) | (simp [*, errW_none, errW_some] <;> rfl), by repeat (first | (with_reducible first | exact HB.out | apply below_alloc | apply pw_below_drewN | apply below_drew1 | refine below_set ?_ GE148.out) | exact HB.out)⟩
              · replace c45 := Bool.eq_false_iff.mpr c45
                subst c45
                have H1 : (some false) = some r := by rw [if_neg (show ¬ (false = true) by decide)] at H; exact H
                clear H
                have H := H1
                clear H1
                obtain rfl := Option.some.inj H
                go_wp2
                repeat (go_quiet (fail); try go_wp2)
                go_ret
                exact ⟨by first | rfl | (simp [errW_none, errW_some] <;> rfl) | (simp [*, errW_none, errW_some] <;> rfl), by repeat (first | (with_reducible first | exact HB.out | apply below_alloc | apply pw_below_drewN | apply below_drew1 | refine below_set ?_ GE148.out) | exact HB.out)⟩

end Go.Proofs.Ytkdhcmmfklganaa.G
end

section
-- Written by a program of this session (wip/tools/myprint.py), over the kit's print.
namespace Go.Proofs.Ytkdhcmmfklganaa.G
open Go.RowKit Go.Proofs.YtkdhcmmfklganaaW.PrintWords Go.Proofs.YtkdhcmmfklganaaW.PrintLast Go.Proofs.YtkdhcmmfklganaaW.PrintMore
attribute [local go_sem] max2_int min2_int max_two min_two max_three min_three max_four min_four   -- for this text's walks alone
set_option linter.unusedVariables false
set_option linter.unusedSimpArgs false

/-! ### rosetteref15_Right: function 16 -/
mutual
def rosetteref15_Right.l0 : Nat → Int → Int → List Int → List (S40) → Option (Bool)
  | 0, _, _, _, _ => none
  | k + 1, x3, x4, x153000, x153001 => if x4 < (x153000.length : Int) then (if 0 ≤ x4 then (if (rd x153000 x4) ≤ x3 then (some false) else (if (rd x153000 x4) > 65535 then (some false) else (rosetteref15_Right.l0 k (rd x153000 x4) (wrap64 (x4 + 1)) x153000 x153001))) else (none)) else (rosetteref15_Right.l1 k 0 0 x153000 x153001)
def rosetteref15_Right.l1 : Nat → Int → Int → List Int → List (S40) → Option (Bool)
  | 0, _, _, _, _ => none
  | k + 1, x3, x5, x153000, x153001 => if x5 < (x153001.length : Int) then (if 0 ≤ x5 then ((rosetteref15_one.f k ((rd_T40 x153001 x5).f0) ((rd_T40 x153001 x5).f1) ((rd_T40 x153001 x5).f2) x153000).bind fun t157 => (if t157 = true then (if ((rd_T40 x153001 x5).f0) ≤ x3 then (some false) else (if ((rd_T40 x153001 x5).f0) > 65535 then (some false) else (rosetteref15_Right.l1 k ((rd_T40 x153001 x5).f0) (wrap64 (x5 + 1)) x153000 x153001))) else (some false))) else (none)) else (if (x153000.length : Int) ≤ 16 then (some (decide ((x153001.length : Int) ≤ 64))) else (some false))
end
def rosetteref15_Right.f (k : Nat) (l0_0 : List Int) (l0_1 : List (S40)) : Option (Bool) := rosetteref15_Right.l0 k 0 0 l0_0 l0_1
theorem rosetteref15_Right.mono_l : ∀ k, (∀ y0 y1 y2 y3, LeO (rosetteref15_Right.l0 k y0 y1 y2 y3) (rosetteref15_Right.l0 (k + 1) y0 y1 y2 y3)) ∧ (∀ y0 y1 y2 y3, LeO (rosetteref15_Right.l1 k y0 y1 y2 y3) (rosetteref15_Right.l1 (k + 1) y0 y1 y2 y3))
  | 0 => ⟨fun _ _ _ _ r h => by simp [rosetteref15_Right.l0] at h, fun _ _ _ _ r h => by simp [rosetteref15_Right.l1] at h⟩
  | k + 1 => by
    obtain ⟨ih0, ih1⟩ := rosetteref15_Right.mono_l k
    refine ⟨?_, ?_⟩
    · intro y0 y1 y2 y3
      unfold rosetteref15_Right.l0
      repeat' first
      | (with_reducible exact ih0 _ _ _ _)
      | (with_reducible exact ih1 _ _ _ _)
      | (with_reducible exact rosetteref15_one.mono _ _ _ _ _)
      | (with_reducible exact LeO.refl _)
      | (with_reducible exact LeO.none _)
      | (with_reducible refine LeO.ite ?_ ?_)
      | (with_reducible refine LeO.bind ?_ (fun _ => ?_))
      | exact ih0 _ _ _ _
      | exact ih1 _ _ _ _
      | exact rosetteref15_one.mono _ _ _ _ _
      | exact LeO.none _
      | refine LeO.ite ?_ ?_
      | refine LeO.bind ?_ (fun _ => ?_)
    · intro y0 y1 y2 y3
      unfold rosetteref15_Right.l1
      repeat' first
      | (with_reducible exact ih0 _ _ _ _)
      | (with_reducible exact ih1 _ _ _ _)
      | (with_reducible exact rosetteref15_one.mono _ _ _ _ _)
      | (with_reducible exact LeO.refl _)
      | (with_reducible exact LeO.none _)
      | (with_reducible refine LeO.ite ?_ ?_)
      | (with_reducible refine LeO.bind ?_ (fun _ => ?_))
      | exact ih0 _ _ _ _
      | exact ih1 _ _ _ _
      | exact rosetteref15_one.mono _ _ _ _ _
      | exact LeO.none _
      | refine LeO.ite ?_ ?_
      | refine LeO.bind ?_ (fun _ => ?_)
theorem rosetteref15_Right.mono : ∀ a0 a1 k, LeO (rosetteref15_Right.f k a0 a1) (rosetteref15_Right.f (k + 1) a0 a1) := by
  intro a0 a1 k
  obtain ⟨ih0, ih1⟩ := rosetteref15_Right.mono_l k
  unfold rosetteref15_Right.f
  repeat' first
      | (with_reducible exact ih0 _ _ _ _)
      | (with_reducible exact ih1 _ _ _ _)
      | (with_reducible exact rosetteref15_one.mono _ _ _ _ _)
      | (with_reducible exact LeO.refl _)
      | (with_reducible exact LeO.none _)
      | (with_reducible refine LeO.ite ?_ ?_)
      | (with_reducible refine LeO.bind ?_ (fun _ => ?_))
      | exact ih0 _ _ _ _
      | exact ih1 _ _ _ _
      | exact rosetteref15_one.mono _ _ _ _ _
      | exact LeO.none _
      | refine LeO.ite ?_ ?_
      | refine LeO.bind ?_ (fun _ => ?_)
def rosetteref15_Right.T12 : Bool × List (List Nat × List Nat) := (true, [([], []), ([0], [0]), ([], []), ([1, 2], [1, 2]), ([3], [3]), ([], []), ([5], [5]), ([4, 6], [4, 6]), ([7, 7, 0, 1, 2, 3, 4, 5, 6, 7], [7])])
def rosetteref15_Right.B12 : List Nat := [0, 1, 0, 7, 15, 0, 32, 127, 255]
theorem rosetteref15_Right.tab12 : rtab .any (opsOf Try.f16 12) = rosetteref15_Right.T12 := by kernel_rfl
theorem rosetteref15_Right.bits12 : waitsOk rosetteref15_Right.T12.2 rosetteref15_Right.B12 = true := by kernel_rfl
set_option maxHeartbeats 8000000 in
set_option maxRecDepth 100000 in
theorem rosetteref15_Right.calls (k : Nat) (A0_0 : Option Addr) (c0_0 : Nat) (l0_0 : List Int) (A0_1 : Option Addr) (c0_1 : Nat) (l0_1 : List (S40)) (r : Bool) (w : World) (hr0_0 : Kd.C (Kd.int .i64) w A0_0 l0_0.length l0_0) (hc0_0 : l0_0.length ≤ c0_0) (hr0_1 : Kd.C k40 w A0_1 l0_1.length l0_1) (hc0_1 : l0_1.length ≤ c0_1) (h : rosetteref15_Right.f k l0_0 l0_1 = some r) :
    Calls Try.prog 16 #[.agg #[.slice A0_0 l0_0.length c0_0, .slice A0_1 l0_1.length c0_1]] w fun e w' => e = .returned (.bool r) ∧ Below w.heap.size w w' := by
  have hu25 := Try.underlying25
  have hu40 := Try.underlying40
  have HR0_0 := Aside0.mk hr0_0
  have HC0_0 := Aside0.mk hc0_0
  clear hr0_0 hc0_0
  have HR0_1 := Aside0.mk hr0_1
  have HC0_1 := Aside0.mk hc0_1
  clear hr0_1 hc0_1
  have HB := Aside0.mk (Below.refl w.heap.size w)
  have H : (rosetteref15_Right.l0 k 0 0 l0_0 l0_1) = some r := h
  clear h
  have H' := Aside0.mk H
  clear H
  go_enter Try.func16, Try.ntmps16
  go_wp2_with (first | ((with_reducible refine gate_dst (N := 1) rfl ?_); (try (refine gate_guard (by rfl) ?_; dsimp only)); refine box_event ?hg (N := 1) ?hd (cs := #[.slice A0_0 l0_0.length c0_0, .slice A0_1 l0_1.length c0_1]) (t := 25) ?hr ?_; (case hd => rfl); (case hg => rfl); (case hr => first | (go_simp; done) | (go_simp; rfl)); intro gb152 hg w2 hbox hb; have n0_ := Aside0.mk (below_step (by repeat (first | (with_reducible first | exact HB.out | apply below_alloc | apply pw_below_drewN | apply below_drew1) | exact HB.out)) hb); have n1_ := Aside0.mk (hbox); have n2_ := Aside0.mk ((by rw [hg]; exact (below_size (by repeat (first | (with_reducible first | exact HB.out | apply below_alloc | apply pw_below_drewN | apply below_drew1) | exact HB.out))) : w.heap.size ≤ gb152)); have n3_ := Aside0.mk ((by rw [hg]; exact (below_size (by repeat (first | (with_reducible first | exact HB.out | apply below_alloc | apply pw_below_drewN | apply below_drew1) | exact HB.out))) : w.heap.size ≤ gb152)); clear HB; have HB := n0_; have BK152 := n1_; have GW152 := n2_; have GE152 := n3_; clear n0_ n1_ n2_ n3_; clear hb hbox hg))
  go_loopg [3, 4] k (fun kq v3 v4 w' => ∃ (x3_1 : Int) (x4_1 : Int), v3 = .int .i64 x3_1 ∧ v4 = .int .i64 x4_1 ∧ Aside0 (rosetteref15_Right.l0 kq x3_1 x4_1 l0_0 l0_1 = some r) ∧ Aside0 (kq ≤ k) ∧ Aside0 (w'.heap[gb152]? = some (.cells #[(.slice A0_0 l0_0.length c0_0), (.slice A0_1 l0_1.length c0_1)] 25 (0, 0))) ∧ Aside0 (Below w.heap.size w w'))
  case atStart => exact ⟨(0), (0), (by first | rfl | (simp; done) | (simp [*]; done)), (by first | rfl | (simp; done) | (simp [*]; done)), H', ⟨Nat.le_refl _⟩, ⟨by (with_reducible repeat (first | refine blk_drewN ?_ _ | refine blk_drew ?_ | refine blk_alloc ?_ _)); exact BK152.out⟩, ⟨by repeat (first | (with_reducible first | exact HB.out | apply below_alloc | apply pw_below_drewN | apply below_drew1 | refine below_set ?_ GE152.out) | exact HB.out)⟩⟩
  case round =>
    clear H'
    try clear c1
    try clear p2
    obtain ⟨x3_1, x4_1, rfl, rfl, HA, HK1, BK152, HB⟩ := hrel
    cases gk with
    | zero => exact absurd HA.out (by simp [rosetteref15_Right.l0])
    | succ k1 =>
      have H := HA.out
      clear HA
      simp only [rosetteref15_Right.l0] at H
      by_cases c3 : x4_1 < (l0_0.length : Int)
      · rw [if_pos c3] at H
        have c3b0 : decide (x4_1 < (l0_0.length : Int)) = true := decide_eq_true c3
        clear c3
        by_cases c4 : 0 ≤ x4_1
        · rw [if_pos c4] at H
          have c4b0 : decide (0 ≤ x4_1) = true := decide_eq_true c4
          clear c4
          by_cases c5 : (rd l0_0 x4_1) ≤ x3_1
          · rw [if_pos c5] at H
            have c5b0 : decide ((rd l0_0 x4_1) ≤ x3_1) = true := decide_eq_true c5
            clear c5
            obtain rfl := Option.some.inj H
            have hcz6_0 : wr.cell? ⟨gb152, 0, none⟩ = some (.slice A0_0 l0_0.length c0_0) := (blk_cell BK152.out 0).trans rfl
            have hcz6_1 : wr.cell? ⟨gb152, 1, none⟩ = some (.slice A0_1 l0_1.length c0_1) := (blk_cell BK152.out 1).trans rfl
            have hfz6_0 := blk_frozen BK152.out 0
            have hfz6_1 := blk_frozen BK152.out 1
            have p153 : 0 ≤ (x4_1 : Int) := of_decide_eq_true (by first | (with_reducible assumption) | assumption)
            have q153 : x4_1 < (l0_0.length : Int) := of_decide_eq_true (by first | (with_reducible assumption) | assumption)
            obtain ⟨ad153, e153, hx153_0⟩ := Kd.at_int HR0_0.out x4_1 p153 q153
            cases e153
            replace hx153_0 := (HB.out.cell (World.block_lt_of_cell? w _ hx153_0)).trans hx153_0
            replace p153 := eq_true p153
            replace q153 := eq_true q153
            go_wp2
            go_ret
            exact ⟨by first | rfl | (simp [errW_none, errW_some] <;> rfl) | (simp [*, errW_none, errW_some] <;> rfl), by repeat (first | (with_reducible first | exact HB.out | apply below_alloc | apply pw_below_drewN | apply below_drew1 | refine below_set ?_ GE152.out) | exact HB.out)⟩
          · rw [if_neg c5] at H
            have c5b0 : decide ((rd l0_0 x4_1) ≤ x3_1) = false := decide_eq_false c5
            clear c5
            by_cases c7 : (rd l0_0 x4_1) > 65535
            · rw [if_pos c7] at H
              have c7b0 : decide (65535 < (rd l0_0 x4_1)) = true := decide_eq_true c7
              clear c7
              obtain rfl := Option.some.inj H
              have hcz8_0 : wr.cell? ⟨gb152, 0, none⟩ = some (.slice A0_0 l0_0.length c0_0) := (blk_cell BK152.out 0).trans rfl
              have hcz8_1 : wr.cell? ⟨gb152, 1, none⟩ = some (.slice A0_1 l0_1.length c0_1) := (blk_cell BK152.out 1).trans rfl
              have hfz8_0 := blk_frozen BK152.out 0
              have hfz8_1 := blk_frozen BK152.out 1
              have p153 : 0 ≤ (x4_1 : Int) := of_decide_eq_true (by first | (with_reducible assumption) | assumption)
              have q153 : x4_1 < (l0_0.length : Int) := of_decide_eq_true (by first | (with_reducible assumption) | assumption)
              obtain ⟨ad153, e153, hx153_0⟩ := Kd.at_int HR0_0.out x4_1 p153 q153
              cases e153
              replace hx153_0 := (HB.out.cell (World.block_lt_of_cell? w _ hx153_0)).trans hx153_0
              replace p153 := eq_true p153
              replace q153 := eq_true q153
              have p154 : 0 ≤ (x4_1 : Int) := of_decide_eq_true (by first | (with_reducible assumption) | assumption)
              have q154 : x4_1 < (l0_0.length : Int) := of_decide_eq_true (by first | (with_reducible assumption) | assumption)
              obtain ⟨ad154, e154, hx154_0⟩ := Kd.at_int HR0_0.out x4_1 p154 q154
              obtain rfl : ad153 = ad154 := (by injection e154)
              replace hx154_0 := (HB.out.cell (World.block_lt_of_cell? w _ hx154_0)).trans hx154_0
              replace p154 := eq_true p154
              replace q154 := eq_true q154
              go_wp2
              go_ret
              exact ⟨by first | rfl | (simp [errW_none, errW_some] <;> rfl) | (simp [*, errW_none, errW_some] <;> rfl), by repeat (first | (with_reducible first | exact HB.out | apply below_alloc | apply pw_below_drewN | apply below_drew1 | refine below_set ?_ GE152.out) | exact HB.out)⟩
            · rw [if_neg c7] at H
              have c7b0 : decide (65535 < (rd l0_0 x4_1)) = false := decide_eq_false c7
              clear c7
              have H' := Aside0.mk H
              clear H
              have hcz9_0 : wr.cell? ⟨gb152, 0, none⟩ = some (.slice A0_0 l0_0.length c0_0) := (blk_cell BK152.out 0).trans rfl
              have hcz9_1 : wr.cell? ⟨gb152, 1, none⟩ = some (.slice A0_1 l0_1.length c0_1) := (blk_cell BK152.out 1).trans rfl
              have hfz9_0 := blk_frozen BK152.out 0
              have hfz9_1 := blk_frozen BK152.out 1
              have p153 : 0 ≤ (x4_1 : Int) := of_decide_eq_true (by first | (with_reducible assumption) | assumption)
              have q153 : x4_1 < (l0_0.length : Int) := of_decide_eq_true (by first | (with_reducible assumption) | assumption)
              obtain ⟨ad153, e153, hx153_0⟩ := Kd.at_int HR0_0.out x4_1 p153 q153
              cases e153
              replace hx153_0 := (HB.out.cell (World.block_lt_of_cell? w _ hx153_0)).trans hx153_0
              replace p153 := eq_true p153
              replace q153 := eq_true q153
              have p154 : 0 ≤ (x4_1 : Int) := of_decide_eq_true (by first | (with_reducible assumption) | assumption)
              have q154 : x4_1 < (l0_0.length : Int) := of_decide_eq_true (by first | (with_reducible assumption) | assumption)
              obtain ⟨ad154, e154, hx154_0⟩ := Kd.at_int HR0_0.out x4_1 p154 q154
              obtain rfl : ad153 = ad154 := (by injection e154)
              replace hx154_0 := (HB.out.cell (World.block_lt_of_cell? w _ hx154_0)).trans hx154_0
              replace p154 := eq_true p154
              replace q154 := eq_true q154
              have p155 : 0 ≤ (x4_1 : Int) := of_decide_eq_true (by first | (with_reducible assumption) | assumption)
              have q155 : x4_1 < (l0_0.length : Int) := of_decide_eq_true (by first | (with_reducible assumption) | assumption)
              obtain ⟨ad155, e155, hx155_0⟩ := Kd.at_int HR0_0.out x4_1 p155 q155
              obtain rfl : ad153 = ad155 := (by injection e155)
              replace hx155_0 := (HB.out.cell (World.block_lt_of_cell? w _ hx155_0)).trans hx155_0
              replace p155 := eq_true p155
              replace q155 := eq_true q155
              go_wp2
              go_roundg k1
              case measure => have := HK1.out; omega
              case rel => exact ⟨(rd l0_0 x4_1), (wrap64 (x4_1 + 1)), (by first | rfl | (simp; done) | (simp [*]; done)), (by first | rfl | (simp; done) | (simp [*]; done)), H', ⟨by have := HK1.out; omega⟩, ⟨by (with_reducible repeat (first | refine blk_drewN ?_ _ | refine blk_drew ?_ | refine blk_alloc ?_ _)); exact BK152.out⟩, ⟨by repeat (first | (with_reducible first | exact HB.out | apply below_alloc | apply pw_below_drewN | apply below_drew1 | refine below_set ?_ GE152.out) | exact HB.out)⟩⟩
        · rw [if_neg c4] at H
          exact absurd H (by simp)
      · rw [if_neg c3] at H
        have c3b0 : decide (x4_1 < (l0_0.length : Int)) = false := decide_eq_false c3
        clear c3
        have H' := Aside0.mk H
        clear H
        have hcz10_0 : wr.cell? ⟨gb152, 0, none⟩ = some (.slice A0_0 l0_0.length c0_0) := (blk_cell BK152.out 0).trans rfl
        have hcz10_1 : wr.cell? ⟨gb152, 1, none⟩ = some (.slice A0_1 l0_1.length c0_1) := (blk_cell BK152.out 1).trans rfl
        have hfz10_0 := blk_frozen BK152.out 0
        have hfz10_1 := blk_frozen BK152.out 1
        go_wp2
        go_loopg [3, 5] k1 (fun kq v3 v5 w' => ∃ (x3_2 : Int) (x5_2 : Int), v3 = .int .i64 x3_2 ∧ v5 = .int .i64 x5_2 ∧ Aside0 (rosetteref15_Right.l1 kq x3_2 x5_2 l0_0 l0_1 = some r) ∧ Aside0 (kq ≤ k1) ∧ Aside0 (w'.heap[gb152]? = some (.cells #[(.slice A0_0 l0_0.length c0_0), (.slice A0_1 l0_1.length c0_1)] 25 (0, 0))) ∧ Aside0 (Below w.heap.size w w'))
        case atStart => exact ⟨(0), (0), (by first | rfl | (simp; done) | (simp [*]; done)), (by first | rfl | (simp; done) | (simp [*]; done)), H', ⟨Nat.le_refl _⟩, ⟨by (with_reducible repeat (first | refine blk_drewN ?_ _ | refine blk_drew ?_ | refine blk_alloc ?_ _)); exact BK152.out⟩, ⟨by repeat (first | (with_reducible first | exact HB.out | apply below_alloc | apply pw_below_drewN | apply below_drew1 | refine below_set ?_ GE152.out) | exact HB.out)⟩⟩
        case round =>
          clear H'
          try clear c1
          try clear p1
          try clear q1
          try clear hx1
          try clear p2
          try clear c3
          try clear c3b0
          try clear c4
          try clear c4b0
          try clear c5
          try clear c5b0
          try clear p6
          try clear c7
          try clear c7b0
          try clear hcz10_0
          try clear hcz10_1
          try clear hcz6_0
          try clear hcz6_1
          try clear hcz8_0
          try clear hcz8_1
          try clear hcz9_0
          try clear hcz9_1
          try clear hfz10_0
          try clear hfz10_1
          try clear hfz6_0
          try clear hfz6_1
          try clear hfz8_0
          try clear hfz8_1
          try clear hfz9_0
          try clear hfz9_1
          try clear hx153_0
          try clear hx154_0
          try clear hx155_0
          try clear p153
          try clear p154
          try clear p155
          try clear p2
          try clear q153
          try clear q154
          try clear q155
          obtain ⟨x3_2, x5_2, rfl, rfl, HA, HK2, BK152, HB⟩ := hrel
          cases gk with
          | zero => exact absurd HA.out (by simp [rosetteref15_Right.l1])
          | succ k2 =>
            have H := HA.out
            clear HA
            simp only [rosetteref15_Right.l1] at H
            by_cases c11 : x5_2 < (l0_1.length : Int)
            · rw [if_pos c11] at H
              have c11b0 : decide (x5_2 < (l0_1.length : Int)) = true := decide_eq_true c11
              clear c11
              by_cases c12 : 0 ≤ x5_2
              · rw [if_pos c12] at H
                have c12b0 : decide (0 ≤ x5_2) = true := decide_eq_true c12
                clear c12
                replace H := Option.bind_eq_some_iff.mp H
                obtain ⟨t157, A130, H⟩ := H
                replace H : (if t157 = true then (if ((rd_T40 l0_1 x5_2).f0) ≤ x3_2 then (some false) else (if ((rd_T40 l0_1 x5_2).f0) > 65535 then (some false) else (rosetteref15_Right.l1 k2 ((rd_T40 l0_1 x5_2).f0) (wrap64 (x5_2 + 1)) l0_0 l0_1))) else (some false)) = some r := H
                have A13 := Aside0.mk A130
                clear A130
                by_cases c14 : t157 = true
                · subst c14
                  have H1 : (if ((rd_T40 l0_1 x5_2).f0) ≤ x3_2 then (some false) else (if ((rd_T40 l0_1 x5_2).f0) > 65535 then (some false) else (rosetteref15_Right.l1 k2 ((rd_T40 l0_1 x5_2).f0) (wrap64 (x5_2 + 1)) l0_0 l0_1))) = some r := by rw [if_pos rfl] at H; exact H
                  clear H
                  have H := H1
                  clear H1
                  by_cases c15 : ((rd_T40 l0_1 x5_2).f0) ≤ x3_2
                  · rw [if_pos c15] at H
                    have c15b0 : decide (((rd_T40 l0_1 x5_2).f0) ≤ x3_2) = true := decide_eq_true c15
                    clear c15
                    obtain rfl := Option.some.inj H
                    have hcz16_0 : wr.cell? ⟨gb152, 0, none⟩ = some (.slice A0_0 l0_0.length c0_0) := (blk_cell BK152.out 0).trans rfl
                    have hcz16_1 : wr.cell? ⟨gb152, 1, none⟩ = some (.slice A0_1 l0_1.length c0_1) := (blk_cell BK152.out 1).trans rfl
                    have hfz16_0 := blk_frozen BK152.out 0
                    have hfz16_1 := blk_frozen BK152.out 1
                    try go_wp2
                    have n0_ := Aside0.mk (blk_drew BK152.out)
                    have n1_ := Aside0.mk (below_drew1 HB.out)
                    clear BK152
                    clear HB
                    have BK152 := n0_
                    have HB := n1_
                    clear n0_ n1_
                    have p156 : 0 ≤ (x5_2 : Int) := of_decide_eq_true (by first | (with_reducible assumption) | assumption)
                    have q156 : x5_2 < (l0_1.length : Int) := of_decide_eq_true (by first | (with_reducible assumption) | assumption)
                    obtain ⟨ad156, A156_2, c156_2, e156, hx156_0, hx156_1, hx156_2, hl156_2, hi156_2⟩ := at_T40 HR0_1.out x5_2 p156 q156
                    have hw156_2 := hx156_2
                    have hw156_1 := hx156_1
                    have hw156_0 := hx156_0
                    cases e156
                    replace hx156_0 := (HB.out.cell (World.block_lt_of_cell? w _ hx156_0)).trans hx156_0
                    replace hx156_1 := (HB.out.cell (World.block_lt_of_cell? w _ hx156_1)).trans hx156_1
                    replace hx156_2 := (HB.out.cell (World.block_lt_of_cell? w _ hx156_2)).trans hx156_2
                    have HR156_2 := Aside0.mk hi156_2
                    have HC156_2 := Aside0.mk hl156_2
                    clear hi156_2 hl156_2
                    replace p156 := eq_true p156
                    replace q156 := eq_true q156
                    refine start_ (n := 9) (S := fun w' => w'.cell? ⟨gb152, 0, none⟩ = some (.slice A0_0 l0_0.length c0_0) ∧ w'.cell? ⟨gb152, 1, none⟩ = some (.slice (some ad156) l0_1.length c0_1) ∧ w'.cell? (ad156.add ((x5_2).toNat * 3)) = some (.int .i64 ((rd_T40 l0_1 x5_2).f0)) ∧ w'.cell? ⟨(ad156.add ((x5_2).toNat * 3)).block, (ad156.add ((x5_2).toNat * 3)).off + 1, none⟩ = some (.int .i64 ((rd_T40 l0_1 x5_2).f1)) ∧ w'.cell? ⟨(ad156.add ((x5_2).toNat * 3)).block, (ad156.add ((x5_2).toNat * 3)).off + 2, none⟩ = some (.slice A156_2 ((rd_T40 l0_1 x5_2).f2).length c156_2)) (ds := []) #[false, false, false, false, false, false, false, false, false] (by kernel_rfl) rfl rfl ⟨(blk_cell BK152.out 0).trans rfl, (blk_cell BK152.out 1).trans rfl, ((HB.out.cell (World.block_lt_of_cell? w _ hw156_0)).trans hw156_0), ((HB.out.cell (World.block_lt_of_cell? w _ hw156_1)).trans hw156_1), ((HB.out.cell (World.block_lt_of_cell? w _ hw156_2)).trans hw156_2)⟩ (fun hHeld => ?_); refine with_tabW rosetteref15_Right.tab12 rosetteref15_Right.bits12 (fun HT_ HW_ => ?_)
                    generalize wr.drew = w17 at BK152 HB HR156_2 hx156_0 hx156_1 hx156_2 hHeld ⊢
                    refine pure_ (i := 0) (N := some 41) (v := ?_) (a' := ?_) #[true, false, false, false, false, false, false, false, false] rfl rfl (any_of HT_.out (by kernel_rfl)) (fun _ _ _ h => h) (Or.inl ⟨by rfl, ?_⟩) ?_ ?_
                    rotate_left
                    · intro w'
                      go_simp
                      with_reducible rfl
                    rotate_left
                    · simp only [Act.put, List.setIfInBounds_toArray, List.set_cons_zero, List.set_cons_succ, i64_w, i32_w]
                      rfl
                    refine pure_ (i := 2) (N := some 43) (v := ?_) (a' := ?_) #[true, false, true, false, false, false, false, false, false] rfl rfl (any_of HT_.out (by kernel_rfl)) (fun _ _ _ h => h) (Or.inl ⟨by rfl, ?_⟩) ?_ ?_
                    rotate_left
                    · intro w'
                      go_simp
                      with_reducible rfl
                    rotate_left
                    · simp only [Act.put, List.setIfInBounds_toArray, List.set_cons_zero, List.set_cons_succ, i64_w, i32_w]
                      rfl
                    refine pure_ (i := 5) (N := some 46) (v := ?_) (a' := ?_) #[true, false, true, false, false, true, false, false, false] rfl rfl (any_of HT_.out (by kernel_rfl)) (fun _ _ _ h => h) (Or.inl ⟨by rfl, ?_⟩) ?_ ?_
                    rotate_left
                    · intro w'
                      go_simp
                      with_reducible rfl
                    rotate_left
                    · simp only [Act.put, List.setIfInBounds_toArray, List.set_cons_zero, List.set_cons_succ, i64_w, i32_w]
                      rfl
                    refine take_ (i := 1) (N := some 42) (v := ?_) (a' := ?_) #[true, true, true, false, false, true, false, false, false] rfl rfl (take_ofW HT_.out HW_.out (by kernel_rfl)) (fun _ _ _ h => h) (Or.inl ⟨by rfl, ?_⟩) hHeld ?_ ?_
                    rotate_left
                    · rintro w' ⟨s0, s1, s2, s3, s4⟩
                      go_simp
                      with_reducible rfl
                    rotate_left
                    · simp only [Act.put, List.setIfInBounds_toArray, List.set_cons_zero, List.set_cons_succ, i64_w, i32_w]
                      rfl
                    refine pure_ (i := 3) (N := some 44) (v := ?_) (a' := ?_) #[true, true, true, true, false, true, false, false, false] rfl rfl (any_of HT_.out (by kernel_rfl)) (fun _ _ _ h => h) (Or.inl ⟨by rfl, ?_⟩) ?_ ?_
                    rotate_left
                    · intro w'
                      go_simp
                      with_reducible rfl
                    rotate_left
                    · simp only [Act.put, List.setIfInBounds_toArray, List.set_cons_zero, List.set_cons_succ, i64_w, i32_w]
                      rfl
                    refine take_ (i := 4) (N := some 45) (v := ?_) (a' := ?_) #[true, true, true, true, true, true, false, false, false] rfl rfl (take_ofW HT_.out HW_.out (by kernel_rfl)) (fun _ _ _ h => h) (Or.inl ⟨by rfl, ?_⟩) hHeld ?_ ?_
                    rotate_left
                    · rintro w' ⟨s0, s1, s2, s3, s4⟩
                      go_simp
                      with_reducible rfl
                    rotate_left
                    · simp only [Act.put, List.setIfInBounds_toArray, List.set_cons_zero, List.set_cons_succ, i64_w, i32_w]
                      rfl
                    refine take_ (i := 6) (N := some 47) (v := ?_) (a' := ?_) #[true, true, true, true, true, true, true, false, false] rfl rfl (take_ofW HT_.out HW_.out (by kernel_rfl)) (fun _ _ _ h => h) (Or.inl ⟨by rfl, ?_⟩) hHeld ?_ ?_
                    rotate_left
                    · rintro w' ⟨s0, s1, s2, s3, s4⟩
                      go_simp
                      with_reducible rfl
                    rotate_left
                    · simp only [Act.put, List.setIfInBounds_toArray, List.set_cons_zero, List.set_cons_succ, i64_w, i32_w]
                      rfl
                    refine one_ (i := 7) (N := some 48) #[true, true, true, true, true, true, true, true, false] rfl rfl (one_of HT_.out (by kernel_rfl)) (by decide) (fun K hK => ?_)
                    refine goes_ Try.func39 (by kernel_rfl) rfl #[.agg #[.int .i64 ((rd_T40 l0_1 x5_2).f0), .int .i64 ((rd_T40 l0_1 x5_2).f1), .slice A156_2 ((rd_T40 l0_1 x5_2).f2).length c156_2], .slice A0_0 l0_0.length c0_0] (by rfl) rfl rfl (by (try simp only [List.map_toArray, List.map_cons, List.map_nil]); first | done | rfl | (simp only [List.length_drop, List.length_take]; rfl)) ?_
                    with_reducible refine (rosetteref15_one.calls k2 ((rd_T40 l0_1 x5_2).f0) ((rd_T40 l0_1 x5_2).f1) _ _ ((rd_T40 l0_1 x5_2).f2) _ _ l0_0 true _ ?side1 ?side2 ?side3 ?side4 A13.out).mono ?_
                    (case side1 => repeat (first | exact (Kd.C_below HR156_2.out HB.out) | (with_reducible refine Kd.C_alloc ?_ _) | (with_reducible refine Kd.C_drewN ?_ _) | (with_reducible refine Kd.C_drew ?_)))
                    (case side2 => exact HC156_2.out)
                    (case side3 => repeat (first | exact (Kd.C_below HR0_0.out HB.out) | (with_reducible refine Kd.C_alloc ?_ _) | (with_reducible refine Kd.C_drewN ?_ _) | (with_reducible refine Kd.C_drew ?_)))
                    (case side4 => exact HC0_0.out)
                    rintro e w18 ⟨rfl, hb⟩
                    refine ⟨_, rfl, ?_⟩
                    have n0_ := Aside0.mk (blk_below (g := gb152) (o := .cells #[.slice A0_0 l0_0.length c0_0, .slice (some ad156) l0_1.length c0_1] 25 (0, 0)) (by (with_reducible repeat (first | refine blk_drewN ?_ _ | refine blk_drew ?_ | refine blk_alloc ?_ _)); exact BK152.out) hb)
                    have n1_ := Aside0.mk (below_step (by repeat (first | (with_reducible first | exact HB.out | apply below_alloc | apply pw_below_drewN | apply below_drew1 | refine below_set ?_ GE152.out) | exact HB.out)) hb)
                    clear BK152
                    clear HB
                    have BK152 := n0_
                    have HB := n1_
                    clear n0_ n1_
                    (try clear hb)
                    (try clear hb2)
                    (try clear hk)
                    (try clear hi)
                    refine hK.out _ _ ⟨(blk_cell BK152.out 0).trans rfl, (blk_cell BK152.out 1).trans rfl, ((HB.out.cell (World.block_lt_of_cell? w _ hw156_0)).trans hw156_0), ((HB.out.cell (World.block_lt_of_cell? w _ hw156_1)).trans hw156_1), ((HB.out.cell (World.block_lt_of_cell? w _ hw156_2)).trans hw156_2)⟩ (fun hHeld => ?_)
                    clear hK K
                    refine norm_ (a' := ?_) ?_ ?_
                    rotate_left
                    · show Act.put _ (some 48) _ = _
                      simp only [Act.put, List.setIfInBounds_toArray, List.set_cons_zero, List.set_cons_succ, i64_w, i32_w]
                      rfl
                    refine pure_ (i := 8) (N := some 6) (v := ?_) (a' := ?_) #[true, true, true, true, true, true, true, true, true] rfl rfl (any_of HT_.out (by kernel_rfl)) (fun _ _ _ h => h) (Or.inl ⟨by rfl, ?_⟩) ?_ ?_
                    rotate_left
                    · intro w'
                      go_simp
                      with_reducible rfl
                    rotate_left
                    · simp only [Act.put, List.setIfInBounds_toArray, List.set_cons_zero, List.set_cons_succ, i64_w, i32_w]
                      rfl
                    refine done_ (done_of HT_.out (by kernel_rfl)) ?_
                    have hcz19_0 : w18.cell? ⟨gb152, 0, none⟩ = some (.slice A0_0 l0_0.length c0_0) := (blk_cell BK152.out 0).trans rfl
                    have hcz19_1 : w18.cell? ⟨gb152, 1, none⟩ = some (.slice (some ad156) l0_1.length c0_1) := (blk_cell BK152.out 1).trans rfl
                    have hfz19_0 := blk_frozen BK152.out 0
                    have hfz19_1 := blk_frozen BK152.out 1
                    have p158 : 0 ≤ (x5_2 : Int) := of_decide_eq_true (by first | (with_reducible assumption) | assumption)
                    have q158 : x5_2 < (l0_1.length : Int) := of_decide_eq_true (by first | (with_reducible assumption) | assumption)
                    obtain ⟨ad158, A158_2, c158_2, e158, hx158_0, hx158_1, hx158_2, hl158_2, hi158_2⟩ := at_T40 HR0_1.out x5_2 p158 q158
                    obtain rfl : ad156 = ad158 := (by injection e158)
                    replace hx158_0 := (HB.out.cell (World.block_lt_of_cell? w _ hx158_0)).trans hx158_0
                    replace hx158_1 := (HB.out.cell (World.block_lt_of_cell? w _ hx158_1)).trans hx158_1
                    replace hx158_2 := (HB.out.cell (World.block_lt_of_cell? w _ hx158_2)).trans hx158_2
                    have HR158_2 := Aside0.mk hi158_2
                    have HC158_2 := Aside0.mk hl158_2
                    clear hi158_2 hl158_2
                    replace p158 := eq_true p158
                    replace q158 := eq_true q158
                    try go_wp2
                    go_ret
                    exact ⟨by first | rfl | (simp [errW_none, errW_some] <;> rfl) | (simp [*, errW_none, errW_some] <;> rfl), by repeat (first | (with_reducible first | exact HB.out | apply below_alloc | apply pw_below_drewN | apply below_drew1 | refine below_set ?_ GE152.out) | exact HB.out)⟩
                  · rw [if_neg c15] at H
                    have c15b0 : decide (((rd_T40 l0_1 x5_2).f0) ≤ x3_2) = false := decide_eq_false c15
                    clear c15
                    by_cases c20 : ((rd_T40 l0_1 x5_2).f0) > 65535
                    · rw [if_pos c20] at H
                      have c20b0 : decide (65535 < ((rd_T40 l0_1 x5_2).f0)) = true := decide_eq_true c20
                      clear c20
                      obtain rfl := Option.some.inj H
                      have hcz21_0 : wr.cell? ⟨gb152, 0, none⟩ = some (.slice A0_0 l0_0.length c0_0) := (blk_cell BK152.out 0).trans rfl
                      have hcz21_1 : wr.cell? ⟨gb152, 1, none⟩ = some (.slice A0_1 l0_1.length c0_1) := (blk_cell BK152.out 1).trans rfl
                      have hfz21_0 := blk_frozen BK152.out 0
                      have hfz21_1 := blk_frozen BK152.out 1
                      try go_wp2
                      have n0_ := Aside0.mk (blk_drew BK152.out)
                      have n1_ := Aside0.mk (below_drew1 HB.out)
                      clear BK152
                      clear HB
                      have BK152 := n0_
                      have HB := n1_
                      clear n0_ n1_
                      have p156 : 0 ≤ (x5_2 : Int) := of_decide_eq_true (by first | (with_reducible assumption) | assumption)
                      have q156 : x5_2 < (l0_1.length : Int) := of_decide_eq_true (by first | (with_reducible assumption) | assumption)
                      obtain ⟨ad156, A156_2, c156_2, e156, hx156_0, hx156_1, hx156_2, hl156_2, hi156_2⟩ := at_T40 HR0_1.out x5_2 p156 q156
                      have hw156_2 := hx156_2
                      have hw156_1 := hx156_1
                      have hw156_0 := hx156_0
                      cases e156
                      replace hx156_0 := (HB.out.cell (World.block_lt_of_cell? w _ hx156_0)).trans hx156_0
                      replace hx156_1 := (HB.out.cell (World.block_lt_of_cell? w _ hx156_1)).trans hx156_1
                      replace hx156_2 := (HB.out.cell (World.block_lt_of_cell? w _ hx156_2)).trans hx156_2
                      have HR156_2 := Aside0.mk hi156_2
                      have HC156_2 := Aside0.mk hl156_2
                      clear hi156_2 hl156_2
                      replace p156 := eq_true p156
                      replace q156 := eq_true q156
                      refine start_ (n := 9) (S := fun w' => w'.cell? ⟨gb152, 0, none⟩ = some (.slice A0_0 l0_0.length c0_0) ∧ w'.cell? ⟨gb152, 1, none⟩ = some (.slice (some ad156) l0_1.length c0_1) ∧ w'.cell? (ad156.add ((x5_2).toNat * 3)) = some (.int .i64 ((rd_T40 l0_1 x5_2).f0)) ∧ w'.cell? ⟨(ad156.add ((x5_2).toNat * 3)).block, (ad156.add ((x5_2).toNat * 3)).off + 1, none⟩ = some (.int .i64 ((rd_T40 l0_1 x5_2).f1)) ∧ w'.cell? ⟨(ad156.add ((x5_2).toNat * 3)).block, (ad156.add ((x5_2).toNat * 3)).off + 2, none⟩ = some (.slice A156_2 ((rd_T40 l0_1 x5_2).f2).length c156_2)) (ds := []) #[false, false, false, false, false, false, false, false, false] (by kernel_rfl) rfl rfl ⟨(blk_cell BK152.out 0).trans rfl, (blk_cell BK152.out 1).trans rfl, ((HB.out.cell (World.block_lt_of_cell? w _ hw156_0)).trans hw156_0), ((HB.out.cell (World.block_lt_of_cell? w _ hw156_1)).trans hw156_1), ((HB.out.cell (World.block_lt_of_cell? w _ hw156_2)).trans hw156_2)⟩ (fun hHeld => ?_); refine with_tabW rosetteref15_Right.tab12 rosetteref15_Right.bits12 (fun HT_ HW_ => ?_)
                      generalize wr.drew = w22 at BK152 HB HR156_2 hx156_0 hx156_1 hx156_2 hHeld ⊢
                      refine pure_ (i := 0) (N := some 41) (v := ?_) (a' := ?_) #[true, false, false, false, false, false, false, false, false] rfl rfl (any_of HT_.out (by kernel_rfl)) (fun _ _ _ h => h) (Or.inl ⟨by rfl, ?_⟩) ?_ ?_
                      rotate_left
                      · intro w'
                        go_simp
                        with_reducible rfl
                      rotate_left
                      · simp only [Act.put, List.setIfInBounds_toArray, List.set_cons_zero, List.set_cons_succ, i64_w, i32_w]
                        rfl
                      refine pure_ (i := 2) (N := some 43) (v := ?_) (a' := ?_) #[true, false, true, false, false, false, false, false, false] rfl rfl (any_of HT_.out (by kernel_rfl)) (fun _ _ _ h => h) (Or.inl ⟨by rfl, ?_⟩) ?_ ?_
                      rotate_left
                      · intro w'
                        go_simp
                        with_reducible rfl
                      rotate_left
                      · simp only [Act.put, List.setIfInBounds_toArray, List.set_cons_zero, List.set_cons_succ, i64_w, i32_w]
                        rfl
                      refine pure_ (i := 5) (N := some 46) (v := ?_) (a' := ?_) #[true, false, true, false, false, true, false, false, false] rfl rfl (any_of HT_.out (by kernel_rfl)) (fun _ _ _ h => h) (Or.inl ⟨by rfl, ?_⟩) ?_ ?_
                      rotate_left
                      · intro w'
                        go_simp
                        with_reducible rfl
                      rotate_left
                      · simp only [Act.put, List.setIfInBounds_toArray, List.set_cons_zero, List.set_cons_succ, i64_w, i32_w]
                        rfl
                      refine take_ (i := 1) (N := some 42) (v := ?_) (a' := ?_) #[true, true, true, false, false, true, false, false, false] rfl rfl (take_ofW HT_.out HW_.out (by kernel_rfl)) (fun _ _ _ h => h) (Or.inl ⟨by rfl, ?_⟩) hHeld ?_ ?_
                      rotate_left
                      · rintro w' ⟨s0, s1, s2, s3, s4⟩
                        go_simp
                        with_reducible rfl
                      rotate_left
                      · simp only [Act.put, List.setIfInBounds_toArray, List.set_cons_zero, List.set_cons_succ, i64_w, i32_w]
                        rfl
                      refine pure_ (i := 3) (N := some 44) (v := ?_) (a' := ?_) #[true, true, true, true, false, true, false, false, false] rfl rfl (any_of HT_.out (by kernel_rfl)) (fun _ _ _ h => h) (Or.inl ⟨by rfl, ?_⟩) ?_ ?_
                      rotate_left
                      · intro w'
                        go_simp
                        with_reducible rfl
                      rotate_left
                      · simp only [Act.put, List.setIfInBounds_toArray, List.set_cons_zero, List.set_cons_succ, i64_w, i32_w]
                        rfl
                      refine take_ (i := 4) (N := some 45) (v := ?_) (a' := ?_) #[true, true, true, true, true, true, false, false, false] rfl rfl (take_ofW HT_.out HW_.out (by kernel_rfl)) (fun _ _ _ h => h) (Or.inl ⟨by rfl, ?_⟩) hHeld ?_ ?_
                      rotate_left
                      · rintro w' ⟨s0, s1, s2, s3, s4⟩
                        go_simp
                        with_reducible rfl
                      rotate_left
                      · simp only [Act.put, List.setIfInBounds_toArray, List.set_cons_zero, List.set_cons_succ, i64_w, i32_w]
                        rfl
                      refine take_ (i := 6) (N := some 47) (v := ?_) (a' := ?_) #[true, true, true, true, true, true, true, false, false] rfl rfl (take_ofW HT_.out HW_.out (by kernel_rfl)) (fun _ _ _ h => h) (Or.inl ⟨by rfl, ?_⟩) hHeld ?_ ?_
                      rotate_left
                      · rintro w' ⟨s0, s1, s2, s3, s4⟩
                        go_simp
                        with_reducible rfl
                      rotate_left
                      · simp only [Act.put, List.setIfInBounds_toArray, List.set_cons_zero, List.set_cons_succ, i64_w, i32_w]
                        rfl
                      refine one_ (i := 7) (N := some 48) #[true, true, true, true, true, true, true, true, false] rfl rfl (one_of HT_.out (by kernel_rfl)) (by decide) (fun K hK => ?_)
                      refine goes_ Try.func39 (by kernel_rfl) rfl #[.agg #[.int .i64 ((rd_T40 l0_1 x5_2).f0), .int .i64 ((rd_T40 l0_1 x5_2).f1), .slice A156_2 ((rd_T40 l0_1 x5_2).f2).length c156_2], .slice A0_0 l0_0.length c0_0] (by rfl) rfl rfl (by (try simp only [List.map_toArray, List.map_cons, List.map_nil]); first | done | rfl | (simp only [List.length_drop, List.length_take]; rfl)) ?_
                      with_reducible refine (rosetteref15_one.calls k2 ((rd_T40 l0_1 x5_2).f0) ((rd_T40 l0_1 x5_2).f1) _ _ ((rd_T40 l0_1 x5_2).f2) _ _ l0_0 true _ ?side1 ?side2 ?side3 ?side4 A13.out).mono ?_
                      (case side1 => repeat (first | exact (Kd.C_below HR156_2.out HB.out) | (with_reducible refine Kd.C_alloc ?_ _) | (with_reducible refine Kd.C_drewN ?_ _) | (with_reducible refine Kd.C_drew ?_)))
                      (case side2 => exact HC156_2.out)
                      (case side3 => repeat (first | exact (Kd.C_below HR0_0.out HB.out) | (with_reducible refine Kd.C_alloc ?_ _) | (with_reducible refine Kd.C_drewN ?_ _) | (with_reducible refine Kd.C_drew ?_)))
                      (case side4 => exact HC0_0.out)
                      rintro e w23 ⟨rfl, hb⟩
                      refine ⟨_, rfl, ?_⟩
                      have n0_ := Aside0.mk (blk_below (g := gb152) (o := .cells #[.slice A0_0 l0_0.length c0_0, .slice (some ad156) l0_1.length c0_1] 25 (0, 0)) (by (with_reducible repeat (first | refine blk_drewN ?_ _ | refine blk_drew ?_ | refine blk_alloc ?_ _)); exact BK152.out) hb)
                      have n1_ := Aside0.mk (below_step (by repeat (first | (with_reducible first | exact HB.out | apply below_alloc | apply pw_below_drewN | apply below_drew1 | refine below_set ?_ GE152.out) | exact HB.out)) hb)
                      clear BK152
                      clear HB
                      have BK152 := n0_
                      have HB := n1_
                      clear n0_ n1_
                      (try clear hb)
                      (try clear hb2)
                      (try clear hk)
                      (try clear hi)
                      refine hK.out _ _ ⟨(blk_cell BK152.out 0).trans rfl, (blk_cell BK152.out 1).trans rfl, ((HB.out.cell (World.block_lt_of_cell? w _ hw156_0)).trans hw156_0), ((HB.out.cell (World.block_lt_of_cell? w _ hw156_1)).trans hw156_1), ((HB.out.cell (World.block_lt_of_cell? w _ hw156_2)).trans hw156_2)⟩ (fun hHeld => ?_)
                      clear hK K
                      refine norm_ (a' := ?_) ?_ ?_
                      rotate_left
                      · show Act.put _ (some 48) _ = _
                        simp only [Act.put, List.setIfInBounds_toArray, List.set_cons_zero, List.set_cons_succ, i64_w, i32_w]
                        rfl
                      refine pure_ (i := 8) (N := some 6) (v := ?_) (a' := ?_) #[true, true, true, true, true, true, true, true, true] rfl rfl (any_of HT_.out (by kernel_rfl)) (fun _ _ _ h => h) (Or.inl ⟨by rfl, ?_⟩) ?_ ?_
                      rotate_left
                      · intro w'
                        go_simp
                        with_reducible rfl
                      rotate_left
                      · simp only [Act.put, List.setIfInBounds_toArray, List.set_cons_zero, List.set_cons_succ, i64_w, i32_w]
                        rfl
                      refine done_ (done_of HT_.out (by kernel_rfl)) ?_
                      have hcz24_0 : w23.cell? ⟨gb152, 0, none⟩ = some (.slice A0_0 l0_0.length c0_0) := (blk_cell BK152.out 0).trans rfl
                      have hcz24_1 : w23.cell? ⟨gb152, 1, none⟩ = some (.slice (some ad156) l0_1.length c0_1) := (blk_cell BK152.out 1).trans rfl
                      have hfz24_0 := blk_frozen BK152.out 0
                      have hfz24_1 := blk_frozen BK152.out 1
                      have p158 : 0 ≤ (x5_2 : Int) := of_decide_eq_true (by first | (with_reducible assumption) | assumption)
                      have q158 : x5_2 < (l0_1.length : Int) := of_decide_eq_true (by first | (with_reducible assumption) | assumption)
                      obtain ⟨ad158, A158_2, c158_2, e158, hx158_0, hx158_1, hx158_2, hl158_2, hi158_2⟩ := at_T40 HR0_1.out x5_2 p158 q158
                      obtain rfl : ad156 = ad158 := (by injection e158)
                      replace hx158_0 := (HB.out.cell (World.block_lt_of_cell? w _ hx158_0)).trans hx158_0
                      replace hx158_1 := (HB.out.cell (World.block_lt_of_cell? w _ hx158_1)).trans hx158_1
                      replace hx158_2 := (HB.out.cell (World.block_lt_of_cell? w _ hx158_2)).trans hx158_2
                      have HR158_2 := Aside0.mk hi158_2
                      have HC158_2 := Aside0.mk hl158_2
                      clear hi158_2 hl158_2
                      replace p158 := eq_true p158
                      replace q158 := eq_true q158
                      have p159 : 0 ≤ (x5_2 : Int) := of_decide_eq_true (by first | (with_reducible assumption) | assumption)
                      have q159 : x5_2 < (l0_1.length : Int) := of_decide_eq_true (by first | (with_reducible assumption) | assumption)
                      obtain ⟨ad159, A159_2, c159_2, e159, hx159_0, hx159_1, hx159_2, hl159_2, hi159_2⟩ := at_T40 HR0_1.out x5_2 p159 q159
                      obtain rfl : ad156 = ad159 := (by injection e159)
                      replace hx159_0 := (HB.out.cell (World.block_lt_of_cell? w _ hx159_0)).trans hx159_0
                      replace hx159_1 := (HB.out.cell (World.block_lt_of_cell? w _ hx159_1)).trans hx159_1
                      replace hx159_2 := (HB.out.cell (World.block_lt_of_cell? w _ hx159_2)).trans hx159_2
                      have HR159_2 := Aside0.mk hi159_2
                      have HC159_2 := Aside0.mk hl159_2
                      clear hi159_2 hl159_2
                      replace p159 := eq_true p159
                      replace q159 := eq_true q159
                      have ea_ := Option.some.inj (hx158_2.symm.trans hx159_2)
                      injection ea_ with ea_ en_ ec_
                      subst ea_
                      subst ec_
                      clear en_
                      try go_wp2
                      go_ret
                      exact ⟨by first | rfl | (simp [errW_none, errW_some] <;> rfl) | (simp [*, errW_none, errW_some] <;> rfl), by repeat (first | (with_reducible first | exact HB.out | apply below_alloc | apply pw_below_drewN | apply below_drew1 | refine below_set ?_ GE152.out) | exact HB.out)⟩
                    · rw [if_neg c20] at H
                      have c20b0 : decide (65535 < ((rd_T40 l0_1 x5_2).f0)) = false := decide_eq_false c20
                      clear c20
                      have H' := Aside0.mk H
                      clear H
                      have hcz25_0 : wr.cell? ⟨gb152, 0, none⟩ = some (.slice A0_0 l0_0.length c0_0) := (blk_cell BK152.out 0).trans rfl
                      have hcz25_1 : wr.cell? ⟨gb152, 1, none⟩ = some (.slice A0_1 l0_1.length c0_1) := (blk_cell BK152.out 1).trans rfl
                      have hfz25_0 := blk_frozen BK152.out 0
                      have hfz25_1 := blk_frozen BK152.out 1
                      try go_wp2
                      have n0_ := Aside0.mk (blk_drew BK152.out)
                      have n1_ := Aside0.mk (below_drew1 HB.out)
                      clear BK152
                      clear HB
                      have BK152 := n0_
                      have HB := n1_
                      clear n0_ n1_
                      have p156 : 0 ≤ (x5_2 : Int) := of_decide_eq_true (by first | (with_reducible assumption) | assumption)
                      have q156 : x5_2 < (l0_1.length : Int) := of_decide_eq_true (by first | (with_reducible assumption) | assumption)
                      obtain ⟨ad156, A156_2, c156_2, e156, hx156_0, hx156_1, hx156_2, hl156_2, hi156_2⟩ := at_T40 HR0_1.out x5_2 p156 q156
                      have hw156_2 := hx156_2
                      have hw156_1 := hx156_1
                      have hw156_0 := hx156_0
                      cases e156
                      replace hx156_0 := (HB.out.cell (World.block_lt_of_cell? w _ hx156_0)).trans hx156_0
                      replace hx156_1 := (HB.out.cell (World.block_lt_of_cell? w _ hx156_1)).trans hx156_1
                      replace hx156_2 := (HB.out.cell (World.block_lt_of_cell? w _ hx156_2)).trans hx156_2
                      have HR156_2 := Aside0.mk hi156_2
                      have HC156_2 := Aside0.mk hl156_2
                      clear hi156_2 hl156_2
                      replace p156 := eq_true p156
                      replace q156 := eq_true q156
                      refine start_ (n := 9) (S := fun w' => w'.cell? ⟨gb152, 0, none⟩ = some (.slice A0_0 l0_0.length c0_0) ∧ w'.cell? ⟨gb152, 1, none⟩ = some (.slice (some ad156) l0_1.length c0_1) ∧ w'.cell? (ad156.add ((x5_2).toNat * 3)) = some (.int .i64 ((rd_T40 l0_1 x5_2).f0)) ∧ w'.cell? ⟨(ad156.add ((x5_2).toNat * 3)).block, (ad156.add ((x5_2).toNat * 3)).off + 1, none⟩ = some (.int .i64 ((rd_T40 l0_1 x5_2).f1)) ∧ w'.cell? ⟨(ad156.add ((x5_2).toNat * 3)).block, (ad156.add ((x5_2).toNat * 3)).off + 2, none⟩ = some (.slice A156_2 ((rd_T40 l0_1 x5_2).f2).length c156_2)) (ds := []) #[false, false, false, false, false, false, false, false, false] (by kernel_rfl) rfl rfl ⟨(blk_cell BK152.out 0).trans rfl, (blk_cell BK152.out 1).trans rfl, ((HB.out.cell (World.block_lt_of_cell? w _ hw156_0)).trans hw156_0), ((HB.out.cell (World.block_lt_of_cell? w _ hw156_1)).trans hw156_1), ((HB.out.cell (World.block_lt_of_cell? w _ hw156_2)).trans hw156_2)⟩ (fun hHeld => ?_); refine with_tabW rosetteref15_Right.tab12 rosetteref15_Right.bits12 (fun HT_ HW_ => ?_)
                      generalize wr.drew = w26 at BK152 HB HR156_2 hx156_0 hx156_1 hx156_2 hHeld ⊢
                      refine pure_ (i := 0) (N := some 41) (v := ?_) (a' := ?_) #[true, false, false, false, false, false, false, false, false] rfl rfl (any_of HT_.out (by kernel_rfl)) (fun _ _ _ h => h) (Or.inl ⟨by rfl, ?_⟩) ?_ ?_
                      rotate_left
                      · intro w'
                        go_simp
                        with_reducible rfl
                      rotate_left
                      · simp only [Act.put, List.setIfInBounds_toArray, List.set_cons_zero, List.set_cons_succ, i64_w, i32_w]
                        rfl
                      refine pure_ (i := 2) (N := some 43) (v := ?_) (a' := ?_) #[true, false, true, false, false, false, false, false, false] rfl rfl (any_of HT_.out (by kernel_rfl)) (fun _ _ _ h => h) (Or.inl ⟨by rfl, ?_⟩) ?_ ?_
                      rotate_left
                      · intro w'
                        go_simp
                        with_reducible rfl
                      rotate_left
                      · simp only [Act.put, List.setIfInBounds_toArray, List.set_cons_zero, List.set_cons_succ, i64_w, i32_w]
                        rfl
                      refine pure_ (i := 5) (N := some 46) (v := ?_) (a' := ?_) #[true, false, true, false, false, true, false, false, false] rfl rfl (any_of HT_.out (by kernel_rfl)) (fun _ _ _ h => h) (Or.inl ⟨by rfl, ?_⟩) ?_ ?_
                      rotate_left
                      · intro w'
                        go_simp
                        with_reducible rfl
                      rotate_left
                      · simp only [Act.put, List.setIfInBounds_toArray, List.set_cons_zero, List.set_cons_succ, i64_w, i32_w]
                        rfl
                      refine take_ (i := 1) (N := some 42) (v := ?_) (a' := ?_) #[true, true, true, false, false, true, false, false, false] rfl rfl (take_ofW HT_.out HW_.out (by kernel_rfl)) (fun _ _ _ h => h) (Or.inl ⟨by rfl, ?_⟩) hHeld ?_ ?_
                      rotate_left
                      · rintro w' ⟨s0, s1, s2, s3, s4⟩
                        go_simp
                        with_reducible rfl
                      rotate_left
                      · simp only [Act.put, List.setIfInBounds_toArray, List.set_cons_zero, List.set_cons_succ, i64_w, i32_w]
                        rfl
                      refine pure_ (i := 3) (N := some 44) (v := ?_) (a' := ?_) #[true, true, true, true, false, true, false, false, false] rfl rfl (any_of HT_.out (by kernel_rfl)) (fun _ _ _ h => h) (Or.inl ⟨by rfl, ?_⟩) ?_ ?_
                      rotate_left
                      · intro w'
                        go_simp
                        with_reducible rfl
                      rotate_left
                      · simp only [Act.put, List.setIfInBounds_toArray, List.set_cons_zero, List.set_cons_succ, i64_w, i32_w]
                        rfl
                      refine take_ (i := 4) (N := some 45) (v := ?_) (a' := ?_) #[true, true, true, true, true, true, false, false, false] rfl rfl (take_ofW HT_.out HW_.out (by kernel_rfl)) (fun _ _ _ h => h) (Or.inl ⟨by rfl, ?_⟩) hHeld ?_ ?_
                      rotate_left
                      · rintro w' ⟨s0, s1, s2, s3, s4⟩
                        go_simp
                        with_reducible rfl
                      rotate_left
                      · simp only [Act.put, List.setIfInBounds_toArray, List.set_cons_zero, List.set_cons_succ, i64_w, i32_w]
                        rfl
                      refine take_ (i := 6) (N := some 47) (v := ?_) (a' := ?_) #[true, true, true, true, true, true, true, false, false] rfl rfl (take_ofW HT_.out HW_.out (by kernel_rfl)) (fun _ _ _ h => h) (Or.inl ⟨by rfl, ?_⟩) hHeld ?_ ?_
                      rotate_left
                      · rintro w' ⟨s0, s1, s2, s3, s4⟩
                        go_simp
                        with_reducible rfl
                      rotate_left
                      · simp only [Act.put, List.setIfInBounds_toArray, List.set_cons_zero, List.set_cons_succ, i64_w, i32_w]
                        rfl
                      refine one_ (i := 7) (N := some 48) #[true, true, true, true, true, true, true, true, false] rfl rfl (one_of HT_.out (by kernel_rfl)) (by decide) (fun K hK => ?_)
                      refine goes_ Try.func39 (by kernel_rfl) rfl #[.agg #[.int .i64 ((rd_T40 l0_1 x5_2).f0), .int .i64 ((rd_T40 l0_1 x5_2).f1), .slice A156_2 ((rd_T40 l0_1 x5_2).f2).length c156_2], .slice A0_0 l0_0.length c0_0] (by rfl) rfl rfl (by (try simp only [List.map_toArray, List.map_cons, List.map_nil]); first | done | rfl | (simp only [List.length_drop, List.length_take]; rfl)) ?_
                      with_reducible refine (rosetteref15_one.calls k2 ((rd_T40 l0_1 x5_2).f0) ((rd_T40 l0_1 x5_2).f1) _ _ ((rd_T40 l0_1 x5_2).f2) _ _ l0_0 true _ ?side1 ?side2 ?side3 ?side4 A13.out).mono ?_
                      (case side1 => repeat (first | exact (Kd.C_below HR156_2.out HB.out) | (with_reducible refine Kd.C_alloc ?_ _) | (with_reducible refine Kd.C_drewN ?_ _) | (with_reducible refine Kd.C_drew ?_)))
                      (case side2 => exact HC156_2.out)
                      (case side3 => repeat (first | exact (Kd.C_below HR0_0.out HB.out) | (with_reducible refine Kd.C_alloc ?_ _) | (with_reducible refine Kd.C_drewN ?_ _) | (with_reducible refine Kd.C_drew ?_)))
                      (case side4 => exact HC0_0.out)
                      rintro e w27 ⟨rfl, hb⟩
                      refine ⟨_, rfl, ?_⟩
                      have n0_ := Aside0.mk (blk_below (g := gb152) (o := .cells #[.slice A0_0 l0_0.length c0_0, .slice (some ad156) l0_1.length c0_1] 25 (0, 0)) (by (with_reducible repeat (first | refine blk_drewN ?_ _ | refine blk_drew ?_ | refine blk_alloc ?_ _)); exact BK152.out) hb)
                      have n1_ := Aside0.mk (below_step (by repeat (first | (with_reducible first | exact HB.out | apply below_alloc | apply pw_below_drewN | apply below_drew1 | refine below_set ?_ GE152.out) | exact HB.out)) hb)
                      clear BK152
                      clear HB
                      have BK152 := n0_
                      have HB := n1_
                      clear n0_ n1_
                      (try clear hb)
                      (try clear hb2)
                      (try clear hk)
                      (try clear hi)
                      refine hK.out _ _ ⟨(blk_cell BK152.out 0).trans rfl, (blk_cell BK152.out 1).trans rfl, ((HB.out.cell (World.block_lt_of_cell? w _ hw156_0)).trans hw156_0), ((HB.out.cell (World.block_lt_of_cell? w _ hw156_1)).trans hw156_1), ((HB.out.cell (World.block_lt_of_cell? w _ hw156_2)).trans hw156_2)⟩ (fun hHeld => ?_)
                      clear hK K
                      refine norm_ (a' := ?_) ?_ ?_
                      rotate_left
                      · show Act.put _ (some 48) _ = _
                        simp only [Act.put, List.setIfInBounds_toArray, List.set_cons_zero, List.set_cons_succ, i64_w, i32_w]
                        rfl
                      refine pure_ (i := 8) (N := some 6) (v := ?_) (a' := ?_) #[true, true, true, true, true, true, true, true, true] rfl rfl (any_of HT_.out (by kernel_rfl)) (fun _ _ _ h => h) (Or.inl ⟨by rfl, ?_⟩) ?_ ?_
                      rotate_left
                      · intro w'
                        go_simp
                        with_reducible rfl
                      rotate_left
                      · simp only [Act.put, List.setIfInBounds_toArray, List.set_cons_zero, List.set_cons_succ, i64_w, i32_w]
                        rfl
                      refine done_ (done_of HT_.out (by kernel_rfl)) ?_
                      have hcz28_0 : w27.cell? ⟨gb152, 0, none⟩ = some (.slice A0_0 l0_0.length c0_0) := (blk_cell BK152.out 0).trans rfl
                      have hcz28_1 : w27.cell? ⟨gb152, 1, none⟩ = some (.slice (some ad156) l0_1.length c0_1) := (blk_cell BK152.out 1).trans rfl
                      have hfz28_0 := blk_frozen BK152.out 0
                      have hfz28_1 := blk_frozen BK152.out 1
                      have p158 : 0 ≤ (x5_2 : Int) := of_decide_eq_true (by first | (with_reducible assumption) | assumption)
                      have q158 : x5_2 < (l0_1.length : Int) := of_decide_eq_true (by first | (with_reducible assumption) | assumption)
                      obtain ⟨ad158, A158_2, c158_2, e158, hx158_0, hx158_1, hx158_2, hl158_2, hi158_2⟩ := at_T40 HR0_1.out x5_2 p158 q158
                      obtain rfl : ad156 = ad158 := (by injection e158)
                      replace hx158_0 := (HB.out.cell (World.block_lt_of_cell? w _ hx158_0)).trans hx158_0
                      replace hx158_1 := (HB.out.cell (World.block_lt_of_cell? w _ hx158_1)).trans hx158_1
                      replace hx158_2 := (HB.out.cell (World.block_lt_of_cell? w _ hx158_2)).trans hx158_2
                      have HR158_2 := Aside0.mk hi158_2
                      have HC158_2 := Aside0.mk hl158_2
                      clear hi158_2 hl158_2
                      replace p158 := eq_true p158
                      replace q158 := eq_true q158
                      have p159 : 0 ≤ (x5_2 : Int) := of_decide_eq_true (by first | (with_reducible assumption) | assumption)
                      have q159 : x5_2 < (l0_1.length : Int) := of_decide_eq_true (by first | (with_reducible assumption) | assumption)
                      obtain ⟨ad159, A159_2, c159_2, e159, hx159_0, hx159_1, hx159_2, hl159_2, hi159_2⟩ := at_T40 HR0_1.out x5_2 p159 q159
                      obtain rfl : ad156 = ad159 := (by injection e159)
                      replace hx159_0 := (HB.out.cell (World.block_lt_of_cell? w _ hx159_0)).trans hx159_0
                      replace hx159_1 := (HB.out.cell (World.block_lt_of_cell? w _ hx159_1)).trans hx159_1
                      replace hx159_2 := (HB.out.cell (World.block_lt_of_cell? w _ hx159_2)).trans hx159_2
                      have HR159_2 := Aside0.mk hi159_2
                      have HC159_2 := Aside0.mk hl159_2
                      clear hi159_2 hl159_2
                      replace p159 := eq_true p159
                      replace q159 := eq_true q159
                      have ea_ := Option.some.inj (hx158_2.symm.trans hx159_2)
                      injection ea_ with ea_ en_ ec_
                      subst ea_
                      subst ec_
                      clear en_
                      have p160 : 0 ≤ (x5_2 : Int) := of_decide_eq_true (by first | (with_reducible assumption) | assumption)
                      have q160 : x5_2 < (l0_1.length : Int) := of_decide_eq_true (by first | (with_reducible assumption) | assumption)
                      obtain ⟨ad160, A160_2, c160_2, e160, hx160_0, hx160_1, hx160_2, hl160_2, hi160_2⟩ := at_T40 HR0_1.out x5_2 p160 q160
                      obtain rfl : ad156 = ad160 := (by injection e160)
                      replace hx160_0 := (HB.out.cell (World.block_lt_of_cell? w _ hx160_0)).trans hx160_0
                      replace hx160_1 := (HB.out.cell (World.block_lt_of_cell? w _ hx160_1)).trans hx160_1
                      replace hx160_2 := (HB.out.cell (World.block_lt_of_cell? w _ hx160_2)).trans hx160_2
                      have HR160_2 := Aside0.mk hi160_2
                      have HC160_2 := Aside0.mk hl160_2
                      clear hi160_2 hl160_2
                      replace p160 := eq_true p160
                      replace q160 := eq_true q160
                      have ea_ := Option.some.inj (hx158_2.symm.trans hx160_2)
                      injection ea_ with ea_ en_ ec_
                      subst ea_
                      subst ec_
                      clear en_
                      try go_wp2
                      go_roundg k2
                      case measure => have := HK1.out; have := HK2.out; omega
                      case rel => exact ⟨((rd_T40 l0_1 x5_2).f0), (wrap64 (x5_2 + 1)), (by first | rfl | (simp; done) | (simp [*]; done)), (by first | rfl | (simp; done) | (simp [*]; done)), H', ⟨by have := HK1.out; have := HK2.out; omega⟩, ⟨by (with_reducible repeat (first | refine blk_drewN ?_ _ | refine blk_drew ?_ | refine blk_alloc ?_ _)); exact BK152.out⟩, ⟨by repeat (first | (with_reducible first | exact HB.out | apply below_alloc | apply pw_below_drewN | apply below_drew1 | refine below_set ?_ GE152.out) | exact HB.out)⟩⟩
                · replace c14 := Bool.eq_false_iff.mpr c14
                  subst c14
                  have H1 : (some false) = some r := by rw [if_neg (show ¬ (false = true) by decide)] at H; exact H
                  clear H
                  have H := H1
                  clear H1
                  obtain rfl := Option.some.inj H
                  have hcz29_0 : wr.cell? ⟨gb152, 0, none⟩ = some (.slice A0_0 l0_0.length c0_0) := (blk_cell BK152.out 0).trans rfl
                  have hcz29_1 : wr.cell? ⟨gb152, 1, none⟩ = some (.slice A0_1 l0_1.length c0_1) := (blk_cell BK152.out 1).trans rfl
                  have hfz29_0 := blk_frozen BK152.out 0
                  have hfz29_1 := blk_frozen BK152.out 1
                  try go_wp2
                  have n0_ := Aside0.mk (blk_drew BK152.out)
                  have n1_ := Aside0.mk (below_drew1 HB.out)
                  clear BK152
                  clear HB
                  have BK152 := n0_
                  have HB := n1_
                  clear n0_ n1_
                  have p156 : 0 ≤ (x5_2 : Int) := of_decide_eq_true (by first | (with_reducible assumption) | assumption)
                  have q156 : x5_2 < (l0_1.length : Int) := of_decide_eq_true (by first | (with_reducible assumption) | assumption)
                  obtain ⟨ad156, A156_2, c156_2, e156, hx156_0, hx156_1, hx156_2, hl156_2, hi156_2⟩ := at_T40 HR0_1.out x5_2 p156 q156
                  have hw156_2 := hx156_2
                  have hw156_1 := hx156_1
                  have hw156_0 := hx156_0
                  cases e156
                  replace hx156_0 := (HB.out.cell (World.block_lt_of_cell? w _ hx156_0)).trans hx156_0
                  replace hx156_1 := (HB.out.cell (World.block_lt_of_cell? w _ hx156_1)).trans hx156_1
                  replace hx156_2 := (HB.out.cell (World.block_lt_of_cell? w _ hx156_2)).trans hx156_2
                  have HR156_2 := Aside0.mk hi156_2
                  have HC156_2 := Aside0.mk hl156_2
                  clear hi156_2 hl156_2
                  replace p156 := eq_true p156
                  replace q156 := eq_true q156
                  refine start_ (n := 9) (S := fun w' => w'.cell? ⟨gb152, 0, none⟩ = some (.slice A0_0 l0_0.length c0_0) ∧ w'.cell? ⟨gb152, 1, none⟩ = some (.slice (some ad156) l0_1.length c0_1) ∧ w'.cell? (ad156.add ((x5_2).toNat * 3)) = some (.int .i64 ((rd_T40 l0_1 x5_2).f0)) ∧ w'.cell? ⟨(ad156.add ((x5_2).toNat * 3)).block, (ad156.add ((x5_2).toNat * 3)).off + 1, none⟩ = some (.int .i64 ((rd_T40 l0_1 x5_2).f1)) ∧ w'.cell? ⟨(ad156.add ((x5_2).toNat * 3)).block, (ad156.add ((x5_2).toNat * 3)).off + 2, none⟩ = some (.slice A156_2 ((rd_T40 l0_1 x5_2).f2).length c156_2)) (ds := []) #[false, false, false, false, false, false, false, false, false] (by kernel_rfl) rfl rfl ⟨(blk_cell BK152.out 0).trans rfl, (blk_cell BK152.out 1).trans rfl, ((HB.out.cell (World.block_lt_of_cell? w _ hw156_0)).trans hw156_0), ((HB.out.cell (World.block_lt_of_cell? w _ hw156_1)).trans hw156_1), ((HB.out.cell (World.block_lt_of_cell? w _ hw156_2)).trans hw156_2)⟩ (fun hHeld => ?_); refine with_tabW rosetteref15_Right.tab12 rosetteref15_Right.bits12 (fun HT_ HW_ => ?_)
                  generalize wr.drew = w30 at BK152 HB HR156_2 hx156_0 hx156_1 hx156_2 hHeld ⊢
                  refine pure_ (i := 0) (N := some 41) (v := ?_) (a' := ?_) #[true, false, false, false, false, false, false, false, false] rfl rfl (any_of HT_.out (by kernel_rfl)) (fun _ _ _ h => h) (Or.inl ⟨by rfl, ?_⟩) ?_ ?_
                  rotate_left
                  · intro w'
                    go_simp
                    with_reducible rfl
                  rotate_left
                  · simp only [Act.put, List.setIfInBounds_toArray, List.set_cons_zero, List.set_cons_succ, i64_w, i32_w]
                    rfl
                  refine pure_ (i := 2) (N := some 43) (v := ?_) (a' := ?_) #[true, false, true, false, false, false, false, false, false] rfl rfl (any_of HT_.out (by kernel_rfl)) (fun _ _ _ h => h) (Or.inl ⟨by rfl, ?_⟩) ?_ ?_
                  rotate_left
                  · intro w'
                    go_simp
                    with_reducible rfl
                  rotate_left
                  · simp only [Act.put, List.setIfInBounds_toArray, List.set_cons_zero, List.set_cons_succ, i64_w, i32_w]
                    rfl
                  refine pure_ (i := 5) (N := some 46) (v := ?_) (a' := ?_) #[true, false, true, false, false, true, false, false, false] rfl rfl (any_of HT_.out (by kernel_rfl)) (fun _ _ _ h => h) (Or.inl ⟨by rfl, ?_⟩) ?_ ?_
                  rotate_left
                  · intro w'
                    go_simp
                    with_reducible rfl
                  rotate_left
                  · simp only [Act.put, List.setIfInBounds_toArray, List.set_cons_zero, List.set_cons_succ, i64_w, i32_w]
                    rfl
                  refine take_ (i := 1) (N := some 42) (v := ?_) (a' := ?_) #[true, true, true, false, false, true, false, false, false] rfl rfl (take_ofW HT_.out HW_.out (by kernel_rfl)) (fun _ _ _ h => h) (Or.inl ⟨by rfl, ?_⟩) hHeld ?_ ?_
                  rotate_left
                  · rintro w' ⟨s0, s1, s2, s3, s4⟩
                    go_simp
                    with_reducible rfl
                  rotate_left
                  · simp only [Act.put, List.setIfInBounds_toArray, List.set_cons_zero, List.set_cons_succ, i64_w, i32_w]
                    rfl
                  refine pure_ (i := 3) (N := some 44) (v := ?_) (a' := ?_) #[true, true, true, true, false, true, false, false, false] rfl rfl (any_of HT_.out (by kernel_rfl)) (fun _ _ _ h => h) (Or.inl ⟨by rfl, ?_⟩) ?_ ?_
                  rotate_left
                  · intro w'
                    go_simp
                    with_reducible rfl
                  rotate_left
                  · simp only [Act.put, List.setIfInBounds_toArray, List.set_cons_zero, List.set_cons_succ, i64_w, i32_w]
                    rfl
                  refine take_ (i := 4) (N := some 45) (v := ?_) (a' := ?_) #[true, true, true, true, true, true, false, false, false] rfl rfl (take_ofW HT_.out HW_.out (by kernel_rfl)) (fun _ _ _ h => h) (Or.inl ⟨by rfl, ?_⟩) hHeld ?_ ?_
                  rotate_left
                  · rintro w' ⟨s0, s1, s2, s3, s4⟩
                    go_simp
                    with_reducible rfl
                  rotate_left
                  · simp only [Act.put, List.setIfInBounds_toArray, List.set_cons_zero, List.set_cons_succ, i64_w, i32_w]
                    rfl
                  refine take_ (i := 6) (N := some 47) (v := ?_) (a' := ?_) #[true, true, true, true, true, true, true, false, false] rfl rfl (take_ofW HT_.out HW_.out (by kernel_rfl)) (fun _ _ _ h => h) (Or.inl ⟨by rfl, ?_⟩) hHeld ?_ ?_
                  rotate_left
                  · rintro w' ⟨s0, s1, s2, s3, s4⟩
                    go_simp
                    with_reducible rfl
                  rotate_left
                  · simp only [Act.put, List.setIfInBounds_toArray, List.set_cons_zero, List.set_cons_succ, i64_w, i32_w]
                    rfl
                  refine one_ (i := 7) (N := some 48) #[true, true, true, true, true, true, true, true, false] rfl rfl (one_of HT_.out (by kernel_rfl)) (by decide) (fun K hK => ?_)
                  refine goes_ Try.func39 (by kernel_rfl) rfl #[.agg #[.int .i64 ((rd_T40 l0_1 x5_2).f0), .int .i64 ((rd_T40 l0_1 x5_2).f1), .slice A156_2 ((rd_T40 l0_1 x5_2).f2).length c156_2], .slice A0_0 l0_0.length c0_0] (by rfl) rfl rfl (by (try simp only [List.map_toArray, List.map_cons, List.map_nil]); first | done | rfl | (simp only [List.length_drop, List.length_take]; rfl)) ?_
                  with_reducible refine (rosetteref15_one.calls k2 ((rd_T40 l0_1 x5_2).f0) ((rd_T40 l0_1 x5_2).f1) _ _ ((rd_T40 l0_1 x5_2).f2) _ _ l0_0 false _ ?side1 ?side2 ?side3 ?side4 A13.out).mono ?_
                  (case side1 => repeat (first | exact (Kd.C_below HR156_2.out HB.out) | (with_reducible refine Kd.C_alloc ?_ _) | (with_reducible refine Kd.C_drewN ?_ _) | (with_reducible refine Kd.C_drew ?_)))
                  (case side2 => exact HC156_2.out)
                  (case side3 => repeat (first | exact (Kd.C_below HR0_0.out HB.out) | (with_reducible refine Kd.C_alloc ?_ _) | (with_reducible refine Kd.C_drewN ?_ _) | (with_reducible refine Kd.C_drew ?_)))
                  (case side4 => exact HC0_0.out)
                  rintro e w31 ⟨rfl, hb⟩
                  refine ⟨_, rfl, ?_⟩
                  have n0_ := Aside0.mk (blk_below (g := gb152) (o := .cells #[.slice A0_0 l0_0.length c0_0, .slice (some ad156) l0_1.length c0_1] 25 (0, 0)) (by (with_reducible repeat (first | refine blk_drewN ?_ _ | refine blk_drew ?_ | refine blk_alloc ?_ _)); exact BK152.out) hb)
                  have n1_ := Aside0.mk (below_step (by repeat (first | (with_reducible first | exact HB.out | apply below_alloc | apply pw_below_drewN | apply below_drew1 | refine below_set ?_ GE152.out) | exact HB.out)) hb)
                  clear BK152
                  clear HB
                  have BK152 := n0_
                  have HB := n1_
                  clear n0_ n1_
                  (try clear hb)
                  (try clear hb2)
                  (try clear hk)
                  (try clear hi)
                  refine hK.out _ _ ⟨(blk_cell BK152.out 0).trans rfl, (blk_cell BK152.out 1).trans rfl, ((HB.out.cell (World.block_lt_of_cell? w _ hw156_0)).trans hw156_0), ((HB.out.cell (World.block_lt_of_cell? w _ hw156_1)).trans hw156_1), ((HB.out.cell (World.block_lt_of_cell? w _ hw156_2)).trans hw156_2)⟩ (fun hHeld => ?_)
                  clear hK K
                  refine norm_ (a' := ?_) ?_ ?_
                  rotate_left
                  · show Act.put _ (some 48) _ = _
                    simp only [Act.put, List.setIfInBounds_toArray, List.set_cons_zero, List.set_cons_succ, i64_w, i32_w]
                    rfl
                  refine pure_ (i := 8) (N := some 6) (v := ?_) (a' := ?_) #[true, true, true, true, true, true, true, true, true] rfl rfl (any_of HT_.out (by kernel_rfl)) (fun _ _ _ h => h) (Or.inl ⟨by rfl, ?_⟩) ?_ ?_
                  rotate_left
                  · intro w'
                    go_simp
                    with_reducible rfl
                  rotate_left
                  · simp only [Act.put, List.setIfInBounds_toArray, List.set_cons_zero, List.set_cons_succ, i64_w, i32_w]
                    rfl
                  refine done_ (done_of HT_.out (by kernel_rfl)) ?_
                  try go_wp2
                  go_ret
                  exact ⟨by first | rfl | (simp [errW_none, errW_some] <;> rfl) | (simp [*, errW_none, errW_some] <;> rfl), by repeat (first | (with_reducible first | exact HB.out | apply below_alloc | apply pw_below_drewN | apply below_drew1 | refine below_set ?_ GE152.out) | exact HB.out)⟩
              · rw [if_neg c12] at H
                exact absurd H (by simp)
            · rw [if_neg c11] at H
              have c11b0 : decide (x5_2 < (l0_1.length : Int)) = false := decide_eq_false c11
              clear c11
              by_cases c32 : (l0_0.length : Int) ≤ 16
              · rw [if_pos c32] at H
                have c32b0 : decide ((l0_0.length : Int) ≤ 16) = true := decide_eq_true c32
                have c32b1 : decide (l0_0.length ≤ 16) = true := decide_eq_true (by omega)
                clear c32
                obtain rfl := Option.some.inj H
                have hcz33_0 : wr.cell? ⟨gb152, 0, none⟩ = some (.slice A0_0 l0_0.length c0_0) := (blk_cell BK152.out 0).trans rfl
                have hcz33_1 : wr.cell? ⟨gb152, 1, none⟩ = some (.slice A0_1 l0_1.length c0_1) := (blk_cell BK152.out 1).trans rfl
                have hfz33_0 := blk_frozen BK152.out 0
                have hfz33_1 := blk_frozen BK152.out 1
                go_wp2
                go_ret
                exact ⟨by first | rfl | (simp [errW_none, errW_some] <;> rfl) | (simp [*, errW_none, errW_some] <;> rfl), by repeat (first | (with_reducible first | exact HB.out | apply below_alloc | apply pw_below_drewN | apply below_drew1 | refine below_set ?_ GE152.out) | exact HB.out)⟩
              · rw [if_neg c32] at H
                have c32b0 : decide ((l0_0.length : Int) ≤ 16) = false := decide_eq_false c32
                have c32b1 : decide (l0_0.length ≤ 16) = false := decide_eq_false (by omega)
                clear c32
                obtain rfl := Option.some.inj H
                have hcz34_0 : wr.cell? ⟨gb152, 0, none⟩ = some (.slice A0_0 l0_0.length c0_0) := (blk_cell BK152.out 0).trans rfl
                have hcz34_1 : wr.cell? ⟨gb152, 1, none⟩ = some (.slice A0_1 l0_1.length c0_1) := (blk_cell BK152.out 1).trans rfl
                have hfz34_0 := blk_frozen BK152.out 0
                have hfz34_1 := blk_frozen BK152.out 1
                go_wp2
                go_ret
                exact ⟨by first | rfl | (simp [errW_none, errW_some] <;> rfl) | (simp [*, errW_none, errW_some] <;> rfl), by repeat (first | (with_reducible first | exact HB.out | apply below_alloc | apply pw_below_drewN | apply below_drew1 | refine below_set ?_ GE152.out) | exact HB.out)⟩

end Go.Proofs.Ytkdhcmmfklganaa.G
end

section
/- which states are right: the document's answer; plain laws -/
set_option linter.unusedVariables false
set_option autoImplicit false
namespace Go.Proofs.Ytkdhcmmfklganaa
open Go.RowKit Go.Proofs.YtkdhcmmfklganaaW.PrintWords Go.Proofs.YtkdhcmmfklganaaW.PrintLast Go.Proofs.Ytkdhcmmfklganaa.G

theorem one_in (links : List Int) (hl : links.length ≤ 4611686018427387904) (f0 f1 : Int) (f2 : List S46) : ∀ (d k i : Nat) (b : Bool), i + d = links.length → d < k → rosetteref15_one.l1 k links b (i : Int) f0 f1 f2 = some ((b || (links.drop i).contains f1) && decide (f2.length ≤ 12)) := by
  intro d
  induction d with
  | zero =>
    intro k i b hi hk
    obtain ⟨k, rfl⟩ : ∃ m, k = m + 1 := ⟨k - 1, by omega⟩
    simp only [rosetteref15_one.l1]
    rw [if_neg (by omega), List.drop_of_length_le (by omega)]
    cases b with
    | true =>
      rw [if_pos rfl]
      congr 1
      simp
      omega
    | false => rfl
  | succ d ih =>
    intro k i b hi hk
    obtain ⟨k, rfl⟩ : ∃ m, k = m + 1 := ⟨k - 1, by omega⟩
    have hlt : i < links.length := by omega
    have hr : rd links (i : Int) = links[i] := by simp [rd, List.getD_eq_getElem?_getD, hlt]
    have hw : wrap64 ((i : Int) + 1) = ((i + 1 : Nat) : Int) := by unfold wrap64; omega
    simp only [rosetteref15_one.l1]
    rw [if_pos (by omega), hw, List.drop_eq_getElem_cons hlt, List.contains_cons]
    cases b with
    | true =>
      rw [if_pos rfl, ih k (i + 1) true (by omega) (by omega)]
      simp
    | false =>
      rw [if_neg (by decide), if_pos (by omega), hr, ih k (i + 1) _ (by omega) (by omega), Bool.false_or]
      rw [show (links[i] == f1) = (f1 == links[i]) from Bool.beq_comm]
theorem wrong_step (x : S46) (rest : Option Bool) : (if (x.f0.size : Int) < 1 then (some false) else (if (x.f0.size : Int) > 16 then (some false) else (if x.f1 < (-2147483648) then (some false) else (if x.f1 > 2147483647 then (some false) else (if x.f2 < (-2147483648) then (some false) else (if x.f2 > 2147483647 then (some false) else rest)))))) = (if wrongB x = true then some false else rest) := by
  by_cases h : wrongB x = true
  · rw [if_pos h]
    unfold wrongB at h
    simp only [Bool.not_eq_true', Bool.and_eq_false_iff] at h
    by_cases a1 : (x.f0.size : Int) < 1
    · rw [if_pos a1]
    rw [if_neg a1]
    by_cases a2 : (x.f0.size : Int) > 16
    · rw [if_pos a2]
    rw [if_neg a2]
    by_cases a3 : x.f1 < -2147483648
    · rw [if_pos a3]
    rw [if_neg a3]
    by_cases a4 : x.f1 > 2147483647
    · rw [if_pos a4]
    rw [if_neg a4]
    by_cases a5 : x.f2 < -2147483648
    · rw [if_pos a5]
    rw [if_neg a5]
    by_cases a6 : x.f2 > 2147483647
    · rw [if_pos a6]
    exfalso
    have e1 : inB (x.f0.size : Int) 1 16 = true := (inB_iff _ _ _).2 (by omega)
    have e2 : inB x.f1 (-2147483648) 2147483647 = true := (inB_iff _ _ _).2 (by omega)
    have e3 : inB x.f2 (-2147483648) 2147483647 = true := (inB_iff _ _ _).2 (by omega)
    rw [e1, e2, e3] at h
    simp at h
  · rw [if_neg h]
    unfold wrongB at h
    simp only [Bool.not_eq_true', Bool.not_eq_false, Bool.and_eq_true, inB_iff] at h
    rw [if_neg (by omega), if_neg (by omega), if_neg (by omega), if_neg (by omega), if_neg (by omega), if_neg (by omega)]
theorem one_out (links : List Int) (hl : links.length ≤ 4611686018427387904) (f0 f1 : Int) (f2 : List S46) (hf : f2.length ≤ 4611686018427387904) : ∀ (d k i : Nat), i + d = f2.length → d + links.length + 1 < k → rosetteref15_one.l0 k links (i : Int) f0 f1 f2 = some (!((f2.drop i).any wrongB) && (links.contains f1 && decide (f2.length ≤ 12))) := by
  intro d
  induction d with
  | zero =>
    intro k i hi hk
    obtain ⟨k, rfl⟩ : ∃ m, k = m + 1 := ⟨k - 1, by omega⟩
    simp only [rosetteref15_one.l0]
    rw [if_neg (by omega), List.drop_of_length_le (by omega)]
    have := one_in links hl f0 f1 f2 links.length k 0 false (by omega) (by omega)
    rw [List.drop_zero, Bool.false_or] at this
    exact this
  | succ d ih =>
    intro k i hi hk
    obtain ⟨k, rfl⟩ : ∃ m, k = m + 1 := ⟨k - 1, by omega⟩
    have hlt : i < f2.length := by omega
    have hr : rd_T46 f2 (i : Int) = f2[i] := by simp [rd_T46, List.getD_eq_getElem?_getD, hlt]
    simp only [rosetteref15_one.l0]
    rw [if_pos (by omega), if_pos (by omega), hr, wrong_step, show wrap64 ((i : Int) + 1) = ((i + 1 : Nat) : Int) by unfold wrap64; omega, ih k (i + 1) (by omega) (by omega), List.drop_eq_getElem_cons hlt, List.any_cons]
    cases wrongB f2[i] <;> simp
theorem one_f (links : List Int) (hl : links.length ≤ 4611686018427387904) (x : S40) (hf : x.f2.length ≤ 4611686018427387904) (k : Nat) (hk : x.f2.length + links.length + 1 < k) : rosetteref15_one.f k x.f0 x.f1 x.f2 links = some (subB links x) := by
  have h := one_out links hl x.f0 x.f1 x.f2 hf x.f2.length k 0 (by omega) hk
  rw [List.drop_zero] at h
  refine h.trans ?_
  unfold subB
  cases x.f2.any wrongB <;> cases links.contains x.f1 <;> cases decide (x.f2.length ≤ 12) <;> rfl
theorem in_step (n last : Int) (rest : Option Bool) : (if n ≤ last then some false else if n > 65535 then some false else rest) = (if inB n (last + 1) 65535 = true then rest else some false) := by
  by_cases h : inB n (last + 1) 65535 = true
  · rw [if_pos h]
    rw [inB_iff] at h
    rw [if_neg (by omega), if_neg (by omega)]
  · rw [if_neg h]
    rw [inB_iff] at h
    by_cases h1 : n ≤ last
    · rw [if_pos h1]
    · rw [if_neg h1, if_pos (by omega)]
theorem right_in (links : List Int) (subs : List S40) (M : Nat) (hl : links.length ≤ 4611686018427387904) (hs : subs.length ≤ 4611686018427387904) (hM : M ≤ 4611686018427387904) (hx : ∀ x ∈ subs, x.f2.length ≤ M) : ∀ (d k i : Nat) (last : Int), i + d = subs.length → d + M + links.length + 1 < k → rosetteref15_Right.l1 k last (i : Int) links subs = some (subsB links last (subs.drop i) && (decide (links.length ≤ 16) && decide (subs.length ≤ 64))) := by
  intro d
  induction d with
  | zero =>
    intro k i last hi hk
    obtain ⟨k, rfl⟩ : ∃ m, k = m + 1 := ⟨k - 1, by omega⟩
    simp only [rosetteref15_Right.l1]
    rw [if_neg (by omega), List.drop_of_length_le (by omega)]
    unfold subsB
    by_cases h : links.length ≤ 16
    · rw [if_pos (by omega), decide_eq_true h, Bool.true_and, Bool.true_and]
      congr 1
      by_cases h2 : subs.length ≤ 64
      · rw [decide_eq_true h2, decide_eq_true (by omega)]
      · rw [decide_eq_false h2, decide_eq_false (by omega)]
    · rw [if_neg (by omega), decide_eq_false h]
      rfl
  | succ d ih =>
    intro k i last hi hk
    obtain ⟨k, rfl⟩ : ∃ m, k = m + 1 := ⟨k - 1, by omega⟩
    have hlt : i < subs.length := by omega
    have hr : rd_T40 subs (i : Int) = subs[i] := by simp [rd_T40, List.getD_eq_getElem?_getD, hlt]
    have hm := hx subs[i] (List.getElem_mem hlt)
    have ho := one_f links hl subs[i] (by omega) k (by omega)
    simp only [rosetteref15_Right.l1]
    rw [if_pos (by omega), if_pos (by omega), hr, ho, Option.bind_some, in_step, show wrap64 ((i : Int) + 1) = ((i + 1 : Nat) : Int) by unfold wrap64; omega, ih k (i + 1) _ (by omega) (by omega), List.drop_eq_getElem_cons hlt]
    rw [show subsB links last (subs[i] :: subs.drop (i + 1)) = (inB subs[i].f0 (last + 1) 65535 && (subB links subs[i] && subsB links subs[i].f0 (subs.drop (i + 1)))) from rfl]
    cases subB links subs[i] <;> cases inB subs[i].f0 (last + 1) 65535 <;> simp
theorem right_out (links : List Int) (subs : List S40) (M : Nat) (hl : links.length ≤ 4611686018427387904) (hs : subs.length ≤ 4611686018427387904) (hM : M ≤ 4611686018427387904) (hx : ∀ x ∈ subs, x.f2.length ≤ M) : ∀ (d k i : Nat) (last : Int), i + d = links.length → d + subs.length + M + links.length + 2 < k → rosetteref15_Right.l0 k last (i : Int) links subs = some (ascB last (links.drop i) && (subsB links 0 subs && (decide (links.length ≤ 16) && decide (subs.length ≤ 64)))) := by
  intro d
  induction d with
  | zero =>
    intro k i last hi hk
    obtain ⟨k, rfl⟩ : ∃ m, k = m + 1 := ⟨k - 1, by omega⟩
    simp only [rosetteref15_Right.l0]
    rw [if_neg (by omega), List.drop_of_length_le (by omega)]
    have := right_in links subs M hl hs hM hx subs.length k 0 0 (by omega) (by omega)
    rw [List.drop_zero] at this
    refine this.trans ?_
    rfl
  | succ d ih =>
    intro k i last hi hk
    obtain ⟨k, rfl⟩ : ∃ m, k = m + 1 := ⟨k - 1, by omega⟩
    have hlt : i < links.length := by omega
    have hr : rd links (i : Int) = links[i] := by simp [rd, List.getD_eq_getElem?_getD, hlt]
    simp only [rosetteref15_Right.l0]
    rw [if_pos (by omega), if_pos (by omega), hr, in_step, show wrap64 ((i : Int) + 1) = ((i + 1 : Nat) : Int) by unfold wrap64; omega, ih k (i + 1) _ (by omega) (by omega), List.drop_eq_getElem_cons hlt]
    rw [show ascB last (links[i] :: links.drop (i + 1)) = (inB links[i] (last + 1) 65535 && ascB links[i] (links.drop (i + 1))) from rfl]
    cases inB links[i] (last + 1) 65535 <;> simp
theorem right_f (links : List Int) (subs : List S40) (M : Nat) (hl : links.length ≤ 4611686018427387904) (hs : subs.length ≤ 4611686018427387904) (hM : M ≤ 4611686018427387904) (hx : ∀ x ∈ subs, x.f2.length ≤ M) (k : Nat) (hk : links.length + subs.length + M + links.length + 2 < k) : rosetteref15_Right.f k links subs = some (rightB links subs) := by
  have h := right_out links subs M hl hs hM hx links.length k 0 0 (by omega) hk
  rw [List.drop_zero] at h
  exact h
end Go.Proofs.Ytkdhcmmfklganaa
end

section
/- rosetteref15.Decode, walked -/
set_option linter.unusedVariables false
set_option linter.unusedSimpArgs false
set_option autoImplicit false
namespace Go.Proofs.Ytkdhcmmfklganaa
open Go.RowKit Go.Proofs.YtkdhcmmfklganaaW.PrintWords Go.Proofs.YtkdhcmmfklganaaW.PrintLast Go.Proofs.YtkdhcmmfklganaaW.PrintMore Go.Proofs.Ytkdhcmmfklganaa.G

set_option maxHeartbeats 400000 in
theorem rsign (n : Int) (hn : 0 ≤ n ∧ n < 4294967296) (w : World) : Calls Try.prog 33 #[.int .i64 n] w fun e w' => e = .returned (.int .i64 (sgn n)) ∧ w' = w := by
  have hs : sgn n = if n ≥ 2147483648 then n - 4294967296 else n := rfl
  generalize sgn n = q at hs ⊢
  by_cases h : n ≥ 2147483648
  · rw [if_pos h] at hs
    subst hs
    have h' : 2147483648 ≤ n := h
    go_enter Try.func33, Try.ntmps33
    go_wp2_with fail
    go_ret
    exact ⟨by go_num, rfl⟩
  · rw [if_neg h] at hs
    subst hs
    have h' : ¬ 2147483648 ≤ q := h
    go_enter Try.func33, Try.ntmps33
    go_wp2_with fail
    go_ret
    exact ⟨rfl, rfl⟩
/-- so many, whether there is an error or not -/
def reps {α : Type} (P : Sc → α × Sc) : Nat → Sc → List α × Sc
  | 0, s => ([], s)
  | n + 1, s => ((P s).1 :: (reps P n (P s).2).1, (reps P n (P s).2).2)
theorem reps_len {α : Type} (P : Sc → α × Sc) : ∀ (n : Nat) (s : Sc), (reps P n s).1.length = n := by
  intro n
  induction n with
  | zero => intro s; rfl
  | succ n ih => intro s; rw [reps, List.length_cons, ih]
theorem reps_dead {α : Type} {P : Sc → α × Sc} (hP : ∀ s : Sc, s.e ≠ 0 → (P s).2 = s) : ∀ (n : Nat) (s : Sc), s.e ≠ 0 → (reps P n s).2 = s := by
  intro n
  induction n with
  | zero => intro s _; rfl
  | succ n ih => intro s hs; rw [reps, hP s hs]; exact ih s hs
theorem reps_rep {α : Type} {P : Sc → α × Sc} (hP : ∀ s : Sc, s.e ≠ 0 → (P s).2 = s) : ∀ (n : Nat) (s : Sc), (reps P n s).2 = (Pars.rep P n s).2 ∧ ((Pars.rep P n s).2.e = 0 → (reps P n s).1 = (Pars.rep P n s).1) := by
  intro n
  induction n with
  | zero => intro s; exact ⟨rfl, fun _ => rfl⟩
  | succ n ih =>
    intro s
    rw [reps, Pars.rep]
    by_cases hs : s.e = 0
    · rw [if_pos hs]
      exact ⟨(ih _).1, fun h => by simp only at h ⊢; rw [(ih _).2 h]⟩
    · rw [if_neg hs, hP s hs]
      exact ⟨reps_dead hP n s hs, fun h => absurd h hs⟩
theorem num_dead (n : Nat) (s : Sc) (hs : s.e ≠ 0) : (s.num n).2 = s := by
  show (s.take n).2 = s
  unfold Sc.take
  rw [if_neg hs]
theorem rep_all {α : Type} {P : Sc → α × Sc} {q : α → Prop} (hq : ∀ s, q (P s).1) : ∀ (n : Nat) (s : Sc), ∀ x ∈ (Pars.rep P n s).1, q x := by
  intro n
  induction n with
  | zero => intro s x hx; simp [Pars.rep] at hx
  | succ n ih =>
    intro s x hx
    rw [Pars.rep] at hx
    split at hx
    · rcases List.mem_cons.1 hx with rfl | hx
      · exact hq s
      · exact ih _ x hx
    · simp at hx
theorem sub_len (s : Sc) : (subP s).1.f2.length ≤ 12 := by
  have e : (subP s).1.f2 = (Pars.rep rgP (((s.num 2).2.num 2).2.count 12).1.toNat (((s.num 2).2.num 2).2.count 12).2).1 := rfl
  rw [e]
  have h := rep_len rgP (((s.num 2).2.num 2).2.count 12).1.toNat (((s.num 2).2.num 2).2.count 12).2
  have h2 : (((s.num 2).2.num 2).2.count 12).1 ≤ 12 := by
    unfold Sc.count
    split
    · simp
    · omega
  omega
theorem dec_head15 (l : List Int) : dec15 l = if headE l ≠ 0 then (([], []), headE l) else if (fP ⟨l.drop 4, 0⟩).2.endE ≠ 0 then (([], []), (fP ⟨l.drop 4, 0⟩).2.endE) else if rightB (fP ⟨l.drop 4, 0⟩).1.1 (fP ⟨l.drop 4, 0⟩).1.2 = true then ((fP ⟨l.drop 4, 0⟩).1, 0) else (([], []), 3) := by
  unfold dec15 headE
  by_cases h4 : l.length < 4
  · rw [if_pos h4, if_pos h4, if_pos (by decide)]
  rw [if_neg h4, if_neg h4]
  by_cases h3 : l.take 3 ≠ [82, 83, 84]
  · rw [if_pos h3, if_pos h3, if_pos (by decide)]
  rw [if_neg h3, if_neg h3]
  have h3' : l.take 3 = [82, 83, 84] := Classical.byContradiction h3
  have e4 : l.take 4 = [82, 83, 84, rd l 3] := by
    have h := List.take_append_drop 3 (l.take 4)
    rw [List.take_take, Nat.min_eq_left (by omega), h3'] at h
    have h5 : (l.take 4).drop 3 = [rd l 3] := by
      match l, h4 with
      | a :: b :: c :: d :: l, _ => rfl
      | [], h => simp at h
      | [_], h => simp at h
      | [_, _], h => simp at h
      | [_, _, _], h => simp at h
    rw [← h, h5]
    rfl
  by_cases h1 : rd l 3 = 1
  · have t4 : ¬ l.take 4 ≠ [82, 83, 84, 1] := by rw [e4, h1]; simp
    have t1 : ¬ rd l 3 ≠ 1 := by simpa using h1
    rw [if_neg t4, if_neg t1, if_neg (show ¬ (0 : Int) ≠ 0 by simp)]
  · have t4 : l.take 4 ≠ [82, 83, 84, 1] := by rw [e4]; simpa using h1
    rw [if_pos t4, if_pos h1, if_pos (by decide)]
/-- where Decode stands: the result's block, the scan, the state that is read -/
structure DecR0 (w wr : World) (g : Nat) (s : Sc) : Prop where
  res : wr.heap[w.heap.size]? = some (.cells #[.slice none 0 0, .slice none 0 0] 25 (0, 0))
  rdr : Rdr 65 (fun k => k < w.heap.size) wr g s
  lo : w.heap.size < g
  below : Below w.heap.size w wr
structure DecR (w wr : World) (B g F : Nat) (s : Sc) (vl vs : Value) : Prop where
  res : wr.heap[w.heap.size]? = some (.cells #[.slice none 0 0, .slice none 0 0] 25 (0, 0))
  heap : wr.heap[F]? = some (.cells #[vl, vs] 25 (0, 0))
  rdr : Rdr 65 (fun k => k < w.heap.size) wr g s
  lo : w.heap.size < g
  gf : g < F
  hi : F < B
  hb : B ≤ wr.heap.size
  below : Below w.heap.size w wr
section
variable {w wr wy : World} {B g F : Nat} {s s' : Sc} {vl vs v1 : Value}
theorem DecR0.f (h : DecR0 w wr g s) : DecR w (wr.alloc (.cells #[.slice none 0 0, .slice none 0 0] 25 (0, 0))) (wr.heap.size + 1) g wr.heap.size s (.slice none 0 0) (.slice none 0 0) := by
  have hb := (Below.refl wr.heap.size wr).alloc (Nat.le_refl _) (.cells #[.slice none 0 0, .slice none 0 0] 25 (0, 0))
  exact ⟨vkeepB h.res hb, heap_alloc_new wr _, h.rdr.below hb, h.lo, h.rdr.lt, by omega, by simp, below_via6 h.below hb⟩
theorem DecR.call (h : DecR w wr B g F s vl vs) (hr : Rdr 65 (fun k => k < w.heap.size) wy g s') (hg : wr.grownBy wy (some g)) : DecR w wy B g F s' vl vs :=
  ⟨vkeepG h.res hg (fun e => by have := h.lo; omega), vkeepG h.heap hg (fun e => by have := h.gf; omega), hr, h.lo, h.gf, h.hi, Nat.le_trans h.hb hg.size, below_of_grown h.below hg (by have := h.lo; omega)⟩
theorem DecR.step (h : DecR w wr B g F s vl vs) (hb : Below wr.heap.size wr wy) : DecR w wy B g F s vl vs :=
  ⟨vkeepB h.res hb, vkeepB h.heap hb, h.rdr.below hb, h.lo, h.gf, h.hi, Nat.le_trans h.hb hb.size, below_via6 h.below hb⟩
theorem DecR.raise (h : DecR w wr B g F s vl vs) : DecR w wr wr.heap.size g F s vl vs := ⟨h.res, h.heap, h.rdr, h.lo, h.gf, Nat.lt_of_lt_of_le h.hi h.hb, Nat.le_refl _, h.below⟩
theorem DecR.mid (h : DecR w wr B g F s vl vs) (hb : Below B wr wy) : DecR w wy B g F s vl vs := by
  have hlo := h.lo
  have hgf := h.gf
  have hhi := h.hi
  exact ⟨by rw [hb.block _ (by omega)]; exact h.res, by rw [hb.block _ (by omega)]; exact h.heap, h.rdr.keep (fun k _ hs => hb.block k (by rcases hs with rfl | hs; omega; have h1 : k < w.heap.size := hs; omega)), hlo, hgf, hhi, Nat.le_trans h.hb hb.size, h.below.trans (hb.mono (by omega))⟩
theorem DecR.put0 (h : DecR w wr B g F s vl vs) (v1 : Value) : DecR w (wr.setCell ⟨F, 0, none⟩ v1) B g F s v1 vs := by
  have hlo := h.lo
  have hgf := h.gf
  exact ⟨by rw [heap_setCell_other _ _ _ _ (by simp; omega)]; exact h.res, heap_setCell_same _ _ _ _ _ _ h.heap, h.rdr.keep (fun k _ hs => Below.heap_setCell _ _ _ _ (fun e => by have h1 : k = F := e; rcases hs with rfl | hs; omega; have h2 : k < w.heap.size := hs; omega)), h.lo, h.gf, h.hi, by simpa using h.hb, h.below.setCell (by simp; omega) _⟩
theorem DecR.put1 (h : DecR w wr B g F s vl vs) (v1 : Value) : DecR w (wr.setCell ⟨F, 1, none⟩ v1) B g F s vl v1 := by
  have hlo := h.lo
  have hgf := h.gf
  exact ⟨by rw [heap_setCell_other _ _ _ _ (by simp; omega)]; exact h.res, heap_setCell_same _ _ _ _ _ _ h.heap, h.rdr.keep (fun k _ hs => Below.heap_setCell _ _ _ _ (fun e => by have h1 : k = F := e; rcases hs with rfl | hs; omega; have h2 : k < w.heap.size := hs; omega)), h.lo, h.gf, h.hi, by simpa using h.hb, h.below.setCell (by simp; omega) _⟩
end
theorem rdrR_start {w w2 : World} {A : Option Addr} {c : Nat} {l : List Int} (hC : (Kd.int .u8).C w A l.length l) (hu : u8s l) (hz : w2.heap[w.heap.size]? = some (.cells #[.slice none 0 0, .slice none 0 0] 25 (0, 0))) (hB : Below w.heap.size w w2) (hs : w.heap.size < w2.heap.size) (hc : l.length ≤ c) (hc2 : c ≤ 9223372036854775807) (h4 : 4 ≤ l.length) (hl : l.length ≤ 100000) {A' : Option Addr} (hA : A' = if c = 4 then A else A.map (·.add 4)) :
    DecR0 w (w2.alloc (.cells #[.slice A' (l.length - 4) (c - 4), .int .i64 0] 65 (0, 0))) w2.heap.size ⟨l.drop 4, 0⟩ := by
  subst hA
  have hb := (Below.refl w2.heap.size w2).alloc (Nat.le_refl _) (.cells #[.slice (if c = 4 then A else A.map (·.add 4)) (l.length - 4) (c - 4), .int .i64 0] 65 (0, 0))
  refine ⟨vkeepB hz hb, ⟨u8s_drop hu 4, by simp; omega, by simp; omega, by simp, _, c - 4, ?_, by simp; omega, by omega, ((drop_C hC hc 4 h4 (by omega)).keep (fun k hk _ => hB.block k hk)).below hb⟩, hs, below_via6 hB hb⟩
  rw [List.length_drop]
  exact heap_alloc_new w2 _
/-- where a loop over ranges stands -/
def SubR (S : Nat → Prop) (w wr : World) (g : Nat) (s : Sc) (id fr : Int) (v : Value) (rs : List S46) : Prop :=
  Own1 65 40 (fun k => S k ∧ k < w.heap.size) w wr g s #[.int .i64 id, .int .i64 fr, v] ∧ k46.R 46 wr (w.heap.size + 1) (fun k => w.heap.size < k) v rs
section
variable {S : Nat → Prop} {w wr wy : World} {g : Nat} {s s' : Sc} {id fr : Int} {v v1 : Value} {rs rs1 : List S46}
theorem SubR.below (h : SubR S w wr g s id fr v rs) (hb : Below wr.heap.size wr wy) : SubR S w wy g s id fr v rs := ⟨h.1.below hb, Kd.R_below h.2 hb⟩
theorem SubR.call (h : SubR S w wr g s id fr v rs) (hr : Rdr 65 (fun k => S k ∧ k < w.heap.size) wy g s') (hg : wr.grownBy wy (some g)) : SubR S w wy g s' id fr v rs :=
  ⟨h.1.call hr hg, Kd.R_grown h.2 hg (fun k hk e => by cases e; have := h.1.lt; omega)⟩
theorem SubR.put (h : SubR S w wr g s id fr v rs) (hb : Below (w.heap.size + 1) wr wy) (hr : k46.R 46 wy (w.heap.size + 1) (fun k => w.heap.size < k) v1 rs1) : SubR S w (wy.setCell ⟨w.heap.size, 2, none⟩ v1) g s id fr v1 rs1 := by
  have hlt := h.1.lt
  have hk : ∀ k, k < w.heap.size + 1 → wy.heap[k]? = wr.heap[k]? := fun k hk => hb.block k hk
  have h1 : Own1 65 40 (fun k => S k ∧ k < w.heap.size) w wy g s #[.int .i64 id, .int .i64 fr, v] :=
    ⟨by rw [hk _ (by omega)]; exact h.1.heap, h.1.rdr.keep (fun k _ hs => hk k (by rcases hs with rfl | hs; omega; have := hs.2; omega)), h.1.low, h.1.lt, ⟨hb.os.trans h.1.grown.os, hb.tape.trans h.1.grown.tape, hb.output.trans h.1.grown.output, Nat.le_trans h.1.grown.size hb.size, fun k hk' hne => (hk k (by omega)).trans (h.1.grown.block k hk' hne)⟩⟩
  exact ⟨h1.store 2 v1, Kd.R_far (p := ⟨w.heap.size, 2, none⟩) hr (fun k hk e => by have h2 : k = w.heap.size := e; omega) v1⟩
end
theorem num_range {s : Sc} (hu : u8s s.l) : 0 ≤ (s.num 4).1 ∧ (s.num 4).1 < 4294967296 := by
  have hl := s.take_len 4
  have hb := big_lt (s.take 4).1 (Sc.take_u8s hu 4).1 (s.take 4).1.length (Nat.le_refl _)
  rw [List.take_of_length_le (Nat.le_refl _)] at hb
  have h4 : (s.take 4).1.length ≤ 4 := by omega
  have h5 : (s.take 4).1.length = 0 ∨ (s.take 4).1.length = 1 ∨ (s.take 4).1.length = 2 ∨ (s.take 4).1.length = 3 ∨ (s.take 4).1.length = 4 := by omega
  refine ⟨hb.1, Int.lt_of_lt_of_le hb.2 ?_⟩
  rcases h5 with h | h | h | h | h <;> rw [h] <;> decide
set_option maxRecDepth 100000 in
set_option maxHeartbeats 8000000 in
theorem rdecode15 (A0 : Option Addr) (c0 : Nat) (l0 : List Int) (w : World) (hr0 : (Kd.int .u8).C w A0 l0.length l0) (hc0 : l0.length ≤ c0) (hc1 : c0 ≤ 9223372036854775807) (hu : u8s l0) (hl : l0.length ≤ 100000) :
    Calls Try.prog 13 #[.slice A0 l0.length c0] w fun e w' => ∃ A1 c1 A2 c2, e = .returned (.tuple #[.agg #[.slice A1 (dec15 l0).1.1.length c1, .slice A2 (dec15 l0).1.2.length c2], .int .i64 (dec15 l0).2]) ∧ Kd.C (Kd.int .i64) w' A1 (dec15 l0).1.1.length (dec15 l0).1.1 ∧ (dec15 l0).1.1.length ≤ c1 ∧ Kd.C k40 w' A2 (dec15 l0).1.2.length (dec15 l0).1.2 ∧ (dec15 l0).1.2.length ≤ c2 ∧ Below w.heap.size w w' := by
  have HR0 := Aside0.mk hr0
  have HU := Aside0.mk hu
  clear hr0 hu
  have hB := (Below.refl w.heap.size w).alloc (Nat.le_refl _) (.cells #[.slice none 0 0, .slice none 0 0] 25 (0, 0))
  have HB := Aside0.mk hB
  have HZ := Aside0.mk (heap_alloc_new w (.cells #[.slice none 0 0, .slice none 0 0] 25 (0, 0)))
  clear hB
  have hsz : w.heap.size < (w.alloc (.cells #[.slice none 0 0, .slice none 0 0] 25 (0, 0))).heap.size := by simp
  have HSZ := Aside0.mk hsz
  clear hsz
  have hdq := dec_head15 l0
  have h4q : headE l0 = 0 → 4 ≤ l0.length := by
    intro h
    unfold headE at h
    split at h
    · exact absurd h (by decide)
    · omega
  generalize dec15 l0 = q at hdq ⊢
  have HHd := Aside0.mk (whead15 A0 c0 l0 (w.alloc (.cells #[.slice none 0 0, .slice none 0 0] 25 (0, 0))) (Kd.C_below HR0.out HB.out) hc0 HU.out)
  go_enter Try.func13, Try.ntmps13
  go_upto_region 1 with fail
  generalize w.alloc (.cells #[.slice none 0 0, .slice none 0 0] 25 (0, 0)) = w2 at HB HZ HSZ HHd ⊢
  have HZ2 := HZ
  have HB2 := HB
  have HS2 := HSZ
  generalize headE l0 = he at hdq HHd h4q
  have HDQ := Aside0.mk hdq
  have H4Q := Aside0.mk h4q
  clear hdq h4q
  go_wp2_with fail
  refine HHd.out.mono ?_
  rintro e w1 ⟨rfl, hw1⟩
  obtain rfl : w2 = w1 := hw1.symm
  clear HHd
  have hdq := HDQ.out
  clear HDQ
  by_cases he0 : he = 0
  case neg =>
    rw [if_pos he0] at hdq
    have HD := Aside0.mk hdq
    have b0 : (he != 0) = true := by simp [he0]
    clear hdq he0
    obtain ⟨⟨z0, z1⟩, z2, z3⟩ := cells2r HZ.out
    go_wp2_with fail
    have hz := two_zero HZ.out HB.out
    refine bodyPost_ret (results_ct rfl _ _ w.heap.size 25 _ (0, 0) _ rfl hz.1 Try.underlying25 rfl info_fi) rfl ?_
    exact ⟨none, 0, none, 0, by rw [HD.out]; rfl, by rw [HD.out]; exact Kd.C_nil _ _, by rw [HD.out]; simp, by rw [HD.out]; exact Kd.C_nil _ _, by rw [HD.out]; simp, hz.2⟩
  rw [if_neg (by simpa using he0)] at hdq
  have h4 := H4Q.out he0
  have b0 : (he != 0) = false := by simp [he0]
  have HDQ := Aside0.mk hdq
  clear hdq H4Q he0
  have h4c : 4 ≤ c0 := by omega
  go_upto_region 4 with fail
  go_cut [5] from 21 to 24 (fun p wx => p = .pointer (some ⟨w2.heap.size, 0, none⟩) ∧ Aside0 (DecR0 w wx w2.heap.size ⟨l0.drop 4, 0⟩))
  case first =>
    by_cases hc4 : c0 = 4
    · subst hc4
      have hle4 : l0.length = 4 := by omega
      have HL4 := Aside0.mk hle4
      clear hle4
      go_wp2
      go_meet
      exact ⟨rfl, ⟨by have h_ := rdrR_start (c := 4) (A' := A0) HR0.out HU.out HZ2.out HB2.out HS2.out (by have := HL4.out; omega) (by decide) (by have := HL4.out; omega) (by have := HL4.out; omega) (by rw [if_pos rfl]); rw [HL4.out] at h_; exact h_⟩⟩
    · go_wp2
      go_meet
      exact ⟨rfl, ⟨rdrR_start HR0.out HU.out HZ2.out HB2.out HS2.out hc0 hc1 (by omega) hl (by rw [if_neg hc4]; rfl)⟩⟩
  case rest =>
  obtain ⟨rfl, HD00⟩ := hcut
  clear h4c HZ HB HSZ HZ2 HS2 HB2 b0
  obtain ⟨g, hg⟩ : ∃ g, w2.heap.size = g := ⟨_, rfl⟩
  rw [hg] at HD00 ⊢
  clear hg
  obtain ⟨wq, hwq⟩ : ∃ q, q = wc := ⟨_, rfl⟩
  rw [← hwq] at HD00 ⊢
  clear hwq
  have HD0 := Aside0.mk HD00.out.f
  clear HD00
  have hdq := HDQ.out
  clear HDQ
  have hcl : 0 ≤ ((⟨l0.drop 4, 0⟩ : Sc).count 16).1 ∧ ((⟨l0.drop 4, 0⟩ : Sc).count 16).1 ≤ 16 := Sc.count_le HD0.out.rdr.u8 16
  obtain ⟨n0, s1, h1⟩ : ∃ (n : Nat) (q : Sc), (⟨l0.drop 4, 0⟩ : Sc).count 16 = ((n : Int), q) := ⟨((⟨l0.drop 4, 0⟩ : Sc).count 16).1.toNat, ((⟨l0.drop 4, 0⟩ : Sc).count 16).2, by rw [Int.toNat_of_nonneg hcl.1]⟩
  have hn0 : n0 ≤ 16 := by rw [h1] at hcl; simp only at hcl; omega
  have hrr := reps_rep (num_dead 2) n0 s1
  obtain ⟨lk, s2, h2⟩ : ∃ a b, Pars.rep (fun s => s.num 2) n0 s1 = (a, b) := ⟨_, _, rfl⟩
  obtain ⟨lr, hlrd⟩ : ∃ a, (reps (fun s => s.num 2) n0 s1).1 = a := ⟨_, rfl⟩
  have h2r : reps (fun s => s.num 2) n0 s1 = (lr, s2) := by rw [← hlrd]; refine Prod.ext rfl ?_; rw [hrr.1, h2]
  have hlrl : lr.length = n0 := by rw [← hlrd]; exact reps_len _ _ _
  obtain ⟨mm, s3, h3⟩ : ∃ a b, s2.count 64 = (a, b) := ⟨_, _, rfl⟩
  obtain ⟨sb, s4, h4q⟩ : ∃ a b, Pars.rep subP mm.toNat s3 = (a, b) := ⟨_, _, rfl⟩
  have HLR := Aside0.mk (show s4.e = 0 → lr = lk from fun h => by
    have h3e : s3.e = 0 := Classical.byContradiction fun hne => by have := (Pars.Good.rep good_sub mm.toNat).err s3 hne; rw [h4q] at this; simp only at this; rw [this] at h; exact hne h
    have h2e : s2.e = 0 := Classical.byContradiction fun hne => by have := (Pars.Good.count 64).err s2 hne; rw [h3] at this; simp only at this; rw [this] at h3e; exact hne h3e
    have := hrr.2 (by rw [h2]; exact h2e)
    rw [hlrd, h2] at this
    exact this)
  have hP : fP ⟨l0.drop 4, 0⟩ = ((lk, sb), s4) := by
    have e : fP ⟨l0.drop 4, 0⟩ = (((Pars.rep (fun s => s.num 2) ((⟨l0.drop 4, 0⟩ : Sc).count 16).1.toNat ((⟨l0.drop 4, 0⟩ : Sc).count 16).2).1, (Pars.rep subP (((Pars.rep (fun s => s.num 2) ((⟨l0.drop 4, 0⟩ : Sc).count 16).1.toNat ((⟨l0.drop 4, 0⟩ : Sc).count 16).2).2).count 64).1.toNat (((Pars.rep (fun s => s.num 2) ((⟨l0.drop 4, 0⟩ : Sc).count 16).1.toNat ((⟨l0.drop 4, 0⟩ : Sc).count 16).2).2).count 64).2).1), (Pars.rep subP (((Pars.rep (fun s => s.num 2) ((⟨l0.drop 4, 0⟩ : Sc).count 16).1.toNat ((⟨l0.drop 4, 0⟩ : Sc).count 16).2).2).count 64).1.toNat (((Pars.rep (fun s => s.num 2) ((⟨l0.drop 4, 0⟩ : Sc).count 16).1.toNat ((⟨l0.drop 4, 0⟩ : Sc).count 16).2).2).count 64).2).2) := rfl
    rw [e, h1]
    simp only
    rw [Int.toNat_natCast, h2]
    simp only
    rw [h3]
    simp only
    rw [h4q]
  rw [hP] at hdq
  have HDQ := Aside0.mk hdq
  have hlk := Aside0.mk hlrl
  have hsb12 := Aside0.mk (show ∀ x ∈ sb, x.f2.length ≤ 12 by have := rep_all (P := subP) (q := fun x => x.f2.length ≤ 12) sub_len mm.toNat s3; rw [h4q] at this; exact this)
  have hsb := Aside0.mk (show sb.length ≤ mm.toNat by have := rep_len subP mm.toNat s3; rw [h4q] at this; exact this)
  have HE := Aside0.mk (And.intro h1 (And.intro h2r (And.intro h3 h4q)))
  clear hcl hdq hP h1 h2 h2r h3 h4q h4 hrr hlrd hlrl
  go_upto_region 6 with fail
  obtain ⟨F, hF⟩ : ∃ F, wq.heap.size = F := ⟨_, rfl⟩
  generalize wq.alloc (.cells #[.slice none 0 0, .slice none 0 0] 25 (0, 0)) = wp at HD0 ⊢
  rw [hF] at HD0 ⊢
  clear hF
  go_wp2_with fail
  refine (rcount HD0.out.rdr 16 (by decide)).mono ?_
  rintro e w3 ⟨rfl, hs, hg⟩
  rw [show (⟨l0.drop 4, 0⟩ : Sc).count ((16 : Nat) : Int) = ((n0 : Int), s1) from HE.out.1] at hs ⊢
  have HD1 := Aside0.mk (HD0.out.call hs hg).raise
  have hgw3 := Aside0.mk HD1.out.hi
  have HGF := Aside0.mk (And.intro HD1.out.gf HD1.out.hi)
  clear hs hg HD0
  go_upto_block 0 with fail
  go_cut [8] from 27 to 38 (fun n wx => ∃ v, Aside0 (DecR w wx w3.heap.size g F s2 v (.slice none 0 0)) ∧ Aside0 (Kd.R (Kd.int .i64) 3 wx w3.heap.size (fun k => w3.heap.size ≤ k) v lr))
  case first =>
    go_wp2_with fail
    go_loopw [8] (fun n wr => ∃ (j : Nat) (s : Sc) (v : Value) (ls : List Int), n = .int .i64 j ∧ j ≤ n0 ∧ Aside0 (ls.length = j) ∧ Aside0 (reps (fun s => s.num 2) n0 s1 = (ls ++ (reps (fun s => s.num 2) (n0 - j) s).1, (reps (fun s => s.num 2) (n0 - j) s).2)) ∧ Aside0 (DecR w wr w3.heap.size g F s v (.slice none 0 0)) ∧ Aside0 (Kd.R (Kd.int .i64) 3 wr w3.heap.size (fun k => w3.heap.size ≤ k) v ls)) (fun n _ => n0 - (intOf n).toNat)
    case atStart => exact ⟨0, s1, _, [], rfl, by omega, ⟨rfl⟩, ⟨by simp⟩, HD1, ⟨Kd.R_nil _ _ _ _ _⟩⟩
    case round =>
      obtain ⟨j, s, v, ls, rfl, hm, HL, HQ, HW, HV⟩ := hrel
      clear HD1
      obtain ⟨Av, cv, rfl⟩ := Kd.R_slice HV.out
      by_cases hm0 : j = n0
      · have HF := Aside0.mk (show (ls, s) = (lr, s2) by rw [← HE.out.2.1, HQ.out, hm0]; simp [reps])
        subst hm0
        go_wp2
        go_meet
        obtain ⟨rfl, rfl⟩ := Prod.mk.inj HF.out
        exact ⟨_, HW, HV⟩
      · have hm1 : j < n0 := by omega
        have HN := Aside0.mk (show reps (fun s => s.num 2) n0 s1 = ((ls ++ [(s.num 2).1]) ++ (reps (fun s => s.num 2) (n0 - (j + 1)) (s.num 2).2).1, (reps (fun s => s.num 2) (n0 - (j + 1)) (s.num 2).2).2) by
          rw [HQ.out]
          obtain ⟨d, hd⟩ : ∃ d, n0 - j = d + 1 := ⟨n0 - j - 1, by omega⟩
          rw [hd, show n0 - (j + 1) = d by omega, reps]
          simp)
        clear hm0 HQ
        go_upto_region 10 with fail
        have H1 := Aside0.mk (HW.out.step (below_drew (Below.refl _ _)))
        have R1 := Aside0.mk (Kd.R_drew HV.out)
        obtain ⟨⟨c0', c1'⟩, g0, g1⟩ := cells2r H1.out.heap
        refine wp_region_held_drew (S := (fun _ => True)) (by kernel_rfl) trivial (fun hHeld => ?_)
        refine wpAnyH_take (i := 0) (oi := { dst := some 32, op := Op.fieldAddr 25 (Operand.tmp 6) 0, type := 0, pos := "ref.go:163", after := #[], guard := none }) (v := ?_) rfl (by kernel_rfl) (by kernel_rfl) (by kernel_rfl) (fun _ _ _ h => h) (Or.inl ⟨by rfl, ?_⟩) (by assumption) ?_
        rotate_left
        · intro w hSw
          try dsimp only at hSw
          go_simp
          all_goals with_reducible rfl
        try simp only [Act.put, List.setIfInBounds_toArray, List.set_cons_zero, List.set_cons_succ]
        refine wpAnyH_take (i := 2) (oi := { dst := some 34, op := Op.move (Operand.tmp 5), type := 63, pos := "ref.go:163", after := #[], guard := none }) (v := ?_) rfl (by kernel_rfl) (by kernel_rfl) (by kernel_rfl) (fun _ _ _ h => h) (Or.inl ⟨by rfl, ?_⟩) (by assumption) ?_
        rotate_left
        · intro w hSw
          try dsimp only at hSw
          go_simp
          all_goals with_reducible rfl
        try simp only [Act.put, List.setIfInBounds_toArray, List.set_cons_zero, List.set_cons_succ]
        refine wpAnyH_ready (rs := [1, 3]) (by kernel_rfl) (by simp) ?_
        refine AllReadyH.cons (o := { dst := some 33, op := Op.load 22 (Operand.tmp 32), type := 22, pos := "ref.go:163", after := #[{ on := 0, ground := Ground.data }], guard := none }) rfl (fun K hK => ?_) ?_
        · skip
          go_simp
          refine hK.out _ _ trivial (fun hHeld => ?_)
          clear hK K
          try simp only [Act.put, List.setIfInBounds_toArray, List.set_cons_zero, List.set_cons_succ]
          refine wpAnyH_ready (rs := [3]) (by kernel_rfl) (by simp) ?_
          refine AllReadyH.cons (o := { dst := some 35, op := Op.call { callee := Callee.value (Operand.func 31), args := #[Operand.tmp 34, Operand.const (Value.int IntKind.i64 2)], argTypes := #[63, 3] }, type := 3, pos := "ref.go:163", after := #[{ on := 2, ground := Ground.data }], guard := none }) rfl (fun K hK => ?_) AllReadyH.nil
          go_simp
          (refine (rnum H1.out.rdr 2 (by decide)).mono ?_; rintro e w5 ⟨rfl, hs, hg⟩; have H2 := Aside0.mk (H1.out.call hs hg); have R2 := Aside0.mk (Kd.R_grown R1.out hg (fun k hk e => by cases e; have := H1.out.gf; have := H1.out.hi; omega)); clear hs hg; have q2 := (cells2r H2.out.heap).1.1; have H3 := Aside0.mk (H2.out.step ((Below.refl _ _).alloc (Nat.le_refl _) (.cells #[.int .i64 (s.num 2).1] 3))); have z2 := (cells2r H3.out.heap).1.1)
          go_wp2_with fail
          refine hK.out _ _ trivial (fun hHeld => ?_)
          clear hK K
          try simp only [Act.put, List.setIfInBounds_toArray, List.set_cons_zero, List.set_cons_succ]
          refine wpAnyH_ready (rs := [4]) (by kernel_rfl) (by simp) ?_
          refine AllReadyH.cons (o := { dst := some 36, op := Op.buildSlice 22 1 #[(0, Operand.tmp 35)], type := 22, pos := "ref.go:163", after := #[{ on := 3, ground := Ground.data }], guard := none }) rfl (fun K hK => ?_) AllReadyH.nil
          go_simp
          refine hK.out _ _ trivial (fun hHeld => ?_)
          clear hK K
          try simp only [Act.put, List.setIfInBounds_toArray, List.set_cons_zero, List.set_cons_succ]
          refine wpAnyH_ready (rs := [5]) (by kernel_rfl) (by simp) ?_
          refine AllReadyH.cons (o := { dst := some 37, op := Op.call { callee := Callee.builtin Builtin.append, args := #[Operand.tmp 33, Operand.tmp 36], argTypes := #[22, 22] }, type := 22, pos := "ref.go:163", after := #[{ on := 1, ground := Ground.data }, { on := 4, ground := Ground.data }, { on := 3, ground := Ground.chain }], guard := none }) rfl (fun K hK => ?_) AllReadyH.nil
          (refine step_append_kd (Kd.int .i64) (w0 := w5) w3.heap.size (by rfl) (.tmp 33) (.tmp 36) 22 3 _ 8 rfl Try.underlying22 info3 rfl (by decide) (by decide) (.slice Av ls.length cv) ls (s.num 2).1 [.int .i64 (s.num 2).1] (fun k => w3.heap.size ≤ k) (fun _ => False) rfl rfl rfl (fun _ hk => hk.elim) (fun k hk => by have := H2.out.hb; omega) R2.out (Below.refl _ _) H2.out.hb (by have := HL.out; omega) ?_; intro v1 w6 hR hB _ _; obtain ⟨ra, hra⟩ : ∃ l, ls ++ [(s.num 2).1] = l := ⟨_, rfl⟩; rw [hra] at hR; have RA := Aside0.mk hra; clear hra; obtain ⟨A1, c1', rfl⟩ := Kd.R_slice hR; have H4 := Aside0.mk ((H2.out.mid hB).put0 (.slice A1 ra.length c1')); have R4 := Aside0.mk (Kd.R_far (p := ⟨F, 0, none⟩) hR (fun k hk e => by have h2 : k = F := e; have := H2.out.hi; omega) (.slice A1 ra.length c1')); obtain ⟨⟨y0, y1⟩, y2, y3⟩ := cells2r (H2.out.mid hB).heap; clear hR hB)
          refine hK.out _ _ trivial (fun hHeld => ?_)
          clear hK K
          try simp only [Act.put, List.setIfInBounds_toArray, List.set_cons_zero, List.set_cons_succ]
          refine wpAnyH_take (i := 6) (oi := { dst := some 38, op := Op.fieldAddr 25 (Operand.tmp 6) 0, type := 0, pos := "ref.go:163", after := #[{ on := 0, ground := Ground.phase }, { on := 1, ground := Ground.phase }, { on := 2, ground := Ground.phase }, { on := 3, ground := Ground.phase }, { on := 4, ground := Ground.phase }, { on := 5, ground := Ground.phase }], guard := none }) (v := ?_) rfl (by kernel_rfl) (by kernel_rfl) (by kernel_rfl) (fun _ _ _ h => h) (Or.inl ⟨by rfl, ?_⟩) (by assumption) ?_
          rotate_left
          · intro w hSw
            try dsimp only at hSw
            go_simp
            all_goals with_reducible rfl
          try simp only [Act.put, List.setIfInBounds_toArray, List.set_cons_zero, List.set_cons_succ]
          refine wpAnyH_ready (rs := [7]) (by kernel_rfl) (by simp) ?_
          refine AllReadyH.cons (o := { dst := none, op := Op.store 22 (Operand.tmp 38) (Operand.tmp 37), type := 0, pos := "ref.go:163", after := #[{ on := 6, ground := Ground.data }, { on := 5, ground := Ground.data }, { on := 5, ground := Ground.chain }, { on := 0, ground := Ground.phase }, { on := 1, ground := Ground.phase }, { on := 2, ground := Ground.phase }, { on := 3, ground := Ground.phase }, { on := 4, ground := Ground.phase }, { on := 5, ground := Ground.phase }], guard := none }) rfl (fun K hK => ?_) AllReadyH.nil
          go_simp
          refine hK.out _ _ trivial (fun hHeld => ?_)
          clear hK K
          try simp only [Act.put, List.setIfInBounds_toArray, List.set_cons_zero, List.set_cons_succ]
          refine wpAnyH_done (by kernel_rfl) ?_ _
          go_wp2_with fail
          exact ⟨⟨j + 1, (s.num 2).2, _, ra, by go_num, by omega, ⟨by rw [← RA.out, List.length_append, List.length_singleton]; have := HL.out; omega⟩, ⟨by rw [← RA.out]; exact HN.out⟩, H4, R4⟩, by simp [intOf]; omega⟩
        refine AllReadyH.cons (o := { dst := some 35, op := Op.call { callee := Callee.value (Operand.func 31), args := #[Operand.tmp 34, Operand.const (Value.int IntKind.i64 2)], argTypes := #[63, 3] }, type := 3, pos := "ref.go:163", after := #[{ on := 2, ground := Ground.data }], guard := none }) rfl (fun K hK => ?_) AllReadyH.nil
        go_simp
        (refine (rnum H1.out.rdr 2 (by decide)).mono ?_; rintro e w5 ⟨rfl, hs, hg⟩; have H2 := Aside0.mk (H1.out.call hs hg); have R2 := Aside0.mk (Kd.R_grown R1.out hg (fun k hk e => by cases e; have := H1.out.gf; have := H1.out.hi; omega)); clear hs hg; have q2 := (cells2r H2.out.heap).1.1; have H3 := Aside0.mk (H2.out.step ((Below.refl _ _).alloc (Nat.le_refl _) (.cells #[.int .i64 (s.num 2).1] 3))); have z2 := (cells2r H3.out.heap).1.1)
        go_wp2_with fail
        refine hK.out _ _ trivial (fun hHeld => ?_)
        clear hK K
        try simp only [Act.put, List.setIfInBounds_toArray, List.set_cons_zero, List.set_cons_succ]
        refine wpAnyH_ready (rs := [1, 4]) (by kernel_rfl) (by simp) ?_
        refine AllReadyH.cons (o := { dst := some 33, op := Op.load 22 (Operand.tmp 32), type := 22, pos := "ref.go:163", after := #[{ on := 0, ground := Ground.data }], guard := none }) rfl (fun K hK => ?_) ?_
        · skip
          go_simp
          refine hK.out _ _ trivial (fun hHeld => ?_)
          clear hK K
          try simp only [Act.put, List.setIfInBounds_toArray, List.set_cons_zero, List.set_cons_succ]
          refine wpAnyH_ready (rs := [4]) (by kernel_rfl) (by simp) ?_
          refine AllReadyH.cons (o := { dst := some 36, op := Op.buildSlice 22 1 #[(0, Operand.tmp 35)], type := 22, pos := "ref.go:163", after := #[{ on := 3, ground := Ground.data }], guard := none }) rfl (fun K hK => ?_) AllReadyH.nil
          go_simp
          refine hK.out _ _ trivial (fun hHeld => ?_)
          clear hK K
          try simp only [Act.put, List.setIfInBounds_toArray, List.set_cons_zero, List.set_cons_succ]
          refine wpAnyH_ready (rs := [5]) (by kernel_rfl) (by simp) ?_
          refine AllReadyH.cons (o := { dst := some 37, op := Op.call { callee := Callee.builtin Builtin.append, args := #[Operand.tmp 33, Operand.tmp 36], argTypes := #[22, 22] }, type := 22, pos := "ref.go:163", after := #[{ on := 1, ground := Ground.data }, { on := 4, ground := Ground.data }, { on := 3, ground := Ground.chain }], guard := none }) rfl (fun K hK => ?_) AllReadyH.nil
          (refine step_append_kd (Kd.int .i64) (w0 := w5) w3.heap.size (by rfl) (.tmp 33) (.tmp 36) 22 3 _ 8 rfl Try.underlying22 info3 rfl (by decide) (by decide) (.slice Av ls.length cv) ls (s.num 2).1 [.int .i64 (s.num 2).1] (fun k => w3.heap.size ≤ k) (fun _ => False) rfl rfl rfl (fun _ hk => hk.elim) (fun k hk => by have := H2.out.hb; omega) R2.out (Below.refl _ _) H2.out.hb (by have := HL.out; omega) ?_; intro v1 w6 hR hB _ _; obtain ⟨ra, hra⟩ : ∃ l, ls ++ [(s.num 2).1] = l := ⟨_, rfl⟩; rw [hra] at hR; have RA := Aside0.mk hra; clear hra; obtain ⟨A1, c1', rfl⟩ := Kd.R_slice hR; have H4 := Aside0.mk ((H2.out.mid hB).put0 (.slice A1 ra.length c1')); have R4 := Aside0.mk (Kd.R_far (p := ⟨F, 0, none⟩) hR (fun k hk e => by have h2 : k = F := e; have := H2.out.hi; omega) (.slice A1 ra.length c1')); obtain ⟨⟨y0, y1⟩, y2, y3⟩ := cells2r (H2.out.mid hB).heap; clear hR hB)
          refine hK.out _ _ trivial (fun hHeld => ?_)
          clear hK K
          try simp only [Act.put, List.setIfInBounds_toArray, List.set_cons_zero, List.set_cons_succ]
          refine wpAnyH_take (i := 6) (oi := { dst := some 38, op := Op.fieldAddr 25 (Operand.tmp 6) 0, type := 0, pos := "ref.go:163", after := #[{ on := 0, ground := Ground.phase }, { on := 1, ground := Ground.phase }, { on := 2, ground := Ground.phase }, { on := 3, ground := Ground.phase }, { on := 4, ground := Ground.phase }, { on := 5, ground := Ground.phase }], guard := none }) (v := ?_) rfl (by kernel_rfl) (by kernel_rfl) (by kernel_rfl) (fun _ _ _ h => h) (Or.inl ⟨by rfl, ?_⟩) (by assumption) ?_
          rotate_left
          · intro w hSw
            try dsimp only at hSw
            go_simp
            all_goals with_reducible rfl
          try simp only [Act.put, List.setIfInBounds_toArray, List.set_cons_zero, List.set_cons_succ]
          refine wpAnyH_ready (rs := [7]) (by kernel_rfl) (by simp) ?_
          refine AllReadyH.cons (o := { dst := none, op := Op.store 22 (Operand.tmp 38) (Operand.tmp 37), type := 0, pos := "ref.go:163", after := #[{ on := 6, ground := Ground.data }, { on := 5, ground := Ground.data }, { on := 5, ground := Ground.chain }, { on := 0, ground := Ground.phase }, { on := 1, ground := Ground.phase }, { on := 2, ground := Ground.phase }, { on := 3, ground := Ground.phase }, { on := 4, ground := Ground.phase }, { on := 5, ground := Ground.phase }], guard := none }) rfl (fun K hK => ?_) AllReadyH.nil
          go_simp
          refine hK.out _ _ trivial (fun hHeld => ?_)
          clear hK K
          try simp only [Act.put, List.setIfInBounds_toArray, List.set_cons_zero, List.set_cons_succ]
          refine wpAnyH_done (by kernel_rfl) ?_ _
          go_wp2_with fail
          exact ⟨⟨j + 1, (s.num 2).2, _, ra, by go_num, by omega, ⟨by rw [← RA.out, List.length_append, List.length_singleton]; have := HL.out; omega⟩, ⟨by rw [← RA.out]; exact HN.out⟩, H4, R4⟩, by simp [intOf]; omega⟩
        refine AllReadyH.cons (o := { dst := some 36, op := Op.buildSlice 22 1 #[(0, Operand.tmp 35)], type := 22, pos := "ref.go:163", after := #[{ on := 3, ground := Ground.data }], guard := none }) rfl (fun K hK => ?_) AllReadyH.nil
        go_simp
        refine hK.out _ _ trivial (fun hHeld => ?_)
        clear hK K
        try simp only [Act.put, List.setIfInBounds_toArray, List.set_cons_zero, List.set_cons_succ]
        refine wpAnyH_ready (rs := [1]) (by kernel_rfl) (by simp) ?_
        refine AllReadyH.cons (o := { dst := some 33, op := Op.load 22 (Operand.tmp 32), type := 22, pos := "ref.go:163", after := #[{ on := 0, ground := Ground.data }], guard := none }) rfl (fun K hK => ?_) AllReadyH.nil
        go_simp
        refine hK.out _ _ trivial (fun hHeld => ?_)
        clear hK K
        try simp only [Act.put, List.setIfInBounds_toArray, List.set_cons_zero, List.set_cons_succ]
        refine wpAnyH_ready (rs := [5]) (by kernel_rfl) (by simp) ?_
        refine AllReadyH.cons (o := { dst := some 37, op := Op.call { callee := Callee.builtin Builtin.append, args := #[Operand.tmp 33, Operand.tmp 36], argTypes := #[22, 22] }, type := 22, pos := "ref.go:163", after := #[{ on := 1, ground := Ground.data }, { on := 4, ground := Ground.data }, { on := 3, ground := Ground.chain }], guard := none }) rfl (fun K hK => ?_) AllReadyH.nil
        (refine step_append_kd (Kd.int .i64) (w0 := w5) w3.heap.size (by rfl) (.tmp 33) (.tmp 36) 22 3 _ 8 rfl Try.underlying22 info3 rfl (by decide) (by decide) (.slice Av ls.length cv) ls (s.num 2).1 [.int .i64 (s.num 2).1] (fun k => w3.heap.size ≤ k) (fun _ => False) rfl rfl rfl (fun _ hk => hk.elim) (fun k hk => by have := H2.out.hb; omega) R2.out (Below.refl _ _) H2.out.hb (by have := HL.out; omega) ?_; intro v1 w6 hR hB _ _; obtain ⟨ra, hra⟩ : ∃ l, ls ++ [(s.num 2).1] = l := ⟨_, rfl⟩; rw [hra] at hR; have RA := Aside0.mk hra; clear hra; obtain ⟨A1, c1', rfl⟩ := Kd.R_slice hR; have H4 := Aside0.mk ((H2.out.mid hB).put0 (.slice A1 ra.length c1')); have R4 := Aside0.mk (Kd.R_far (p := ⟨F, 0, none⟩) hR (fun k hk e => by have h2 : k = F := e; have := H2.out.hi; omega) (.slice A1 ra.length c1')); obtain ⟨⟨y0, y1⟩, y2, y3⟩ := cells2r (H2.out.mid hB).heap; clear hR hB)
        refine hK.out _ _ trivial (fun hHeld => ?_)
        clear hK K
        try simp only [Act.put, List.setIfInBounds_toArray, List.set_cons_zero, List.set_cons_succ]
        refine wpAnyH_take (i := 6) (oi := { dst := some 38, op := Op.fieldAddr 25 (Operand.tmp 6) 0, type := 0, pos := "ref.go:163", after := #[{ on := 0, ground := Ground.phase }, { on := 1, ground := Ground.phase }, { on := 2, ground := Ground.phase }, { on := 3, ground := Ground.phase }, { on := 4, ground := Ground.phase }, { on := 5, ground := Ground.phase }], guard := none }) (v := ?_) rfl (by kernel_rfl) (by kernel_rfl) (by kernel_rfl) (fun _ _ _ h => h) (Or.inl ⟨by rfl, ?_⟩) (by assumption) ?_
        rotate_left
        · intro w hSw
          try dsimp only at hSw
          go_simp
          all_goals with_reducible rfl
        try simp only [Act.put, List.setIfInBounds_toArray, List.set_cons_zero, List.set_cons_succ]
        refine wpAnyH_ready (rs := [7]) (by kernel_rfl) (by simp) ?_
        refine AllReadyH.cons (o := { dst := none, op := Op.store 22 (Operand.tmp 38) (Operand.tmp 37), type := 0, pos := "ref.go:163", after := #[{ on := 6, ground := Ground.data }, { on := 5, ground := Ground.data }, { on := 5, ground := Ground.chain }, { on := 0, ground := Ground.phase }, { on := 1, ground := Ground.phase }, { on := 2, ground := Ground.phase }, { on := 3, ground := Ground.phase }, { on := 4, ground := Ground.phase }, { on := 5, ground := Ground.phase }], guard := none }) rfl (fun K hK => ?_) AllReadyH.nil
        go_simp
        refine hK.out _ _ trivial (fun hHeld => ?_)
        clear hK K
        try simp only [Act.put, List.setIfInBounds_toArray, List.set_cons_zero, List.set_cons_succ]
        refine wpAnyH_done (by kernel_rfl) ?_ _
        go_wp2_with fail
        exact ⟨⟨j + 1, (s.num 2).2, _, ra, by go_num, by omega, ⟨by rw [← RA.out, List.length_append, List.length_singleton]; have := HL.out; omega⟩, ⟨by rw [← RA.out]; exact HN.out⟩, H4, R4⟩, by simp [intOf]; omega⟩
  case rest =>
  obtain ⟨vl, HD2, HR2⟩ := hcut
  clear HD1
  obtain ⟨Al, cl, rfl⟩ := Kd.R_slice HR2.out
  obtain ⟨wd, hwd⟩ : ∃ q, q = wc := ⟨_, rfl⟩
  rw [← hwd] at HD2 HR2 ⊢
  clear hwd
  have hcl : 0 ≤ (s2.count 64).1 ∧ (s2.count 64).1 ≤ 64 := Sc.count_le HD2.out.rdr.u8 64
  obtain ⟨m0, hm0⟩ : ∃ n : Nat, mm = (n : Int) := ⟨mm.toNat, by have h := HE.out.2.2.1; rw [h] at hcl; simp only at hcl; omega⟩
  have hm64 : m0 ≤ 64 := by have h := HE.out.2.2.1; rw [h] at hcl; simp only at hcl; omega
  subst hm0
  clear hcl
  go_wp2_with fail
  refine (rcount HD2.out.rdr 64 (by decide)).mono ?_
  rintro e w4 ⟨rfl, hs, hg⟩
  rw [show s2.count ((64 : Nat) : Int) = ((m0 : Int), s3) from HE.out.2.2.1] at hs ⊢
  have HD3 := Aside0.mk (HD2.out.call hs hg).raise
  have HR3 := Aside0.mk (Kd.R_mono (Kd.R_bound (Kd.R_grown HR2.out hg (fun k hk e => by cases e; have := HD2.out.gf; have := HD2.out.hi; omega))) (ok' := fun k => w3.heap.size ≤ k ∧ k < w4.heap.size) (fun k hk => ⟨hk.1, hk.2.2.1⟩))
  clear hs hg HD2 HR2
  go_upto_block 2 with fail
  go_cut [9, 10, 11, 12, 13] from 41 to 98 (fun _ _ _ _ _ wx => ∃ v, Aside0 (DecR w wx w4.heap.size g F s4 (.slice Al lr.length cl) v) ∧ Aside0 (Kd.R (Kd.int .i64) 3 wx w3.heap.size (fun k => w3.heap.size ≤ k ∧ k < w4.heap.size) (.slice Al lr.length cl) lr) ∧ Aside0 (Kd.R k40 40 wx w4.heap.size (fun k => w4.heap.size ≤ k) v sb))
  case first =>
    go_wp2_with fail
    go_loopw [9] (fun n wr => ∃ (j : Nat) (s : Sc) (v : Value) (ls : List S40), n = .int .i64 j ∧ j ≤ m0 ∧ Aside0 (ls.length = j) ∧ Aside0 (Pars.rep subP m0 s3 = (ls ++ (Pars.rep subP (m0 - j) s).1, (Pars.rep subP (m0 - j) s).2)) ∧ Aside0 (DecR w wr w4.heap.size g F s (.slice Al lr.length cl) v) ∧ Aside0 (Kd.R (Kd.int .i64) 3 wr w3.heap.size (fun k => w3.heap.size ≤ k ∧ k < w4.heap.size) (.slice Al lr.length cl) lr) ∧ Aside0 (Kd.R k40 40 wr w4.heap.size (fun k => w4.heap.size ≤ k) v ls)) (fun n _ => m0 - (intOf n).toNat)
    case atStart => exact ⟨0, s3, _, [], rfl, by omega, ⟨rfl⟩, ⟨by simp⟩, HD3, HR3, ⟨Kd.R_nil _ _ _ _ _⟩⟩
    case round =>
      obtain ⟨j, s, v, ls, rfl, hm, HL, HQ, HW, HX, HV⟩ := hrel
      clear HD3 HR3
      obtain ⟨Av, cv, rfl⟩ := Kd.R_slice HV.out
      obtain ⟨A, c, d0, d1, d2, d3, e0, e1, f0, f1⟩ := HW.out.rdr.cells
      clear d0 d1 d2 d3
      by_cases hm0' : j = m0
      · have HF := Aside0.mk (show (ls, s) = (sb, s4) by have h := HE.out.2.2.2; rw [Int.toNat_natCast] at h; rw [← h, HQ.out, hm0']; simp [Pars.rep])
        subst hm0'
        go_wp2_with fail
        go_meet
        obtain ⟨rfl, rfl⟩ := Prod.mk.inj HF.out
        exact ⟨_, HW, HX, HV⟩
      have hm1 : j < m0 := by omega
      by_cases hs0 : s.e = 0
      case neg =>
        have b0 : (s.e == 0) = false := by simp [hs0]
        have HF := Aside0.mk (show (ls, s) = (sb, s4) by
          have h := HE.out.2.2.2
          rw [Int.toNat_natCast] at h
          rw [← h, HQ.out]
          obtain ⟨d, hd⟩ : ∃ d, m0 - j = d + 1 := ⟨m0 - j - 1, by omega⟩
          rw [hd, Pars.rep, if_neg hs0]
          simp)
        clear hs0
        go_wp2_with fail
        go_meet
        obtain ⟨rfl, rfl⟩ := Prod.mk.inj HF.out
        exact ⟨_, HW, HX, HV⟩
      have b0 : (s.e == 0) = true := by simp [hs0]
      have HN := Aside0.mk (show Pars.rep subP m0 s3 = ((ls ++ [(subP s).1]) ++ (Pars.rep subP (m0 - (j + 1)) (subP s).2).1, (Pars.rep subP (m0 - (j + 1)) (subP s).2).2) by
        rw [HQ.out]
        obtain ⟨d, hd⟩ : ∃ d, m0 - j = d + 1 := ⟨m0 - j - 1, by omega⟩
        rw [hd, show m0 - (j + 1) = d by omega, Pars.rep, if_pos hs0]
        simp)
      clear hs0 hm0' HQ
      have hu := HW.out.rdr.u8
      obtain ⟨id, s5, h1⟩ : ∃ t q, s.num 2 = (t, q) := ⟨_, _, rfl⟩
      obtain ⟨fr, s6, h2⟩ : ∃ t q, s5.num 2 = (t, q) := ⟨_, _, rfl⟩
      have hu1 : u8s s5.l := by have := Sc.num_u8s hu 2; rwa [h1] at this
      have hu2 : u8s s6.l := by have := Sc.num_u8s hu1 2; rwa [h2] at this
      have hcl : 0 ≤ (s6.count 12).1 ∧ (s6.count 12).1 ≤ 12 := Sc.count_le hu2 12
      obtain ⟨q0, sq, h3⟩ : ∃ (n : Nat) (q : Sc), s6.count 12 = ((n : Int), q) := ⟨(s6.count 12).1.toNat, (s6.count 12).2, by rw [Int.toNat_of_nonneg hcl.1]⟩
      have hq0 : q0 ≤ 12 := by rw [h3] at hcl; simp only at hcl; omega
      obtain ⟨xr, s7, h5⟩ : ∃ t q, Pars.rep rgP q0 sq = (t, q) := ⟨_, _, rfl⟩
      have hP : subP s = (⟨id, fr, xr⟩, s7) := by
        have e : subP s = (⟨(s.num 2).1, ((s.num 2).2.num 2).1, (Pars.rep rgP (((s.num 2).2.num 2).2.count 12).1.toNat (((s.num 2).2.num 2).2.count 12).2).1⟩, (Pars.rep rgP (((s.num 2).2.num 2).2.count 12).1.toNat (((s.num 2).2.num 2).2.count 12).2).2) := rfl
        rw [e, h1]
        simp only
        rw [h2]
        simp only
        rw [h3]
        simp only
        rw [Int.toNat_natCast, h5]
      rw [hP] at HN
      simp only at HN
      have HP := Aside0.mk h5
      have HEI := Aside0.mk (And.intro h1 (And.intro h2 h3))
      clear hP hcl hu hu1 hu2 h1 h2 h3 h5
      go_wp2_with fail
      refine (rnum HW.out.rdr 2 (by decide)).mono ?_
      rintro e wa ⟨rfl, hs, hg⟩
      rw [HEI.out.1] at hs ⊢
      have HA := Aside0.mk hs
      have HG := Aside0.mk hg
      have H1 := Aside0.mk (Own1.start (U := 40) hs #[.int .i64 id, .int .i64 0, .slice none 0 0])
      clear hs hg e0 e1 f0 f1 b0
      go_wp2_with fail
      refine (rnum H1.out.rdr 2 (by decide)).mono ?_
      rintro e wb ⟨rfl, hs, hg⟩
      rw [HEI.out.2.1] at hs ⊢
      have H2 := Aside0.mk (H1.out.call hs hg)
      clear hs hg H1
      obtain ⟨c0, c1, c2, g0, g1, g2⟩ := H2.out.cells
      have H3 := Aside0.mk (H2.out.store 1 (.int .i64 fr))
      simp only [List.setIfInBounds_toArray, List.set_cons_zero, List.set_cons_succ] at H3
      clear H2
      go_wp2_with fail
      clear c0 c1 c2 g0 g1 g2
      refine (rcount H3.out.rdr 12 (by decide)).mono ?_
      rintro e wk ⟨rfl, hs, hg⟩
      rw [show s6.count ((12 : Nat) : Int) = ((q0 : Int), sq) from HEI.out.2.2] at hs ⊢
      have HS := Aside0.mk (show SubR (fun k => k < w.heap.size) wa wk g sq id fr (.slice none 0 0) [] from ⟨H3.out.call hs hg, Kd.R_nil _ _ _ _ _⟩)
      clear hs hg H3
      go_upto_block 4 with fail
      go_cut [12, 13] from 61 to 92 (fun _ _ wx => ∃ v, Aside0 (SubR (fun k => k < w.heap.size) wa wx g s7 id fr v xr))
      case first =>
        go_wp2_with fail
        go_loopw [12] (fun n wr3 => ∃ (j : Nat) (s : Sc) (v : Value) (rs : List S46), n = .int .i64 j ∧ j ≤ q0 ∧ Aside0 (rs.length = j) ∧ Aside0 (Pars.rep rgP q0 sq = (rs ++ (Pars.rep rgP (q0 - j) s).1, (Pars.rep rgP (q0 - j) s).2)) ∧ Aside0 (SubR (fun k => k < w.heap.size) wa wr3 g s id fr v rs)) (fun n _ => q0 - (intOf n).toNat)
        case atStart => exact ⟨0, sq, _, [], rfl, by omega, ⟨rfl⟩, ⟨by simp⟩, HS⟩
        case round =>
          obtain ⟨j, s, v, rs, rfl, hj, HL, HQ, HW⟩ := hrel
          clear HS
          obtain ⟨Av, cv, rfl⟩ := Kd.R_slice HW.out.2
          obtain ⟨A, c, d0, d1, d2, d3, e0, e1, f0, f1⟩ := HW.out.1.rdr.cells
          clear d0 d1 d2 d3
          obtain ⟨c0, c1, c2, g0, g1, g2⟩ := HW.out.1.cells
          by_cases hj0 : j = q0
          · have HF := Aside0.mk (show (rs, s) = (xr, s7) by rw [← HP.out, HQ.out, hj0]; simp [Pars.rep])
            subst hj0
            go_wp2_with fail
            go_meet
            obtain ⟨rfl, rfl⟩ := Prod.mk.inj HF.out
            exact ⟨_, HW⟩
          have hj1 : j < q0 := by omega
          by_cases hs0 : s.e = 0
          case neg =>
            have b0 : (s.e == 0) = false := by simp [hs0]
            have HF := Aside0.mk (show (rs, s) = (xr, s7) by
              rw [← HP.out, HQ.out]
              obtain ⟨d, hd⟩ : ∃ d, q0 - j = d + 1 := ⟨q0 - j - 1, by omega⟩
              rw [hd, Pars.rep, if_neg hs0]
              simp)
            clear hs0
            go_wp2_with fail
            go_meet
            obtain ⟨rfl, rfl⟩ := Prod.mk.inj HF.out
            exact ⟨_, HW⟩
          have b0 : (s.e == 0) = true := by simp [hs0]
          have HN := Aside0.mk (show Pars.rep rgP q0 sq = ((rs ++ [(rgP s).1]) ++ (Pars.rep rgP (q0 - (j + 1)) (rgP s).2).1, (Pars.rep rgP (q0 - (j + 1)) (rgP s).2).2) by
            rw [HQ.out]
            obtain ⟨d, hd⟩ : ∃ d, q0 - j = d + 1 := ⟨q0 - j - 1, by omega⟩
            rw [hd, show q0 - (j + 1) = d by omega, Pars.rep, if_pos hs0]
            simp)
          clear hs0 hj0 HQ
          have hu := HW.out.1.rdr.u8
          have hcl : 0 ≤ (s.count 16).1 ∧ (s.count 16).1 ≤ 16 := Sc.count_le hu 16
          obtain ⟨cn, hcn⟩ : ∃ c : Nat, (s.count 16).1 = (c : Int) := ⟨(s.count 16).1.toNat, by omega⟩
          have hP := rgP_eq s cn hcn
          have hc16 : cn ≤ 16 := by omega
          obtain ⟨t1, ht1⟩ : ∃ q, s.count 16 = ((cn : Int), q) := ⟨_, by rw [← hcn]⟩
          have hut1 : u8s t1.l := by have := Sc.count_u8s hu 16; rwa [ht1] at this
          have hln := t1.take_len cn
          obtain ⟨tx, t2, ht2⟩ : ∃ t q, t1.take cn = (t, q) := ⟨_, _, rfl⟩
          have hut2 : u8s t2.l := by have := (Sc.take_u8s hut1 cn).2; rwa [ht2] at this
          have hlo := num_range hut2
          have hut3 := Sc.num_u8s hut2 4
          obtain ⟨lo, t3, ht3⟩ : ∃ t q, t2.num 4 = (t, q) := ⟨_, _, rfl⟩
          rw [ht3] at hlo hut3
          have hhi := num_range hut3
          obtain ⟨hi, t4, ht4⟩ : ∃ t q, t3.num 4 = (t, q) := ⟨_, _, rfl⟩
          simp only at hhi hlo
          rw [ht4] at hhi
          simp only at hhi
          rw [ht2] at hln
          rw [ht1] at hP
          simp only at hP
          rw [ht2] at hP
          simp only at hP
          rw [ht3] at hP
          simp only at hP
          rw [ht4] at hP
          simp only at hP
          rw [hP] at HN
          simp only at HN
          have HT := Aside0.mk (And.intro ht1 (And.intro ht2 (And.intro ht3 ht4)))
          clear hP hcl hu hcn ht1 ht2 ht3 ht4 hut1 hut2 hut3
          have HLO := Aside0.mk hlo
          have HHI := Aside0.mk hhi
          have HLN := Aside0.mk hln
          clear hlo hhi hln
          go_wp2_with fail
          clear c0 c1 c2 g0 g1 g2 e0 e1 f0 f1 b0
          refine (rcount HW.out.1.rdr 16 (by decide)).mono ?_
          rintro e y1 ⟨rfl, hs, hg⟩
          rw [show s.count ((16 : Nat) : Int) = ((cn : Int), t1) from HT.out.1] at hs ⊢
          have H1 := Aside0.mk (HW.out.call hs hg)
          clear hs hg
          go_wp2_with fail
          refine (rtake H1.out.1.rdr cn (by omega)).mono ?_
          rintro e y2 ⟨At, ct, rfl, hH, hl1, hl2, hs, hg⟩
          rw [HT.out.2.1] at hH hl1 hs ⊢
          have H2 := Aside0.mk (H1.out.call hs hg)
          have hcv := Kd.C_string (P := Try.prog) (A := At) (c := ct) Try.underlying26 Try.underlying5 Try.underlying9 (hH.C (by have := HLN.out; first | omega | (simp only at this; omega)))
          clear hs hg H1 hH hl1 hl2
          have HO := Aside0.mk (Own1.start (U := 46) H2.out.1.rdr #[.string (strOfNums tx), .int .i64 0, .int .i64 0])
          go_wp2_with fail
          clear hcv
          refine (rnum HO.out.rdr 4 (by decide)).mono ?_
          rintro e y3 ⟨rfl, hs, hg⟩
          rw [HT.out.2.2.1] at hs ⊢
          have HO3 := Aside0.mk (HO.out.call hs hg)
          clear hs hg HO
          go_wp2_with fail
          refine (rsign lo HLO.out y3).mono ?_
          rintro e y ⟨rfl, hy⟩
          obtain rfl : y3 = y := hy.symm
          obtain ⟨c0, c1, c2, g0, g1, g2⟩ := HO3.out.cells
          have HO4 := Aside0.mk (HO3.out.store 1 (.int .i64 (sgn lo)))
          simp only [List.setIfInBounds_toArray, List.set_cons_zero, List.set_cons_succ] at HO4
          clear HO3
          go_wp2_with fail
          clear c0 c1 c2 g0 g1 g2
          refine (rnum HO4.out.rdr 4 (by decide)).mono ?_
          rintro e y5 ⟨rfl, hs, hg⟩
          rw [HT.out.2.2.2] at hs ⊢
          have HO5 := Aside0.mk (HO4.out.call hs hg)
          clear hs hg HO4
          go_wp2_with fail
          refine (rsign hi HHI.out y5).mono ?_
          rintro e y ⟨rfl, hy⟩
          obtain rfl : y5 = y := hy.symm
          obtain ⟨c0, c1, c2, g0, g1, g2⟩ := HO5.out.cells
          have HO6 := Aside0.mk (HO5.out.store 2 (.int .i64 (sgn hi)))
          simp only [List.setIfInBounds_toArray, List.set_cons_zero, List.set_cons_succ] at HO6
          obtain ⟨y6, hy6⟩ : ∃ y, y = y5.setCell ⟨y2.heap.size, 2, none⟩ (.int .i64 (sgn hi)) := ⟨_, rfl⟩
          rw [← hy6] at HO6
          go_upto_region 24 with fail
          rw [← hy6]
          clear c0 c1 c2 g0 g1 g2 HO5 hy6
          have H6 := Aside0.mk (H2.out.call (HO6.out.done H2.out.1.rdr.ne).1 HO6.out.grown)
          obtain ⟨c0, c1, c2, g0, g1, g2⟩ := HO6.out.cells
          obtain ⟨k0, k1, k2, k3, k4, k5⟩ := H6.out.1.cells
          clear H2 HO6
          have H7 := Aside0.mk (H6.out.below ((Below.refl _ _).alloc (Nat.le_refl _) (.cells #[.string (strOfNums tx), .int .i64 (sgn lo), .int .i64 (sgn hi)] 46)))
          go_wp2_with (at_builtin; refine Kd.R_append k46 (w0 := y6) (wa.heap.size + 1) rfl (.tmp 88) (.tmp 90) 37 46 _ 32 rfl Try.underlying37 info_rg3 rfl (by decide) (by decide) (.slice Av rs.length cv) rs ⟨strOfNums tx, sgn lo, sgn hi⟩ [.string (strOfNums tx), .int .i64 (sgn lo), .int .i64 (sgn hi)] (fun k => wa.heap.size < k) (fun _ => False) rfl rfl (k46_mkM _ _ _ _) (fun _ hk => hk.elim) (fun k hk => by have := lt_of_heap H6.out.1.heap; omega) H6.out.2 (Below.refl _ _) (by have := lt_of_heap H6.out.1.heap; omega) (by have := HL.out; omega) ?_; intro v1 y8 hR4 hB4 _ _; obtain ⟨ra, hra⟩ : ∃ l, rs ++ [(⟨strOfNums tx, sgn lo, sgn hi⟩ : S46)] = l := ⟨_, rfl⟩; rw [hra] at hR4; have RA := Aside0.mk hra; clear hra; obtain ⟨A1, c1', rfl⟩ := Kd.R_slice hR4; have H8 := Aside0.mk (H6.out.put hB4 hR4); obtain ⟨⟨z0, z1, z2⟩, z3, z4, z5⟩ := cells3r (show y8.heap[wa.heap.size]? = _ from by rw [hB4.block _ (by omega)]; exact H6.out.1.heap); clear hR4 hB4 k0 k1 k2 k3 k4 k5 c0 c1 c2 g0 g1 g2)
          exact ⟨⟨j + 1, t4, _, ra, by go_num, by omega, ⟨by rw [← RA.out, List.length_append, List.length_singleton]; have := HL.out; omega⟩, ⟨by rw [← RA.out]; exact HN.out⟩, H8⟩, by simp [intOf]; omega⟩
      case rest =>
      obtain ⟨vx, HS4⟩ := hcut
      clear HS
      obtain ⟨Ax, cx, rfl⟩ := Kd.R_slice HS4.out.2
      obtain ⟨wf, hwf⟩ : ∃ q, q = wc := ⟨_, rfl⟩
      rw [← hwf] at HS4 ⊢
      clear hwf
      have hd := HS4.out.1.done HA.out.ne
      have hg6 := grown_trans HG.out hd.2
      have SZ := Aside0.mk (Kd.R_lt HV.out)
      have HSA := Aside0.mk (HG.out.size)
      have H6 := Aside0.mk (HW.out.call hd.1 hg6)
      have R6 := Aside0.mk (Kd.R_grown HV.out hg6 (fun k hk e => by cases e; have := HW.out.gf; have := HW.out.hi; omega))
      have L6 := Aside0.mk (Kd.R_grown HX.out hg6 (fun k hk e => by cases e; have := HGF.out; omega))
      have RX := Aside0.mk (Kd.R_bound HS4.out.2)
      obtain ⟨c0, c1, c2, g0, g1, g2⟩ := HS4.out.1.cells
      obtain ⟨⟨k0, k1⟩, k2, k3⟩ := cells2r H6.out.heap
      clear hd hg6
      go_wp2_with (at_builtin; refine Kd.R_append k40 (w0 := wf) w4.heap.size rfl (.tmp 94) (.tmp 96) 23 40 _ 40 rfl Try.underlying23 info_sb3 rfl (by decide) (by decide) (.slice Av ls.length cv) ls ⟨id, fr, xr⟩ [.int .i64 id, .int .i64 fr, .slice Ax xr.length cx] (fun k => w4.heap.size ≤ k) (fun k => wr.heap.size ≤ k) rfl rfl (k40_mkM _ _ _ _ (Kd.R_lower (Kd.R_mono RX.out (fun k hk => by have h_ := hk.2.1; have := HSA.out; omega)) (by have := HW.out.hb; have := HSA.out; omega))) (fun k hk => ⟨by have := HW.out.hb; omega, fun e => by have := SZ.out k e.symm; omega⟩) (fun k hk => by have := H6.out.hb; omega) R6.out (Below.refl _ _) H6.out.hb (by have := HL.out; omega) ?_; intro v1 w6 hR hB _ _; obtain ⟨ra, hra⟩ : ∃ l, ls ++ [(⟨id, fr, xr⟩ : S40)] = l := ⟨_, rfl⟩; rw [hra] at hR; have RA := Aside0.mk hra; clear hra; obtain ⟨A1, c1', rfl⟩ := Kd.R_slice hR; have H8 := Aside0.mk ((H6.out.mid hB).put1 (.slice A1 ra.length c1')); have R8 := Aside0.mk (Kd.R_far (p := ⟨F, 1, none⟩) hR (fun k hk e => by have h2 : k = F := e; have := H6.out.hi; omega) (.slice A1 ra.length c1')); have L8 := Aside0.mk (Kd.R_far (p := ⟨F, 1, none⟩) (Kd.R_move L6.out (fun k hk => hB.block k hk.2)) (fun k hk e => by have h2 : k = F := e; have := HGF.out; omega) (.slice A1 ra.length c1')); obtain ⟨⟨z0, z1⟩, z2, z3⟩ := cells2r (H6.out.mid hB).heap; clear hR hB k0 k1 k2 k3 c0 c1 c2 g0 g1 g2)
      exact ⟨⟨j + 1, s7, _, ra, by go_num, by omega, ⟨by rw [← RA.out, List.length_append, List.length_singleton]; have := HL.out; omega⟩, ⟨by rw [← RA.out]; exact HN.out⟩, H8, L8, R8⟩, by simp [intOf]; omega⟩
  case rest =>
  obtain ⟨vs, HD4, HR4, HS4⟩ := hcut
  clear HD3 HR3
  obtain ⟨As, cs, rfl⟩ := Kd.R_slice HS4.out
  obtain ⟨we, hwe⟩ : ∃ q, q = wc := ⟨_, rfl⟩
  rw [← hwe] at HD4 HR4 HS4 ⊢
  clear hwe
  have hdq := HDQ.out
  clear HDQ HE
  replace hdq : q = (if s4.endE ≠ 0 then (([], []), s4.endE) else if rightB lk sb = true then ((lk, sb), 0) else (([], []), 3)) := hdq
  go_wp2_with fail
  refine (rend HD4.out.rdr).mono ?_
  rintro e wg ⟨rfl, hwg⟩
  subst hwg
  obtain ⟨⟨z0, z1⟩, z2, z3⟩ := cells2r HD4.out.res
  obtain ⟨⟨k0, k1⟩, k2, k3⟩ := cells2r HD4.out.heap
  by_cases k0' : s4.endE = 0
  case neg =>
    rw [if_pos k0'] at hdq
    have HD := Aside0.mk hdq
    have b0 : (s4.endE != 0) = true := by simp [k0']
    clear hdq k0'
    generalize s4.endE = en at HD b0 ⊢
    go_wp2_with fail
    have hz := two_zero HD4.out.res HD4.out.below
    refine bodyPost_ret (results_ct rfl _ _ w.heap.size 25 _ (0, 0) _ rfl hz.1 Try.underlying25 rfl info_fi) rfl ?_
    exact ⟨none, 0, none, 0, by rw [HD.out]; rfl, by rw [HD.out]; exact Kd.C_nil _ _, by rw [HD.out]; simp, by rw [HD.out]; exact Kd.C_nil _ _, by rw [HD.out]; simp, hz.2⟩
  have b0 : (s4.endE != 0) = false := by simp [k0']
  have he0 : s4.e = 0 := by
    unfold Sc.endE at k0'
    split at k0'
    · rename_i h; exact h.1
    · exact k0'
  have hlr := HLR.out he0
  rw [if_neg (by simpa using k0')] at hdq
  clear he0
  subst hlr
  have HQ := Aside0.mk hdq
  have hr1 := Kd.R_reads' HR4.out
  have hr2 := Kd.R_reads' HS4.out
  have HC1 := Aside0.mk (And.intro hr1.2.1 hr2.2.1)
  have HRt := Aside0.mk (rosetteref15_Right.calls (lr.length + sb.length + 12 + lr.length + 3) Al cl lr As cs sb (rightB lr sb) we hr1.2.2 hr1.2.1 hr2.2.2 hr2.2.1 (right_f lr sb 12 (by have := hlk.out; omega) (by have := hsb.out; omega) (by decide) hsb12.out _ (by omega)))
  clear hr1 hr2 hdq k0'
  go_wp2_with fail
  refine HRt.out.mono ?_
  rintro e w7 ⟨rfl, hX⟩
  have HZ7 := Aside0.mk (vkeepB HD4.out.res hX)
  have HF7 := Aside0.mk (vkeepB HD4.out.heap hX)
  have HB7 := Aside0.mk (below_via6 HD4.out.below hX)
  have HR7 := Aside0.mk (Kd.R_below HR4.out hX)
  have HS7 := Aside0.mk (Kd.R_below HS4.out hX)
  clear hX z0 z1 z2 z3 k0 k1 k2 k3 HRt
  obtain ⟨⟨z0, z1⟩, z2, z3⟩ := cells2r HZ7.out
  obtain ⟨⟨k0, k1⟩, k2, k3⟩ := cells2r HF7.out
  have hq := HQ.out
  clear HQ
  cases hr : rightB lr sb with
  | true =>
    rw [hr, if_pos rfl] at hq
    have HD := Aside0.mk hq
    clear hr hq
    go_wp2_with fail
    have hlo := HD4.out.lo
    have hgf := HD4.out.gf
    have hhi := hgw3.out
    have hb4 := HD4.out.hi
    have hz := two_put HZ7.out HB7.out (.slice Al lr.length cl) (.slice As sb.length cs)
    have hr7 := Kd.R_far (p := ⟨w.heap.size, 1, none⟩) (Kd.R_far (p := ⟨w.heap.size, 0, none⟩) HR7.out (fun k hk e => by have h2 : k = w.heap.size := e; omega) (.slice Al lr.length cl)) (fun k hk e => by have h2 : k = w.heap.size := e; omega) (.slice As sb.length cs)
    have hs7 := Kd.R_far (p := ⟨w.heap.size, 1, none⟩) (Kd.R_far (p := ⟨w.heap.size, 0, none⟩) HS7.out (fun k hk e => by have h2 : k = w.heap.size := e; omega) (.slice Al lr.length cl)) (fun k hk e => by have h2 : k = w.heap.size := e; omega) (.slice As sb.length cs)
    refine bodyPost_ret (results_ct rfl _ _ w.heap.size 25 _ (0, 0) _ rfl hz.1 Try.underlying25 rfl info_fi) rfl ?_
    exact ⟨Al, cl, As, cs, by rw [HD.out]; rfl, by rw [HD.out]; exact (Kd.R_reads' hr7).2.2, by rw [HD.out]; exact HC1.out.1, by rw [HD.out]; exact (Kd.R_reads' hs7).2.2, by rw [HD.out]; exact HC1.out.2, hz.2⟩
  | false =>
    rw [hr, if_neg (by decide)] at hq
    have HD := Aside0.mk hq
    clear hr hq
    go_wp2_with fail
    have hz := two_zero HZ7.out HB7.out
    refine bodyPost_ret (results_ct rfl _ _ w.heap.size 25 _ (0, 0) _ rfl hz.1 Try.underlying25 rfl info_fi) rfl ?_
    exact ⟨none, 0, none, 0, by rw [HD.out]; rfl, by rw [HD.out]; exact Kd.C_nil _ _, by rw [HD.out]; simp, by rw [HD.out]; exact Kd.C_nil _ _, by rw [HD.out]; simp, hz.2⟩
end Go.Proofs.Ytkdhcmmfklganaa
end

section
-- Written by a program of this session (wip/tools/myprint.py), over the kit's print.
namespace Go.Proofs.Ytkdhcmmfklganaa.G
open Go.RowKit Go.Proofs.YtkdhcmmfklganaaW.PrintWords Go.Proofs.YtkdhcmmfklganaaW.PrintLast Go.Proofs.YtkdhcmmfklganaaW.PrintMore
attribute [local go_sem] max2_int min2_int max_two min_two max_three min_three max_four min_four   -- for this text's walks alone
set_option linter.unusedVariables false
set_option linter.unusedSimpArgs false

/-! ### rosetteref15_Big: function 25 -/
def rosetteref15_Big.l0 : Nat → Int → List Int → Int → Option (List Int)
  | 0, _, _, _ => none
  | k + 1, x0, x5, x6 => if x6 ≥ 0 then (if 0 ≤ (IntKind.u64.wrap (wrap64 (8 * x6))) then (if x5.length < 140737488355328 then (rosetteref15_Big.l0 k x0 (x5 ++ [(shr .u64 (IntKind.u64.wrap (x0)) (IntKind.u64.wrap (wrap64 (8 * x6)))) % 256]) (wrap64 (x6 - 1))) else (none)) else (none)) else (some x5)
def rosetteref15_Big.f (k : Nat) (a0 : Int) (a1 : Int) : Option (List Int) := rosetteref15_Big.l0 k a0 ([] : List Int) (wrap64 (a1 - 1))
theorem rosetteref15_Big.mono_l : ∀ k, (∀ y0 y1 y2, LeO (rosetteref15_Big.l0 k y0 y1 y2) (rosetteref15_Big.l0 (k + 1) y0 y1 y2))
  | 0 => fun _ _ _ r h => by simp [rosetteref15_Big.l0] at h
  | k + 1 => by
    have ih0 := rosetteref15_Big.mono_l k
    · intro y0 y1 y2
      unfold rosetteref15_Big.l0
      repeat' first
      | (with_reducible exact ih0 _ _ _)
      | (with_reducible exact LeO.refl _)
      | (with_reducible exact LeO.none _)
      | (with_reducible refine LeO.ite ?_ ?_)
      | (with_reducible refine LeO.bind ?_ (fun _ => ?_))
      | exact ih0 _ _ _
      | exact LeO.none _
      | refine LeO.ite ?_ ?_
      | refine LeO.bind ?_ (fun _ => ?_)
theorem rosetteref15_Big.mono : ∀ a0 a1 k, LeO (rosetteref15_Big.f k a0 a1) (rosetteref15_Big.f (k + 1) a0 a1) := by
  intro a0 a1 k
  have ih0 := rosetteref15_Big.mono_l k
  unfold rosetteref15_Big.f
  repeat' first
      | (with_reducible exact ih0 _ _ _)
      | (with_reducible exact LeO.refl _)
      | (with_reducible exact LeO.none _)
      | (with_reducible refine LeO.ite ?_ ?_)
      | (with_reducible refine LeO.bind ?_ (fun _ => ?_))
      | exact ih0 _ _ _
      | exact LeO.none _
      | refine LeO.ite ?_ ?_
      | refine LeO.bind ?_ (fun _ => ?_)
set_option maxHeartbeats 8000000 in
set_option maxRecDepth 100000 in
theorem rosetteref15_Big.calls (k : Nat) (a0 : Int) (a1 : Int) (r : List Int) (w : World) (h : rosetteref15_Big.f k a0 a1 = some r) :
    Calls Try.prog 25 #[.int .i64 a0, .int .i64 a1] w fun e w' => ∃ v0_ : Value, e = .returned (v0_) ∧ Kd.R (Kd.int .u8) 5 w' w.heap.size (fun _ => True) v0_ r ∧ Below w.heap.size w w' := by
  have HB := Aside0.mk (Below.refl w.heap.size w)
  have H : (rosetteref15_Big.l0 k a0 ([] : List Int) (wrap64 (a1 - 1))) = some r := h
  clear h
  have H' := Aside0.mk H
  clear H
  go_enter Try.func25, Try.ntmps25
  go_wp2
  go_loopg [5, 6] k (fun kq v5 v6 w' => ∃ (x5_1 : List Int) (x6_1 : Int), v6 = .int .i64 x6_1 ∧ Aside0 (rosetteref15_Big.l0 kq a0 x5_1 x6_1 = some r) ∧ Aside0 (kq ≤ k) ∧ Aside0 (Kd.R (Kd.int .u8) 5 w' w.heap.size (fun _ => True) v5 x5_1) ∧ Aside0 (Below w.heap.size w w'))
  case atStart => exact ⟨(([] : List Int)), (wrap64 (a1 - 1)), (by first | rfl | (simp; done) | (simp [*]; done)), H', ⟨Nat.le_refl _⟩, ⟨by first | exact Kd.R_nil _ _ _ _ _ | exact Kd.N_nil _ _ _ _ _ | exact Kd.V_nil _ _ _ _ _ | exact Kd.Q_nil _ _ _ _ _ | exact Kd.S_nil _ _ _ _ _⟩, ⟨by repeat (first | (with_reducible first | exact HB.out | apply below_alloc | apply pw_below_drewN | apply below_drew1) | exact HB.out)⟩⟩
  case round =>
    clear H'
    try clear c2
    try clear p2
    obtain ⟨x5_1, x6_1, rfl, HA, HK1, HO_5, HB⟩ := hrel
    cases gk with
    | zero => exact absurd HA.out (by simp [rosetteref15_Big.l0])
    | succ k1 =>
      have H := HA.out
      clear HA
      simp only [rosetteref15_Big.l0] at H
      by_cases c3 : x6_1 ≥ 0
      · rw [if_pos c3] at H
        have c3b0 : decide (0 ≤ x6_1) = true := decide_eq_true c3
        clear c3
        obtain ⟨ji4, hji4⟩ : ∃ j_ : Int, (IntKind.u64.wrap (wrap64 (8 * x6_1))) = j_ := ⟨_, rfl⟩
        replace H : (if 0 ≤ (ji4) then (if x5_1.length < 140737488355328 then (rosetteref15_Big.l0 k1 a0 (x5_1 ++ [(shr .u64 (IntKind.u64.wrap (a0)) (ji4)) % 256]) (wrap64 (x6_1 - 1))) else (none)) else (none)) = some r := by first | (rw [hji4] at H; exact H) | (simp only [hji4] at H ⊢; exact H)
        by_cases c5 : 0 ≤ (ji4)
        · rw [if_pos c5] at H
          have c5b0 := eq_true c5
          have c5b1 : decide (0 ≤ (ji4)) = true := decide_eq_true c5
          clear c5
          obtain ⟨ji6, hji6⟩ : ∃ j_ : Int, (shr .u64 (IntKind.u64.wrap (a0)) (ji4)) = j_ := ⟨_, rfl⟩
          replace H : (if x5_1.length < 140737488355328 then (rosetteref15_Big.l0 k1 a0 (x5_1 ++ [(ji6) % 256]) (wrap64 (x6_1 - 1))) else (none)) = some r := by first | (rw [hji6] at H; exact H) | (simp only [hji6] at H ⊢; exact H)
          have hji6_ : ((IntKind.u64.wrap (a0)) / 2 ^ min (ji4).toNat 64) = ji6 := hji6
          have hji6z : (ji4) ≤ 64 → ((IntKind.u64.wrap (a0)) / 2 ^ (ji4).toNat) = ji6 := shr_small hji6
          by_cases c7 : x5_1.length < 140737488355328
          · rw [if_pos c7] at H
            have LMc7 := Aside0.mk c7
            clear c7
            obtain ⟨y161, hy161⟩ : ∃ y_ : List Int, y_ = (x5_1 ++ [(ji6) % 256]) := ⟨_, rfl⟩
            replace H : (rosetteref15_Big.l0 k1 a0 y161 (wrap64 (x6_1 - 1))) = some r := by first | (rw [hy161]; with_reducible exact H) | (have H2_ := (Option.bind_some _ _).symm.trans H; rw [hy161]; with_reducible exact H2_) | (have H2_ := (Option.bind_some _ _).symm.trans H; with_reducible exact H2_) | with_reducible exact H | (rw [hy161]; exact H) | exact H
            have Ny161 := Aside0.mk hy161
            clear hy161
            have H' := Aside0.mk H
            clear H
            go_wp2_with (first | ((with_reducible refine gate_builtin (b := .append) (xs := #[.tmp 13, .tmp 21]) rfl ?_); at_builtin; refine Kd.R_append (Kd.int .u8) (w0 := w) w.heap.size rfl (.tmp 13) (.tmp 21) 26 5 (.int .u8 0) 1 rfl Try.underlying26 info5 rfl (by decide) (by decide) u5 x5_1 ((ji6) % 256) [.int .u8 ((ji6) % 256)] (fun _ => True) (fun _ => False) rfl rfl ?aP (fun _ hk => hk.elim) ?aF ?aO ?aB ?aS ?aL ?_; (case aP => exact rfl); (case aB => exact (by repeat (first | (with_reducible first | exact HB.out | apply below_alloc | apply pw_below_drewN | apply below_drew1) | exact HB.out))); (case aF => exact (fun _ _ => trivial)); (case aO => exact (by (with_reducible repeat (first | apply Kd.R_alloc | apply Kd.R_drewN | apply Kd.R_drew)); exact HO_5.out)); (case aS => exact (below_size (by repeat (first | (with_reducible first | exact HB.out | apply below_alloc | apply pw_below_drewN | apply below_drew1) | exact HB.out)))); (case aL => have := LMc7.out; omega); intro v162 w8 ho hb hg hat; rw [← Ny161.out] at ho; have n0_ := Aside0.mk (hb); have n1_ := Aside0.mk (ho); clear HB; clear HO_5; have HB := n0_; have HO163 := n1_; clear n0_ n1_; clear ho hb hg hat))
            go_roundg k1
            case measure => have := HK1.out; omega
            case rel => exact ⟨(y161), (wrap64 (x6_1 - 1)), (by first | rfl | (simp; done) | (simp [*]; done)), H', ⟨by have := HK1.out; omega⟩, ⟨by (with_reducible repeat (first | apply Kd.R_alloc | apply Kd.R_drewN | apply Kd.R_drew)); exact HO163.out⟩, ⟨by repeat (first | (with_reducible first | exact HB.out | apply below_alloc | apply pw_below_drewN | apply below_drew1) | exact HB.out)⟩⟩
          · rw [if_neg c7] at H
            exact absurd H (by simp)
        · rw [if_neg c5] at H
          exact absurd H (by simp)
      · rw [if_neg c3] at H
        have c3b0 : decide (0 ≤ x6_1) = false := decide_eq_false c3
        clear c3
        obtain rfl := Option.some.inj H
        go_wp2
        go_ret
        exact ⟨_, by first | rfl | (simp [errW_none, errW_some] <;> rfl) | (simp [*, errW_none, errW_some] <;> rfl), by (with_reducible repeat (first | apply Kd.R_alloc | apply Kd.R_drewN | apply Kd.R_drew)); exact HO_5.out, by repeat (first | (with_reducible first | exact HB.out | apply below_alloc | apply pw_below_drewN | apply below_drew1) | exact HB.out)⟩

end Go.Proofs.Ytkdhcmmfklganaa.G
end
