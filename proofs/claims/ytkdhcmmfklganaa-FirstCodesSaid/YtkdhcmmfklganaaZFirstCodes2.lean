import Derived.Test.YtkdhcmmfklganaaZFirstCodes0
import Derived.Test.YtkdhcmmfklganaaZFirstCodes1
import Derived.Outline
section
-- Written by a program of this session (wip/tools/myprint.py), over the kit's print.
namespace Go.Proofs.Ytkdhcmmfklganaa.G
open Go.RowKit Go.Proofs.YtkdhcmmfklganaaW.PrintWords Go.Proofs.YtkdhcmmfklganaaW.PrintLast Go.Proofs.YtkdhcmmfklganaaW.PrintMore
attribute [local go_sem] max2_int min2_int max_two min_two max_three min_three max_four min_four   -- for this text's walks alone
set_option linter.unusedVariables false
set_option linter.unusedSimpArgs false

attribute [local go_sem high] eqA46
/-! ### rosetteref15_Same: function 14 -/
mutual
def rosetteref15_Same.j0 : Nat → Bool → List Int → List (S40) → List Int → List (S40) → Option (Bool)
  | 0, _, _, _, _, _ => none
  | k + 1, x23, x124000, x124001, x125000, x125001 => if x23 = true then (some false) else (rosetteref15_Same.l0 k 0 x124000 x124001 x125000 x125001)
def rosetteref15_Same.l0 : Nat → Int → List Int → List (S40) → List Int → List (S40) → Option (Bool)
  | 0, _, _, _, _, _ => none
  | k + 1, x5, x124000, x124001, x125000, x125001 => if x5 < (x124001.length : Int) then (if 0 ≤ x5 then (if x5 < (x125001.length : Int) then (if ((rd_T40 x124001 x5).f0) = ((rd_T40 x125001 x5).f0) then (if ((rd_T40 x124001 x5).f1) = ((rd_T40 x125001 x5).f1) then (rosetteref15_Same.j2 k x5 ((((rd_T40 x124001 x5).f2).length : Int) != (((rd_T40 x125001 x5).f2).length : Int)) x124000 x124001 x125000 x125001 ((rd_T40 x124001 x5).f0) ((rd_T40 x124001 x5).f1) ((rd_T40 x124001 x5).f2) ((rd_T40 x125001 x5).f0) ((rd_T40 x125001 x5).f1) ((rd_T40 x125001 x5).f2)) else (rosetteref15_Same.j2 k x5 true x124000 x124001 x125000 x125001 ((rd_T40 x124001 x5).f0) ((rd_T40 x124001 x5).f1) ((rd_T40 x124001 x5).f2) ((rd_T40 x125001 x5).f0) ((rd_T40 x125001 x5).f1) ((rd_T40 x125001 x5).f2))) else (rosetteref15_Same.j2 k x5 true x124000 x124001 x125000 x125001 ((rd_T40 x124001 x5).f0) ((rd_T40 x124001 x5).f1) ((rd_T40 x124001 x5).f2) ((rd_T40 x125001 x5).f0) ((rd_T40 x125001 x5).f1) ((rd_T40 x125001 x5).f2))) else (none)) else (none)) else (some true)
def rosetteref15_Same.j2 : Nat → Int → Bool → List Int → List (S40) → List Int → List (S40) → Int → Int → List (S46) → Int → Int → List (S46) → Option (Bool)
  | 0, _, _, _, _, _, _, _, _, _, _, _, _ => none
  | k + 1, x5, x61, x124000, x124001, x125000, x125001, x128000, x128001, x128002, x130000, x130001, x130002 => if x61 = true then (some false) else (rosetteref15_Same.l1 k x5 0 x124000 x124001 x125000 x125001 x128000 x128001 x128002 x130000 x130001 x130002)
def rosetteref15_Same.l1 : Nat → Int → Int → List Int → List (S40) → List Int → List (S40) → Int → Int → List (S46) → Int → Int → List (S46) → Option (Bool)
  | 0, _, _, _, _, _, _, _, _, _, _, _, _ => none
  | k + 1, x5, x8, x124000, x124001, x125000, x125001, x128000, x128001, x128002, x130000, x130001, x130002 => if x8 < (x128002.length : Int) then (if 0 ≤ x8 then (if x8 < (x130002.length : Int) then (if (!((((rd_T46 x128002 x8).f0).toList) == (((rd_T46 x130002 x8).f0).toList)) || (!(((rd_T46 x128002 x8).f1) == ((rd_T46 x130002 x8).f1)) || (!(((rd_T46 x128002 x8).f2) == ((rd_T46 x130002 x8).f2))))) = true then (some false) else (rosetteref15_Same.l1 k x5 (wrap64 (x8 + 1)) x124000 x124001 x125000 x125001 x128000 x128001 x128002 x130000 x130001 x130002)) else (none)) else (none)) else (rosetteref15_Same.l0 k (wrap64 (x5 + 1)) x124000 x124001 x125000 x125001)
end
def rosetteref15_Same.f (k : Nat) (l0_0 : List Int) (l0_1 : List (S40)) (l1_0 : List Int) (l1_1 : List (S40)) : Option (Bool) := (rosetteref11_Ints.f k l0_0 l1_0).bind fun t125 => (if t125 = true then (rosetteref15_Same.j0 k ((l0_1.length : Int) != (l1_1.length : Int)) l0_0 l0_1 l1_0 l1_1) else (rosetteref15_Same.j0 k true l0_0 l0_1 l1_0 l1_1))
theorem rosetteref15_Same.mono_l : ∀ k, (∀ y0 y1 y2 y3 y4, LeO (rosetteref15_Same.j0 k y0 y1 y2 y3 y4) (rosetteref15_Same.j0 (k + 1) y0 y1 y2 y3 y4)) ∧ (∀ y0 y1 y2 y3 y4, LeO (rosetteref15_Same.l0 k y0 y1 y2 y3 y4) (rosetteref15_Same.l0 (k + 1) y0 y1 y2 y3 y4)) ∧ (∀ y0 y1 y2 y3 y4 y5 y6 y7 y8 y9 y10 y11, LeO (rosetteref15_Same.j2 k y0 y1 y2 y3 y4 y5 y6 y7 y8 y9 y10 y11) (rosetteref15_Same.j2 (k + 1) y0 y1 y2 y3 y4 y5 y6 y7 y8 y9 y10 y11)) ∧ (∀ y0 y1 y2 y3 y4 y5 y6 y7 y8 y9 y10 y11, LeO (rosetteref15_Same.l1 k y0 y1 y2 y3 y4 y5 y6 y7 y8 y9 y10 y11) (rosetteref15_Same.l1 (k + 1) y0 y1 y2 y3 y4 y5 y6 y7 y8 y9 y10 y11))
  | 0 => ⟨fun _ _ _ _ _ r h => by simp [rosetteref15_Same.j0] at h, fun _ _ _ _ _ r h => by simp [rosetteref15_Same.l0] at h, fun _ _ _ _ _ _ _ _ _ _ _ _ r h => by simp [rosetteref15_Same.j2] at h, fun _ _ _ _ _ _ _ _ _ _ _ _ r h => by simp [rosetteref15_Same.l1] at h⟩
  | k + 1 => by
    obtain ⟨ih0, ih1, ih2, ih3⟩ := rosetteref15_Same.mono_l k
    refine ⟨?_, ?_, ?_, ?_⟩
    · intro y0 y1 y2 y3 y4
      unfold rosetteref15_Same.j0
      repeat' first
      | (with_reducible exact ih0 _ _ _ _ _)
      | (with_reducible exact ih1 _ _ _ _ _)
      | (with_reducible exact ih2 _ _ _ _ _ _ _ _ _ _ _ _)
      | (with_reducible exact ih3 _ _ _ _ _ _ _ _ _ _ _ _)
      | (with_reducible exact rosetteref11_Ints.mono _ _ _)
      | (with_reducible exact LeO.refl _)
      | (with_reducible exact LeO.none _)
      | (with_reducible refine LeO.ite ?_ ?_)
      | (with_reducible refine LeO.bind ?_ (fun _ => ?_))
      | exact ih0 _ _ _ _ _
      | exact ih1 _ _ _ _ _
      | exact ih2 _ _ _ _ _ _ _ _ _ _ _ _
      | exact ih3 _ _ _ _ _ _ _ _ _ _ _ _
      | exact rosetteref11_Ints.mono _ _ _
      | exact LeO.none _
      | refine LeO.ite ?_ ?_
      | refine LeO.bind ?_ (fun _ => ?_)
    · intro y0 y1 y2 y3 y4
      unfold rosetteref15_Same.l0
      repeat' first
      | (with_reducible exact ih0 _ _ _ _ _)
      | (with_reducible exact ih1 _ _ _ _ _)
      | (with_reducible exact ih2 _ _ _ _ _ _ _ _ _ _ _ _)
      | (with_reducible exact ih3 _ _ _ _ _ _ _ _ _ _ _ _)
      | (with_reducible exact rosetteref11_Ints.mono _ _ _)
      | (with_reducible exact LeO.refl _)
      | (with_reducible exact LeO.none _)
      | (with_reducible refine LeO.ite ?_ ?_)
      | (with_reducible refine LeO.bind ?_ (fun _ => ?_))
      | exact ih0 _ _ _ _ _
      | exact ih1 _ _ _ _ _
      | exact ih2 _ _ _ _ _ _ _ _ _ _ _ _
      | exact ih3 _ _ _ _ _ _ _ _ _ _ _ _
      | exact rosetteref11_Ints.mono _ _ _
      | exact LeO.none _
      | refine LeO.ite ?_ ?_
      | refine LeO.bind ?_ (fun _ => ?_)
    · intro y0 y1 y2 y3 y4 y5 y6 y7 y8 y9 y10 y11
      unfold rosetteref15_Same.j2
      repeat' first
      | (with_reducible exact ih0 _ _ _ _ _)
      | (with_reducible exact ih1 _ _ _ _ _)
      | (with_reducible exact ih2 _ _ _ _ _ _ _ _ _ _ _ _)
      | (with_reducible exact ih3 _ _ _ _ _ _ _ _ _ _ _ _)
      | (with_reducible exact rosetteref11_Ints.mono _ _ _)
      | (with_reducible exact LeO.refl _)
      | (with_reducible exact LeO.none _)
      | (with_reducible refine LeO.ite ?_ ?_)
      | (with_reducible refine LeO.bind ?_ (fun _ => ?_))
      | exact ih0 _ _ _ _ _
      | exact ih1 _ _ _ _ _
      | exact ih2 _ _ _ _ _ _ _ _ _ _ _ _
      | exact ih3 _ _ _ _ _ _ _ _ _ _ _ _
      | exact rosetteref11_Ints.mono _ _ _
      | exact LeO.none _
      | refine LeO.ite ?_ ?_
      | refine LeO.bind ?_ (fun _ => ?_)
    · intro y0 y1 y2 y3 y4 y5 y6 y7 y8 y9 y10 y11
      unfold rosetteref15_Same.l1
      repeat' first
      | (with_reducible exact ih0 _ _ _ _ _)
      | (with_reducible exact ih1 _ _ _ _ _)
      | (with_reducible exact ih2 _ _ _ _ _ _ _ _ _ _ _ _)
      | (with_reducible exact ih3 _ _ _ _ _ _ _ _ _ _ _ _)
      | (with_reducible exact rosetteref11_Ints.mono _ _ _)
      | (with_reducible exact LeO.refl _)
      | (with_reducible exact LeO.none _)
      | (with_reducible refine LeO.ite ?_ ?_)
      | (with_reducible refine LeO.bind ?_ (fun _ => ?_))
      | exact ih0 _ _ _ _ _
      | exact ih1 _ _ _ _ _
      | exact ih2 _ _ _ _ _ _ _ _ _ _ _ _
      | exact ih3 _ _ _ _ _ _ _ _ _ _ _ _
      | exact rosetteref11_Ints.mono _ _ _
      | exact LeO.none _
      | refine LeO.ite ?_ ?_
      | refine LeO.bind ?_ (fun _ => ?_)
theorem rosetteref15_Same.mono : ∀ a0 a1 a2 a3 k, LeO (rosetteref15_Same.f k a0 a1 a2 a3) (rosetteref15_Same.f (k + 1) a0 a1 a2 a3) := by
  intro a0 a1 a2 a3 k
  obtain ⟨ih0, ih1, ih2, ih3⟩ := rosetteref15_Same.mono_l k
  unfold rosetteref15_Same.f
  repeat' first
      | (with_reducible exact ih0 _ _ _ _ _)
      | (with_reducible exact ih1 _ _ _ _ _)
      | (with_reducible exact ih2 _ _ _ _ _ _ _ _ _ _ _ _)
      | (with_reducible exact ih3 _ _ _ _ _ _ _ _ _ _ _ _)
      | (with_reducible exact rosetteref11_Ints.mono _ _ _)
      | (with_reducible exact LeO.refl _)
      | (with_reducible exact LeO.none _)
      | (with_reducible refine LeO.ite ?_ ?_)
      | (with_reducible refine LeO.bind ?_ (fun _ => ?_))
      | exact ih0 _ _ _ _ _
      | exact ih1 _ _ _ _ _
      | exact ih2 _ _ _ _ _ _ _ _ _ _ _ _
      | exact ih3 _ _ _ _ _ _ _ _ _ _ _ _
      | exact rosetteref11_Ints.mono _ _ _
      | exact LeO.none _
      | refine LeO.ite ?_ ?_
      | refine LeO.bind ?_ (fun _ => ?_)
set_option maxHeartbeats 8000000 in
set_option maxRecDepth 100000 in
theorem rosetteref15_Same.calls (k : Nat) (A0_0 : Option Addr) (c0_0 : Nat) (l0_0 : List Int) (A0_1 : Option Addr) (c0_1 : Nat) (l0_1 : List (S40)) (A1_0 : Option Addr) (c1_0 : Nat) (l1_0 : List Int) (A1_1 : Option Addr) (c1_1 : Nat) (l1_1 : List (S40)) (r : Bool) (w : World) (hr0_0 : Kd.C (Kd.int .i64) w A0_0 l0_0.length l0_0) (hc0_0 : l0_0.length ≤ c0_0) (hr0_1 : Kd.C k40 w A0_1 l0_1.length l0_1) (hc0_1 : l0_1.length ≤ c0_1) (hr1_0 : Kd.C (Kd.int .i64) w A1_0 l1_0.length l1_0) (hc1_0 : l1_0.length ≤ c1_0) (hr1_1 : Kd.C k40 w A1_1 l1_1.length l1_1) (hc1_1 : l1_1.length ≤ c1_1) (h : rosetteref15_Same.f k l0_0 l0_1 l1_0 l1_1 = some r) :
    Calls Try.prog 14 #[.agg #[.slice A0_0 l0_0.length c0_0, .slice A0_1 l0_1.length c0_1], .agg #[.slice A1_0 l1_0.length c1_0, .slice A1_1 l1_1.length c1_1]] w fun e w' => e = .returned (.bool r) ∧ Below w.heap.size w w' := by
  have hu25 := Try.underlying25
  have hu40 := Try.underlying40
  have hu46 := Try.underlying46
  have HR0_0 := Aside0.mk hr0_0
  have HC0_0 := Aside0.mk hc0_0
  clear hr0_0 hc0_0
  have HR0_1 := Aside0.mk hr0_1
  have HC0_1 := Aside0.mk hc0_1
  clear hr0_1 hc0_1
  have HR1_0 := Aside0.mk hr1_0
  have HC1_0 := Aside0.mk hc1_0
  clear hr1_0 hc1_0
  have HR1_1 := Aside0.mk hr1_1
  have HC1_1 := Aside0.mk hc1_1
  clear hr1_1 hc1_1
  have HB := Aside0.mk (Below.refl w.heap.size w)
  have H : ((rosetteref11_Ints.f k l0_0 l1_0).bind fun t125 => (if t125 = true then (rosetteref15_Same.j0 k ((l0_1.length : Int) != (l1_1.length : Int)) l0_0 l0_1 l1_0 l1_1) else (rosetteref15_Same.j0 k true l0_0 l0_1 l1_0 l1_1))) = some r := h
  clear h
  have HC3 := Aside0.mk H
  clear H
  go_enter Try.func14, Try.ntmps14
  go_upto_region 1 with (first | ((with_reducible refine gate_dst (N := 2) rfl ?_); (try (refine gate_guard (by rfl) ?_; dsimp only)); refine box_event ?hg (N := 2) ?hd (cs := #[.slice A0_0 l0_0.length c0_0, .slice A0_1 l0_1.length c0_1]) (t := 25) ?hr ?_; (case hd => rfl); (case hg => rfl); (case hr => first | (go_simp; done) | (go_simp; rfl)); intro gb123 hg w4 hbox hb; have n0_ := Aside0.mk (below_step (by repeat (first | (with_reducible first | exact HB.out | apply below_alloc | apply pw_below_drewN | apply below_drew1) | exact HB.out)) hb); have n1_ := Aside0.mk (hbox); have n2_ := Aside0.mk ((by rw [hg]; exact (below_size (by repeat (first | (with_reducible first | exact HB.out | apply below_alloc | apply pw_below_drewN | apply below_drew1) | exact HB.out))) : w.heap.size ≤ gb123)); have n3_ := Aside0.mk ((by rw [hg]; exact (below_size (by repeat (first | (with_reducible first | exact HB.out | apply below_alloc | apply pw_below_drewN | apply below_drew1) | exact HB.out))) : w.heap.size ≤ gb123)); clear HB; have HB := n0_; have BK123 := n1_; have GW123 := n2_; have GE123 := n3_; clear n0_ n1_ n2_ n3_; clear hb hbox hg) | ((with_reducible refine gate_dst (N := 3) rfl ?_); (try (refine gate_guard (by rfl) ?_; dsimp only)); refine box_event ?hg (N := 3) ?hd (cs := #[.slice A1_0 l1_0.length c1_0, .slice A1_1 l1_1.length c1_1]) (t := 25) ?hr ?_; (case hd => rfl); (case hg => rfl); (case hr => first | (go_simp; done) | (go_simp; rfl)); intro gb124 hg w5 hbox hb; have n0_ := Aside0.mk (blk_below (g := gb123) (o := .cells #[.slice A0_0 l0_0.length c0_0, .slice A0_1 l0_1.length c0_1] 25 (0, 0)) (by (with_reducible repeat (first | refine blk_drewN ?_ _ | refine blk_drew ?_ | refine blk_alloc ?_ _)); exact BK123.out) hb); have n1_ := Aside0.mk (below_step (by repeat (first | (with_reducible first | exact HB.out | apply below_alloc | apply pw_below_drewN | apply below_drew1 | refine below_set ?_ GE123.out) | exact HB.out)) hb); have n2_ := Aside0.mk (hbox); have n3_ := Aside0.mk ((by rw [hg]; exact (below_size (by repeat (first | (with_reducible first | exact HB.out | apply below_alloc | apply pw_below_drewN | apply below_drew1 | refine below_set ?_ GE123.out) | exact HB.out))) : w.heap.size ≤ gb124)); have n4_ := Aside0.mk ((by rw [hg]; exact (below_size (by repeat (first | (with_reducible first | exact HB.out | apply below_alloc | apply pw_below_drewN | apply below_drew1 | refine below_set ?_ GE123.out) | exact HB.out))) : w.heap.size ≤ gb124)); have n5_ := Aside0.mk ((by rw [hg]; exact Nat.ne_of_lt (blk_lt (g := gb123) (o := .cells #[.slice A0_0 l0_0.length c0_0, .slice A0_1 l0_1.length c0_1] 25 (0, 0)) (by (with_reducible repeat (first | refine blk_drewN ?_ _ | refine blk_drew ?_ | refine blk_alloc ?_ _)); exact BK123.out)) : gb123 ≠ gb124)); have n6_ := Aside0.mk ((by rw [hg]; exact Nat.ne_of_gt (blk_lt (g := gb123) (o := .cells #[.slice A0_0 l0_0.length c0_0, .slice A0_1 l0_1.length c0_1] 25 (0, 0)) (by (with_reducible repeat (first | refine blk_drewN ?_ _ | refine blk_drew ?_ | refine blk_alloc ?_ _)); exact BK123.out)) : gb124 ≠ gb123)); clear BK123; clear HB; have BK123 := n0_; have HB := n1_; have BK124 := n2_; have GW124 := n3_; have GE124 := n4_; have NB123_124 := n5_; have NB124_123 := n6_; clear n0_ n1_ n2_ n3_ n4_ n5_ n6_; clear hb hbox hg))
  repeat (go_quiet (first | ((with_reducible refine gate_dst (N := 2) rfl ?_); (try (refine gate_guard (by rfl) ?_; dsimp only)); refine box_event ?hg (N := 2) ?hd (cs := #[.slice A0_0 l0_0.length c0_0, .slice A0_1 l0_1.length c0_1]) (t := 25) ?hr ?_; (case hd => rfl); (case hg => rfl); (case hr => first | (go_simp; done) | (go_simp; rfl)); intro gb123 hg w4 hbox hb; have n0_ := Aside0.mk (below_step (by repeat (first | (with_reducible first | exact HB.out | apply below_alloc | apply pw_below_drewN | apply below_drew1) | exact HB.out)) hb); have n1_ := Aside0.mk (hbox); have n2_ := Aside0.mk ((by rw [hg]; exact (below_size (by repeat (first | (with_reducible first | exact HB.out | apply below_alloc | apply pw_below_drewN | apply below_drew1) | exact HB.out))) : w.heap.size ≤ gb123)); have n3_ := Aside0.mk ((by rw [hg]; exact (below_size (by repeat (first | (with_reducible first | exact HB.out | apply below_alloc | apply pw_below_drewN | apply below_drew1) | exact HB.out))) : w.heap.size ≤ gb123)); clear HB; have HB := n0_; have BK123 := n1_; have GW123 := n2_; have GE123 := n3_; clear n0_ n1_ n2_ n3_; clear hb hbox hg) | ((with_reducible refine gate_dst (N := 3) rfl ?_); (try (refine gate_guard (by rfl) ?_; dsimp only)); refine box_event ?hg (N := 3) ?hd (cs := #[.slice A1_0 l1_0.length c1_0, .slice A1_1 l1_1.length c1_1]) (t := 25) ?hr ?_; (case hd => rfl); (case hg => rfl); (case hr => first | (go_simp; done) | (go_simp; rfl)); intro gb124 hg w5 hbox hb; have n0_ := Aside0.mk (blk_below (g := gb123) (o := .cells #[.slice A0_0 l0_0.length c0_0, .slice A0_1 l0_1.length c0_1] 25 (0, 0)) (by (with_reducible repeat (first | refine blk_drewN ?_ _ | refine blk_drew ?_ | refine blk_alloc ?_ _)); exact BK123.out) hb); have n1_ := Aside0.mk (below_step (by repeat (first | (with_reducible first | exact HB.out | apply below_alloc | apply pw_below_drewN | apply below_drew1 | refine below_set ?_ GE123.out) | exact HB.out)) hb); have n2_ := Aside0.mk (hbox); have n3_ := Aside0.mk ((by rw [hg]; exact (below_size (by repeat (first | (with_reducible first | exact HB.out | apply below_alloc | apply pw_below_drewN | apply below_drew1 | refine below_set ?_ GE123.out) | exact HB.out))) : w.heap.size ≤ gb124)); have n4_ := Aside0.mk ((by rw [hg]; exact (below_size (by repeat (first | (with_reducible first | exact HB.out | apply below_alloc | apply pw_below_drewN | apply below_drew1 | refine below_set ?_ GE123.out) | exact HB.out))) : w.heap.size ≤ gb124)); have n5_ := Aside0.mk ((by rw [hg]; exact Nat.ne_of_lt (blk_lt (g := gb123) (o := .cells #[.slice A0_0 l0_0.length c0_0, .slice A0_1 l0_1.length c0_1] 25 (0, 0)) (by (with_reducible repeat (first | refine blk_drewN ?_ _ | refine blk_drew ?_ | refine blk_alloc ?_ _)); exact BK123.out)) : gb123 ≠ gb124)); have n6_ := Aside0.mk ((by rw [hg]; exact Nat.ne_of_gt (blk_lt (g := gb123) (o := .cells #[.slice A0_0 l0_0.length c0_0, .slice A0_1 l0_1.length c0_1] 25 (0, 0)) (by (with_reducible repeat (first | refine blk_drewN ?_ _ | refine blk_drew ?_ | refine blk_alloc ?_ _)); exact BK123.out)) : gb124 ≠ gb123)); clear BK123; clear HB; have BK123 := n0_; have HB := n1_; have BK124 := n2_; have GW124 := n3_; have GE124 := n4_; have NB123_124 := n5_; have NB124_123 := n6_; clear n0_ n1_ n2_ n3_ n4_ n5_ n6_; clear hb hbox hg)); go_upto_region 1 with (first | ((with_reducible refine gate_dst (N := 2) rfl ?_); (try (refine gate_guard (by rfl) ?_; dsimp only)); refine box_event ?hg (N := 2) ?hd (cs := #[.slice A0_0 l0_0.length c0_0, .slice A0_1 l0_1.length c0_1]) (t := 25) ?hr ?_; (case hd => rfl); (case hg => rfl); (case hr => first | (go_simp; done) | (go_simp; rfl)); intro gb123 hg w4 hbox hb; have n0_ := Aside0.mk (below_step (by repeat (first | (with_reducible first | exact HB.out | apply below_alloc | apply pw_below_drewN | apply below_drew1) | exact HB.out)) hb); have n1_ := Aside0.mk (hbox); have n2_ := Aside0.mk ((by rw [hg]; exact (below_size (by repeat (first | (with_reducible first | exact HB.out | apply below_alloc | apply pw_below_drewN | apply below_drew1) | exact HB.out))) : w.heap.size ≤ gb123)); have n3_ := Aside0.mk ((by rw [hg]; exact (below_size (by repeat (first | (with_reducible first | exact HB.out | apply below_alloc | apply pw_below_drewN | apply below_drew1) | exact HB.out))) : w.heap.size ≤ gb123)); clear HB; have HB := n0_; have BK123 := n1_; have GW123 := n2_; have GE123 := n3_; clear n0_ n1_ n2_ n3_; clear hb hbox hg) | ((with_reducible refine gate_dst (N := 3) rfl ?_); (try (refine gate_guard (by rfl) ?_; dsimp only)); refine box_event ?hg (N := 3) ?hd (cs := #[.slice A1_0 l1_0.length c1_0, .slice A1_1 l1_1.length c1_1]) (t := 25) ?hr ?_; (case hd => rfl); (case hg => rfl); (case hr => first | (go_simp; done) | (go_simp; rfl)); intro gb124 hg w5 hbox hb; have n0_ := Aside0.mk (blk_below (g := gb123) (o := .cells #[.slice A0_0 l0_0.length c0_0, .slice A0_1 l0_1.length c0_1] 25 (0, 0)) (by (with_reducible repeat (first | refine blk_drewN ?_ _ | refine blk_drew ?_ | refine blk_alloc ?_ _)); exact BK123.out) hb); have n1_ := Aside0.mk (below_step (by repeat (first | (with_reducible first | exact HB.out | apply below_alloc | apply pw_below_drewN | apply below_drew1 | refine below_set ?_ GE123.out) | exact HB.out)) hb); have n2_ := Aside0.mk (hbox); have n3_ := Aside0.mk ((by rw [hg]; exact (below_size (by repeat (first | (with_reducible first | exact HB.out | apply below_alloc | apply pw_below_drewN | apply below_drew1 | refine below_set ?_ GE123.out) | exact HB.out))) : w.heap.size ≤ gb124)); have n4_ := Aside0.mk ((by rw [hg]; exact (below_size (by repeat (first | (with_reducible first | exact HB.out | apply below_alloc | apply pw_below_drewN | apply below_drew1 | refine below_set ?_ GE123.out) | exact HB.out))) : w.heap.size ≤ gb124)); have n5_ := Aside0.mk ((by rw [hg]; exact Nat.ne_of_lt (blk_lt (g := gb123) (o := .cells #[.slice A0_0 l0_0.length c0_0, .slice A0_1 l0_1.length c0_1] 25 (0, 0)) (by (with_reducible repeat (first | refine blk_drewN ?_ _ | refine blk_drew ?_ | refine blk_alloc ?_ _)); exact BK123.out)) : gb123 ≠ gb124)); have n6_ := Aside0.mk ((by rw [hg]; exact Nat.ne_of_gt (blk_lt (g := gb123) (o := .cells #[.slice A0_0 l0_0.length c0_0, .slice A0_1 l0_1.length c0_1] 25 (0, 0)) (by (with_reducible repeat (first | refine blk_drewN ?_ _ | refine blk_drew ?_ | refine blk_alloc ?_ _)); exact BK123.out)) : gb124 ≠ gb123)); clear BK123; clear HB; have BK123 := n0_; have HB := n1_; have BK124 := n2_; have GW124 := n3_; have GE124 := n4_; have NB123_124 := n5_; have NB124_123 := n6_; clear n0_ n1_ n2_ n3_ n4_ n5_ n6_; clear hb hbox hg)))
  (try simp only [Act.put, List.setIfInBounds_toArray, List.set_cons_zero, List.set_cons_succ])
  go_cut [23] (fun v23 wc => ∃ (kq : Nat) (x23_2 : Bool), v23 = .bool x23_2 ∧ Aside0 (rosetteref15_Same.j0 kq x23_2 l0_0 l0_1 l1_0 l1_1 = some r) ∧ Aside0 (kq ≤ k) ∧ Aside0 (wc.heap[gb123]? = some (.cells #[(.slice A0_0 l0_0.length c0_0), (.slice A0_1 l0_1.length c0_1)] 25 (0, 0))) ∧ Aside0 (wc.heap[gb124]? = some (.cells #[(.slice A1_0 l1_0.length c1_0), (.slice A1_1 l1_1.length c1_1)] 25 (0, 0))) ∧ Aside0 (Below w.heap.size w wc))
  case first =>
    have H := HC3.out
    clear HC3
    replace H := Option.bind_eq_some_iff.mp H
    obtain ⟨t125, A60, H⟩ := H
    replace H : (if t125 = true then (rosetteref15_Same.j0 k ((l0_1.length : Int) != (l1_1.length : Int)) l0_0 l0_1 l1_0 l1_1) else (rosetteref15_Same.j0 k true l0_0 l0_1 l1_0 l1_1)) = some r := H
    have A6 := Aside0.mk A60
    clear A60
    by_cases c7 : t125 = true
    · subst c7
      have H1 : (rosetteref15_Same.j0 k ((l0_1.length : Int) != (l1_1.length : Int)) l0_0 l0_1 l1_0 l1_1) = some r := by rw [if_pos rfl] at H; exact H
      clear H
      have H := H1
      clear H1
      have H' := Aside0.mk H
      clear H
      have hnb8 := NB123_124.out
      have hnc8 := NB124_123.out
      have hcz9_0 : w5.cell? ⟨gb123, 0, none⟩ = some (.slice A0_0 l0_0.length c0_0) := (blk_cell BK123.out 0).trans rfl
      have hcz9_1 : w5.cell? ⟨gb123, 1, none⟩ = some (.slice A0_1 l0_1.length c0_1) := (blk_cell BK123.out 1).trans rfl
      have hfz9_0 := blk_frozen BK123.out 0
      have hfz9_1 := blk_frozen BK123.out 1
      have hcz10_0 : w5.cell? ⟨gb124, 0, none⟩ = some (.slice A1_0 l1_0.length c1_0) := (blk_cell BK124.out 0).trans rfl
      have hcz10_1 : w5.cell? ⟨gb124, 1, none⟩ = some (.slice A1_1 l1_1.length c1_1) := (blk_cell BK124.out 1).trans rfl
      have hfz10_0 := blk_frozen BK124.out 0
      have hfz10_1 := blk_frozen BK124.out 1
      go_wp2_with (first | (go_at_call 20; (with_reducible refine (rosetteref11_Ints.calls k _ _ l0_0 _ _ l1_0 true _ ?side1 ?side2 ?side3 ?side4 A6.out).mono ?_); (case side1 => repeat (first | exact (Kd.C_below HR0_0.out HB.out) | (with_reducible refine Kd.C_alloc ?_ _) | (with_reducible refine Kd.C_drewN ?_ _) | (with_reducible refine Kd.C_drew ?_))); (case side2 => exact HC0_0.out); (case side3 => repeat (first | exact (Kd.C_below HR1_0.out HB.out) | (with_reducible refine Kd.C_alloc ?_ _) | (with_reducible refine Kd.C_drewN ?_ _) | (with_reducible refine Kd.C_drew ?_))); (case side4 => exact HC1_0.out); rintro e w' ⟨rfl, ⟨nd, rfl⟩⟩; (try first | exact ⟨rfl, _, World.drewN_drewN _ _ _⟩ | exact ⟨rfl, _, Eq.trans (World.drewN_drewN _ _ _) (congrArg (World.drewN _) (Nat.add_assoc _ _ _))⟩)))
      repeat (go_quiet (first | (go_at_call 20; (with_reducible refine (rosetteref11_Ints.calls k _ _ l0_0 _ _ l1_0 true _ ?side1 ?side2 ?side3 ?side4 A6.out).mono ?_); (case side1 => repeat (first | exact (Kd.C_below HR0_0.out HB.out) | (with_reducible refine Kd.C_alloc ?_ _) | (with_reducible refine Kd.C_drewN ?_ _) | (with_reducible refine Kd.C_drew ?_))); (case side2 => exact HC0_0.out); (case side3 => repeat (first | exact (Kd.C_below HR1_0.out HB.out) | (with_reducible refine Kd.C_alloc ?_ _) | (with_reducible refine Kd.C_drewN ?_ _) | (with_reducible refine Kd.C_drew ?_))); (case side4 => exact HC1_0.out); rintro e w' ⟨rfl, ⟨nd, rfl⟩⟩; (try first | exact ⟨rfl, _, World.drewN_drewN _ _ _⟩ | exact ⟨rfl, _, Eq.trans (World.drewN_drewN _ _ _) (congrArg (World.drewN _) (Nat.add_assoc _ _ _))⟩))); try go_wp2_with (first | (go_at_call 20; (with_reducible refine (rosetteref11_Ints.calls k _ _ l0_0 _ _ l1_0 true _ ?side1 ?side2 ?side3 ?side4 A6.out).mono ?_); (case side1 => repeat (first | exact (Kd.C_below HR0_0.out HB.out) | (with_reducible refine Kd.C_alloc ?_ _) | (with_reducible refine Kd.C_drewN ?_ _) | (with_reducible refine Kd.C_drew ?_))); (case side2 => exact HC0_0.out); (case side3 => repeat (first | exact (Kd.C_below HR1_0.out HB.out) | (with_reducible refine Kd.C_alloc ?_ _) | (with_reducible refine Kd.C_drewN ?_ _) | (with_reducible refine Kd.C_drew ?_))); (case side4 => exact HC1_0.out); rintro e w' ⟨rfl, ⟨nd, rfl⟩⟩; (try first | exact ⟨rfl, _, World.drewN_drewN _ _ _⟩ | exact ⟨rfl, _, Eq.trans (World.drewN_drewN _ _ _) (congrArg (World.drewN _) (Nat.add_assoc _ _ _))⟩))))
      go_meet
      case rel => exact ⟨_, (((l0_1.length : Int) != (l1_1.length : Int))), (by first | rfl | (simp; done) | (simp [*]; done)), H', ⟨by first | omega | exact Nat.le_refl _⟩, ⟨by (with_reducible repeat (first | refine blk_drewN ?_ _ | refine blk_drew ?_ | refine blk_alloc ?_ _)); exact BK123.out⟩, ⟨by (with_reducible repeat (first | refine blk_drewN ?_ _ | refine blk_drew ?_ | refine blk_alloc ?_ _)); exact BK124.out⟩, ⟨by repeat (first | (with_reducible first | exact HB.out | apply below_alloc | apply pw_below_drewN | apply below_drew1 | refine below_set ?_ GE123.out | refine below_set ?_ GE124.out) | exact HB.out)⟩⟩
    · replace c7 := Bool.eq_false_iff.mpr c7
      subst c7
      have H1 : (rosetteref15_Same.j0 k true l0_0 l0_1 l1_0 l1_1) = some r := by rw [if_neg (show ¬ (false = true) by decide)] at H; exact H
      clear H
      have H := H1
      clear H1
      have H' := Aside0.mk H
      clear H
      have hnb11 := NB123_124.out
      have hnc11 := NB124_123.out
      have hcz12_0 : w5.cell? ⟨gb123, 0, none⟩ = some (.slice A0_0 l0_0.length c0_0) := (blk_cell BK123.out 0).trans rfl
      have hcz12_1 : w5.cell? ⟨gb123, 1, none⟩ = some (.slice A0_1 l0_1.length c0_1) := (blk_cell BK123.out 1).trans rfl
      have hfz12_0 := blk_frozen BK123.out 0
      have hfz12_1 := blk_frozen BK123.out 1
      have hcz13_0 : w5.cell? ⟨gb124, 0, none⟩ = some (.slice A1_0 l1_0.length c1_0) := (blk_cell BK124.out 0).trans rfl
      have hcz13_1 : w5.cell? ⟨gb124, 1, none⟩ = some (.slice A1_1 l1_1.length c1_1) := (blk_cell BK124.out 1).trans rfl
      have hfz13_0 := blk_frozen BK124.out 0
      have hfz13_1 := blk_frozen BK124.out 1
      go_wp2_with (first | (go_at_call 20; (with_reducible refine (rosetteref11_Ints.calls k _ _ l0_0 _ _ l1_0 false _ ?side1 ?side2 ?side3 ?side4 A6.out).mono ?_); (case side1 => repeat (first | exact (Kd.C_below HR0_0.out HB.out) | (with_reducible refine Kd.C_alloc ?_ _) | (with_reducible refine Kd.C_drewN ?_ _) | (with_reducible refine Kd.C_drew ?_))); (case side2 => exact HC0_0.out); (case side3 => repeat (first | exact (Kd.C_below HR1_0.out HB.out) | (with_reducible refine Kd.C_alloc ?_ _) | (with_reducible refine Kd.C_drewN ?_ _) | (with_reducible refine Kd.C_drew ?_))); (case side4 => exact HC1_0.out); rintro e w' ⟨rfl, ⟨nd, rfl⟩⟩; (try first | exact ⟨rfl, _, World.drewN_drewN _ _ _⟩ | exact ⟨rfl, _, Eq.trans (World.drewN_drewN _ _ _) (congrArg (World.drewN _) (Nat.add_assoc _ _ _))⟩)))
      repeat (go_quiet (first | (go_at_call 20; (with_reducible refine (rosetteref11_Ints.calls k _ _ l0_0 _ _ l1_0 false _ ?side1 ?side2 ?side3 ?side4 A6.out).mono ?_); (case side1 => repeat (first | exact (Kd.C_below HR0_0.out HB.out) | (with_reducible refine Kd.C_alloc ?_ _) | (with_reducible refine Kd.C_drewN ?_ _) | (with_reducible refine Kd.C_drew ?_))); (case side2 => exact HC0_0.out); (case side3 => repeat (first | exact (Kd.C_below HR1_0.out HB.out) | (with_reducible refine Kd.C_alloc ?_ _) | (with_reducible refine Kd.C_drewN ?_ _) | (with_reducible refine Kd.C_drew ?_))); (case side4 => exact HC1_0.out); rintro e w' ⟨rfl, ⟨nd, rfl⟩⟩; (try first | exact ⟨rfl, _, World.drewN_drewN _ _ _⟩ | exact ⟨rfl, _, Eq.trans (World.drewN_drewN _ _ _) (congrArg (World.drewN _) (Nat.add_assoc _ _ _))⟩))); try go_wp2_with (first | (go_at_call 20; (with_reducible refine (rosetteref11_Ints.calls k _ _ l0_0 _ _ l1_0 false _ ?side1 ?side2 ?side3 ?side4 A6.out).mono ?_); (case side1 => repeat (first | exact (Kd.C_below HR0_0.out HB.out) | (with_reducible refine Kd.C_alloc ?_ _) | (with_reducible refine Kd.C_drewN ?_ _) | (with_reducible refine Kd.C_drew ?_))); (case side2 => exact HC0_0.out); (case side3 => repeat (first | exact (Kd.C_below HR1_0.out HB.out) | (with_reducible refine Kd.C_alloc ?_ _) | (with_reducible refine Kd.C_drewN ?_ _) | (with_reducible refine Kd.C_drew ?_))); (case side4 => exact HC1_0.out); rintro e w' ⟨rfl, ⟨nd, rfl⟩⟩; (try first | exact ⟨rfl, _, World.drewN_drewN _ _ _⟩ | exact ⟨rfl, _, Eq.trans (World.drewN_drewN _ _ _) (congrArg (World.drewN _) (Nat.add_assoc _ _ _))⟩))))
      go_meet
      case rel => exact ⟨_, (true), (by first | rfl | (simp; done) | (simp [*]; done)), H', ⟨by first | omega | exact Nat.le_refl _⟩, ⟨by (with_reducible repeat (first | refine blk_drewN ?_ _ | refine blk_drew ?_ | refine blk_alloc ?_ _)); exact BK123.out⟩, ⟨by (with_reducible repeat (first | refine blk_drewN ?_ _ | refine blk_drew ?_ | refine blk_alloc ?_ _)); exact BK124.out⟩, ⟨by repeat (first | (with_reducible first | exact HB.out | apply below_alloc | apply pw_below_drewN | apply below_drew1 | refine below_set ?_ GE123.out | refine below_set ?_ GE124.out) | exact HB.out)⟩⟩
  case rest =>
    clear HC3
    try clear c1
    try clear p2
    try clear c7
    try clear c8
    try clear c11
    try clear hcz10_0
    try clear hcz10_1
    try clear hcz12_0
    try clear hcz12_1
    try clear hcz13_0
    try clear hcz13_1
    try clear hcz9_0
    try clear hcz9_1
    try clear hfz10_0
    try clear hfz10_1
    try clear hfz12_0
    try clear hfz12_1
    try clear hfz13_0
    try clear hfz13_1
    try clear hfz9_0
    try clear hfz9_1
    obtain ⟨kq, x23_2, rfl, HA, HJ2, BK123, BK124, HB⟩ := hcut
    cases kq with
    | zero => exact absurd HA.out (by simp [rosetteref15_Same.j0])
    | succ kj2 =>
      have H := HA.out
      clear HA
      simp only [rosetteref15_Same.j0] at H
      by_cases c14 : x23_2 = true
      · subst c14
        have H1 : (some false) = some r := by rw [if_pos rfl] at H; exact H
        clear H
        have H := H1
        clear H1
        obtain rfl := Option.some.inj H
        go_wp2
        repeat (go_quiet (fail); try go_wp2)
        go_ret
        exact ⟨by first | rfl | (simp [errW_none, errW_some] <;> rfl) | (simp [*, errW_none, errW_some] <;> rfl), by repeat (first | (with_reducible first | exact HB.out | apply below_alloc | apply pw_below_drewN | apply below_drew1 | refine below_set ?_ GE123.out | refine below_set ?_ GE124.out) | exact HB.out)⟩
      · replace c14 := Bool.eq_false_iff.mpr c14
        subst c14
        have H1 : (rosetteref15_Same.l0 kj2 0 l0_0 l0_1 l1_0 l1_1) = some r := by rw [if_neg (show ¬ (false = true) by decide)] at H; exact H
        clear H
        have H := H1
        clear H1
        have H' := Aside0.mk H
        clear H
        go_wp2
        repeat (go_quiet (fail); try go_wp2)
        go_loopg [5] kj2 (fun kq v5 w' => ∃ (x5_2 : Int), v5 = .int .i64 x5_2 ∧ Aside0 (rosetteref15_Same.l0 kq x5_2 l0_0 l0_1 l1_0 l1_1 = some r) ∧ Aside0 (kq ≤ kj2) ∧ Aside0 (w'.heap[gb123]? = some (.cells #[(.slice A0_0 l0_0.length c0_0), (.slice A0_1 l0_1.length c0_1)] 25 (0, 0))) ∧ Aside0 (w'.heap[gb124]? = some (.cells #[(.slice A1_0 l1_0.length c1_0), (.slice A1_1 l1_1.length c1_1)] 25 (0, 0))) ∧ Aside0 (Below w.heap.size w w'))
        case atStart => exact ⟨(0), (by first | rfl | (simp; done) | (simp [*]; done)), H', ⟨Nat.le_refl _⟩, ⟨by (with_reducible repeat (first | refine blk_drewN ?_ _ | refine blk_drew ?_ | refine blk_alloc ?_ _)); exact BK123.out⟩, ⟨by (with_reducible repeat (first | refine blk_drewN ?_ _ | refine blk_drew ?_ | refine blk_alloc ?_ _)); exact BK124.out⟩, ⟨by repeat (first | (with_reducible first | exact HB.out | apply below_alloc | apply pw_below_drewN | apply below_drew1 | refine below_set ?_ GE123.out | refine below_set ?_ GE124.out) | exact HB.out)⟩⟩
        case round =>
          clear H'
          try clear c1
          try clear p2
          try clear c7
          try clear c8
          try clear c11
          try clear c14
          try clear hcz10_0
          try clear hcz10_1
          try clear hcz12_0
          try clear hcz12_1
          try clear hcz13_0
          try clear hcz13_1
          try clear hcz9_0
          try clear hcz9_1
          try clear hfz10_0
          try clear hfz10_1
          try clear hfz12_0
          try clear hfz12_1
          try clear hfz13_0
          try clear hfz13_1
          try clear hfz9_0
          try clear hfz9_1
          try clear p2
          obtain ⟨x5_2, rfl, HA, HK2, BK123, BK124, HB⟩ := hrel
          cases gk with
          | zero => exact absurd HA.out (by simp [rosetteref15_Same.l0])
          | succ k2 =>
            have H := HA.out
            clear HA
            simp only [rosetteref15_Same.l0] at H
            by_cases c15 : x5_2 < (l0_1.length : Int)
            · rw [if_pos c15] at H
              have c15b0 : decide (x5_2 < (l0_1.length : Int)) = true := decide_eq_true c15
              clear c15
              by_cases c16 : 0 ≤ x5_2
              · rw [if_pos c16] at H
                have c16b0 : decide (0 ≤ x5_2) = true := decide_eq_true c16
                clear c16
                by_cases c17 : x5_2 < (l1_1.length : Int)
                · rw [if_pos c17] at H
                  have c17b0 : decide (x5_2 < (l1_1.length : Int)) = true := decide_eq_true c17
                  clear c17
                  have HC18 := Aside0.mk H
                  clear H
                  have hnb19 := NB123_124.out
                  have hnc19 := NB124_123.out
                  have hcz20_0 : wr.cell? ⟨gb123, 0, none⟩ = some (.slice A0_0 l0_0.length c0_0) := (blk_cell BK123.out 0).trans rfl
                  have hcz20_1 : wr.cell? ⟨gb123, 1, none⟩ = some (.slice A0_1 l0_1.length c0_1) := (blk_cell BK123.out 1).trans rfl
                  have hfz20_0 := blk_frozen BK123.out 0
                  have hfz20_1 := blk_frozen BK123.out 1
                  have p126 : 0 ≤ (x5_2 : Int) := of_decide_eq_true (by first | (with_reducible assumption) | assumption)
                  have q126 : x5_2 < (l0_1.length : Int) := of_decide_eq_true (by first | (with_reducible assumption) | assumption)
                  obtain ⟨ad126, A126_2, c126_2, e126, hx126_0, hx126_1, hx126_2, hl126_2, hi126_2⟩ := at_T40 HR0_1.out x5_2 p126 q126
                  cases e126
                  replace hx126_0 := (HB.out.cell (World.block_lt_of_cell? w _ hx126_0)).trans hx126_0
                  replace hx126_1 := (HB.out.cell (World.block_lt_of_cell? w _ hx126_1)).trans hx126_1
                  replace hx126_2 := (HB.out.cell (World.block_lt_of_cell? w _ hx126_2)).trans hx126_2
                  have HR126_2 := Aside0.mk hi126_2
                  have HC126_2 := Aside0.mk hl126_2
                  clear hi126_2 hl126_2
                  replace p126 := eq_true p126
                  replace q126 := eq_true q126
                  go_upto_region 8 with (first | ((with_reducible refine gate_dst (N := 6) rfl ?_); (try (refine gate_guard (by rfl) ?_; dsimp only)); refine box_event ?hg (N := 6) ?hd (cs := #[.int .i64 0, .int .i64 0, .slice none 0 0]) (t := 40) ?hr ?_; (case hd => rfl); (case hg => rfl); (case hr => first | (go_simp; done) | (go_simp; rfl)); intro gb127 hg w21 hbox hb; have n0_ := Aside0.mk (blk_below (g := gb123) (o := .cells #[.slice A0_0 l0_0.length c0_0, .slice (some ad126) l0_1.length c0_1] 25 (0, 0)) (by (with_reducible repeat (first | refine blk_drewN ?_ _ | refine blk_drew ?_ | refine blk_alloc ?_ _)); exact BK123.out) hb); have n1_ := Aside0.mk (blk_below (g := gb124) (o := .cells #[.slice A1_0 l1_0.length c1_0, .slice A1_1 l1_1.length c1_1] 25 (0, 0)) (by (with_reducible repeat (first | refine blk_drewN ?_ _ | refine blk_drew ?_ | refine blk_alloc ?_ _)); exact BK124.out) hb); have n2_ := Aside0.mk (below_step (by repeat (first | (with_reducible first | exact HB.out | apply below_alloc | apply pw_below_drewN | apply below_drew1 | refine below_set ?_ GE123.out | refine below_set ?_ GE124.out) | exact HB.out)) hb); have n3_ := Aside0.mk (hbox); have n4_ := Aside0.mk ((by rw [hg]; exact (below_size (by repeat (first | (with_reducible first | exact HB.out | apply below_alloc | apply pw_below_drewN | apply below_drew1 | refine below_set ?_ GE123.out | refine below_set ?_ GE124.out) | exact HB.out))) : w.heap.size ≤ gb127)); have n5_ := Aside0.mk ((by rw [hg]; exact (below_size (by repeat (first | (with_reducible first | exact HB.out | apply below_alloc | apply pw_below_drewN | apply below_drew1 | refine below_set ?_ GE123.out | refine below_set ?_ GE124.out) | exact HB.out))) : w.heap.size ≤ gb127)); have n6_ := Aside0.mk ((by rw [hg]; exact Nat.ne_of_lt (blk_lt (g := gb123) (o := .cells #[.slice A0_0 l0_0.length c0_0, .slice (some ad126) l0_1.length c0_1] 25 (0, 0)) (by (with_reducible repeat (first | refine blk_drewN ?_ _ | refine blk_drew ?_ | refine blk_alloc ?_ _)); exact BK123.out)) : gb123 ≠ gb127)); have n7_ := Aside0.mk ((by rw [hg]; exact Nat.ne_of_gt (blk_lt (g := gb123) (o := .cells #[.slice A0_0 l0_0.length c0_0, .slice (some ad126) l0_1.length c0_1] 25 (0, 0)) (by (with_reducible repeat (first | refine blk_drewN ?_ _ | refine blk_drew ?_ | refine blk_alloc ?_ _)); exact BK123.out)) : gb127 ≠ gb123)); have n8_ := Aside0.mk ((by rw [hg]; exact Nat.ne_of_lt (blk_lt (g := gb124) (o := .cells #[.slice A1_0 l1_0.length c1_0, .slice A1_1 l1_1.length c1_1] 25 (0, 0)) (by (with_reducible repeat (first | refine blk_drewN ?_ _ | refine blk_drew ?_ | refine blk_alloc ?_ _)); exact BK124.out)) : gb124 ≠ gb127)); have n9_ := Aside0.mk ((by rw [hg]; exact Nat.ne_of_gt (blk_lt (g := gb124) (o := .cells #[.slice A1_0 l1_0.length c1_0, .slice A1_1 l1_1.length c1_1] 25 (0, 0)) (by (with_reducible repeat (first | refine blk_drewN ?_ _ | refine blk_drew ?_ | refine blk_alloc ?_ _)); exact BK124.out)) : gb127 ≠ gb124)); clear BK123; clear BK124; clear HB; have BK123 := n0_; have BK124 := n1_; have HB := n2_; have BK127 := n3_; have GW127 := n4_; have GE127 := n5_; have NB123_127 := n6_; have NB127_123 := n7_; have NB124_127 := n8_; have NB127_124 := n9_; clear n0_ n1_ n2_ n3_ n4_ n5_ n6_ n7_ n8_ n9_; clear hb hbox hg; have hnb22 := NB127_123.out; have hnc22 := NB123_127.out; have hnb23 := NB127_124.out; have hnc23 := NB124_127.out; have hcz24_0 : w21.cell? ⟨gb127, 0, none⟩ = some (.int .i64 0) := (blk_cell BK127.out 0).trans rfl; have hcz24_1 : w21.cell? ⟨gb127, 1, none⟩ = some (.int .i64 0) := (blk_cell BK127.out 1).trans rfl; have hcz24_2 : w21.cell? ⟨gb127, 2, none⟩ = some (.slice none 0 0) := (blk_cell BK127.out 2).trans rfl; have hfz24_0 := blk_frozen BK127.out 0; have hfz24_1 := blk_frozen BK127.out 1; have hfz24_2 := blk_frozen BK127.out 2; have hcz25_0 : w21.cell? ⟨gb124, 0, none⟩ = some (.slice A1_0 l1_0.length c1_0) := (blk_cell BK124.out 0).trans rfl; have hcz25_1 : w21.cell? ⟨gb124, 1, none⟩ = some (.slice A1_1 l1_1.length c1_1) := (blk_cell BK124.out 1).trans rfl; have hfz25_0 := blk_frozen BK124.out 0; have hfz25_1 := blk_frozen BK124.out 1; have p128 : 0 ≤ (x5_2 : Int) := of_decide_eq_true (by first | (with_reducible assumption) | assumption); have q128 : x5_2 < (l1_1.length : Int) := of_decide_eq_true (by first | (with_reducible assumption) | assumption); obtain ⟨ad128, A128_2, c128_2, e128, hx128_0, hx128_1, hx128_2, hl128_2, hi128_2⟩ := at_T40 HR1_1.out x5_2 p128 q128; cases e128; have hn128_0 : ad128.block ≠ gb127 := Nat.ne_of_lt (Nat.lt_of_lt_of_le (by have := World.block_lt_of_cell? _ _ hx128_0; first | rwa [add_block] at this | exact this) GW127.out); have hn128_1 : ad128.block ≠ gb127 := Nat.ne_of_lt (Nat.lt_of_lt_of_le (by have := World.block_lt_of_cell? _ _ hx128_0; first | rwa [add_block] at this | exact this) GW127.out); have hn128_2 : ad128.block ≠ gb127 := Nat.ne_of_lt (Nat.lt_of_lt_of_le (by have := World.block_lt_of_cell? _ _ hx128_0; first | rwa [add_block] at this | exact this) GW127.out); replace hx128_0 := (HB.out.cell (World.block_lt_of_cell? w _ hx128_0)).trans hx128_0; replace hx128_1 := (HB.out.cell (World.block_lt_of_cell? w _ hx128_1)).trans hx128_1; replace hx128_2 := (HB.out.cell (World.block_lt_of_cell? w _ hx128_2)).trans hx128_2; have HR128_2 := Aside0.mk hi128_2; have HC128_2 := Aside0.mk hl128_2; clear hi128_2 hl128_2; replace hx128_0 := (cell_far (p := ⟨gb127, 0, none⟩) (by first | (rw [add_block]; exact hn128_0) | (show (Addr.add _ _).block ≠ _; rw [add_block]; exact hn128_0) | exact hn128_0) (.int .i64 ((rd_T40 l0_1 x5_2).f0))).trans hx128_0; replace hx128_1 := (cell_far (p := ⟨gb127, 0, none⟩) (by first | (rw [add_block]; exact hn128_0) | (show (Addr.add _ _).block ≠ _; rw [add_block]; exact hn128_0) | exact hn128_0) (.int .i64 ((rd_T40 l0_1 x5_2).f0))).trans hx128_1; replace hx128_2 := (cell_far (p := ⟨gb127, 0, none⟩) (by first | (rw [add_block]; exact hn128_0) | (show (Addr.add _ _).block ≠ _; rw [add_block]; exact hn128_0) | exact hn128_0) (.int .i64 ((rd_T40 l0_1 x5_2).f0))).trans hx128_2; replace hx128_0 := (cell_far (p := ⟨gb127, 1, none⟩) (by first | (rw [add_block]; exact hn128_1) | (show (Addr.add _ _).block ≠ _; rw [add_block]; exact hn128_1) | exact hn128_1) (.int .i64 ((rd_T40 l0_1 x5_2).f1))).trans hx128_0; replace hx128_1 := (cell_far (p := ⟨gb127, 1, none⟩) (by first | (rw [add_block]; exact hn128_1) | (show (Addr.add _ _).block ≠ _; rw [add_block]; exact hn128_1) | exact hn128_1) (.int .i64 ((rd_T40 l0_1 x5_2).f1))).trans hx128_1; replace hx128_2 := (cell_far (p := ⟨gb127, 1, none⟩) (by first | (rw [add_block]; exact hn128_1) | (show (Addr.add _ _).block ≠ _; rw [add_block]; exact hn128_1) | exact hn128_1) (.int .i64 ((rd_T40 l0_1 x5_2).f1))).trans hx128_2; replace hx128_0 := (cell_far (p := ⟨gb127, 2, none⟩) (by first | (rw [add_block]; exact hn128_2) | (show (Addr.add _ _).block ≠ _; rw [add_block]; exact hn128_2) | exact hn128_2) (.slice A126_2 ((rd_T40 l0_1 x5_2).f2).length c126_2)).trans hx128_0; replace hx128_1 := (cell_far (p := ⟨gb127, 2, none⟩) (by first | (rw [add_block]; exact hn128_2) | (show (Addr.add _ _).block ≠ _; rw [add_block]; exact hn128_2) | exact hn128_2) (.slice A126_2 ((rd_T40 l0_1 x5_2).f2).length c126_2)).trans hx128_1; replace hx128_2 := (cell_far (p := ⟨gb127, 2, none⟩) (by first | (rw [add_block]; exact hn128_2) | (show (Addr.add _ _).block ≠ _; rw [add_block]; exact hn128_2) | exact hn128_2) (.slice A126_2 ((rd_T40 l0_1 x5_2).f2).length c126_2)).trans hx128_2; (try have hy128_0 := fun (n_ : Nat) => (show (((((w21.drewN n_).setCell ⟨gb127, 0, none⟩ (.int .i64 ((rd_T40 l0_1 x5_2).f0))).setCell ⟨gb127, 1, none⟩ (.int .i64 ((rd_T40 l0_1 x5_2).f1))).setCell ⟨gb127, 2, none⟩ (.slice A126_2 ((rd_T40 l0_1 x5_2).f2).length c126_2))).cell? _ = some _ from hx128_0)); (try have hy128_1 := fun (n_ : Nat) => (show (((((w21.drewN n_).setCell ⟨gb127, 0, none⟩ (.int .i64 ((rd_T40 l0_1 x5_2).f0))).setCell ⟨gb127, 1, none⟩ (.int .i64 ((rd_T40 l0_1 x5_2).f1))).setCell ⟨gb127, 2, none⟩ (.slice A126_2 ((rd_T40 l0_1 x5_2).f2).length c126_2))).cell? _ = some _ from hx128_1)); (try have hy128_2 := fun (n_ : Nat) => (show (((((w21.drewN n_).setCell ⟨gb127, 0, none⟩ (.int .i64 ((rd_T40 l0_1 x5_2).f0))).setCell ⟨gb127, 1, none⟩ (.int .i64 ((rd_T40 l0_1 x5_2).f1))).setCell ⟨gb127, 2, none⟩ (.slice A126_2 ((rd_T40 l0_1 x5_2).f2).length c126_2))).cell? _ = some _ from hx128_2)); clear hn128_0; clear hn128_1; clear hn128_2; replace p128 := eq_true p128; replace q128 := eq_true q128) | ((with_reducible refine gate_dst (N := 7) rfl ?_); (try (refine gate_guard (by rfl) ?_; dsimp only)); refine box_event ?hg (N := 7) ?hd (cs := #[.int .i64 0, .int .i64 0, .slice none 0 0]) (t := 40) ?hr ?_; (case hd => rfl); (case hg => rfl); (case hr => first | (go_simp; done) | (go_simp; rfl)); intro gb129 hg w26 hbox hb; have n0_ := Aside0.mk (blk_below (g := gb123) (o := .cells #[.slice A0_0 l0_0.length c0_0, .slice (some ad126) l0_1.length c0_1] 25 (0, 0)) (by (with_reducible repeat (first | refine blk_drewN ?_ _ | refine blk_drew ?_ | refine blk_alloc ?_ _)); refine blk_far ?_ NB123_127.out _; (with_reducible repeat (first | refine blk_drewN ?_ _ | refine blk_drew ?_ | refine blk_alloc ?_ _)); refine blk_far ?_ NB123_127.out _; (with_reducible repeat (first | refine blk_drewN ?_ _ | refine blk_drew ?_ | refine blk_alloc ?_ _)); refine blk_far ?_ NB123_127.out _; (with_reducible repeat (first | refine blk_drewN ?_ _ | refine blk_drew ?_ | refine blk_alloc ?_ _)); exact BK123.out) hb); have n1_ := Aside0.mk (blk_below (g := gb124) (o := .cells #[.slice A1_0 l1_0.length c1_0, .slice (some ad128) l1_1.length c1_1] 25 (0, 0)) (by (with_reducible repeat (first | refine blk_drewN ?_ _ | refine blk_drew ?_ | refine blk_alloc ?_ _)); refine blk_far ?_ NB124_127.out _; (with_reducible repeat (first | refine blk_drewN ?_ _ | refine blk_drew ?_ | refine blk_alloc ?_ _)); refine blk_far ?_ NB124_127.out _; (with_reducible repeat (first | refine blk_drewN ?_ _ | refine blk_drew ?_ | refine blk_alloc ?_ _)); refine blk_far ?_ NB124_127.out _; (with_reducible repeat (first | refine blk_drewN ?_ _ | refine blk_drew ?_ | refine blk_alloc ?_ _)); exact BK124.out) hb); have n2_ := Aside0.mk (blk_below (g := gb127) (o := .cells #[.int .i64 ((rd_T40 l0_1 x5_2).f0), .int .i64 ((rd_T40 l0_1 x5_2).f1), .slice A126_2 ((rd_T40 l0_1 x5_2).f2).length c126_2] 40 (0, 0)) (by (with_reducible repeat (first | refine blk_drewN ?_ _ | refine blk_drew ?_ | refine blk_alloc ?_ _)); refine blk_put (cs := #[.int .i64 ((rd_T40 l0_1 x5_2).f0), .int .i64 ((rd_T40 l0_1 x5_2).f1), .slice none 0 0]) ?_ 2 _ rfl; (with_reducible repeat (first | refine blk_drewN ?_ _ | refine blk_drew ?_ | refine blk_alloc ?_ _)); refine blk_put (cs := #[.int .i64 ((rd_T40 l0_1 x5_2).f0), .int .i64 0, .slice none 0 0]) ?_ 1 _ rfl; (with_reducible repeat (first | refine blk_drewN ?_ _ | refine blk_drew ?_ | refine blk_alloc ?_ _)); refine blk_put (cs := #[.int .i64 0, .int .i64 0, .slice none 0 0]) ?_ 0 _ rfl; (with_reducible repeat (first | refine blk_drewN ?_ _ | refine blk_drew ?_ | refine blk_alloc ?_ _)); exact BK127.out) hb); have n3_ := Aside0.mk (below_step (by repeat (first | (with_reducible first | exact HB.out | apply below_alloc | apply pw_below_drewN | apply below_drew1 | refine below_set ?_ GE123.out | refine below_set ?_ GE124.out | refine below_set ?_ GE127.out) | exact HB.out)) hb); have n4_ := Aside0.mk (hbox); have n5_ := Aside0.mk ((by rw [hg]; exact (below_size (by repeat (first | (with_reducible first | exact HB.out | apply below_alloc | apply pw_below_drewN | apply below_drew1 | refine below_set ?_ GE123.out | refine below_set ?_ GE124.out | refine below_set ?_ GE127.out) | exact HB.out))) : w.heap.size ≤ gb129)); have n6_ := Aside0.mk ((by rw [hg]; exact (below_size (by repeat (first | (with_reducible first | exact HB.out | apply below_alloc | apply pw_below_drewN | apply below_drew1 | refine below_set ?_ GE123.out | refine below_set ?_ GE124.out | refine below_set ?_ GE127.out) | exact HB.out))) : w.heap.size ≤ gb129)); have n7_ := Aside0.mk ((by rw [hg]; exact Nat.ne_of_lt (blk_lt (g := gb123) (o := .cells #[.slice A0_0 l0_0.length c0_0, .slice (some ad126) l0_1.length c0_1] 25 (0, 0)) (by (with_reducible repeat (first | refine blk_drewN ?_ _ | refine blk_drew ?_ | refine blk_alloc ?_ _)); refine blk_far ?_ NB123_127.out _; (with_reducible repeat (first | refine blk_drewN ?_ _ | refine blk_drew ?_ | refine blk_alloc ?_ _)); refine blk_far ?_ NB123_127.out _; (with_reducible repeat (first | refine blk_drewN ?_ _ | refine blk_drew ?_ | refine blk_alloc ?_ _)); refine blk_far ?_ NB123_127.out _; (with_reducible repeat (first | refine blk_drewN ?_ _ | refine blk_drew ?_ | refine blk_alloc ?_ _)); exact BK123.out)) : gb123 ≠ gb129)); have n8_ := Aside0.mk ((by rw [hg]; exact Nat.ne_of_gt (blk_lt (g := gb123) (o := .cells #[.slice A0_0 l0_0.length c0_0, .slice (some ad126) l0_1.length c0_1] 25 (0, 0)) (by (with_reducible repeat (first | refine blk_drewN ?_ _ | refine blk_drew ?_ | refine blk_alloc ?_ _)); refine blk_far ?_ NB123_127.out _; (with_reducible repeat (first | refine blk_drewN ?_ _ | refine blk_drew ?_ | refine blk_alloc ?_ _)); refine blk_far ?_ NB123_127.out _; (with_reducible repeat (first | refine blk_drewN ?_ _ | refine blk_drew ?_ | refine blk_alloc ?_ _)); refine blk_far ?_ NB123_127.out _; (with_reducible repeat (first | refine blk_drewN ?_ _ | refine blk_drew ?_ | refine blk_alloc ?_ _)); exact BK123.out)) : gb129 ≠ gb123)); have n9_ := Aside0.mk ((by rw [hg]; exact Nat.ne_of_lt (blk_lt (g := gb124) (o := .cells #[.slice A1_0 l1_0.length c1_0, .slice (some ad128) l1_1.length c1_1] 25 (0, 0)) (by (with_reducible repeat (first | refine blk_drewN ?_ _ | refine blk_drew ?_ | refine blk_alloc ?_ _)); refine blk_far ?_ NB124_127.out _; (with_reducible repeat (first | refine blk_drewN ?_ _ | refine blk_drew ?_ | refine blk_alloc ?_ _)); refine blk_far ?_ NB124_127.out _; (with_reducible repeat (first | refine blk_drewN ?_ _ | refine blk_drew ?_ | refine blk_alloc ?_ _)); refine blk_far ?_ NB124_127.out _; (with_reducible repeat (first | refine blk_drewN ?_ _ | refine blk_drew ?_ | refine blk_alloc ?_ _)); exact BK124.out)) : gb124 ≠ gb129)); have n10_ := Aside0.mk ((by rw [hg]; exact Nat.ne_of_gt (blk_lt (g := gb124) (o := .cells #[.slice A1_0 l1_0.length c1_0, .slice (some ad128) l1_1.length c1_1] 25 (0, 0)) (by (with_reducible repeat (first | refine blk_drewN ?_ _ | refine blk_drew ?_ | refine blk_alloc ?_ _)); refine blk_far ?_ NB124_127.out _; (with_reducible repeat (first | refine blk_drewN ?_ _ | refine blk_drew ?_ | refine blk_alloc ?_ _)); refine blk_far ?_ NB124_127.out _; (with_reducible repeat (first | refine blk_drewN ?_ _ | refine blk_drew ?_ | refine blk_alloc ?_ _)); refine blk_far ?_ NB124_127.out _; (with_reducible repeat (first | refine blk_drewN ?_ _ | refine blk_drew ?_ | refine blk_alloc ?_ _)); exact BK124.out)) : gb129 ≠ gb124)); have n11_ := Aside0.mk ((by rw [hg]; exact Nat.ne_of_lt (blk_lt (g := gb127) (o := .cells #[.int .i64 ((rd_T40 l0_1 x5_2).f0), .int .i64 ((rd_T40 l0_1 x5_2).f1), .slice A126_2 ((rd_T40 l0_1 x5_2).f2).length c126_2] 40 (0, 0)) (by (with_reducible repeat (first | refine blk_drewN ?_ _ | refine blk_drew ?_ | refine blk_alloc ?_ _)); refine blk_put (cs := #[.int .i64 ((rd_T40 l0_1 x5_2).f0), .int .i64 ((rd_T40 l0_1 x5_2).f1), .slice none 0 0]) ?_ 2 _ rfl; (with_reducible repeat (first | refine blk_drewN ?_ _ | refine blk_drew ?_ | refine blk_alloc ?_ _)); refine blk_put (cs := #[.int .i64 ((rd_T40 l0_1 x5_2).f0), .int .i64 0, .slice none 0 0]) ?_ 1 _ rfl; (with_reducible repeat (first | refine blk_drewN ?_ _ | refine blk_drew ?_ | refine blk_alloc ?_ _)); refine blk_put (cs := #[.int .i64 0, .int .i64 0, .slice none 0 0]) ?_ 0 _ rfl; (with_reducible repeat (first | refine blk_drewN ?_ _ | refine blk_drew ?_ | refine blk_alloc ?_ _)); exact BK127.out)) : gb127 ≠ gb129)); have n12_ := Aside0.mk ((by rw [hg]; exact Nat.ne_of_gt (blk_lt (g := gb127) (o := .cells #[.int .i64 ((rd_T40 l0_1 x5_2).f0), .int .i64 ((rd_T40 l0_1 x5_2).f1), .slice A126_2 ((rd_T40 l0_1 x5_2).f2).length c126_2] 40 (0, 0)) (by (with_reducible repeat (first | refine blk_drewN ?_ _ | refine blk_drew ?_ | refine blk_alloc ?_ _)); refine blk_put (cs := #[.int .i64 ((rd_T40 l0_1 x5_2).f0), .int .i64 ((rd_T40 l0_1 x5_2).f1), .slice none 0 0]) ?_ 2 _ rfl; (with_reducible repeat (first | refine blk_drewN ?_ _ | refine blk_drew ?_ | refine blk_alloc ?_ _)); refine blk_put (cs := #[.int .i64 ((rd_T40 l0_1 x5_2).f0), .int .i64 0, .slice none 0 0]) ?_ 1 _ rfl; (with_reducible repeat (first | refine blk_drewN ?_ _ | refine blk_drew ?_ | refine blk_alloc ?_ _)); refine blk_put (cs := #[.int .i64 0, .int .i64 0, .slice none 0 0]) ?_ 0 _ rfl; (with_reducible repeat (first | refine blk_drewN ?_ _ | refine blk_drew ?_ | refine blk_alloc ?_ _)); exact BK127.out)) : gb129 ≠ gb127)); clear BK123; clear BK124; clear BK127; clear HB; have BK123 := n0_; have BK124 := n1_; have BK127 := n2_; have HB := n3_; have BK129 := n4_; have GW129 := n5_; have GE129 := n6_; have NB123_129 := n7_; have NB129_123 := n8_; have NB124_129 := n9_; have NB129_124 := n10_; have NB127_129 := n11_; have NB129_127 := n12_; clear n0_ n1_ n2_ n3_ n4_ n5_ n6_ n7_ n8_ n9_ n10_ n11_ n12_; clear hb hbox hg; have hnb27 := NB129_123.out; have hnc27 := NB123_129.out; have hnb28 := NB129_124.out; have hnc28 := NB124_129.out; have hnb29 := NB129_127.out; have hnc29 := NB127_129.out; have hcz30_0 : w26.cell? ⟨gb129, 0, none⟩ = some (.int .i64 0) := (blk_cell BK129.out 0).trans rfl; have hcz30_1 : w26.cell? ⟨gb129, 1, none⟩ = some (.int .i64 0) := (blk_cell BK129.out 1).trans rfl; have hcz30_2 : w26.cell? ⟨gb129, 2, none⟩ = some (.slice none 0 0) := (blk_cell BK129.out 2).trans rfl; have hfz30_0 := blk_frozen BK129.out 0; have hfz30_1 := blk_frozen BK129.out 1; have hfz30_2 := blk_frozen BK129.out 2))
                  repeat (go_quiet (first | ((with_reducible refine gate_dst (N := 6) rfl ?_); (try (refine gate_guard (by rfl) ?_; dsimp only)); refine box_event ?hg (N := 6) ?hd (cs := #[.int .i64 0, .int .i64 0, .slice none 0 0]) (t := 40) ?hr ?_; (case hd => rfl); (case hg => rfl); (case hr => first | (go_simp; done) | (go_simp; rfl)); intro gb127 hg w21 hbox hb; have n0_ := Aside0.mk (blk_below (g := gb123) (o := .cells #[.slice A0_0 l0_0.length c0_0, .slice (some ad126) l0_1.length c0_1] 25 (0, 0)) (by (with_reducible repeat (first | refine blk_drewN ?_ _ | refine blk_drew ?_ | refine blk_alloc ?_ _)); exact BK123.out) hb); have n1_ := Aside0.mk (blk_below (g := gb124) (o := .cells #[.slice A1_0 l1_0.length c1_0, .slice A1_1 l1_1.length c1_1] 25 (0, 0)) (by (with_reducible repeat (first | refine blk_drewN ?_ _ | refine blk_drew ?_ | refine blk_alloc ?_ _)); exact BK124.out) hb); have n2_ := Aside0.mk (below_step (by repeat (first | (with_reducible first | exact HB.out | apply below_alloc | apply pw_below_drewN | apply below_drew1 | refine below_set ?_ GE123.out | refine below_set ?_ GE124.out) | exact HB.out)) hb); have n3_ := Aside0.mk (hbox); have n4_ := Aside0.mk ((by rw [hg]; exact (below_size (by repeat (first | (with_reducible first | exact HB.out | apply below_alloc | apply pw_below_drewN | apply below_drew1 | refine below_set ?_ GE123.out | refine below_set ?_ GE124.out) | exact HB.out))) : w.heap.size ≤ gb127)); have n5_ := Aside0.mk ((by rw [hg]; exact (below_size (by repeat (first | (with_reducible first | exact HB.out | apply below_alloc | apply pw_below_drewN | apply below_drew1 | refine below_set ?_ GE123.out | refine below_set ?_ GE124.out) | exact HB.out))) : w.heap.size ≤ gb127)); have n6_ := Aside0.mk ((by rw [hg]; exact Nat.ne_of_lt (blk_lt (g := gb123) (o := .cells #[.slice A0_0 l0_0.length c0_0, .slice (some ad126) l0_1.length c0_1] 25 (0, 0)) (by (with_reducible repeat (first | refine blk_drewN ?_ _ | refine blk_drew ?_ | refine blk_alloc ?_ _)); exact BK123.out)) : gb123 ≠ gb127)); have n7_ := Aside0.mk ((by rw [hg]; exact Nat.ne_of_gt (blk_lt (g := gb123) (o := .cells #[.slice A0_0 l0_0.length c0_0, .slice (some ad126) l0_1.length c0_1] 25 (0, 0)) (by (with_reducible repeat (first | refine blk_drewN ?_ _ | refine blk_drew ?_ | refine blk_alloc ?_ _)); exact BK123.out)) : gb127 ≠ gb123)); have n8_ := Aside0.mk ((by rw [hg]; exact Nat.ne_of_lt (blk_lt (g := gb124) (o := .cells #[.slice A1_0 l1_0.length c1_0, .slice A1_1 l1_1.length c1_1] 25 (0, 0)) (by (with_reducible repeat (first | refine blk_drewN ?_ _ | refine blk_drew ?_ | refine blk_alloc ?_ _)); exact BK124.out)) : gb124 ≠ gb127)); have n9_ := Aside0.mk ((by rw [hg]; exact Nat.ne_of_gt (blk_lt (g := gb124) (o := .cells #[.slice A1_0 l1_0.length c1_0, .slice A1_1 l1_1.length c1_1] 25 (0, 0)) (by (with_reducible repeat (first | refine blk_drewN ?_ _ | refine blk_drew ?_ | refine blk_alloc ?_ _)); exact BK124.out)) : gb127 ≠ gb124)); clear BK123; clear BK124; clear HB; have BK123 := n0_; have BK124 := n1_; have HB := n2_; have BK127 := n3_; have GW127 := n4_; have GE127 := n5_; have NB123_127 := n6_; have NB127_123 := n7_; have NB124_127 := n8_; have NB127_124 := n9_; clear n0_ n1_ n2_ n3_ n4_ n5_ n6_ n7_ n8_ n9_; clear hb hbox hg; have hnb22 := NB127_123.out; have hnc22 := NB123_127.out; have hnb23 := NB127_124.out; have hnc23 := NB124_127.out; have hcz24_0 : w21.cell? ⟨gb127, 0, none⟩ = some (.int .i64 0) := (blk_cell BK127.out 0).trans rfl; have hcz24_1 : w21.cell? ⟨gb127, 1, none⟩ = some (.int .i64 0) := (blk_cell BK127.out 1).trans rfl; have hcz24_2 : w21.cell? ⟨gb127, 2, none⟩ = some (.slice none 0 0) := (blk_cell BK127.out 2).trans rfl; have hfz24_0 := blk_frozen BK127.out 0; have hfz24_1 := blk_frozen BK127.out 1; have hfz24_2 := blk_frozen BK127.out 2; have hcz25_0 : w21.cell? ⟨gb124, 0, none⟩ = some (.slice A1_0 l1_0.length c1_0) := (blk_cell BK124.out 0).trans rfl; have hcz25_1 : w21.cell? ⟨gb124, 1, none⟩ = some (.slice A1_1 l1_1.length c1_1) := (blk_cell BK124.out 1).trans rfl; have hfz25_0 := blk_frozen BK124.out 0; have hfz25_1 := blk_frozen BK124.out 1; have p128 : 0 ≤ (x5_2 : Int) := of_decide_eq_true (by first | (with_reducible assumption) | assumption); have q128 : x5_2 < (l1_1.length : Int) := of_decide_eq_true (by first | (with_reducible assumption) | assumption); obtain ⟨ad128, A128_2, c128_2, e128, hx128_0, hx128_1, hx128_2, hl128_2, hi128_2⟩ := at_T40 HR1_1.out x5_2 p128 q128; cases e128; have hn128_0 : ad128.block ≠ gb127 := Nat.ne_of_lt (Nat.lt_of_lt_of_le (by have := World.block_lt_of_cell? _ _ hx128_0; first | rwa [add_block] at this | exact this) GW127.out); have hn128_1 : ad128.block ≠ gb127 := Nat.ne_of_lt (Nat.lt_of_lt_of_le (by have := World.block_lt_of_cell? _ _ hx128_0; first | rwa [add_block] at this | exact this) GW127.out); have hn128_2 : ad128.block ≠ gb127 := Nat.ne_of_lt (Nat.lt_of_lt_of_le (by have := World.block_lt_of_cell? _ _ hx128_0; first | rwa [add_block] at this | exact this) GW127.out); replace hx128_0 := (HB.out.cell (World.block_lt_of_cell? w _ hx128_0)).trans hx128_0; replace hx128_1 := (HB.out.cell (World.block_lt_of_cell? w _ hx128_1)).trans hx128_1; replace hx128_2 := (HB.out.cell (World.block_lt_of_cell? w _ hx128_2)).trans hx128_2; have HR128_2 := Aside0.mk hi128_2; have HC128_2 := Aside0.mk hl128_2; clear hi128_2 hl128_2; replace hx128_0 := (cell_far (p := ⟨gb127, 0, none⟩) (by first | (rw [add_block]; exact hn128_0) | (show (Addr.add _ _).block ≠ _; rw [add_block]; exact hn128_0) | exact hn128_0) (.int .i64 ((rd_T40 l0_1 x5_2).f0))).trans hx128_0; replace hx128_1 := (cell_far (p := ⟨gb127, 0, none⟩) (by first | (rw [add_block]; exact hn128_0) | (show (Addr.add _ _).block ≠ _; rw [add_block]; exact hn128_0) | exact hn128_0) (.int .i64 ((rd_T40 l0_1 x5_2).f0))).trans hx128_1; replace hx128_2 := (cell_far (p := ⟨gb127, 0, none⟩) (by first | (rw [add_block]; exact hn128_0) | (show (Addr.add _ _).block ≠ _; rw [add_block]; exact hn128_0) | exact hn128_0) (.int .i64 ((rd_T40 l0_1 x5_2).f0))).trans hx128_2; replace hx128_0 := (cell_far (p := ⟨gb127, 1, none⟩) (by first | (rw [add_block]; exact hn128_1) | (show (Addr.add _ _).block ≠ _; rw [add_block]; exact hn128_1) | exact hn128_1) (.int .i64 ((rd_T40 l0_1 x5_2).f1))).trans hx128_0; replace hx128_1 := (cell_far (p := ⟨gb127, 1, none⟩) (by first | (rw [add_block]; exact hn128_1) | (show (Addr.add _ _).block ≠ _; rw [add_block]; exact hn128_1) | exact hn128_1) (.int .i64 ((rd_T40 l0_1 x5_2).f1))).trans hx128_1; replace hx128_2 := (cell_far (p := ⟨gb127, 1, none⟩) (by first | (rw [add_block]; exact hn128_1) | (show (Addr.add _ _).block ≠ _; rw [add_block]; exact hn128_1) | exact hn128_1) (.int .i64 ((rd_T40 l0_1 x5_2).f1))).trans hx128_2; replace hx128_0 := (cell_far (p := ⟨gb127, 2, none⟩) (by first | (rw [add_block]; exact hn128_2) | (show (Addr.add _ _).block ≠ _; rw [add_block]; exact hn128_2) | exact hn128_2) (.slice A126_2 ((rd_T40 l0_1 x5_2).f2).length c126_2)).trans hx128_0; replace hx128_1 := (cell_far (p := ⟨gb127, 2, none⟩) (by first | (rw [add_block]; exact hn128_2) | (show (Addr.add _ _).block ≠ _; rw [add_block]; exact hn128_2) | exact hn128_2) (.slice A126_2 ((rd_T40 l0_1 x5_2).f2).length c126_2)).trans hx128_1; replace hx128_2 := (cell_far (p := ⟨gb127, 2, none⟩) (by first | (rw [add_block]; exact hn128_2) | (show (Addr.add _ _).block ≠ _; rw [add_block]; exact hn128_2) | exact hn128_2) (.slice A126_2 ((rd_T40 l0_1 x5_2).f2).length c126_2)).trans hx128_2; (try have hy128_0 := fun (n_ : Nat) => (show (((((w21.drewN n_).setCell ⟨gb127, 0, none⟩ (.int .i64 ((rd_T40 l0_1 x5_2).f0))).setCell ⟨gb127, 1, none⟩ (.int .i64 ((rd_T40 l0_1 x5_2).f1))).setCell ⟨gb127, 2, none⟩ (.slice A126_2 ((rd_T40 l0_1 x5_2).f2).length c126_2))).cell? _ = some _ from hx128_0)); (try have hy128_1 := fun (n_ : Nat) => (show (((((w21.drewN n_).setCell ⟨gb127, 0, none⟩ (.int .i64 ((rd_T40 l0_1 x5_2).f0))).setCell ⟨gb127, 1, none⟩ (.int .i64 ((rd_T40 l0_1 x5_2).f1))).setCell ⟨gb127, 2, none⟩ (.slice A126_2 ((rd_T40 l0_1 x5_2).f2).length c126_2))).cell? _ = some _ from hx128_1)); (try have hy128_2 := fun (n_ : Nat) => (show (((((w21.drewN n_).setCell ⟨gb127, 0, none⟩ (.int .i64 ((rd_T40 l0_1 x5_2).f0))).setCell ⟨gb127, 1, none⟩ (.int .i64 ((rd_T40 l0_1 x5_2).f1))).setCell ⟨gb127, 2, none⟩ (.slice A126_2 ((rd_T40 l0_1 x5_2).f2).length c126_2))).cell? _ = some _ from hx128_2)); clear hn128_0; clear hn128_1; clear hn128_2; replace p128 := eq_true p128; replace q128 := eq_true q128) | ((with_reducible refine gate_dst (N := 7) rfl ?_); (try (refine gate_guard (by rfl) ?_; dsimp only)); refine box_event ?hg (N := 7) ?hd (cs := #[.int .i64 0, .int .i64 0, .slice none 0 0]) (t := 40) ?hr ?_; (case hd => rfl); (case hg => rfl); (case hr => first | (go_simp; done) | (go_simp; rfl)); intro gb129 hg w26 hbox hb; have n0_ := Aside0.mk (blk_below (g := gb123) (o := .cells #[.slice A0_0 l0_0.length c0_0, .slice (some ad126) l0_1.length c0_1] 25 (0, 0)) (by (with_reducible repeat (first | refine blk_drewN ?_ _ | refine blk_drew ?_ | refine blk_alloc ?_ _)); refine blk_far ?_ NB123_127.out _; (with_reducible repeat (first | refine blk_drewN ?_ _ | refine blk_drew ?_ | refine blk_alloc ?_ _)); refine blk_far ?_ NB123_127.out _; (with_reducible repeat (first | refine blk_drewN ?_ _ | refine blk_drew ?_ | refine blk_alloc ?_ _)); refine blk_far ?_ NB123_127.out _; (with_reducible repeat (first | refine blk_drewN ?_ _ | refine blk_drew ?_ | refine blk_alloc ?_ _)); exact BK123.out) hb); have n1_ := Aside0.mk (blk_below (g := gb124) (o := .cells #[.slice A1_0 l1_0.length c1_0, .slice (some ad128) l1_1.length c1_1] 25 (0, 0)) (by (with_reducible repeat (first | refine blk_drewN ?_ _ | refine blk_drew ?_ | refine blk_alloc ?_ _)); refine blk_far ?_ NB124_127.out _; (with_reducible repeat (first | refine blk_drewN ?_ _ | refine blk_drew ?_ | refine blk_alloc ?_ _)); refine blk_far ?_ NB124_127.out _; (with_reducible repeat (first | refine blk_drewN ?_ _ | refine blk_drew ?_ | refine blk_alloc ?_ _)); refine blk_far ?_ NB124_127.out _; (with_reducible repeat (first | refine blk_drewN ?_ _ | refine blk_drew ?_ | refine blk_alloc ?_ _)); exact BK124.out) hb); have n2_ := Aside0.mk (blk_below (g := gb127) (o := .cells #[.int .i64 ((rd_T40 l0_1 x5_2).f0), .int .i64 ((rd_T40 l0_1 x5_2).f1), .slice A126_2 ((rd_T40 l0_1 x5_2).f2).length c126_2] 40 (0, 0)) (by (with_reducible repeat (first | refine blk_drewN ?_ _ | refine blk_drew ?_ | refine blk_alloc ?_ _)); refine blk_put (cs := #[.int .i64 ((rd_T40 l0_1 x5_2).f0), .int .i64 ((rd_T40 l0_1 x5_2).f1), .slice none 0 0]) ?_ 2 _ rfl; (with_reducible repeat (first | refine blk_drewN ?_ _ | refine blk_drew ?_ | refine blk_alloc ?_ _)); refine blk_put (cs := #[.int .i64 ((rd_T40 l0_1 x5_2).f0), .int .i64 0, .slice none 0 0]) ?_ 1 _ rfl; (with_reducible repeat (first | refine blk_drewN ?_ _ | refine blk_drew ?_ | refine blk_alloc ?_ _)); refine blk_put (cs := #[.int .i64 0, .int .i64 0, .slice none 0 0]) ?_ 0 _ rfl; (with_reducible repeat (first | refine blk_drewN ?_ _ | refine blk_drew ?_ | refine blk_alloc ?_ _)); exact BK127.out) hb); have n3_ := Aside0.mk (below_step (by repeat (first | (with_reducible first | exact HB.out | apply below_alloc | apply pw_below_drewN | apply below_drew1 | refine below_set ?_ GE123.out | refine below_set ?_ GE124.out | refine below_set ?_ GE127.out) | exact HB.out)) hb); have n4_ := Aside0.mk (hbox); have n5_ := Aside0.mk ((by rw [hg]; exact (below_size (by repeat (first | (with_reducible first | exact HB.out | apply below_alloc | apply pw_below_drewN | apply below_drew1 | refine below_set ?_ GE123.out | refine below_set ?_ GE124.out | refine below_set ?_ GE127.out) | exact HB.out))) : w.heap.size ≤ gb129)); have n6_ := Aside0.mk ((by rw [hg]; exact (below_size (by repeat (first | (with_reducible first | exact HB.out | apply below_alloc | apply pw_below_drewN | apply below_drew1 | refine below_set ?_ GE123.out | refine below_set ?_ GE124.out | refine below_set ?_ GE127.out) | exact HB.out))) : w.heap.size ≤ gb129)); have n7_ := Aside0.mk ((by rw [hg]; exact Nat.ne_of_lt (blk_lt (g := gb123) (o := .cells #[.slice A0_0 l0_0.length c0_0, .slice (some ad126) l0_1.length c0_1] 25 (0, 0)) (by (with_reducible repeat (first | refine blk_drewN ?_ _ | refine blk_drew ?_ | refine blk_alloc ?_ _)); refine blk_far ?_ NB123_127.out _; (with_reducible repeat (first | refine blk_drewN ?_ _ | refine blk_drew ?_ | refine blk_alloc ?_ _)); refine blk_far ?_ NB123_127.out _; (with_reducible repeat (first | refine blk_drewN ?_ _ | refine blk_drew ?_ | refine blk_alloc ?_ _)); refine blk_far ?_ NB123_127.out _; (with_reducible repeat (first | refine blk_drewN ?_ _ | refine blk_drew ?_ | refine blk_alloc ?_ _)); exact BK123.out)) : gb123 ≠ gb129)); have n8_ := Aside0.mk ((by rw [hg]; exact Nat.ne_of_gt (blk_lt (g := gb123) (o := .cells #[.slice A0_0 l0_0.length c0_0, .slice (some ad126) l0_1.length c0_1] 25 (0, 0)) (by (with_reducible repeat (first | refine blk_drewN ?_ _ | refine blk_drew ?_ | refine blk_alloc ?_ _)); refine blk_far ?_ NB123_127.out _; (with_reducible repeat (first | refine blk_drewN ?_ _ | refine blk_drew ?_ | refine blk_alloc ?_ _)); refine blk_far ?_ NB123_127.out _; (with_reducible repeat (first | refine blk_drewN ?_ _ | refine blk_drew ?_ | refine blk_alloc ?_ _)); refine blk_far ?_ NB123_127.out _; (with_reducible repeat (first | refine blk_drewN ?_ _ | refine blk_drew ?_ | refine blk_alloc ?_ _)); exact BK123.out)) : gb129 ≠ gb123)); have n9_ := Aside0.mk ((by rw [hg]; exact Nat.ne_of_lt (blk_lt (g := gb124) (o := .cells #[.slice A1_0 l1_0.length c1_0, .slice (some ad128) l1_1.length c1_1] 25 (0, 0)) (by (with_reducible repeat (first | refine blk_drewN ?_ _ | refine blk_drew ?_ | refine blk_alloc ?_ _)); refine blk_far ?_ NB124_127.out _; (with_reducible repeat (first | refine blk_drewN ?_ _ | refine blk_drew ?_ | refine blk_alloc ?_ _)); refine blk_far ?_ NB124_127.out _; (with_reducible repeat (first | refine blk_drewN ?_ _ | refine blk_drew ?_ | refine blk_alloc ?_ _)); refine blk_far ?_ NB124_127.out _; (with_reducible repeat (first | refine blk_drewN ?_ _ | refine blk_drew ?_ | refine blk_alloc ?_ _)); exact BK124.out)) : gb124 ≠ gb129)); have n10_ := Aside0.mk ((by rw [hg]; exact Nat.ne_of_gt (blk_lt (g := gb124) (o := .cells #[.slice A1_0 l1_0.length c1_0, .slice (some ad128) l1_1.length c1_1] 25 (0, 0)) (by (with_reducible repeat (first | refine blk_drewN ?_ _ | refine blk_drew ?_ | refine blk_alloc ?_ _)); refine blk_far ?_ NB124_127.out _; (with_reducible repeat (first | refine blk_drewN ?_ _ | refine blk_drew ?_ | refine blk_alloc ?_ _)); refine blk_far ?_ NB124_127.out _; (with_reducible repeat (first | refine blk_drewN ?_ _ | refine blk_drew ?_ | refine blk_alloc ?_ _)); refine blk_far ?_ NB124_127.out _; (with_reducible repeat (first | refine blk_drewN ?_ _ | refine blk_drew ?_ | refine blk_alloc ?_ _)); exact BK124.out)) : gb129 ≠ gb124)); have n11_ := Aside0.mk ((by rw [hg]; exact Nat.ne_of_lt (blk_lt (g := gb127) (o := .cells #[.int .i64 ((rd_T40 l0_1 x5_2).f0), .int .i64 ((rd_T40 l0_1 x5_2).f1), .slice A126_2 ((rd_T40 l0_1 x5_2).f2).length c126_2] 40 (0, 0)) (by (with_reducible repeat (first | refine blk_drewN ?_ _ | refine blk_drew ?_ | refine blk_alloc ?_ _)); refine blk_put (cs := #[.int .i64 ((rd_T40 l0_1 x5_2).f0), .int .i64 ((rd_T40 l0_1 x5_2).f1), .slice none 0 0]) ?_ 2 _ rfl; (with_reducible repeat (first | refine blk_drewN ?_ _ | refine blk_drew ?_ | refine blk_alloc ?_ _)); refine blk_put (cs := #[.int .i64 ((rd_T40 l0_1 x5_2).f0), .int .i64 0, .slice none 0 0]) ?_ 1 _ rfl; (with_reducible repeat (first | refine blk_drewN ?_ _ | refine blk_drew ?_ | refine blk_alloc ?_ _)); refine blk_put (cs := #[.int .i64 0, .int .i64 0, .slice none 0 0]) ?_ 0 _ rfl; (with_reducible repeat (first | refine blk_drewN ?_ _ | refine blk_drew ?_ | refine blk_alloc ?_ _)); exact BK127.out)) : gb127 ≠ gb129)); have n12_ := Aside0.mk ((by rw [hg]; exact Nat.ne_of_gt (blk_lt (g := gb127) (o := .cells #[.int .i64 ((rd_T40 l0_1 x5_2).f0), .int .i64 ((rd_T40 l0_1 x5_2).f1), .slice A126_2 ((rd_T40 l0_1 x5_2).f2).length c126_2] 40 (0, 0)) (by (with_reducible repeat (first | refine blk_drewN ?_ _ | refine blk_drew ?_ | refine blk_alloc ?_ _)); refine blk_put (cs := #[.int .i64 ((rd_T40 l0_1 x5_2).f0), .int .i64 ((rd_T40 l0_1 x5_2).f1), .slice none 0 0]) ?_ 2 _ rfl; (with_reducible repeat (first | refine blk_drewN ?_ _ | refine blk_drew ?_ | refine blk_alloc ?_ _)); refine blk_put (cs := #[.int .i64 ((rd_T40 l0_1 x5_2).f0), .int .i64 0, .slice none 0 0]) ?_ 1 _ rfl; (with_reducible repeat (first | refine blk_drewN ?_ _ | refine blk_drew ?_ | refine blk_alloc ?_ _)); refine blk_put (cs := #[.int .i64 0, .int .i64 0, .slice none 0 0]) ?_ 0 _ rfl; (with_reducible repeat (first | refine blk_drewN ?_ _ | refine blk_drew ?_ | refine blk_alloc ?_ _)); exact BK127.out)) : gb129 ≠ gb127)); clear BK123; clear BK124; clear BK127; clear HB; have BK123 := n0_; have BK124 := n1_; have BK127 := n2_; have HB := n3_; have BK129 := n4_; have GW129 := n5_; have GE129 := n6_; have NB123_129 := n7_; have NB129_123 := n8_; have NB124_129 := n9_; have NB129_124 := n10_; have NB127_129 := n11_; have NB129_127 := n12_; clear n0_ n1_ n2_ n3_ n4_ n5_ n6_ n7_ n8_ n9_ n10_ n11_ n12_; clear hb hbox hg; have hnb27 := NB129_123.out; have hnc27 := NB123_129.out; have hnb28 := NB129_124.out; have hnc28 := NB124_129.out; have hnb29 := NB129_127.out; have hnc29 := NB127_129.out; have hcz30_0 : w26.cell? ⟨gb129, 0, none⟩ = some (.int .i64 0) := (blk_cell BK129.out 0).trans rfl; have hcz30_1 : w26.cell? ⟨gb129, 1, none⟩ = some (.int .i64 0) := (blk_cell BK129.out 1).trans rfl; have hcz30_2 : w26.cell? ⟨gb129, 2, none⟩ = some (.slice none 0 0) := (blk_cell BK129.out 2).trans rfl; have hfz30_0 := blk_frozen BK129.out 0; have hfz30_1 := blk_frozen BK129.out 1; have hfz30_2 := blk_frozen BK129.out 2)); go_upto_region 8 with (first | ((with_reducible refine gate_dst (N := 6) rfl ?_); (try (refine gate_guard (by rfl) ?_; dsimp only)); refine box_event ?hg (N := 6) ?hd (cs := #[.int .i64 0, .int .i64 0, .slice none 0 0]) (t := 40) ?hr ?_; (case hd => rfl); (case hg => rfl); (case hr => first | (go_simp; done) | (go_simp; rfl)); intro gb127 hg w21 hbox hb; have n0_ := Aside0.mk (blk_below (g := gb123) (o := .cells #[.slice A0_0 l0_0.length c0_0, .slice (some ad126) l0_1.length c0_1] 25 (0, 0)) (by (with_reducible repeat (first | refine blk_drewN ?_ _ | refine blk_drew ?_ | refine blk_alloc ?_ _)); exact BK123.out) hb); have n1_ := Aside0.mk (blk_below (g := gb124) (o := .cells #[.slice A1_0 l1_0.length c1_0, .slice A1_1 l1_1.length c1_1] 25 (0, 0)) (by (with_reducible repeat (first | refine blk_drewN ?_ _ | refine blk_drew ?_ | refine blk_alloc ?_ _)); exact BK124.out) hb); have n2_ := Aside0.mk (below_step (by repeat (first | (with_reducible first | exact HB.out | apply below_alloc | apply pw_below_drewN | apply below_drew1 | refine below_set ?_ GE123.out | refine below_set ?_ GE124.out) | exact HB.out)) hb); have n3_ := Aside0.mk (hbox); have n4_ := Aside0.mk ((by rw [hg]; exact (below_size (by repeat (first | (with_reducible first | exact HB.out | apply below_alloc | apply pw_below_drewN | apply below_drew1 | refine below_set ?_ GE123.out | refine below_set ?_ GE124.out) | exact HB.out))) : w.heap.size ≤ gb127)); have n5_ := Aside0.mk ((by rw [hg]; exact (below_size (by repeat (first | (with_reducible first | exact HB.out | apply below_alloc | apply pw_below_drewN | apply below_drew1 | refine below_set ?_ GE123.out | refine below_set ?_ GE124.out) | exact HB.out))) : w.heap.size ≤ gb127)); have n6_ := Aside0.mk ((by rw [hg]; exact Nat.ne_of_lt (blk_lt (g := gb123) (o := .cells #[.slice A0_0 l0_0.length c0_0, .slice (some ad126) l0_1.length c0_1] 25 (0, 0)) (by (with_reducible repeat (first | refine blk_drewN ?_ _ | refine blk_drew ?_ | refine blk_alloc ?_ _)); exact BK123.out)) : gb123 ≠ gb127)); have n7_ := Aside0.mk ((by rw [hg]; exact Nat.ne_of_gt (blk_lt (g := gb123) (o := .cells #[.slice A0_0 l0_0.length c0_0, .slice (some ad126) l0_1.length c0_1] 25 (0, 0)) (by (with_reducible repeat (first | refine blk_drewN ?_ _ | refine blk_drew ?_ | refine blk_alloc ?_ _)); exact BK123.out)) : gb127 ≠ gb123)); have n8_ := Aside0.mk ((by rw [hg]; exact Nat.ne_of_lt (blk_lt (g := gb124) (o := .cells #[.slice A1_0 l1_0.length c1_0, .slice A1_1 l1_1.length c1_1] 25 (0, 0)) (by (with_reducible repeat (first | refine blk_drewN ?_ _ | refine blk_drew ?_ | refine blk_alloc ?_ _)); exact BK124.out)) : gb124 ≠ gb127)); have n9_ := Aside0.mk ((by rw [hg]; exact Nat.ne_of_gt (blk_lt (g := gb124) (o := .cells #[.slice A1_0 l1_0.length c1_0, .slice A1_1 l1_1.length c1_1] 25 (0, 0)) (by (with_reducible repeat (first | refine blk_drewN ?_ _ | refine blk_drew ?_ | refine blk_alloc ?_ _)); exact BK124.out)) : gb127 ≠ gb124)); clear BK123; clear BK124; clear HB; have BK123 := n0_; have BK124 := n1_; have HB := n2_; have BK127 := n3_; have GW127 := n4_; have GE127 := n5_; have NB123_127 := n6_; have NB127_123 := n7_; have NB124_127 := n8_; have NB127_124 := n9_; clear n0_ n1_ n2_ n3_ n4_ n5_ n6_ n7_ n8_ n9_; clear hb hbox hg; have hnb22 := NB127_123.out; have hnc22 := NB123_127.out; have hnb23 := NB127_124.out; have hnc23 := NB124_127.out; have hcz24_0 : w21.cell? ⟨gb127, 0, none⟩ = some (.int .i64 0) := (blk_cell BK127.out 0).trans rfl; have hcz24_1 : w21.cell? ⟨gb127, 1, none⟩ = some (.int .i64 0) := (blk_cell BK127.out 1).trans rfl; have hcz24_2 : w21.cell? ⟨gb127, 2, none⟩ = some (.slice none 0 0) := (blk_cell BK127.out 2).trans rfl; have hfz24_0 := blk_frozen BK127.out 0; have hfz24_1 := blk_frozen BK127.out 1; have hfz24_2 := blk_frozen BK127.out 2; have hcz25_0 : w21.cell? ⟨gb124, 0, none⟩ = some (.slice A1_0 l1_0.length c1_0) := (blk_cell BK124.out 0).trans rfl; have hcz25_1 : w21.cell? ⟨gb124, 1, none⟩ = some (.slice A1_1 l1_1.length c1_1) := (blk_cell BK124.out 1).trans rfl; have hfz25_0 := blk_frozen BK124.out 0; have hfz25_1 := blk_frozen BK124.out 1; have p128 : 0 ≤ (x5_2 : Int) := of_decide_eq_true (by first | (with_reducible assumption) | assumption); have q128 : x5_2 < (l1_1.length : Int) := of_decide_eq_true (by first | (with_reducible assumption) | assumption); obtain ⟨ad128, A128_2, c128_2, e128, hx128_0, hx128_1, hx128_2, hl128_2, hi128_2⟩ := at_T40 HR1_1.out x5_2 p128 q128; cases e128; have hn128_0 : ad128.block ≠ gb127 := Nat.ne_of_lt (Nat.lt_of_lt_of_le (by have := World.block_lt_of_cell? _ _ hx128_0; first | rwa [add_block] at this | exact this) GW127.out); have hn128_1 : ad128.block ≠ gb127 := Nat.ne_of_lt (Nat.lt_of_lt_of_le (by have := World.block_lt_of_cell? _ _ hx128_0; first | rwa [add_block] at this | exact this) GW127.out); have hn128_2 : ad128.block ≠ gb127 := Nat.ne_of_lt (Nat.lt_of_lt_of_le (by have := World.block_lt_of_cell? _ _ hx128_0; first | rwa [add_block] at this | exact this) GW127.out); replace hx128_0 := (HB.out.cell (World.block_lt_of_cell? w _ hx128_0)).trans hx128_0; replace hx128_1 := (HB.out.cell (World.block_lt_of_cell? w _ hx128_1)).trans hx128_1; replace hx128_2 := (HB.out.cell (World.block_lt_of_cell? w _ hx128_2)).trans hx128_2; have HR128_2 := Aside0.mk hi128_2; have HC128_2 := Aside0.mk hl128_2; clear hi128_2 hl128_2; replace hx128_0 := (cell_far (p := ⟨gb127, 0, none⟩) (by first | (rw [add_block]; exact hn128_0) | (show (Addr.add _ _).block ≠ _; rw [add_block]; exact hn128_0) | exact hn128_0) (.int .i64 ((rd_T40 l0_1 x5_2).f0))).trans hx128_0; replace hx128_1 := (cell_far (p := ⟨gb127, 0, none⟩) (by first | (rw [add_block]; exact hn128_0) | (show (Addr.add _ _).block ≠ _; rw [add_block]; exact hn128_0) | exact hn128_0) (.int .i64 ((rd_T40 l0_1 x5_2).f0))).trans hx128_1; replace hx128_2 := (cell_far (p := ⟨gb127, 0, none⟩) (by first | (rw [add_block]; exact hn128_0) | (show (Addr.add _ _).block ≠ _; rw [add_block]; exact hn128_0) | exact hn128_0) (.int .i64 ((rd_T40 l0_1 x5_2).f0))).trans hx128_2; replace hx128_0 := (cell_far (p := ⟨gb127, 1, none⟩) (by first | (rw [add_block]; exact hn128_1) | (show (Addr.add _ _).block ≠ _; rw [add_block]; exact hn128_1) | exact hn128_1) (.int .i64 ((rd_T40 l0_1 x5_2).f1))).trans hx128_0; replace hx128_1 := (cell_far (p := ⟨gb127, 1, none⟩) (by first | (rw [add_block]; exact hn128_1) | (show (Addr.add _ _).block ≠ _; rw [add_block]; exact hn128_1) | exact hn128_1) (.int .i64 ((rd_T40 l0_1 x5_2).f1))).trans hx128_1; replace hx128_2 := (cell_far (p := ⟨gb127, 1, none⟩) (by first | (rw [add_block]; exact hn128_1) | (show (Addr.add _ _).block ≠ _; rw [add_block]; exact hn128_1) | exact hn128_1) (.int .i64 ((rd_T40 l0_1 x5_2).f1))).trans hx128_2; replace hx128_0 := (cell_far (p := ⟨gb127, 2, none⟩) (by first | (rw [add_block]; exact hn128_2) | (show (Addr.add _ _).block ≠ _; rw [add_block]; exact hn128_2) | exact hn128_2) (.slice A126_2 ((rd_T40 l0_1 x5_2).f2).length c126_2)).trans hx128_0; replace hx128_1 := (cell_far (p := ⟨gb127, 2, none⟩) (by first | (rw [add_block]; exact hn128_2) | (show (Addr.add _ _).block ≠ _; rw [add_block]; exact hn128_2) | exact hn128_2) (.slice A126_2 ((rd_T40 l0_1 x5_2).f2).length c126_2)).trans hx128_1; replace hx128_2 := (cell_far (p := ⟨gb127, 2, none⟩) (by first | (rw [add_block]; exact hn128_2) | (show (Addr.add _ _).block ≠ _; rw [add_block]; exact hn128_2) | exact hn128_2) (.slice A126_2 ((rd_T40 l0_1 x5_2).f2).length c126_2)).trans hx128_2; (try have hy128_0 := fun (n_ : Nat) => (show (((((w21.drewN n_).setCell ⟨gb127, 0, none⟩ (.int .i64 ((rd_T40 l0_1 x5_2).f0))).setCell ⟨gb127, 1, none⟩ (.int .i64 ((rd_T40 l0_1 x5_2).f1))).setCell ⟨gb127, 2, none⟩ (.slice A126_2 ((rd_T40 l0_1 x5_2).f2).length c126_2))).cell? _ = some _ from hx128_0)); (try have hy128_1 := fun (n_ : Nat) => (show (((((w21.drewN n_).setCell ⟨gb127, 0, none⟩ (.int .i64 ((rd_T40 l0_1 x5_2).f0))).setCell ⟨gb127, 1, none⟩ (.int .i64 ((rd_T40 l0_1 x5_2).f1))).setCell ⟨gb127, 2, none⟩ (.slice A126_2 ((rd_T40 l0_1 x5_2).f2).length c126_2))).cell? _ = some _ from hx128_1)); (try have hy128_2 := fun (n_ : Nat) => (show (((((w21.drewN n_).setCell ⟨gb127, 0, none⟩ (.int .i64 ((rd_T40 l0_1 x5_2).f0))).setCell ⟨gb127, 1, none⟩ (.int .i64 ((rd_T40 l0_1 x5_2).f1))).setCell ⟨gb127, 2, none⟩ (.slice A126_2 ((rd_T40 l0_1 x5_2).f2).length c126_2))).cell? _ = some _ from hx128_2)); clear hn128_0; clear hn128_1; clear hn128_2; replace p128 := eq_true p128; replace q128 := eq_true q128) | ((with_reducible refine gate_dst (N := 7) rfl ?_); (try (refine gate_guard (by rfl) ?_; dsimp only)); refine box_event ?hg (N := 7) ?hd (cs := #[.int .i64 0, .int .i64 0, .slice none 0 0]) (t := 40) ?hr ?_; (case hd => rfl); (case hg => rfl); (case hr => first | (go_simp; done) | (go_simp; rfl)); intro gb129 hg w26 hbox hb; have n0_ := Aside0.mk (blk_below (g := gb123) (o := .cells #[.slice A0_0 l0_0.length c0_0, .slice (some ad126) l0_1.length c0_1] 25 (0, 0)) (by (with_reducible repeat (first | refine blk_drewN ?_ _ | refine blk_drew ?_ | refine blk_alloc ?_ _)); refine blk_far ?_ NB123_127.out _; (with_reducible repeat (first | refine blk_drewN ?_ _ | refine blk_drew ?_ | refine blk_alloc ?_ _)); refine blk_far ?_ NB123_127.out _; (with_reducible repeat (first | refine blk_drewN ?_ _ | refine blk_drew ?_ | refine blk_alloc ?_ _)); refine blk_far ?_ NB123_127.out _; (with_reducible repeat (first | refine blk_drewN ?_ _ | refine blk_drew ?_ | refine blk_alloc ?_ _)); exact BK123.out) hb); have n1_ := Aside0.mk (blk_below (g := gb124) (o := .cells #[.slice A1_0 l1_0.length c1_0, .slice (some ad128) l1_1.length c1_1] 25 (0, 0)) (by (with_reducible repeat (first | refine blk_drewN ?_ _ | refine blk_drew ?_ | refine blk_alloc ?_ _)); refine blk_far ?_ NB124_127.out _; (with_reducible repeat (first | refine blk_drewN ?_ _ | refine blk_drew ?_ | refine blk_alloc ?_ _)); refine blk_far ?_ NB124_127.out _; (with_reducible repeat (first | refine blk_drewN ?_ _ | refine blk_drew ?_ | refine blk_alloc ?_ _)); refine blk_far ?_ NB124_127.out _; (with_reducible repeat (first | refine blk_drewN ?_ _ | refine blk_drew ?_ | refine blk_alloc ?_ _)); exact BK124.out) hb); have n2_ := Aside0.mk (blk_below (g := gb127) (o := .cells #[.int .i64 ((rd_T40 l0_1 x5_2).f0), .int .i64 ((rd_T40 l0_1 x5_2).f1), .slice A126_2 ((rd_T40 l0_1 x5_2).f2).length c126_2] 40 (0, 0)) (by (with_reducible repeat (first | refine blk_drewN ?_ _ | refine blk_drew ?_ | refine blk_alloc ?_ _)); refine blk_put (cs := #[.int .i64 ((rd_T40 l0_1 x5_2).f0), .int .i64 ((rd_T40 l0_1 x5_2).f1), .slice none 0 0]) ?_ 2 _ rfl; (with_reducible repeat (first | refine blk_drewN ?_ _ | refine blk_drew ?_ | refine blk_alloc ?_ _)); refine blk_put (cs := #[.int .i64 ((rd_T40 l0_1 x5_2).f0), .int .i64 0, .slice none 0 0]) ?_ 1 _ rfl; (with_reducible repeat (first | refine blk_drewN ?_ _ | refine blk_drew ?_ | refine blk_alloc ?_ _)); refine blk_put (cs := #[.int .i64 0, .int .i64 0, .slice none 0 0]) ?_ 0 _ rfl; (with_reducible repeat (first | refine blk_drewN ?_ _ | refine blk_drew ?_ | refine blk_alloc ?_ _)); exact BK127.out) hb); have n3_ := Aside0.mk (below_step (by repeat (first | (with_reducible first | exact HB.out | apply below_alloc | apply pw_below_drewN | apply below_drew1 | refine below_set ?_ GE123.out | refine below_set ?_ GE124.out | refine below_set ?_ GE127.out) | exact HB.out)) hb); have n4_ := Aside0.mk (hbox); have n5_ := Aside0.mk ((by rw [hg]; exact (below_size (by repeat (first | (with_reducible first | exact HB.out | apply below_alloc | apply pw_below_drewN | apply below_drew1 | refine below_set ?_ GE123.out | refine below_set ?_ GE124.out | refine below_set ?_ GE127.out) | exact HB.out))) : w.heap.size ≤ gb129)); have n6_ := Aside0.mk ((by rw [hg]; exact (below_size (by repeat (first | (with_reducible first | exact HB.out | apply below_alloc | apply pw_below_drewN | apply below_drew1 | refine below_set ?_ GE123.out | refine below_set ?_ GE124.out | refine below_set ?_ GE127.out) | exact HB.out))) : w.heap.size ≤ gb129)); have n7_ := Aside0.mk ((by rw [hg]; exact Nat.ne_of_lt (blk_lt (g := gb123) (o := .cells #[.slice A0_0 l0_0.length c0_0, .slice (some ad126) l0_1.length c0_1] 25 (0, 0)) (by (with_reducible repeat (first | refine blk_drewN ?_ _ | refine blk_drew ?_ | refine blk_alloc ?_ _)); refine blk_far ?_ NB123_127.out _; (with_reducible repeat (first | refine blk_drewN ?_ _ | refine blk_drew ?_ | refine blk_alloc ?_ _)); refine blk_far ?_ NB123_127.out _; (with_reducible repeat (first | refine blk_drewN ?_ _ | refine blk_drew ?_ | refine blk_alloc ?_ _)); refine blk_far ?_ NB123_127.out _; (with_reducible repeat (first | refine blk_drewN ?_ _ | refine blk_drew ?_ | refine blk_alloc ?_ _)); exact BK123.out)) : gb123 ≠ gb129)); have n8_ := Aside0.mk ((by rw [hg]; exact Nat.ne_of_gt (blk_lt (g := gb123) (o := .cells #[.slice A0_0 l0_0.length c0_0, .slice (some ad126) l0_1.length c0_1] 25 (0, 0)) (by (with_reducible repeat (first | refine blk_drewN ?_ _ | refine blk_drew ?_ | refine blk_alloc ?_ _)); refine blk_far ?_ NB123_127.out _; (with_reducible repeat (first | refine blk_drewN ?_ _ | refine blk_drew ?_ | refine blk_alloc ?_ _)); refine blk_far ?_ NB123_127.out _; (with_reducible repeat (first | refine blk_drewN ?_ _ | refine blk_drew ?_ | refine blk_alloc ?_ _)); refine blk_far ?_ NB123_127.out _; (with_reducible repeat (first | refine blk_drewN ?_ _ | refine blk_drew ?_ | refine blk_alloc ?_ _)); exact BK123.out)) : gb129 ≠ gb123)); have n9_ := Aside0.mk ((by rw [hg]; exact Nat.ne_of_lt (blk_lt (g := gb124) (o := .cells #[.slice A1_0 l1_0.length c1_0, .slice (some ad128) l1_1.length c1_1] 25 (0, 0)) (by (with_reducible repeat (first | refine blk_drewN ?_ _ | refine blk_drew ?_ | refine blk_alloc ?_ _)); refine blk_far ?_ NB124_127.out _; (with_reducible repeat (first | refine blk_drewN ?_ _ | refine blk_drew ?_ | refine blk_alloc ?_ _)); refine blk_far ?_ NB124_127.out _; (with_reducible repeat (first | refine blk_drewN ?_ _ | refine blk_drew ?_ | refine blk_alloc ?_ _)); refine blk_far ?_ NB124_127.out _; (with_reducible repeat (first | refine blk_drewN ?_ _ | refine blk_drew ?_ | refine blk_alloc ?_ _)); exact BK124.out)) : gb124 ≠ gb129)); have n10_ := Aside0.mk ((by rw [hg]; exact Nat.ne_of_gt (blk_lt (g := gb124) (o := .cells #[.slice A1_0 l1_0.length c1_0, .slice (some ad128) l1_1.length c1_1] 25 (0, 0)) (by (with_reducible repeat (first | refine blk_drewN ?_ _ | refine blk_drew ?_ | refine blk_alloc ?_ _)); refine blk_far ?_ NB124_127.out _; (with_reducible repeat (first | refine blk_drewN ?_ _ | refine blk_drew ?_ | refine blk_alloc ?_ _)); refine blk_far ?_ NB124_127.out _; (with_reducible repeat (first | refine blk_drewN ?_ _ | refine blk_drew ?_ | refine blk_alloc ?_ _)); refine blk_far ?_ NB124_127.out _; (with_reducible repeat (first | refine blk_drewN ?_ _ | refine blk_drew ?_ | refine blk_alloc ?_ _)); exact BK124.out)) : gb129 ≠ gb124)); have n11_ := Aside0.mk ((by rw [hg]; exact Nat.ne_of_lt (blk_lt (g := gb127) (o := .cells #[.int .i64 ((rd_T40 l0_1 x5_2).f0), .int .i64 ((rd_T40 l0_1 x5_2).f1), .slice A126_2 ((rd_T40 l0_1 x5_2).f2).length c126_2] 40 (0, 0)) (by (with_reducible repeat (first | refine blk_drewN ?_ _ | refine blk_drew ?_ | refine blk_alloc ?_ _)); refine blk_put (cs := #[.int .i64 ((rd_T40 l0_1 x5_2).f0), .int .i64 ((rd_T40 l0_1 x5_2).f1), .slice none 0 0]) ?_ 2 _ rfl; (with_reducible repeat (first | refine blk_drewN ?_ _ | refine blk_drew ?_ | refine blk_alloc ?_ _)); refine blk_put (cs := #[.int .i64 ((rd_T40 l0_1 x5_2).f0), .int .i64 0, .slice none 0 0]) ?_ 1 _ rfl; (with_reducible repeat (first | refine blk_drewN ?_ _ | refine blk_drew ?_ | refine blk_alloc ?_ _)); refine blk_put (cs := #[.int .i64 0, .int .i64 0, .slice none 0 0]) ?_ 0 _ rfl; (with_reducible repeat (first | refine blk_drewN ?_ _ | refine blk_drew ?_ | refine blk_alloc ?_ _)); exact BK127.out)) : gb127 ≠ gb129)); have n12_ := Aside0.mk ((by rw [hg]; exact Nat.ne_of_gt (blk_lt (g := gb127) (o := .cells #[.int .i64 ((rd_T40 l0_1 x5_2).f0), .int .i64 ((rd_T40 l0_1 x5_2).f1), .slice A126_2 ((rd_T40 l0_1 x5_2).f2).length c126_2] 40 (0, 0)) (by (with_reducible repeat (first | refine blk_drewN ?_ _ | refine blk_drew ?_ | refine blk_alloc ?_ _)); refine blk_put (cs := #[.int .i64 ((rd_T40 l0_1 x5_2).f0), .int .i64 ((rd_T40 l0_1 x5_2).f1), .slice none 0 0]) ?_ 2 _ rfl; (with_reducible repeat (first | refine blk_drewN ?_ _ | refine blk_drew ?_ | refine blk_alloc ?_ _)); refine blk_put (cs := #[.int .i64 ((rd_T40 l0_1 x5_2).f0), .int .i64 0, .slice none 0 0]) ?_ 1 _ rfl; (with_reducible repeat (first | refine blk_drewN ?_ _ | refine blk_drew ?_ | refine blk_alloc ?_ _)); refine blk_put (cs := #[.int .i64 0, .int .i64 0, .slice none 0 0]) ?_ 0 _ rfl; (with_reducible repeat (first | refine blk_drewN ?_ _ | refine blk_drew ?_ | refine blk_alloc ?_ _)); exact BK127.out)) : gb129 ≠ gb127)); clear BK123; clear BK124; clear BK127; clear HB; have BK123 := n0_; have BK124 := n1_; have BK127 := n2_; have HB := n3_; have BK129 := n4_; have GW129 := n5_; have GE129 := n6_; have NB123_129 := n7_; have NB129_123 := n8_; have NB124_129 := n9_; have NB129_124 := n10_; have NB127_129 := n11_; have NB129_127 := n12_; clear n0_ n1_ n2_ n3_ n4_ n5_ n6_ n7_ n8_ n9_ n10_ n11_ n12_; clear hb hbox hg; have hnb27 := NB129_123.out; have hnc27 := NB123_129.out; have hnb28 := NB129_124.out; have hnc28 := NB124_129.out; have hnb29 := NB129_127.out; have hnc29 := NB127_129.out; have hcz30_0 : w26.cell? ⟨gb129, 0, none⟩ = some (.int .i64 0) := (blk_cell BK129.out 0).trans rfl; have hcz30_1 : w26.cell? ⟨gb129, 1, none⟩ = some (.int .i64 0) := (blk_cell BK129.out 1).trans rfl; have hcz30_2 : w26.cell? ⟨gb129, 2, none⟩ = some (.slice none 0 0) := (blk_cell BK129.out 2).trans rfl; have hfz30_0 := blk_frozen BK129.out 0; have hfz30_1 := blk_frozen BK129.out 1; have hfz30_2 := blk_frozen BK129.out 2)))
                  (try simp only [Act.put, List.setIfInBounds_toArray, List.set_cons_zero, List.set_cons_succ])
                  go_cut [61] (fun v61 wc => ∃ (kq : Nat) (x61_17 : Bool), v61 = .bool x61_17 ∧ Aside0 (rosetteref15_Same.j2 kq x5_2 x61_17 l0_0 l0_1 l1_0 l1_1 ((rd_T40 l0_1 x5_2).f0) ((rd_T40 l0_1 x5_2).f1) ((rd_T40 l0_1 x5_2).f2) ((rd_T40 l1_1 x5_2).f0) ((rd_T40 l1_1 x5_2).f1) ((rd_T40 l1_1 x5_2).f2) = some r) ∧ Aside0 (kq ≤ k2) ∧ Aside0 (wc.heap[gb123]? = some (.cells #[(.slice A0_0 l0_0.length c0_0), (.slice (some ad126) l0_1.length c0_1)] 25 (0, 0))) ∧ Aside0 (wc.heap[gb124]? = some (.cells #[(.slice A1_0 l1_0.length c1_0), (.slice (some ad128) l1_1.length c1_1)] 25 (0, 0))) ∧ Aside0 (wc.heap[gb127]? = some (.cells #[.int .i64 ((rd_T40 l0_1 x5_2).f0), .int .i64 ((rd_T40 l0_1 x5_2).f1), (.slice A126_2 ((rd_T40 l0_1 x5_2).f2).length c126_2)] 40 (0, 0))) ∧ Aside0 (wc.heap[gb129]? = some (.cells #[.int .i64 ((rd_T40 l1_1 x5_2).f0), .int .i64 ((rd_T40 l1_1 x5_2).f1), (.slice A128_2 ((rd_T40 l1_1 x5_2).f2).length c128_2)] 40 (0, 0))) ∧ Aside0 (Below w.heap.size w wc))
                  case first =>
                    have H := HC18.out
                    clear HC18
                    by_cases c31 : ((rd_T40 l0_1 x5_2).f0) = ((rd_T40 l1_1 x5_2).f0)
                    · rw [if_pos c31] at H
                      have c31b0 : (((rd_T40 l0_1 x5_2).f0) == ((rd_T40 l1_1 x5_2).f0)) = true := beq_iff_eq.mpr c31
                      have c31b1 : (((rd_T40 l0_1 x5_2).f0) != ((rd_T40 l1_1 x5_2).f0)) = false := bne_eq_false_iff_eq.mpr c31
                      clear c31
                      (first | rw [c31b0] | (simp only [i64_w, i32_w]; rw [c31b0]) | skip)
                      by_cases c32 : ((rd_T40 l0_1 x5_2).f1) = ((rd_T40 l1_1 x5_2).f1)
                      · rw [if_pos c32] at H
                        have c32b0 : (((rd_T40 l0_1 x5_2).f1) == ((rd_T40 l1_1 x5_2).f1)) = true := beq_iff_eq.mpr c32
                        have c32b1 : (((rd_T40 l0_1 x5_2).f1) != ((rd_T40 l1_1 x5_2).f1)) = false := bne_eq_false_iff_eq.mpr c32
                        clear c32
                        have H' := Aside0.mk H
                        clear H
                        have hnb33 := NB127_123.out
                        have hnc33 := NB123_127.out
                        have hnb34 := NB127_124.out
                        have hnc34 := NB124_127.out
                        have hnb35 := NB127_129.out
                        have hnc35 := NB129_127.out
                        have hcz36_0 : w26.cell? ⟨gb127, 0, none⟩ = some (.int .i64 ((rd_T40 l0_1 x5_2).f0)) := (blk_cell BK127.out 0).trans rfl
                        have hcz36_1 : w26.cell? ⟨gb127, 1, none⟩ = some (.int .i64 ((rd_T40 l0_1 x5_2).f1)) := (blk_cell BK127.out 1).trans rfl
                        have hcz36_2 : w26.cell? ⟨gb127, 2, none⟩ = some (.slice A126_2 ((rd_T40 l0_1 x5_2).f2).length c126_2) := (blk_cell BK127.out 2).trans rfl
                        have hfz36_0 := blk_frozen BK127.out 0
                        have hfz36_1 := blk_frozen BK127.out 1
                        have hfz36_2 := blk_frozen BK127.out 2
                        have hnb37 := NB129_123.out
                        have hnc37 := NB123_129.out
                        have hnb38 := NB129_124.out
                        have hnc38 := NB124_129.out
                        have hcz39_0 : w26.cell? ⟨gb129, 0, none⟩ = some (.int .i64 0) := (blk_cell BK129.out 0).trans rfl
                        have hcz39_1 : w26.cell? ⟨gb129, 1, none⟩ = some (.int .i64 0) := (blk_cell BK129.out 1).trans rfl
                        have hcz39_2 : w26.cell? ⟨gb129, 2, none⟩ = some (.slice none 0 0) := (blk_cell BK129.out 2).trans rfl
                        have hfz39_0 := blk_frozen BK129.out 0
                        have hfz39_1 := blk_frozen BK129.out 1
                        have hfz39_2 := blk_frozen BK129.out 2
                        go_wp2
                        repeat (go_quiet (fail); try go_wp2)
                        go_meet
                        case rel => exact ⟨_, (((((rd_T40 l0_1 x5_2).f2).length : Int) != (((rd_T40 l1_1 x5_2).f2).length : Int))), (by first | rfl | (simp; done) | (simp [*]; done)), H', ⟨by have := HJ2.out; have := HK2.out; first | omega | exact Nat.le_refl _⟩, ⟨by (with_reducible repeat (first | refine blk_drewN ?_ _ | refine blk_drew ?_ | refine blk_alloc ?_ _)); refine blk_far ?_ NB123_129.out _; (with_reducible repeat (first | refine blk_drewN ?_ _ | refine blk_drew ?_ | refine blk_alloc ?_ _)); refine blk_far ?_ NB123_129.out _; (with_reducible repeat (first | refine blk_drewN ?_ _ | refine blk_drew ?_ | refine blk_alloc ?_ _)); refine blk_far ?_ NB123_129.out _; (with_reducible repeat (first | refine blk_drewN ?_ _ | refine blk_drew ?_ | refine blk_alloc ?_ _)); exact BK123.out⟩, ⟨by (with_reducible repeat (first | refine blk_drewN ?_ _ | refine blk_drew ?_ | refine blk_alloc ?_ _)); refine blk_far ?_ NB124_129.out _; (with_reducible repeat (first | refine blk_drewN ?_ _ | refine blk_drew ?_ | refine blk_alloc ?_ _)); refine blk_far ?_ NB124_129.out _; (with_reducible repeat (first | refine blk_drewN ?_ _ | refine blk_drew ?_ | refine blk_alloc ?_ _)); refine blk_far ?_ NB124_129.out _; (with_reducible repeat (first | refine blk_drewN ?_ _ | refine blk_drew ?_ | refine blk_alloc ?_ _)); exact BK124.out⟩, ⟨by (with_reducible repeat (first | refine blk_drewN ?_ _ | refine blk_drew ?_ | refine blk_alloc ?_ _)); refine blk_far ?_ NB127_129.out _; (with_reducible repeat (first | refine blk_drewN ?_ _ | refine blk_drew ?_ | refine blk_alloc ?_ _)); refine blk_far ?_ NB127_129.out _; (with_reducible repeat (first | refine blk_drewN ?_ _ | refine blk_drew ?_ | refine blk_alloc ?_ _)); refine blk_far ?_ NB127_129.out _; (with_reducible repeat (first | refine blk_drewN ?_ _ | refine blk_drew ?_ | refine blk_alloc ?_ _)); exact BK127.out⟩, ⟨by (with_reducible repeat (first | refine blk_drewN ?_ _ | refine blk_drew ?_ | refine blk_alloc ?_ _)); refine blk_put (cs := #[.int .i64 ((rd_T40 l1_1 x5_2).f0), .int .i64 ((rd_T40 l1_1 x5_2).f1), .slice none 0 0]) ?_ 2 _ rfl; (with_reducible repeat (first | refine blk_drewN ?_ _ | refine blk_drew ?_ | refine blk_alloc ?_ _)); refine blk_put (cs := #[.int .i64 ((rd_T40 l1_1 x5_2).f0), .int .i64 0, .slice none 0 0]) ?_ 1 _ rfl; (with_reducible repeat (first | refine blk_drewN ?_ _ | refine blk_drew ?_ | refine blk_alloc ?_ _)); refine blk_put (cs := #[.int .i64 0, .int .i64 0, .slice none 0 0]) ?_ 0 _ rfl; (with_reducible repeat (first | refine blk_drewN ?_ _ | refine blk_drew ?_ | refine blk_alloc ?_ _)); exact BK129.out⟩, ⟨by repeat (first | (with_reducible first | exact HB.out | apply below_alloc | apply pw_below_drewN | apply below_drew1 | refine below_set ?_ GE123.out | refine below_set ?_ GE124.out | refine below_set ?_ GE127.out | refine below_set ?_ GE129.out) | exact HB.out)⟩⟩
                      · rw [if_neg c32] at H
                        have c32b0 : (((rd_T40 l0_1 x5_2).f1) == ((rd_T40 l1_1 x5_2).f1)) = false := beq_eq_false_iff_ne.mpr c32
                        have c32b1 : (((rd_T40 l0_1 x5_2).f1) != ((rd_T40 l1_1 x5_2).f1)) = true := bne_iff_ne.mpr c32
                        have H' := Aside0.mk H
                        clear H
                        have hnb40 := NB127_123.out
                        have hnc40 := NB123_127.out
                        have hnb41 := NB127_124.out
                        have hnc41 := NB124_127.out
                        have hnb42 := NB127_129.out
                        have hnc42 := NB129_127.out
                        have hcz43_0 : w26.cell? ⟨gb127, 0, none⟩ = some (.int .i64 ((rd_T40 l0_1 x5_2).f0)) := (blk_cell BK127.out 0).trans rfl
                        have hcz43_1 : w26.cell? ⟨gb127, 1, none⟩ = some (.int .i64 ((rd_T40 l0_1 x5_2).f1)) := (blk_cell BK127.out 1).trans rfl
                        have hcz43_2 : w26.cell? ⟨gb127, 2, none⟩ = some (.slice A126_2 ((rd_T40 l0_1 x5_2).f2).length c126_2) := (blk_cell BK127.out 2).trans rfl
                        have hfz43_0 := blk_frozen BK127.out 0
                        have hfz43_1 := blk_frozen BK127.out 1
                        have hfz43_2 := blk_frozen BK127.out 2
                        have hnb44 := NB129_123.out
                        have hnc44 := NB123_129.out
                        have hnb45 := NB129_124.out
                        have hnc45 := NB124_129.out
                        have hcz46_0 : w26.cell? ⟨gb129, 0, none⟩ = some (.int .i64 0) := (blk_cell BK129.out 0).trans rfl
                        have hcz46_1 : w26.cell? ⟨gb129, 1, none⟩ = some (.int .i64 0) := (blk_cell BK129.out 1).trans rfl
                        have hcz46_2 : w26.cell? ⟨gb129, 2, none⟩ = some (.slice none 0 0) := (blk_cell BK129.out 2).trans rfl
                        have hfz46_0 := blk_frozen BK129.out 0
                        have hfz46_1 := blk_frozen BK129.out 1
                        have hfz46_2 := blk_frozen BK129.out 2
                        go_wp2
                        repeat (go_quiet (fail); try go_wp2)
                        go_meet
                        case rel => exact ⟨_, (true), (by first | rfl | (simp; done) | (simp [*]; done)), H', ⟨by have := HJ2.out; have := HK2.out; first | omega | exact Nat.le_refl _⟩, ⟨by (with_reducible repeat (first | refine blk_drewN ?_ _ | refine blk_drew ?_ | refine blk_alloc ?_ _)); refine blk_far ?_ NB123_129.out _; (with_reducible repeat (first | refine blk_drewN ?_ _ | refine blk_drew ?_ | refine blk_alloc ?_ _)); refine blk_far ?_ NB123_129.out _; (with_reducible repeat (first | refine blk_drewN ?_ _ | refine blk_drew ?_ | refine blk_alloc ?_ _)); refine blk_far ?_ NB123_129.out _; (with_reducible repeat (first | refine blk_drewN ?_ _ | refine blk_drew ?_ | refine blk_alloc ?_ _)); exact BK123.out⟩, ⟨by (with_reducible repeat (first | refine blk_drewN ?_ _ | refine blk_drew ?_ | refine blk_alloc ?_ _)); refine blk_far ?_ NB124_129.out _; (with_reducible repeat (first | refine blk_drewN ?_ _ | refine blk_drew ?_ | refine blk_alloc ?_ _)); refine blk_far ?_ NB124_129.out _; (with_reducible repeat (first | refine blk_drewN ?_ _ | refine blk_drew ?_ | refine blk_alloc ?_ _)); refine blk_far ?_ NB124_129.out _; (with_reducible repeat (first | refine blk_drewN ?_ _ | refine blk_drew ?_ | refine blk_alloc ?_ _)); exact BK124.out⟩, ⟨by (with_reducible repeat (first | refine blk_drewN ?_ _ | refine blk_drew ?_ | refine blk_alloc ?_ _)); refine blk_far ?_ NB127_129.out _; (with_reducible repeat (first | refine blk_drewN ?_ _ | refine blk_drew ?_ | refine blk_alloc ?_ _)); refine blk_far ?_ NB127_129.out _; (with_reducible repeat (first | refine blk_drewN ?_ _ | refine blk_drew ?_ | refine blk_alloc ?_ _)); refine blk_far ?_ NB127_129.out _; (with_reducible repeat (first | refine blk_drewN ?_ _ | refine blk_drew ?_ | refine blk_alloc ?_ _)); exact BK127.out⟩, ⟨by (with_reducible repeat (first | refine blk_drewN ?_ _ | refine blk_drew ?_ | refine blk_alloc ?_ _)); refine blk_put (cs := #[.int .i64 ((rd_T40 l1_1 x5_2).f0), .int .i64 ((rd_T40 l1_1 x5_2).f1), .slice none 0 0]) ?_ 2 _ rfl; (with_reducible repeat (first | refine blk_drewN ?_ _ | refine blk_drew ?_ | refine blk_alloc ?_ _)); refine blk_put (cs := #[.int .i64 ((rd_T40 l1_1 x5_2).f0), .int .i64 0, .slice none 0 0]) ?_ 1 _ rfl; (with_reducible repeat (first | refine blk_drewN ?_ _ | refine blk_drew ?_ | refine blk_alloc ?_ _)); refine blk_put (cs := #[.int .i64 0, .int .i64 0, .slice none 0 0]) ?_ 0 _ rfl; (with_reducible repeat (first | refine blk_drewN ?_ _ | refine blk_drew ?_ | refine blk_alloc ?_ _)); exact BK129.out⟩, ⟨by repeat (first | (with_reducible first | exact HB.out | apply below_alloc | apply pw_below_drewN | apply below_drew1 | refine below_set ?_ GE123.out | refine below_set ?_ GE124.out | refine below_set ?_ GE127.out | refine below_set ?_ GE129.out) | exact HB.out)⟩⟩
                    · rw [if_neg c31] at H
                      have c31b0 : (((rd_T40 l0_1 x5_2).f0) == ((rd_T40 l1_1 x5_2).f0)) = false := beq_eq_false_iff_ne.mpr c31
                      have c31b1 : (((rd_T40 l0_1 x5_2).f0) != ((rd_T40 l1_1 x5_2).f0)) = true := bne_iff_ne.mpr c31
                      (first | rw [c31b0] | (simp only [i64_w, i32_w]; rw [c31b0]) | skip)
                      have H' := Aside0.mk H
                      clear H
                      have hnb47 := NB127_123.out
                      have hnc47 := NB123_127.out
                      have hnb48 := NB127_124.out
                      have hnc48 := NB124_127.out
                      have hnb49 := NB127_129.out
                      have hnc49 := NB129_127.out
                      have hcz50_0 : w26.cell? ⟨gb127, 0, none⟩ = some (.int .i64 ((rd_T40 l0_1 x5_2).f0)) := (blk_cell BK127.out 0).trans rfl
                      have hcz50_1 : w26.cell? ⟨gb127, 1, none⟩ = some (.int .i64 ((rd_T40 l0_1 x5_2).f1)) := (blk_cell BK127.out 1).trans rfl
                      have hcz50_2 : w26.cell? ⟨gb127, 2, none⟩ = some (.slice A126_2 ((rd_T40 l0_1 x5_2).f2).length c126_2) := (blk_cell BK127.out 2).trans rfl
                      have hfz50_0 := blk_frozen BK127.out 0
                      have hfz50_1 := blk_frozen BK127.out 1
                      have hfz50_2 := blk_frozen BK127.out 2
                      have hnb51 := NB129_123.out
                      have hnc51 := NB123_129.out
                      have hnb52 := NB129_124.out
                      have hnc52 := NB124_129.out
                      have hcz53_0 : w26.cell? ⟨gb129, 0, none⟩ = some (.int .i64 0) := (blk_cell BK129.out 0).trans rfl
                      have hcz53_1 : w26.cell? ⟨gb129, 1, none⟩ = some (.int .i64 0) := (blk_cell BK129.out 1).trans rfl
                      have hcz53_2 : w26.cell? ⟨gb129, 2, none⟩ = some (.slice none 0 0) := (blk_cell BK129.out 2).trans rfl
                      have hfz53_0 := blk_frozen BK129.out 0
                      have hfz53_1 := blk_frozen BK129.out 1
                      have hfz53_2 := blk_frozen BK129.out 2
                      go_wp2
                      repeat (go_quiet (fail); try go_wp2)
                      go_meet
                      case rel => exact ⟨_, (true), (by first | rfl | (simp; done) | (simp [*]; done)), H', ⟨by have := HJ2.out; have := HK2.out; first | omega | exact Nat.le_refl _⟩, ⟨by (with_reducible repeat (first | refine blk_drewN ?_ _ | refine blk_drew ?_ | refine blk_alloc ?_ _)); refine blk_far ?_ NB123_129.out _; (with_reducible repeat (first | refine blk_drewN ?_ _ | refine blk_drew ?_ | refine blk_alloc ?_ _)); refine blk_far ?_ NB123_129.out _; (with_reducible repeat (first | refine blk_drewN ?_ _ | refine blk_drew ?_ | refine blk_alloc ?_ _)); refine blk_far ?_ NB123_129.out _; (with_reducible repeat (first | refine blk_drewN ?_ _ | refine blk_drew ?_ | refine blk_alloc ?_ _)); exact BK123.out⟩, ⟨by (with_reducible repeat (first | refine blk_drewN ?_ _ | refine blk_drew ?_ | refine blk_alloc ?_ _)); refine blk_far ?_ NB124_129.out _; (with_reducible repeat (first | refine blk_drewN ?_ _ | refine blk_drew ?_ | refine blk_alloc ?_ _)); refine blk_far ?_ NB124_129.out _; (with_reducible repeat (first | refine blk_drewN ?_ _ | refine blk_drew ?_ | refine blk_alloc ?_ _)); refine blk_far ?_ NB124_129.out _; (with_reducible repeat (first | refine blk_drewN ?_ _ | refine blk_drew ?_ | refine blk_alloc ?_ _)); exact BK124.out⟩, ⟨by (with_reducible repeat (first | refine blk_drewN ?_ _ | refine blk_drew ?_ | refine blk_alloc ?_ _)); refine blk_far ?_ NB127_129.out _; (with_reducible repeat (first | refine blk_drewN ?_ _ | refine blk_drew ?_ | refine blk_alloc ?_ _)); refine blk_far ?_ NB127_129.out _; (with_reducible repeat (first | refine blk_drewN ?_ _ | refine blk_drew ?_ | refine blk_alloc ?_ _)); refine blk_far ?_ NB127_129.out _; (with_reducible repeat (first | refine blk_drewN ?_ _ | refine blk_drew ?_ | refine blk_alloc ?_ _)); exact BK127.out⟩, ⟨by (with_reducible repeat (first | refine blk_drewN ?_ _ | refine blk_drew ?_ | refine blk_alloc ?_ _)); refine blk_put (cs := #[.int .i64 ((rd_T40 l1_1 x5_2).f0), .int .i64 ((rd_T40 l1_1 x5_2).f1), .slice none 0 0]) ?_ 2 _ rfl; (with_reducible repeat (first | refine blk_drewN ?_ _ | refine blk_drew ?_ | refine blk_alloc ?_ _)); refine blk_put (cs := #[.int .i64 ((rd_T40 l1_1 x5_2).f0), .int .i64 0, .slice none 0 0]) ?_ 1 _ rfl; (with_reducible repeat (first | refine blk_drewN ?_ _ | refine blk_drew ?_ | refine blk_alloc ?_ _)); refine blk_put (cs := #[.int .i64 0, .int .i64 0, .slice none 0 0]) ?_ 0 _ rfl; (with_reducible repeat (first | refine blk_drewN ?_ _ | refine blk_drew ?_ | refine blk_alloc ?_ _)); exact BK129.out⟩, ⟨by repeat (first | (with_reducible first | exact HB.out | apply below_alloc | apply pw_below_drewN | apply below_drew1 | refine below_set ?_ GE123.out | refine below_set ?_ GE124.out | refine below_set ?_ GE127.out | refine below_set ?_ GE129.out) | exact HB.out)⟩⟩
                  case rest =>
                    clear HC18
                    try clear c1
                    try clear p1
                    try clear q1
                    try clear hx1
                    try clear c2
                    try clear p2
                    try clear c3
                    try clear c4
                    try clear c5
                    try clear c7
                    try clear c8
                    try clear c11
                    try clear c12
                    try clear p12
                    try clear q12
                    try clear hx12
                    try clear c14
                    try clear c15
                    try clear c15b0
                    try clear c16
                    try clear c16b0
                    try clear c17
                    try clear c17b0
                    try clear c19
                    try clear c22
                    try clear c23
                    try clear c27
                    try clear c28
                    try clear c29
                    try clear c31
                    try clear c31b0
                    try clear c31b1
                    try clear c32
                    try clear c32b0
                    try clear c32b1
                    try clear c33
                    try clear c34
                    try clear c35
                    try clear c37
                    try clear c38
                    try clear c40
                    try clear c41
                    try clear c42
                    try clear c44
                    try clear c45
                    try clear c47
                    try clear c48
                    try clear c49
                    try clear c51
                    try clear c52
                    try clear hcz10_0
                    try clear hcz10_1
                    try clear hcz12_0
                    try clear hcz12_1
                    try clear hcz13_0
                    try clear hcz13_1
                    try clear hcz20_0
                    try clear hcz20_1
                    try clear hcz24_0
                    try clear hcz24_1
                    try clear hcz24_2
                    try clear hcz25_0
                    try clear hcz25_1
                    try clear hcz30_0
                    try clear hcz30_1
                    try clear hcz30_2
                    try clear hcz36_0
                    try clear hcz36_1
                    try clear hcz36_2
                    try clear hcz39_0
                    try clear hcz39_1
                    try clear hcz39_2
                    try clear hcz43_0
                    try clear hcz43_1
                    try clear hcz43_2
                    try clear hcz46_0
                    try clear hcz46_1
                    try clear hcz46_2
                    try clear hcz50_0
                    try clear hcz50_1
                    try clear hcz50_2
                    try clear hcz53_0
                    try clear hcz53_1
                    try clear hcz53_2
                    try clear hcz9_0
                    try clear hcz9_1
                    try clear hfz10_0
                    try clear hfz10_1
                    try clear hfz12_0
                    try clear hfz12_1
                    try clear hfz13_0
                    try clear hfz13_1
                    try clear hfz20_0
                    try clear hfz20_1
                    try clear hfz24_0
                    try clear hfz24_1
                    try clear hfz24_2
                    try clear hfz25_0
                    try clear hfz25_1
                    try clear hfz30_0
                    try clear hfz30_1
                    try clear hfz30_2
                    try clear hfz36_0
                    try clear hfz36_1
                    try clear hfz36_2
                    try clear hfz39_0
                    try clear hfz39_1
                    try clear hfz39_2
                    try clear hfz43_0
                    try clear hfz43_1
                    try clear hfz43_2
                    try clear hfz46_0
                    try clear hfz46_1
                    try clear hfz46_2
                    try clear hfz50_0
                    try clear hfz50_1
                    try clear hfz50_2
                    try clear hfz53_0
                    try clear hfz53_1
                    try clear hfz53_2
                    try clear hfz9_0
                    try clear hfz9_1
                    try clear hx126_0
                    try clear hx126_1
                    try clear hx126_2
                    try clear hx128_0
                    try clear hx128_1
                    try clear hx128_2
                    try clear p126
                    try clear p128
                    try clear p2
                    try clear q126
                    try clear q128
                    obtain ⟨kq, x61_17, rfl, HA, HJ17, BK123, BK124, BK127, BK129, HB⟩ := hcut
                    cases kq with
                    | zero => exact absurd HA.out (by simp [rosetteref15_Same.j2])
                    | succ kj17 =>
                      have H := HA.out
                      clear HA
                      simp only [rosetteref15_Same.j2] at H
                      by_cases c54 : x61_17 = true
                      · subst c54
                        have H1 : (some false) = some r := by rw [if_pos rfl] at H; exact H
                        clear H
                        have H := H1
                        clear H1
                        obtain rfl := Option.some.inj H
                        go_wp2
                        repeat (go_quiet (fail); try go_wp2)
                        go_ret
                        exact ⟨by first | rfl | (simp [errW_none, errW_some] <;> rfl) | (simp [*, errW_none, errW_some] <;> rfl), by repeat (first | (with_reducible first | exact HB.out | apply below_alloc | apply pw_below_drewN | apply below_drew1 | refine below_set ?_ GE123.out | refine below_set ?_ GE124.out | refine below_set ?_ GE127.out | refine below_set ?_ GE129.out) | exact HB.out)⟩
                      · replace c54 := Bool.eq_false_iff.mpr c54
                        subst c54
                        have H1 : (rosetteref15_Same.l1 kj17 x5_2 0 l0_0 l0_1 l1_0 l1_1 ((rd_T40 l0_1 x5_2).f0) ((rd_T40 l0_1 x5_2).f1) ((rd_T40 l0_1 x5_2).f2) ((rd_T40 l1_1 x5_2).f0) ((rd_T40 l1_1 x5_2).f1) ((rd_T40 l1_1 x5_2).f2)) = some r := by rw [if_neg (show ¬ (false = true) by decide)] at H; exact H
                        clear H
                        have H := H1
                        clear H1
                        have H' := Aside0.mk H
                        clear H
                        go_wp2
                        repeat (go_quiet (fail); try go_wp2)
                        go_loopg [8] kj17 (fun kq v8 w' => ∃ (x8_4 : Int), v8 = .int .i64 x8_4 ∧ Aside0 (rosetteref15_Same.l1 kq x5_2 x8_4 l0_0 l0_1 l1_0 l1_1 ((rd_T40 l0_1 x5_2).f0) ((rd_T40 l0_1 x5_2).f1) ((rd_T40 l0_1 x5_2).f2) ((rd_T40 l1_1 x5_2).f0) ((rd_T40 l1_1 x5_2).f1) ((rd_T40 l1_1 x5_2).f2) = some r) ∧ Aside0 (kq ≤ kj17) ∧ Aside0 (w'.heap[gb123]? = some (.cells #[(.slice A0_0 l0_0.length c0_0), (.slice (some ad126) l0_1.length c0_1)] 25 (0, 0))) ∧ Aside0 (w'.heap[gb124]? = some (.cells #[(.slice A1_0 l1_0.length c1_0), (.slice (some ad128) l1_1.length c1_1)] 25 (0, 0))) ∧ Aside0 (w'.heap[gb127]? = some (.cells #[.int .i64 ((rd_T40 l0_1 x5_2).f0), .int .i64 ((rd_T40 l0_1 x5_2).f1), (.slice A126_2 ((rd_T40 l0_1 x5_2).f2).length c126_2)] 40 (0, 0))) ∧ Aside0 (w'.heap[gb129]? = some (.cells #[.int .i64 ((rd_T40 l1_1 x5_2).f0), .int .i64 ((rd_T40 l1_1 x5_2).f1), (.slice A128_2 ((rd_T40 l1_1 x5_2).f2).length c128_2)] 40 (0, 0))) ∧ Aside0 (Below w.heap.size w w'))
                        case atStart => exact ⟨(0), (by first | rfl | (simp; done) | (simp [*]; done)), H', ⟨Nat.le_refl _⟩, ⟨by (with_reducible repeat (first | refine blk_drewN ?_ _ | refine blk_drew ?_ | refine blk_alloc ?_ _)); exact BK123.out⟩, ⟨by (with_reducible repeat (first | refine blk_drewN ?_ _ | refine blk_drew ?_ | refine blk_alloc ?_ _)); exact BK124.out⟩, ⟨by (with_reducible repeat (first | refine blk_drewN ?_ _ | refine blk_drew ?_ | refine blk_alloc ?_ _)); exact BK127.out⟩, ⟨by (with_reducible repeat (first | refine blk_drewN ?_ _ | refine blk_drew ?_ | refine blk_alloc ?_ _)); exact BK129.out⟩, ⟨by repeat (first | (with_reducible first | exact HB.out | apply below_alloc | apply pw_below_drewN | apply below_drew1 | refine below_set ?_ GE123.out | refine below_set ?_ GE124.out | refine below_set ?_ GE127.out | refine below_set ?_ GE129.out) | exact HB.out)⟩⟩
                        case round =>
                          clear H'
                          try clear c1
                          try clear p1
                          try clear q1
                          try clear hx1
                          try clear c2
                          try clear p2
                          try clear c3
                          try clear c4
                          try clear c5
                          try clear c7
                          try clear c8
                          try clear c11
                          try clear c12
                          try clear p12
                          try clear q12
                          try clear hx12
                          try clear c14
                          try clear c15
                          try clear c15b0
                          try clear c16
                          try clear c16b0
                          try clear c17
                          try clear c17b0
                          try clear c19
                          try clear c22
                          try clear c23
                          try clear c27
                          try clear c28
                          try clear c29
                          try clear c31
                          try clear c31b0
                          try clear c31b1
                          try clear c32
                          try clear c32b0
                          try clear c32b1
                          try clear c33
                          try clear c34
                          try clear c35
                          try clear c37
                          try clear c38
                          try clear c40
                          try clear c41
                          try clear c42
                          try clear c44
                          try clear c45
                          try clear c47
                          try clear c48
                          try clear c49
                          try clear c51
                          try clear c52
                          try clear c54
                          try clear hcz10_0
                          try clear hcz10_1
                          try clear hcz12_0
                          try clear hcz12_1
                          try clear hcz13_0
                          try clear hcz13_1
                          try clear hcz20_0
                          try clear hcz20_1
                          try clear hcz24_0
                          try clear hcz24_1
                          try clear hcz24_2
                          try clear hcz25_0
                          try clear hcz25_1
                          try clear hcz30_0
                          try clear hcz30_1
                          try clear hcz30_2
                          try clear hcz36_0
                          try clear hcz36_1
                          try clear hcz36_2
                          try clear hcz39_0
                          try clear hcz39_1
                          try clear hcz39_2
                          try clear hcz43_0
                          try clear hcz43_1
                          try clear hcz43_2
                          try clear hcz46_0
                          try clear hcz46_1
                          try clear hcz46_2
                          try clear hcz50_0
                          try clear hcz50_1
                          try clear hcz50_2
                          try clear hcz53_0
                          try clear hcz53_1
                          try clear hcz53_2
                          try clear hcz9_0
                          try clear hcz9_1
                          try clear hfz10_0
                          try clear hfz10_1
                          try clear hfz12_0
                          try clear hfz12_1
                          try clear hfz13_0
                          try clear hfz13_1
                          try clear hfz20_0
                          try clear hfz20_1
                          try clear hfz24_0
                          try clear hfz24_1
                          try clear hfz24_2
                          try clear hfz25_0
                          try clear hfz25_1
                          try clear hfz30_0
                          try clear hfz30_1
                          try clear hfz30_2
                          try clear hfz36_0
                          try clear hfz36_1
                          try clear hfz36_2
                          try clear hfz39_0
                          try clear hfz39_1
                          try clear hfz39_2
                          try clear hfz43_0
                          try clear hfz43_1
                          try clear hfz43_2
                          try clear hfz46_0
                          try clear hfz46_1
                          try clear hfz46_2
                          try clear hfz50_0
                          try clear hfz50_1
                          try clear hfz50_2
                          try clear hfz53_0
                          try clear hfz53_1
                          try clear hfz53_2
                          try clear hfz9_0
                          try clear hfz9_1
                          try clear hx126_0
                          try clear hx126_1
                          try clear hx126_2
                          try clear hx128_0
                          try clear hx128_1
                          try clear hx128_2
                          try clear p1
                          try clear p12
                          try clear p126
                          try clear p128
                          try clear p2
                          try clear q1
                          try clear q12
                          try clear q126
                          try clear q128
                          obtain ⟨x8_4, rfl, HA, HK4, BK123, BK124, BK127, BK129, HB⟩ := hrel
                          cases gk with
                          | zero => exact absurd HA.out (by simp [rosetteref15_Same.l1])
                          | succ k4 =>
                            have H := HA.out
                            clear HA
                            simp only [rosetteref15_Same.l1] at H
                            by_cases c55 : x8_4 < (((rd_T40 l0_1 x5_2).f2).length : Int)
                            · rw [if_pos c55] at H
                              have c55b0 : decide (x8_4 < (((rd_T40 l0_1 x5_2).f2).length : Int)) = true := decide_eq_true c55
                              clear c55
                              by_cases c56 : 0 ≤ x8_4
                              · rw [if_pos c56] at H
                                have c56b0 : decide (0 ≤ x8_4) = true := decide_eq_true c56
                                clear c56
                                by_cases c57 : x8_4 < (((rd_T40 l1_1 x5_2).f2).length : Int)
                                · rw [if_pos c57] at H
                                  have c57b0 : decide (x8_4 < (((rd_T40 l1_1 x5_2).f2).length : Int)) = true := decide_eq_true c57
                                  clear c57
                                  by_cases c58 : (!((((rd_T46 ((rd_T40 l0_1 x5_2).f2) x8_4).f0).toList) == (((rd_T46 ((rd_T40 l1_1 x5_2).f2) x8_4).f0).toList)) || (!(((rd_T46 ((rd_T40 l0_1 x5_2).f2) x8_4).f1) == ((rd_T46 ((rd_T40 l1_1 x5_2).f2) x8_4).f1)) || (!(((rd_T46 ((rd_T40 l0_1 x5_2).f2) x8_4).f2) == ((rd_T46 ((rd_T40 l1_1 x5_2).f2) x8_4).f2))))) = true
                                  · rw [if_pos c58] at H
                                    have c58b0 : (!((((rd_T46 ((rd_T40 l0_1 x5_2).f2) x8_4).f0).toList) == (((rd_T46 ((rd_T40 l1_1 x5_2).f2) x8_4).f0).toList)) || (!(((rd_T46 ((rd_T40 l0_1 x5_2).f2) x8_4).f1) == ((rd_T46 ((rd_T40 l1_1 x5_2).f2) x8_4).f1)) || (!(((rd_T46 ((rd_T40 l0_1 x5_2).f2) x8_4).f2) == ((rd_T46 ((rd_T40 l1_1 x5_2).f2) x8_4).f2))))) = true := c58
                                    clear c58
                                    obtain rfl := Option.some.inj H
                                    have hnb59 := NB127_123.out
                                    have hnc59 := NB123_127.out
                                    have hnb60 := NB127_124.out
                                    have hnc60 := NB124_127.out
                                    have hnb61 := NB127_129.out
                                    have hnc61 := NB129_127.out
                                    have hcz62_0 : wr.cell? ⟨gb127, 0, none⟩ = some (.int .i64 ((rd_T40 l0_1 x5_2).f0)) := (blk_cell BK127.out 0).trans rfl
                                    have hcz62_1 : wr.cell? ⟨gb127, 1, none⟩ = some (.int .i64 ((rd_T40 l0_1 x5_2).f1)) := (blk_cell BK127.out 1).trans rfl
                                    have hcz62_2 : wr.cell? ⟨gb127, 2, none⟩ = some (.slice A126_2 ((rd_T40 l0_1 x5_2).f2).length c126_2) := (blk_cell BK127.out 2).trans rfl
                                    have hfz62_0 := blk_frozen BK127.out 0
                                    have hfz62_1 := blk_frozen BK127.out 1
                                    have hfz62_2 := blk_frozen BK127.out 2
                                    have p130 : 0 ≤ (x8_4 : Int) := of_decide_eq_true (by first | (with_reducible assumption) | assumption)
                                    have q130 : x8_4 < (((rd_T40 l0_1 x5_2).f2).length : Int) := of_decide_eq_true (by first | (with_reducible assumption) | assumption)
                                    obtain ⟨ad130, e130, hx130_0, hx130_1, hx130_2⟩ := at_T46 HR126_2.out x8_4 p130 q130
                                    cases e130
                                    replace hx130_0 := (HB.out.cell (World.block_lt_of_cell? w _ hx130_0)).trans hx130_0
                                    replace hx130_1 := (HB.out.cell (World.block_lt_of_cell? w _ hx130_1)).trans hx130_1
                                    replace hx130_2 := (HB.out.cell (World.block_lt_of_cell? w _ hx130_2)).trans hx130_2
                                    replace p130 := eq_true p130
                                    replace q130 := eq_true q130
                                    have hnb63 := NB129_123.out
                                    have hnc63 := NB123_129.out
                                    have hnb64 := NB129_124.out
                                    have hnc64 := NB124_129.out
                                    have hcz65_0 : wr.cell? ⟨gb129, 0, none⟩ = some (.int .i64 ((rd_T40 l1_1 x5_2).f0)) := (blk_cell BK129.out 0).trans rfl
                                    have hcz65_1 : wr.cell? ⟨gb129, 1, none⟩ = some (.int .i64 ((rd_T40 l1_1 x5_2).f1)) := (blk_cell BK129.out 1).trans rfl
                                    have hcz65_2 : wr.cell? ⟨gb129, 2, none⟩ = some (.slice A128_2 ((rd_T40 l1_1 x5_2).f2).length c128_2) := (blk_cell BK129.out 2).trans rfl
                                    have hfz65_0 := blk_frozen BK129.out 0
                                    have hfz65_1 := blk_frozen BK129.out 1
                                    have hfz65_2 := blk_frozen BK129.out 2
                                    have p131 : 0 ≤ (x8_4 : Int) := of_decide_eq_true (by first | (with_reducible assumption) | assumption)
                                    have q131 : x8_4 < (((rd_T40 l1_1 x5_2).f2).length : Int) := of_decide_eq_true (by first | (with_reducible assumption) | assumption)
                                    obtain ⟨ad131, e131, hx131_0, hx131_1, hx131_2⟩ := at_T46 HR128_2.out x8_4 p131 q131
                                    cases e131
                                    replace hx131_0 := (HB.out.cell (World.block_lt_of_cell? w _ hx131_0)).trans hx131_0
                                    replace hx131_1 := (HB.out.cell (World.block_lt_of_cell? w _ hx131_1)).trans hx131_1
                                    replace hx131_2 := (HB.out.cell (World.block_lt_of_cell? w _ hx131_2)).trans hx131_2
                                    replace p131 := eq_true p131
                                    replace q131 := eq_true q131
                                    go_wp2
                                    repeat (go_quiet (fail); try go_wp2)
                                    go_ret
                                    exact ⟨by first | rfl | (simp [errW_none, errW_some] <;> rfl) | (simp [*, errW_none, errW_some] <;> rfl), by repeat (first | (with_reducible first | exact HB.out | apply below_alloc | apply pw_below_drewN | apply below_drew1 | refine below_set ?_ GE123.out | refine below_set ?_ GE124.out | refine below_set ?_ GE127.out | refine below_set ?_ GE129.out) | exact HB.out)⟩
                                  · rw [if_neg c58] at H
                                    have c58b0 : (!((((rd_T46 ((rd_T40 l0_1 x5_2).f2) x8_4).f0).toList) == (((rd_T46 ((rd_T40 l1_1 x5_2).f2) x8_4).f0).toList)) || (!(((rd_T46 ((rd_T40 l0_1 x5_2).f2) x8_4).f1) == ((rd_T46 ((rd_T40 l1_1 x5_2).f2) x8_4).f1)) || (!(((rd_T46 ((rd_T40 l0_1 x5_2).f2) x8_4).f2) == ((rd_T46 ((rd_T40 l1_1 x5_2).f2) x8_4).f2))))) = false := by simpa using c58
                                    clear c58
                                    have H' := Aside0.mk H
                                    clear H
                                    have hnb66 := NB127_123.out
                                    have hnc66 := NB123_127.out
                                    have hnb67 := NB127_124.out
                                    have hnc67 := NB124_127.out
                                    have hnb68 := NB127_129.out
                                    have hnc68 := NB129_127.out
                                    have hcz69_0 : wr.cell? ⟨gb127, 0, none⟩ = some (.int .i64 ((rd_T40 l0_1 x5_2).f0)) := (blk_cell BK127.out 0).trans rfl
                                    have hcz69_1 : wr.cell? ⟨gb127, 1, none⟩ = some (.int .i64 ((rd_T40 l0_1 x5_2).f1)) := (blk_cell BK127.out 1).trans rfl
                                    have hcz69_2 : wr.cell? ⟨gb127, 2, none⟩ = some (.slice A126_2 ((rd_T40 l0_1 x5_2).f2).length c126_2) := (blk_cell BK127.out 2).trans rfl
                                    have hfz69_0 := blk_frozen BK127.out 0
                                    have hfz69_1 := blk_frozen BK127.out 1
                                    have hfz69_2 := blk_frozen BK127.out 2
                                    have p130 : 0 ≤ (x8_4 : Int) := of_decide_eq_true (by first | (with_reducible assumption) | assumption)
                                    have q130 : x8_4 < (((rd_T40 l0_1 x5_2).f2).length : Int) := of_decide_eq_true (by first | (with_reducible assumption) | assumption)
                                    obtain ⟨ad130, e130, hx130_0, hx130_1, hx130_2⟩ := at_T46 HR126_2.out x8_4 p130 q130
                                    cases e130
                                    replace hx130_0 := (HB.out.cell (World.block_lt_of_cell? w _ hx130_0)).trans hx130_0
                                    replace hx130_1 := (HB.out.cell (World.block_lt_of_cell? w _ hx130_1)).trans hx130_1
                                    replace hx130_2 := (HB.out.cell (World.block_lt_of_cell? w _ hx130_2)).trans hx130_2
                                    replace p130 := eq_true p130
                                    replace q130 := eq_true q130
                                    have hnb70 := NB129_123.out
                                    have hnc70 := NB123_129.out
                                    have hnb71 := NB129_124.out
                                    have hnc71 := NB124_129.out
                                    have hcz72_0 : wr.cell? ⟨gb129, 0, none⟩ = some (.int .i64 ((rd_T40 l1_1 x5_2).f0)) := (blk_cell BK129.out 0).trans rfl
                                    have hcz72_1 : wr.cell? ⟨gb129, 1, none⟩ = some (.int .i64 ((rd_T40 l1_1 x5_2).f1)) := (blk_cell BK129.out 1).trans rfl
                                    have hcz72_2 : wr.cell? ⟨gb129, 2, none⟩ = some (.slice A128_2 ((rd_T40 l1_1 x5_2).f2).length c128_2) := (blk_cell BK129.out 2).trans rfl
                                    have hfz72_0 := blk_frozen BK129.out 0
                                    have hfz72_1 := blk_frozen BK129.out 1
                                    have hfz72_2 := blk_frozen BK129.out 2
                                    have p131 : 0 ≤ (x8_4 : Int) := of_decide_eq_true (by first | (with_reducible assumption) | assumption)
                                    have q131 : x8_4 < (((rd_T40 l1_1 x5_2).f2).length : Int) := of_decide_eq_true (by first | (with_reducible assumption) | assumption)
                                    obtain ⟨ad131, e131, hx131_0, hx131_1, hx131_2⟩ := at_T46 HR128_2.out x8_4 p131 q131
                                    cases e131
                                    replace hx131_0 := (HB.out.cell (World.block_lt_of_cell? w _ hx131_0)).trans hx131_0
                                    replace hx131_1 := (HB.out.cell (World.block_lt_of_cell? w _ hx131_1)).trans hx131_1
                                    replace hx131_2 := (HB.out.cell (World.block_lt_of_cell? w _ hx131_2)).trans hx131_2
                                    replace p131 := eq_true p131
                                    replace q131 := eq_true q131
                                    go_wp2
                                    repeat (go_quiet (fail); try go_wp2)
                                    go_roundg k4
                                    case measure => have := HJ2.out; have := HK2.out; have := HJ17.out; have := HK4.out; omega
                                    case rel => exact ⟨(wrap64 (x8_4 + 1)), (by first | rfl | (simp; done) | (simp [*]; done)), H', ⟨by have := HJ2.out; have := HK2.out; have := HJ17.out; have := HK4.out; omega⟩, ⟨by (with_reducible repeat (first | refine blk_drewN ?_ _ | refine blk_drew ?_ | refine blk_alloc ?_ _)); exact BK123.out⟩, ⟨by (with_reducible repeat (first | refine blk_drewN ?_ _ | refine blk_drew ?_ | refine blk_alloc ?_ _)); exact BK124.out⟩, ⟨by (with_reducible repeat (first | refine blk_drewN ?_ _ | refine blk_drew ?_ | refine blk_alloc ?_ _)); exact BK127.out⟩, ⟨by (with_reducible repeat (first | refine blk_drewN ?_ _ | refine blk_drew ?_ | refine blk_alloc ?_ _)); exact BK129.out⟩, ⟨by repeat (first | (with_reducible first | exact HB.out | apply below_alloc | apply pw_below_drewN | apply below_drew1 | refine below_set ?_ GE123.out | refine below_set ?_ GE124.out | refine below_set ?_ GE127.out | refine below_set ?_ GE129.out) | exact HB.out)⟩⟩
                                · rw [if_neg c57] at H
                                  exact absurd H (by simp)
                              · rw [if_neg c56] at H
                                exact absurd H (by simp)
                            · rw [if_neg c55] at H
                              have c55b0 : decide (x8_4 < (((rd_T40 l0_1 x5_2).f2).length : Int)) = false := decide_eq_false c55
                              clear c55
                              have H' := Aside0.mk H
                              clear H
                              have hnb73 := NB127_123.out
                              have hnc73 := NB123_127.out
                              have hnb74 := NB127_124.out
                              have hnc74 := NB124_127.out
                              have hnb75 := NB127_129.out
                              have hnc75 := NB129_127.out
                              have hcz76_0 : wr.cell? ⟨gb127, 0, none⟩ = some (.int .i64 ((rd_T40 l0_1 x5_2).f0)) := (blk_cell BK127.out 0).trans rfl
                              have hcz76_1 : wr.cell? ⟨gb127, 1, none⟩ = some (.int .i64 ((rd_T40 l0_1 x5_2).f1)) := (blk_cell BK127.out 1).trans rfl
                              have hcz76_2 : wr.cell? ⟨gb127, 2, none⟩ = some (.slice A126_2 ((rd_T40 l0_1 x5_2).f2).length c126_2) := (blk_cell BK127.out 2).trans rfl
                              have hfz76_0 := blk_frozen BK127.out 0
                              have hfz76_1 := blk_frozen BK127.out 1
                              have hfz76_2 := blk_frozen BK127.out 2
                              go_wp2
                              repeat (go_quiet (fail); try go_wp2)
                              go_roundg k4
                              case measure => have := HJ2.out; have := HK2.out; have := HJ17.out; have := HK4.out; omega
                              case rel => exact ⟨(wrap64 (x5_2 + 1)), (by first | rfl | (simp; done) | (simp [*]; done)), H', ⟨by have := HJ2.out; have := HK2.out; have := HJ17.out; have := HK4.out; omega⟩, ⟨by (with_reducible repeat (first | refine blk_drewN ?_ _ | refine blk_drew ?_ | refine blk_alloc ?_ _)); exact BK123.out⟩, ⟨by (with_reducible repeat (first | refine blk_drewN ?_ _ | refine blk_drew ?_ | refine blk_alloc ?_ _)); exact BK124.out⟩, ⟨by repeat (first | (with_reducible first | exact HB.out | apply below_alloc | apply pw_below_drewN | apply below_drew1 | refine below_set ?_ GE123.out | refine below_set ?_ GE124.out | refine below_set ?_ GE127.out | refine below_set ?_ GE129.out) | exact HB.out)⟩⟩
                · rw [if_neg c17] at H
                  exact absurd H (by simp)
              · rw [if_neg c16] at H
                exact absurd H (by simp)
            · rw [if_neg c15] at H
              have c15b0 : decide (x5_2 < (l0_1.length : Int)) = false := decide_eq_false c15
              clear c15
              obtain rfl := Option.some.inj H
              have hnb77 := NB123_124.out
              have hnc77 := NB124_123.out
              have hcz78_0 : wr.cell? ⟨gb123, 0, none⟩ = some (.slice A0_0 l0_0.length c0_0) := (blk_cell BK123.out 0).trans rfl
              have hcz78_1 : wr.cell? ⟨gb123, 1, none⟩ = some (.slice A0_1 l0_1.length c0_1) := (blk_cell BK123.out 1).trans rfl
              have hfz78_0 := blk_frozen BK123.out 0
              have hfz78_1 := blk_frozen BK123.out 1
              go_wp2
              repeat (go_quiet (fail); try go_wp2)
              go_ret
              exact ⟨by first | rfl | (simp [errW_none, errW_some] <;> rfl) | (simp [*, errW_none, errW_some] <;> rfl), by repeat (first | (with_reducible first | exact HB.out | apply below_alloc | apply pw_below_drewN | apply below_drew1 | refine below_set ?_ GE123.out | refine below_set ?_ GE124.out) | exact HB.out)⟩

end Go.Proofs.Ytkdhcmmfklganaa.G
end

section
/- the small case of the first broker's laws, walked -/
set_option linter.unusedVariables false
set_option linter.unusedSimpArgs false
set_option autoImplicit false
namespace Go.Proofs.Ytkdhcmmfklganaa
open Go.RowKit Go.Proofs.YtkdhcmmfklganaaW.PrintWords Go.Proofs.YtkdhcmmfklganaaW.PrintLast Go.Proofs.YtkdhcmmfklganaaW.PrintMore Go.Proofs.Ytkdhcmmfklganaa.G

instance d46 : DecidableEq S46 := fun a b => if h : a.f0 = b.f0 ∧ a.f1 = b.f1 ∧ a.f2 = b.f2 then .isTrue (by obtain ⟨a1, a2, a3⟩ := a; obtain ⟨b1, b2, b3⟩ := b; simp only at h; obtain ⟨rfl, rfl, rfl⟩ := h; rfl) else .isFalse (fun e => h (by subst e; exact ⟨rfl, rfl, rfl⟩))
instance d40 : DecidableEq S40 := fun a b => if h : a.f0 = b.f0 ∧ a.f1 = b.f1 ∧ a.f2 = b.f2 then .isTrue (by obtain ⟨a1, a2, a3⟩ := a; obtain ⟨b1, b2, b3⟩ := b; simp only at h; obtain ⟨rfl, rfl, rfl⟩ := h; rfl) else .isFalse (fun e => h (by subst e; exact ⟨rfl, rfl, rfl⟩))
def FF : List Int := [82, 83, 84, 1, 2, 0, 3, 0, 5, 1, 0, 7, 0, 5, 1, 1, 97, 255, 255, 255, 255, 0, 0, 0, 4]
def RG : S46 := ⟨{ data := #[97] }, -1, 4⟩
def SU : S40 := ⟨7, 5, [RG]⟩
def EV : S50 := ⟨{ data := #[97] }, ⟨1, 4, { data := #[] }⟩⟩
theorem sf1 : rightB [3, 5] [SU] = true := by decide +kernel
theorem sf2 : encL [3, 5] [SU] = FF := by decide +kernel
theorem sf3 : dec15 FF = (([3, 5], [SU]), 0) := by decide +kernel
theorem sf4 : dec15 [82, 83, 84, 2] = (([], []), 11) := by decide +kernel
theorem sf5 : dec15 (FF ++ [0]) = (([], []), 5) := by decide +kernel
theorem sf6 : dec15 [82, 83, 84, 1, 17] = (([], []), 4) := by decide +kernel
theorem sf7 : rosetteref15_Same.f 20 [3, 5] [SU] [3, 5] [SU] = some true := by decide +kernel
theorem sf8 : nextL [EV] [3, 5] [SU] 3 = [5] := by decide +kernel
theorem sf9 : nextL [] [3, 5] [SU] 3 = [] := by decide +kernel
theorem sf10 : rosetteref11_Ints.f 20 [5] [5] = some true := by decide +kernel
theorem sf11 : meetsB [] [] = true := by decide +kernel
theorem uFF : u8s FF := by unfold u8s FF; decide
theorem uF0 : u8s (FF ++ [0]) := by unfold u8s FF; decide
theorem lenc15 (F : List Int) (hF : F = FF) (A0 : Option Addr) (c0 : Nat) (A1 : Option Addr) (c1 : Nat) (w : World) (h0 : Kd.C (Kd.int .i64) w A0 2 [3, 5]) (hc0 : 2 ≤ c0) (h1 : Kd.C k40 w A1 1 [SU]) :
    Calls Try.prog 10 #[.agg #[.slice A0 2 c0, .slice A1 1 c1]] w fun e w' => ∃ v, e = .returned (.tuple #[v, .bool true]) ∧ Row8 w' w.heap.size v F ∧ Below w.heap.size w w' := by
  have h := wencode15 [3, 5] A0 c0 [SU] A1 c1 w h0 hc0 h1 (by decide)
  rw [sf1, if_pos rfl, sf2, ← hF] at h
  exact h
theorem ldec15 {l : List Int} {n : Nat} (hn : l.length = n) {ls : List Int} {ss : List S40} {E : Int} {n1 n2 : Nat} (hq : dec15 l = ((ls, ss), E)) (h1 : ls.length = n1) (h2 : ss.length = n2) (A0 : Option Addr) (c0 : Nat) (w : World) (hr0 : (Kd.int .u8).C w A0 l.length l) (hc0 : n ≤ c0) (hc1 : c0 ≤ 9223372036854775807) (hu : u8s l) (hl : n ≤ 100000) :
    Calls Try.prog 12 #[.slice A0 n c0] w fun e w' => ∃ A1 c1 A2 c2, e = .returned (.tuple #[.agg #[.slice A1 n1 c1, .slice A2 n2 c2], .int .i64 E]) ∧ Kd.C (Kd.int .i64) w' A1 n1 ls ∧ n1 ≤ c1 ∧ Kd.C k40 w' A2 n2 ss ∧ n2 ≤ c2 ∧ Below w.heap.size w w' := by
  subst hn h1 h2
  have h := wdecode15 A0 c0 l w hr0 hc0 hc1 hu hl
  rw [hq] at h
  exact h
theorem conv_b15s (W : World) (C : Array Value) (n c : Nat) : (convert 26 26 (.slice (some ⟨W.heap.size, 0, none⟩) n c)).run Try.prog (W.alloc (.cells C 5)) = .ok (.slice (some ⟨W.heap.size, 0, none⟩) n c) (W.alloc (.cells C 5 (C.size, C.size + 1))) := Lib.run_convert_bytes_const W 26 5 C n c Try.underlying26 Try.underlying5
theorem own_empty15 (W : World) : (W.alloc (.cells #[] 5)).ownsRow W.heap.size 5 1 (.slice (some ⟨W.heap.size, 0, none⟩) 0 0) ([] : List Int).length (nums .u8 []) :=
  ⟨by simp [nums], .inr ⟨W.heap.size, 0, #[], rfl, Nat.le_refl _, heap_alloc_new W _, by simp, by simp [maxLen], by simp, by simp [nums]⟩⟩
theorem one_attr {W : World} {b : Nat} (x : S50) (h : W.heap[b]? = some (.cells #[.string x.f0, .int .i64 x.f1.f0, .int .i64 x.f1.f1, .string x.f1.f2] 50 (0, 0))) : Kd.C k50 W (some ⟨b, 0, none⟩) 1 [x] := by
  refine ⟨rfl, by decide, fun _ => ⟨_, rfl, fun j p hj => ?_⟩⟩
  have hj0 : j = 0 := by have := (List.getElem?_eq_some_iff.1 hj).1; simp at this; exact this
  subst hj0
  simp only [List.getElem?_cons_zero, Option.some.injEq] at hj
  subst hj
  refine ⟨[.string x.f0, .int .i64 x.f1.f0, .int .i64 x.f1.f1, .string x.f1.f2], rfl, k50_mk W x, fun i u hu => ?_⟩
  rw [Nat.zero_mul, Nat.zero_add, add_plain, cell_of_row _ _ _ _ _ _ h]
  simpa using hu
theorem one_range {W : World} {b : Nat} (x : S46) (h : W.heap[b]? = some (.cells #[.string x.f0, .int .i64 x.f1, .int .i64 x.f2] 46 (0, 0))) : Kd.C k46 W (some ⟨b, 0, none⟩) 1 [x] := by
  refine ⟨rfl, by decide, fun _ => ⟨_, rfl, fun j p hj => ?_⟩⟩
  have hj0 : j = 0 := by have := (List.getElem?_eq_some_iff.1 hj).1; simp at this; exact this
  subst hj0
  simp only [List.getElem?_cons_zero, Option.some.injEq] at hj
  subst hj
  refine ⟨[.string x.f0, .int .i64 x.f1, .int .i64 x.f2], rfl, k46_mk W x, fun i u hu => ?_⟩
  rw [Nat.zero_mul, Nat.zero_add, add_plain, cell_of_row _ _ _ _ _ _ h]
  simpa using hu
theorem one_sub {W : World} {b : Nat} (x : S40) (A : Option Addr) (c : Nat) (h : W.heap[b]? = some (.cells #[.int .i64 x.f0, .int .i64 x.f1, .slice A x.f2.length c] 40 (0, 0))) (hc : x.f2.length ≤ c) (hC : Kd.C k46 W A x.f2.length x.f2) : Kd.C k40 W (some ⟨b, 0, none⟩) 1 [x] := by
  refine ⟨rfl, by decide, fun _ => ⟨_, rfl, fun j p hj => ?_⟩⟩
  have hj0 : j = 0 := by have := (List.getElem?_eq_some_iff.1 hj).1; simp at this; exact this
  subst hj0
  simp only [List.getElem?_cons_zero, Option.some.injEq] at hj
  subst hj
  refine ⟨[.int .i64 x.f0, .int .i64 x.f1, .slice A x.f2.length c], rfl, k40_mk W x hc hC, fun i u hu => ?_⟩
  rw [Nat.zero_mul, Nat.zero_add, add_plain, cell_of_row _ _ _ _ _ _ h]
  simpa using hu
set_option maxRecDepth 100000 in
set_option maxHeartbeats 8000000 in
theorem small_any (w : World) : Calls Try.prog 8 #[] w fun e w' => e = .returned (.bool true) ∧ Below w.heap.size w w' := by
  have hcv := conv_b15s
  obtain ⟨F, hF⟩ : ∃ F, F = FF := ⟨_, rfl⟩
  have hFl : F.length = 25 := by rw [hF]; rfl
  have EF := Aside0.mk hF
  have LF := Aside0.mk hFl
  clear hF hFl
  have hC1 := Kd.C_alloc (Kd.C_alloc (Kd.C_alloc (lit_C w 3 .i64 [3, 5] (by decide)) (.cells #[.string { data := #[97] }, .int .i64 (-1), .int .i64 4] 46 (0, 0))) (.cells #[.int .i64 7, .int .i64 5, .slice (some ⟨w.heap.size + 1, 0, none⟩) 1 1] 40 (0, 0))) (.cells #[.slice (some ⟨w.heap.size, 0, none⟩) 2 2, .slice (some ⟨w.heap.size + 1 + 1, 0, none⟩) 1 1] 25 (0, 0))
  have hn1 := heap_alloc_new (w.alloc (.cells #[.int .i64 3, .int .i64 5] 3 (0, 0))) (.cells #[.string { data := #[97] }, .int .i64 (-1), .int .i64 4] 46 (0, 0))
  rw [World.size_alloc] at hn1
  have hr := Kd.C_alloc (one_range RG hn1) (.cells #[.int .i64 7, .int .i64 5, .slice (some ⟨w.heap.size + 1, 0, none⟩) 1 1] 40 (0, 0))
  have hn2 := heap_alloc_new ((w.alloc (.cells #[.int .i64 3, .int .i64 5] 3 (0, 0))).alloc (.cells #[.string { data := #[97] }, .int .i64 (-1), .int .i64 4] 46 (0, 0))) (.cells #[.int .i64 7, .int .i64 5, .slice (some ⟨w.heap.size + 1, 0, none⟩) 1 1] 40 (0, 0))
  rw [World.size_alloc, World.size_alloc] at hn2
  have hd := Kd.C_alloc (one_sub SU _ 1 hn2 (Nat.le_refl _) hr) (.cells #[.slice (some ⟨w.heap.size, 0, none⟩) 2 2, .slice (some ⟨w.heap.size + 1 + 1, 0, none⟩) 1 1] 25 (0, 0))
  have hP := heap_alloc_new (((w.alloc (.cells #[.int .i64 3, .int .i64 5] 3 (0, 0))).alloc (.cells #[.string { data := #[97] }, .int .i64 (-1), .int .i64 4] 46 (0, 0))).alloc (.cells #[.int .i64 7, .int .i64 5, .slice (some ⟨w.heap.size + 1, 0, none⟩) 1 1] 40 (0, 0))) (.cells #[.slice (some ⟨w.heap.size, 0, none⟩) 2 2, .slice (some ⟨w.heap.size + 1 + 1, 0, none⟩) 1 1] 25 (0, 0))
  rw [World.size_alloc, World.size_alloc, World.size_alloc] at hP
  have HB1 := Aside0.mk ((((Below.refl w.heap.size w).alloc (Nat.le_refl _) (.cells #[.int .i64 3, .int .i64 5] 3 (0, 0))).alloc (by simp) (.cells #[.string { data := #[97] }, .int .i64 (-1), .int .i64 4] 46 (0, 0))).alloc (by simp <;> omega) (.cells #[.int .i64 7, .int .i64 5, .slice (some ⟨w.heap.size + 1, 0, none⟩) 1 1] 40 (0, 0)) |>.alloc (by simp <;> omega) (.cells #[.slice (some ⟨w.heap.size, 0, none⟩) 2 2, .slice (some ⟨w.heap.size + 1 + 1, 0, none⟩) 1 1] 25 (0, 0)))
  have HC1 := Aside0.mk hC1
  have HD1 := Aside0.mk hd
  have KP1 := Aside0.mk hP
  clear hC1 hn1 hr hn2 hd hP
  go_enter Try.func8, Try.ntmps8
  go_upto_region 2 with fail
  change Aside0 (Kd.C (Kd.int .i64) ((((w.alloc (.cells #[.int .i64 3, .int .i64 5] 3 (0, 0))).alloc (.cells #[.string { data := #[97] }, .int .i64 (-1), .int .i64 4] 46 (0, 0))).alloc (.cells #[.int .i64 7, .int .i64 5, .slice (some ⟨w.heap.size + 1, 0, none⟩) 1 1] 40 (0, 0))).alloc (.cells #[.slice (some ⟨w.heap.size, 0, none⟩) 2 2, .slice (some ⟨w.heap.size + 1 + 1, 0, none⟩) 1 1] 25 (0, 0))) (some ⟨w.heap.size, 0, none⟩) 2 [3, 5]) at HC1
  generalize (((w.alloc (.cells #[.int .i64 3, .int .i64 5] 3 (0, 0))).alloc (.cells #[.string { data := #[97] }, .int .i64 (-1), .int .i64 4] 46 (0, 0))).alloc (.cells #[.int .i64 7, .int .i64 5, .slice (some ⟨w.heap.size + 1, 0, none⟩) 1 1] 40 (0, 0))).alloc (.cells #[.slice (some ⟨w.heap.size, 0, none⟩) 2 2, .slice (some ⟨w.heap.size + 1 + 1, 0, none⟩) 1 1] 25 (0, 0)) = w1 at HC1 HD1 KP1 HB1 ⊢
  obtain ⟨⟨p0, p1⟩, p2, p3⟩ := cells2r KP1.out
  go_wp2_with fail
  refine (lenc15 F EF.out (some ⟨w.heap.size, 0, none⟩) 2 (some ⟨w.heap.size + 1 + 1, 0, none⟩) 1 w1 HC1.out (Nat.le_refl _) HD1.out).mono ?_
  rintro e w2 ⟨v1, rfl, hR, hX⟩
  obtain ⟨Aa, na, rfl, hna, hnb, _, hAC⟩ := held_own hR
  clear p0 p1 p2 p3
  have KP2 := Aside0.mk (vkeepB KP1.out hX)
  have HC2 := Aside0.mk (Kd.C_below HC1.out hX)
  have HD2 := Aside0.mk (Kd.C_below HD1.out hX)
  have HB2 := Aside0.mk (HB1.out.trans ((hX).mono HB1.out.size))
  clear KP1 HC1 HD1 HB1
  have HA2 := Aside0.mk hAC
  clear hR hX hAC
  go_upto_region 3 with fail
  go_wp2_with fail
  refine (ldec15 (l := F) (ls := [3, 5]) (ss := [SU]) (E := 0) (n1 := 2) (n2 := 1) rfl (by rw [EF.out]; exact sf3) rfl rfl Aa na w2 HA2.out hna hnb (by rw [EF.out]; exact uFF) (by have := LF.out; omega)).mono ?_
  rintro e w3 ⟨A1, c1, A2, c2, rfl, hq1, hq2, hq3, hq4, hX⟩
  have q1 := Aside0.mk hq1
  have q3 := Aside0.mk hq3
  clear hq1 hq3
  change Aside0 (Kd.C (Kd.int .i64) w3 A1 2 [3, 5]) at q1
  change Aside0 (Kd.C k40 w3 A2 1 [SU]) at q3
  change 2 ≤ c1 at hq2
  change 1 ≤ c2 at hq4
  have KP3 := Aside0.mk (vkeepB KP2.out hX)
  have HC3 := Aside0.mk (Kd.C_below HC2.out hX)
  have HD3 := Aside0.mk (Kd.C_below HD2.out hX)
  have HB3 := Aside0.mk (HB2.out.trans ((hX).mono HB2.out.size))
  have HA3 := Aside0.mk (Kd.C_below HA2.out hX)
  clear KP2 HC2 HD2 HB2 HA2
  have HG3 := q1
  have HH3 := q3
  clear hX q1 q3
  have hb := (Below.refl w3.heap.size w3).alloc (Nat.le_refl _) (.cells #[.slice A1 2 c1, .slice A2 1 c2] 25 (0, 0))
  have hN := heap_alloc_new w3 (.cells #[.slice A1 2 c1, .slice A2 1 c2] 25 (0, 0))
  go_upto_region 4 with fail
  have KP4 := Aside0.mk (vkeepB KP3.out hb)
  have HC4 := Aside0.mk (Kd.C_below HC3.out hb)
  have HD4 := Aside0.mk (Kd.C_below HD3.out hb)
  have HB4 := Aside0.mk (HB3.out.trans ((hb).mono HB3.out.size))
  have HA4 := Aside0.mk (Kd.C_below HA3.out hb)
  have HG4 := Aside0.mk (Kd.C_below HG3.out hb)
  have HH4 := Aside0.mk (Kd.C_below HH3.out hb)
  clear KP3 HC3 HD3 HB3 HA3 HG3 HH3
  have KQ4 := Aside0.mk hN
  clear hb hN
  generalize w3.alloc (.cells #[.slice A1 2 c1, .slice A2 1 c2] 25 (0, 0)) = w4 at KP4 HC4 HD4 HB4 HA4 HG4 HH4 KQ4 ⊢
  generalize w3.heap.size = bKQ at KQ4 ⊢
  go_wp2_with fail
  refine (ldec15 (l := [82, 83, 84, 2]) (n := 4) rfl sf4 rfl rfl (some ⟨w4.heap.size, 0, none⟩) 4 _ (lit_C w4 5 .u8 [82, 83, 84, 2] (by decide) _) (Nat.le_refl _) (by decide) (by unfold u8s; decide) (by decide)).mono ?_
  rintro e w5 ⟨A3, c3, A4, c4, rfl, _, _, _, _, hX0⟩
  have hX : Below w4.heap.size w4 w5 := ((Below.refl _ _).alloc (Nat.le_refl _) _).trans (hX0.mono (by simp))
  have KP5 := Aside0.mk (vkeepB KP4.out hX)
  have HC5 := Aside0.mk (Kd.C_below HC4.out hX)
  have HD5 := Aside0.mk (Kd.C_below HD4.out hX)
  have HB5 := Aside0.mk (HB4.out.trans ((hX).mono HB4.out.size))
  have HA5 := Aside0.mk (Kd.C_below HA4.out hX)
  have HG5 := Aside0.mk (Kd.C_below HG4.out hX)
  have HH5 := Aside0.mk (Kd.C_below HH4.out hX)
  have KQ5 := Aside0.mk (vkeepB KQ4.out hX)
  clear KP4 HC4 HD4 HB4 HA4 HG4 HH4 KQ4
  clear hX hX0
  have hb := (Below.refl w5.heap.size w5).alloc (Nat.le_refl _) (.cells #[.slice A3 0 c3, .slice A4 0 c4] 25 (0, 0))
  have hN := heap_alloc_new w5 (.cells #[.slice A3 0 c3, .slice A4 0 c4] 25 (0, 0))
  go_upto_region 5 with fail
  have KP6 := Aside0.mk (vkeepB KP5.out hb)
  have HC6 := Aside0.mk (Kd.C_below HC5.out hb)
  have HD6 := Aside0.mk (Kd.C_below HD5.out hb)
  have HB6 := Aside0.mk (HB5.out.trans ((hb).mono HB5.out.size))
  have HA6 := Aside0.mk (Kd.C_below HA5.out hb)
  have HG6 := Aside0.mk (Kd.C_below HG5.out hb)
  have HH6 := Aside0.mk (Kd.C_below HH5.out hb)
  have KQ6 := Aside0.mk (vkeepB KQ5.out hb)
  clear KP5 HC5 HD5 HB5 HA5 HG5 HH5 KQ5
  clear hb hN
  generalize w5.alloc (.cells #[.slice A3 0 c3, .slice A4 0 c4] 25 (0, 0)) = w6 at KP6 HC6 HD6 HB6 HA6 HG6 HH6 KQ6 ⊢
  have b6 := Aside0.mk ((Below.refl w6.heap.size w6).alloc (Nat.le_refl _) (.cells #[] 5))
  go_wp2_with (first
    | (at_builtin; refine print_append_row (w0 := w6) w6.heap.size rfl (.tmp 36) (.tmp 37) 26 5 .u8 1 rfl Try.underlying26 info5 (by decide) (.slice (some ⟨w6.heap.size, 0, none⟩) 0 0) [] F Aa F.length na rfl rfl (own_empty15 w6) (Kd.reads_of_C (d := (0 : Int)) (Kd.C_below HA6.out b6.out)) b6.out (by simp) (by have := LF.out; simp; omega) ?_; intro va wa hoa hBa _ _; obtain ⟨A3, n3, rfl, hn3, _, _, hC3⟩ := held_own (kd_R hoa); rw [List.nil_append] at hoa)
    | (at_builtin; refine print_append_num (w0 := w6) w6.heap.size rfl (.tmp 38) (.tmp 39) 26 5 .u8 1 rfl Try.underlying26 info5 (by decide) (.slice A3 F.length n3) F 0 rfl rfl hoa hBa (by have := hBa.size; omega) (by have := LF.out; omega) ?_; intro vb w7 hob hX _ _; obtain ⟨A4, n4, rfl, hn4, hm4, hH4, hC4⟩ := held_own (kd_R hob)))
  have KP7 := Aside0.mk (vkeepB KP6.out hX)
  have HC7 := Aside0.mk (Kd.C_below HC6.out hX)
  have HD7 := Aside0.mk (Kd.C_below HD6.out hX)
  have HB7 := Aside0.mk (HB6.out.trans ((hX).mono HB6.out.size))
  have HA7 := Aside0.mk (Kd.C_below HA6.out hX)
  have HG7 := Aside0.mk (Kd.C_below HG6.out hX)
  have HH7 := Aside0.mk (Kd.C_below HH6.out hX)
  have KQ7 := Aside0.mk (vkeepB KQ6.out hX)
  clear KP6 HC6 HD6 HB6 HA6 HG6 HH6 KQ6
  have hC4' := hC4
  clear hX hoa hBa hob hC4 b6
  refine (ldec15 (l := F ++ [0]) (n := F.length + 1) (ls := []) (ss := []) (E := 5) (n1 := 0) (n2 := 0) (by simp) (by rw [EF.out]; exact sf5) rfl rfl A4 n4 w7 hC4' (by simpa using hn4) hm4 (by rw [EF.out]; exact uF0) (by have := LF.out; omega)).mono ?_
  rintro e w8 ⟨A5, c5, A6, c6, rfl, _, _, _, _, hX⟩
  have KP8 := Aside0.mk (vkeepB KP7.out hX)
  have HC8 := Aside0.mk (Kd.C_below HC7.out hX)
  have HD8 := Aside0.mk (Kd.C_below HD7.out hX)
  have HB8 := Aside0.mk (HB7.out.trans ((hX).mono HB7.out.size))
  have HA8 := Aside0.mk (Kd.C_below HA7.out hX)
  have HG8 := Aside0.mk (Kd.C_below HG7.out hX)
  have HH8 := Aside0.mk (Kd.C_below HH7.out hX)
  have KQ8 := Aside0.mk (vkeepB KQ7.out hX)
  clear KP7 HC7 HD7 HB7 HA7 HG7 HH7 KQ7
  clear hX hH4 hC4'
  have hb := (Below.refl w8.heap.size w8).alloc (Nat.le_refl _) (.cells #[.slice A5 0 c5, .slice A6 0 c6] 25 (0, 0))
  have hN := heap_alloc_new w8 (.cells #[.slice A5 0 c5, .slice A6 0 c6] 25 (0, 0))
  go_upto_region 6 with fail
  have KP9 := Aside0.mk (vkeepB KP8.out hb)
  have HC9 := Aside0.mk (Kd.C_below HC8.out hb)
  have HD9 := Aside0.mk (Kd.C_below HD8.out hb)
  have HB9 := Aside0.mk (HB8.out.trans ((hb).mono HB8.out.size))
  have HA9 := Aside0.mk (Kd.C_below HA8.out hb)
  have HG9 := Aside0.mk (Kd.C_below HG8.out hb)
  have HH9 := Aside0.mk (Kd.C_below HH8.out hb)
  have KQ9 := Aside0.mk (vkeepB KQ8.out hb)
  clear KP8 HC8 HD8 HB8 HA8 HG8 HH8 KQ8
  clear hb hN
  generalize w8.alloc (.cells #[.slice A5 0 c5, .slice A6 0 c6] 25 (0, 0)) = w9 at KP9 HC9 HD9 HB9 HA9 HG9 HH9 KQ9 ⊢
  go_wp2_with fail
  refine (ldec15 (l := [82, 83, 84, 1, 17]) (n := 5) rfl sf6 rfl rfl (some ⟨w9.heap.size, 0, none⟩) 5 _ (lit_C w9 5 .u8 [82, 83, 84, 1, 17] (by decide) _) (Nat.le_refl _) (by decide) (by unfold u8s; decide) (by decide)).mono ?_
  rintro e w10 ⟨A3, c3, A4, c4, rfl, _, _, _, _, hX0⟩
  have hX : Below w9.heap.size w9 w10 := ((Below.refl _ _).alloc (Nat.le_refl _) _).trans (hX0.mono (by simp))
  have KP10 := Aside0.mk (vkeepB KP9.out hX)
  have HC10 := Aside0.mk (Kd.C_below HC9.out hX)
  have HD10 := Aside0.mk (Kd.C_below HD9.out hX)
  have HB10 := Aside0.mk (HB9.out.trans ((hX).mono HB9.out.size))
  have HA10 := Aside0.mk (Kd.C_below HA9.out hX)
  have HG10 := Aside0.mk (Kd.C_below HG9.out hX)
  have HH10 := Aside0.mk (Kd.C_below HH9.out hX)
  have KQ10 := Aside0.mk (vkeepB KQ9.out hX)
  clear KP9 HC9 HD9 HB9 HA9 HG9 HH9 KQ9
  clear hX hX0
  have hb := (Below.refl w10.heap.size w10).alloc (Nat.le_refl _) (.cells #[.slice A3 0 c3, .slice A4 0 c4] 25 (0, 0))
  have hN := heap_alloc_new w10 (.cells #[.slice A3 0 c3, .slice A4 0 c4] 25 (0, 0))
  go_upto_region 7 with fail
  have KP11 := Aside0.mk (vkeepB KP10.out hb)
  have HC11 := Aside0.mk (Kd.C_below HC10.out hb)
  have HD11 := Aside0.mk (Kd.C_below HD10.out hb)
  have HB11 := Aside0.mk (HB10.out.trans ((hb).mono HB10.out.size))
  have HA11 := Aside0.mk (Kd.C_below HA10.out hb)
  have HG11 := Aside0.mk (Kd.C_below HG10.out hb)
  have HH11 := Aside0.mk (Kd.C_below HH10.out hb)
  have KQ11 := Aside0.mk (vkeepB KQ10.out hb)
  clear KP10 HC10 HD10 HB10 HA10 HG10 HH10 KQ10
  clear hb hN
  generalize w10.alloc (.cells #[.slice A3 0 c3, .slice A4 0 c4] 25 (0, 0)) = w11 at KP11 HC11 HD11 HB11 HA11 HG11 HH11 KQ11 ⊢
  have hb := (Below.refl w11.heap.size w11).alloc (Nat.le_refl _) (.cells #[.string { data := #[97] }, .int .i64 1, .int .i64 4, .string { data := #[] }] 50 (0, 0))
  have hN := one_attr EV (heap_alloc_new w11 (.cells #[.string { data := #[97] }, .int .i64 1, .int .i64 4, .string { data := #[] }] 50 (0, 0)))
  go_upto_region 8 with fail
  have KP12 := Aside0.mk (vkeepB KP11.out hb)
  have HC12 := Aside0.mk (Kd.C_below HC11.out hb)
  have HD12 := Aside0.mk (Kd.C_below HD11.out hb)
  have HB12 := Aside0.mk (HB11.out.trans ((hb).mono HB11.out.size))
  have HA12 := Aside0.mk (Kd.C_below HA11.out hb)
  have HG12 := Aside0.mk (Kd.C_below HG11.out hb)
  have HH12 := Aside0.mk (Kd.C_below HH11.out hb)
  have KQ12 := Aside0.mk (vkeepB KQ11.out hb)
  clear KP11 HC11 HD11 HB11 HA11 HG11 HH11 KQ11
  have HE12 := Aside0.mk hN
  clear hb hN
  generalize w11.alloc (.cells #[.string { data := #[97] }, .int .i64 1, .int .i64 4, .string { data := #[] }] 50 (0, 0)) = w12 at KP12 HC12 HD12 HB12 HA12 HG12 HH12 KQ12 HE12 ⊢
  generalize w11.heap.size = gE at HE12 ⊢
  have hs1 : (convert 26 9 (.slice Aa F.length na)).run Try.prog w12 = .ok (.string (strOfNums F)) w12 := Kd.C_string (P := Try.prog) (A := Aa) (c := na) Try.underlying26 Try.underlying5 Try.underlying9 HA12.out
  have hs2 : ((strOfNums F).toList == [82, 83, 84, 1, 2, 0, 3, 0, 5, 1, 0, 7, 0, 5, 1, 1, 97, 255, 255, 255, 255, 0, 0, 0, 4]) = true := by rw [EF.out, str_is uFF]; decide +kernel
  obtain ⟨⟨p0, p1⟩, p2, p3⟩ := cells2r KP12.out
  obtain ⟨⟨q0, q1⟩, q2, q3⟩ := cells2r KQ12.out
  go_wp2_with fail
  refine (rosetteref15_Same.calls 20 (some ⟨w.heap.size, 0, none⟩) 2 [3, 5] (some ⟨w.heap.size + 1 + 1, 0, none⟩) 1 [SU] A1 c1 [3, 5] A2 c2 [SU] true w12 HC12.out (Nat.le_refl _) HD12.out (Nat.le_refl _) HG12.out hq2 HH12.out hq4 sf7).mono ?_
  rintro e w13 ⟨rfl, hX⟩
  clear hs1 hs2
  have KP13 := Aside0.mk (vkeepB KP12.out hX)
  have HC13 := Aside0.mk (Kd.C_below HC12.out hX)
  have HD13 := Aside0.mk (Kd.C_below HD12.out hX)
  have HB13 := Aside0.mk (HB12.out.trans ((hX).mono HB12.out.size))
  have HA13 := Aside0.mk (Kd.C_below HA12.out hX)
  have HG13 := Aside0.mk (Kd.C_below HG12.out hX)
  have HH13 := Aside0.mk (Kd.C_below HH12.out hX)
  have KQ13 := Aside0.mk (vkeepB KQ12.out hX)
  have HE13 := Aside0.mk (Kd.C_below HE12.out hX)
  clear KP12 HC12 HD12 HB12 HA12 HG12 HH12 KQ12 HE12
  clear p0 p1 p2 p3 q0 q1 q2 q3
  clear hX
  obtain ⟨⟨p0, p1⟩, p2, p3⟩ := cells2r KP13.out
  go_wp2_with fail
  refine (wnext [3, 5] (some ⟨w.heap.size, 0, none⟩) 2 [SU] (some ⟨w.heap.size + 1 + 1, 0, none⟩) 1 [EV] (some ⟨gE, 0, none⟩) 1 3 w13 HC13.out HD13.out HE13.out (Nat.le_refl _) (by decide)).mono ?_
  rintro e w14 ⟨v7, rfl, hR, hX⟩
  rw [sf8] at hR
  obtain ⟨A7, c7, rfl, hl7, hC7⟩ := own_C hR
  change 1 ≤ c7 at hl7
  have HV := Aside0.mk hC7
  clear hC7 hR
  have KP14 := Aside0.mk (vkeepB KP13.out hX)
  have HC14 := Aside0.mk (Kd.C_below HC13.out hX)
  have HD14 := Aside0.mk (Kd.C_below HD13.out hX)
  have HB14 := Aside0.mk (HB13.out.trans ((hX).mono HB13.out.size))
  have HA14 := Aside0.mk (Kd.C_below HA13.out hX)
  have HG14 := Aside0.mk (Kd.C_below HG13.out hX)
  have HH14 := Aside0.mk (Kd.C_below HH13.out hX)
  have KQ14 := Aside0.mk (vkeepB KQ13.out hX)
  have HE14 := Aside0.mk (Kd.C_below HE13.out hX)
  clear KP13 HC13 HD13 HB13 HA13 HG13 HH13 KQ13 HE13
  clear p0 p1 p2 p3
  clear hX
  obtain ⟨⟨p0, p1⟩, p2, p3⟩ := cells2r KP14.out
  go_wp2_with fail
  refine (rosetteref11_Ints.calls 20 A7 c7 [5] (some ⟨w14.heap.size, 0, none⟩) 1 [5] true _ (Kd.C_alloc HV.out _) hl7 (lit_C w14 3 .i64 [5] (by decide)) (Nat.le_refl _) sf10).mono ?_
  rintro e w15 ⟨rfl, ⟨nd, rfl⟩⟩
  obtain ⟨w15, hw⟩ : ∃ q, q = (w14.alloc (.cells (nums .i64 [5]).toArray 3 (0, 0))).drewN nd := ⟨_, rfl⟩
  have hX : Below w14.heap.size w14 w15 := by rw [hw]; exact pw_below_drewN ((Below.refl _ _).alloc (Nat.le_refl _) _) nd
  rw [← hw]
  clear hw HV
  have KP15 := Aside0.mk (vkeepB KP14.out hX)
  have HC15 := Aside0.mk (Kd.C_below HC14.out hX)
  have HD15 := Aside0.mk (Kd.C_below HD14.out hX)
  have HB15 := Aside0.mk (HB14.out.trans ((hX).mono HB14.out.size))
  have HA15 := Aside0.mk (Kd.C_below HA14.out hX)
  have HG15 := Aside0.mk (Kd.C_below HG14.out hX)
  have HH15 := Aside0.mk (Kd.C_below HH14.out hX)
  have KQ15 := Aside0.mk (vkeepB KQ14.out hX)
  have HE15 := Aside0.mk (Kd.C_below HE14.out hX)
  clear KP14 HC14 HD14 HB14 HA14 HG14 HH14 KQ14 HE14
  clear p0 p1 p2 p3
  clear hX
  obtain ⟨⟨p0, p1⟩, p2, p3⟩ := cells2r KP15.out
  go_wp2_with fail
  refine (wnext [3, 5] (some ⟨w.heap.size, 0, none⟩) 2 [SU] (some ⟨w.heap.size + 1 + 1, 0, none⟩) 1 [] none 0 3 w15 HC15.out HD15.out (Kd.C_nil _ _) (Nat.le_refl _) (by decide)).mono ?_
  rintro e w16 ⟨v8, rfl, hR, hX⟩
  rw [sf9] at hR
  obtain ⟨A8, c8, rfl, hl8, _⟩ := own_C hR
  clear hR
  have KP16 := Aside0.mk (vkeepB KP15.out hX)
  have HC16 := Aside0.mk (Kd.C_below HC15.out hX)
  have HD16 := Aside0.mk (Kd.C_below HD15.out hX)
  have HB16 := Aside0.mk (HB15.out.trans ((hX).mono HB15.out.size))
  have HA16 := Aside0.mk (Kd.C_below HA15.out hX)
  have HG16 := Aside0.mk (Kd.C_below HG15.out hX)
  have HH16 := Aside0.mk (Kd.C_below HH15.out hX)
  have KQ16 := Aside0.mk (vkeepB KQ15.out hX)
  have HE16 := Aside0.mk (Kd.C_below HE15.out hX)
  clear KP15 HC15 HD15 HB15 HA15 HG15 HH15 KQ15 HE15
  clear p0 p1 p2 p3
  clear hX
  obtain ⟨⟨p0, p1⟩, p2, p3⟩ := cells2r KP16.out
  go_wp2_with fail
  refine (wright [3, 5] (some ⟨w.heap.size, 0, none⟩) 2 [SU] (some ⟨w.heap.size + 1 + 1, 0, none⟩) 1 w16 HC16.out (Nat.le_refl _) HD16.out (by decide)).mono ?_
  rintro e w17 ⟨rfl, hX⟩
  rw [sf1]
  have KP17 := Aside0.mk (vkeepB KP16.out hX)
  have HC17 := Aside0.mk (Kd.C_below HC16.out hX)
  have HD17 := Aside0.mk (Kd.C_below HD16.out hX)
  have HB17 := Aside0.mk (HB16.out.trans ((hX).mono HB16.out.size))
  have HA17 := Aside0.mk (Kd.C_below HA16.out hX)
  have HG17 := Aside0.mk (Kd.C_below HG16.out hX)
  have HH17 := Aside0.mk (Kd.C_below HH16.out hX)
  have KQ17 := Aside0.mk (vkeepB KQ16.out hX)
  have HE17 := Aside0.mk (Kd.C_below HE16.out hX)
  clear KP16 HC16 HD16 HB16 HA16 HG16 HH16 KQ16 HE16
  clear p0 p1 p2 p3
  clear hX
  obtain ⟨⟨p0, p1⟩, p2, p3⟩ := cells2r KP17.out
  go_wp2_with fail
  refine (wmeets [] none 0 [] none 0 w17 (Kd.C_nil _ _) (Kd.C_nil _ _) (Nat.le_refl _)).mono ?_
  rintro e w18 ⟨rfl, hX⟩
  rw [sf11]
  have KP18 := Aside0.mk (vkeepB KP17.out hX)
  have HC18 := Aside0.mk (Kd.C_below HC17.out hX)
  have HD18 := Aside0.mk (Kd.C_below HD17.out hX)
  have HB18 := Aside0.mk (HB17.out.trans ((hX).mono HB17.out.size))
  have HA18 := Aside0.mk (Kd.C_below HA17.out hX)
  have HG18 := Aside0.mk (Kd.C_below HG17.out hX)
  have HH18 := Aside0.mk (Kd.C_below HH17.out hX)
  have KQ18 := Aside0.mk (vkeepB KQ17.out hX)
  have HE18 := Aside0.mk (Kd.C_below HE17.out hX)
  clear KP17 HC17 HD17 HB17 HA17 HG17 HH17 KQ17 HE17
  clear p0 p1 p2 p3
  go_wp2_with fail
  go_ret
  exact ⟨rfl, HB18.out⟩
end Go.Proofs.Ytkdhcmmfklganaa
end

section
/- rosetteref15.Head, walked -/
set_option linter.unusedVariables false
set_option linter.unusedSimpArgs false
set_option autoImplicit false
namespace Go.Proofs.Ytkdhcmmfklganaa
open Go.RowKit Go.Proofs.YtkdhcmmfklganaaW.PrintWords Go.Proofs.YtkdhcmmfklganaaW.PrintLast Go.Proofs.YtkdhcmmfklganaaW.PrintMore Go.Proofs.Ytkdhcmmfklganaa.G

def headE (l : List Int) : Int := if l.length < 4 then 2 else if l.take 3 ≠ [82, 83, 84] then 3 else if rd l 3 ≠ 1 then 11 else 0
set_option maxRecDepth 100000 in
set_option maxHeartbeats 2000000 in
theorem whead15 (A0 : Option Addr) (c0 : Nat) (l0 : List Int) (w : World) (hr0 : (Kd.int .u8).C w A0 l0.length l0) (hc0 : l0.length ≤ c0) (hu : u8s l0) :
    Calls Try.prog 29 #[.slice A0 l0.length c0, .int .u8 1] w fun e w' => e = .returned (.int .i64 (headE l0)) ∧ w' = w := by
  have HR0 := Aside0.mk hr0
  have HU := Aside0.mk hu
  have hh : headE l0 = if l0.length < 4 then 2 else if l0.take 3 ≠ [82, 83, 84] then 3 else if rd l0 3 ≠ 1 then 11 else 0 := rfl
  generalize headE l0 = q at hh ⊢
  have hlm := hr0.2.1
  clear hr0 hu
  by_cases h4 : l0.length < 4
  · rw [if_pos h4] at hh
    subst hh
    have h4' : (l0.length : Int) < 4 := by omega
    go_enter Try.func29, Try.ntmps29
    go_wp2_with fail
    go_ret
    exact ⟨rfl, rfl⟩
  rw [if_neg h4] at hh
  have h4' : ¬ (l0.length : Int) < 4 := by omega
  have hq3 : (convert 26 9 (.slice A0 3 c0)).run Try.prog w = .ok (.string (strOfNums (l0.take 3))) w := by
    have h := strqd (Kd.C_take HR0.out (show 3 ≤ l0.length by omega)) c0 0
    rwa [List.length_take, Nat.min_eq_left (by omega)] at h
  have h3c : 3 ≤ c0 := by omega
  have hs3 : ((strOfNums (l0.take 3)).toList == [82, 83, 84]) = decide (l0.take 3 = [82, 83, 84]) := str_is (u8s_take HU.out 3) [82, 83, 84]
  obtain ⟨ad, hA0, hcell⟩ := Kd.at_int HR0.out 3 (by omega) (by omega)
  subst hA0
  rw [show (3 : Int).toNat = 3 from rfl] at hcell
  change w.cell? ⟨ad.block, ad.off + 3, none⟩ = _ at hcell
  have hi3 : (3 : Int) < (l0.length : Int) := by omega
  have hi3n : 3 < l0.length := by omega
  by_cases t3 : l0.take 3 = [82, 83, 84]
  case neg =>
    rw [if_pos t3] at hh
    subst hh
    rw [decide_eq_false t3] at hs3
    go_enter Try.func29, Try.ntmps29
    go_wp2_with fail
    go_ret
    exact ⟨rfl, rfl⟩
  rw [if_neg (by simpa using t3)] at hh
  rw [decide_eq_true t3] at hs3
  clear t3
  generalize rd l0 3 = v at hcell hh
  by_cases h1 : v = 1
  · rw [if_neg (by simpa using h1)] at hh
    subst hh
    subst h1
    go_enter Try.func29, Try.ntmps29
    go_wp2_with fail
    go_ret
    exact ⟨rfl, rfl⟩
  · rw [if_pos h1] at hh
    subst hh
    go_enter Try.func29, Try.ntmps29
    go_wp2_with fail
    go_ret
    exact ⟨rfl, rfl⟩
end Go.Proofs.Ytkdhcmmfklganaa
end

section
-- Written by a program of this session (wip/tools/myprint.py), over the kit's print.
namespace Go.Proofs.Ytkdhcmmfklganaa.G
open Go.RowKit Go.Proofs.YtkdhcmmfklganaaW.PrintWords Go.Proofs.YtkdhcmmfklganaaW.PrintLast Go.Proofs.YtkdhcmmfklganaaW.PrintMore
attribute [local go_sem] max2_int min2_int max_two min_two max_three min_three max_four min_four   -- for this text's walks alone
set_option linter.unusedVariables false
set_option linter.unusedSimpArgs false

/-! ### rosettelaw15_Few: function 9 -/
mutual
def rosettelaw15_Few.l0 : Nat → Int → Int → List Int → List (S40) → Option (Bool)
  | 0, _, _, _, _ => none
  | k + 1, x3, x4, x144000, x144001 => if x4 < (x144001.length : Int) then (if 0 ≤ x4 then (rosettelaw15_Few.l1 k (wrap64 (x3 + (((rd_T40 x144001 x4).f2).length : Int))) x4 0 x144000 x144001) else (none)) else (some (decide (x3 ≤ 300)))
def rosettelaw15_Few.l1 : Nat → Int → Int → Int → List Int → List (S40) → Option (Bool)
  | 0, _, _, _, _, _ => none
  | k + 1, x3, x4, x5, x144000, x144001 => if 0 ≤ x4 then (if x4 < (x144001.length : Int) then (if x5 < (((rd_T40 x144001 x4).f2).length : Int) then (if 0 ≤ x5 then (if (((rd_T46 ((rd_T40 x144001 x4).f2) x5).f0).size : Int) > 100 then (some false) else (rosettelaw15_Few.l1 k x3 x4 (wrap64 (x5 + 1)) x144000 x144001)) else (none)) else (rosettelaw15_Few.l0 k x3 (wrap64 (x4 + 1)) x144000 x144001)) else (none)) else (none)
end
def rosettelaw15_Few.f (k : Nat) (l0_0 : List Int) (l0_1 : List (S40)) : Option (Bool) := rosettelaw15_Few.l0 k (wrap64 ((l0_0.length : Int) + (l0_1.length : Int))) 0 l0_0 l0_1
theorem rosettelaw15_Few.mono_l : ∀ k, (∀ y0 y1 y2 y3, LeO (rosettelaw15_Few.l0 k y0 y1 y2 y3) (rosettelaw15_Few.l0 (k + 1) y0 y1 y2 y3)) ∧ (∀ y0 y1 y2 y3 y4, LeO (rosettelaw15_Few.l1 k y0 y1 y2 y3 y4) (rosettelaw15_Few.l1 (k + 1) y0 y1 y2 y3 y4))
  | 0 => ⟨fun _ _ _ _ r h => by simp [rosettelaw15_Few.l0] at h, fun _ _ _ _ _ r h => by simp [rosettelaw15_Few.l1] at h⟩
  | k + 1 => by
    obtain ⟨ih0, ih1⟩ := rosettelaw15_Few.mono_l k
    refine ⟨?_, ?_⟩
    · intro y0 y1 y2 y3
      unfold rosettelaw15_Few.l0
      repeat' first
      | (with_reducible exact ih0 _ _ _ _)
      | (with_reducible exact ih1 _ _ _ _ _)
      | (with_reducible exact LeO.refl _)
      | (with_reducible exact LeO.none _)
      | (with_reducible refine LeO.ite ?_ ?_)
      | (with_reducible refine LeO.bind ?_ (fun _ => ?_))
      | exact ih0 _ _ _ _
      | exact ih1 _ _ _ _ _
      | exact LeO.none _
      | refine LeO.ite ?_ ?_
      | refine LeO.bind ?_ (fun _ => ?_)
    · intro y0 y1 y2 y3 y4
      unfold rosettelaw15_Few.l1
      repeat' first
      | (with_reducible exact ih0 _ _ _ _)
      | (with_reducible exact ih1 _ _ _ _ _)
      | (with_reducible exact LeO.refl _)
      | (with_reducible exact LeO.none _)
      | (with_reducible refine LeO.ite ?_ ?_)
      | (with_reducible refine LeO.bind ?_ (fun _ => ?_))
      | exact ih0 _ _ _ _
      | exact ih1 _ _ _ _ _
      | exact LeO.none _
      | refine LeO.ite ?_ ?_
      | refine LeO.bind ?_ (fun _ => ?_)
theorem rosettelaw15_Few.mono : ∀ a0 a1 k, LeO (rosettelaw15_Few.f k a0 a1) (rosettelaw15_Few.f (k + 1) a0 a1) := by
  intro a0 a1 k
  obtain ⟨ih0, ih1⟩ := rosettelaw15_Few.mono_l k
  unfold rosettelaw15_Few.f
  repeat' first
      | (with_reducible exact ih0 _ _ _ _)
      | (with_reducible exact ih1 _ _ _ _ _)
      | (with_reducible exact LeO.refl _)
      | (with_reducible exact LeO.none _)
      | (with_reducible refine LeO.ite ?_ ?_)
      | (with_reducible refine LeO.bind ?_ (fun _ => ?_))
      | exact ih0 _ _ _ _
      | exact ih1 _ _ _ _ _
      | exact LeO.none _
      | refine LeO.ite ?_ ?_
      | refine LeO.bind ?_ (fun _ => ?_)
set_option maxHeartbeats 8000000 in
set_option maxRecDepth 100000 in
theorem rosettelaw15_Few.calls (k : Nat) (A0_0 : Option Addr) (c0_0 : Nat) (l0_0 : List Int) (A0_1 : Option Addr) (c0_1 : Nat) (l0_1 : List (S40)) (r : Bool) (w : World) (hr0_0 : Kd.C (Kd.int .i64) w A0_0 l0_0.length l0_0) (hc0_0 : l0_0.length ≤ c0_0) (hr0_1 : Kd.C k40 w A0_1 l0_1.length l0_1) (hc0_1 : l0_1.length ≤ c0_1) (h : rosettelaw15_Few.f k l0_0 l0_1 = some r) :
    Calls Try.prog 9 #[.agg #[.slice A0_0 l0_0.length c0_0, .slice A0_1 l0_1.length c0_1]] w fun e w' => e = .returned (.bool r) ∧ Below w.heap.size w w' := by
  have hu25 := Try.underlying25
  have HR0_0 := Aside0.mk hr0_0
  have HC0_0 := Aside0.mk hc0_0
  clear hr0_0 hc0_0
  have HR0_1 := Aside0.mk hr0_1
  have HC0_1 := Aside0.mk hc0_1
  clear hr0_1 hc0_1
  have HB := Aside0.mk (Below.refl w.heap.size w)
  have H : (rosettelaw15_Few.l0 k (wrap64 ((l0_0.length : Int) + (l0_1.length : Int))) 0 l0_0 l0_1) = some r := h
  clear h
  have H' := Aside0.mk H
  clear H
  go_enter Try.func9, Try.ntmps9
  go_wp2_with (first | ((with_reducible refine gate_dst (N := 1) rfl ?_); refine box_event ?hg (N := 1) ?hd (cs := #[.slice A0_0 l0_0.length c0_0, .slice A0_1 l0_1.length c0_1]) (t := 25) ?hr ?_; (case hd => rfl); (case hg => rfl); (case hr => first | (go_simp; done) | (go_simp; rfl)); intro gb143 hg w2 hbox hb; have n0_ := Aside0.mk (below_step (by repeat (first | (with_reducible first | exact HB.out | apply below_alloc | apply pw_below_drewN | apply below_drew1) | exact HB.out)) hb); have n1_ := Aside0.mk (hbox); have n2_ := Aside0.mk ((by rw [hg]; exact (below_size (by repeat (first | (with_reducible first | exact HB.out | apply below_alloc | apply pw_below_drewN | apply below_drew1) | exact HB.out))) : w.heap.size ≤ gb143)); have n3_ := Aside0.mk ((by rw [hg]; exact (below_size (by repeat (first | (with_reducible first | exact HB.out | apply below_alloc | apply pw_below_drewN | apply below_drew1) | exact HB.out))) : w.heap.size ≤ gb143)); clear HB; have HB := n0_; have BK143 := n1_; have GW143 := n2_; have GE143 := n3_; clear n0_ n1_ n2_ n3_; clear hb hbox hg; have hcz3_0 : w2.cell? ⟨gb143, 0, none⟩ = some (.slice A0_0 l0_0.length c0_0) := (blk_cell BK143.out 0).trans rfl; have hcz3_1 : w2.cell? ⟨gb143, 1, none⟩ = some (.slice A0_1 l0_1.length c0_1) := (blk_cell BK143.out 1).trans rfl; have hfz3_0 := blk_frozen BK143.out 0; have hfz3_1 := blk_frozen BK143.out 1))
  go_loopg [3, 4] k (fun kq v3 v4 w' => ∃ (x3_1 : Int) (x4_1 : Int), v3 = .int .i64 x3_1 ∧ v4 = .int .i64 x4_1 ∧ Aside0 (rosettelaw15_Few.l0 kq x3_1 x4_1 l0_0 l0_1 = some r) ∧ Aside0 (kq ≤ k) ∧ Aside0 (w'.heap[gb143]? = some (.cells #[(.slice A0_0 l0_0.length c0_0), (.slice A0_1 l0_1.length c0_1)] 25 (0, 0))) ∧ Aside0 (Below w.heap.size w w'))
  case atStart => exact ⟨(wrap64 ((l0_0.length : Int) + (l0_1.length : Int))), (0), (by first | rfl | (simp; done) | (simp [*]; done)), (by first | rfl | (simp; done) | (simp [*]; done)), H', ⟨Nat.le_refl _⟩, ⟨by (with_reducible repeat (first | refine blk_drewN ?_ _ | refine blk_drew ?_ | refine blk_alloc ?_ _)); exact BK143.out⟩, ⟨by repeat (first | (with_reducible first | exact HB.out | apply below_alloc | apply pw_below_drewN | apply below_drew1 | refine below_set ?_ GE143.out) | exact HB.out)⟩⟩
  case round =>
    clear H'
    try clear p2
    try clear hcz3_0
    try clear hcz3_1
    try clear hfz3_0
    try clear hfz3_1
    obtain ⟨x3_1, x4_1, rfl, rfl, HA, HK1, BK143, HB⟩ := hrel
    cases gk with
    | zero => exact absurd HA.out (by simp [rosettelaw15_Few.l0])
    | succ k1 =>
      have H := HA.out
      clear HA
      simp only [rosettelaw15_Few.l0] at H
      by_cases c4 : x4_1 < (l0_1.length : Int)
      · rw [if_pos c4] at H
        have c4b0 : decide (x4_1 < (l0_1.length : Int)) = true := decide_eq_true c4
        clear c4
        by_cases c5 : 0 ≤ x4_1
        · rw [if_pos c5] at H
          have c5b0 : decide (0 ≤ x4_1) = true := decide_eq_true c5
          clear c5
          have H' := Aside0.mk H
          clear H
          have hcz6_0 : wr.cell? ⟨gb143, 0, none⟩ = some (.slice A0_0 l0_0.length c0_0) := (blk_cell BK143.out 0).trans rfl
          have hcz6_1 : wr.cell? ⟨gb143, 1, none⟩ = some (.slice A0_1 l0_1.length c0_1) := (blk_cell BK143.out 1).trans rfl
          have hfz6_0 := blk_frozen BK143.out 0
          have hfz6_1 := blk_frozen BK143.out 1
          have p144 : 0 ≤ (x4_1 : Int) := of_decide_eq_true (by first | (with_reducible assumption) | assumption)
          have q144 : x4_1 < (l0_1.length : Int) := of_decide_eq_true (by first | (with_reducible assumption) | assumption)
          obtain ⟨ad144, A144_2, c144_2, e144, hx144_0, hx144_1, hx144_2, hl144_2, hi144_2⟩ := at_T40 HR0_1.out x4_1 p144 q144
          cases e144
          replace hx144_0 := (HB.out.cell (World.block_lt_of_cell? w _ hx144_0)).trans hx144_0
          replace hx144_1 := (HB.out.cell (World.block_lt_of_cell? w _ hx144_1)).trans hx144_1
          replace hx144_2 := (HB.out.cell (World.block_lt_of_cell? w _ hx144_2)).trans hx144_2
          have HR144_2 := Aside0.mk hi144_2
          have HC144_2 := Aside0.mk hl144_2
          clear hi144_2 hl144_2
          replace p144 := eq_true p144
          replace q144 := eq_true q144
          go_wp2
          go_loopg [5] k1 (fun kq v5 w' => ∃ (x5_2 : Int), v5 = .int .i64 x5_2 ∧ Aside0 (rosettelaw15_Few.l1 kq (wrap64 (x3_1 + (((rd_T40 l0_1 x4_1).f2).length : Int))) x4_1 x5_2 l0_0 l0_1 = some r) ∧ Aside0 (kq ≤ k1) ∧ Aside0 (w'.heap[gb143]? = some (.cells #[(.slice A0_0 l0_0.length c0_0), (.slice (some ad144) l0_1.length c0_1)] 25 (0, 0))) ∧ Aside0 (Below w.heap.size w w'))
          case atStart => exact ⟨(0), (by first | rfl | (simp; done) | (simp [*]; done)), H', ⟨Nat.le_refl _⟩, ⟨by (with_reducible repeat (first | refine blk_drewN ?_ _ | refine blk_drew ?_ | refine blk_alloc ?_ _)); exact BK143.out⟩, ⟨by repeat (first | (with_reducible first | exact HB.out | apply below_alloc | apply pw_below_drewN | apply below_drew1 | refine below_set ?_ GE143.out) | exact HB.out)⟩⟩
          case round =>
            clear H'
            try clear c1
            try clear p1
            try clear q1
            try clear hx1
            try clear p2
            try clear c4
            try clear c4b0
            try clear c5
            try clear c5b0
            try clear p6
            try clear hcz3_0
            try clear hcz3_1
            try clear hcz6_0
            try clear hcz6_1
            try clear hfz3_0
            try clear hfz3_1
            try clear hfz6_0
            try clear hfz6_1
            try clear hx144_0
            try clear hx144_1
            try clear hx144_2
            try clear p144
            try clear p2
            try clear q144
            obtain ⟨x5_2, rfl, HA, HK2, BK143, HB⟩ := hrel
            cases gk with
            | zero => exact absurd HA.out (by simp [rosettelaw15_Few.l1])
            | succ k2 =>
              have H := HA.out
              clear HA
              simp only [rosettelaw15_Few.l1] at H
              by_cases c7 : 0 ≤ x4_1
              · rw [if_pos c7] at H
                have c7b0 : decide (0 ≤ x4_1) = true := decide_eq_true c7
                clear c7
                by_cases c8 : x4_1 < (l0_1.length : Int)
                · rw [if_pos c8] at H
                  have c8b0 : decide (x4_1 < (l0_1.length : Int)) = true := decide_eq_true c8
                  clear c8
                  by_cases c9 : x5_2 < (((rd_T40 l0_1 x4_1).f2).length : Int)
                  · rw [if_pos c9] at H
                    have c9b0 : decide (x5_2 < (((rd_T40 l0_1 x4_1).f2).length : Int)) = true := decide_eq_true c9
                    clear c9
                    by_cases c10 : 0 ≤ x5_2
                    · rw [if_pos c10] at H
                      have c10b0 : decide (0 ≤ x5_2) = true := decide_eq_true c10
                      clear c10
                      by_cases c11 : (((rd_T46 ((rd_T40 l0_1 x4_1).f2) x5_2).f0).size : Int) > 100
                      · rw [if_pos c11] at H
                        have c11b0 : decide (100 < (((rd_T46 ((rd_T40 l0_1 x4_1).f2) x5_2).f0).size : Int)) = true := decide_eq_true c11
                        have c11b1 : decide (100 < ((rd_T46 ((rd_T40 l0_1 x4_1).f2) x5_2).f0).size) = true := decide_eq_true (by omega)
                        clear c11
                        obtain rfl := Option.some.inj H
                        have hcz12_0 : wr.cell? ⟨gb143, 0, none⟩ = some (.slice A0_0 l0_0.length c0_0) := (blk_cell BK143.out 0).trans rfl
                        have hcz12_1 : wr.cell? ⟨gb143, 1, none⟩ = some (.slice (some ad144) l0_1.length c0_1) := (blk_cell BK143.out 1).trans rfl
                        have hfz12_0 := blk_frozen BK143.out 0
                        have hfz12_1 := blk_frozen BK143.out 1
                        have p145 : 0 ≤ (x4_1 : Int) := of_decide_eq_true (by first | (with_reducible assumption) | assumption)
                        have q145 : x4_1 < (l0_1.length : Int) := of_decide_eq_true (by first | (with_reducible assumption) | assumption)
                        obtain ⟨ad145, A145_2, c145_2, e145, hx145_0, hx145_1, hx145_2, hl145_2, hi145_2⟩ := at_T40 HR0_1.out x4_1 p145 q145
                        obtain rfl : ad144 = ad145 := (by injection e145)
                        replace hx145_0 := (HB.out.cell (World.block_lt_of_cell? w _ hx145_0)).trans hx145_0
                        replace hx145_1 := (HB.out.cell (World.block_lt_of_cell? w _ hx145_1)).trans hx145_1
                        replace hx145_2 := (HB.out.cell (World.block_lt_of_cell? w _ hx145_2)).trans hx145_2
                        have HR145_2 := Aside0.mk hi145_2
                        have HC145_2 := Aside0.mk hl145_2
                        clear hi145_2 hl145_2
                        replace p145 := eq_true p145
                        replace q145 := eq_true q145
                        have p146 : 0 ≤ (x4_1 : Int) := of_decide_eq_true (by first | (with_reducible assumption) | assumption)
                        have q146 : x4_1 < (l0_1.length : Int) := of_decide_eq_true (by first | (with_reducible assumption) | assumption)
                        obtain ⟨ad146, A146_2, c146_2, e146, hx146_0, hx146_1, hx146_2, hl146_2, hi146_2⟩ := at_T40 HR0_1.out x4_1 p146 q146
                        obtain rfl : ad144 = ad146 := (by injection e146)
                        replace hx146_0 := (HB.out.cell (World.block_lt_of_cell? w _ hx146_0)).trans hx146_0
                        replace hx146_1 := (HB.out.cell (World.block_lt_of_cell? w _ hx146_1)).trans hx146_1
                        replace hx146_2 := (HB.out.cell (World.block_lt_of_cell? w _ hx146_2)).trans hx146_2
                        have HR146_2 := Aside0.mk hi146_2
                        have HC146_2 := Aside0.mk hl146_2
                        clear hi146_2 hl146_2
                        replace p146 := eq_true p146
                        replace q146 := eq_true q146
                        have ea_ := Option.some.inj (hx145_2.symm.trans hx146_2)
                        injection ea_ with ea_ en_ ec_
                        subst ea_
                        subst ec_
                        clear en_
                        have p147 : 0 ≤ (x5_2 : Int) := of_decide_eq_true (by first | (with_reducible assumption) | assumption)
                        have q147 : x5_2 < (((rd_T40 l0_1 x4_1).f2).length : Int) := of_decide_eq_true (by first | (with_reducible assumption) | assumption)
                        obtain ⟨ad147, e147, hx147_0, hx147_1, hx147_2⟩ := at_T46 HR146_2.out x5_2 p147 q147
                        cases e147
                        replace hx147_0 := (HB.out.cell (World.block_lt_of_cell? w _ hx147_0)).trans hx147_0
                        replace hx147_1 := (HB.out.cell (World.block_lt_of_cell? w _ hx147_1)).trans hx147_1
                        replace hx147_2 := (HB.out.cell (World.block_lt_of_cell? w _ hx147_2)).trans hx147_2
                        replace p147 := eq_true p147
                        replace q147 := eq_true q147
                        go_wp2
                        go_ret
                        exact ⟨by first | rfl | (simp [errW_none, errW_some] <;> rfl) | (simp [*, errW_none, errW_some] <;> rfl), by repeat (first | (with_reducible first | exact HB.out | apply below_alloc | apply pw_below_drewN | apply below_drew1 | refine below_set ?_ GE143.out) | exact HB.out)⟩
                      · rw [if_neg c11] at H
                        have c11b0 : decide (100 < (((rd_T46 ((rd_T40 l0_1 x4_1).f2) x5_2).f0).size : Int)) = false := decide_eq_false c11
                        have c11b1 : decide (100 < ((rd_T46 ((rd_T40 l0_1 x4_1).f2) x5_2).f0).size) = false := decide_eq_false (by omega)
                        clear c11
                        have H' := Aside0.mk H
                        clear H
                        have hcz13_0 : wr.cell? ⟨gb143, 0, none⟩ = some (.slice A0_0 l0_0.length c0_0) := (blk_cell BK143.out 0).trans rfl
                        have hcz13_1 : wr.cell? ⟨gb143, 1, none⟩ = some (.slice (some ad144) l0_1.length c0_1) := (blk_cell BK143.out 1).trans rfl
                        have hfz13_0 := blk_frozen BK143.out 0
                        have hfz13_1 := blk_frozen BK143.out 1
                        have p145 : 0 ≤ (x4_1 : Int) := of_decide_eq_true (by first | (with_reducible assumption) | assumption)
                        have q145 : x4_1 < (l0_1.length : Int) := of_decide_eq_true (by first | (with_reducible assumption) | assumption)
                        obtain ⟨ad145, A145_2, c145_2, e145, hx145_0, hx145_1, hx145_2, hl145_2, hi145_2⟩ := at_T40 HR0_1.out x4_1 p145 q145
                        obtain rfl : ad144 = ad145 := (by injection e145)
                        replace hx145_0 := (HB.out.cell (World.block_lt_of_cell? w _ hx145_0)).trans hx145_0
                        replace hx145_1 := (HB.out.cell (World.block_lt_of_cell? w _ hx145_1)).trans hx145_1
                        replace hx145_2 := (HB.out.cell (World.block_lt_of_cell? w _ hx145_2)).trans hx145_2
                        have HR145_2 := Aside0.mk hi145_2
                        have HC145_2 := Aside0.mk hl145_2
                        clear hi145_2 hl145_2
                        replace p145 := eq_true p145
                        replace q145 := eq_true q145
                        have p146 : 0 ≤ (x4_1 : Int) := of_decide_eq_true (by first | (with_reducible assumption) | assumption)
                        have q146 : x4_1 < (l0_1.length : Int) := of_decide_eq_true (by first | (with_reducible assumption) | assumption)
                        obtain ⟨ad146, A146_2, c146_2, e146, hx146_0, hx146_1, hx146_2, hl146_2, hi146_2⟩ := at_T40 HR0_1.out x4_1 p146 q146
                        obtain rfl : ad144 = ad146 := (by injection e146)
                        replace hx146_0 := (HB.out.cell (World.block_lt_of_cell? w _ hx146_0)).trans hx146_0
                        replace hx146_1 := (HB.out.cell (World.block_lt_of_cell? w _ hx146_1)).trans hx146_1
                        replace hx146_2 := (HB.out.cell (World.block_lt_of_cell? w _ hx146_2)).trans hx146_2
                        have HR146_2 := Aside0.mk hi146_2
                        have HC146_2 := Aside0.mk hl146_2
                        clear hi146_2 hl146_2
                        replace p146 := eq_true p146
                        replace q146 := eq_true q146
                        have ea_ := Option.some.inj (hx145_2.symm.trans hx146_2)
                        injection ea_ with ea_ en_ ec_
                        subst ea_
                        subst ec_
                        clear en_
                        have p147 : 0 ≤ (x5_2 : Int) := of_decide_eq_true (by first | (with_reducible assumption) | assumption)
                        have q147 : x5_2 < (((rd_T40 l0_1 x4_1).f2).length : Int) := of_decide_eq_true (by first | (with_reducible assumption) | assumption)
                        obtain ⟨ad147, e147, hx147_0, hx147_1, hx147_2⟩ := at_T46 HR146_2.out x5_2 p147 q147
                        cases e147
                        replace hx147_0 := (HB.out.cell (World.block_lt_of_cell? w _ hx147_0)).trans hx147_0
                        replace hx147_1 := (HB.out.cell (World.block_lt_of_cell? w _ hx147_1)).trans hx147_1
                        replace hx147_2 := (HB.out.cell (World.block_lt_of_cell? w _ hx147_2)).trans hx147_2
                        replace p147 := eq_true p147
                        replace q147 := eq_true q147
                        go_wp2
                        go_roundg k2
                        case measure => have := HK1.out; have := HK2.out; omega
                        case rel => exact ⟨(wrap64 (x5_2 + 1)), (by first | rfl | (simp; done) | (simp [*]; done)), H', ⟨by have := HK1.out; have := HK2.out; omega⟩, ⟨by (with_reducible repeat (first | refine blk_drewN ?_ _ | refine blk_drew ?_ | refine blk_alloc ?_ _)); exact BK143.out⟩, ⟨by repeat (first | (with_reducible first | exact HB.out | apply below_alloc | apply pw_below_drewN | apply below_drew1 | refine below_set ?_ GE143.out) | exact HB.out)⟩⟩
                    · rw [if_neg c10] at H
                      exact absurd H (by simp)
                  · rw [if_neg c9] at H
                    have c9b0 : decide (x5_2 < (((rd_T40 l0_1 x4_1).f2).length : Int)) = false := decide_eq_false c9
                    clear c9
                    have H' := Aside0.mk H
                    clear H
                    have hcz14_0 : wr.cell? ⟨gb143, 0, none⟩ = some (.slice A0_0 l0_0.length c0_0) := (blk_cell BK143.out 0).trans rfl
                    have hcz14_1 : wr.cell? ⟨gb143, 1, none⟩ = some (.slice (some ad144) l0_1.length c0_1) := (blk_cell BK143.out 1).trans rfl
                    have hfz14_0 := blk_frozen BK143.out 0
                    have hfz14_1 := blk_frozen BK143.out 1
                    have p145 : 0 ≤ (x4_1 : Int) := of_decide_eq_true (by first | (with_reducible assumption) | assumption)
                    have q145 : x4_1 < (l0_1.length : Int) := of_decide_eq_true (by first | (with_reducible assumption) | assumption)
                    obtain ⟨ad145, A145_2, c145_2, e145, hx145_0, hx145_1, hx145_2, hl145_2, hi145_2⟩ := at_T40 HR0_1.out x4_1 p145 q145
                    obtain rfl : ad144 = ad145 := (by injection e145)
                    replace hx145_0 := (HB.out.cell (World.block_lt_of_cell? w _ hx145_0)).trans hx145_0
                    replace hx145_1 := (HB.out.cell (World.block_lt_of_cell? w _ hx145_1)).trans hx145_1
                    replace hx145_2 := (HB.out.cell (World.block_lt_of_cell? w _ hx145_2)).trans hx145_2
                    have HR145_2 := Aside0.mk hi145_2
                    have HC145_2 := Aside0.mk hl145_2
                    clear hi145_2 hl145_2
                    replace p145 := eq_true p145
                    replace q145 := eq_true q145
                    go_wp2
                    go_roundg k2
                    case measure => have := HK1.out; have := HK2.out; omega
                    case rel => exact ⟨((wrap64 (x3_1 + (((rd_T40 l0_1 x4_1).f2).length : Int)))), (wrap64 (x4_1 + 1)), (by first | rfl | (simp; done) | (simp [*]; done)), (by first | rfl | (simp; done) | (simp [*]; done)), H', ⟨by have := HK1.out; have := HK2.out; omega⟩, ⟨by (with_reducible repeat (first | refine blk_drewN ?_ _ | refine blk_drew ?_ | refine blk_alloc ?_ _)); exact BK143.out⟩, ⟨by repeat (first | (with_reducible first | exact HB.out | apply below_alloc | apply pw_below_drewN | apply below_drew1 | refine below_set ?_ GE143.out) | exact HB.out)⟩⟩
                · rw [if_neg c8] at H
                  exact absurd H (by simp)
              · rw [if_neg c7] at H
                exact absurd H (by simp)
        · rw [if_neg c5] at H
          exact absurd H (by simp)
      · rw [if_neg c4] at H
        have c4b0 : decide (x4_1 < (l0_1.length : Int)) = false := decide_eq_false c4
        clear c4
        obtain rfl := Option.some.inj H
        have hcz15_0 : wr.cell? ⟨gb143, 0, none⟩ = some (.slice A0_0 l0_0.length c0_0) := (blk_cell BK143.out 0).trans rfl
        have hcz15_1 : wr.cell? ⟨gb143, 1, none⟩ = some (.slice A0_1 l0_1.length c0_1) := (blk_cell BK143.out 1).trans rfl
        have hfz15_0 := blk_frozen BK143.out 0
        have hfz15_1 := blk_frozen BK143.out 1
        go_wp2
        go_ret
        exact ⟨by first | rfl | (simp [errW_none, errW_some] <;> rfl) | (simp [*, errW_none, errW_some] <;> rfl), by repeat (first | (with_reducible first | exact HB.out | apply below_alloc | apply pw_below_drewN | apply below_drew1 | refine below_set ?_ GE143.out) | exact HB.out)⟩

end Go.Proofs.Ytkdhcmmfklganaa.G
end

section
/- FirstCuts, walked -/
set_option linter.unusedVariables false
set_option linter.unusedSimpArgs false
set_option autoImplicit false
namespace Go.Proofs.Ytkdhcmmfklganaa.G
open Go.RowKit Go.Proofs.Ytkdhcmmfklganaa Go.Proofs.YtkdhcmmfklganaaW.PrintWords Go.Proofs.YtkdhcmmfklganaaW.PrintLast Go.Proofs.YtkdhcmmfklganaaW.PrintMore

instance u8sDec (l : List Int) : Decidable (u8s l) := by unfold u8s; infer_instance
def cutsF (fw is : Bool) (B : List Int) (a1 : Int) (l2 : List Int) : Option Bool :=
  if (fw = false ∨ is = false) ∨ (a1 < 0 ∨ a1 ≥ B.length) ∨ (l2.length < 1 ∨ l2.length > 100) then some true
  else if B.length ≤ 40000 ∧ u8s (B ++ l2) ∧ dec15 (B.take a1.toNat) = (([], []), 2) ∧ dec15 (B ++ l2) = (([], []), 5) then some true else none
def rosettelaw15_FirstCuts.f (k : Nat) (l0_0 : List Int) (l0_1 : List S40) (a1 : Int) (l2 : List Int) : Option Bool :=
  (rosettelaw15_Few.f k l0_0 l0_1).bind fun fw => cutsF fw (rightB l0_0 l0_1) (if rightB l0_0 l0_1 = true then encL l0_0 l0_1 else []) a1 l2
set_option maxRecDepth 100000 in
set_option maxHeartbeats 8000000 in
theorem rosettelaw15_FirstCuts.calls (k : Nat) (A0_0 : Option Addr) (c0_0 : Nat) (l0_0 : List Int) (A0_1 : Option Addr) (c0_1 : Nat) (l0_1 : List S40) (a1 : Int) (A2 : Option Addr) (c2 : Nat) (l2 : List Int) (r : Bool) (w : World) (hr0_0 : Kd.C (Kd.int .i64) w A0_0 l0_0.length l0_0) (hc0_0 : l0_0.length ≤ c0_0) (hr0_1 : Kd.C k40 w A0_1 l0_1.length l0_1) (hc0_1 : l0_1.length ≤ c0_1) (hr2 : Kd.C (Kd.int .u8) w A2 l2.length l2) (hc2 : l2.length ≤ c2) (h : rosettelaw15_FirstCuts.f k l0_0 l0_1 a1 l2 = some r) :
    Calls Try.prog 7 #[.agg #[.slice A0_0 l0_0.length c0_0, .slice A0_1 l0_1.length c0_1], .int .i64 a1, .slice A2 l2.length c2] w fun e w' => e = .returned (.bool r) ∧ Below w.heap.size w w' := by
  unfold rosettelaw15_FirstCuts.f at h
  obtain ⟨fw, hE, h⟩ := Option.bind_eq_some_iff.mp h
  have HE := Aside0.mk hE
  have LM := Aside0.mk hr2.2.1
  have LD := Aside0.mk hr0_0.2.1
  have hlm := hr2.2.1
  obtain ⟨is, his⟩ : ∃ q, q = rightB l0_0 l0_1 := ⟨_, rfl⟩
  obtain ⟨B, hB⟩ : ∃ q, q = (if rightB l0_0 l0_1 = true then encL l0_0 l0_1 else []) := ⟨_, rfl⟩
  rw [← hB, ← his] at h
  have HI := Aside0.mk his
  have HQ := Aside0.mk hB
  clear his hB
  have hb0 := (Below.refl w.heap.size w).alloc (Nat.le_refl _) (.cells #[.slice A0_0 l0_0.length c0_0, .slice A0_1 l0_1.length c0_1] 25 (0, 0))
  have HD1 := Aside0.mk (Kd.C_below hr0_0 hb0)
  have HS1 := Aside0.mk (Kd.C_below hr0_1 hb0)
  have HM1 := Aside0.mk (Kd.C_below hr2 hb0)
  have KP1 := Aside0.mk (heap_alloc_new w (.cells #[.slice A0_0 l0_0.length c0_0, .slice A0_1 l0_1.length c0_1] 25 (0, 0)))
  have HB1 := Aside0.mk hb0
  have HC := Aside0.mk (And.intro hc0_0 (And.intro hc0_1 hc2))
  have HH := Aside0.mk h
  clear hE hr0_0 hc0_0 hr0_1 hc0_1 hr2 hc2 hb0 h
  go_enter Try.func7, Try.ntmps7
  go_upto_region 1 with fail
  generalize w.alloc (.cells #[.slice A0_0 l0_0.length c0_0, .slice A0_1 l0_1.length c0_1] 25 (0, 0)) = w1 at HD1 HS1 HM1 KP1 HB1 ⊢
  go_wp2_with fail
  refine (small_any w1).mono ?_
  rintro e w2 ⟨rfl, hX⟩
  have KP2 := Aside0.mk (vkeepB KP1.out hX)
  have HD2 := Aside0.mk (Kd.C_below HD1.out hX)
  have HS2 := Aside0.mk (Kd.C_below HS1.out hX)
  have HM2 := Aside0.mk (Kd.C_below HM1.out hX)
  have HB2 := Aside0.mk (HB1.out.trans ((hX).mono HB1.out.size))
  clear KP1 HD1 HS1 HM1 HB1
  clear hX
  obtain ⟨⟨p0, p1⟩, p2, p3⟩ := cells2r KP2.out
  go_wp2_with fail
  refine (rosettelaw15_Few.calls k A0_0 c0_0 l0_0 A0_1 c0_1 l0_1 fw w2 HD2.out HC.out.1 HS2.out HC.out.2.1 HE.out).mono ?_
  rintro e w3 ⟨rfl, hX⟩
  clear p0 p1 p2 p3
  have KP3 := Aside0.mk (vkeepB KP2.out hX)
  have HD3 := Aside0.mk (Kd.C_below HD2.out hX)
  have HS3 := Aside0.mk (Kd.C_below HS2.out hX)
  have HM3 := Aside0.mk (Kd.C_below HM2.out hX)
  have HB3 := Aside0.mk (HB2.out.trans ((hX).mono HB2.out.size))
  clear KP2 HD2 HS2 HM2 HB2
  clear hX
  obtain ⟨⟨p0, p1⟩, p2, p3⟩ := cells2r KP3.out
  go_wp2_with fail
  refine (wencode15 l0_0 A0_0 c0_0 l0_1 A0_1 c0_1 w3 HD3.out HC.out.1 HS3.out LD.out).mono ?_
  rintro e w4 ⟨v1, rfl, hR, hX⟩
  rw [← HQ.out] at hR
  rw [← HI.out]
  obtain ⟨Aa, na, rfl, hna, hna2, _, hCa⟩ := held_own hR
  clear p0 p1 p2 p3
  have KP4 := Aside0.mk (vkeepB KP3.out hX)
  have HD4 := Aside0.mk (Kd.C_below HD3.out hX)
  have HS4 := Aside0.mk (Kd.C_below HS3.out hX)
  have HM4 := Aside0.mk (Kd.C_below HM3.out hX)
  have HB4 := Aside0.mk (HB3.out.trans ((hX).mono HB3.out.size))
  clear KP3 HD3 HS3 HM3 HB3
  have HA4 := Aside0.mk hCa
  have hlb := hCa.2.1
  have HNA := Aside0.mk (And.intro hna hna2)
  clear hR hX hCa hna hna2
  go_upto_region 4 with fail
  cases fw with
  | false =>
    go_wp2
    go_ret
    exact ⟨by have h := HH.out; unfold cutsF at h; rw [if_pos (by exact .inl (.inl rfl))] at h; rw [← Option.some.inj h]; rfl, HB4.out⟩
  | true =>
    cases is with
    | false =>
      go_wp2
      go_ret
      exact ⟨by have h := HH.out; unfold cutsF at h; rw [if_pos (by exact .inl (.inr rfl))] at h; rw [← Option.some.inj h]; rfl, HB4.out⟩
    | true =>
      by_cases d2 : a1 < 0
      · skip
        go_wp2
        go_ret
        exact ⟨by have h := HH.out; unfold cutsF at h; rw [if_pos (by exact .inr (.inl (.inl d2)))] at h; rw [← Option.some.inj h]; rfl, HB4.out⟩
      have e2 : decide (a1 < 0) = false := decide_eq_false d2
      by_cases d3 : a1 ≥ (B.length : Int)
      · skip
        go_wp2
        go_ret
        exact ⟨by have h := HH.out; unfold cutsF at h; rw [if_pos (by exact .inr (.inl (.inr d3)))] at h; rw [← Option.some.inj h]; rfl, HB4.out⟩
      have e3 : decide ((B.length : Int) ≤ a1) = false := decide_eq_false (by omega)
      by_cases d4 : l2.length < 1
      · have d4' : (l2.length : Int) < 1 := by omega
        go_wp2
        go_ret
        exact ⟨by have h := HH.out; unfold cutsF at h; rw [if_pos (by exact .inr (.inr (.inl d4)))] at h; rw [← Option.some.inj h]; rfl, HB4.out⟩
      have d4' : ¬ ((l2.length : Int) < 1) := by omega
      have e4 : decide ((l2.length : Int) < 1) = false := decide_eq_false (by omega)
      by_cases d5 : l2.length > 100
      · have d5' : (l2.length : Int) > 100 := by omega
        go_wp2
        go_ret
        exact ⟨by have h := HH.out; unfold cutsF at h; rw [if_pos (by exact .inr (.inr (.inr d5)))] at h; rw [← Option.some.inj h]; rfl, HB4.out⟩
      have d5' : ¬ ((l2.length : Int) > 100) := by omega
      have e5 : decide ((100 : Int) < (l2.length : Int)) = false := decide_eq_false (by omega)
      obtain ⟨c, rfl⟩ := Int.eq_ofNat_of_zero_le (show 0 ≤ a1 by omega)
      have h := HH.out
      unfold cutsF at h
      rw [if_neg (by rintro ((hh | hh) | (hh | hh) | (hh | hh)) <;> first | omega | cases hh)] at h
      split at h
      case isFalse => cases h
      case isTrue hd =>
        obtain rfl := Option.some.inj h
        have HL := Aside0.mk hd.1
        have HU := Aside0.mk hd.2.1
        have H1 := Aside0.mk (show dec15 (B.take c) = (([], []), 2) from by have := hd.2.2.1; rwa [Int.toNat_natCast] at this)
        have H2 := Aside0.mk hd.2.2.2
        have hcB : c < B.length := by omega
        have HCB := Aside0.mk hcB
        have hcn : c ≤ na := by have := HNA.out.1; omega
        have hna2 := HNA.out.2
        clear h hd HH HE hlb HQ HI
        go_wp2_with fail
        clear hcB hcn hna2 hlm
        refine (ldec15 (l := B.take c) (n := c) (ls := []) (ss := []) (E := 2) (n1 := 0) (n2 := 0) (by rw [List.length_take]; have := HCB.out; omega) H1.out rfl rfl Aa na w4 (Kd.C_take HA4.out (by have := HCB.out; omega)) (by have := HCB.out; have := HNA.out.1; omega) HNA.out.2 (fun x hx => HU.out x (List.mem_append_left _ (List.mem_of_mem_take hx))) (by have := HCB.out; have := HL.out; omega)).mono ?_
        rintro e w5 ⟨A3, c3, A4, c4, rfl, _, _, _, _, hX⟩
        have KP5 := Aside0.mk (vkeepB KP4.out hX)
        have HD5 := Aside0.mk (Kd.C_below HD4.out hX)
        have HS5 := Aside0.mk (Kd.C_below HS4.out hX)
        have HM5 := Aside0.mk (Kd.C_below HM4.out hX)
        have HB5 := Aside0.mk (HB4.out.trans ((hX).mono HB4.out.size))
        have HA5 := Aside0.mk (Kd.C_below HA4.out hX)
        clear KP4 HD4 HS4 HM4 HB4 HA4
        clear hX d4 d4' d5 d2 d3 e2 e3 e4 e5
        have hb := (Below.refl w5.heap.size w5).alloc (Nat.le_refl _) (.cells #[.slice A3 0 c3, .slice A4 0 c4] 25 (0, 0))
        go_upto_region 7 with fail
        have KP6 := Aside0.mk (vkeepB KP5.out hb)
        have HD6 := Aside0.mk (Kd.C_below HD5.out hb)
        have HS6 := Aside0.mk (Kd.C_below HS5.out hb)
        have HM6 := Aside0.mk (Kd.C_below HM5.out hb)
        have HB6 := Aside0.mk (HB5.out.trans ((hb).mono HB5.out.size))
        have HA6 := Aside0.mk (Kd.C_below HA5.out hb)
        clear KP5 HD5 HS5 HM5 HB5 HA5
        clear hb
        generalize w5.alloc (.cells #[.slice A3 0 c3, .slice A4 0 c4] 25 (0, 0)) = w6 at KP6 HD6 HS6 HM6 HB6 HA6 ⊢
        have LM2 := Aside0.mk (show l2.length ≤ 100 from by omega)
        clear d5'
        have b6 := Aside0.mk ((Below.refl w6.heap.size w6).alloc (Nat.le_refl _) (.cells #[] 5))
        go_wp2_with (first
          | (at_builtin; refine print_append_row (w0 := w6) w6.heap.size rfl (.tmp 58) (.tmp 59) 26 5 .u8 1 rfl Try.underlying26 info5 (by decide) (.slice (some ⟨w6.heap.size, 0, none⟩) 0 0) [] B Aa B.length na rfl rfl (own_empty15 w6) (Kd.reads_of_C (d := (0 : Int)) (Kd.C_below HA6.out b6.out)) b6.out (by simp) (by have := HL.out; simp; omega) ?_; intro va wa hoa hBa _ _; rw [List.nil_append] at hoa; obtain ⟨A5, n5, rfl, _, _⟩ := own_C (kd_R hoa))
          | (at_builtin; refine print_append_row (w0 := w6) w6.heap.size rfl (.tmp 60) (.tmp 61) 26 5 .u8 1 rfl Try.underlying26 info5 (by decide) (.slice A5 B.length n5) B l2 A2 l2.length c2 rfl rfl hoa (Kd.reads_of_C (d := (0 : Int)) (Kd.C_below HM6.out hBa)) hBa hBa.size (by have := HL.out; have := LM2.out; omega) ?_; intro vb w7 hob hX _ _; obtain ⟨A6, n6, rfl, hn6, hm6, _, hC6⟩ := held_own (kd_R hob)))
        have KP7 := Aside0.mk (vkeepB KP6.out hX)
        have HD7 := Aside0.mk (Kd.C_below HD6.out hX)
        have HS7 := Aside0.mk (Kd.C_below HS6.out hX)
        have HM7 := Aside0.mk (Kd.C_below HM6.out hX)
        have HB7 := Aside0.mk (HB6.out.trans ((hX).mono HB6.out.size))
        have HA7 := Aside0.mk (Kd.C_below HA6.out hX)
        clear KP6 HD6 HS6 HM6 HB6 HA6
        have hC6' := hC6
        clear hX hoa hBa hob hC6 b6
        refine (ldec15 (l := B ++ l2) (n := B.length + l2.length) (ls := []) (ss := []) (E := 5) (n1 := 0) (n2 := 0) (by rw [List.length_append]) H2.out rfl rfl A6 n6 w7 hC6' (by rw [List.length_append] at hn6; exact hn6) hm6 HU.out (by have := HL.out; have := LM2.out; omega)).mono ?_
        rintro e w8 ⟨A7, c7, A8, c8, rfl, _, _, _, _, hX⟩
        have KP8 := Aside0.mk (vkeepB KP7.out hX)
        have HD8 := Aside0.mk (Kd.C_below HD7.out hX)
        have HS8 := Aside0.mk (Kd.C_below HS7.out hX)
        have HM8 := Aside0.mk (Kd.C_below HM7.out hX)
        have HB8 := Aside0.mk (HB7.out.trans ((hX).mono HB7.out.size))
        have HA8 := Aside0.mk (Kd.C_below HA7.out hX)
        clear KP7 HD7 HS7 HM7 HB7 HA7
        clear hX hC6' hn6
        have hb := (Below.refl w8.heap.size w8).alloc (Nat.le_refl _) (.cells #[.slice A7 0 c7, .slice A8 0 c8] 25 (0, 0))
        go_upto_region 8 with fail
        have KP9 := Aside0.mk (vkeepB KP8.out hb)
        have HD9 := Aside0.mk (Kd.C_below HD8.out hb)
        have HS9 := Aside0.mk (Kd.C_below HS8.out hb)
        have HM9 := Aside0.mk (Kd.C_below HM8.out hb)
        have HB9 := Aside0.mk (HB8.out.trans ((hb).mono HB8.out.size))
        have HA9 := Aside0.mk (Kd.C_below HA8.out hb)
        clear KP8 HD8 HS8 HM8 HB8 HA8
        clear hb
        generalize w8.alloc (.cells #[.slice A7 0 c7, .slice A8 0 c8] 25 (0, 0)) = w9 at KP9 HD9 HS9 HM9 HB9 HA9 ⊢
        go_wp2_with fail
        go_ret
        exact ⟨rfl, HB9.out⟩
end Go.Proofs.Ytkdhcmmfklganaa.G
end

section
/- states of the first broker as bytes: what is laid is read, a part of it is short; plain laws -/
set_option linter.unusedVariables false
set_option autoImplicit false
namespace Go.Proofs.Ytkdhcmmfklganaa
open Go.RowKit Go.Proofs.YtkdhcmmfklganaaW.PrintWords Go.Proofs.YtkdhcmmfklganaaW.PrintLast Go.Proofs.Ytkdhcmmfklganaa.G

theorem good_rg : Pars.Good rgP := Pars.Good.bnd (Pars.Good.count 16) fun c => Pars.Good.bnd (Pars.Good.take c.toNat) fun t => Pars.Good.bnd (Pars.Good.num 4) fun lo => Pars.Good.bnd (Pars.Good.num 4) fun hi => Pars.Good.pure _
theorem good_sub : Pars.Good subP := Pars.Good.bnd (Pars.Good.num 2) fun id => Pars.Good.bnd (Pars.Good.num 2) fun fr => Pars.Good.bnd (Pars.Good.count 12) fun n => Pars.Good.bnd (Pars.Good.rep good_rg n.toNat) fun rs => Pars.Good.pure _
theorem good_f : Pars.Good fP := Pars.Good.bnd (Pars.Good.count 16) fun n => Pars.Good.bnd (Pars.Good.rep (Pars.Good.num 2) n.toNat) fun links => Pars.Good.bnd (Pars.Good.count 64) fun m => Pars.Good.bnd (Pars.Good.rep good_sub m.toNat) fun subs => Pars.Good.pure _
theorem take_len {a : List Int} (n : Nat) (ha : a.length = n) (r : List Int) : (⟨a ++ r, 0⟩ : Sc).take n = (a, ⟨r, 0⟩) := by
  subst ha
  unfold Sc.take
  rw [if_pos rfl, if_neg (by simp), List.take_left, List.drop_left]
theorem num_two (n : Int) (h : 0 ≤ n ∧ n ≤ 65535) (r : List Int) : (⟨twoB n ++ r, 0⟩ : Sc).num 2 = (n, ⟨r, 0⟩) := by
  unfold Sc.num
  rw [take_len 2 rfl]
  unfold twoB
  simp only [big]
  rw [show 256 * (256 * 0 + n / 256 % 256) + n % 256 = n by omega]
theorem num_four (n : Int) (h : -2147483648 ≤ n ∧ n ≤ 2147483647) (r : List Int) : ∃ m, (⟨fourB n ++ r, 0⟩ : Sc).num 4 = (m, ⟨r, 0⟩) ∧ sgn m = n := by
  unfold Sc.num
  rw [take_len 4 rfl]
  refine ⟨_, rfl, ?_⟩
  unfold fourB twoB sgn
  simp only [List.cons_append, List.nil_append, big]
  split
  · omega
  · omega
theorem count_one (n m : Int) (h : n ≤ m) (r : List Int) : (⟨[n] ++ r, 0⟩ : Sc).count m = (n, ⟨r, 0⟩) := by
  have e : (⟨[n] ++ r, 0⟩ : Sc).num 1 = (n, ⟨r, 0⟩) := by
    unfold Sc.num
    rw [take_len 1 rfl]
    simp only [big]
    rw [show 256 * 0 + n = n by omega]
  unfold Sc.count
  rw [e, if_neg (by omega)]
theorem str_bytes (b : ByteArray) : strOfNums (bytesOf b) = b := by
  unfold strOfNums bytesOf
  rw [List.map_map]
  have h : b.data.toList.map ((fun x : Int => UInt8.ofNat x.toNat) ∘ fun c => (c.toNat : Int)) = b.data.toList := by
    refine (List.map_congr_left (g := fun x => x) fun x _ => ?_).trans (List.map_id'' (fun _ => rfl) _)
    show UInt8.ofNat ((x.toNat : Int)).toNat = x
    rw [Int.toNat_natCast, UInt8.ofNat_toNat]
  first
    | (rw [h])
    | (simp only [h])
    | (apply ByteArray.ext; rw [h])
theorem rg_back (x : S46) (h : x.f0.size ≤ 16 ∧ (-2147483648 ≤ x.f1 ∧ x.f1 ≤ 2147483647) ∧ -2147483648 ≤ x.f2 ∧ x.f2 ≤ 2147483647) (r : List Int) : rgP ⟨rgL x ++ r, 0⟩ = (x, ⟨r, 0⟩) := by
  obtain ⟨a, b, c⟩ := x
  simp only at h
  obtain ⟨m1, e1, s1⟩ := num_four b h.2.1 (fourB c ++ r)
  obtain ⟨m2, e2, s2⟩ := num_four c h.2.2 r
  have h0 : rgL ⟨a, b, c⟩ ++ r = [(a.size : Int)] ++ (bytesOf a ++ (fourB b ++ (fourB c ++ r))) := by simp [rgL, List.append_assoc]
  unfold rgP Pars.bnd
  rw [h0]
  simp only
  rw [count_one _ 16 (by omega)]
  simp only
  rw [Int.toNat_natCast, take_len a.size (bytesOf_length a)]
  simp only
  rw [e1]
  simp only
  rw [e2]
  simp only
  rw [s1, s2, str_bytes]
theorem sub_back (x : S40) (h : (0 ≤ x.f0 ∧ x.f0 ≤ 65535) ∧ (0 ≤ x.f1 ∧ x.f1 ≤ 65535) ∧ x.f2.length ≤ 12 ∧ ∀ r ∈ x.f2, r.f0.size ≤ 16 ∧ (-2147483648 ≤ r.f1 ∧ r.f1 ≤ 2147483647) ∧ -2147483648 ≤ r.f2 ∧ r.f2 ≤ 2147483647) (r : List Int) : subP ⟨subL x ++ r, 0⟩ = (x, ⟨r, 0⟩) := by
  obtain ⟨a, b, c⟩ := x
  simp only at h
  have h0 : subL ⟨a, b, c⟩ ++ r = twoB a ++ (twoB b ++ ([(c.length : Int)] ++ (c.flatMap rgL ++ r))) := by simp [subL, List.append_assoc]
  unfold subP Pars.bnd
  rw [h0]
  simp only
  rw [num_two a h.1]
  simp only
  rw [num_two b h.2.1]
  simp only
  rw [count_one _ 12 (by omega)]
  simp only
  rw [Int.toNat_natCast, Pars.rep_back rgL c r (fun x hx r => rg_back x (h.2.2.2 x hx) r)]
def bodyL (links : List Int) (subs : List S40) : List Int := [(links.length : Int)] ++ links.flatMap twoB ++ [(subs.length : Int)] ++ subs.flatMap subL
theorem enc_body (links : List Int) (subs : List S40) : encL links subs = [82, 83, 84, 1] ++ bodyL links subs := by simp [encL, bodyL, List.append_assoc]
theorem f_back {links : List Int} {subs : List S40} (h : Fit links subs) (r : List Int) : fP ⟨bodyL links subs ++ r, 0⟩ = ((links, subs), ⟨r, 0⟩) := by
  have h0 : bodyL links subs ++ r = [(links.length : Int)] ++ (links.flatMap twoB ++ ([(subs.length : Int)] ++ (subs.flatMap subL ++ r))) := by simp [bodyL, List.append_assoc]
  have h1 := h.n1
  have h2 := h.n2
  unfold fP Pars.bnd
  rw [h0]
  simp only
  rw [count_one _ 16 (by omega)]
  simp only
  rw [Int.toNat_natCast, Pars.rep_back twoB links _ (fun x hx r => num_two x (h.lk x hx) r)]
  simp only
  rw [count_one _ 64 (by omega)]
  simp only
  rw [Int.toNat_natCast, Pars.rep_back subL subs r (fun x hx r => sub_back x (h.sb x hx) r)]
theorem dec_head (l : List Int) : dec15 ([82, 83, 84, 1] ++ l) = (if (fP ⟨l, 0⟩).2.endE ≠ 0 then (([], []), (fP ⟨l, 0⟩).2.endE) else if rightB (fP ⟨l, 0⟩).1.1 (fP ⟨l, 0⟩).1.2 = true then ((fP ⟨l, 0⟩).1, 0) else (([], []), 3)) := by
  unfold dec15
  rw [if_neg (by simp), if_neg (by simp), if_neg (by simp)]
  rfl
theorem dec_more {links : List Int} {subs : List S40} (h : Fit links subs) (r : List Int) (hr : 0 < r.length) : dec15 (encL links subs ++ r) = (([], []), 5) := by
  rw [enc_body, List.append_assoc, dec_head, f_back h]
  have e : (⟨r, 0⟩ : Sc).endE = 5 := by unfold Sc.endE; rw [if_pos ⟨rfl, hr⟩]
  simp only [e]
  rw [if_pos (by decide)]
theorem dec_cut {links : List Int} {subs : List S40} (h : Fit links subs) (c : Nat) (hc : c < (encL links subs).length) : dec15 ((encL links subs).take c) = (([], []), 2) := by
  by_cases h4 : c < 4
  · unfold dec15
    rw [if_pos (by rw [List.length_take]; omega)]
  · obtain ⟨d, rfl⟩ : ∃ d, c = 4 + d := ⟨c - 4, by omega⟩
    have hb := f_back h []
    rw [List.append_nil] at hb
    rw [enc_body, List.length_append] at hc
    have hc' : d < (bodyL links subs).length := by simp only [List.length_cons, List.length_nil] at hc; omega
    obtain ⟨c1, e1, _, k1⟩ := good_f.ok _ _ _ hb
    rw [List.append_nil] at e1
    have e2 := k1 ((bodyL links subs).take d) ((bodyL links subs).drop d) (by rw [← e1, List.take_append_drop]) (fun e => by have := congrArg List.length e; rw [List.length_drop] at this; simp at this; omega)
    rw [enc_body, List.take_append, List.take_of_length_le (show ([82, 83, 84, 1] : List Int).length ≤ 4 + d by simp), show 4 + d - ([82, 83, 84, 1] : List Int).length = d by simp, dec_head]
    have e3 : (fP ⟨(bodyL links subs).take d, 0⟩).2.endE = 2 := by
      unfold Sc.endE
      rw [if_neg (fun hh => by omega), e2]
    rw [e3, if_pos (by decide)]
theorem flat_len {α : Type} (f : α → List Int) (m : Nat) : ∀ (l : List α), (∀ x ∈ l, (f x).length ≤ m) → (l.flatMap f).length ≤ m * l.length := by
  intro l
  induction l with
  | nil => intro _; simp
  | cons x l ih =>
    intro h
    rw [List.flatMap_cons, List.length_append, List.length_cons, Nat.mul_add]
    have h1 := h x (by simp)
    have h2 := ih (fun y hy => h y (by simp [hy]))
    omega
theorem flat_u8s {α : Type} (f : α → List Int) (l : List α) (h : ∀ x ∈ l, u8s (f x)) : u8s (l.flatMap f) := by
  intro y hy
  obtain ⟨x, hx, hxy⟩ := List.mem_flatMap.1 hy
  exact h x hx y hxy
theorem u8s_one {n : Int} (h : 0 ≤ n ∧ n < 256) : u8s [n] := by
  intro x hx
  rw [List.mem_singleton] at hx
  subst hx
  exact h
theorem u8s_two (n : Int) : u8s (twoB n) := by
  intro x hx
  unfold twoB at hx
  simp only [List.mem_cons, List.not_mem_nil, or_false] at hx
  rcases hx with rfl | rfl <;> omega
theorem u8s_bytes (b : ByteArray) : u8s (bytesOf b) := by
  intro x hx
  unfold bytesOf at hx
  obtain ⟨c, _, rfl⟩ := List.mem_map.1 hx
  have := c.toNat_lt
  omega
theorem enc_u8s {links : List Int} {subs : List S40} (h : Fit links subs) : u8s (encL links subs) := by
  have h1 := h.n1
  have h2 := h.n2
  unfold encL
  refine u8s_append.2 ⟨u8s_append.2 ⟨u8s_append.2 ⟨u8s_append.2 ⟨by decide, u8s_one (by omega)⟩, flat_u8s _ _ fun x _ => u8s_two x⟩, u8s_one (by omega)⟩, flat_u8s _ _ fun x hx => ?_⟩
  have hs := h.sb x hx
  unfold subL
  refine u8s_append.2 ⟨u8s_append.2 ⟨u8s_append.2 ⟨u8s_two _, u8s_two _⟩, u8s_one (by omega)⟩, flat_u8s _ _ fun r hr => ?_⟩
  have hq := hs.2.2.2 r hr
  unfold rgL fourB
  exact u8s_append.2 ⟨u8s_append.2 ⟨u8s_append.2 ⟨u8s_one (by omega), u8s_bytes _⟩, u8s_append.2 ⟨u8s_two _, u8s_two _⟩⟩, u8s_append.2 ⟨u8s_two _, u8s_two _⟩⟩
theorem enc_len {links : List Int} {subs : List S40} (h : Fit links subs) : (encL links subs).length ≤ 40000 := by
  have h1 := h.n1
  have h2 := h.n2
  have a := flat_len twoB 2 links (fun x _ => by simp [twoB])
  have b := flat_len subL 305 subs (fun x hx => by
    have hs := h.sb x hx
    have c := flat_len rgL 25 x.f2 (fun r hr => by
      have := (hs.2.2.2 r hr).1
      unfold rgL fourB twoB
      simp only [List.length_append, List.length_cons, List.length_nil, bytesOf_length]
      omega)
    unfold subL twoB
    simp only [List.length_append, List.length_cons, List.length_nil]
    omega)
  unfold encL
  simp only [List.length_append, List.length_cons, List.length_nil]
  omega
/-- Few answers -/
theorem few_in (links : List Int) (subs : List S40) (hs : subs.length ≤ 4611686018427387904) (hr : ∀ x ∈ subs, x.f2.length ≤ 4611686018427387904) (i : Nat) (hi : i < subs.length) (x3 : Int)
    (h0 : ∃ k b, rosettelaw15_Few.l0 k x3 ((i + 1 : Nat) : Int) links subs = some b) : ∀ (d j : Nat), j + d = (rd_T40 subs (i : Int)).f2.length → ∃ k b, rosettelaw15_Few.l1 k x3 (i : Int) (j : Int) links subs = some b := by
  have hx : (rd_T40 subs (i : Int)).f2.length ≤ 4611686018427387904 := by
    have e : rd_T40 subs (i : Int) = subs[i] := by simp [rd_T40, List.getD_eq_getElem?_getD, hi]
    rw [e]
    exact hr _ (List.getElem_mem hi)
  intro d
  induction d with
  | zero =>
    intro j hj
    obtain ⟨k, b, h⟩ := h0
    refine ⟨k + 1, b, ?_⟩
    simp only [rosettelaw15_Few.l1]
    rw [if_pos (by omega), if_pos (by omega), if_neg (by omega), show wrap64 ((i : Int) + 1) = ((i + 1 : Nat) : Int) by unfold wrap64; omega]
    exact h
  | succ d ih =>
    intro j hj
    obtain ⟨k, b, h⟩ := ih (j + 1) (by omega)
    by_cases hq : ((rd_T46 ((rd_T40 subs (i : Int)).f2) (j : Int)).f0.size : Int) > 100
    · refine ⟨k + 1, false, ?_⟩
      simp only [rosettelaw15_Few.l1]
      rw [if_pos (by omega), if_pos (by omega), if_pos (by omega), if_pos (by omega), if_pos hq]
    · refine ⟨k + 1, b, ?_⟩
      simp only [rosettelaw15_Few.l1]
      rw [if_pos (by omega), if_pos (by omega), if_pos (by omega), if_pos (by omega), if_neg hq, show wrap64 ((j : Int) + 1) = ((j + 1 : Nat) : Int) by unfold wrap64; omega]
      exact h
theorem few_out (links : List Int) (subs : List S40) (hs : subs.length ≤ 4611686018427387904) (hr : ∀ x ∈ subs, x.f2.length ≤ 4611686018427387904) : ∀ (d i : Nat), i + d = subs.length → ∀ x3 : Int, ∃ k b, rosettelaw15_Few.l0 k x3 (i : Int) links subs = some b := by
  intro d
  induction d with
  | zero =>
    intro i hi x3
    refine ⟨1, decide (x3 ≤ 300), ?_⟩
    simp only [rosettelaw15_Few.l0]
    rw [if_neg (by omega)]
  | succ d ih =>
    intro i hi x3
    obtain ⟨k, b, h⟩ := few_in links subs hs hr i (by omega) (wrap64 (x3 + (((rd_T40 subs (i : Int)).f2).length : Int))) (ih (i + 1) (by omega) _) (rd_T40 subs (i : Int)).f2.length 0 (by omega)
    refine ⟨k + 1, b, ?_⟩
    simp only [rosettelaw15_Few.l0]
    rw [if_pos (by omega), if_pos (by omega)]
    exact h
theorem few_some (links : List Int) (subs : List S40) (hs : subs.length ≤ 4611686018427387904) (hr : ∀ x ∈ subs, x.f2.length ≤ 4611686018427387904) : ∃ k b, rosettelaw15_Few.f k links subs = some b := few_out links subs hs hr subs.length 0 (by omega) _
end Go.Proofs.Ytkdhcmmfklganaa
end

section
/- states of the first broker as bytes: what is read was laid so; a state is the same as itself; plain laws -/
set_option linter.unusedVariables false
set_option autoImplicit false
namespace Go.Proofs.Ytkdhcmmfklganaa
open Go.RowKit Go.Proofs.YtkdhcmmfklganaaW.PrintWords Go.Proofs.YtkdhcmmfklganaaW.PrintLast Go.Proofs.Ytkdhcmmfklganaa.G

theorem bnd_ok {α β : Type} {P : Sc → α × Sc} {Q : α → Sc → β × Sc} (hQ : ∀ a, Pars.Good (Q a)) {l : List Int} {v : β} {r : List Int} (h : Pars.bnd P Q ⟨l, 0⟩ = (v, ⟨r, 0⟩)) : ∃ a r1, P ⟨l, 0⟩ = (a, ⟨r1, 0⟩) ∧ Q a ⟨r1, 0⟩ = (v, ⟨r, 0⟩) := by
  unfold Pars.bnd at h
  obtain ⟨⟨a, s1⟩, h1⟩ : ∃ p, P ⟨l, 0⟩ = p := ⟨_, rfl⟩
  rw [h1] at h
  simp only at h
  have e1 : s1.e = 0 := Classical.byContradiction fun he => by
    have := (hQ a).err s1 he
    rw [h] at this
    rw [← this] at he
    exact he rfl
  have es := Pars.eta0 s1 e1
  rw [es] at h h1
  exact ⟨a, s1.l, h1, h⟩
theorem take_once {l t r : List Int} {n : Nat} (h : (⟨l, 0⟩ : Sc).take n = (t, ⟨r, 0⟩)) : l = t ++ r ∧ t.length = n := by
  unfold Sc.take at h
  rw [if_pos rfl] at h
  split at h
  · obtain ⟨_, h⟩ := Prod.mk.inj h
    cases h
  · rename_i hlt
    have hlt' : ¬ l.length < n := hlt
    obtain ⟨hv, hr⟩ := Prod.mk.inj h
    have hr := congrArg Sc.l hr
    simp only at hv hr
    subst hv
    subst hr
    exact ⟨(List.take_append_drop n l).symm, by rw [List.length_take]; omega⟩
theorem num_once {l r : List Int} {n : Int} {k : Nat} (h : (⟨l, 0⟩ : Sc).num k = (n, ⟨r, 0⟩)) : ∃ t, l = t ++ r ∧ t.length = k ∧ n = big t 0 := by
  unfold Sc.num at h
  obtain ⟨h1, h2⟩ := Prod.mk.inj h
  obtain ⟨a, b⟩ := take_once (l := l) (t := ((⟨l, 0⟩ : Sc).take k).1) (r := r) (n := k) (by rw [← h2])
  exact ⟨_, a, b, h1.symm⟩
theorem two_once {l r : List Int} {n : Int} (hu : u8s l) (h : (⟨l, 0⟩ : Sc).num 2 = (n, ⟨r, 0⟩)) : l = twoB n ++ r := by
  obtain ⟨t, rfl, ht, hn⟩ := num_once h
  match t, ht with
  | [a, b], _ =>
    have ha := hu a (by simp)
    have hb := hu b (by simp)
    simp only [big] at hn
    unfold twoB
    rw [show n / 256 % 256 = a by omega, show n % 256 = b by omega]
theorem four_once {l r : List Int} {n : Int} (hu : u8s l) (h : (⟨l, 0⟩ : Sc).num 4 = (n, ⟨r, 0⟩)) : l = fourB (sgn n) ++ r := by
  obtain ⟨t, rfl, ht, hn⟩ := num_once h
  match t, ht with
  | [a, b, c, d], _ =>
    have ha := hu a (by simp)
    have hb := hu b (by simp)
    have hc := hu c (by simp)
    have hd := hu d (by simp)
    simp only [big] at hn
    have e : sgn n / 65536 / 256 % 256 = a ∧ sgn n / 65536 % 256 = b ∧ sgn n / 256 % 256 = c ∧ sgn n % 256 = d := by
      unfold sgn
      split <;> omega
    unfold fourB twoB
    rw [e.1, e.2.1, e.2.2.1, e.2.2.2]
    rfl
theorem count_once {l r : List Int} {n m : Int} (hu : u8s l) (h : (⟨l, 0⟩ : Sc).count m = (n, ⟨r, 0⟩)) : l = [n] ++ r ∧ 0 ≤ n := by
  unfold Sc.count at h
  split at h
  · obtain ⟨_, h⟩ := Prod.mk.inj h
    unfold Sc.fail at h
    split at h
    · cases h
    · rename_i he
      rw [h] at he
      exact absurd rfl he
  · obtain ⟨t, rfl, ht, hn⟩ := num_once h
    match t, ht with
    | [a], _ =>
      have ha := hu a (by simp)
      simp only [big] at hn
      obtain rfl : n = a := by omega
      exact ⟨rfl, ha.1⟩
theorem u8s_right {a b : List Int} (h : u8s (a ++ b)) : u8s b := (u8s_append.1 h).2
theorem u8s_left {a b : List Int} (h : u8s (a ++ b)) : u8s a := (u8s_append.1 h).1
theorem bytes_str {t : List Int} (h : u8s t) : bytesOf (strOfNums t) = t := by
  unfold strOfNums bytesOf
  simp only [List.map_map]
  refine (List.map_congr_left (g := fun x => x) fun x hx => ?_).trans (List.map_id'' (fun _ => rfl) t)
  show ((UInt8.ofNat x.toNat).toNat : Int) = x
  have := h x hx
  rw [UInt8.toNat_ofNat']
  omega
theorem rg_once (l : List Int) (x : S46) (r : List Int) (hu : u8s l) (h : rgP ⟨l, 0⟩ = (x, ⟨r, 0⟩)) : l = rgL x ++ r := by
  unfold rgP at h
  obtain ⟨c, r1, h1, h⟩ := bnd_ok (by exact fun c => Pars.Good.bnd (Pars.Good.take c.toNat) fun t => Pars.Good.bnd (Pars.Good.num 4) fun lo => Pars.Good.bnd (Pars.Good.num 4) fun hi => Pars.Good.pure _) h
  obtain ⟨t, r2, h2, h⟩ := bnd_ok (by exact fun t => Pars.Good.bnd (Pars.Good.num 4) fun lo => Pars.Good.bnd (Pars.Good.num 4) fun hi => Pars.Good.pure _) h
  obtain ⟨lo, r3, h3, h⟩ := bnd_ok (by exact fun lo => Pars.Good.bnd (Pars.Good.num 4) fun hi => Pars.Good.pure _) h
  obtain ⟨hi, r4, h4, h⟩ := bnd_ok (by exact fun hi => Pars.Good.pure _) h
  obtain ⟨rfl, h⟩ := Prod.mk.inj h
  cases h
  obtain ⟨rfl, hc⟩ := count_once hu h1
  have hu1 := u8s_right hu
  obtain ⟨rfl, ht⟩ := take_once h2
  have hu2 := u8s_right hu1
  have e3 := four_once hu2 h3
  subst e3
  have e4 := four_once (u8s_right hu2) h4
  subst e4
  have hb := bytes_str (u8s_left hu1)
  have hs : ((strOfNums t).size : Int) = c := by rw [← bytesOf_length, hb, ht]; omega
  unfold rgL
  simp only
  rw [hb, hs]
  simp [List.append_assoc]
theorem sub_once (l : List Int) (x : S40) (r : List Int) (hu : u8s l) (h : subP ⟨l, 0⟩ = (x, ⟨r, 0⟩)) : l = subL x ++ r := by
  unfold subP at h
  obtain ⟨a, r1, h1, h⟩ := bnd_ok (by exact fun a => Pars.Good.bnd (Pars.Good.num 2) fun fr => Pars.Good.bnd (Pars.Good.count 12) fun n => Pars.Good.bnd (Pars.Good.rep good_rg n.toNat) fun rs => Pars.Good.pure _) h
  obtain ⟨b, r2, h2, h⟩ := bnd_ok (by exact fun fr => Pars.Good.bnd (Pars.Good.count 12) fun n => Pars.Good.bnd (Pars.Good.rep good_rg n.toNat) fun rs => Pars.Good.pure _) h
  obtain ⟨n, r3, h3, h⟩ := bnd_ok (by exact fun n => Pars.Good.bnd (Pars.Good.rep good_rg n.toNat) fun rs => Pars.Good.pure _) h
  obtain ⟨rs, r4, h4, h⟩ := bnd_ok (by exact fun rs => Pars.Good.pure _) h
  obtain ⟨rfl, h⟩ := Prod.mk.inj h
  cases h
  have e1 := two_once hu h1
  subst e1
  have hu1 := u8s_right hu
  have e2 := two_once hu1 h2
  subst e2
  have hu2 := u8s_right hu1
  obtain ⟨rfl, hn⟩ := count_once hu2 h3
  have hu3 := u8s_right hu2
  obtain ⟨e4, e5⟩ := Pars.rep_once good_rg rgL u8s (fun _ _ => u8s_right) rg_once n.toNat _ _ _ hu3 h4
  subst e5
  unfold subL
  simp only
  rw [show (rs.length : Int) = n by omega]
  simp [List.append_assoc]
theorem f_once {l r : List Int} {links : List Int} {subs : List S40} (hu : u8s l) (h : fP ⟨l, 0⟩ = ((links, subs), ⟨r, 0⟩)) : l = bodyL links subs ++ r := by
  unfold fP at h
  obtain ⟨n, r1, h1, h⟩ := bnd_ok (by exact fun n => Pars.Good.bnd (Pars.Good.rep (Pars.Good.num 2) n.toNat) fun links => Pars.Good.bnd (Pars.Good.count 64) fun m => Pars.Good.bnd (Pars.Good.rep good_sub m.toNat) fun subs => Pars.Good.pure _) h
  obtain ⟨lk, r2, h2, h⟩ := bnd_ok (by exact fun links => Pars.Good.bnd (Pars.Good.count 64) fun m => Pars.Good.bnd (Pars.Good.rep good_sub m.toNat) fun subs => Pars.Good.pure _) h
  obtain ⟨m, r3, h3, h⟩ := bnd_ok (by exact fun m => Pars.Good.bnd (Pars.Good.rep good_sub m.toNat) fun subs => Pars.Good.pure _) h
  obtain ⟨sb, r4, h4, h⟩ := bnd_ok (by exact fun subs => Pars.Good.pure _) h
  obtain ⟨hh, h⟩ := Prod.mk.inj h
  obtain ⟨rfl, rfl⟩ := Prod.mk.inj hh
  cases h
  obtain ⟨rfl, hn⟩ := count_once hu h1
  have hu1 := u8s_right hu
  obtain ⟨e2, e3⟩ := Pars.rep_once (Pars.Good.num 2) twoB u8s (fun _ _ => u8s_right) (fun l v r hl h => two_once hl h) n.toNat _ _ _ hu1 h2
  subst e3
  have hu2 := u8s_right hu1
  obtain ⟨rfl, hm⟩ := count_once hu2 h3
  have hu3 := u8s_right hu2
  obtain ⟨e4, e5⟩ := Pars.rep_once good_sub subL u8s (fun _ _ => u8s_right) sub_once m.toNat _ _ _ hu3 h4
  subst e5
  unfold bodyL
  rw [show (lk.length : Int) = n by omega, show (sb.length : Int) = m by omega]
  simp [List.append_assoc]
theorem dec_back {links : List Int} {subs : List S40} (hr : rightB links subs = true) : dec15 (encL links subs) = ((links, subs), 0) := by
  have hb := f_back (fit_of hr) []
  rw [List.append_nil] at hb
  rw [enc_body, dec_head, hb]
  have e : (⟨[], 0⟩ : Sc).endE = 0 := rfl
  simp only [e]
  rw [if_neg (by decide), if_pos hr]
theorem dec_bad {l : List Int} (h : (dec15 l).2 ≠ 0) : (dec15 l).1 = ([], []) := by
  unfold dec15 at h ⊢
  repeat' split
  all_goals first | rfl | (simp_all)
theorem dec_once {l : List Int} (hu : u8s l) (h : (dec15 l).2 = 0) : rightB (dec15 l).1.1 (dec15 l).1.2 = true ∧ encL (dec15 l).1.1 (dec15 l).1.2 = l := by
  by_cases h1 : l.length < 4
  · unfold dec15 at h
    rw [if_pos h1] at h
    cases h
  by_cases h2 : l.take 3 ≠ [82, 83, 84]
  · unfold dec15 at h
    rw [if_neg h1, if_pos h2] at h
    cases h
  by_cases h3 : l.take 4 ≠ [82, 83, 84, 1]
  · unfold dec15 at h
    rw [if_neg h1, if_neg h2, if_pos h3] at h
    cases h
  have h3' : l.take 4 = [82, 83, 84, 1] := Classical.byContradiction h3
  have hl : l = [82, 83, 84, 1] ++ l.drop 4 := by rw [← h3', List.take_append_drop]
  have hu' : u8s (l.drop 4) := u8s_drop hu 4
  generalize l.drop 4 = m at hl hu'
  subst hl
  rw [dec_head] at h ⊢
  obtain ⟨⟨⟨lk, sb⟩, s⟩, hf⟩ : ∃ p, fP ⟨m, 0⟩ = p := ⟨_, rfl⟩
  rw [hf] at h ⊢
  simp only at h ⊢
  by_cases he : s.endE ≠ 0
  · rw [if_pos he] at h
    exact absurd h he
  · have he' : s.endE = 0 := Classical.byContradiction he
    rw [if_neg he] at h ⊢
    by_cases hr : rightB lk sb = true
    · rw [if_pos hr]
      refine ⟨hr, ?_⟩
      unfold Sc.endE at he'
      split at he'
      · cases he'
      · rename_i hn
        have hs0 : s.l = [] := by
          cases hsl : s.l with
          | nil => rfl
          | cons a b => exact absurd ⟨he', by rw [hsl]; simp⟩ hn
        have hs : s = ⟨[], 0⟩ := by cases s; simp only at he' hs0; rw [he', hs0]
        rw [hs] at hf
        have := f_once hu' hf
        rw [List.append_nil] at this
        rw [enc_body, ← this]
    · rw [if_neg hr] at h
      cases h
/-- a state is the same as itself -/
theorem ints_self (l : List Int) (hl : l.length ≤ 4611686018427387904) : ∀ (d k i : Nat), i + d = l.length → d < k → rosetteref11_Ints.l0 k l l (i : Int) = some true := by
  intro d
  induction d with
  | zero =>
    intro k i hi hk
    obtain ⟨k, rfl⟩ : ∃ m, k = m + 1 := ⟨k - 1, by omega⟩
    simp only [rosetteref11_Ints.l0]
    rw [if_neg (by omega)]
  | succ d ih =>
    intro k i hi hk
    obtain ⟨k, rfl⟩ : ∃ m, k = m + 1 := ⟨k - 1, by omega⟩
    simp only [rosetteref11_Ints.l0]
    rw [if_pos (by omega), if_pos (by omega), if_pos (by omega), if_pos trivial, show wrap64 ((i : Int) + 1) = ((i + 1 : Nat) : Int) by unfold wrap64; omega]
    exact ih k (i + 1) (by omega) (by omega)
theorem same_in (l : List Int) (s : List S40) (hs : s.length ≤ 4611686018427387904) (i : Nat) (hi : i < s.length) (f0 f1 : Int) (f2 : List S46) (hf : f2.length ≤ 4611686018427387904)
    (h0 : ∃ K, ∀ k, K ≤ k → rosetteref15_Same.l0 k ((i + 1 : Nat) : Int) l s l s = some true) : ∀ (d j : Nat), j + d = f2.length → ∃ K, ∀ k, K ≤ k → rosetteref15_Same.l1 k (i : Int) (j : Int) l s l s f0 f1 f2 f0 f1 f2 = some true := by
  intro d
  induction d with
  | zero =>
    intro j hj
    obtain ⟨K, h⟩ := h0
    refine ⟨K + 1, fun k hk => ?_⟩
    obtain ⟨k, rfl⟩ : ∃ m, k = m + 1 := ⟨k - 1, by omega⟩
    simp only [rosetteref15_Same.l1]
    rw [if_neg (by omega), show wrap64 ((i : Int) + 1) = ((i + 1 : Nat) : Int) by unfold wrap64; omega]
    exact h k (by omega)
  | succ d ih =>
    intro j hj
    obtain ⟨K, h⟩ := ih (j + 1) (by omega)
    refine ⟨K + 1, fun k hk => ?_⟩
    obtain ⟨k, rfl⟩ : ∃ m, k = m + 1 := ⟨k - 1, by omega⟩
    simp only [rosetteref15_Same.l1]
    rw [if_pos (by omega), if_pos (by omega), if_pos (by omega), if_neg (by simp), show wrap64 ((j : Int) + 1) = ((j + 1 : Nat) : Int) by unfold wrap64; omega]
    exact h k (by omega)
theorem same_out (l : List Int) (s : List S40) (hs : s.length ≤ 4611686018427387904) (hr : ∀ x ∈ s, x.f2.length ≤ 4611686018427387904) : ∀ (d i : Nat), i + d = s.length → ∃ K, ∀ k, K ≤ k → rosetteref15_Same.l0 k (i : Int) l s l s = some true := by
  intro d
  induction d with
  | zero =>
    intro i hi
    refine ⟨1, fun k hk => ?_⟩
    obtain ⟨k, rfl⟩ : ∃ m, k = m + 1 := ⟨k - 1, by omega⟩
    simp only [rosetteref15_Same.l0]
    rw [if_neg (by omega)]
  | succ d ih =>
    intro i hi
    have hi' : i < s.length := by omega
    have e : rd_T40 s (i : Int) = s[i] := by simp [rd_T40, List.getD_eq_getElem?_getD, hi']
    obtain ⟨K, h⟩ := same_in l s hs i hi' (rd_T40 s (i : Int)).f0 (rd_T40 s (i : Int)).f1 (rd_T40 s (i : Int)).f2 (by rw [e]; exact hr _ (List.getElem_mem hi')) (ih (i + 1) (by omega)) (rd_T40 s (i : Int)).f2.length 0 (by omega)
    refine ⟨K + 2, fun k hk => ?_⟩
    obtain ⟨k, rfl⟩ : ∃ m, k = m + 2 := ⟨k - 2, by omega⟩
    have c1 : (i : Int) < (s.length : Int) := by omega
    have c2 : (0 : Int) ≤ (i : Int) := by omega
    simp only [rosetteref15_Same.l0, rosetteref15_Same.j2, c1, c2, if_true, bne_self_eq_false, Bool.false_eq_true, if_false]
    exact h k (by omega)
theorem same_self (l : List Int) (s : List S40) (hl : l.length ≤ 4611686018427387904) (hs : s.length ≤ 4611686018427387904) (hr : ∀ x ∈ s, x.f2.length ≤ 4611686018427387904) : ∃ K, ∀ k, K ≤ k → rosetteref15_Same.f k l s l s = some true := by
  obtain ⟨K, h⟩ := same_out l s hs hr s.length 0 (by omega)
  refine ⟨K + l.length + 2, fun k hk => ?_⟩
  have hi : rosetteref11_Ints.f k l l = some true := by
    unfold rosetteref11_Ints.f
    rw [if_pos rfl]
    exact ints_self l hl l.length k 0 (by omega) (by omega)
  unfold rosetteref15_Same.f
  rw [hi, Option.bind_some, if_pos rfl]
  obtain ⟨k, rfl⟩ : ∃ m, k = m + 1 := ⟨k - 1, by omega⟩
  simp only [rosetteref15_Same.j0]
  rw [if_neg (by simp)]
  exact h k (by omega)
theorem fuel_up {α : Type} {f : Nat → Option α} (h : ∀ k, LeO (f k) (f (k + 1))) {k : Nat} {b : α} (hb : f k = some b) : ∀ d, f (k + d) = some b := by
  intro d
  induction d with
  | zero => exact hb
  | succ d ih => exact h _ _ ih
end Go.Proofs.Ytkdhcmmfklganaa
end
