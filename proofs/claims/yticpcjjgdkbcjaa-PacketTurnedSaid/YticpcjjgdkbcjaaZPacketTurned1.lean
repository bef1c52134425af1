import Derived.Test.YticpcjjgdkbcjaaZPacketTurned0
import Derived.BigQuiet
import Derived.Deep.QuietTactic
import Derived.Laws.BitsAllLaws
import Derived.Deep.CutRange
import Derived.Lib.ConvBytes
import Derived.Deep.DeepCutAuto
import Derived.Outline
section
-- Written by a program of this session (wip/tools/myprint.py), over the kit's print.
namespace Go.Proofs.Yticpcjjgdkbcjaa.G
open Go.RowKit Go.Proofs.YticpcjjgdkbcjaaW.PrintWords Go.Proofs.YticpcjjgdkbcjaaW.PrintLast Go.Proofs.YticpcjjgdkbcjaaW.PrintMore
attribute [local go_sem] max2_int min2_int max_two min_two max_three min_three max_four min_four   -- for this text's walks alone
set_option linter.unusedVariables false
set_option linter.unusedSimpArgs false

/-! ### packet_Encode: function 9 -/
mutual
def packet_Encode.j0 : Nat → List Int → Int → Int → Int → Int → Int → List Int → Option (List Int × Bool)
  | 0, _, _, _, _, _, _, _ => none
  | k + 1, x4, x113000, x113001, x113002, x113003, x113004, x113005 => if x113000 = 2 then (packet_Encode.j1 k x4 true x113000 x113001 x113002 x113003 x113004 x113005) else (packet_Encode.j1 k x4 (x113000 == 3) x113000 x113001 x113002 x113003 x113004 x113005)
def packet_Encode.j1 : Nat → List Int → Bool → Int → Int → Int → Int → Int → List Int → Option (List Int × Bool)
  | 0, _, _, _, _, _, _, _, _ => none
  | k + 1, x4, x37, x113000, x113001, x113002, x113003, x113004, x113005 => if x37 = true then ((wire_Put.f x4 (IntKind.u64.wrap (x113002))).bind fun t126 => (packet_Encode.j2 k t126 x113000 x113001 x113002 x113003 x113004 x113005)) else (packet_Encode.j2 k x4 x113000 x113001 x113002 x113003 x113004 x113005)
def packet_Encode.j2 : Nat → List Int → Int → Int → Int → Int → Int → List Int → Option (List Int × Bool)
  | 0, _, _, _, _, _, _, _ => none
  | k + 1, x4, x113000, x113001, x113002, x113003, x113004, x113005 => if (x113005.length : Int) > 0 then ((wire_PutText.f x4 (strOfNums x113005)).bind fun t129 => ((frame_Make.f t129).bind fun bt132 => (some (bt132.1, (bt132.2 == 0))))) else ((frame_Make.f x4).bind fun bt136 => (some (bt136.1, (bt136.2 == 0))))
end
def packet_Encode.f (k : Nat) (a0_0 : Int) (a0_1 : Int) (a0_2 : Int) (a0_3 : Int) (a0_4 : Int) (l0_5 : List Int) : Option (List Int × Bool) := (packet_right.f a0_0 a0_1 a0_2 a0_3 a0_4 l0_5).bind fun t113 => (if t113 = true then ((wire_Put.f ([] : List Int) (IntKind.u64.wrap (a0_0))).bind fun t114 => ((wire_Put.f t114 (IntKind.u64.wrap (a0_1))).bind fun t117 => (if a0_0 = 1 then ((wire_Put.f t117 (IntKind.u64.wrap (a0_3))).bind fun t120 => ((wire_Put.f t120 (IntKind.u64.wrap (a0_4))).bind fun t123 => (packet_Encode.j0 k t123 a0_0 a0_1 a0_2 a0_3 a0_4 l0_5))) else (packet_Encode.j0 k t117 a0_0 a0_1 a0_2 a0_3 a0_4 l0_5)))) else (some (([] : List Int), false)))
theorem packet_Encode.mono_l : ∀ k, (∀ y0 y1 y2 y3 y4 y5 y6, LeO (packet_Encode.j0 k y0 y1 y2 y3 y4 y5 y6) (packet_Encode.j0 (k + 1) y0 y1 y2 y3 y4 y5 y6)) ∧ (∀ y0 y1 y2 y3 y4 y5 y6 y7, LeO (packet_Encode.j1 k y0 y1 y2 y3 y4 y5 y6 y7) (packet_Encode.j1 (k + 1) y0 y1 y2 y3 y4 y5 y6 y7)) ∧ (∀ y0 y1 y2 y3 y4 y5 y6, LeO (packet_Encode.j2 k y0 y1 y2 y3 y4 y5 y6) (packet_Encode.j2 (k + 1) y0 y1 y2 y3 y4 y5 y6))
  | 0 => ⟨fun _ _ _ _ _ _ _ r h => by simp [packet_Encode.j0] at h, fun _ _ _ _ _ _ _ _ r h => by simp [packet_Encode.j1] at h, fun _ _ _ _ _ _ _ r h => by simp [packet_Encode.j2] at h⟩
  | k + 1 => by
    obtain ⟨ih0, ih1, ih2⟩ := packet_Encode.mono_l k
    refine ⟨?_, ?_, ?_⟩
    · intro y0 y1 y2 y3 y4 y5 y6
      unfold packet_Encode.j0
      repeat' first
      | (with_reducible exact ih0 _ _ _ _ _ _ _)
      | (with_reducible exact ih1 _ _ _ _ _ _ _ _)
      | (with_reducible exact ih2 _ _ _ _ _ _ _)
      | (with_reducible exact LeO.refl _)
      | (with_reducible exact LeO.none _)
      | (with_reducible refine LeO.ite ?_ ?_)
      | (with_reducible refine LeO.bind ?_ (fun _ => ?_))
      | exact ih0 _ _ _ _ _ _ _
      | exact ih1 _ _ _ _ _ _ _ _
      | exact ih2 _ _ _ _ _ _ _
      | exact LeO.none _
      | refine LeO.ite ?_ ?_
      | refine LeO.bind ?_ (fun _ => ?_)
    · intro y0 y1 y2 y3 y4 y5 y6 y7
      unfold packet_Encode.j1
      repeat' first
      | (with_reducible exact ih0 _ _ _ _ _ _ _)
      | (with_reducible exact ih1 _ _ _ _ _ _ _ _)
      | (with_reducible exact ih2 _ _ _ _ _ _ _)
      | (with_reducible exact LeO.refl _)
      | (with_reducible exact LeO.none _)
      | (with_reducible refine LeO.ite ?_ ?_)
      | (with_reducible refine LeO.bind ?_ (fun _ => ?_))
      | exact ih0 _ _ _ _ _ _ _
      | exact ih1 _ _ _ _ _ _ _ _
      | exact ih2 _ _ _ _ _ _ _
      | exact LeO.none _
      | refine LeO.ite ?_ ?_
      | refine LeO.bind ?_ (fun _ => ?_)
    · intro y0 y1 y2 y3 y4 y5 y6
      unfold packet_Encode.j2
      repeat' first
      | (with_reducible exact ih0 _ _ _ _ _ _ _)
      | (with_reducible exact ih1 _ _ _ _ _ _ _ _)
      | (with_reducible exact ih2 _ _ _ _ _ _ _)
      | (with_reducible exact LeO.refl _)
      | (with_reducible exact LeO.none _)
      | (with_reducible refine LeO.ite ?_ ?_)
      | (with_reducible refine LeO.bind ?_ (fun _ => ?_))
      | exact ih0 _ _ _ _ _ _ _
      | exact ih1 _ _ _ _ _ _ _ _
      | exact ih2 _ _ _ _ _ _ _
      | exact LeO.none _
      | refine LeO.ite ?_ ?_
      | refine LeO.bind ?_ (fun _ => ?_)
theorem packet_Encode.mono : ∀ a0 a1 a2 a3 a4 a5 k, LeO (packet_Encode.f k a0 a1 a2 a3 a4 a5) (packet_Encode.f (k + 1) a0 a1 a2 a3 a4 a5) := by
  intro a0 a1 a2 a3 a4 a5 k
  obtain ⟨ih0, ih1, ih2⟩ := packet_Encode.mono_l k
  unfold packet_Encode.f
  repeat' first
      | (with_reducible exact ih0 _ _ _ _ _ _ _)
      | (with_reducible exact ih1 _ _ _ _ _ _ _ _)
      | (with_reducible exact ih2 _ _ _ _ _ _ _)
      | (with_reducible exact LeO.refl _)
      | (with_reducible exact LeO.none _)
      | (with_reducible refine LeO.ite ?_ ?_)
      | (with_reducible refine LeO.bind ?_ (fun _ => ?_))
      | exact ih0 _ _ _ _ _ _ _
      | exact ih1 _ _ _ _ _ _ _ _
      | exact ih2 _ _ _ _ _ _ _
      | exact LeO.none _
      | refine LeO.ite ?_ ?_
      | refine LeO.bind ?_ (fun _ => ?_)
def packet_Encode.T3 : Bool × List (List Nat × List Nat) := (true, [([], []), ([0], [0]), ([1], [1]), ([2], [2]), ([], []), ([4], [4]), ([5], [5]), ([3, 6, 3], [3, 6]), ([7, 7, 0, 1, 2, 3, 4, 5, 6, 7], [7])])
def packet_Encode.B3 : List Nat := [0, 1, 3, 7, 0, 16, 48, 127, 255]
theorem packet_Encode.tab3 : rtab .any (opsOf Try.f9 3) = packet_Encode.T3 := by kernel_rfl
theorem packet_Encode.bits3 : waitsOk packet_Encode.T3.2 packet_Encode.B3 = true := by kernel_rfl
def packet_Encode.T5 : Bool × List (List Nat × List Nat) := (true, [([], []), ([], []), ([1], [1]), ([2], [2]), ([0, 3], [0, 3]), ([], []), ([5], [5]), ([6], [6]), ([4, 7, 4], [4, 7]), ([8, 8, 0, 1, 2, 3, 4, 5, 6, 7, 8], [0, 8])])
def packet_Encode.B5 : List Nat := [0, 0, 2, 6, 15, 0, 32, 96, 255, 511]
theorem packet_Encode.tab5 : rtab .any (opsOf Try.f9 5) = packet_Encode.T5 := by kernel_rfl
theorem packet_Encode.bits5 : waitsOk packet_Encode.T5.2 packet_Encode.B5 = true := by kernel_rfl
set_option maxHeartbeats 8000000 in
set_option maxRecDepth 100000 in
theorem packet_Encode.calls (k : Nat) (a0_0 : Int) (a0_1 : Int) (a0_2 : Int) (a0_3 : Int) (a0_4 : Int) (A0_5 : Option Addr) (c0_5 : Nat) (l0_5 : List Int) (r1 : List Int) (r2 : Bool) (w : World) (hr0_5 : Kd.C (Kd.int .u8) w A0_5 l0_5.length l0_5) (hc0_5 : l0_5.length ≤ c0_5) (h : packet_Encode.f k a0_0 a0_1 a0_2 a0_3 a0_4 l0_5 = some (r1, r2)) :
    Calls Try.prog 9 #[.agg #[.int .i64 a0_0, .int .i64 a0_1, .int .i64 a0_2, .int .i64 a0_3, .int .u32 a0_4, .slice A0_5 l0_5.length c0_5]] w fun e w' => ∃ v0_ : Value, e = .returned (.tuple #[v0_, .bool r2]) ∧ Kd.R (Kd.int .u8) 5 w' w.heap.size (fun _ => True) v0_ r1 ∧ Below w.heap.size w w' := by
  have hu25 := Try.underlying25
  have HR0_5 := Aside0.mk hr0_5
  have HC0_5 := Aside0.mk hc0_5
  clear hr0_5 hc0_5
  have HB := Aside0.mk (Below.refl w.heap.size w)
  have H : ((packet_right.f a0_0 a0_1 a0_2 a0_3 a0_4 l0_5).bind fun t113 => (if t113 = true then ((wire_Put.f ([] : List Int) (IntKind.u64.wrap (a0_0))).bind fun t114 => ((wire_Put.f t114 (IntKind.u64.wrap (a0_1))).bind fun t117 => (if a0_0 = 1 then ((wire_Put.f t117 (IntKind.u64.wrap (a0_3))).bind fun t120 => ((wire_Put.f t120 (IntKind.u64.wrap (a0_4))).bind fun t123 => (packet_Encode.j0 k t123 a0_0 a0_1 a0_2 a0_3 a0_4 l0_5))) else (packet_Encode.j0 k t117 a0_0 a0_1 a0_2 a0_3 a0_4 l0_5)))) else (some (([] : List Int), false)))) = some (r1, r2) := h
  clear h
  replace H := Option.bind_eq_some_iff.mp H
  obtain ⟨t113, A20, H⟩ := H
  replace H : (if t113 = true then ((wire_Put.f ([] : List Int) (IntKind.u64.wrap (a0_0))).bind fun t114 => ((wire_Put.f t114 (IntKind.u64.wrap (a0_1))).bind fun t117 => (if a0_0 = 1 then ((wire_Put.f t117 (IntKind.u64.wrap (a0_3))).bind fun t120 => ((wire_Put.f t120 (IntKind.u64.wrap (a0_4))).bind fun t123 => (packet_Encode.j0 k t123 a0_0 a0_1 a0_2 a0_3 a0_4 l0_5))) else (packet_Encode.j0 k t117 a0_0 a0_1 a0_2 a0_3 a0_4 l0_5)))) else (some (([] : List Int), false))) = some (r1, r2) := H
  have A2 := Aside0.mk A20
  clear A20
  by_cases c3 : t113 = true
  · subst c3
    have H1 : ((wire_Put.f ([] : List Int) (IntKind.u64.wrap (a0_0))).bind fun t114 => ((wire_Put.f t114 (IntKind.u64.wrap (a0_1))).bind fun t117 => (if a0_0 = 1 then ((wire_Put.f t117 (IntKind.u64.wrap (a0_3))).bind fun t120 => ((wire_Put.f t120 (IntKind.u64.wrap (a0_4))).bind fun t123 => (packet_Encode.j0 k t123 a0_0 a0_1 a0_2 a0_3 a0_4 l0_5))) else (packet_Encode.j0 k t117 a0_0 a0_1 a0_2 a0_3 a0_4 l0_5)))) = some (r1, r2) := by rw [if_pos rfl] at H; exact H
    clear H
    have H := H1
    clear H1
    replace H := Option.bind_eq_some_iff.mp H
    obtain ⟨t114, A40, H⟩ := H
    replace H : ((wire_Put.f t114 (IntKind.u64.wrap (a0_1))).bind fun t117 => (if a0_0 = 1 then ((wire_Put.f t117 (IntKind.u64.wrap (a0_3))).bind fun t120 => ((wire_Put.f t120 (IntKind.u64.wrap (a0_4))).bind fun t123 => (packet_Encode.j0 k t123 a0_0 a0_1 a0_2 a0_3 a0_4 l0_5))) else (packet_Encode.j0 k t117 a0_0 a0_1 a0_2 a0_3 a0_4 l0_5))) = some (r1, r2) := H
    have A4 := Aside0.mk A40
    clear A40
    replace H := Option.bind_eq_some_iff.mp H
    obtain ⟨t117, A50, H⟩ := H
    replace H : (if a0_0 = 1 then ((wire_Put.f t117 (IntKind.u64.wrap (a0_3))).bind fun t120 => ((wire_Put.f t120 (IntKind.u64.wrap (a0_4))).bind fun t123 => (packet_Encode.j0 k t123 a0_0 a0_1 a0_2 a0_3 a0_4 l0_5))) else (packet_Encode.j0 k t117 a0_0 a0_1 a0_2 a0_3 a0_4 l0_5)) = some (r1, r2) := H
    have A5 := Aside0.mk A50
    clear A50
    have HC6 := Aside0.mk H
    clear H
    go_enter Try.func9, Try.ntmps9
    try go_wp2_with (first | ((with_reducible refine gate_dst (N := 1) rfl ?_); refine box_event ?hg (N := 1) ?hd (cs := #[.int .i64 a0_0, .int .i64 a0_1, .int .i64 a0_2, .int .i64 a0_3, .int .u32 a0_4, .slice A0_5 l0_5.length c0_5]) (t := 25) ?hr ?_; (case hd => rfl); (case hg => rfl); (case hr => first | (go_simp; done) | (go_simp; rfl)); intro gb112 hg w7 hbox hb; have n0_ := Aside0.mk (below_step (by repeat (first | (with_reducible first | exact HB.out | apply below_alloc | apply pw_below_drewN | apply below_drew1) | exact HB.out)) hb); have n1_ := Aside0.mk (hbox); have n2_ := Aside0.mk ((by rw [hg]; exact (below_size (by repeat (first | (with_reducible first | exact HB.out | apply below_alloc | apply pw_below_drewN | apply below_drew1) | exact HB.out))) : w.heap.size ≤ gb112)); have n3_ := Aside0.mk ((by rw [hg]; exact (below_size (by repeat (first | (with_reducible first | exact HB.out | apply below_alloc | apply pw_below_drewN | apply below_drew1) | exact HB.out))) : w.heap.size ≤ gb112)); clear HB; have HB := n0_; have BK112 := n1_; have GW112 := n2_; have GE112 := n3_; clear n0_ n1_ n2_ n3_; clear hb hbox hg; have hcz8_0 : w7.cell? ⟨gb112, 0, none⟩ = some (.int .i64 a0_0) := (blk_cell BK112.out 0).trans rfl; have hcz8_1 : w7.cell? ⟨gb112, 1, none⟩ = some (.int .i64 a0_1) := (blk_cell BK112.out 1).trans rfl; have hcz8_2 : w7.cell? ⟨gb112, 2, none⟩ = some (.int .i64 a0_2) := (blk_cell BK112.out 2).trans rfl; have hcz8_3 : w7.cell? ⟨gb112, 3, none⟩ = some (.int .i64 a0_3) := (blk_cell BK112.out 3).trans rfl; have hcz8_4 : w7.cell? ⟨gb112, 4, none⟩ = some (.int .u32 a0_4) := (blk_cell BK112.out 4).trans rfl; have hcz8_5 : w7.cell? ⟨gb112, 5, none⟩ = some (.slice A0_5 l0_5.length c0_5) := (blk_cell BK112.out 5).trans rfl; have hfz8_0 := blk_frozen BK112.out 0; have hfz8_1 := blk_frozen BK112.out 1; have hfz8_2 := blk_frozen BK112.out 2; have hfz8_3 := blk_frozen BK112.out 3; have hfz8_4 := blk_frozen BK112.out 4; have hfz8_5 := blk_frozen BK112.out 5) | ((with_reducible refine gate_callee (f := 17) rfl ?_); refine goesL_ (some 8) rfl rfl Try.func17 (by kernel_rfl) rfl #[.agg #[.int .i64 a0_0, .int .i64 a0_1, .int .i64 a0_2, .int .i64 a0_3, .int .u32 a0_4, .slice A0_5 l0_5.length c0_5]] rfl (by (try simp only [List.map_toArray, List.map_cons, List.map_nil]); first | done | rfl | (simp only [List.length_drop, List.length_take]; rfl)) ?_; (with_reducible refine (packet_right.calls a0_0 a0_1 a0_2 a0_3 a0_4 _ _ l0_5 true _ ?side1 ?side2 A2.out).mono ?_); (case side1 => repeat (first | exact (Kd.C_below HR0_5.out HB.out) | (with_reducible refine Kd.C_alloc ?_ _) | (with_reducible refine Kd.C_drewN ?_ _) | (with_reducible refine Kd.C_drew ?_))); (case side2 => exact HC0_5.out); rintro e w9 ⟨rfl, hb⟩; refine ⟨_, rfl, ?_⟩; have n0_ := Aside0.mk (blk_below (g := gb112) (o := .cells #[.int .i64 a0_0, .int .i64 a0_1, .int .i64 a0_2, .int .i64 a0_3, .int .u32 a0_4, .slice A0_5 l0_5.length c0_5] 25 (0, 0)) (by (with_reducible repeat (first | refine blk_drewN ?_ _ | refine blk_drew ?_ | refine blk_alloc ?_ _)); exact BK112.out) hb); have n1_ := Aside0.mk (below_step (by repeat (first | (with_reducible first | exact HB.out | apply below_alloc | apply pw_below_drewN | apply below_drew1 | refine below_set ?_ GE112.out) | exact HB.out)) hb); clear BK112; clear HB; have BK112 := n0_; have HB := n1_; clear n0_ n1_; (try clear hb); (try clear hb2); (try clear hk); (try clear hi)))
    have n0_ := Aside0.mk (blk_drew BK112.out)
    have n1_ := Aside0.mk (below_drew1 HB.out)
    clear BK112
    clear HB
    have BK112 := n0_
    have HB := n1_
    clear n0_ n1_
    refine start_ (n := 9) (S := fun w' => w'.cell? ⟨gb112, 0, none⟩ = some (.int .i64 a0_0) ∧ w'.cell? ⟨gb112, 1, none⟩ = some (.int .i64 a0_1) ∧ w'.cell? ⟨gb112, 2, none⟩ = some (.int .i64 a0_2) ∧ w'.cell? ⟨gb112, 3, none⟩ = some (.int .i64 a0_3) ∧ w'.cell? ⟨gb112, 4, none⟩ = some (.int .u32 a0_4) ∧ w'.cell? ⟨gb112, 5, none⟩ = some (.slice A0_5 l0_5.length c0_5)) (ds := []) #[false, false, false, false, false, false, false, false, false] (by kernel_rfl) rfl rfl ⟨(blk_cell BK112.out 0).trans rfl, (blk_cell BK112.out 1).trans rfl, (blk_cell BK112.out 2).trans rfl, (blk_cell BK112.out 3).trans rfl, (blk_cell BK112.out 4).trans rfl, (blk_cell BK112.out 5).trans rfl⟩ (fun hHeld => ?_); refine with_tabW packet_Encode.tab3 packet_Encode.bits3 (fun HT_ HW_ => ?_)
    generalize w9.drew = w10 at BK112 HB hHeld ⊢
    refine pure_ (i := 0) (N := some 10) (v := ?_) (a' := ?_) #[true, false, false, false, false, false, false, false, false] rfl rfl (any_of HT_.out (by kernel_rfl)) (fun _ _ _ h => h) (Or.inl ⟨by rfl, ?_⟩) ?_ ?_
    rotate_left
    · intro w'
      go_simp
      with_reducible rfl
    rotate_left
    · simp only [Act.put, List.setIfInBounds_toArray, List.set_cons_zero, List.set_cons_succ, i64_w, i32_w]
      rfl
    refine pure_ (i := 4) (N := some 14) (v := ?_) (a' := ?_) #[true, false, false, false, true, false, false, false, false] rfl rfl (any_of HT_.out (by kernel_rfl)) (fun _ _ _ h => h) (Or.inl ⟨by rfl, ?_⟩) ?_ ?_
    rotate_left
    · intro w'
      go_simp
      with_reducible rfl
    rotate_left
    · simp only [Act.put, List.setIfInBounds_toArray, List.set_cons_zero, List.set_cons_succ, i64_w, i32_w]
      rfl
    refine take_ (i := 1) (N := some 11) (v := ?_) (a' := ?_) #[true, true, false, false, true, false, false, false, false] rfl rfl (take_ofW HT_.out HW_.out (by kernel_rfl)) (fun _ _ _ h => h) (Or.inl ⟨by rfl, ?_⟩) hHeld ?_ ?_
    rotate_left
    · rintro w' ⟨s0, s1, s2, s3, s4, s5⟩
      go_simp
      with_reducible rfl
    rotate_left
    · simp only [Act.put, List.setIfInBounds_toArray, List.set_cons_zero, List.set_cons_succ, i64_w, i32_w]
      rfl
    refine pure_ (i := 2) (N := some 12) (v := ?_) (a' := ?_) #[true, true, true, false, true, false, false, false, false] rfl rfl (any_of HT_.out (by kernel_rfl)) (fun _ _ _ h => h) (Or.inl ⟨by rfl, ?_⟩) ?_ ?_
    rotate_left
    · intro w'
      go_simp
      with_reducible rfl
    rotate_left
    · simp only [Act.put, List.setIfInBounds_toArray, List.set_cons_zero, List.set_cons_succ, i64_w, i32_w]
      rfl
    refine take_ (i := 5) (N := some 15) (v := ?_) (a' := ?_) #[true, true, true, false, true, true, false, false, false] rfl rfl (take_ofW HT_.out HW_.out (by kernel_rfl)) (fun _ _ _ h => h) (Or.inl ⟨by rfl, ?_⟩) hHeld ?_ ?_
    rotate_left
    · rintro w' ⟨s0, s1, s2, s3, s4, s5⟩
      go_simp
      with_reducible rfl
    rotate_left
    · simp only [Act.put, List.setIfInBounds_toArray, List.set_cons_zero, List.set_cons_succ, i64_w, i32_w]
      rfl
    refine pure_ (i := 6) (N := some 16) (v := ?_) (a' := ?_) #[true, true, true, false, true, true, true, false, false] rfl rfl (any_of HT_.out (by kernel_rfl)) (fun _ _ _ h => h) (Or.inl ⟨by rfl, ?_⟩) ?_ ?_
    rotate_left
    · intro w'
      go_simp
      with_reducible rfl
    rotate_left
    · simp only [Act.put, List.setIfInBounds_toArray, List.set_cons_zero, List.set_cons_succ, i64_w, i32_w]
      rfl
    refine one_ (i := 3) (N := some 13) #[true, true, true, true, true, true, true, false, false] rfl rfl (one_of HT_.out (by kernel_rfl)) (by decide) (fun K hK => ?_)
    refine goes_ Try.func18 (by kernel_rfl) rfl #[.slice none 0 0, .int .u64 (IntKind.u64.wrap (a0_0))] (by rfl) rfl rfl (by (try simp only [List.map_toArray, List.map_cons, List.map_nil]); first | done | rfl | (simp only [List.length_drop, List.length_take]; rfl)) ?_
    refine (wire_Put.calls _ _ ([] : List Int) (IntKind.u64.wrap (a0_0)) t114 _ ?side1 ?side2 A4.out).mono ?_
    (case side1 => exact Kd.C_nil _ _)
    (case side2 => exact Nat.le_refl _)
    rintro e w11 ⟨v115, rfl, ho0, hb⟩
    refine ⟨_, rfl, ?_⟩
    have n0_ := Aside0.mk (Kd.R_lower ho0 (below_size (by repeat (first | (with_reducible first | exact HB.out | apply below_alloc | apply pw_below_drewN | apply below_drew1 | refine below_set ?_ GE112.out) | exact HB.out))))
    have n1_ := Aside0.mk (blk_below (g := gb112) (o := .cells #[.int .i64 a0_0, .int .i64 a0_1, .int .i64 a0_2, .int .i64 a0_3, .int .u32 a0_4, .slice A0_5 l0_5.length c0_5] 25 (0, 0)) (by (with_reducible repeat (first | refine blk_drewN ?_ _ | refine blk_drew ?_ | refine blk_alloc ?_ _)); exact BK112.out) hb)
    have n2_ := Aside0.mk (below_step (by repeat (first | (with_reducible first | exact HB.out | apply below_alloc | apply pw_below_drewN | apply below_drew1 | refine below_set ?_ GE112.out) | exact HB.out)) hb)
    clear BK112
    clear HB
    have HO116 := n0_
    have BK112 := n1_
    have HB := n2_
    clear n0_ n1_ n2_
    (try clear hb)
    (try clear hb2)
    (try clear hk)
    (try clear hi)
    (try clear ho0)
    obtain ⟨Ao12, co12, eo12⟩ := Kd.R_slice HO116.out
    (first | subst eo12 | (injection eo12 with f1_ f2_ f3_; have f4_ := f1_.symm; have f5_ := f3_.symm; clear f1_ f2_ f3_; subst f4_; subst f5_))
    refine hK.out _ _ ⟨(blk_cell BK112.out 0).trans rfl, (blk_cell BK112.out 1).trans rfl, (blk_cell BK112.out 2).trans rfl, (blk_cell BK112.out 3).trans rfl, (blk_cell BK112.out 4).trans rfl, (blk_cell BK112.out 5).trans rfl⟩ (fun hHeld => ?_)
    clear hK K
    refine norm_ (a' := ?_) ?_ ?_
    rotate_left
    · show Act.put _ (some 13) _ = _
      simp only [Act.put, List.setIfInBounds_toArray, List.set_cons_zero, List.set_cons_succ, i64_w, i32_w]
      rfl
    refine one_ (i := 7) (N := some 17) #[true, true, true, true, true, true, true, true, false] rfl rfl (one_of HT_.out (by kernel_rfl)) (by decide) (fun K hK => ?_)
    refine goes_ Try.func18 (by kernel_rfl) rfl #[.slice Ao12 t114.length co12, .int .u64 (IntKind.u64.wrap (a0_1))] (by rfl) rfl rfl (by (try simp only [List.map_toArray, List.map_cons, List.map_nil]); first | done | rfl | (simp only [List.length_drop, List.length_take]; rfl)) ?_
    with_reducible refine (wire_Put.calls _ _ t114 (IntKind.u64.wrap (a0_1)) t117 _ ?side1 ?side2 A5.out).mono ?_
    (case side1 => repeat (first | exact (Kd.R_reads' HO116.out).2.2 | (with_reducible refine Kd.C_alloc ?_ _) | (with_reducible refine Kd.C_drewN ?_ _) | (with_reducible refine Kd.C_drew ?_)))
    (case side2 => exact (Kd.R_reads' HO116.out).2.1)
    rintro e w13 ⟨v118, rfl, ho0, hb⟩
    refine ⟨_, rfl, ?_⟩
    have n0_ := Aside0.mk (Kd.R_elder' (by (with_reducible repeat (first | apply Kd.R_alloc | apply Kd.R_drewN | apply Kd.R_drew)); exact HO116.out) (Kd.R_base ho0) hb)
    have n1_ := Aside0.mk (Kd.R_lower (Kd.R_new' ho0 (Kd.R_lt (by (with_reducible repeat (first | apply Kd.R_alloc | apply Kd.R_drewN | apply Kd.R_drew)); exact HO116.out))) (below_size (by repeat (first | (with_reducible first | exact HB.out | apply below_alloc | apply pw_below_drewN | apply below_drew1 | refine below_set ?_ GE112.out) | exact HB.out))))
    have n2_ := Aside0.mk (blk_below (g := gb112) (o := .cells #[.int .i64 a0_0, .int .i64 a0_1, .int .i64 a0_2, .int .i64 a0_3, .int .u32 a0_4, .slice A0_5 l0_5.length c0_5] 25 (0, 0)) (by (with_reducible repeat (first | refine blk_drewN ?_ _ | refine blk_drew ?_ | refine blk_alloc ?_ _)); exact BK112.out) hb)
    have n3_ := Aside0.mk (below_step (by repeat (first | (with_reducible first | exact HB.out | apply below_alloc | apply pw_below_drewN | apply below_drew1 | refine below_set ?_ GE112.out) | exact HB.out)) hb)
    clear HO116
    clear BK112
    clear HB
    have HO116 := n0_
    have HO119 := n1_
    have BK112 := n2_
    have HB := n3_
    clear n0_ n1_ n2_ n3_
    (try clear hb)
    (try clear hb2)
    (try clear hk)
    (try clear hi)
    (try clear ho0)
    refine hK.out _ _ ⟨(blk_cell BK112.out 0).trans rfl, (blk_cell BK112.out 1).trans rfl, (blk_cell BK112.out 2).trans rfl, (blk_cell BK112.out 3).trans rfl, (blk_cell BK112.out 4).trans rfl, (blk_cell BK112.out 5).trans rfl⟩ (fun hHeld => ?_)
    clear hK K
    refine norm_ (a' := ?_) ?_ ?_
    rotate_left
    · show Act.put _ (some 17) _ = _
      simp only [Act.put, List.setIfInBounds_toArray, List.set_cons_zero, List.set_cons_succ, i64_w, i32_w]
      rfl
    refine pure_ (i := 8) (N := some 4) (v := ?_) (a' := ?_) #[true, true, true, true, true, true, true, true, true] rfl rfl (any_of HT_.out (by kernel_rfl)) (fun _ _ _ h => h) (Or.inl ⟨by rfl, ?_⟩) ?_ ?_
    rotate_left
    · intro w'
      go_simp
      with_reducible rfl
    rotate_left
    · simp only [Act.put, List.setIfInBounds_toArray, List.set_cons_zero, List.set_cons_succ, i64_w, i32_w]
      rfl
    refine done_ (done_of HT_.out (by kernel_rfl)) ?_
    have hcz14_0 : w13.cell? ⟨gb112, 0, none⟩ = some (.int .i64 a0_0) := (blk_cell BK112.out 0).trans rfl
    have hcz14_1 : w13.cell? ⟨gb112, 1, none⟩ = some (.int .i64 a0_1) := (blk_cell BK112.out 1).trans rfl
    have hcz14_2 : w13.cell? ⟨gb112, 2, none⟩ = some (.int .i64 a0_2) := (blk_cell BK112.out 2).trans rfl
    have hcz14_3 : w13.cell? ⟨gb112, 3, none⟩ = some (.int .i64 a0_3) := (blk_cell BK112.out 3).trans rfl
    have hcz14_4 : w13.cell? ⟨gb112, 4, none⟩ = some (.int .u32 a0_4) := (blk_cell BK112.out 4).trans rfl
    have hcz14_5 : w13.cell? ⟨gb112, 5, none⟩ = some (.slice A0_5 l0_5.length c0_5) := (blk_cell BK112.out 5).trans rfl
    have hfz14_0 := blk_frozen BK112.out 0
    have hfz14_1 := blk_frozen BK112.out 1
    have hfz14_2 := blk_frozen BK112.out 2
    have hfz14_3 := blk_frozen BK112.out 3
    have hfz14_4 := blk_frozen BK112.out 4
    have hfz14_5 := blk_frozen BK112.out 5
    go_upto_if 20 with (fail)
    go_cut [4] (fun v4 wc => ∃ (kq : Nat) (x4_5 : List Int), Aside0 (packet_Encode.j0 kq x4_5 a0_0 a0_1 a0_2 a0_3 a0_4 l0_5 = some (r1, r2)) ∧ Aside0 (kq ≤ k) ∧ Aside0 (Kd.R (Kd.int .u8) 5 wc w.heap.size (fun _ => True) v4 x4_5) ∧ Aside0 (wc.heap[gb112]? = some (.cells #[.int .i64 a0_0, .int .i64 a0_1, .int .i64 a0_2, .int .i64 a0_3, .int .u32 a0_4, (.slice A0_5 l0_5.length c0_5)] 25 (0, 0))) ∧ Aside0 (Below w.heap.size w wc))
    case first =>
      have H := HC6.out
      clear HC6
      by_cases c15 : a0_0 = 1
      · rw [if_pos c15] at H
        have c15b0 : (a0_0 == 1) = true := beq_iff_eq.mpr c15
        have c15b1 : (a0_0 != 1) = false := bne_eq_false_iff_eq.mpr c15
        clear c15
        (first | rw [c15b0] | (simp only [i64_w, i32_w]; rw [c15b0]) | skip)
        replace H := Option.bind_eq_some_iff.mp H
        obtain ⟨t120, A160, H⟩ := H
        replace H : ((wire_Put.f t120 (IntKind.u64.wrap (a0_4))).bind fun t123 => (packet_Encode.j0 k t123 a0_0 a0_1 a0_2 a0_3 a0_4 l0_5)) = some (r1, r2) := H
        have A16 := Aside0.mk A160
        clear A160
        replace H := Option.bind_eq_some_iff.mp H
        obtain ⟨t123, A170, H⟩ := H
        replace H : (packet_Encode.j0 k t123 a0_0 a0_1 a0_2 a0_3 a0_4 l0_5) = some (r1, r2) := H
        have A17 := Aside0.mk A170
        clear A170
        have H' := Aside0.mk H
        clear H
        try go_wp2
        have n0_ := Aside0.mk (Kd.R_drew HO116.out)
        have n1_ := Aside0.mk (Kd.R_drew HO119.out)
        have n2_ := Aside0.mk (blk_drew BK112.out)
        have n3_ := Aside0.mk (below_drew1 HB.out)
        clear HO116
        clear HO119
        clear BK112
        clear HB
        have HO116 := n0_
        have HO119 := n1_
        have BK112 := n2_
        have HB := n3_
        clear n0_ n1_ n2_ n3_
        obtain ⟨Ao19, co19, eo19⟩ := Kd.R_slice HO119.out
        (first | subst eo19 | (injection eo19 with f1_ f2_ f3_; have f4_ := f1_.symm; have f5_ := f3_.symm; clear f1_ f2_ f3_; subst f4_; subst f5_))
        refine start_ (n := 10) (S := fun w' => w'.cell? ⟨gb112, 0, none⟩ = some (.int .i64 a0_0) ∧ w'.cell? ⟨gb112, 1, none⟩ = some (.int .i64 a0_1) ∧ w'.cell? ⟨gb112, 2, none⟩ = some (.int .i64 a0_2) ∧ w'.cell? ⟨gb112, 3, none⟩ = some (.int .i64 a0_3) ∧ w'.cell? ⟨gb112, 4, none⟩ = some (.int .u32 a0_4) ∧ w'.cell? ⟨gb112, 5, none⟩ = some (.slice A0_5 l0_5.length c0_5)) (ds := []) #[false, false, false, false, false, false, false, false, false, false] (by kernel_rfl) rfl rfl ⟨(blk_cell BK112.out 0).trans rfl, (blk_cell BK112.out 1).trans rfl, (blk_cell BK112.out 2).trans rfl, (blk_cell BK112.out 3).trans rfl, (blk_cell BK112.out 4).trans rfl, (blk_cell BK112.out 5).trans rfl⟩ (fun hHeld => ?_); refine with_tabW packet_Encode.tab5 packet_Encode.bits5 (fun HT_ HW_ => ?_)
        generalize w13.drew = w18 at HO116 HO119 BK112 HB hHeld ⊢
        refine pure_ (i := 0) (N := some 21) (v := ?_) (a' := ?_) #[true, false, false, false, false, false, false, false, false, false] rfl rfl (any_of HT_.out (by kernel_rfl)) (fun _ _ _ h => h) (Or.inl ⟨by rfl, ?_⟩) ?_ ?_
        rotate_left
        · intro w'
          go_simp
          with_reducible rfl
        rotate_left
        · simp only [Act.put, List.setIfInBounds_toArray, List.set_cons_zero, List.set_cons_succ, i64_w, i32_w]
          rfl
        refine pure_ (i := 1) (N := some 22) (v := ?_) (a' := ?_) #[true, true, false, false, false, false, false, false, false, false] rfl rfl (any_of HT_.out (by kernel_rfl)) (fun _ _ _ h => h) (Or.inl ⟨by rfl, ?_⟩) ?_ ?_
        rotate_left
        · intro w'
          go_simp
          with_reducible rfl
        rotate_left
        · simp only [Act.put, List.setIfInBounds_toArray, List.set_cons_zero, List.set_cons_succ, i64_w, i32_w]
          rfl
        refine pure_ (i := 5) (N := some 26) (v := ?_) (a' := ?_) #[true, true, false, false, false, true, false, false, false, false] rfl rfl (any_of HT_.out (by kernel_rfl)) (fun _ _ _ h => h) (Or.inl ⟨by rfl, ?_⟩) ?_ ?_
        rotate_left
        · intro w'
          go_simp
          with_reducible rfl
        rotate_left
        · simp only [Act.put, List.setIfInBounds_toArray, List.set_cons_zero, List.set_cons_succ, i64_w, i32_w]
          rfl
        refine take_ (i := 2) (N := some 23) (v := ?_) (a' := ?_) #[true, true, true, false, false, true, false, false, false, false] rfl rfl (take_ofW HT_.out HW_.out (by kernel_rfl)) (fun _ _ _ h => h) (Or.inl ⟨by rfl, ?_⟩) hHeld ?_ ?_
        rotate_left
        · rintro w' ⟨s0, s1, s2, s3, s4, s5⟩
          go_simp
          with_reducible rfl
        rotate_left
        · simp only [Act.put, List.setIfInBounds_toArray, List.set_cons_zero, List.set_cons_succ, i64_w, i32_w]
          rfl
        refine pure_ (i := 3) (N := some 24) (v := ?_) (a' := ?_) #[true, true, true, true, false, true, false, false, false, false] rfl rfl (any_of HT_.out (by kernel_rfl)) (fun _ _ _ h => h) (Or.inl ⟨by rfl, ?_⟩) ?_ ?_
        rotate_left
        · intro w'
          go_simp
          with_reducible rfl
        rotate_left
        · simp only [Act.put, List.setIfInBounds_toArray, List.set_cons_zero, List.set_cons_succ, i64_w, i32_w]
          rfl
        refine take_ (i := 6) (N := some 27) (v := ?_) (a' := ?_) #[true, true, true, true, false, true, true, false, false, false] rfl rfl (take_ofW HT_.out HW_.out (by kernel_rfl)) (fun _ _ _ h => h) (Or.inl ⟨by rfl, ?_⟩) hHeld ?_ ?_
        rotate_left
        · rintro w' ⟨s0, s1, s2, s3, s4, s5⟩
          go_simp
          with_reducible rfl
        rotate_left
        · simp only [Act.put, List.setIfInBounds_toArray, List.set_cons_zero, List.set_cons_succ, i64_w, i32_w]
          rfl
        refine pure_ (i := 7) (N := some 28) (v := ?_) (a' := ?_) #[true, true, true, true, false, true, true, true, false, false] rfl rfl (any_of HT_.out (by kernel_rfl)) (fun _ _ _ h => h) (Or.inl ⟨by rfl, ?_⟩) ?_ ?_
        rotate_left
        · intro w'
          go_simp
          with_reducible rfl
        rotate_left
        · simp only [Act.put, List.setIfInBounds_toArray, List.set_cons_zero, List.set_cons_succ, i64_w, i32_w]
          rfl
        refine one_ (i := 4) (N := some 25) #[true, true, true, true, true, true, true, true, false, false] rfl rfl (one_of HT_.out (by kernel_rfl)) (by decide) (fun K hK => ?_)
        refine goes_ Try.func18 (by kernel_rfl) rfl #[.slice Ao19 t117.length co19, .int .u64 (IntKind.u64.wrap (a0_3))] (by rfl) rfl rfl (by (try simp only [List.map_toArray, List.map_cons, List.map_nil]); first | done | rfl | (simp only [List.length_drop, List.length_take]; rfl)) ?_
        with_reducible refine (wire_Put.calls _ _ t117 (IntKind.u64.wrap (a0_3)) t120 _ ?side1 ?side2 A16.out).mono ?_
        (case side1 => repeat (first | exact (Kd.R_reads' HO119.out).2.2 | (with_reducible refine Kd.C_alloc ?_ _) | (with_reducible refine Kd.C_drewN ?_ _) | (with_reducible refine Kd.C_drew ?_)))
        (case side2 => exact (Kd.R_reads' HO119.out).2.1)
        rintro e w20 ⟨v121, rfl, ho0, hb⟩
        refine ⟨_, rfl, ?_⟩
        have n0_ := Aside0.mk (Kd.R_elder' (by (with_reducible repeat (first | apply Kd.R_alloc | apply Kd.R_drewN | apply Kd.R_drew)); exact HO116.out) (Kd.R_base ho0) hb)
        have n1_ := Aside0.mk (Kd.R_elder' (by (with_reducible repeat (first | apply Kd.R_alloc | apply Kd.R_drewN | apply Kd.R_drew)); exact HO119.out) (Kd.R_base ho0) hb)
        have n2_ := Aside0.mk (Kd.R_lower (Kd.R_new' (Kd.R_new' ho0 (Kd.R_lt (by (with_reducible repeat (first | apply Kd.R_alloc | apply Kd.R_drewN | apply Kd.R_drew)); exact HO116.out))) (Kd.R_lt (by (with_reducible repeat (first | apply Kd.R_alloc | apply Kd.R_drewN | apply Kd.R_drew)); exact HO119.out))) (below_size (by repeat (first | (with_reducible first | exact HB.out | apply below_alloc | apply pw_below_drewN | apply below_drew1 | refine below_set ?_ GE112.out) | exact HB.out))))
        have n3_ := Aside0.mk (blk_below (g := gb112) (o := .cells #[.int .i64 a0_0, .int .i64 a0_1, .int .i64 a0_2, .int .i64 a0_3, .int .u32 a0_4, .slice A0_5 l0_5.length c0_5] 25 (0, 0)) (by (with_reducible repeat (first | refine blk_drewN ?_ _ | refine blk_drew ?_ | refine blk_alloc ?_ _)); exact BK112.out) hb)
        have n4_ := Aside0.mk (below_step (by repeat (first | (with_reducible first | exact HB.out | apply below_alloc | apply pw_below_drewN | apply below_drew1 | refine below_set ?_ GE112.out) | exact HB.out)) hb)
        clear HO116
        clear HO119
        clear BK112
        clear HB
        have HO116 := n0_
        have HO119 := n1_
        have HO122 := n2_
        have BK112 := n3_
        have HB := n4_
        clear n0_ n1_ n2_ n3_ n4_
        (try clear hb)
        (try clear hb2)
        (try clear hk)
        (try clear hi)
        (try clear ho0)
        obtain ⟨Ao21, co21, eo21⟩ := Kd.R_slice HO122.out
        (first | subst eo21 | (injection eo21 with f1_ f2_ f3_; have f4_ := f1_.symm; have f5_ := f3_.symm; clear f1_ f2_ f3_; subst f4_; subst f5_))
        refine hK.out _ _ ⟨(blk_cell BK112.out 0).trans rfl, (blk_cell BK112.out 1).trans rfl, (blk_cell BK112.out 2).trans rfl, (blk_cell BK112.out 3).trans rfl, (blk_cell BK112.out 4).trans rfl, (blk_cell BK112.out 5).trans rfl⟩ (fun hHeld => ?_)
        clear hK K
        refine norm_ (a' := ?_) ?_ ?_
        rotate_left
        · show Act.put _ (some 25) _ = _
          simp only [Act.put, List.setIfInBounds_toArray, List.set_cons_zero, List.set_cons_succ, i64_w, i32_w]
          rfl
        refine one_ (i := 8) (N := some 29) #[true, true, true, true, true, true, true, true, true, false] rfl rfl (one_of HT_.out (by kernel_rfl)) (by decide) (fun K hK => ?_)
        refine goes_ Try.func18 (by kernel_rfl) rfl #[.slice Ao21 t120.length co21, .int .u64 (IntKind.u64.wrap (a0_4))] (by rfl) rfl rfl (by (try simp only [List.map_toArray, List.map_cons, List.map_nil]); first | done | rfl | (simp only [List.length_drop, List.length_take]; rfl)) ?_
        with_reducible refine (wire_Put.calls _ _ t120 (IntKind.u64.wrap (a0_4)) t123 _ ?side1 ?side2 A17.out).mono ?_
        (case side1 => repeat (first | exact (Kd.R_reads' HO122.out).2.2 | (with_reducible refine Kd.C_alloc ?_ _) | (with_reducible refine Kd.C_drewN ?_ _) | (with_reducible refine Kd.C_drew ?_)))
        (case side2 => exact (Kd.R_reads' HO122.out).2.1)
        rintro e w22 ⟨v124, rfl, ho0, hb⟩
        refine ⟨_, rfl, ?_⟩
        have n0_ := Aside0.mk (Kd.R_elder' (by (with_reducible repeat (first | apply Kd.R_alloc | apply Kd.R_drewN | apply Kd.R_drew)); exact HO116.out) (Kd.R_base ho0) hb)
        have n1_ := Aside0.mk (Kd.R_elder' (by (with_reducible repeat (first | apply Kd.R_alloc | apply Kd.R_drewN | apply Kd.R_drew)); exact HO119.out) (Kd.R_base ho0) hb)
        have n2_ := Aside0.mk (Kd.R_elder' (by (with_reducible repeat (first | apply Kd.R_alloc | apply Kd.R_drewN | apply Kd.R_drew)); exact HO122.out) (Kd.R_base ho0) hb)
        have n3_ := Aside0.mk (Kd.R_lower (Kd.R_new' (Kd.R_new' (Kd.R_new' ho0 (Kd.R_lt (by (with_reducible repeat (first | apply Kd.R_alloc | apply Kd.R_drewN | apply Kd.R_drew)); exact HO116.out))) (Kd.R_lt (by (with_reducible repeat (first | apply Kd.R_alloc | apply Kd.R_drewN | apply Kd.R_drew)); exact HO119.out))) (Kd.R_lt (by (with_reducible repeat (first | apply Kd.R_alloc | apply Kd.R_drewN | apply Kd.R_drew)); exact HO122.out))) (below_size (by repeat (first | (with_reducible first | exact HB.out | apply below_alloc | apply pw_below_drewN | apply below_drew1 | refine below_set ?_ GE112.out) | exact HB.out))))
        have n4_ := Aside0.mk (blk_below (g := gb112) (o := .cells #[.int .i64 a0_0, .int .i64 a0_1, .int .i64 a0_2, .int .i64 a0_3, .int .u32 a0_4, .slice A0_5 l0_5.length c0_5] 25 (0, 0)) (by (with_reducible repeat (first | refine blk_drewN ?_ _ | refine blk_drew ?_ | refine blk_alloc ?_ _)); exact BK112.out) hb)
        have n5_ := Aside0.mk (below_step (by repeat (first | (with_reducible first | exact HB.out | apply below_alloc | apply pw_below_drewN | apply below_drew1 | refine below_set ?_ GE112.out) | exact HB.out)) hb)
        clear HO116
        clear HO119
        clear HO122
        clear BK112
        clear HB
        have HO116 := n0_
        have HO119 := n1_
        have HO122 := n2_
        have HO125 := n3_
        have BK112 := n4_
        have HB := n5_
        clear n0_ n1_ n2_ n3_ n4_ n5_
        (try clear hb)
        (try clear hb2)
        (try clear hk)
        (try clear hi)
        (try clear ho0)
        refine hK.out _ _ ⟨(blk_cell BK112.out 0).trans rfl, (blk_cell BK112.out 1).trans rfl, (blk_cell BK112.out 2).trans rfl, (blk_cell BK112.out 3).trans rfl, (blk_cell BK112.out 4).trans rfl, (blk_cell BK112.out 5).trans rfl⟩ (fun hHeld => ?_)
        clear hK K
        refine norm_ (a' := ?_) ?_ ?_
        rotate_left
        · show Act.put _ (some 29) _ = _
          simp only [Act.put, List.setIfInBounds_toArray, List.set_cons_zero, List.set_cons_succ, i64_w, i32_w]
          rfl
        refine pure_ (i := 9) (N := some 4) (v := ?_) (a' := ?_) #[true, true, true, true, true, true, true, true, true, true] rfl rfl (any_of HT_.out (by kernel_rfl)) (fun _ _ _ h => h) (Or.inl ⟨by rfl, ?_⟩) ?_ ?_
        rotate_left
        · intro w'
          go_simp
          with_reducible rfl
        rotate_left
        · simp only [Act.put, List.setIfInBounds_toArray, List.set_cons_zero, List.set_cons_succ, i64_w, i32_w]
          rfl
        refine done_ (done_of HT_.out (by kernel_rfl)) ?_
        try go_wp2
        go_meet
        case rel => exact ⟨_, (t123), H', ⟨by first | omega | exact Nat.le_refl _⟩, ⟨by (with_reducible repeat (first | apply Kd.R_alloc | apply Kd.R_drewN | apply Kd.R_drew)); exact Kd.R_mono HO125.out (fun _ hk => trivial)⟩, ⟨by (with_reducible repeat (first | refine blk_drewN ?_ _ | refine blk_drew ?_ | refine blk_alloc ?_ _)); exact BK112.out⟩, ⟨by repeat (first | (with_reducible first | exact HB.out | apply below_alloc | apply pw_below_drewN | apply below_drew1 | refine below_set ?_ GE112.out) | exact HB.out)⟩⟩
      · rw [if_neg c15] at H
        have c15b0 : (a0_0 == 1) = false := beq_eq_false_iff_ne.mpr c15
        have c15b1 : (a0_0 != 1) = true := bne_iff_ne.mpr c15
        (first | rw [c15b0] | (simp only [i64_w, i32_w]; rw [c15b0]) | skip)
        have H' := Aside0.mk H
        clear H
        go_wp2
        go_meet
        case rel => exact ⟨_, (t117), H', ⟨by first | omega | exact Nat.le_refl _⟩, ⟨by (with_reducible repeat (first | apply Kd.R_alloc | apply Kd.R_drewN | apply Kd.R_drew)); exact Kd.R_mono HO119.out (fun _ hk => trivial)⟩, ⟨by (with_reducible repeat (first | refine blk_drewN ?_ _ | refine blk_drew ?_ | refine blk_alloc ?_ _)); exact BK112.out⟩, ⟨by repeat (first | (with_reducible first | exact HB.out | apply below_alloc | apply pw_below_drewN | apply below_drew1 | refine below_set ?_ GE112.out) | exact HB.out)⟩⟩
    case rest =>
      clear HC6
      try clear c1
      try clear p2
      try clear c3
      try clear c9
      try clear c15
      try clear c15b0
      try clear c15b1
      try clear c17
      try clear c18
      try clear hcz14_0
      try clear hcz14_1
      try clear hcz14_2
      try clear hcz14_3
      try clear hcz14_4
      try clear hcz14_5
      try clear hcz8_0
      try clear hcz8_1
      try clear hcz8_2
      try clear hcz8_3
      try clear hcz8_4
      try clear hcz8_5
      try clear hfz14_0
      try clear hfz14_1
      try clear hfz14_2
      try clear hfz14_3
      try clear hfz14_4
      try clear hfz14_5
      try clear hfz8_0
      try clear hfz8_1
      try clear hfz8_2
      try clear hfz8_3
      try clear hfz8_4
      try clear hfz8_5
      obtain ⟨kq, x4_5, HA, HJ5, HO_4, BK112, HB⟩ := hcut
      cases kq with
      | zero => exact absurd HA.out (by simp [packet_Encode.j0])
      | succ kj5 =>
        have H := HA.out
        clear HA
        simp only [packet_Encode.j0] at H
        have HC23 := Aside0.mk H
        clear H
        go_upto_region 6 with (fail)
        go_cut [37] (fun v37 wc => ∃ (kq : Nat) (x37_22 : Bool), v37 = .bool x37_22 ∧ Aside0 (packet_Encode.j1 kq x4_5 x37_22 a0_0 a0_1 a0_2 a0_3 a0_4 l0_5 = some (r1, r2)) ∧ Aside0 (kq ≤ kj5) ∧ Aside0 (Kd.R (Kd.int .u8) 5 wc w.heap.size (fun _ => True) u4 x4_5) ∧ Aside0 (wc.heap[gb112]? = some (.cells #[.int .i64 a0_0, .int .i64 a0_1, .int .i64 a0_2, .int .i64 a0_3, .int .u32 a0_4, (.slice A0_5 l0_5.length c0_5)] 25 (0, 0))) ∧ Aside0 (Below w.heap.size w wc))
        case first =>
          have H := HC23.out
          clear HC23
          by_cases c24 : a0_0 = 2
          · rw [if_pos c24] at H
            have c24b0 : (a0_0 == 2) = true := beq_iff_eq.mpr c24
            have c24b1 : (a0_0 != 2) = false := bne_eq_false_iff_eq.mpr c24
            clear c24
            (first | rw [c24b0] | (simp only [i64_w, i32_w]; rw [c24b0]) | skip)
            have H' := Aside0.mk H
            clear H
            have hcz25_0 : wc.cell? ⟨gb112, 0, none⟩ = some (.int .i64 a0_0) := (blk_cell BK112.out 0).trans rfl
            have hcz25_1 : wc.cell? ⟨gb112, 1, none⟩ = some (.int .i64 a0_1) := (blk_cell BK112.out 1).trans rfl
            have hcz25_2 : wc.cell? ⟨gb112, 2, none⟩ = some (.int .i64 a0_2) := (blk_cell BK112.out 2).trans rfl
            have hcz25_3 : wc.cell? ⟨gb112, 3, none⟩ = some (.int .i64 a0_3) := (blk_cell BK112.out 3).trans rfl
            have hcz25_4 : wc.cell? ⟨gb112, 4, none⟩ = some (.int .u32 a0_4) := (blk_cell BK112.out 4).trans rfl
            have hcz25_5 : wc.cell? ⟨gb112, 5, none⟩ = some (.slice A0_5 l0_5.length c0_5) := (blk_cell BK112.out 5).trans rfl
            have hfz25_0 := blk_frozen BK112.out 0
            have hfz25_1 := blk_frozen BK112.out 1
            have hfz25_2 := blk_frozen BK112.out 2
            have hfz25_3 := blk_frozen BK112.out 3
            have hfz25_4 := blk_frozen BK112.out 4
            have hfz25_5 := blk_frozen BK112.out 5
            go_wp2
            go_meet
            case rel => exact ⟨_, (true), (by first | rfl | (simp; done) | (simp [*]; done)), H', ⟨by have := HJ5.out; first | omega | exact Nat.le_refl _⟩, ⟨by (with_reducible repeat (first | apply Kd.R_alloc | apply Kd.R_drewN | apply Kd.R_drew)); exact HO_4.out⟩, ⟨by (with_reducible repeat (first | refine blk_drewN ?_ _ | refine blk_drew ?_ | refine blk_alloc ?_ _)); exact BK112.out⟩, ⟨by repeat (first | (with_reducible first | exact HB.out | apply below_alloc | apply pw_below_drewN | apply below_drew1 | refine below_set ?_ GE112.out) | exact HB.out)⟩⟩
          · rw [if_neg c24] at H
            have c24b0 : (a0_0 == 2) = false := beq_eq_false_iff_ne.mpr c24
            have c24b1 : (a0_0 != 2) = true := bne_iff_ne.mpr c24
            (first | rw [c24b0] | (simp only [i64_w, i32_w]; rw [c24b0]) | skip)
            have H' := Aside0.mk H
            clear H
            have hcz26_0 : wc.cell? ⟨gb112, 0, none⟩ = some (.int .i64 a0_0) := (blk_cell BK112.out 0).trans rfl
            have hcz26_1 : wc.cell? ⟨gb112, 1, none⟩ = some (.int .i64 a0_1) := (blk_cell BK112.out 1).trans rfl
            have hcz26_2 : wc.cell? ⟨gb112, 2, none⟩ = some (.int .i64 a0_2) := (blk_cell BK112.out 2).trans rfl
            have hcz26_3 : wc.cell? ⟨gb112, 3, none⟩ = some (.int .i64 a0_3) := (blk_cell BK112.out 3).trans rfl
            have hcz26_4 : wc.cell? ⟨gb112, 4, none⟩ = some (.int .u32 a0_4) := (blk_cell BK112.out 4).trans rfl
            have hcz26_5 : wc.cell? ⟨gb112, 5, none⟩ = some (.slice A0_5 l0_5.length c0_5) := (blk_cell BK112.out 5).trans rfl
            have hfz26_0 := blk_frozen BK112.out 0
            have hfz26_1 := blk_frozen BK112.out 1
            have hfz26_2 := blk_frozen BK112.out 2
            have hfz26_3 := blk_frozen BK112.out 3
            have hfz26_4 := blk_frozen BK112.out 4
            have hfz26_5 := blk_frozen BK112.out 5
            go_wp2
            go_meet
            case rel => exact ⟨_, ((a0_0 == 3)), (by first | rfl | (simp; done) | (simp [*]; done)), H', ⟨by have := HJ5.out; first | omega | exact Nat.le_refl _⟩, ⟨by (with_reducible repeat (first | apply Kd.R_alloc | apply Kd.R_drewN | apply Kd.R_drew)); exact HO_4.out⟩, ⟨by (with_reducible repeat (first | refine blk_drewN ?_ _ | refine blk_drew ?_ | refine blk_alloc ?_ _)); exact BK112.out⟩, ⟨by repeat (first | (with_reducible first | exact HB.out | apply below_alloc | apply pw_below_drewN | apply below_drew1 | refine below_set ?_ GE112.out) | exact HB.out)⟩⟩
        case rest =>
          clear HC23
          try clear c1
          try clear c2
          try clear p2
          try clear c3
          try clear c9
          try clear c15
          try clear c15b0
          try clear c15b1
          try clear c17
          try clear c18
          try clear c24
          try clear c24b0
          try clear c24b1
          try clear hcz14_0
          try clear hcz14_1
          try clear hcz14_2
          try clear hcz14_3
          try clear hcz14_4
          try clear hcz14_5
          try clear hcz25_0
          try clear hcz25_1
          try clear hcz25_2
          try clear hcz25_3
          try clear hcz25_4
          try clear hcz25_5
          try clear hcz26_0
          try clear hcz26_1
          try clear hcz26_2
          try clear hcz26_3
          try clear hcz26_4
          try clear hcz26_5
          try clear hcz8_0
          try clear hcz8_1
          try clear hcz8_2
          try clear hcz8_3
          try clear hcz8_4
          try clear hcz8_5
          try clear hfz14_0
          try clear hfz14_1
          try clear hfz14_2
          try clear hfz14_3
          try clear hfz14_4
          try clear hfz14_5
          try clear hfz25_0
          try clear hfz25_1
          try clear hfz25_2
          try clear hfz25_3
          try clear hfz25_4
          try clear hfz25_5
          try clear hfz26_0
          try clear hfz26_1
          try clear hfz26_2
          try clear hfz26_3
          try clear hfz26_4
          try clear hfz26_5
          try clear hfz8_0
          try clear hfz8_1
          try clear hfz8_2
          try clear hfz8_3
          try clear hfz8_4
          try clear hfz8_5
          try clear p2
          obtain ⟨kq, x37_22, rfl, HA, HJ22, HO_4, BK112, HB⟩ := hcut
          cases kq with
          | zero => exact absurd HA.out (by simp [packet_Encode.j1])
          | succ kj22 =>
            have H := HA.out
            clear HA
            simp only [packet_Encode.j1] at H
            have HC27 := Aside0.mk H
            clear H
            go_upto_if 37 with (fail)
            go_cut [4] (fun v4 wc => ∃ (kq : Nat) (x4_26 : List Int), Aside0 (packet_Encode.j2 kq x4_26 a0_0 a0_1 a0_2 a0_3 a0_4 l0_5 = some (r1, r2)) ∧ Aside0 (kq ≤ kj22) ∧ Aside0 (Kd.R (Kd.int .u8) 5 wc w.heap.size (fun _ => True) v4 x4_26) ∧ Aside0 (wc.heap[gb112]? = some (.cells #[.int .i64 a0_0, .int .i64 a0_1, .int .i64 a0_2, .int .i64 a0_3, .int .u32 a0_4, (.slice A0_5 l0_5.length c0_5)] 25 (0, 0))) ∧ Aside0 (Below w.heap.size w wc))
            case first =>
              have H := HC27.out
              clear HC27
              by_cases c28 : x37_22 = true
              · subst c28
                have H1 : ((wire_Put.f x4_5 (IntKind.u64.wrap (a0_2))).bind fun t126 => (packet_Encode.j2 kj22 t126 a0_0 a0_1 a0_2 a0_3 a0_4 l0_5)) = some (r1, r2) := by rw [if_pos rfl] at H; exact H
                clear H
                have H := H1
                clear H1
                replace H := Option.bind_eq_some_iff.mp H
                obtain ⟨t126, A290, H⟩ := H
                replace H : (packet_Encode.j2 kj22 t126 a0_0 a0_1 a0_2 a0_3 a0_4 l0_5) = some (r1, r2) := H
                have A29 := Aside0.mk A290
                clear A290
                have H' := Aside0.mk H
                clear H
                have hcz30_0 : wc.cell? ⟨gb112, 0, none⟩ = some (.int .i64 a0_0) := (blk_cell BK112.out 0).trans rfl
                have hcz30_1 : wc.cell? ⟨gb112, 1, none⟩ = some (.int .i64 a0_1) := (blk_cell BK112.out 1).trans rfl
                have hcz30_2 : wc.cell? ⟨gb112, 2, none⟩ = some (.int .i64 a0_2) := (blk_cell BK112.out 2).trans rfl
                have hcz30_3 : wc.cell? ⟨gb112, 3, none⟩ = some (.int .i64 a0_3) := (blk_cell BK112.out 3).trans rfl
                have hcz30_4 : wc.cell? ⟨gb112, 4, none⟩ = some (.int .u32 a0_4) := (blk_cell BK112.out 4).trans rfl
                have hcz30_5 : wc.cell? ⟨gb112, 5, none⟩ = some (.slice A0_5 l0_5.length c0_5) := (blk_cell BK112.out 5).trans rfl
                have hfz30_0 := blk_frozen BK112.out 0
                have hfz30_1 := blk_frozen BK112.out 1
                have hfz30_2 := blk_frozen BK112.out 2
                have hfz30_3 := blk_frozen BK112.out 3
                have hfz30_4 := blk_frozen BK112.out 4
                have hfz30_5 := blk_frozen BK112.out 5
                obtain ⟨Ao31, co31, eo31⟩ := Kd.R_slice HO_4.out
                subst eo31
                go_wp2_with (first | ((with_reducible refine gate_callee (f := 18) rfl ?_); refine goesL_ (some 42) rfl rfl Try.func18 (by kernel_rfl) rfl #[.slice Ao31 x4_5.length co31, .int .u64 (IntKind.u64.wrap (a0_2))] rfl (by (try simp only [List.map_toArray, List.map_cons, List.map_nil]); first | done | rfl | (simp only [List.length_drop, List.length_take]; rfl)) ?_; (with_reducible refine (wire_Put.calls _ _ x4_5 (IntKind.u64.wrap (a0_2)) t126 _ ?side1 ?side2 A29.out).mono ?_); (case side1 => repeat (first | exact (Kd.R_reads' HO_4.out).2.2 | (with_reducible refine Kd.C_alloc ?_ _) | (with_reducible refine Kd.C_drewN ?_ _) | (with_reducible refine Kd.C_drew ?_))); (case side2 => exact (Kd.R_reads' HO_4.out).2.1); rintro e w32 ⟨v127, rfl, ho0, hb⟩; refine ⟨_, rfl, ?_⟩; have n0_ := Aside0.mk (Kd.R_elder' (by (with_reducible repeat (first | apply Kd.R_alloc | apply Kd.R_drewN | apply Kd.R_drew)); exact HO_4.out) (Kd.R_base ho0) hb); have n1_ := Aside0.mk (Kd.R_lower (Kd.R_new' ho0 (Kd.R_lt (by (with_reducible repeat (first | apply Kd.R_alloc | apply Kd.R_drewN | apply Kd.R_drew)); exact HO_4.out))) (below_size (by repeat (first | (with_reducible first | exact HB.out | apply below_alloc | apply pw_below_drewN | apply below_drew1 | refine below_set ?_ GE112.out) | exact HB.out)))); have n2_ := Aside0.mk (blk_below (g := gb112) (o := .cells #[.int .i64 a0_0, .int .i64 a0_1, .int .i64 a0_2, .int .i64 a0_3, .int .u32 a0_4, .slice A0_5 l0_5.length c0_5] 25 (0, 0)) (by (with_reducible repeat (first | refine blk_drewN ?_ _ | refine blk_drew ?_ | refine blk_alloc ?_ _)); exact BK112.out) hb); have n3_ := Aside0.mk (below_step (by repeat (first | (with_reducible first | exact HB.out | apply below_alloc | apply pw_below_drewN | apply below_drew1 | refine below_set ?_ GE112.out) | exact HB.out)) hb); clear HO_4; clear BK112; clear HB; have HO_4 := n0_; have HO128 := n1_; have BK112 := n2_; have HB := n3_; clear n0_ n1_ n2_ n3_; (try clear hb); (try clear hb2); (try clear hk); (try clear hi); (try clear ho0)))
                go_meet
                case rel => exact ⟨_, (t126), H', ⟨by have := HJ5.out; have := HJ22.out; first | omega | exact Nat.le_refl _⟩, ⟨by (with_reducible repeat (first | apply Kd.R_alloc | apply Kd.R_drewN | apply Kd.R_drew)); exact Kd.R_mono HO128.out (fun _ hk => trivial)⟩, ⟨by (with_reducible repeat (first | refine blk_drewN ?_ _ | refine blk_drew ?_ | refine blk_alloc ?_ _)); exact BK112.out⟩, ⟨by repeat (first | (with_reducible first | exact HB.out | apply below_alloc | apply pw_below_drewN | apply below_drew1 | refine below_set ?_ GE112.out) | exact HB.out)⟩⟩
              · replace c28 := Bool.eq_false_iff.mpr c28
                subst c28
                have H1 : (packet_Encode.j2 kj22 x4_5 a0_0 a0_1 a0_2 a0_3 a0_4 l0_5) = some (r1, r2) := by rw [if_neg (show ¬ (false = true) by decide)] at H; exact H
                clear H
                have H := H1
                clear H1
                have H' := Aside0.mk H
                clear H
                go_wp2
                go_meet
                case rel => exact ⟨_, (x4_5), H', ⟨by have := HJ5.out; have := HJ22.out; first | omega | exact Nat.le_refl _⟩, ⟨by (with_reducible repeat (first | apply Kd.R_alloc | apply Kd.R_drewN | apply Kd.R_drew)); exact HO_4.out⟩, ⟨by (with_reducible repeat (first | refine blk_drewN ?_ _ | refine blk_drew ?_ | refine blk_alloc ?_ _)); exact BK112.out⟩, ⟨by repeat (first | (with_reducible first | exact HB.out | apply below_alloc | apply pw_below_drewN | apply below_drew1 | refine below_set ?_ GE112.out) | exact HB.out)⟩⟩
            case rest =>
              clear HC27
              try clear c1
              try clear c2
              try clear p2
              try clear c3
              try clear c9
              try clear c15
              try clear c15b0
              try clear c15b1
              try clear c17
              try clear c18
              try clear c24
              try clear c24b0
              try clear c24b1
              try clear c28
              try clear hcz14_0
              try clear hcz14_1
              try clear hcz14_2
              try clear hcz14_3
              try clear hcz14_4
              try clear hcz14_5
              try clear hcz25_0
              try clear hcz25_1
              try clear hcz25_2
              try clear hcz25_3
              try clear hcz25_4
              try clear hcz25_5
              try clear hcz26_0
              try clear hcz26_1
              try clear hcz26_2
              try clear hcz26_3
              try clear hcz26_4
              try clear hcz26_5
              try clear hcz30_0
              try clear hcz30_1
              try clear hcz30_2
              try clear hcz30_3
              try clear hcz30_4
              try clear hcz30_5
              try clear hcz8_0
              try clear hcz8_1
              try clear hcz8_2
              try clear hcz8_3
              try clear hcz8_4
              try clear hcz8_5
              try clear hfz14_0
              try clear hfz14_1
              try clear hfz14_2
              try clear hfz14_3
              try clear hfz14_4
              try clear hfz14_5
              try clear hfz25_0
              try clear hfz25_1
              try clear hfz25_2
              try clear hfz25_3
              try clear hfz25_4
              try clear hfz25_5
              try clear hfz26_0
              try clear hfz26_1
              try clear hfz26_2
              try clear hfz26_3
              try clear hfz26_4
              try clear hfz26_5
              try clear hfz30_0
              try clear hfz30_1
              try clear hfz30_2
              try clear hfz30_3
              try clear hfz30_4
              try clear hfz30_5
              try clear hfz8_0
              try clear hfz8_1
              try clear hfz8_2
              try clear hfz8_3
              try clear hfz8_4
              try clear hfz8_5
              try clear p2
              obtain ⟨kq, x4_26, HA, HJ26, HO_4, BK112, HB⟩ := hcut
              cases kq with
              | zero => exact absurd HA.out (by simp [packet_Encode.j2])
              | succ kj26 =>
                have H := HA.out
                clear HA
                simp only [packet_Encode.j2] at H
                by_cases c33 : (l0_5.length : Int) > 0
                · rw [if_pos c33] at H
                  have c33b0 : decide (0 < (l0_5.length : Int)) = true := decide_eq_true c33
                  have c33b1 : decide (0 < l0_5.length) = true := decide_eq_true (by omega)
                  clear c33
                  replace H := Option.bind_eq_some_iff.mp H
                  obtain ⟨t129, A340, H⟩ := H
                  replace H : ((frame_Make.f t129).bind fun bt132 => (some (bt132.1, (bt132.2 == 0)))) = some (r1, r2) := H
                  have A34 := Aside0.mk A340
                  clear A340
                  replace H := Option.bind_eq_some_iff.mp H
                  obtain ⟨⟨t132, t133⟩, A350, H⟩ := H
                  replace H : (some (t132, (t133 == 0))) = some (r1, r2) := H
                  have A35 := Aside0.mk A350
                  clear A350
                  simp only [Option.some.injEq, Prod.mk.injEq] at H
                  obtain ⟨rfl, rfl⟩ := H
                  have hcz36_0 : wc.cell? ⟨gb112, 0, none⟩ = some (.int .i64 a0_0) := (blk_cell BK112.out 0).trans rfl
                  have hcz36_1 : wc.cell? ⟨gb112, 1, none⟩ = some (.int .i64 a0_1) := (blk_cell BK112.out 1).trans rfl
                  have hcz36_2 : wc.cell? ⟨gb112, 2, none⟩ = some (.int .i64 a0_2) := (blk_cell BK112.out 2).trans rfl
                  have hcz36_3 : wc.cell? ⟨gb112, 3, none⟩ = some (.int .i64 a0_3) := (blk_cell BK112.out 3).trans rfl
                  have hcz36_4 : wc.cell? ⟨gb112, 4, none⟩ = some (.int .u32 a0_4) := (blk_cell BK112.out 4).trans rfl
                  have hcz36_5 : wc.cell? ⟨gb112, 5, none⟩ = some (.slice A0_5 l0_5.length c0_5) := (blk_cell BK112.out 5).trans rfl
                  have hfz36_0 := blk_frozen BK112.out 0
                  have hfz36_1 := blk_frozen BK112.out 1
                  have hfz36_2 := blk_frozen BK112.out 2
                  have hfz36_3 := blk_frozen BK112.out 3
                  have hfz36_4 := blk_frozen BK112.out 4
                  have hfz36_5 := blk_frozen BK112.out 5
                  have hcv37 := Kd.C_string (P := Try.prog) (A := A0_5) (c := c0_5) Try.underlying23 Try.underlying5 Try.underlying9 (Kd.C_below HR0_5.out HB.out)
                  obtain ⟨Ao38, co38, eo38⟩ := Kd.R_slice HO_4.out
                  subst eo38
                  go_wp2_with (first | ((with_reducible refine gate_callee (f := 19) rfl ?_); refine goesL_ (some 51) rfl rfl Try.func19 (by kernel_rfl) rfl #[.slice Ao38 x4_26.length co38, .string (strOfNums l0_5)] rfl (by (try simp only [List.map_toArray, List.map_cons, List.map_nil]); first | done | rfl | (simp only [List.length_drop, List.length_take]; rfl)) ?_; (with_reducible refine (wire_PutText.calls _ _ x4_26 (strOfNums l0_5) t129 _ ?side1 ?side2 A34.out).mono ?_); (case side1 => repeat (first | exact (Kd.R_reads' HO_4.out).2.2 | (with_reducible refine Kd.C_alloc ?_ _) | (with_reducible refine Kd.C_drewN ?_ _) | (with_reducible refine Kd.C_drew ?_))); (case side2 => exact (Kd.R_reads' HO_4.out).2.1); rintro e w39 ⟨v130, rfl, ho0, hb⟩; refine ⟨_, rfl, ?_⟩; have n0_ := Aside0.mk (Kd.R_elder' (by (with_reducible repeat (first | apply Kd.R_alloc | apply Kd.R_drewN | apply Kd.R_drew)); exact HO_4.out) (Kd.R_base ho0) hb); have n1_ := Aside0.mk (Kd.R_lower (Kd.R_new' ho0 (Kd.R_lt (by (with_reducible repeat (first | apply Kd.R_alloc | apply Kd.R_drewN | apply Kd.R_drew)); exact HO_4.out))) (below_size (by repeat (first | (with_reducible first | exact HB.out | apply below_alloc | apply pw_below_drewN | apply below_drew1 | refine below_set ?_ GE112.out) | exact HB.out)))); have n2_ := Aside0.mk (blk_below (g := gb112) (o := .cells #[.int .i64 a0_0, .int .i64 a0_1, .int .i64 a0_2, .int .i64 a0_3, .int .u32 a0_4, .slice A0_5 l0_5.length c0_5] 25 (0, 0)) (by (with_reducible repeat (first | refine blk_drewN ?_ _ | refine blk_drew ?_ | refine blk_alloc ?_ _)); exact BK112.out) hb); have n3_ := Aside0.mk (below_step (by repeat (first | (with_reducible first | exact HB.out | apply below_alloc | apply pw_below_drewN | apply below_drew1 | refine below_set ?_ GE112.out) | exact HB.out)) hb); clear HO_4; clear BK112; clear HB; have HO_4 := n0_; have HO131 := n1_; have BK112 := n2_; have HB := n3_; clear n0_ n1_ n2_ n3_; (try clear hb); (try clear hb2); (try clear hk); (try clear hi); (try clear ho0); obtain ⟨Ao40, co40, eo40⟩ := Kd.R_slice HO131.out; subst eo40) | ((with_reducible refine gate_callee (f := 20) rfl ?_); refine goesL_ (some 54) rfl rfl Try.func20 (by kernel_rfl) rfl #[.slice Ao40 t129.length co40] rfl (by (try simp only [List.map_toArray, List.map_cons, List.map_nil]); first | done | rfl | (simp only [List.length_drop, List.length_take]; rfl)) ?_; (with_reducible refine (frame_Make.calls _ _ t129 t132 t133 _ ?side1 ?side2 A35.out).mono ?_); (case side1 => repeat (first | exact (Kd.R_reads' HO131.out).2.2 | (with_reducible refine Kd.C_alloc ?_ _) | (with_reducible refine Kd.C_drewN ?_ _) | (with_reducible refine Kd.C_drew ?_))); (case side2 => exact (Kd.R_reads' HO131.out).2.1); rintro e w41 ⟨v134, rfl, ho0, hb⟩; refine ⟨_, rfl, ?_⟩; have n0_ := Aside0.mk (Kd.R_elder' (by (with_reducible repeat (first | apply Kd.R_alloc | apply Kd.R_drewN | apply Kd.R_drew)); exact HO_4.out) (Kd.R_base ho0) hb); have n1_ := Aside0.mk (Kd.R_elder' (by (with_reducible repeat (first | apply Kd.R_alloc | apply Kd.R_drewN | apply Kd.R_drew)); exact HO131.out) (Kd.R_base ho0) hb); have n2_ := Aside0.mk (Kd.R_lower (Kd.R_new' (Kd.R_new' ho0 (Kd.R_lt (by (with_reducible repeat (first | apply Kd.R_alloc | apply Kd.R_drewN | apply Kd.R_drew)); exact HO_4.out))) (Kd.R_lt (by (with_reducible repeat (first | apply Kd.R_alloc | apply Kd.R_drewN | apply Kd.R_drew)); exact HO131.out))) (below_size (by repeat (first | (with_reducible first | exact HB.out | apply below_alloc | apply pw_below_drewN | apply below_drew1 | refine below_set ?_ GE112.out) | exact HB.out)))); have n3_ := Aside0.mk (blk_below (g := gb112) (o := .cells #[.int .i64 a0_0, .int .i64 a0_1, .int .i64 a0_2, .int .i64 a0_3, .int .u32 a0_4, .slice A0_5 l0_5.length c0_5] 25 (0, 0)) (by (with_reducible repeat (first | refine blk_drewN ?_ _ | refine blk_drew ?_ | refine blk_alloc ?_ _)); exact BK112.out) hb); have n4_ := Aside0.mk (below_step (by repeat (first | (with_reducible first | exact HB.out | apply below_alloc | apply pw_below_drewN | apply below_drew1 | refine below_set ?_ GE112.out) | exact HB.out)) hb); clear HO_4; clear HO131; clear BK112; clear HB; have HO_4 := n0_; have HO131 := n1_; have HO135 := n2_; have BK112 := n3_; have HB := n4_; clear n0_ n1_ n2_ n3_ n4_; (try clear hb); (try clear hb2); (try clear hk); (try clear hi); (try clear ho0)))
                  go_ret2
                  exact ⟨_, by first | rfl | (simp [errW_none, errW_some] <;> rfl) | (simp [*, errW_none, errW_some] <;> rfl), by (with_reducible repeat (first | apply Kd.R_alloc | apply Kd.R_drewN | apply Kd.R_drew)); exact Kd.R_mono HO135.out (fun _ hk => trivial), by repeat (first | (with_reducible first | exact HB.out | apply below_alloc | apply pw_below_drewN | apply below_drew1 | refine below_set ?_ GE112.out) | exact HB.out)⟩
                · rw [if_neg c33] at H
                  have c33b0 : decide (0 < (l0_5.length : Int)) = false := decide_eq_false c33
                  have c33b1 : decide (0 < l0_5.length) = false := decide_eq_false (by omega)
                  clear c33
                  replace H := Option.bind_eq_some_iff.mp H
                  obtain ⟨⟨t136, t137⟩, A420, H⟩ := H
                  replace H : (some (t136, (t137 == 0))) = some (r1, r2) := H
                  have A42 := Aside0.mk A420
                  clear A420
                  simp only [Option.some.injEq, Prod.mk.injEq] at H
                  obtain ⟨rfl, rfl⟩ := H
                  have hcz43_0 : wc.cell? ⟨gb112, 0, none⟩ = some (.int .i64 a0_0) := (blk_cell BK112.out 0).trans rfl
                  have hcz43_1 : wc.cell? ⟨gb112, 1, none⟩ = some (.int .i64 a0_1) := (blk_cell BK112.out 1).trans rfl
                  have hcz43_2 : wc.cell? ⟨gb112, 2, none⟩ = some (.int .i64 a0_2) := (blk_cell BK112.out 2).trans rfl
                  have hcz43_3 : wc.cell? ⟨gb112, 3, none⟩ = some (.int .i64 a0_3) := (blk_cell BK112.out 3).trans rfl
                  have hcz43_4 : wc.cell? ⟨gb112, 4, none⟩ = some (.int .u32 a0_4) := (blk_cell BK112.out 4).trans rfl
                  have hcz43_5 : wc.cell? ⟨gb112, 5, none⟩ = some (.slice A0_5 l0_5.length c0_5) := (blk_cell BK112.out 5).trans rfl
                  have hfz43_0 := blk_frozen BK112.out 0
                  have hfz43_1 := blk_frozen BK112.out 1
                  have hfz43_2 := blk_frozen BK112.out 2
                  have hfz43_3 := blk_frozen BK112.out 3
                  have hfz43_4 := blk_frozen BK112.out 4
                  have hfz43_5 := blk_frozen BK112.out 5
                  obtain ⟨Ao44, co44, eo44⟩ := Kd.R_slice HO_4.out
                  subst eo44
                  go_wp2_with (first | ((with_reducible refine gate_callee (f := 20) rfl ?_); refine goesL_ (some 54) rfl rfl Try.func20 (by kernel_rfl) rfl #[.slice Ao44 x4_26.length co44] rfl (by (try simp only [List.map_toArray, List.map_cons, List.map_nil]); first | done | rfl | (simp only [List.length_drop, List.length_take]; rfl)) ?_; (with_reducible refine (frame_Make.calls _ _ x4_26 t136 t137 _ ?side1 ?side2 A42.out).mono ?_); (case side1 => repeat (first | exact (Kd.R_reads' HO_4.out).2.2 | (with_reducible refine Kd.C_alloc ?_ _) | (with_reducible refine Kd.C_drewN ?_ _) | (with_reducible refine Kd.C_drew ?_))); (case side2 => exact (Kd.R_reads' HO_4.out).2.1); rintro e w45 ⟨v138, rfl, ho0, hb⟩; refine ⟨_, rfl, ?_⟩; have n0_ := Aside0.mk (Kd.R_elder' (by (with_reducible repeat (first | apply Kd.R_alloc | apply Kd.R_drewN | apply Kd.R_drew)); exact HO_4.out) (Kd.R_base ho0) hb); have n1_ := Aside0.mk (Kd.R_lower (Kd.R_new' ho0 (Kd.R_lt (by (with_reducible repeat (first | apply Kd.R_alloc | apply Kd.R_drewN | apply Kd.R_drew)); exact HO_4.out))) (below_size (by repeat (first | (with_reducible first | exact HB.out | apply below_alloc | apply pw_below_drewN | apply below_drew1 | refine below_set ?_ GE112.out) | exact HB.out)))); have n2_ := Aside0.mk (blk_below (g := gb112) (o := .cells #[.int .i64 a0_0, .int .i64 a0_1, .int .i64 a0_2, .int .i64 a0_3, .int .u32 a0_4, .slice A0_5 l0_5.length c0_5] 25 (0, 0)) (by (with_reducible repeat (first | refine blk_drewN ?_ _ | refine blk_drew ?_ | refine blk_alloc ?_ _)); exact BK112.out) hb); have n3_ := Aside0.mk (below_step (by repeat (first | (with_reducible first | exact HB.out | apply below_alloc | apply pw_below_drewN | apply below_drew1 | refine below_set ?_ GE112.out) | exact HB.out)) hb); clear HO_4; clear BK112; clear HB; have HO_4 := n0_; have HO139 := n1_; have BK112 := n2_; have HB := n3_; clear n0_ n1_ n2_ n3_; (try clear hb); (try clear hb2); (try clear hk); (try clear hi); (try clear ho0)))
                  go_ret2
                  exact ⟨_, by first | rfl | (simp [errW_none, errW_some] <;> rfl) | (simp [*, errW_none, errW_some] <;> rfl), by (with_reducible repeat (first | apply Kd.R_alloc | apply Kd.R_drewN | apply Kd.R_drew)); exact Kd.R_mono HO139.out (fun _ hk => trivial), by repeat (first | (with_reducible first | exact HB.out | apply below_alloc | apply pw_below_drewN | apply below_drew1 | refine below_set ?_ GE112.out) | exact HB.out)⟩
  · replace c3 := Bool.eq_false_iff.mpr c3
    subst c3
    have H1 : (some (([] : List Int), false)) = some (r1, r2) := by rw [if_neg (show ¬ (false = true) by decide)] at H; exact H
    clear H
    have H := H1
    clear H1
    simp only [Option.some.injEq, Prod.mk.injEq] at H
    obtain ⟨rfl, rfl⟩ := H
    go_enter Try.func9, Try.ntmps9
    go_wp2_with (first | ((with_reducible refine gate_dst (N := 1) rfl ?_); refine box_event ?hg (N := 1) ?hd (cs := #[.int .i64 a0_0, .int .i64 a0_1, .int .i64 a0_2, .int .i64 a0_3, .int .u32 a0_4, .slice A0_5 l0_5.length c0_5]) (t := 25) ?hr ?_; (case hd => rfl); (case hg => rfl); (case hr => first | (go_simp; done) | (go_simp; rfl)); intro gb112 hg w46 hbox hb; have n0_ := Aside0.mk (below_step (by repeat (first | (with_reducible first | exact HB.out | apply below_alloc | apply pw_below_drewN | apply below_drew1) | exact HB.out)) hb); have n1_ := Aside0.mk (hbox); have n2_ := Aside0.mk ((by rw [hg]; exact (below_size (by repeat (first | (with_reducible first | exact HB.out | apply below_alloc | apply pw_below_drewN | apply below_drew1) | exact HB.out))) : w.heap.size ≤ gb112)); have n3_ := Aside0.mk ((by rw [hg]; exact (below_size (by repeat (first | (with_reducible first | exact HB.out | apply below_alloc | apply pw_below_drewN | apply below_drew1) | exact HB.out))) : w.heap.size ≤ gb112)); clear HB; have HB := n0_; have BK112 := n1_; have GW112 := n2_; have GE112 := n3_; clear n0_ n1_ n2_ n3_; clear hb hbox hg; have hcz47_0 : w46.cell? ⟨gb112, 0, none⟩ = some (.int .i64 a0_0) := (blk_cell BK112.out 0).trans rfl; have hcz47_1 : w46.cell? ⟨gb112, 1, none⟩ = some (.int .i64 a0_1) := (blk_cell BK112.out 1).trans rfl; have hcz47_2 : w46.cell? ⟨gb112, 2, none⟩ = some (.int .i64 a0_2) := (blk_cell BK112.out 2).trans rfl; have hcz47_3 : w46.cell? ⟨gb112, 3, none⟩ = some (.int .i64 a0_3) := (blk_cell BK112.out 3).trans rfl; have hcz47_4 : w46.cell? ⟨gb112, 4, none⟩ = some (.int .u32 a0_4) := (blk_cell BK112.out 4).trans rfl; have hcz47_5 : w46.cell? ⟨gb112, 5, none⟩ = some (.slice A0_5 l0_5.length c0_5) := (blk_cell BK112.out 5).trans rfl; have hfz47_0 := blk_frozen BK112.out 0; have hfz47_1 := blk_frozen BK112.out 1; have hfz47_2 := blk_frozen BK112.out 2; have hfz47_3 := blk_frozen BK112.out 3; have hfz47_4 := blk_frozen BK112.out 4; have hfz47_5 := blk_frozen BK112.out 5) | ((with_reducible refine gate_callee (f := 17) rfl ?_); refine goesL_ (some 8) rfl rfl Try.func17 (by kernel_rfl) rfl #[.agg #[.int .i64 a0_0, .int .i64 a0_1, .int .i64 a0_2, .int .i64 a0_3, .int .u32 a0_4, .slice A0_5 l0_5.length c0_5]] rfl (by (try simp only [List.map_toArray, List.map_cons, List.map_nil]); first | done | rfl | (simp only [List.length_drop, List.length_take]; rfl)) ?_; (with_reducible refine (packet_right.calls a0_0 a0_1 a0_2 a0_3 a0_4 _ _ l0_5 false _ ?side1 ?side2 A2.out).mono ?_); (case side1 => repeat (first | exact (Kd.C_below HR0_5.out HB.out) | (with_reducible refine Kd.C_alloc ?_ _) | (with_reducible refine Kd.C_drewN ?_ _) | (with_reducible refine Kd.C_drew ?_))); (case side2 => exact HC0_5.out); rintro e w48 ⟨rfl, hb⟩; refine ⟨_, rfl, ?_⟩; have n0_ := Aside0.mk (blk_below (g := gb112) (o := .cells #[.int .i64 a0_0, .int .i64 a0_1, .int .i64 a0_2, .int .i64 a0_3, .int .u32 a0_4, .slice A0_5 l0_5.length c0_5] 25 (0, 0)) (by (with_reducible repeat (first | refine blk_drewN ?_ _ | refine blk_drew ?_ | refine blk_alloc ?_ _)); exact BK112.out) hb); have n1_ := Aside0.mk (below_step (by repeat (first | (with_reducible first | exact HB.out | apply below_alloc | apply pw_below_drewN | apply below_drew1 | refine below_set ?_ GE112.out) | exact HB.out)) hb); clear BK112; clear HB; have BK112 := n0_; have HB := n1_; clear n0_ n1_; (try clear hb); (try clear hb2); (try clear hk); (try clear hi)))
    go_ret2
    exact ⟨_, by first | rfl | (simp [errW_none, errW_some] <;> rfl) | (simp [*, errW_none, errW_some] <;> rfl), by first | exact Kd.R_nil _ _ _ _ _ | exact Kd.N_nil _ _ _ _ _ | exact Kd.V_nil _ _ _ _ _ | exact Kd.Q_nil _ _ _ _ _ | exact Kd.S_nil _ _ _ _ _, by repeat (first | (with_reducible first | exact HB.out | apply below_alloc | apply pw_below_drewN | apply below_drew1 | refine below_set ?_ GE112.out) | exact HB.out)⟩

end Go.Proofs.Yticpcjjgdkbcjaa.G
end

section
-- Written by a program of this session (wip/tools/myprint.py), over the kit's print.
namespace Go.Proofs.Yticpcjjgdkbcjaa.G
open Go.RowKit Go.Proofs.YticpcjjgdkbcjaaW.PrintWords Go.Proofs.YticpcjjgdkbcjaaW.PrintLast Go.Proofs.YticpcjjgdkbcjaaW.PrintMore
attribute [local go_sem] max2_int min2_int max_two min_two max_three min_three max_four min_four   -- for this text's walks alone
set_option linter.unusedVariables false
set_option linter.unusedSimpArgs false

-- BY HAND
def bytes_Clone.f (l0 : List Int) : Option (List Int) := if l0.length ≤ 140737488355328 then some l0 else none
set_option maxRecDepth 100000 in
set_option maxHeartbeats 400000 in
theorem bytes_Clone.calls (A0 : Option Addr) (c0 : Nat) (l0 : List Int) (r : List Int) (w : World) (hr0 : Kd.C (Kd.int .u8) w A0 l0.length l0) (hc0 : l0.length ≤ c0) (h : bytes_Clone.f l0 = some r) :
    Calls Try.prog 51 #[.slice A0 l0.length c0] w fun e w' => ∃ v0_ : Value, e = .returned (v0_) ∧ Kd.R (Kd.int .u8) 5 w' w.heap.size (fun _ => True) v0_ r ∧ Below w.heap.size w w' := by
  have hh := h
  clear h
  unfold bytes_Clone.f at hh
  split at hh
  · rename_i hl
    obtain rfl := Option.some.inj hh
    clear hh
    have HR := Aside0.mk hr0
    clear hr0
    have heq := fun (W : World) (n c : Nat) => Lib.run_eql_slice_nil (P := Try.prog) W 23 5 A0 n c 0 0 Try.underlying23
    have hinfo : (Try.prog.info? 5).map (fun i => (i.zero, i.size, i.bytes)) = some (some (.int .u8 0), 1, 1) := by kernel_rfl
    have Hinfo := Aside0.mk hinfo
    clear hinfo
    cases A0 with
    | none =>
      have h0 : l0 = [] := by
        have h1 := HR.out.2.2
        cases l0 with
        | nil => rfl
        | cons x l => obtain ⟨ad, h2, _⟩ := h1 (by simp); cases h2
      subst h0
      go_enter Try.func51, Try.ntmps51
      go_wp2
      go_ret
      exact ⟨_, rfl, Kd.R_nil _ _ _ _ _, Below.refl _ _⟩
    | some ad =>
      go_enter Try.func51, Try.ntmps51
      go_wp2_with (at_builtin; refine Kd.R_append_rows (Kd.int .u8) (w0 := w) w.heap.size rfl (.tmp 5) (.tmp 6) 23 5 (.int .u8 0) 1 rfl Try.underlying23 Hinfo.out rfl (by decide) (by decide) (.slice (some ⟨w.heap.size, 0, none⟩) 0 0) [] l0 (some ad) l0.length c0 (fun _ => True) (fun _ => False) rfl rfl (kd_R (xs := []) (World.ownsRow_made w #[] 0 (Nat.le_refl _) (by decide) rfl)) (Kd.C_alloc HR.out _) (fun _ _ h => h) (fun _ h => h.elim) (fun _ _ => trivial) ((Below.refl _ _).alloc (Nat.le_refl _) _) (by simp) (by simpa using hl) ?_; intro v1 w1 HO1 hB1 _ _)
      go_ret
      exact ⟨v1, rfl, HO1, hB1⟩
  · cases hh

end Go.Proofs.Yticpcjjgdkbcjaa.G
end

section
-- Written by a program of this session (wip/tools/myprint.py), over the kit's print.
namespace Go.Proofs.Yticpcjjgdkbcjaa.G
open Go.RowKit Go.Proofs.YticpcjjgdkbcjaaW.PrintWords Go.Proofs.YticpcjjgdkbcjaaW.PrintLast Go.Proofs.YticpcjjgdkbcjaaW.PrintMore
attribute [local go_sem] max2_int min2_int max_two min_two max_three min_three max_four min_four   -- for this text's walks alone
set_option linter.unusedVariables false
set_option linter.unusedSimpArgs false

/-! ### crc_Open: function 40 -/
def crc_Open.f (l0 : List Int) : Option (List Int × Bool) := if (wrap64 ((l0.length : Int) - 4)) < 0 then (some (([] : List Int), false)) else (if 0 ≤ (wrap64 ((l0.length : Int) - 4)) then (if (wrap64 ((l0.length : Int) - 4)) ≤ (l0.length : Int) then ((crc_Seal.f (l0.take ((wrap64 ((l0.length : Int) - 4)) : Int).toNat)).bind fun t141 => (if (wrap64 ((l0.length : Int) - 4)) ≤ (t141.length : Int) then ((bytes_Equal.f (t141.drop ((wrap64 ((l0.length : Int) - 4)) : Int).toNat) (l0.drop ((wrap64 ((l0.length : Int) - 4)) : Int).toNat)).bind fun t149 => (if t149 = true then ((bytes_Clone.f (l0.take ((wrap64 ((l0.length : Int) - 4)) : Int).toNat)).bind fun t151 => (some (t151, true))) else (some (([] : List Int), false)))) else (none))) else (none)) else (none))
def crc_Open.T2 : Bool × List (List Nat × List Nat) := (true, [([], []), ([0], [0]), ([1], [1]), ([2], [2]), ([2], [2]), ([3, 4, 2], [2, 3, 4]), ([5, 2, 2], [2, 5]), ([2], [2]), ([6, 7, 2], [2, 6, 7]), ([2], [2]), ([2], [2]), ([9, 10, 2], [2, 9, 10]), ([8, 11, 6, 2], [2, 8, 11]), ([12, 2], [2, 12]), ([2, 13], [2, 13])])
def crc_Open.B2 : List Nat := [0, 1, 3, 7, 7, 31, 63, 7, 255, 7, 7, 1543, 4095, 8191, 16383]
theorem crc_Open.tab2 : rtab .any (opsOf Try.f40 2) = crc_Open.T2 := by kernel_rfl
theorem crc_Open.bits2 : waitsOk crc_Open.T2.2 crc_Open.B2 = true := by kernel_rfl
set_option maxHeartbeats 8000000 in
set_option maxRecDepth 100000 in
theorem crc_Open.calls (A0 : Option Addr) (c0 : Nat) (l0 : List Int) (r1 : List Int) (r2 : Bool) (w : World) (hr0 : Kd.C (Kd.int .u8) w A0 l0.length l0) (hc0 : l0.length ≤ c0) (h : crc_Open.f l0 = some (r1, r2)) :
    Calls Try.prog 40 #[.slice A0 l0.length c0] w fun e w' => ∃ v0_ : Value, e = .returned (.tuple #[v0_, .bool r2]) ∧ Kd.R (Kd.int .u8) 5 w' w.heap.size (fun _ => True) v0_ r1 ∧ Below w.heap.size w w' := by
  have HR0 := Aside0.mk hr0
  have HC0 := Aside0.mk hc0
  clear hr0 hc0
  have HB := Aside0.mk (Below.refl w.heap.size w)
  have H : (if (wrap64 ((l0.length : Int) - 4)) < 0 then (some (([] : List Int), false)) else (if 0 ≤ (wrap64 ((l0.length : Int) - 4)) then (if (wrap64 ((l0.length : Int) - 4)) ≤ (l0.length : Int) then ((crc_Seal.f (l0.take ((wrap64 ((l0.length : Int) - 4)) : Int).toNat)).bind fun t141 => (if (wrap64 ((l0.length : Int) - 4)) ≤ (t141.length : Int) then ((bytes_Equal.f (t141.drop ((wrap64 ((l0.length : Int) - 4)) : Int).toNat) (l0.drop ((wrap64 ((l0.length : Int) - 4)) : Int).toNat)).bind fun t149 => (if t149 = true then ((bytes_Clone.f (l0.take ((wrap64 ((l0.length : Int) - 4)) : Int).toNat)).bind fun t151 => (some (t151, true))) else (some (([] : List Int), false)))) else (none))) else (none)) else (none))) = some (r1, r2) := h
  clear h
  by_cases c2 : (wrap64 ((l0.length : Int) - 4)) < 0
  · rw [if_pos c2] at H
    have c2b0 : decide ((wrap64 ((l0.length : Int) - 4)) < 0) = true := decide_eq_true c2
    clear c2
    simp only [Option.some.injEq, Prod.mk.injEq] at H
    obtain ⟨rfl, rfl⟩ := H
    go_enter Try.func40, Try.ntmps40
    try go_wp2
    have n0_ := Aside0.mk (below_drew1 HB.out)
    clear HB
    have HB := n0_
    clear n0_
    refine start_ (n := 15) (S := fun w' => True) (ds := []) #[false, false, false, false, false, false, false, false, false, false, false, false, false, false, false] (by kernel_rfl) rfl rfl trivial (fun hHeld => ?_); refine with_tabW crc_Open.tab2 crc_Open.bits2 (fun HT_ HW_ => ?_)
    generalize w.drew = w3 at HB hHeld ⊢
    refine pure_ (i := 0) (N := some 8) (v := ?_) (a' := ?_) #[true, false, false, false, false, false, false, false, false, false, false, false, false, false, false] rfl rfl (any_of HT_.out (by kernel_rfl)) (fun _ _ _ h => h) (Or.inl ⟨by rfl, ?_⟩) ?_ ?_
    rotate_left
    · intro w'
      go_simp
      with_reducible rfl
    rotate_left
    · simp only [Act.put, List.setIfInBounds_toArray, List.set_cons_zero, List.set_cons_succ, i64_w, i32_w]
      rfl
    refine pure_ (i := 1) (N := some 9) (v := ?_) (a' := ?_) #[true, true, false, false, false, false, false, false, false, false, false, false, false, false, false] rfl rfl (any_of HT_.out (by kernel_rfl)) (fun _ _ _ h => h) (Or.inl ⟨by rfl, ?_⟩) ?_ ?_
    rotate_left
    · intro w'
      go_simp
      with_reducible rfl
    rotate_left
    · simp only [Act.put, List.setIfInBounds_toArray, List.set_cons_zero, List.set_cons_succ, i64_w, i32_w]
      rfl
    refine pure_ (i := 2) (N := some 10) (v := ?_) (a' := ?_) #[true, true, true, false, false, false, false, false, false, false, false, false, false, false, false] rfl rfl (any_of HT_.out (by kernel_rfl)) (fun _ _ _ h => h) (Or.inl ⟨by rfl, ?_⟩) ?_ ?_
    rotate_left
    · intro w'
      go_simp
      with_reducible rfl
    rotate_left
    · simp only [Act.put, List.setIfInBounds_toArray, List.set_cons_zero, List.set_cons_succ, i64_w, i32_w]
      rfl
    refine pure_ (i := 3) (N := some 11) (v := undef) (a' := ?_) #[true, true, true, true, false, false, false, false, false, false, false, false, false, false, false] rfl rfl (any_of HT_.out (by kernel_rfl)) (fun _ _ _ h => h) (Or.inr ⟨by rfl, rfl⟩) ?_ ?_
    rotate_left
    · simp only [Act.put, List.setIfInBounds_toArray, List.set_cons_zero, List.set_cons_succ, i64_w, i32_w]
      rfl
    refine pure_ (i := 4) (N := some 12) (v := undef) (a' := ?_) #[true, true, true, true, true, false, false, false, false, false, false, false, false, false, false] rfl rfl (any_of HT_.out (by kernel_rfl)) (fun _ _ _ h => h) (Or.inr ⟨by rfl, rfl⟩) ?_ ?_
    rotate_left
    · simp only [Act.put, List.setIfInBounds_toArray, List.set_cons_zero, List.set_cons_succ, i64_w, i32_w]
      rfl
    refine pure_ (i := 5) (N := some 13) (v := undef) (a' := ?_) #[true, true, true, true, true, true, false, false, false, false, false, false, false, false, false] rfl rfl (any_of HT_.out (by kernel_rfl)) (fun _ _ _ h => h) (Or.inr ⟨by rfl, rfl⟩) ?_ ?_
    rotate_left
    · simp only [Act.put, List.setIfInBounds_toArray, List.set_cons_zero, List.set_cons_succ, i64_w, i32_w]
      rfl
    refine pure_ (i := 6) (N := some 14) (v := undef) (a' := ?_) #[true, true, true, true, true, true, true, false, false, false, false, false, false, false, false] rfl rfl (any_of HT_.out (by kernel_rfl)) (fun _ _ _ h => h) (Or.inr ⟨by rfl, rfl⟩) ?_ ?_
    rotate_left
    · simp only [Act.put, List.setIfInBounds_toArray, List.set_cons_zero, List.set_cons_succ, i64_w, i32_w]
      rfl
    refine pure_ (i := 7) (N := some 15) (v := undef) (a' := ?_) #[true, true, true, true, true, true, true, true, false, false, false, false, false, false, false] rfl rfl (any_of HT_.out (by kernel_rfl)) (fun _ _ _ h => h) (Or.inr ⟨by rfl, rfl⟩) ?_ ?_
    rotate_left
    · simp only [Act.put, List.setIfInBounds_toArray, List.set_cons_zero, List.set_cons_succ, i64_w, i32_w]
      rfl
    refine pure_ (i := 8) (N := some 16) (v := undef) (a' := ?_) #[true, true, true, true, true, true, true, true, true, false, false, false, false, false, false] rfl rfl (any_of HT_.out (by kernel_rfl)) (fun _ _ _ h => h) (Or.inr ⟨by rfl, rfl⟩) ?_ ?_
    rotate_left
    · simp only [Act.put, List.setIfInBounds_toArray, List.set_cons_zero, List.set_cons_succ, i64_w, i32_w]
      rfl
    refine pure_ (i := 9) (N := some 17) (v := undef) (a' := ?_) #[true, true, true, true, true, true, true, true, true, true, false, false, false, false, false] rfl rfl (any_of HT_.out (by kernel_rfl)) (fun _ _ _ h => h) (Or.inr ⟨by rfl, rfl⟩) ?_ ?_
    rotate_left
    · simp only [Act.put, List.setIfInBounds_toArray, List.set_cons_zero, List.set_cons_succ, i64_w, i32_w]
      rfl
    refine pure_ (i := 10) (N := some 18) (v := undef) (a' := ?_) #[true, true, true, true, true, true, true, true, true, true, true, false, false, false, false] rfl rfl (any_of HT_.out (by kernel_rfl)) (fun _ _ _ h => h) (Or.inr ⟨by rfl, rfl⟩) ?_ ?_
    rotate_left
    · simp only [Act.put, List.setIfInBounds_toArray, List.set_cons_zero, List.set_cons_succ, i64_w, i32_w]
      rfl
    refine pure_ (i := 11) (N := some 19) (v := undef) (a' := ?_) #[true, true, true, true, true, true, true, true, true, true, true, true, false, false, false] rfl rfl (any_of HT_.out (by kernel_rfl)) (fun _ _ _ h => h) (Or.inr ⟨by rfl, rfl⟩) ?_ ?_
    rotate_left
    · simp only [Act.put, List.setIfInBounds_toArray, List.set_cons_zero, List.set_cons_succ, i64_w, i32_w]
      rfl
    refine pure_ (i := 12) (N := some 20) (v := undef) (a' := ?_) #[true, true, true, true, true, true, true, true, true, true, true, true, true, false, false] rfl rfl (any_of HT_.out (by kernel_rfl)) (fun _ _ _ h => h) (Or.inr ⟨by rfl, rfl⟩) ?_ ?_
    rotate_left
    · simp only [Act.put, List.setIfInBounds_toArray, List.set_cons_zero, List.set_cons_succ, i64_w, i32_w]
      rfl
    refine pure_ (i := 13) (N := some 21) (v := undef) (a' := ?_) #[true, true, true, true, true, true, true, true, true, true, true, true, true, true, false] rfl rfl (any_of HT_.out (by kernel_rfl)) (fun _ _ _ h => h) (Or.inr ⟨by rfl, rfl⟩) ?_ ?_
    rotate_left
    · simp only [Act.put, List.setIfInBounds_toArray, List.set_cons_zero, List.set_cons_succ, i64_w, i32_w]
      rfl
    refine pure_ (i := 14) (N := some 22) (v := ?_) (a' := ?_) #[true, true, true, true, true, true, true, true, true, true, true, true, true, true, true] rfl rfl (any_of HT_.out (by kernel_rfl)) (fun _ _ _ h => h) (Or.inl ⟨by rfl, ?_⟩) ?_ ?_
    rotate_left
    · intro w'
      go_simp
      with_reducible rfl
    rotate_left
    · simp only [Act.put, List.setIfInBounds_toArray, List.set_cons_zero, List.set_cons_succ, i64_w, i32_w]
      rfl
    refine done_ (done_of HT_.out (by kernel_rfl)) ?_
    try go_wp2
    go_ret2
    exact ⟨_, by first | rfl | (simp [errW_none, errW_some] <;> rfl) | (simp [*, errW_none, errW_some] <;> rfl), by first | exact Kd.R_nil _ _ _ _ _ | exact Kd.N_nil _ _ _ _ _ | exact Kd.V_nil _ _ _ _ _ | exact Kd.Q_nil _ _ _ _ _ | exact Kd.S_nil _ _ _ _ _, by repeat (first | (with_reducible first | exact HB.out | apply below_alloc | apply pw_below_drewN | apply below_drew1) | exact HB.out)⟩
  · rw [if_neg c2] at H
    have c2b0 : decide ((wrap64 ((l0.length : Int) - 4)) < 0) = false := decide_eq_false c2
    clear c2
    obtain ⟨ji4, hji4⟩ : ∃ j_ : Int, (wrap64 ((l0.length : Int) - 4)) = j_ := ⟨_, rfl⟩
    replace H : (if 0 ≤ (ji4) then (if (ji4) ≤ (l0.length : Int) then ((crc_Seal.f (l0.take ((ji4) : Int).toNat)).bind fun t141 => (if (ji4) ≤ (t141.length : Int) then ((bytes_Equal.f (t141.drop ((ji4) : Int).toNat) (l0.drop ((ji4) : Int).toNat)).bind fun t149 => (if t149 = true then ((bytes_Clone.f (l0.take ((ji4) : Int).toNat)).bind fun t151 => (some (t151, true))) else (some (([] : List Int), false)))) else (none))) else (none)) else (none)) = some (r1, r2) := by first | (rw [hji4] at H; exact H) | (simp only [hji4] at H ⊢; exact H)
    (try rw [hji4] at c2b0)
    have hji4w : (IntKind.i64.wrap ((l0.length : Int) - 4)) = ji4 := (i64_w _).trans hji4
    by_cases c5 : 0 ≤ (ji4)
    · rw [if_pos c5] at H
      have c5b0 := eq_true c5
      have c5b1 : decide (0 ≤ (ji4)) = true := decide_eq_true c5
      clear c5
      by_cases c6 : (ji4) ≤ (l0.length : Int)
      · rw [if_pos c6] at H
        have c6b0 := eq_true c6
        have c6b1 : decide ((ji4) ≤ (l0.length : Int)) = true := decide_eq_true c6
        clear c6
        replace H := Option.bind_eq_some_iff.mp H
        obtain ⟨t141, A70, H⟩ := H
        replace H : (if (ji4) ≤ (t141.length : Int) then ((bytes_Equal.f (t141.drop ((ji4) : Int).toNat) (l0.drop ((ji4) : Int).toNat)).bind fun t149 => (if t149 = true then ((bytes_Clone.f (l0.take ((ji4) : Int).toNat)).bind fun t151 => (some (t151, true))) else (some (([] : List Int), false)))) else (none)) = some (r1, r2) := H
        have A7 := Aside0.mk A70
        clear A70
        have c8b0 := eq_true (of_decide_eq_true (by first | (with_reducible assumption) | assumption) : 0 ≤ (ji4))
        by_cases c9 : (ji4) ≤ (t141.length : Int)
        · rw [if_pos c9] at H
          have c9b0 := eq_true c9
          have c9b1 : decide ((ji4) ≤ (t141.length : Int)) = true := decide_eq_true c9
          clear c9
          obtain ⟨y144, hy144⟩ : ∃ y_ : List Int, y_ = (t141.drop ((ji4) : Int).toNat) := ⟨_, rfl⟩
          replace H : ((bytes_Equal.f y144 (l0.drop ((ji4) : Int).toNat)).bind fun t149 => (if t149 = true then ((bytes_Clone.f (l0.take ((ji4) : Int).toNat)).bind fun t151 => (some (t151, true))) else (some (([] : List Int), false)))) = some (r1, r2) := by first | (rw [hy144]; with_reducible exact H) | (have H2_ := (Option.bind_some _ _).symm.trans H; rw [hy144]; with_reducible exact H2_) | (have H2_ := (Option.bind_some _ _).symm.trans H; with_reducible exact H2_) | with_reducible exact H | (rw [hy144]; exact H) | exact H
          have Ny144 := Aside0.mk hy144
          clear hy144
          have c10b0 := eq_true (of_decide_eq_true (by first | (with_reducible assumption) | assumption) : 0 ≤ (ji4))
          have c11b0 := eq_true (of_decide_eq_true (by first | (with_reducible assumption) | assumption) : (ji4) ≤ (l0.length : Int))
          replace H := Option.bind_eq_some_iff.mp H
          obtain ⟨t149, A120, H⟩ := H
          replace H : (if t149 = true then ((bytes_Clone.f (l0.take ((ji4) : Int).toNat)).bind fun t151 => (some (t151, true))) else (some (([] : List Int), false))) = some (r1, r2) := H
          have A12 := Aside0.mk A120
          clear A120
          by_cases c13 : t149 = true
          · subst c13
            have H1 : ((bytes_Clone.f (l0.take ((ji4) : Int).toNat)).bind fun t151 => (some (t151, true))) = some (r1, r2) := by rw [if_pos rfl] at H; exact H
            clear H
            have H := H1
            clear H1
            have c14b0 := eq_true (of_decide_eq_true (by first | (with_reducible assumption) | assumption) : 0 ≤ (ji4))
            have c15b0 := eq_true (of_decide_eq_true (by first | (with_reducible assumption) | assumption) : (ji4) ≤ (l0.length : Int))
            replace H := Option.bind_eq_some_iff.mp H
            obtain ⟨t151, A160, H⟩ := H
            replace H : (some (t151, true)) = some (r1, r2) := H
            have A16 := Aside0.mk A160
            clear A160
            simp only [Option.some.injEq, Prod.mk.injEq] at H
            obtain ⟨rfl, rfl⟩ := H
            go_enter Try.func40, Try.ntmps40
            try go_wp2
            have n0_ := Aside0.mk (below_drew1 HB.out)
            clear HB
            have HB := n0_
            clear n0_
            obtain ⟨i018, hi018, _, hsz18, _⟩ := info_parts info5
            obtain ⟨hcut18, hA18, hC18⟩ := print_take_of (P := Try.prog) (Value.int .u8) 0 23 5 .i64 Try.underlying23 hi018 hsz18 A0 c0 l0 (ji4) (of_decide_eq_true (by first | (with_reducible assumption) | assumption)) (of_decide_eq_true (by first | (with_reducible assumption) | assumption)) HC0.out
            have HR140 := Aside0.mk (Kd.C_of_reads (h1 := fun _ => rfl) (hA18 _ (Kd.reads_of_C HR0.out)))
            have HC140 := Aside0.mk hC18
            clear hA18 hC18 hi018 hsz18
            obtain ⟨i019, hi019, _, hsz19, _⟩ := info_parts info5
            obtain ⟨A19, hcut19, hA19, hC19⟩ := print_drop_of (P := Try.prog) (Value.int .u8) 0 23 5 .i64 Try.underlying23 hi019 hsz19 A0 c0 l0 (ji4) (of_decide_eq_true (by first | (with_reducible assumption) | assumption)) (of_decide_eq_true (by first | (with_reducible assumption) | assumption)) HC0.out
            have HR148 := Aside0.mk (Kd.C_of_reads (h1 := fun _ => rfl) (hA19 _ (Kd.reads_of_C HR0.out)))
            have HC148 := Aside0.mk hC19
            clear hA19 hC19 hi019 hsz19
            refine start_ (n := 15) (S := fun w' => True) (ds := []) #[false, false, false, false, false, false, false, false, false, false, false, false, false, false, false] (by kernel_rfl) rfl rfl trivial (fun hHeld => ?_); refine with_tabW crc_Open.tab2 crc_Open.bits2 (fun HT_ HW_ => ?_)
            generalize w.drew = w17 at HB HR140 HR148 hHeld ⊢
            refine pure_ (i := 0) (N := some 8) (v := ?_) (a' := ?_) #[true, false, false, false, false, false, false, false, false, false, false, false, false, false, false] rfl rfl (any_of HT_.out (by kernel_rfl)) (fun _ _ _ h => h) (Or.inl ⟨by rfl, ?_⟩) ?_ ?_
            rotate_left
            · intro w'
              go_simp
              with_reducible rfl
            rotate_left
            · simp only [Act.put, List.setIfInBounds_toArray, List.set_cons_zero, List.set_cons_succ, i64_w, i32_w]
              rfl
            refine pure_ (i := 1) (N := some 9) (v := ?_) (a' := ?_) #[true, true, false, false, false, false, false, false, false, false, false, false, false, false, false] rfl rfl (any_of HT_.out (by kernel_rfl)) (fun _ _ _ h => h) (Or.inl ⟨by rfl, ?_⟩) ?_ ?_
            rotate_left
            · intro w'
              go_simp
              with_reducible rfl
            rotate_left
            · simp only [Act.put, List.setIfInBounds_toArray, List.set_cons_zero, List.set_cons_succ, i64_w, i32_w]
              rfl
            refine pure_ (i := 2) (N := some 10) (v := ?_) (a' := ?_) #[true, true, true, false, false, false, false, false, false, false, false, false, false, false, false] rfl rfl (any_of HT_.out (by kernel_rfl)) (fun _ _ _ h => h) (Or.inl ⟨by rfl, ?_⟩) ?_ ?_
            rotate_left
            · intro w'
              go_simp
              with_reducible rfl
            rotate_left
            · simp only [Act.put, List.setIfInBounds_toArray, List.set_cons_zero, List.set_cons_succ, i64_w, i32_w]
              rfl
            refine pure_ (i := 3) (N := some 11) (v := ?_) (a' := ?_) #[true, true, true, true, false, false, false, false, false, false, false, false, false, false, false] rfl rfl (any_of HT_.out (by kernel_rfl)) (fun _ _ _ h => h) (Or.inl ⟨by rfl, ?_⟩) ?_ ?_
            rotate_left
            · intro w'
              go_simp
              with_reducible rfl
            rotate_left
            · simp only [Act.put, List.setIfInBounds_toArray, List.set_cons_zero, List.set_cons_succ, i64_w, i32_w]
              rfl
            refine pure_ (i := 4) (N := some 12) (v := ?_) (a' := ?_) #[true, true, true, true, true, false, false, false, false, false, false, false, false, false, false] rfl rfl (any_of HT_.out (by kernel_rfl)) (fun _ _ _ h => h) (Or.inl ⟨by rfl, ?_⟩) ?_ ?_
            rotate_left
            · intro w'
              go_simp
              with_reducible rfl
            rotate_left
            · simp only [Act.put, List.setIfInBounds_toArray, List.set_cons_zero, List.set_cons_succ, i64_w, i32_w]
              rfl
            refine pure_ (i := 5) (N := some 13) (v := ?_) (a' := ?_) #[true, true, true, true, true, true, false, false, false, false, false, false, false, false, false] rfl rfl (any_of HT_.out (by kernel_rfl)) (fun _ _ _ h => h) (Or.inl ⟨by rfl, ?_⟩) ?_ ?_
            rotate_left
            · intro w'
              go_simp
              with_reducible rfl
            rotate_left
            · simp only [Act.put, List.setIfInBounds_toArray, List.set_cons_zero, List.set_cons_succ, i64_w, i32_w]
              rfl
            refine pure_ (i := 7) (N := some 15) (v := ?_) (a' := ?_) #[true, true, true, true, true, true, false, true, false, false, false, false, false, false, false] rfl rfl (any_of HT_.out (by kernel_rfl)) (fun _ _ _ h => h) (Or.inl ⟨by rfl, ?_⟩) ?_ ?_
            rotate_left
            · intro w'
              go_simp
              with_reducible rfl
            rotate_left
            · simp only [Act.put, List.setIfInBounds_toArray, List.set_cons_zero, List.set_cons_succ, i64_w, i32_w]
              rfl
            refine pure_ (i := 9) (N := some 17) (v := ?_) (a' := ?_) #[true, true, true, true, true, true, false, true, false, true, false, false, false, false, false] rfl rfl (any_of HT_.out (by kernel_rfl)) (fun _ _ _ h => h) (Or.inl ⟨by rfl, ?_⟩) ?_ ?_
            rotate_left
            · intro w'
              go_simp
              with_reducible rfl
            rotate_left
            · simp only [Act.put, List.setIfInBounds_toArray, List.set_cons_zero, List.set_cons_succ, i64_w, i32_w]
              rfl
            refine pure_ (i := 10) (N := some 18) (v := ?_) (a' := ?_) #[true, true, true, true, true, true, false, true, false, true, true, false, false, false, false] rfl rfl (any_of HT_.out (by kernel_rfl)) (fun _ _ _ h => h) (Or.inl ⟨by rfl, ?_⟩) ?_ ?_
            rotate_left
            · intro w'
              go_simp
              with_reducible rfl
            rotate_left
            · simp only [Act.put, List.setIfInBounds_toArray, List.set_cons_zero, List.set_cons_succ, i64_w, i32_w]
              rfl
            refine pure_ (i := 11) (N := some 19) (v := ?_) (a' := ?_) #[true, true, true, true, true, true, false, true, false, true, true, true, false, false, false] rfl rfl (any_of HT_.out (by kernel_rfl)) (fun _ _ _ h => h) (Or.inl ⟨by rfl, ?_⟩) ?_ ?_
            rotate_left
            · intro w'
              go_simp
              with_reducible rfl
            rotate_left
            · simp only [Act.put, List.setIfInBounds_toArray, List.set_cons_zero, List.set_cons_succ, i64_w, i32_w]
              rfl
            refine one_ (i := 6) (N := some 14) #[true, true, true, true, true, true, true, true, false, true, true, true, false, false, false] rfl rfl (one_of HT_.out (by kernel_rfl)) (by decide) (fun K hK => ?_)
            refine goes_ Try.func39 (by kernel_rfl) rfl #[.slice A0 (l0.take ((ji4) : Int).toNat).length c0] (by rfl) rfl rfl (by (try simp only [List.map_toArray, List.map_cons, List.map_nil]); first | done | (rw [show (l0.take ((ji4) : Int).toNat).length = (ji4).toNat from (by rw [List.length_take]; have h_ : ((ji4) : Int) ≤ (l0.length : Int) := of_decide_eq_true (by first | (with_reducible assumption) | assumption); omega)] <;> rfl) | (simp only [hji4]; rfl) | rfl | (simp only [List.length_drop, List.length_take]; rfl)) ?_
            with_reducible refine (crc_Seal.calls _ _ (l0.take ((ji4) : Int).toNat) t141 _ ?side1 ?side2 A7.out).mono ?_
            (case side1 => repeat (first | exact (Kd.C_below HR140.out HB.out) | (with_reducible refine Kd.C_alloc ?_ _) | (with_reducible refine Kd.C_drewN ?_ _) | (with_reducible refine Kd.C_drew ?_)))
            (case side2 => exact HC140.out)
            rintro e w20 ⟨v142, rfl, ho0, hb⟩
            refine ⟨_, rfl, ?_⟩
            have n0_ := Aside0.mk (Kd.R_lower ho0 (below_size (by repeat (first | (with_reducible first | exact HB.out | apply below_alloc | apply pw_below_drewN | apply below_drew1) | exact HB.out))))
            have n1_ := Aside0.mk (below_step (by repeat (first | (with_reducible first | exact HB.out | apply below_alloc | apply pw_below_drewN | apply below_drew1) | exact HB.out)) hb)
            clear HB
            have HO143 := n0_
            have HB := n1_
            clear n0_ n1_
            (try clear hb)
            (try clear hb2)
            (try clear hk)
            (try clear hi)
            (try clear ho0)
            obtain ⟨Ao22, co22, eo22⟩ := Kd.R_slice HO143.out
            (first | subst eo22 | (injection eo22 with f1_ f2_ f3_; have f4_ := f1_.symm; have f5_ := f3_.symm; clear f1_ f2_ f3_; subst f4_; subst f5_))
            have q21 : ((ji4) : Int) ≤ ((t141.length : Int) : Int) := of_decide_eq_true (by first | (with_reducible assumption) | assumption)
            obtain ⟨i021, hi021, _, hsz21, _⟩ := info_parts info5
            have hroom21 : t141.length ≤ co22 := (Kd.R_reads' HO143.out).2.1
            have hC21 : Kd.C (Kd.int .u8) _ Ao22 t141.length t141 := (Kd.R_reads' HO143.out).2.2
            have q021 : (0 : Int) ≤ ((ji4) : Int) := of_decide_eq_true (by first | (with_reducible assumption) | assumption)
            have hcut21 := cut_from (P := Try.prog) 23 5 .i64 Try.underlying23 hi021 1 hsz21 Ao22 t141.length co22 (ji4) q021 q21
            have hr21 := Kd.C_drop (m := ((ji4) : Int).toNat) (c := co22) hC21 (by omega) hroom21
            obtain ⟨A21, hA21⟩ : ∃ A1, A1 = (if co22 = ((ji4) : Int).toNat then Ao22 else (Ao22 : Option Addr).map (·.add (((ji4) : Int).toNat * 1))) := ⟨_, rfl⟩
            obtain ⟨c21, hc21⟩ : ∃ c1, c1 = co22 - ((ji4) : Int).toNat := ⟨_, rfl⟩
            have hy21 : y144.length = t141.length - ((ji4) : Int).toNat := (by rw [Ny144.out, List.length_drop] <;> omega)
            rw [show (t141).drop ((ji4) : Int).toNat = y144 from Ny144.out.symm] at hr21
            replace hr21 : Kd.C (Kd.int .u8) _ A21 y144.length y144 := (by rw [hA21]; exact hr21)
            rw [← hy21, ← hA21, ← hc21] at hcut21
            have HR147 := Aside0.mk hr21
            have HC147 := Aside0.mk (show y144.length ≤ c21 from by rw [hy21, hc21]; exact Nat.sub_le_sub_right hroom21 _)
            clear hr21 hC21 hroom21 hi021 hsz21 hc21
            have KY21 := Aside0.mk hy21
            have KA21 := Aside0.mk hA21
            clear hy21 hA21
            have KL21 := Aside0.mk (show ((ji4) : Int).toNat ≤ t141.length from by omega)
            replace q21 := eq_true q21
            refine hK.out _ _ trivial (fun hHeld => ?_)
            clear hK K
            refine norm_ (a' := ?_) ?_ ?_
            rotate_left
            · show Act.put _ (some 14) _ = _
              simp only [Act.put, List.setIfInBounds_toArray, List.set_cons_zero, List.set_cons_succ, i64_w, i32_w]
              rfl
            refine pure_ (i := 8) (N := some 16) (v := ?_) (a' := ?_) #[true, true, true, true, true, true, true, true, true, true, true, true, false, false, false] rfl rfl (any_of HT_.out (by kernel_rfl)) (fun _ _ _ h => h) (Or.inl ⟨by rfl, ?_⟩) ?_ ?_
            rotate_left
            · intro w'
              go_simp
              with_reducible rfl
            rotate_left
            · simp only [Act.put, List.setIfInBounds_toArray, List.set_cons_zero, List.set_cons_succ, i64_w, i32_w]
              rfl
            refine one_ (i := 12) (N := some 20) #[true, true, true, true, true, true, true, true, true, true, true, true, true, false, false] rfl rfl (one_of HT_.out (by kernel_rfl)) (by decide) (fun K hK => ?_)
            refine goes_ Try.func48 (by kernel_rfl) rfl #[.slice A21 y144.length c21, .slice A19 (l0.drop ((ji4) : Int).toNat).length (c0 - (ji4).toNat)] (by rfl) rfl rfl (by (try simp only [List.map_toArray, List.map_cons, List.map_nil]); first | done | (rw [show (l0.drop ((ji4) : Int).toNat).length = (l0.length - (ji4).toNat) from List.length_drop] <;> rfl) | (simp only [hji4]; rfl) | rfl | (simp only [List.length_drop, List.length_take]; rfl)) ?_
            with_reducible refine (bytes_Equal.calls _ _ y144 _ _ (l0.drop ((ji4) : Int).toNat) true _ ?side1 ?side2 ?side3 ?side4 A12.out).mono ?_
            (case side1 => repeat (first | exact (by repeat (first | (with_reducible exact HR147.out) | (with_reducible refine Kd.C_alloc ?_ _) | (with_reducible refine Kd.C_drewN ?_ _) | (with_reducible refine Kd.C_drew ?_) | exact HR147.out)) | (with_reducible refine Kd.C_alloc ?_ _) | (with_reducible refine Kd.C_drewN ?_ _) | (with_reducible refine Kd.C_drew ?_)))
            (case side2 => exact HC147.out)
            (case side3 => repeat (first | exact (Kd.C_below HR148.out HB.out) | (with_reducible refine Kd.C_alloc ?_ _) | (with_reducible refine Kd.C_drewN ?_ _) | (with_reducible refine Kd.C_drew ?_)))
            (case side4 => exact HC148.out)
            rintro e w' ⟨rfl, ⟨nd, rfl⟩⟩
            refine ⟨_, rfl, ?_⟩
            refine hK.out _ _ trivial (fun hHeld => ?_)
            clear hK K
            refine norm_ (a' := ?_) ?_ ?_
            rotate_left
            · show Act.put _ (some 20) _ = _
              simp only [Act.put, List.setIfInBounds_toArray, List.set_cons_zero, List.set_cons_succ, i64_w, i32_w]
              rfl
            refine pure_ (i := 13) (N := some 21) (v := ?_) (a' := ?_) #[true, true, true, true, true, true, true, true, true, true, true, true, true, true, false] rfl rfl (any_of HT_.out (by kernel_rfl)) (fun _ _ _ h => h) (Or.inl ⟨by rfl, ?_⟩) ?_ ?_
            rotate_left
            · intro w'
              go_simp
              with_reducible rfl
            rotate_left
            · simp only [Act.put, List.setIfInBounds_toArray, List.set_cons_zero, List.set_cons_succ, i64_w, i32_w]
              rfl
            refine pure_ (i := 14) (N := some 22) (v := ?_) (a' := ?_) #[true, true, true, true, true, true, true, true, true, true, true, true, true, true, true] rfl rfl (any_of HT_.out (by kernel_rfl)) (fun _ _ _ h => h) (Or.inl ⟨by rfl, ?_⟩) ?_ ?_
            rotate_left
            · intro w'
              go_simp
              with_reducible rfl
            rotate_left
            · simp only [Act.put, List.setIfInBounds_toArray, List.set_cons_zero, List.set_cons_succ, i64_w, i32_w]
              rfl
            refine done_ (done_of HT_.out (by kernel_rfl)) ?_
            obtain ⟨i023, hi023, _, hsz23, _⟩ := info_parts info5
            obtain ⟨hcut23, hA23, hC23⟩ := print_take_of (P := Try.prog) (Value.int .u8) 0 23 5 .i64 Try.underlying23 hi023 hsz23 A0 c0 l0 (ji4) (of_decide_eq_true (by first | (with_reducible assumption) | assumption)) (of_decide_eq_true (by first | (with_reducible assumption) | assumption)) HC0.out
            have HR150 := Aside0.mk (Kd.C_of_reads (h1 := fun _ => rfl) (hA23 _ (Kd.reads_of_C HR0.out)))
            have HC150 := Aside0.mk hC23
            clear hA23 hC23 hi023 hsz23
            try go_wp2_with (first | ((with_reducible refine gate_callee (f := 51) rfl ?_); refine goesL_ (some 26) rfl rfl Try.func51 (by kernel_rfl) rfl #[.slice A0 (l0.take ((ji4) : Int).toNat).length c0] rfl (by (try simp only [List.map_toArray, List.map_cons, List.map_nil]); first | done | (rw [show (l0.take ((ji4) : Int).toNat).length = (ji4).toNat from (by rw [List.length_take]; have h_ : ((ji4) : Int) ≤ (l0.length : Int) := of_decide_eq_true (by first | (with_reducible assumption) | assumption); omega)] <;> rfl) | (simp only [hji4]; rfl) | rfl | (simp only [List.length_drop, List.length_take]; rfl)) ?_; (with_reducible refine (bytes_Clone.calls _ _ (l0.take ((ji4) : Int).toNat) t151 _ ?side1 ?side2 A16.out).mono ?_); (case side1 => repeat (first | exact (Kd.C_below HR150.out (by repeat (first | (with_reducible first | exact HB.out | apply below_alloc | apply pw_below_drewN | apply below_drew1) | exact HB.out))) | (with_reducible refine Kd.C_alloc ?_ _) | (with_reducible refine Kd.C_drewN ?_ _) | (with_reducible refine Kd.C_drew ?_))); (case side2 => exact HC150.out); rintro e w24 ⟨v152, rfl, ho0, hb⟩; refine ⟨_, rfl, ?_⟩; have n0_ := Aside0.mk (Kd.R_elder' (by (with_reducible repeat (first | apply Kd.R_alloc | apply Kd.R_drewN | apply Kd.R_drew)); exact HO143.out) (Kd.R_base ho0) hb); have n1_ := Aside0.mk (Kd.R_lower (Kd.R_new' ho0 (Kd.R_lt (by (with_reducible repeat (first | apply Kd.R_alloc | apply Kd.R_drewN | apply Kd.R_drew)); exact HO143.out))) (below_size (by repeat (first | (with_reducible first | exact HB.out | apply below_alloc | apply pw_below_drewN | apply below_drew1) | exact HB.out)))); have n2_ := Aside0.mk (Kd.C_below (by repeat (first | (with_reducible exact HR147.out) | (with_reducible refine Kd.C_alloc ?_ _) | (with_reducible refine Kd.C_drewN ?_ _) | (with_reducible refine Kd.C_drew ?_) | exact HR147.out)) hb); have n3_ := Aside0.mk (below_step (by repeat (first | (with_reducible first | exact HB.out | apply below_alloc | apply pw_below_drewN | apply below_drew1) | exact HB.out)) hb); clear HO143; clear HR147; clear HB; have HO143 := n0_; have HO153 := n1_; have HR147 := n2_; have HB := n3_; clear n0_ n1_ n2_ n3_; (try clear hb); (try clear hb2); (try clear hk); (try clear hi); (try clear ho0)))
            go_ret2
            exact ⟨_, by first | rfl | (simp [errW_none, errW_some] <;> rfl) | (simp only [← hji4]; first | rfl | (simp [errW_none, errW_some] <;> rfl)) | (simp [*, errW_none, errW_some] <;> rfl), by (with_reducible repeat (first | apply Kd.R_alloc | apply Kd.R_drewN | apply Kd.R_drew)); exact Kd.R_mono HO153.out (fun _ hk => trivial), by repeat (first | (with_reducible first | exact HB.out | apply below_alloc | apply pw_below_drewN | apply below_drew1) | exact HB.out)⟩
          · replace c13 := Bool.eq_false_iff.mpr c13
            subst c13
            have H1 : (some (([] : List Int), false)) = some (r1, r2) := by rw [if_neg (show ¬ (false = true) by decide)] at H; exact H
            clear H
            have H := H1
            clear H1
            simp only [Option.some.injEq, Prod.mk.injEq] at H
            obtain ⟨rfl, rfl⟩ := H
            go_enter Try.func40, Try.ntmps40
            try go_wp2
            have n0_ := Aside0.mk (below_drew1 HB.out)
            clear HB
            have HB := n0_
            clear n0_
            obtain ⟨i026, hi026, _, hsz26, _⟩ := info_parts info5
            obtain ⟨hcut26, hA26, hC26⟩ := print_take_of (P := Try.prog) (Value.int .u8) 0 23 5 .i64 Try.underlying23 hi026 hsz26 A0 c0 l0 (ji4) (of_decide_eq_true (by first | (with_reducible assumption) | assumption)) (of_decide_eq_true (by first | (with_reducible assumption) | assumption)) HC0.out
            have HR140 := Aside0.mk (Kd.C_of_reads (h1 := fun _ => rfl) (hA26 _ (Kd.reads_of_C HR0.out)))
            have HC140 := Aside0.mk hC26
            clear hA26 hC26 hi026 hsz26
            obtain ⟨i027, hi027, _, hsz27, _⟩ := info_parts info5
            obtain ⟨A27, hcut27, hA27, hC27⟩ := print_drop_of (P := Try.prog) (Value.int .u8) 0 23 5 .i64 Try.underlying23 hi027 hsz27 A0 c0 l0 (ji4) (of_decide_eq_true (by first | (with_reducible assumption) | assumption)) (of_decide_eq_true (by first | (with_reducible assumption) | assumption)) HC0.out
            have HR148 := Aside0.mk (Kd.C_of_reads (h1 := fun _ => rfl) (hA27 _ (Kd.reads_of_C HR0.out)))
            have HC148 := Aside0.mk hC27
            clear hA27 hC27 hi027 hsz27
            refine start_ (n := 15) (S := fun w' => True) (ds := []) #[false, false, false, false, false, false, false, false, false, false, false, false, false, false, false] (by kernel_rfl) rfl rfl trivial (fun hHeld => ?_); refine with_tabW crc_Open.tab2 crc_Open.bits2 (fun HT_ HW_ => ?_)
            generalize w.drew = w25 at HB HR140 HR148 hHeld ⊢
            refine pure_ (i := 0) (N := some 8) (v := ?_) (a' := ?_) #[true, false, false, false, false, false, false, false, false, false, false, false, false, false, false] rfl rfl (any_of HT_.out (by kernel_rfl)) (fun _ _ _ h => h) (Or.inl ⟨by rfl, ?_⟩) ?_ ?_
            rotate_left
            · intro w'
              go_simp
              with_reducible rfl
            rotate_left
            · simp only [Act.put, List.setIfInBounds_toArray, List.set_cons_zero, List.set_cons_succ, i64_w, i32_w]
              rfl
            refine pure_ (i := 1) (N := some 9) (v := ?_) (a' := ?_) #[true, true, false, false, false, false, false, false, false, false, false, false, false, false, false] rfl rfl (any_of HT_.out (by kernel_rfl)) (fun _ _ _ h => h) (Or.inl ⟨by rfl, ?_⟩) ?_ ?_
            rotate_left
            · intro w'
              go_simp
              with_reducible rfl
            rotate_left
            · simp only [Act.put, List.setIfInBounds_toArray, List.set_cons_zero, List.set_cons_succ, i64_w, i32_w]
              rfl
            refine pure_ (i := 2) (N := some 10) (v := ?_) (a' := ?_) #[true, true, true, false, false, false, false, false, false, false, false, false, false, false, false] rfl rfl (any_of HT_.out (by kernel_rfl)) (fun _ _ _ h => h) (Or.inl ⟨by rfl, ?_⟩) ?_ ?_
            rotate_left
            · intro w'
              go_simp
              with_reducible rfl
            rotate_left
            · simp only [Act.put, List.setIfInBounds_toArray, List.set_cons_zero, List.set_cons_succ, i64_w, i32_w]
              rfl
            refine pure_ (i := 3) (N := some 11) (v := ?_) (a' := ?_) #[true, true, true, true, false, false, false, false, false, false, false, false, false, false, false] rfl rfl (any_of HT_.out (by kernel_rfl)) (fun _ _ _ h => h) (Or.inl ⟨by rfl, ?_⟩) ?_ ?_
            rotate_left
            · intro w'
              go_simp
              with_reducible rfl
            rotate_left
            · simp only [Act.put, List.setIfInBounds_toArray, List.set_cons_zero, List.set_cons_succ, i64_w, i32_w]
              rfl
            refine pure_ (i := 4) (N := some 12) (v := ?_) (a' := ?_) #[true, true, true, true, true, false, false, false, false, false, false, false, false, false, false] rfl rfl (any_of HT_.out (by kernel_rfl)) (fun _ _ _ h => h) (Or.inl ⟨by rfl, ?_⟩) ?_ ?_
            rotate_left
            · intro w'
              go_simp
              with_reducible rfl
            rotate_left
            · simp only [Act.put, List.setIfInBounds_toArray, List.set_cons_zero, List.set_cons_succ, i64_w, i32_w]
              rfl
            refine pure_ (i := 5) (N := some 13) (v := ?_) (a' := ?_) #[true, true, true, true, true, true, false, false, false, false, false, false, false, false, false] rfl rfl (any_of HT_.out (by kernel_rfl)) (fun _ _ _ h => h) (Or.inl ⟨by rfl, ?_⟩) ?_ ?_
            rotate_left
            · intro w'
              go_simp
              with_reducible rfl
            rotate_left
            · simp only [Act.put, List.setIfInBounds_toArray, List.set_cons_zero, List.set_cons_succ, i64_w, i32_w]
              rfl
            refine pure_ (i := 7) (N := some 15) (v := ?_) (a' := ?_) #[true, true, true, true, true, true, false, true, false, false, false, false, false, false, false] rfl rfl (any_of HT_.out (by kernel_rfl)) (fun _ _ _ h => h) (Or.inl ⟨by rfl, ?_⟩) ?_ ?_
            rotate_left
            · intro w'
              go_simp
              with_reducible rfl
            rotate_left
            · simp only [Act.put, List.setIfInBounds_toArray, List.set_cons_zero, List.set_cons_succ, i64_w, i32_w]
              rfl
            refine pure_ (i := 9) (N := some 17) (v := ?_) (a' := ?_) #[true, true, true, true, true, true, false, true, false, true, false, false, false, false, false] rfl rfl (any_of HT_.out (by kernel_rfl)) (fun _ _ _ h => h) (Or.inl ⟨by rfl, ?_⟩) ?_ ?_
            rotate_left
            · intro w'
              go_simp
              with_reducible rfl
            rotate_left
            · simp only [Act.put, List.setIfInBounds_toArray, List.set_cons_zero, List.set_cons_succ, i64_w, i32_w]
              rfl
            refine pure_ (i := 10) (N := some 18) (v := ?_) (a' := ?_) #[true, true, true, true, true, true, false, true, false, true, true, false, false, false, false] rfl rfl (any_of HT_.out (by kernel_rfl)) (fun _ _ _ h => h) (Or.inl ⟨by rfl, ?_⟩) ?_ ?_
            rotate_left
            · intro w'
              go_simp
              with_reducible rfl
            rotate_left
            · simp only [Act.put, List.setIfInBounds_toArray, List.set_cons_zero, List.set_cons_succ, i64_w, i32_w]
              rfl
            refine pure_ (i := 11) (N := some 19) (v := ?_) (a' := ?_) #[true, true, true, true, true, true, false, true, false, true, true, true, false, false, false] rfl rfl (any_of HT_.out (by kernel_rfl)) (fun _ _ _ h => h) (Or.inl ⟨by rfl, ?_⟩) ?_ ?_
            rotate_left
            · intro w'
              go_simp
              with_reducible rfl
            rotate_left
            · simp only [Act.put, List.setIfInBounds_toArray, List.set_cons_zero, List.set_cons_succ, i64_w, i32_w]
              rfl
            refine one_ (i := 6) (N := some 14) #[true, true, true, true, true, true, true, true, false, true, true, true, false, false, false] rfl rfl (one_of HT_.out (by kernel_rfl)) (by decide) (fun K hK => ?_)
            refine goes_ Try.func39 (by kernel_rfl) rfl #[.slice A0 (l0.take ((ji4) : Int).toNat).length c0] (by rfl) rfl rfl (by (try simp only [List.map_toArray, List.map_cons, List.map_nil]); first | done | (rw [show (l0.take ((ji4) : Int).toNat).length = (ji4).toNat from (by rw [List.length_take]; have h_ : ((ji4) : Int) ≤ (l0.length : Int) := of_decide_eq_true (by first | (with_reducible assumption) | assumption); omega)] <;> rfl) | (simp only [hji4]; rfl) | rfl | (simp only [List.length_drop, List.length_take]; rfl)) ?_
            with_reducible refine (crc_Seal.calls _ _ (l0.take ((ji4) : Int).toNat) t141 _ ?side1 ?side2 A7.out).mono ?_
            (case side1 => repeat (first | exact (Kd.C_below HR140.out HB.out) | (with_reducible refine Kd.C_alloc ?_ _) | (with_reducible refine Kd.C_drewN ?_ _) | (with_reducible refine Kd.C_drew ?_)))
            (case side2 => exact HC140.out)
            rintro e w28 ⟨v142, rfl, ho0, hb⟩
            refine ⟨_, rfl, ?_⟩
            have n0_ := Aside0.mk (Kd.R_lower ho0 (below_size (by repeat (first | (with_reducible first | exact HB.out | apply below_alloc | apply pw_below_drewN | apply below_drew1) | exact HB.out))))
            have n1_ := Aside0.mk (below_step (by repeat (first | (with_reducible first | exact HB.out | apply below_alloc | apply pw_below_drewN | apply below_drew1) | exact HB.out)) hb)
            clear HB
            have HO143 := n0_
            have HB := n1_
            clear n0_ n1_
            (try clear hb)
            (try clear hb2)
            (try clear hk)
            (try clear hi)
            (try clear ho0)
            obtain ⟨Ao30, co30, eo30⟩ := Kd.R_slice HO143.out
            (first | subst eo30 | (injection eo30 with f1_ f2_ f3_; have f4_ := f1_.symm; have f5_ := f3_.symm; clear f1_ f2_ f3_; subst f4_; subst f5_))
            have q29 : ((ji4) : Int) ≤ ((t141.length : Int) : Int) := of_decide_eq_true (by first | (with_reducible assumption) | assumption)
            obtain ⟨i029, hi029, _, hsz29, _⟩ := info_parts info5
            have hroom29 : t141.length ≤ co30 := (Kd.R_reads' HO143.out).2.1
            have hC29 : Kd.C (Kd.int .u8) _ Ao30 t141.length t141 := (Kd.R_reads' HO143.out).2.2
            have q029 : (0 : Int) ≤ ((ji4) : Int) := of_decide_eq_true (by first | (with_reducible assumption) | assumption)
            have hcut29 := cut_from (P := Try.prog) 23 5 .i64 Try.underlying23 hi029 1 hsz29 Ao30 t141.length co30 (ji4) q029 q29
            have hr29 := Kd.C_drop (m := ((ji4) : Int).toNat) (c := co30) hC29 (by omega) hroom29
            obtain ⟨A29, hA29⟩ : ∃ A1, A1 = (if co30 = ((ji4) : Int).toNat then Ao30 else (Ao30 : Option Addr).map (·.add (((ji4) : Int).toNat * 1))) := ⟨_, rfl⟩
            obtain ⟨c29, hc29⟩ : ∃ c1, c1 = co30 - ((ji4) : Int).toNat := ⟨_, rfl⟩
            have hy29 : y144.length = t141.length - ((ji4) : Int).toNat := (by rw [Ny144.out, List.length_drop] <;> omega)
            rw [show (t141).drop ((ji4) : Int).toNat = y144 from Ny144.out.symm] at hr29
            replace hr29 : Kd.C (Kd.int .u8) _ A29 y144.length y144 := (by rw [hA29]; exact hr29)
            rw [← hy29, ← hA29, ← hc29] at hcut29
            have HR147 := Aside0.mk hr29
            have HC147 := Aside0.mk (show y144.length ≤ c29 from by rw [hy29, hc29]; exact Nat.sub_le_sub_right hroom29 _)
            clear hr29 hC29 hroom29 hi029 hsz29 hc29
            have KY29 := Aside0.mk hy29
            have KA29 := Aside0.mk hA29
            clear hy29 hA29
            have KL29 := Aside0.mk (show ((ji4) : Int).toNat ≤ t141.length from by omega)
            replace q29 := eq_true q29
            refine hK.out _ _ trivial (fun hHeld => ?_)
            clear hK K
            refine norm_ (a' := ?_) ?_ ?_
            rotate_left
            · show Act.put _ (some 14) _ = _
              simp only [Act.put, List.setIfInBounds_toArray, List.set_cons_zero, List.set_cons_succ, i64_w, i32_w]
              rfl
            refine pure_ (i := 8) (N := some 16) (v := ?_) (a' := ?_) #[true, true, true, true, true, true, true, true, true, true, true, true, false, false, false] rfl rfl (any_of HT_.out (by kernel_rfl)) (fun _ _ _ h => h) (Or.inl ⟨by rfl, ?_⟩) ?_ ?_
            rotate_left
            · intro w'
              go_simp
              with_reducible rfl
            rotate_left
            · simp only [Act.put, List.setIfInBounds_toArray, List.set_cons_zero, List.set_cons_succ, i64_w, i32_w]
              rfl
            refine one_ (i := 12) (N := some 20) #[true, true, true, true, true, true, true, true, true, true, true, true, true, false, false] rfl rfl (one_of HT_.out (by kernel_rfl)) (by decide) (fun K hK => ?_)
            refine goes_ Try.func48 (by kernel_rfl) rfl #[.slice A29 y144.length c29, .slice A27 (l0.drop ((ji4) : Int).toNat).length (c0 - (ji4).toNat)] (by rfl) rfl rfl (by (try simp only [List.map_toArray, List.map_cons, List.map_nil]); first | done | (rw [show (l0.drop ((ji4) : Int).toNat).length = (l0.length - (ji4).toNat) from List.length_drop] <;> rfl) | (simp only [hji4]; rfl) | rfl | (simp only [List.length_drop, List.length_take]; rfl)) ?_
            with_reducible refine (bytes_Equal.calls _ _ y144 _ _ (l0.drop ((ji4) : Int).toNat) false _ ?side1 ?side2 ?side3 ?side4 A12.out).mono ?_
            (case side1 => repeat (first | exact (by repeat (first | (with_reducible exact HR147.out) | (with_reducible refine Kd.C_alloc ?_ _) | (with_reducible refine Kd.C_drewN ?_ _) | (with_reducible refine Kd.C_drew ?_) | exact HR147.out)) | (with_reducible refine Kd.C_alloc ?_ _) | (with_reducible refine Kd.C_drewN ?_ _) | (with_reducible refine Kd.C_drew ?_)))
            (case side2 => exact HC147.out)
            (case side3 => repeat (first | exact (Kd.C_below HR148.out HB.out) | (with_reducible refine Kd.C_alloc ?_ _) | (with_reducible refine Kd.C_drewN ?_ _) | (with_reducible refine Kd.C_drew ?_)))
            (case side4 => exact HC148.out)
            rintro e w' ⟨rfl, ⟨nd, rfl⟩⟩
            refine ⟨_, rfl, ?_⟩
            refine hK.out _ _ trivial (fun hHeld => ?_)
            clear hK K
            refine norm_ (a' := ?_) ?_ ?_
            rotate_left
            · show Act.put _ (some 20) _ = _
              simp only [Act.put, List.setIfInBounds_toArray, List.set_cons_zero, List.set_cons_succ, i64_w, i32_w]
              rfl
            refine pure_ (i := 13) (N := some 21) (v := ?_) (a' := ?_) #[true, true, true, true, true, true, true, true, true, true, true, true, true, true, false] rfl rfl (any_of HT_.out (by kernel_rfl)) (fun _ _ _ h => h) (Or.inl ⟨by rfl, ?_⟩) ?_ ?_
            rotate_left
            · intro w'
              go_simp
              with_reducible rfl
            rotate_left
            · simp only [Act.put, List.setIfInBounds_toArray, List.set_cons_zero, List.set_cons_succ, i64_w, i32_w]
              rfl
            refine pure_ (i := 14) (N := some 22) (v := ?_) (a' := ?_) #[true, true, true, true, true, true, true, true, true, true, true, true, true, true, true] rfl rfl (any_of HT_.out (by kernel_rfl)) (fun _ _ _ h => h) (Or.inl ⟨by rfl, ?_⟩) ?_ ?_
            rotate_left
            · intro w'
              go_simp
              with_reducible rfl
            rotate_left
            · simp only [Act.put, List.setIfInBounds_toArray, List.set_cons_zero, List.set_cons_succ, i64_w, i32_w]
              rfl
            refine done_ (done_of HT_.out (by kernel_rfl)) ?_
            try go_wp2
            go_ret2
            exact ⟨_, by first | rfl | (simp [errW_none, errW_some] <;> rfl) | (simp only [← hji4]; first | rfl | (simp [errW_none, errW_some] <;> rfl)) | (simp [*, errW_none, errW_some] <;> rfl), by first | exact Kd.R_nil _ _ _ _ _ | exact Kd.N_nil _ _ _ _ _ | exact Kd.V_nil _ _ _ _ _ | exact Kd.Q_nil _ _ _ _ _ | exact Kd.S_nil _ _ _ _ _, by repeat (first | (with_reducible first | exact HB.out | apply below_alloc | apply pw_below_drewN | apply below_drew1) | exact HB.out)⟩
        · rw [if_neg c9] at H
          exact absurd H (by simp)
      · rw [if_neg c6] at H
        exact absurd H (by simp)
    · rw [if_neg c5] at H
      exact absurd H (by simp)

end Go.Proofs.Yticpcjjgdkbcjaa.G
end

section
-- Written by a program of this session (wip/tools/myprint.py), over the kit's print.
namespace Go.Proofs.Yticpcjjgdkbcjaa.G
open Go.RowKit Go.Proofs.YticpcjjgdkbcjaaW.PrintWords Go.Proofs.YticpcjjgdkbcjaaW.PrintLast Go.Proofs.YticpcjjgdkbcjaaW.PrintMore
attribute [local go_sem] max2_int min2_int max_two min_two max_three min_three max_four min_four   -- for this text's walks alone
set_option linter.unusedVariables false
set_option linter.unusedSimpArgs false

-- BY HAND
-- IMPORT YticpcjjgdkbcjaaConcat
-- LIB Derived.BigQuiet
-- LIB Derived.Deep.QuietTactic
-- LIB Derived.Laws.BitsAllLaws
-- over: crc_Open.f
def frame_Next.f (l0 : List Int) : Option (List Int × Int × Int) :=
  if l0.length < 6 then some ([], 0, 2) else (crc_Open.f (l0.take 6)).bind fun p => if p.2 = false then some ([], 0, 6) else if p.1.length = 2 ∧ u8s p.1 then
    (if rd p.1 0 + 256 * rd p.1 1 > 8192 then some ([], 0, 4) else if (l0.length : Int) < rd p.1 0 + 256 * rd p.1 1 + 10 then some ([], 0, 2) else
      (crc_Open.f ((l0.take (rd p.1 0 + 256 * rd p.1 1 + 10).toNat).drop 6)).bind fun q => if q.2 = false then some ([], 0, 6) else some (q.1, rd p.1 0 + 256 * rd p.1 1 + 10, 0)) else none
theorem held_mid {w : World} {S : Nat → Prop} {ad : Addr} {l : List Int} (h : HeldB w S (some ad) l) (a b : Nat) (ha : 0 < a) (hb : b ≤ l.length) : HeldB w S (some ⟨ad.block, ad.off + a, none⟩) ((l.take b).drop a) := by
  intro h0
  rw [List.length_drop, List.length_take] at h0
  obtain ⟨ad', e1, e2, e3⟩ := h (by omega)
  cases e1
  refine ⟨_, rfl, e2, fun j hj => ?_⟩
  rw [List.length_drop, List.length_take] at hj
  have e4 := e3 (a + j) (by omega)
  rw [← add_add] at e4
  have e5 : ad.add a = ⟨ad.block, ad.off + a, none⟩ := by unfold Addr.add; rw [if_neg (by omega)]
  rw [e5] at e4
  rw [e4]
  congr 2
  have e6 : ((a + j : Nat) : Int).toNat = a + j := by omega
  have e7 : ((j : Nat) : Int).toNat = j := by omega
  simp only [rd, List.getD_eq_getElem?_getD, e6, e7, List.getElem?_drop]
  rw [List.getElem?_take_of_lt (by omega)]
theorem or_two (x y : Int) (hx : 0 ≤ x ∧ x < 256) (hy : 0 ≤ y ∧ y < 256) : bits .or .i64 x (y * 256) = x + 256 * y := by
  obtain ⟨X, rfl⟩ := Int.eq_ofNat_of_zero_le hx.1
  obtain ⟨Y, rfl⟩ := Int.eq_ofNat_of_zero_le hy.1
  have hX : X < 256 := by omega
  have hY : Y < 256 := by omega
  have e1 : (BitVec.ofInt 64 (X : Int)).toNat = X := by rw [BitVec.toNat_ofInt]; omega
  have e2 : (BitVec.ofInt 64 ((Y : Int) * 256)).toNat = Y * 256 := by rw [BitVec.toNat_ofInt]; omega
  show IntKind.i64.wrap ((BitVec.ofInt 64 (X : Int) ||| BitVec.ofInt 64 ((Y : Int) * 256)).toNat : Int) = _
  rw [BitVec.toNat_or, e1, e2, Nat.or_comm, Nat.mul_comm Y 256]
  have := Nat.two_pow_add_eq_or_of_lt (i := 8) (b := X) (by omega) Y
  rw [show (256 : Nat) = 2 ^ 8 from rfl, ← this, IntKind.wrap_i64]
  omega
set_option maxRecDepth 100000 in
set_option maxHeartbeats 2000000 in
theorem frame_Next.calls (A0 : Option Addr) (c0 : Nat) (l0 : List Int) (r1 : List Int) (r2 r3 : Int) (w : World) (hr0 : Kd.C (Kd.int .u8) w A0 l0.length l0) (hc0 : l0.length ≤ c0) (h : frame_Next.f l0 = some (r1, r2, r3)) :
    Calls Try.prog 24 #[.slice A0 l0.length c0] w fun e w' => ∃ v0_ : Value, e = .returned (.tuple #[v0_, .int .i64 r2, .int .i64 r3]) ∧ Kd.R (Kd.int .u8) 5 w' w.heap.size (fun _ => True) v0_ r1 ∧ Below w.heap.size w w' := by
  unfold frame_Next.f at h
  by_cases hlt : l0.length < 6
  · rw [if_pos hlt] at h
    simp only [Option.some.injEq, Prod.mk.injEq] at h
    obtain ⟨rfl, rfl, rfl⟩ := h
    go_enter Try.func24, Try.ntmps24
    go_wp2
    go_ret3
    exact ⟨_, rfl, Kd.R_nil _ _ _ _ _, Below.refl _ _⟩
  · rw [if_neg hlt] at h
    obtain ⟨⟨hd, ok⟩, h1, h⟩ := Option.bind_eq_some_iff.mp h
    simp only at h
    obtain ⟨T6, hT⟩ : ∃ T, T = l0.take 6 := ⟨_, rfl⟩
    have hl6 : T6.length = 6 := by rw [hT, List.length_take]; omega
    have hsplit : l0 = T6 ++ l0.drop 6 := by rw [hT, List.take_append_drop]
    rw [← hT] at h1
    have HR := Aside0.mk (HeldB.low hr0)
    have hR6 : HeldB w (fun k => k < w.heap.size) A0 T6 := by
      have hh := HR.out
      rw [hsplit] at hh
      intro h0
      obtain ⟨ad, e1, e2, e3⟩ := hh (by rw [List.length_append]; omega)
      refine ⟨ad, e1, e2, fun j hj => ?_⟩
      rw [e3 j (by rw [List.length_append]; omega)]
      simp [rd, List.getD_eq_getElem?_getD, List.getElem?_append_left hj]
    have hop := crc_Open.calls A0 c0 T6 hd ok w (hR6.C (by omega)) (by omega) h1
    rw [hl6] at hop
    have HOP := Aside0.mk hop
    have HH := Aside0.mk h
    have HS := Aside0.mk hsplit
    clear hop h h1 hR6 hsplit hT hr0
    go_enter Try.func24, Try.ntmps24
    go_wp2_with fail
    refine HOP.out.mono ?_
    rintro e w2 ⟨v2, rfl, hRr, hB⟩
    have HB2 := Aside0.mk hB
    have HR2 := Aside0.mk (HR.out.below hB)
    have HO2 := Aside0.mk hRr
    clear hRr hB HR HOP
    have h := HH.out
    cases ok with
    | false =>
      rw [if_pos rfl] at h
      simp only [Option.some.injEq, Prod.mk.injEq] at h
      obtain ⟨rfl, rfl, rfl⟩ := h
      go_wp2
      go_ret3
      exact ⟨_, rfl, Kd.R_nil _ _ _ _ _, HB2.out⟩
    | true =>
      rw [if_neg (by decide)] at h
      split at h
      · rename_i hcond
        obtain ⟨hl2, hu2⟩ := hcond
        clear HH
        obtain ⟨Ah, ch, rfl, hch, _, hH, _⟩ := held_own HO2.out
        obtain ⟨gh, rfl⟩ : ∃ g, Ah = some ⟨g, 0, none⟩ := by
          obtain ⟨_, ho⟩ := kd_own HO2.out
          rcases ho with ⟨h1, h2⟩ | ⟨g, cap, cur, h1, h2, h3, h4, h5, h6, h7⟩
          · omega
          · simp only [Value.slice.injEq] at h1
            exact ⟨g, h1.1⟩
        have hI := HO2.out
        obtain ⟨q0, _⟩ := Kd.R_cell (d := (0 : Int)) hI (0 : Int) (by omega) (by omega)
        obtain ⟨q1, _⟩ := Kd.R_cell (d := (0 : Int)) hI (1 : Int) (by omega) (by omega)
        have H := Aside0.mk h
        have HU := Aside0.mk hu2
        clear hI hH h hu2
        have u0 := rd_u8 HU.out 0 (by omega)
        have u1 := rd_u8 HU.out 1 (by omega)
        have q0' : w2.cell? ⟨gh, 0, none⟩ = some (.int .u8 (rd hd 0)) := q0
        have q1' : w2.cell? ⟨gh, 1, none⟩ = some (.int .u8 (rd hd 1)) := q1
        clear q0 q1 HU
        rw [show ((0 : Nat) : Int) = 0 from rfl] at u0
        rw [show ((1 : Nat) : Int) = 1 from rfl] at u1
        generalize rd hd 0 = x at *
        generalize rd hd 1 = y at *
        rw [hl2]
        go_wp2_with fail
        go_quiet (fail)
        rw [or_two x y u0 u1]
        have hn0 : 0 ≤ x + 256 * y := by omega
        generalize x + 256 * y = n at *
        obtain ⟨m, rfl⟩ := Int.eq_ofNat_of_zero_le hn0
        clear u0 u1 q0' q1' hn0
        have HB3 : Aside0 (Below w.heap.size w (w2.drewN nq)) := ⟨pw_below_drewN HB2.out _⟩
        have HR3 : Aside0 (HeldB (w2.drewN nq) (fun k => k < w.heap.size) A0 l0) := ⟨HR2.out.below (pw_below_drewN (Below.refl _ _) _)⟩
        clear HB2 HR2 HO2
        generalize w2.drewN nq = w3 at HB3 HR3 ⊢
        have h := H.out
        clear H
        by_cases hm : 8192 < m
        · rw [if_pos (by omega)] at h
          simp only [Option.some.injEq, Prod.mk.injEq] at h
          obtain ⟨rfl, rfl, rfl⟩ := h
          go_wp2
          go_ret3
          exact ⟨_, rfl, Kd.R_nil _ _ _ _ _, HB3.out⟩
        · rw [if_neg (by omega)] at h
          by_cases hs : l0.length < m + 10
          · rw [if_pos (by omega)] at h
            simp only [Option.some.injEq, Prod.mk.injEq] at h
            obtain ⟨rfl, rfl, rfl⟩ := h
            go_wp2
            go_ret3
            exact ⟨_, rfl, Kd.R_nil _ _ _ _ _, HB3.out⟩
          · rw [if_neg (by omega)] at h
            obtain ⟨⟨x2, ok2⟩, h2, h⟩ := Option.bind_eq_some_iff.mp h
            have H2 := Aside0.mk h2
            have H := Aside0.mk h
            clear h2 h
            obtain ⟨ad, rfl⟩ : ∃ ad, A0 = some ad := by
              obtain ⟨ad, e, _, _⟩ := HR3.out (by omega)
              exact ⟨ad, e⟩
            have hT := held_mid HR3.out 6 (m + 10) (by decide) (by omega)
            have hlT : ((l0.take (m + 10)).drop 6).length = 6 + m - 2 := by rw [List.length_drop, List.length_take]; omega
            have h2 := H2.out
            rw [show ((m : Int) + 10).toNat = m + 10 by omega] at h2
            have hop := crc_Open.calls _ (c0 - 6) _ x2 ok2 w3 (hT.C (by rw [hlT]; omega)) (by rw [hlT]; omega) h2
            rw [hlT] at hop
            have HOP := Aside0.mk hop
            clear hop h2 hlT hT H2
            go_wp2_with fail
            refine HOP.out.mono ?_
            rintro e w4 ⟨v4, rfl, hRr, hB⟩
            have HB4 : Aside0 (Below w.heap.size w w4) := ⟨HB3.out.trans (hB.mono HB3.out.size)⟩
            have hRl := Kd.R_lower hRr (base' := w.heap.size) HB3.out.size
            have h := H.out
            clear H HOP HB3 hB hRr
            cases ok2 with
            | false =>
              rw [if_pos rfl] at h
              simp only [Option.some.injEq, Prod.mk.injEq] at h
              obtain ⟨rfl, rfl, rfl⟩ := h
              go_wp2
              go_ret3
              exact ⟨_, rfl, Kd.R_nil _ _ _ _ _, HB4.out⟩
            | true =>
              rw [if_neg (by decide)] at h
              simp only [Option.some.injEq, Prod.mk.injEq] at h
              obtain ⟨rfl, rfl, rfl⟩ := h
              have HRl := Aside0.mk hRl
              clear hRl
              go_wp2
              go_ret3
              exact ⟨v4, (by show Ending.returned (Value.tuple #[v4, .int .i64 (6 + (m : Int) + 4), .int .i64 0]) = _; rw [show 6 + (m : Int) + 4 = (m : Int) + 10 by omega]), HRl.out, HB4.out⟩
      · cases h

end Go.Proofs.Yticpcjjgdkbcjaa.G
end

section
set_option linter.unusedVariables false
set_option linter.unusedSimpArgs false
set_option autoImplicit false
namespace Go.Proofs.Yticpcjjgdkbcjaa
open Go.RowKit Go.Proofs.YticpcjjgdkbcjaaW.PrintWords Go.Proofs.YticpcjjgdkbcjaaW.PrintLast Go.Proofs.YticpcjjgdkbcjaaW.PrintMore

/-- a value that is read: its kind, its int, its text; and the scan behind it -/
structure Vl where
  k : Int
  i : Int
  t : ByteArray
deriving DecidableEq
def Vl.v (x : Vl) : Value := .agg #[.int .i64 x.k, .int .i64 x.i, .string x.t]
def Sc.val0k (k : Int) (s : Sc) : Vl × Sc :=
  if k = 1 then (⟨1, s.int.1, ByteArray.empty⟩, s.int.2)
  else if k = 2 then (⟨2, 0, strOfNums (s.text 64).1⟩, (s.text 64).2)
  else if k = 3 then (⟨3, (s.upto 1).1, ByteArray.empty⟩, (s.upto 1).2)
  else (⟨k, 0, ByteArray.empty⟩, s.fail 3)
def Sc.val0 (s : Sc) : Vl × Sc := Sc.val0k (s.upto 3).1 (s.upto 3).2
def Sc.val (s : Sc) : Vl × Sc := if s.val0.2.e = 0 then s.val0 else (⟨0, 0, ByteArray.empty⟩, s.val0.2)

theorem Scn.low {T : Nat} {S : Nat → Prop} {w : World} {g : Nat} {s : Sc} (h : Scn T S w g s) : Scn T (fun k => S k ∧ k < w.heap.size) w g s := by
  obtain ⟨h1, h2, h3, h4, h5, A, c, h6, h7, h8, h9⟩ := h
  refine ⟨h1, h2, fun h => h3 h.1, h4, h5, A, c, h6, h7, h8, fun h0 => ?_⟩
  obtain ⟨ad, rfl, hS, hc⟩ := h9 h0
  have := World.block_lt_of_cell? _ _ (hc 0 h0)
  rw [add_block] at this
  exact ⟨ad, rfl, ⟨hS, this⟩, hc⟩

/-- a scan, and a block of one's own behind all that lay -/
structure Own1 (T : Nat) (U : Nat) (S : Nat → Prop) (w wx : World) (g : Nat) (s : Sc) (c : Array Value) : Prop where
  heap : wx.heap[w.heap.size]? = some (.cells c U (0, 0))
  scn : Scn T S wx g s
  low : ∀ k, S k → k < w.heap.size
  lt : g < w.heap.size
  grown : w.grownBy wx (some g)
theorem Own1.start {T U : Nat} {S : Nat → Prop} {w : World} {g : Nat} {s : Sc} (h : Scn T S w g s) (c : Array Value) : Own1 T U (fun k => S k ∧ k < w.heap.size) w (w.alloc (.cells c U (0, 0))) g s c :=
  ⟨heap_alloc_new w _, h.low.below ((Below.refl _ _).alloc (Nat.le_refl _) _), fun _ h => h.2, h.lt, World.grownBy_alloc w _ _⟩
theorem Own1.store {T U : Nat} {S : Nat → Prop} {w wx : World} {g : Nat} {s : Sc} {c : Array Value} (h : Own1 T U S w wx g s c) (i : Nat) (v : Value) : Own1 T U S w (wx.setCell ⟨w.heap.size, i, none⟩ v) g s (c.setIfInBounds i v) := by
  have hl := h.lt
  refine ⟨heap_setCell_same _ _ _ _ _ _ h.heap, h.scn.keep fun k hk hs => heap_setCell_other _ _ _ _ ?_, h.low, h.lt, ?_⟩
  · rcases hs with rfl | hs
    · simp; omega
    · have := h.low k hs; simp; omega
  · refine ⟨h.grown.os, h.grown.tape, h.grown.output, by simpa using h.grown.size, fun k hk hne => ?_⟩
    rw [heap_setCell_other _ _ _ _ (by simp; omega)]
    exact h.grown.block k hk hne
theorem Own1.call {T U : Nat} {S : Nat → Prop} {w wx wy : World} {g : Nat} {s s' : Sc} {c : Array Value} (h : Own1 T U S w wx g s c) (hs : Scn T S wy g s') (hg : wx.grownBy wy (some g)) : Own1 T U S w wy g s' c := by
  have hl := h.lt
  refine ⟨?_, hs, h.low, h.lt, grown_trans h.grown hg⟩
  rw [hg.block _ (lt_of_heap h.heap) (fun e => by cases e; omega)]
  exact h.heap
theorem Own1.done {T U : Nat} {S : Nat → Prop} {w wx : World} {g : Nat} {s : Sc} {c : Array Value} (h : Own1 T U (fun k => S k ∧ k < w.heap.size) w wx g s c) (hg : ¬ S g) : Scn T S wx g s ∧ w.grownBy wx (some g) := ⟨h.scn.mono (fun _ h => h.1) hg, h.grown⟩
theorem Own1.cells {T U : Nat} {S : Nat → Prop} {w wx : World} {g : Nat} {s : Sc} {a b d : Value} (h : Own1 T U S w wx g s #[a, b, d]) :
    wx.cell? ⟨w.heap.size, 0, none⟩ = some a ∧ wx.cell? ⟨w.heap.size, 1, none⟩ = some b ∧ wx.cell? ⟨w.heap.size, 2, none⟩ = some d ∧ wx.frozen? ⟨w.heap.size, 0, none⟩ = false ∧ wx.frozen? ⟨w.heap.size, 1, none⟩ = false ∧ wx.frozen? ⟨w.heap.size, 2, none⟩ = false :=
  ⟨by rw [cell_of_row _ _ _ _ _ _ h.heap]; rfl, by rw [cell_of_row _ _ _ _ _ _ h.heap]; rfl, by rw [cell_of_row _ _ _ _ _ _ h.heap]; rfl, frozen_of_row _ _ _ _ _ h.heap, frozen_of_row _ _ _ _ _ h.heap, frozen_of_row _ _ _ _ _ h.heap⟩

theorem Own1.three {T U : Nat} {S : Nat → Prop} {w wx : World} {g : Nat} {s : Sc} {a b d : Value} (h : Own1 T U (fun k => S k ∧ k < w.heap.size) w wx g s #[a, b, d]) (hg : ¬ S g) (x y z : Value) :
    (((wx.setCell ⟨w.heap.size, 0, none⟩ x).setCell ⟨w.heap.size, 1, none⟩ y).setCell ⟨w.heap.size, 2, none⟩ z).heap[w.heap.size]? = some (.cells #[x, y, z] U (0, 0)) ∧ Scn T S (((wx.setCell ⟨w.heap.size, 0, none⟩ x).setCell ⟨w.heap.size, 1, none⟩ y).setCell ⟨w.heap.size, 2, none⟩ z) g s ∧ w.grownBy (((wx.setCell ⟨w.heap.size, 0, none⟩ x).setCell ⟨w.heap.size, 1, none⟩ y).setCell ⟨w.heap.size, 2, none⟩ z) (some g) :=
  ⟨(((h.store 0 x).store 1 y).store 2 z).heap, (((h.store 0 x).store 1 y).store 2 z).done hg⟩
theorem Sc.upto_in (s : Sc) (hu : u8s s.l) (hne : s.e ≠ 0 → s.l = []) : 0 ≤ (s.upto 3).1 ∧ (s.upto 3).1 ≤ 3 := by
  have h := s.num_lt hu
  have hz := s.num_zero hne
  unfold Sc.upto
  by_cases he : s.num.2.e = 0
  · by_cases h3 : 3 < s.num.1
    · rw [if_pos ⟨he, .inr h3⟩]; simp
    · rw [if_neg (fun hh => by rcases hh.2 with hh | hh <;> omega)]
      unfold wrap64
      simp only
      omega
  · rw [if_neg (fun hh => he hh.1), hz he]
    simp only
    unfold wrap64
    omega

end Go.Proofs.Yticpcjjgdkbcjaa
end

section
/- bytes that a scan leaves are bytes; and '[]byte(s)' of a scanned text -/
set_option linter.unusedVariables false
set_option linter.unusedSimpArgs false
set_option autoImplicit false
namespace Go.Proofs.Yticpcjjgdkbcjaa
open Go.RowKit Go.Proofs.YticpcjjgdkbcjaaW.PrintWords Go.Proofs.YticpcjjgdkbcjaaW.PrintLast Go.Proofs.YticpcjjgdkbcjaaW.PrintMore

theorem fail_u8s (s : Sc) (e : Int) (hu : u8s s.l) : u8s (s.fail e).l := by
  unfold Sc.fail
  split
  · exact hu
  · exact u8s_nil
theorem numGo_u8s (s : Sc) (hu : u8s s.l) : ∀ (f k : Nat) (n : Int), u8s (numGo s f k n).2.l := by
  intro f
  induction f with
  | zero => intro k n; exact hu
  | succ f ih =>
    intro k n
    unfold numGo
    split
    · exact fail_u8s s 2 hu
    · split
      · exact fail_u8s s 3 hu
      · split
        · exact u8s_drop hu _
        · exact ih _ _
theorem num_u8s (s : Sc) (hu : u8s s.l) : u8s s.num.2.l := by
  unfold Sc.num
  split
  · exact numGo_u8s s hu _ _ _
  · exact hu
theorem upto_u8s (s : Sc) (m : Int) (hu : u8s s.l) : u8s (s.upto m).2.l := by
  unfold Sc.upto
  split
  · exact fail_u8s _ 4 (num_u8s s hu)
  · exact num_u8s s hu
theorem text_u8s (s : Sc) (m : Int) (hu : u8s s.l) : u8s (s.text m).1 := by
  unfold Sc.text
  split
  · split
    · exact u8s_nil
    · exact u8s_take (upto_u8s s m hu) _
  · exact u8s_nil
theorem text_short (s : Sc) (m : Int) (h : 0 ≤ m) (hm : m < 9223372036854775808) (hu : u8s s.l) : ((s.text m).1.length : Int) ≤ m ∨ (s.text m).1 = [] := by
  have hn := Sc.num_lt s hu
  unfold Sc.text
  split
  · split
    · exact .inr rfl
    · rename_i h1 h2
      left
      rw [List.length_take]
      unfold Sc.upto at h1 h2 ⊢
      split
      · simp; omega
      · rename_i h3
        rw [if_neg h3] at h1 h2
        simp only at h1 h2 ⊢
        have h4 : ¬ (m < 0 ∨ m < s.num.1) := fun h => h3 ⟨h1, h⟩
        unfold wrap64
        omega
  · exact .inr rfl
theorem str_len (x : List Int) : (strOfNums x).size = x.length := by simp [strOfNums, ByteArray.size]
theorem conv_fresh {x : List Int} (hx : u8s x) (hl : x.length ≤ 9223372036854775807) (w : World) : ∃ wb c, (convert 9 23 (.string (strOfNums x))).run Try.prog w = .ok (.slice (some ⟨w.heap.size, 0, none⟩) x.length c) wb ∧ x.length ≤ c ∧ c ≤ 9223372036854775807 ∧ Below w.heap.size w wb ∧ HeldB wb (fun k => k = w.heap.size) (some ⟨w.heap.size, 0, none⟩) x ∧ wb.heap.size = w.heap.size + 1 := by
  refine ⟨Lib.bytesWorld w 5 (strOfNums x), grownCap w (strOfNums x).size 0 5, ?_, ?_, ?_, ?_, ?_, Lib.bytesWorld_size _ _ _⟩
  · have h := Lib.run_convert_string_bytes (P := Try.prog) w 9 23 5 (strOfNums x) Try.underlying9 Try.underlying23 Try.underlying5
    rw [h, str_len]
  · have := grownCap_ge w (strOfNums x).size 0 5
    rwa [str_len] at this ⊢
  · have := grownCap_le_maxLen w (strOfNums x).size 0 5 (by rw [str_len]; simpa [maxLen] using hl)
    simpa [maxLen] using this
  · refine ⟨rfl, rfl, rfl, by rw [Lib.bytesWorld_size]; omega, fun k hk => Lib.bytesWorld_at_old w _ _ k hk⟩
  · intro h0
    refine ⟨_, rfl, rfl, fun j hj => ?_⟩
    have hc := Lib.bytesWorld_cell w 5 (strOfNums x) j (by rw [str_len]; exact hj)
    have ha : (⟨w.heap.size, 0, none⟩ : Addr).add j = ⟨w.heap.size, j, none⟩ := by
      by_cases hz : 0 < j
      · rw [add_pos _ _ hz]; simp
      · obtain rfl : j = 0 := by omega
        rfl
    rw [ha, hc]
    have hb := rd_u8 hx j hj
    have e : (strOfNums x).data.toList.getD j 0 = UInt8.ofNat (rd x j).toNat := by
      unfold strOfNums rd
      rw [List.getD_eq_getElem?_getD, List.getD_eq_getElem?_getD]
      simp [hj]
    rw [e, UInt8.toNat_ofNat']
    congr 2
    omega
end Go.Proofs.Yticpcjjgdkbcjaa
end

section
/- packet.read, walked: what is framed is read -/
set_option linter.unusedVariables false
set_option linter.unusedSimpArgs false
set_option autoImplicit false
namespace Go.Proofs.Yticpcjjgdkbcjaa
open Go.RowKit Go.Proofs.YticpcjjgdkbcjaaW.PrintWords Go.Proofs.YticpcjjgdkbcjaaW.PrintLast Go.Proofs.YticpcjjgdkbcjaaW.PrintMore

/-- a packet that is read -/
structure Pk where
  k : Int
  e : Int
  s : Int
  t : Int
  u : Int
  d : List Int
def Pk.c (p : Pk) (A : Option Addr) (c : Nat) : Array Value := #[.int .i64 p.k, .int .i64 p.e, .int .i64 p.s, .int .i64 p.t, .int .u32 p.u, .slice A p.d.length c]
def Sc.k1 (s : Sc) : Int × Sc := ((s.upto 4).1, if (s.upto 4).1 = 0 then (s.upto 4).2.fail 3 else (s.upto 4).2)
def Sc.k2 (k e : Int) (s : Sc) : Pk × Sc :=
  if k = 1 then (⟨k, e, 0, (s.upto 1048576).1, ((s.upto 1048576).2.upto 4294967295).1 % 4294967296, []⟩, ((s.upto 1048576).2.upto 4294967295).2)
  else if k = 2 then (⟨k, e, (s.upto 1048576).1, 0, 0, ((s.upto 1048576).2.text 64).1⟩, ((s.upto 1048576).2.text 64).2)
  else if k = 3 then (⟨k, e, (s.upto 1048576).1, 0, 0, []⟩, (s.upto 1048576).2)
  else if k = 4 then (⟨k, e, 0, 0, 0, (s.text 4096).1⟩, (s.text 4096).2)
  else (⟨k, e, 0, 0, 0, []⟩, s)
def Sc.pack (s : Sc) : Pk × Sc := Sc.k2 s.k1.1 (s.k1.2.upto 1099511627776).1 (s.k1.2.upto 1099511627776).2

theorem Own1.below {T U : Nat} {S : Nat → Prop} {w wx wy : World} {g : Nat} {s : Sc} {c : Array Value} (h : Own1 T U S w wx g s c) (hb : Below wx.heap.size wx wy) : Own1 T U S w wy g s c :=
  ⟨by rw [hb.block _ (lt_of_heap h.heap)]; exact h.heap, h.scn.below hb, h.low, h.lt, grown_trans h.grown ⟨hb.os, hb.tape, hb.output, hb.size, fun k hk _ => hb.block k hk⟩⟩
theorem Own1.cells6 {T U : Nat} {S : Nat → Prop} {w wx : World} {g : Nat} {s : Sc} {a b c d e f : Value} (h : Own1 T U S w wx g s #[a, b, c, d, e, f]) :
    (wx.cell? ⟨w.heap.size, 0, none⟩ = some a ∧ wx.cell? ⟨w.heap.size, 1, none⟩ = some b ∧ wx.cell? ⟨w.heap.size, 2, none⟩ = some c ∧ wx.cell? ⟨w.heap.size, 3, none⟩ = some d ∧ wx.cell? ⟨w.heap.size, 4, none⟩ = some e ∧ wx.cell? ⟨w.heap.size, 5, none⟩ = some f) ∧
    wx.frozen? ⟨w.heap.size, 0, none⟩ = false ∧ wx.frozen? ⟨w.heap.size, 1, none⟩ = false ∧ wx.frozen? ⟨w.heap.size, 2, none⟩ = false ∧ wx.frozen? ⟨w.heap.size, 3, none⟩ = false ∧ wx.frozen? ⟨w.heap.size, 4, none⟩ = false ∧ wx.frozen? ⟨w.heap.size, 5, none⟩ = false :=
  ⟨⟨by rw [cell_of_row _ _ _ _ _ _ h.heap]; rfl, by rw [cell_of_row _ _ _ _ _ _ h.heap]; rfl, by rw [cell_of_row _ _ _ _ _ _ h.heap]; rfl, by rw [cell_of_row _ _ _ _ _ _ h.heap]; rfl, by rw [cell_of_row _ _ _ _ _ _ h.heap]; rfl, by rw [cell_of_row _ _ _ _ _ _ h.heap]; rfl⟩, frozen_of_row _ _ _ _ _ h.heap, frozen_of_row _ _ _ _ _ h.heap, frozen_of_row _ _ _ _ _ h.heap, frozen_of_row _ _ _ _ _ h.heap, frozen_of_row _ _ _ _ _ h.heap, frozen_of_row _ _ _ _ _ h.heap⟩
theorem Own1.six {T U : Nat} {S : Nat → Prop} {w wx : World} {g : Nat} {s : Sc} {a b c d e f : Value} (h : Own1 T U (fun k => S k ∧ k < w.heap.size) w wx g s #[a, b, c, d, e, f]) (hg : ¬ S g) (x0 x1 x2 x3 x4 x5 : Value) :
    ((((((wx.setCell ⟨w.heap.size, 0, none⟩ x0).setCell ⟨w.heap.size, 1, none⟩ x1).setCell ⟨w.heap.size, 2, none⟩ x2).setCell ⟨w.heap.size, 3, none⟩ x3).setCell ⟨w.heap.size, 4, none⟩ x4).setCell ⟨w.heap.size, 5, none⟩ x5).heap[w.heap.size]? = some (.cells #[x0, x1, x2, x3, x4, x5] U (0, 0)) ∧
    Scn T S ((((((wx.setCell ⟨w.heap.size, 0, none⟩ x0).setCell ⟨w.heap.size, 1, none⟩ x1).setCell ⟨w.heap.size, 2, none⟩ x2).setCell ⟨w.heap.size, 3, none⟩ x3).setCell ⟨w.heap.size, 4, none⟩ x4).setCell ⟨w.heap.size, 5, none⟩ x5) g s ∧
    w.grownBy ((((((wx.setCell ⟨w.heap.size, 0, none⟩ x0).setCell ⟨w.heap.size, 1, none⟩ x1).setCell ⟨w.heap.size, 2, none⟩ x2).setCell ⟨w.heap.size, 3, none⟩ x3).setCell ⟨w.heap.size, 4, none⟩ x4).setCell ⟨w.heap.size, 5, none⟩ x5) (some g) :=
  ⟨((((((h.store 0 x0).store 1 x1).store 2 x2).store 3 x3).store 4 x4).store 5 x5).heap, ((((((h.store 0 x0).store 1 x1).store 2 x2).store 3 x3).store 4 x4).store 5 x5).done hg⟩
theorem info_pack : (Try.prog.info? 25).map (·.size) = some 6 := by kernel_rfl
/-- a row that reads, in a block that is of bytes -/
def HeldT (w : World) (S : Nat → Prop) (A : Option Addr) (l : List Int) : Prop :=
  (A = none → l = []) ∧ ∀ ad, A = some ad → S ad.block ∧ (∃ cells fr, w.heap[ad.block]? = some (.cells cells 5 fr)) ∧ ∀ j, j < l.length → w.cell? (ad.add j) = some (.int .u8 (rd l j))
theorem HeldT.B {w : World} {S : Nat → Prop} {A : Option Addr} {l : List Int} (h : HeldT w S A l) : HeldB w S A l := by
  intro h0
  cases A with
  | none => rw [h.1 rfl] at h0; simp at h0
  | some ad => exact ⟨ad, rfl, (h.2 ad rfl).1, (h.2 ad rfl).2.2⟩
theorem HeldT.nil {w : World} {S : Nat → Prop} : HeldT w S none [] := ⟨fun _ => rfl, fun ad h => by cases h⟩
theorem HeldT.mono {w : World} {S S' : Nat → Prop} {A : Option Addr} {l : List Int} (h : HeldT w S A l) (hS : ∀ k, S k → S' k) : HeldT w S' A l := ⟨h.1, fun ad e => ⟨hS _ (h.2 ad e).1, (h.2 ad e).2⟩⟩
theorem HeldT.bound {w : World} {S : Nat → Prop} {A : Option Addr} {l : List Int} (h : HeldT w S A l) : HeldT w (fun k => S k ∧ k < w.heap.size ∧ ∃ cells fr, w.heap[k]? = some (.cells cells 5 fr)) A l :=
  ⟨h.1, fun ad e => ⟨⟨(h.2 ad e).1, by obtain ⟨c, f, hh⟩ := (h.2 ad e).2.1; exact (Array.getElem?_eq_some_iff.1 hh).1, (h.2 ad e).2.1⟩, (h.2 ad e).2⟩⟩
theorem HeldT.keep {w w' : World} {S : Nat → Prop} {A : Option Addr} {l : List Int} (h : HeldT w S A l) (hk : ∀ k, k < w.heap.size → S k → w'.heap[k]? = w.heap[k]?) : HeldT w' S A l := by
  refine ⟨h.1, fun ad e => ?_⟩
  obtain ⟨h1, ⟨c, f, h2⟩, h3⟩ := h.2 ad e
  have hb := HeldB.keep h.B hk
  refine ⟨h1, ⟨c, f, by rw [hk _ (Array.getElem?_eq_some_iff.1 h2).1 h1]; exact h2⟩, fun j hj => ?_⟩
  obtain ⟨ad', e1, _, e3⟩ := hb (by omega)
  rw [e] at e1
  cases e1
  exact e3 j hj
theorem HeldT.below {w w' : World} {S : Nat → Prop} {A : Option Addr} {l : List Int} (h : HeldT w S A l) (hb : Below w.heap.size w w') : HeldT w' S A l := h.keep fun k hk _ => hb.block k hk
theorem HeldT.set {w : World} {S : Nat → Prop} {A : Option Addr} {l : List Int} {p : Addr} (h : HeldT w S A l) (hg : ∀ k, S k → k ≠ p.block) (v : Value) : HeldT (w.setCell p v) S A l :=
  h.keep fun k _ hs => Below.heap_setCell w p v k (hg k hs)
theorem HeldT.C {w : World} {S : Nat → Prop} {A : Option Addr} {l : List Int} (h : HeldT w S A l) (hl : l.length ≤ 9223372036854775807) : (Kd.int .u8).C w A l.length l := h.B.C hl
theorem conv_block (w : World) (s : ByteArray) : ∃ cells fr, (Lib.bytesWorld w 5 s).heap[w.heap.size]? = some (.cells cells 5 fr) := by
  unfold Lib.bytesWorld
  simp [World.freeze, World.alloc, World.drew, -World.alloc_eq, -World.drew_eq, Array.getElem?_modify, Array.getElem?_push, Array.getElem_modify]
theorem conv_freshT {x : List Int} (hx : u8s x) (hl : x.length ≤ 9223372036854775807) (w : World) : ∃ wb c, (convert 9 23 (.string (strOfNums x))).run Try.prog w = .ok (.slice (some ⟨w.heap.size, 0, none⟩) x.length c) wb ∧ x.length ≤ c ∧ c ≤ 9223372036854775807 ∧ Below w.heap.size w wb ∧ HeldT wb (fun k => k = w.heap.size) (some ⟨w.heap.size, 0, none⟩) x ∧ wb.heap.size = w.heap.size + 1 := by
  obtain ⟨wb, c, h1, h2, h3, h4, h5, h6⟩ := conv_fresh hx hl w
  refine ⟨wb, c, h1, h2, h3, h4, ⟨fun h => (by cases h), fun ad e => ?_⟩, h6⟩
  cases e
  have h := Lib.run_convert_string_bytes (P := Try.prog) w 9 23 5 (strOfNums x) Try.underlying9 Try.underlying23 Try.underlying5
  rw [h1] at h
  have hw : wb = Lib.bytesWorld w 5 (strOfNums x) := by injection h
  refine ⟨rfl, by rw [hw]; exact conv_block w _, fun j hj => ?_⟩
  obtain ⟨ad', e1, _, e3⟩ := h5 (by omega)
  cases e1
  exact e3 j hj
theorem held_set {w : World} {g j : Nat} {v : Value} {A : Option Addr} {l : List Int} (h : HeldT w (fun k => g < k) A l) : HeldT (w.setCell ⟨g, j, none⟩ v) (fun k => g < k) A l := h.set (fun k hk => by simp only [] at hk ⊢; omega) v
theorem held_six {w wx : World} {A : Option Addr} {l : List Int} (h : HeldT wx (fun k => w.heap.size < k) A l) (x0 x1 x2 x3 x4 x5 : Value) :
    HeldT ((((((wx.setCell ⟨w.heap.size, 0, none⟩ x0).setCell ⟨w.heap.size, 1, none⟩ x1).setCell ⟨w.heap.size, 2, none⟩ x2).setCell ⟨w.heap.size, 3, none⟩ x3).setCell ⟨w.heap.size, 4, none⟩ x4).setCell ⟨w.heap.size, 5, none⟩ x5) (fun k => w.heap.size < k) A l := held_set (held_set (held_set (held_set (held_set (held_set h)))))
set_option maxRecDepth 100000 in
set_option maxHeartbeats 4000000 in
theorem wread {S : Nat → Prop} {w : World} {g : Nat} {s : Sc} (h : Scn 62 S w g s) :
    Calls Try.prog 26 #[.pointer (some ⟨g, 0, none⟩)] w fun r w' => ∃ A c, r = .returned (.agg (s.pack.1.c A c)) ∧ HeldT w' (fun k => w.heap.size < k) A s.pack.1.d ∧ s.pack.1.d.length ≤ c ∧ c ≤ 9223372036854775807 ∧ Scn 62 S w' g s.pack.2 ∧ w.grownBy w' (some g) := by
  have hne := Aside0.mk h.ne
  have H0 := Aside0.mk (Own1.start (U := 25) h #[.int .i64 0, .int .i64 0, .int .i64 0, .int .i64 0, .int .u32 0, .slice none 0 0])
  clear h
  go_enter Try.func26, Try.ntmps26
  go_wp2_with fail
  refine (wupto H0.out.scn 4 (by decide)).mono ?_
  rintro e w1 ⟨rfl, hs, hg⟩
  have H1 := Aside0.mk (H0.out.call hs hg)
  clear hs hg H0
  have hQ : s.k1 = ((s.upto 4).1, if (s.upto 4).1 = 0 then (s.upto 4).2.fail 3 else (s.upto 4).2) := rfl
  obtain ⟨o, ho⟩ : ∃ n, (s.upto 4).1 = n := ⟨_, rfl⟩
  obtain ⟨s2, hs2⟩ : ∃ q, (s.upto 4).2 = q := ⟨_, rfl⟩
  rw [hs2] at H1
  rw [ho, hs2] at hQ
  rw [ho]
  have HQ := Aside0.mk hQ
  clear ho hs2 hQ
  obtain ⟨⟨c0, c1, c2, c3, c4, c5⟩, f0, f1, f2, f3, f4, f5⟩ := H1.out.cells6
  have H2 := Aside0.mk (H1.out.store 0 (.int .i64 o))
  simp only [List.setIfInBounds_toArray, List.set_cons_zero] at H2
  clear H1
  go_upto_if 8 with fail
  go_cut [] (fun wx => Aside0 (Own1 62 25 (fun k => S k ∧ k < w.heap.size) w wx g s.k1.2 #[.int .i64 s.k1.1, .int .i64 0, .int .i64 0, .int .i64 0, .int .u32 0, .slice none 0 0]))
  case first =>
    by_cases hn : o = 0
    · have b1 : (o == 0) = true := by simp [hn]
      have h1 : Aside0 (s.k1 = (o, s2.fail 3)) := ⟨by rw [HQ.out, if_pos hn]⟩
      clear hn
      go_wp2_with (go_at_call 42; refine (wfail H2.out.scn 3 (by decide)).mono ?_; rintro e w3 ⟨rfl, hs, hg⟩; have H3 := Aside0.mk (H2.out.call hs hg); clear hs hg)
      go_meet
      exact ⟨by rw [h1.out]; exact H3.out⟩
    · have b1 : (o == 0) = false := by simp [hn]
      have h1 : Aside0 (s.k1 = (o, s2)) := ⟨by rw [HQ.out, if_neg hn]⟩
      clear hn
      go_wp2
      go_meet
      exact ⟨by rw [h1.out]; exact H2.out⟩
  case rest =>
    have HN2 : Aside0 (s.k1 = (s.k1.1, s.k1.2)) := ⟨rfl⟩
    have H6 := hcut
    clear hcut HQ H2 c0 c1 c2 c3 c4 c5 f0 f1 f2 f3 f4 f5
    generalize hn1 : s.k1.1 = o at H6 HN2 ⊢
    generalize hs1 : s.k1.2 = s2 at H6 HN2 ⊢
    clear hn1 hs1
    obtain ⟨⟨c0, c1, c2, c3, c4, c5⟩, f0, f1, f2, f3, f4, f5⟩ := H6.out.cells6
    go_wp2_with fail
    refine (wupto H6.out.scn 1099511627776 (by decide)).mono ?_
    rintro e w4 ⟨rfl, hs, hg⟩
    have H4 := Aside0.mk (H6.out.call hs hg)
    clear hs hg H6 c0 c1 c2 c3 c4 c5 f0 f1 f2 f3 f4 f5
    have HPK : Aside0 (s.pack = Sc.k2 o (s2.upto 1099511627776).1 (s2.upto 1099511627776).2) := ⟨by unfold Sc.pack; rw [HN2.out]⟩
    generalize (s2.upto 1099511627776).1 = ep at HPK ⊢
    generalize (s2.upto 1099511627776).2 = s3 at HPK H4 ⊢
    obtain ⟨⟨c0, c1, c2, c3, c4, c5⟩, f0, f1, f2, f3, f4, f5⟩ := H4.out.cells6
    have H5 := Aside0.mk (H4.out.store 1 (.int .i64 ep))
    simp only [List.setIfInBounds_toArray, List.set_cons_zero, List.set_cons_succ] at H5
    clear H4
    by_cases k1 : o = 1
    · subst k1
      have HE : Aside0 (s.pack = (⟨1, ep, 0, (s3.upto 1048576).1, ((s3.upto 1048576).2.upto 4294967295).1 % 4294967296, []⟩, ((s3.upto 1048576).2.upto 4294967295).2)) := ⟨HPK.out⟩
      clear HPK
      go_wp2_with fail
      refine (wupto H5.out.scn 1048576 (by decide)).mono ?_
      rintro e w5 ⟨rfl, hs, hg⟩
      have H6a := Aside0.mk (H5.out.call hs hg)
      clear hs hg H5 c0 c1 c2 c3 c4 c5 f0 f1 f2 f3 f4 f5
      generalize (s3.upto 1048576).1 = q1 at HE ⊢
      generalize (s3.upto 1048576).2 = s4 at HE H6a
      obtain ⟨⟨c0, c1, c2, c3, c4, c5⟩, f0, f1, f2, f3, f4, f5⟩ := H6a.out.cells6
      have H6 := Aside0.mk (H6a.out.store 3 (.int .i64 q1))
      simp only [List.setIfInBounds_toArray, List.set_cons_zero, List.set_cons_succ] at H6
      clear H6a
      go_wp2_with fail
      refine (wupto H6.out.scn 4294967295 (by decide)).mono ?_
      rintro e w6 ⟨rfl, hs, hg⟩
      have H7a := Aside0.mk (H6.out.call hs hg)
      clear hs hg H6 c0 c1 c2 c3 c4 c5 f0 f1 f2 f3 f4 f5
      generalize (s4.upto 4294967295).1 = q2 at HE ⊢
      generalize (s4.upto 4294967295).2 = s5 at HE H7a
      obtain ⟨⟨c0, c1, c2, c3, c4, c5⟩, f0, f1, f2, f3, f4, f5⟩ := H7a.out.cells6
      have H7 := Aside0.mk (H7a.out.store 4 (.int .u32 (q2 % 4294967296)))
      simp only [List.setIfInBounds_toArray, List.set_cons_zero, List.set_cons_succ] at H7
      clear H7a
      go_wp2_with fail
      have hz := H7.out.six hne.out (.int .i64 1) (.int .i64 ep) (.int .i64 0) (.int .i64 q1) (.int .u32 (q2 % 4294967296)) (.slice none 0 0)
      refine bodyPost_ret (results_cell_row (P := Try.prog) (ty := 25) (p := 2) rfl _ _ w.heap.size 25 _ (0, 0) _ rfl hz.1 Try.underlying25 rfl info_pack) rfl ?_
      exact ⟨none, 0, by rw [HE.out]; rfl, by rw [HE.out]; exact HeldT.nil, by rw [HE.out]; simp, by decide, by rw [HE.out]; exact hz.2.1, hz.2.2⟩
    · by_cases k2 : o = 2
      · subst k2
        have HE : Aside0 (s.pack = (⟨2, ep, (s3.upto 1048576).1, 0, 0, ((s3.upto 1048576).2.text 64).1⟩, ((s3.upto 1048576).2.text 64).2)) := ⟨HPK.out⟩
        clear HPK
        go_wp2_with fail
        refine (wupto H5.out.scn 1048576 (by decide)).mono ?_
        rintro e w5 ⟨rfl, hs, hg⟩
        have H6a := Aside0.mk (H5.out.call hs hg)
        clear hs hg H5 c0 c1 c2 c3 c4 c5 f0 f1 f2 f3 f4 f5
        generalize (s3.upto 1048576).1 = q1 at HE ⊢
        generalize (s3.upto 1048576).2 = s4 at HE H6a
        obtain ⟨⟨c0, c1, c2, c3, c4, c5⟩, f0, f1, f2, f3, f4, f5⟩ := H6a.out.cells6
        have H6 := Aside0.mk (H6a.out.store 2 (.int .i64 q1))
        simp only [List.setIfInBounds_toArray, List.set_cons_zero, List.set_cons_succ] at H6
        clear H6a
        go_wp2_with fail
        have hdu := text_u8s s4 64 H6.out.scn.u8
        have hdl := text_short s4 64 (by decide) (by decide) H6.out.scn.u8
        refine (wtext H6.out.scn 64 (by decide)).mono ?_
        rintro e w6 ⟨rfl, hs, hg⟩
        have H7a := Aside0.mk (H6.out.call hs hg)
        clear hs hg H6 c0 c1 c2 c3 c4 c5 f0 f1 f2 f3 f4 f5
        generalize (s4.text 64).1 = d at HE hdu hdl ⊢
        generalize (s4.text 64).2 = s5 at HE H7a
        obtain ⟨wb, cd, hconv, hc1, hc2, hB, hH, hsz⟩ := conv_freshT hdu (by rcases hdl with h | h; omega; rw [h]; simp) w6
        have H7b := Aside0.mk (H7a.out.below hB)
        have HH : Aside0 (HeldT wb (fun k => w.heap.size < k) (some ⟨w6.heap.size, 0, none⟩) d) := ⟨hH.mono (fun k hk => by rw [hk]; exact lt_of_heap H7a.out.heap)⟩
        have hcd := And.intro hc1 hc2
        clear hc1 hc2 hB hH hsz hdu hdl H7a
        obtain ⟨⟨c0, c1, c2, c3, c4, c5⟩, f0, f1, f2, f3, f4, f5⟩ := H7b.out.cells6
        have H7 := Aside0.mk (H7b.out.store 5 (.slice (some ⟨w6.heap.size, 0, none⟩) d.length cd))
        simp only [List.setIfInBounds_toArray, List.set_cons_zero, List.set_cons_succ] at H7
        clear H7b
        go_wp2_with fail
        have hz := H7.out.six hne.out (.int .i64 2) (.int .i64 ep) (.int .i64 q1) (.int .i64 0) (.int .u32 0) (.slice (some ⟨w6.heap.size, 0, none⟩) d.length cd)
        refine bodyPost_ret (results_cell_row (P := Try.prog) (ty := 25) (p := 2) rfl _ _ w.heap.size 25 _ (0, 0) _ rfl hz.1 Try.underlying25 rfl info_pack) rfl ?_
        exact ⟨some ⟨_, 0, none⟩, cd, by rw [HE.out]; rfl, by rw [HE.out]; exact held_six (held_set HH.out) _ _ _ _ _ _, by rw [HE.out]; exact hcd.1, hcd.2, by rw [HE.out]; exact hz.2.1, hz.2.2⟩
      · by_cases k3 : o = 3
        · subst k3
          have HE : Aside0 (s.pack = (⟨3, ep, (s3.upto 1048576).1, 0, 0, []⟩, (s3.upto 1048576).2)) := ⟨HPK.out⟩
          clear HPK
          go_wp2_with fail
          refine (wupto H5.out.scn 1048576 (by decide)).mono ?_
          rintro e w5 ⟨rfl, hs, hg⟩
          have H6a := Aside0.mk (H5.out.call hs hg)
          clear hs hg H5 c0 c1 c2 c3 c4 c5 f0 f1 f2 f3 f4 f5
          generalize (s3.upto 1048576).1 = q1 at HE ⊢
          generalize (s3.upto 1048576).2 = s4 at HE H6a
          obtain ⟨⟨c0, c1, c2, c3, c4, c5⟩, f0, f1, f2, f3, f4, f5⟩ := H6a.out.cells6
          have H6 := Aside0.mk (H6a.out.store 2 (.int .i64 q1))
          simp only [List.setIfInBounds_toArray, List.set_cons_zero, List.set_cons_succ] at H6
          clear H6a
          go_wp2_with fail
          have hz := H6.out.six hne.out (.int .i64 3) (.int .i64 ep) (.int .i64 q1) (.int .i64 0) (.int .u32 0) (.slice none 0 0)
          refine bodyPost_ret (results_cell_row (P := Try.prog) (ty := 25) (p := 2) rfl _ _ w.heap.size 25 _ (0, 0) _ rfl hz.1 Try.underlying25 rfl info_pack) rfl ?_
          exact ⟨none, 0, by rw [HE.out]; rfl, by rw [HE.out]; exact HeldT.nil, by rw [HE.out]; simp, by decide, by rw [HE.out]; exact hz.2.1, hz.2.2⟩
        · by_cases k4 : o = 4
          · subst k4
            have HE : Aside0 (s.pack = (⟨4, ep, 0, 0, 0, (s3.text 4096).1⟩, (s3.text 4096).2)) := ⟨HPK.out⟩
            clear HPK
            go_wp2_with fail
            have hdu := text_u8s s3 4096 H5.out.scn.u8
            have hdl := text_short s3 4096 (by decide) (by decide) H5.out.scn.u8
            refine (wtext H5.out.scn 4096 (by decide)).mono ?_
            rintro e w6 ⟨rfl, hs, hg⟩
            have H6a := Aside0.mk (H5.out.call hs hg)
            clear hs hg H5 c0 c1 c2 c3 c4 c5 f0 f1 f2 f3 f4 f5
            generalize (s3.text 4096).1 = d at HE hdu hdl ⊢
            generalize (s3.text 4096).2 = s5 at HE H6a
            obtain ⟨wb, cd, hconv, hc1, hc2, hB, hH, hsz⟩ := conv_freshT hdu (by rcases hdl with h | h; omega; rw [h]; simp) w6
            have H6b := Aside0.mk (H6a.out.below hB)
            have HH : Aside0 (HeldT wb (fun k => w.heap.size < k) (some ⟨w6.heap.size, 0, none⟩) d) := ⟨hH.mono (fun k hk => by rw [hk]; exact lt_of_heap H6a.out.heap)⟩
            have hcd := And.intro hc1 hc2
            clear hc1 hc2 hB hH hsz hdu hdl H6a
            obtain ⟨⟨c0, c1, c2, c3, c4, c5⟩, f0, f1, f2, f3, f4, f5⟩ := H6b.out.cells6
            have H6 := Aside0.mk (H6b.out.store 5 (.slice (some ⟨w6.heap.size, 0, none⟩) d.length cd))
            simp only [List.setIfInBounds_toArray, List.set_cons_zero, List.set_cons_succ] at H6
            clear H6b
            go_wp2_with fail
            have hz := H6.out.six hne.out (.int .i64 4) (.int .i64 ep) (.int .i64 0) (.int .i64 0) (.int .u32 0) (.slice (some ⟨w6.heap.size, 0, none⟩) d.length cd)
            refine bodyPost_ret (results_cell_row (P := Try.prog) (ty := 25) (p := 2) rfl _ _ w.heap.size 25 _ (0, 0) _ rfl hz.1 Try.underlying25 rfl info_pack) rfl ?_
            exact ⟨some ⟨_, 0, none⟩, cd, by rw [HE.out]; rfl, by rw [HE.out]; exact held_six (held_set HH.out) _ _ _ _ _ _, by rw [HE.out]; exact hcd.1, hcd.2, by rw [HE.out]; exact hz.2.1, hz.2.2⟩
          · have HE : Aside0 (s.pack = (⟨o, ep, 0, 0, 0, []⟩, s3)) := ⟨by rw [HPK.out, Sc.k2, if_neg k1, if_neg k2, if_neg k3, if_neg k4]⟩
            clear HPK
            go_wp2_with fail
            have hz := H5.out.six hne.out (.int .i64 o) (.int .i64 ep) (.int .i64 0) (.int .i64 0) (.int .u32 0) (.slice none 0 0)
            refine bodyPost_ret (results_cell_row (P := Try.prog) (ty := 25) (p := 2) rfl _ _ w.heap.size 25 _ (0, 0) _ rfl hz.1 Try.underlying25 rfl info_pack) rfl ?_
            exact ⟨none, 0, by rw [HE.out]; rfl, by rw [HE.out]; exact HeldT.nil, by rw [HE.out]; simp, by decide, by rw [HE.out]; exact hz.2.1, hz.2.2⟩
end Go.Proofs.Yticpcjjgdkbcjaa
end

section
set_option linter.unusedVariables false
set_option linter.unusedSimpArgs false
set_option autoImplicit false
namespace Go.Proofs.Yticpcjjgdkbcjaa
open Go.RowKit Go.Proofs.YticpcjjgdkbcjaaW.PrintWords Go.Proofs.YticpcjjgdkbcjaaW.PrintLast Go.Proofs.YticpcjjgdkbcjaaW.PrintMore Go.Proofs.Yticpcjjgdkbcjaa.G

set_option maxRecDepth 100000 in
set_option maxHeartbeats 1000000 in
/-- a scan ahead of bytes: a block of its own, and bytes of its own -/
theorem won (A0 : Option Addr) (c0 : Nat) (l0 : List Int) (w : World) (hr0 : (Kd.int .u8).C w A0 l0.length l0) (hc0 : l0.length ≤ c0) (hu : u8s l0) (hl : l0.length ≤ 140737488355300) :
    Calls Try.prog 25 #[.slice A0 l0.length c0] w fun e w' => ∃ g, e = .returned (.pointer (some ⟨g, 0, none⟩)) ∧ w.heap.size ≤ g ∧ Scn 62 (fun k => w.heap.size ≤ k ∧ k < g) w' g ⟨l0, 0⟩ ∧ Below w.heap.size w w' := by
  have hcl := Aside0.mk (show slices_Clone_byte_byte.f l0 = some l0 by unfold slices_Clone_byte_byte.f; rw [if_pos (by omega)])
  have HU := Aside0.mk hu
  have HL := Aside0.mk hl
  clear hu hl
  go_enter Try.func25, Try.ntmps25
  go_wp2_with fail
  refine (slices_Clone_byte_byte.calls _ _ l0 l0 _ hr0 hc0 hcl.out).mono ?_
  rintro e w1 ⟨v1, rfl, hR1, hB1⟩
  obtain ⟨A1, n1, rfl, hc1, hm1, hH1, hC1⟩ := held_own hR1
  clear hr0 hR1 hC1 hc0
  have HB := Aside0.mk hB1
  have HH := Aside0.mk hH1
  clear hB1 hH1
  go_wp2_with fail
  go_ret
  have hB := HB.out
  have hh := heap_alloc_new w1 (.cells #[.slice A1 l0.length n1, .int .i64 0] 62)
  refine ⟨w1.heap.size, rfl, hB.size, ⟨HU.out, fun h => absurd rfl h, fun h => by omega, by have := HL.out; simp only; omega, by simp, A1, n1, hh, hc1, hm1, ?_⟩, hB.alloc hB.size _⟩
  exact HH.out.keep fun k hk _ => by rw [show (w1.alloc _).heap = w1.heap.push _ from rfl, Array.getElem?_push, if_neg (by omega)]
theorem Scn.drewN {T : Nat} {S : Nat → Prop} {w : World} {g : Nat} {s : Sc} (h : Scn T S w g s) (n : Nat) : Scn T S (w.drewN n) g s := h.below (pw_below_drewN (Below.refl _ _) n)
theorem wendq {S : Nat → Prop} {w : World} {g : Nat} {s : Sc} (h : Scn 62 S w g s) (n : Nat) :
    Calls Try.prog 27 #[.pointer (some ⟨g, 0, none⟩)] (w.drewN n) fun r w' => r = .returned (.int .i64 s.endE) ∧ ∃ m, w' = w.drewN m := (wend (h.drewN n)).mono fun _ _ ⟨a, b⟩ => ⟨a, n, b.symm⟩
/-- a slice of bytes as a text, in any world that has only drawn -/
theorem strq {w : World} {S : Nat → Prop} {A : Option Addr} {l : List Int} (h : HeldB w S A l) (hl : l.length ≤ 9223372036854775807) (c : Nat) (n : Nat) : (convert 23 9 (.slice A l.length c)).run Try.prog (w.drewN n) = .ok (.string (strOfNums l)) (w.drewN n) :=
  Kd.C_string (P := Try.prog) (A := A) (c := c) Try.underlying23 Try.underlying5 Try.underlying9 ((h.below (pw_below_drewN (Below.refl _ _) n)).C hl)
theorem HeldB.take {w : World} {S : Nat → Prop} {A : Option Addr} {a b : List Int} (h : HeldB w S A (a ++ b)) : HeldB w S A a := by
  intro h0
  obtain ⟨ad, rfl, hS, hc⟩ := h (by simp; omega)
  refine ⟨ad, rfl, hS, fun j hj => ?_⟩
  rw [hc j (by simp; omega)]
  simp [rd, List.getD_eq_getElem?_getD, List.getElem?_append_left hj]
end Go.Proofs.Yticpcjjgdkbcjaa
end

section
/- packet.Decode, walked -/
set_option linter.unusedVariables false
set_option linter.unusedSimpArgs false
set_option autoImplicit false
namespace Go.Proofs.Yticpcjjgdkbcjaa
open Go.RowKit Go.Proofs.YticpcjjgdkbcjaaW.PrintWords Go.Proofs.YticpcjjgdkbcjaaW.PrintLast Go.Proofs.YticpcjjgdkbcjaaW.PrintMore Go.Proofs.Yticpcjjgdkbcjaa.G

def pk0 : Pk := ⟨0, 0, 0, 0, 0, []⟩
/-- which packets are right -/
def pkright (p : Pk) : Bool := prB p.k p.e p.s p.t p.u p.d
theorem right_pk (p : Pk) : packet_right.f p.k p.e p.s p.t p.u p.d = some (pkright p) := rfl
/-- what is decoded of a frame's bytes -/
def dec (len : Nat) (x : List Int) (n err : Int) : Pk × Int :=
  if err ≠ 0 then (pk0, err) else if n < len then (pk0, 5) else if (Sc.pack ⟨x, 0⟩).2.endE ≠ 0 then (pk0, (Sc.pack ⟨x, 0⟩).2.endE) else if pkright (Sc.pack ⟨x, 0⟩).1 = true then ((Sc.pack ⟨x, 0⟩).1, 0) else (pk0, 3)
theorem below_via4 {w W W' : World} (h0 : Below w.heap.size w W) (h : Below W.heap.size W W') : Below w.heap.size w W' := h0.trans (h.mono h0.size)
theorem vkeepG {W W' : World} {b g : Nat} {o : Obj} (h : W.heap[b]? = some o) (hG : W.grownBy W' (some g)) (hne : b ≠ g) : W'.heap[b]? = some o := by rw [hG.block _ (lt_of_heap h) (fun e => by cases e; exact hne rfl)]; exact h
theorem cells6 {W : World} {b T : Nat} {x y z u v r : Value} (h : W.heap[b]? = some (.cells #[x, y, z, u, v, r] T (0, 0))) :
    (W.cell? ⟨b, 0, none⟩ = some x ∧ W.cell? ⟨b, 1, none⟩ = some y ∧ W.cell? ⟨b, 2, none⟩ = some z ∧ W.cell? ⟨b, 3, none⟩ = some u ∧ W.cell? ⟨b, 4, none⟩ = some v ∧ W.cell? ⟨b, 5, none⟩ = some r) ∧
    W.frozen? ⟨b, 0, none⟩ = false ∧ W.frozen? ⟨b, 1, none⟩ = false ∧ W.frozen? ⟨b, 2, none⟩ = false ∧ W.frozen? ⟨b, 3, none⟩ = false ∧ W.frozen? ⟨b, 4, none⟩ = false ∧ W.frozen? ⟨b, 5, none⟩ = false :=
  ⟨⟨by rw [cell_of_row _ _ _ _ _ _ h]; rfl, by rw [cell_of_row _ _ _ _ _ _ h]; rfl, by rw [cell_of_row _ _ _ _ _ _ h]; rfl, by rw [cell_of_row _ _ _ _ _ _ h]; rfl, by rw [cell_of_row _ _ _ _ _ _ h]; rfl, by rw [cell_of_row _ _ _ _ _ _ h]; rfl⟩, frozen_of_row _ _ _ _ _ h, frozen_of_row _ _ _ _ _ h, frozen_of_row _ _ _ _ _ h, frozen_of_row _ _ _ _ _ h, frozen_of_row _ _ _ _ _ h, frozen_of_row _ _ _ _ _ h⟩
theorem heldT_set {w : World} {S : Nat → Prop} {A : Option Addr} {l : List Int} {g : Nat} (h : HeldT w S A l) (hg : ¬ S g) (j : Nat) (v : Value) : HeldT (w.setCell ⟨g, j, none⟩ v) S A l :=
  h.set (fun k hk e => hg (by simp only [] at e; rw [← e]; exact hk)) v
theorem put6 {w W : World} {g T : Nat} {a b c d e f : Value} (h : W.heap[g]? = some (.cells #[a, b, c, d, e, f] T (0, 0))) (hB : Below w.heap.size w W) (hg : w.heap.size ≤ g) (x0 x1 x2 x3 x4 x5 : Value) :
    ((((((W.setCell ⟨g, 0, none⟩ x0).setCell ⟨g, 1, none⟩ x1).setCell ⟨g, 2, none⟩ x2).setCell ⟨g, 3, none⟩ x3).setCell ⟨g, 4, none⟩ x4).setCell ⟨g, 5, none⟩ x5).heap[g]? = some (.cells #[x0, x1, x2, x3, x4, x5] T (0, 0)) ∧
    Below w.heap.size w ((((((W.setCell ⟨g, 0, none⟩ x0).setCell ⟨g, 1, none⟩ x1).setCell ⟨g, 2, none⟩ x2).setCell ⟨g, 3, none⟩ x3).setCell ⟨g, 4, none⟩ x4).setCell ⟨g, 5, none⟩ x5) ∧
    ∀ (A : Option Addr) (l : List Int) (S : Nat → Prop), ¬ S g → HeldT W S A l → HeldT ((((((W.setCell ⟨g, 0, none⟩ x0).setCell ⟨g, 1, none⟩ x1).setCell ⟨g, 2, none⟩ x2).setCell ⟨g, 3, none⟩ x3).setCell ⟨g, 4, none⟩ x4).setCell ⟨g, 5, none⟩ x5) S A l := by
  have h0 := heap_setCell_same _ _ 0 _ _ x0 h
  have h1 := heap_setCell_same _ _ 1 _ _ x1 h0
  have h2 := heap_setCell_same _ _ 2 _ _ x2 h1
  have h3 := heap_setCell_same _ _ 3 _ _ x3 h2
  have h4 := heap_setCell_same _ _ 4 _ _ x4 h3
  have h5 := heap_setCell_same _ _ 5 _ _ x5 h4
  exact ⟨h5, (((((hB.setCell hg _).setCell hg _).setCell hg _).setCell hg _).setCell hg _).setCell hg _, fun A l S hS hH => heldT_set (heldT_set (heldT_set (heldT_set (heldT_set (heldT_set hH hS _ _) hS _ _) hS _ _) hS _ _) hS _ _) hS _ _⟩
set_option maxRecDepth 100000 in
set_option maxHeartbeats 4000000 in
theorem wdecode (A0 : Option Addr) (c0 : Nat) (l0 : List Int) (x : List Int) (n err : Int) (w : World) (hr0 : (Kd.int .u8).C w A0 l0.length l0) (hc0 : l0.length ≤ c0) (hl0 : l0.length ≤ 9223372036854775807) (hx : u8s x) (hxl : x.length ≤ 140737488355300) (hN : frame_Next.f l0 = some (x, n, err)) :
    Calls Try.prog 11 #[.slice A0 l0.length c0] w fun e w' => ∃ A c, e = .returned (.tuple #[.agg ((dec l0.length x n err).1.c A c), .int .i64 (dec l0.length x n err).2]) ∧ HeldT w' (fun k => w.heap.size ≤ k) A (dec l0.length x n err).1.d ∧ (dec l0.length x n err).1.d.length ≤ c ∧ c ≤ 9223372036854775807 ∧ Below w.heap.size w w' := by
  have HR0 := Aside0.mk (HeldB.low hr0)
  have HN := Aside0.mk hN
  have HX := Aside0.mk hx
  have HL := Aside0.mk (And.intro hl0 hxl)
  clear hr0 hN hx hl0 hxl
  have HZ0 := Aside0.mk (heap_alloc_new w (.cells #[.int .i64 0, .int .i64 0, .int .i64 0, .int .i64 0, .int .u32 0, .slice none 0 0] 25 (0, 0)))
  have HB0 := Aside0.mk ((Below.refl w.heap.size w).alloc (Nat.le_refl _) (.cells #[.int .i64 0, .int .i64 0, .int .i64 0, .int .i64 0, .int .u32 0, .slice none 0 0] 25 (0, 0)))
  go_enter Try.func11, Try.ntmps11
  go_wp2_with fail
  generalize w.alloc (.cells #[.int .i64 0, .int .i64 0, .int .i64 0, .int .i64 0, .int .u32 0, .slice none 0 0] 25 (0, 0)) = wa at HZ0 HB0 ⊢
  refine (frame_Next.calls A0 c0 l0 x n err _ ((HR0.out.below HB0.out).C HL.out.1) hc0 HN.out).mono ?_
  rintro e w1 ⟨v1, rfl, hR, hX⟩
  obtain ⟨A1, n1, rfl, hc1, hm1, hH1, hC1⟩ := held_own hR
  have HB1 := Aside0.mk (below_via4 HB0.out hX)
  have HZ1 := Aside0.mk (vkeepB HZ0.out hX)
  have HH1 := Aside0.mk hH1
  clear hR hX hH1 hC1 hm1 HR0 HB0 HZ0 HN
  obtain ⟨⟨p0, p1, p2, p3, p4, p5⟩, f0, f1, f2, f3, f4, f5⟩ := cells6 HZ1.out
  by_cases e0 : err = 0
  · subst e0
    by_cases hn : n < (l0.length : Int)
    · have HD : Aside0 (dec l0.length x n 0 = (pk0, 5)) := ⟨by unfold dec; rw [if_neg (by decide), if_pos hn]⟩
      go_wp2
      have hz := put6 HZ1.out HB1.out (Nat.le_refl _) (.int .i64 0) (.int .i64 0) (.int .i64 0) (.int .i64 0) (.int .u32 0) (.slice none 0 0)
      refine bodyPost_ret (results_ct rfl _ _ w.heap.size 25 _ (0, 0) _ rfl hz.1 Try.underlying25 rfl info_pack) rfl ?_
      exact ⟨none, 0, by rw [HD.out]; rfl, by rw [HD.out]; exact HeldT.nil, by rw [HD.out]; simp [pk0], by decide, hz.2.1⟩
    · have hD : dec l0.length x n 0 = if (Sc.pack ⟨x, 0⟩).2.endE ≠ 0 then (pk0, (Sc.pack ⟨x, 0⟩).2.endE) else if pkright (Sc.pack ⟨x, 0⟩).1 = true then ((Sc.pack ⟨x, 0⟩).1, 0) else (pk0, 3) := by unfold dec; rw [if_neg (by decide), if_neg hn]
      obtain ⟨k, ep, sq, tt, u, d, s2, hv⟩ : ∃ k ep sq tt u d s2, Sc.pack ⟨x, 0⟩ = (⟨k, ep, sq, tt, u, d⟩, s2) := ⟨_, _, _, _, _, _, _, rfl⟩
      rw [hv] at hD
      simp only at hD
      have HV := Aside0.mk hv
      have HE := Aside0.mk hD
      clear hv hD
      go_wp2_with fail
      refine (won A1 n1 x w1 (HH1.out.C (by have := HL.out.2; omega)) hc1 HX.out (by have := HL.out.2; omega)).mono ?_
      rintro e w2 ⟨gs, rfl, hgs, hS, hX⟩
      have HB2 := Aside0.mk (below_via4 HB1.out hX)
      have HZ2 := Aside0.mk (vkeepB HZ1.out hX)
      have HS2 := Aside0.mk hS
      have SZ2 := Aside0.mk HB2.out.size
      have LT := Aside0.mk (show w.heap.size < gs from Nat.lt_of_lt_of_le (lt_of_heap HZ1.out) hgs)
      clear hX hS hgs HB1 HZ1 HH1 p0 p1 p2 p3 p4 p5 f0 f1 f2 f3 f4 f5
      go_wp2_with fail
      refine (wread HS2.out).mono ?_
      rintro e w3 ⟨A3, c3, rfl, hH, hlen, hcap, hs, hG⟩
      rw [HV.out] at hH hlen hs ⊢
      simp only [Pk.c]
      have lt := LT.out
      have hB3 : Below w.heap.size w w3 := below_of_grown HB2.out hG (by omega)
      have HB3 := Aside0.mk hB3
      have HZ3 := Aside0.mk (vkeepG HZ2.out hG (by omega))
      have hb3 := (Below.refl w3.heap.size w3).alloc (Nat.le_refl _) (.cells #[.int .i64 k, .int .i64 ep, .int .i64 sq, .int .i64 tt, .int .u32 u, .slice A3 d.length c3] 25 (0, 0))
      have HP4 := Aside0.mk (heap_alloc_new w3 (.cells #[.int .i64 k, .int .i64 ep, .int .i64 sq, .int .i64 tt, .int .u32 u, .slice A3 d.length c3] 25 (0, 0)))
      have HB4 := Aside0.mk (below_via4 HB3.out hb3)
      have HZ4 := Aside0.mk (vkeepB HZ3.out hb3)
      have HS4 := Aside0.mk (hs.below hb3)
      have HH4 := Aside0.mk (hH.below hb3)
      have HC := Aside0.mk (And.intro hlen hcap)
      clear hH hlen hcap hs hG lt hB3 hb3 HB3 HZ3 HB2 HZ2 HS2
      go_upto_region 8 with fail
      generalize w3.alloc (.cells #[.int .i64 k, .int .i64 ep, .int .i64 sq, .int .i64 tt, .int .u32 u, .slice A3 d.length c3] 25 (0, 0)) = w4 at HP4 HB4 HZ4 HS4 HH4 ⊢
      generalize w3.heap.size = gp at HP4 ⊢
      obtain ⟨⟨p0, p1, p2, p3, p4, p5⟩, f0, f1, f2, f3, f4, f5⟩ := cells6 HZ4.out
      obtain ⟨⟨q0, q1, q2, q3, q4, q5⟩, g0, g1, g2, g3, g4, g5⟩ := cells6 HP4.out
      by_cases e1 : s2.endE = 0
      · have b1 : (s2.endE != 0) = false := by simp [e1]
        have hE := HE.out
        rw [if_neg (by simp [e1])] at hE
        clear e1
        go_wp2_with (go_at_call 27; have hop := wend HS4.out; refine hop.mono ?_; rintro e wq ⟨rfl, rfl⟩; clear hop)
        refine (packet_right.calls k ep sq tt u A3 c3 d (pkright ⟨k, ep, sq, tt, u, d⟩) _ (HH4.out.C (by have := HC.out; omega)) HC.out.1 (right_pk ⟨k, ep, sq, tt, u, d⟩)).mono ?_
        rintro e w5 ⟨rfl, hX⟩
        clear p0 p1 p2 p3 p4 p5 f0 f1 f2 f3 f4 f5 q0 q1 q2 q3 q4 q5 g0 g1 g2 g3 g4 g5
        have HB5 := Aside0.mk (below_via4 HB4.out hX)
        have HZ5 := Aside0.mk (vkeepB HZ4.out hX)
        have HP5 := Aside0.mk (vkeepB HP4.out hX)
        have HH5 := Aside0.mk (HH4.out.below hX)
        clear hX HB4 HZ4 HP4 HH4 HS4
        obtain ⟨⟨p0, p1, p2, p3, p4, p5⟩, f0, f1, f2, f3, f4, f5⟩ := cells6 HZ5.out
        obtain ⟨⟨q0, q1, q2, q3, q4, q5⟩, g0, g1, g2, g3, g4, g5⟩ := cells6 HP5.out
        by_cases r : pkright ⟨k, ep, sq, tt, u, d⟩ = true
        · rw [if_pos r] at hE
          have HD := Aside0.mk hE
          rw [r]
          clear hE r
          go_wp2
          have hz := put6 HZ5.out HB5.out (Nat.le_refl _) (.int .i64 k) (.int .i64 ep) (.int .i64 sq) (.int .i64 tt) (.int .u32 u) (.slice A3 d.length c3)
          refine bodyPost_ret (results_ct rfl _ _ w.heap.size 25 _ (0, 0) _ rfl hz.1 Try.underlying25 rfl info_pack) rfl ?_
          exact ⟨A3, c3, by rw [HD.out]; rfl, by rw [HD.out]; exact (hz.2.2 A3 d (fun k => w2.heap.size < k) (by have := SZ2.out; omega) HH5.out).mono (fun k hk => by have := SZ2.out; omega), by rw [HD.out]; exact HC.out.1, HC.out.2, hz.2.1⟩
        · have r' : pkright ⟨k, ep, sq, tt, u, d⟩ = false := by simpa using r
          rw [if_neg r] at hE
          have HD := Aside0.mk hE
          rw [r']
          clear hE r r'
          go_wp2
          have hz := put6 HZ5.out HB5.out (Nat.le_refl _) (.int .i64 0) (.int .i64 0) (.int .i64 0) (.int .i64 0) (.int .u32 0) (.slice none 0 0)
          refine bodyPost_ret (results_ct rfl _ _ w.heap.size 25 _ (0, 0) _ rfl hz.1 Try.underlying25 rfl info_pack) rfl ?_
          exact ⟨none, 0, by rw [HD.out]; rfl, by rw [HD.out]; exact HeldT.nil, by rw [HD.out]; simp [pk0], by decide, hz.2.1⟩
      · have b1 : (s2.endE != 0) = true := by simp [e1]
        have hE := HE.out
        rw [if_pos e1] at hE
        have HD := Aside0.mk hE
        clear e1 hE
        go_wp2_with (go_at_call 27; have hop := wend HS4.out; refine hop.mono ?_; rintro e wq ⟨rfl, rfl⟩; clear hop)
        have hz := put6 HZ4.out HB4.out (Nat.le_refl _) (.int .i64 0) (.int .i64 0) (.int .i64 0) (.int .i64 0) (.int .u32 0) (.slice none 0 0)
        refine bodyPost_ret (results_ct rfl _ _ w.heap.size 25 _ (0, 0) _ rfl hz.1 Try.underlying25 rfl info_pack) rfl ?_
        exact ⟨none, 0, by rw [HD.out]; rfl, by rw [HD.out]; exact HeldT.nil, by rw [HD.out]; simp [pk0], by decide, hz.2.1⟩
  · have HD : Aside0 (dec l0.length x n err = (pk0, err)) := ⟨by unfold dec; rw [if_pos e0]⟩
    have b0 : (err != 0) = true := by simp [e0]
    go_wp2
    have hz := put6 HZ1.out HB1.out (Nat.le_refl _) (.int .i64 0) (.int .i64 0) (.int .i64 0) (.int .i64 0) (.int .u32 0) (.slice none 0 0)
    refine bodyPost_ret (results_ct rfl _ _ w.heap.size 25 _ (0, 0) _ rfl hz.1 Try.underlying25 rfl info_pack) rfl ?_
    exact ⟨none, 0, by rw [HD.out]; rfl, by rw [HD.out]; exact HeldT.nil, by rw [HD.out]; simp [pk0], by decide, hz.2.1⟩
end Go.Proofs.Yticpcjjgdkbcjaa
end

section
-- Written by a program of this session (wip/tools/myprint.py), over the kit's print.
namespace Go.Proofs.Yticpcjjgdkbcjaa.G
open Go.RowKit Go.Proofs.YticpcjjgdkbcjaaW.PrintWords Go.Proofs.YticpcjjgdkbcjaaW.PrintLast Go.Proofs.YticpcjjgdkbcjaaW.PrintMore
attribute [local go_sem] max2_int min2_int max_two min_two max_three min_three max_four min_four   -- for this text's walks alone
set_option linter.unusedVariables false
set_option linter.unusedSimpArgs false

/-! ### rosetteref22_right: function 21 -/
def rosetteref22_right.j0 : Nat → Bool → Int → Int → Int → Int → Int → List Int → Option (Bool)
  | 0, _, _, _, _, _, _, _ => none
  | k + 1, x56, x193000, x193001, x193002, x193003, x193004, x193005 => if x56 = true then (some false) else (if x193000 = 1 then (if x193003 ≥ 1 then (some (decide (x193003 ≤ 1048576))) else (some false)) else (if x193000 = 2 then (if x193002 ≥ 0 then (if x193002 ≤ 1048576 then (if (x193005.length : Int) ≥ 1 then (some (decide ((x193005.length : Int) ≤ 64))) else (some false)) else (some false)) else (some false)) else (if x193000 = 3 then (if x193002 ≥ 0 then (some (decide (x193002 ≤ 1048576))) else (some false)) else (if x193000 = 4 then (if (x193005.length : Int) ≥ 1 then (some (decide ((x193005.length : Int) ≤ 4096))) else (some false)) else (some false)))))
def rosetteref22_right.f (k : Nat) (a0_0 : Int) (a0_1 : Int) (a0_2 : Int) (a0_3 : Int) (a0_4 : Int) (l0_5 : List Int) : Option (Bool) := if a0_1 < 0 then (rosetteref22_right.j0 k true a0_0 a0_1 a0_2 a0_3 a0_4 l0_5) else (if a0_1 > 1099511627776 then (rosetteref22_right.j0 k true a0_0 a0_1 a0_2 a0_3 a0_4 l0_5) else (if a0_0 = 1 then (if a0_0 = 2 then (rosetteref22_right.j0 k false a0_0 a0_1 a0_2 a0_3 a0_4 l0_5) else (if a0_0 = 3 then (if a0_0 = 4 then (rosetteref22_right.j0 k false a0_0 a0_1 a0_2 a0_3 a0_4 l0_5) else (rosetteref22_right.j0 k (decide ((l0_5.length : Int) > 0)) a0_0 a0_1 a0_2 a0_3 a0_4 l0_5)) else (if a0_2 = 0 then (if a0_0 = 4 then (rosetteref22_right.j0 k false a0_0 a0_1 a0_2 a0_3 a0_4 l0_5) else (rosetteref22_right.j0 k (decide ((l0_5.length : Int) > 0)) a0_0 a0_1 a0_2 a0_3 a0_4 l0_5)) else (rosetteref22_right.j0 k true a0_0 a0_1 a0_2 a0_3 a0_4 l0_5)))) else (if a0_3 = 0 then (if a0_4 = 0 then (if a0_0 = 2 then (rosetteref22_right.j0 k false a0_0 a0_1 a0_2 a0_3 a0_4 l0_5) else (if a0_0 = 3 then (if a0_0 = 4 then (rosetteref22_right.j0 k false a0_0 a0_1 a0_2 a0_3 a0_4 l0_5) else (rosetteref22_right.j0 k (decide ((l0_5.length : Int) > 0)) a0_0 a0_1 a0_2 a0_3 a0_4 l0_5)) else (if a0_2 = 0 then (if a0_0 = 4 then (rosetteref22_right.j0 k false a0_0 a0_1 a0_2 a0_3 a0_4 l0_5) else (rosetteref22_right.j0 k (decide ((l0_5.length : Int) > 0)) a0_0 a0_1 a0_2 a0_3 a0_4 l0_5)) else (rosetteref22_right.j0 k true a0_0 a0_1 a0_2 a0_3 a0_4 l0_5)))) else (rosetteref22_right.j0 k true a0_0 a0_1 a0_2 a0_3 a0_4 l0_5)) else (rosetteref22_right.j0 k true a0_0 a0_1 a0_2 a0_3 a0_4 l0_5))))
theorem rosetteref22_right.mono_l : ∀ k, (∀ y0 y1 y2 y3 y4 y5 y6, LeO (rosetteref22_right.j0 k y0 y1 y2 y3 y4 y5 y6) (rosetteref22_right.j0 (k + 1) y0 y1 y2 y3 y4 y5 y6))
  | 0 => fun _ _ _ _ _ _ _ r h => by simp [rosetteref22_right.j0] at h
  | k + 1 => by
    have ih0 := rosetteref22_right.mono_l k
    · intro y0 y1 y2 y3 y4 y5 y6
      unfold rosetteref22_right.j0
      repeat' first
      | (with_reducible exact ih0 _ _ _ _ _ _ _)
      | (with_reducible exact LeO.refl _)
      | (with_reducible exact LeO.none _)
      | (with_reducible refine LeO.ite ?_ ?_)
      | (with_reducible refine LeO.bind ?_ (fun _ => ?_))
      | exact ih0 _ _ _ _ _ _ _
      | exact LeO.none _
      | refine LeO.ite ?_ ?_
      | refine LeO.bind ?_ (fun _ => ?_)
theorem rosetteref22_right.mono : ∀ a0 a1 a2 a3 a4 a5 k, LeO (rosetteref22_right.f k a0 a1 a2 a3 a4 a5) (rosetteref22_right.f (k + 1) a0 a1 a2 a3 a4 a5) := by
  intro a0 a1 a2 a3 a4 a5 k
  have ih0 := rosetteref22_right.mono_l k
  unfold rosetteref22_right.f
  repeat' first
      | (with_reducible exact ih0 _ _ _ _ _ _ _)
      | (with_reducible exact LeO.refl _)
      | (with_reducible exact LeO.none _)
      | (with_reducible refine LeO.ite ?_ ?_)
      | (with_reducible refine LeO.bind ?_ (fun _ => ?_))
      | exact ih0 _ _ _ _ _ _ _
      | exact LeO.none _
      | refine LeO.ite ?_ ?_
      | refine LeO.bind ?_ (fun _ => ?_)
set_option maxHeartbeats 8000000 in
set_option maxRecDepth 100000 in
theorem rosetteref22_right.calls (k : Nat) (a0_0 : Int) (a0_1 : Int) (a0_2 : Int) (a0_3 : Int) (a0_4 : Int) (A0_5 : Option Addr) (c0_5 : Nat) (l0_5 : List Int) (r : Bool) (w : World) (hr0_5 : Kd.C (Kd.int .u8) w A0_5 l0_5.length l0_5) (hc0_5 : l0_5.length ≤ c0_5) (h : rosetteref22_right.f k a0_0 a0_1 a0_2 a0_3 a0_4 l0_5 = some r) :
    Calls Try.prog 21 #[.agg #[.int .i64 a0_0, .int .i64 a0_1, .int .i64 a0_2, .int .i64 a0_3, .int .u32 a0_4, .slice A0_5 l0_5.length c0_5]] w fun e w' => e = .returned (.bool r) ∧ Below w.heap.size w w' := by
  have hu25 := Try.underlying25
  have HR0_5 := Aside0.mk hr0_5
  have HC0_5 := Aside0.mk hc0_5
  clear hr0_5 hc0_5
  have HB := Aside0.mk (Below.refl w.heap.size w)
  have H : (if a0_1 < 0 then (rosetteref22_right.j0 k true a0_0 a0_1 a0_2 a0_3 a0_4 l0_5) else (if a0_1 > 1099511627776 then (rosetteref22_right.j0 k true a0_0 a0_1 a0_2 a0_3 a0_4 l0_5) else (if a0_0 = 1 then (if a0_0 = 2 then (rosetteref22_right.j0 k false a0_0 a0_1 a0_2 a0_3 a0_4 l0_5) else (if a0_0 = 3 then (if a0_0 = 4 then (rosetteref22_right.j0 k false a0_0 a0_1 a0_2 a0_3 a0_4 l0_5) else (rosetteref22_right.j0 k (decide ((l0_5.length : Int) > 0)) a0_0 a0_1 a0_2 a0_3 a0_4 l0_5)) else (if a0_2 = 0 then (if a0_0 = 4 then (rosetteref22_right.j0 k false a0_0 a0_1 a0_2 a0_3 a0_4 l0_5) else (rosetteref22_right.j0 k (decide ((l0_5.length : Int) > 0)) a0_0 a0_1 a0_2 a0_3 a0_4 l0_5)) else (rosetteref22_right.j0 k true a0_0 a0_1 a0_2 a0_3 a0_4 l0_5)))) else (if a0_3 = 0 then (if a0_4 = 0 then (if a0_0 = 2 then (rosetteref22_right.j0 k false a0_0 a0_1 a0_2 a0_3 a0_4 l0_5) else (if a0_0 = 3 then (if a0_0 = 4 then (rosetteref22_right.j0 k false a0_0 a0_1 a0_2 a0_3 a0_4 l0_5) else (rosetteref22_right.j0 k (decide ((l0_5.length : Int) > 0)) a0_0 a0_1 a0_2 a0_3 a0_4 l0_5)) else (if a0_2 = 0 then (if a0_0 = 4 then (rosetteref22_right.j0 k false a0_0 a0_1 a0_2 a0_3 a0_4 l0_5) else (rosetteref22_right.j0 k (decide ((l0_5.length : Int) > 0)) a0_0 a0_1 a0_2 a0_3 a0_4 l0_5)) else (rosetteref22_right.j0 k true a0_0 a0_1 a0_2 a0_3 a0_4 l0_5)))) else (rosetteref22_right.j0 k true a0_0 a0_1 a0_2 a0_3 a0_4 l0_5)) else (rosetteref22_right.j0 k true a0_0 a0_1 a0_2 a0_3 a0_4 l0_5))))) = some r := h
  clear h
  have HC2 := Aside0.mk H
  clear H
  go_enter Try.func21, Try.ntmps21
  go_upto_region 1 with (first | ((with_reducible refine gate_dst (N := 1) rfl ?_); (try (refine gate_guard (by rfl) ?_; dsimp only)); refine box_event ?hg (N := 1) ?hd (cs := #[.int .i64 a0_0, .int .i64 a0_1, .int .i64 a0_2, .int .i64 a0_3, .int .u32 a0_4, .slice A0_5 l0_5.length c0_5]) (t := 25) ?hr ?_; (case hd => rfl); (case hg => rfl); (case hr => first | (go_simp; done) | (go_simp; rfl)); intro gb192 hg w3 hbox hb; have n0_ := Aside0.mk (below_step (by repeat (first | (with_reducible first | exact HB.out | apply below_alloc | apply pw_below_drewN | apply below_drew1) | exact HB.out)) hb); have n1_ := Aside0.mk (hbox); have n2_ := Aside0.mk ((by rw [hg]; exact (below_size (by repeat (first | (with_reducible first | exact HB.out | apply below_alloc | apply pw_below_drewN | apply below_drew1) | exact HB.out))) : w.heap.size ≤ gb192)); have n3_ := Aside0.mk ((by rw [hg]; exact (below_size (by repeat (first | (with_reducible first | exact HB.out | apply below_alloc | apply pw_below_drewN | apply below_drew1) | exact HB.out))) : w.heap.size ≤ gb192)); clear HB; have HB := n0_; have BK192 := n1_; have GW192 := n2_; have GE192 := n3_; clear n0_ n1_ n2_ n3_; clear hb hbox hg))
  (try simp only [Act.put, List.setIfInBounds_toArray, List.set_cons_zero, List.set_cons_succ])
  go_cut [56] (fun v56 wc => ∃ (kq : Nat) (x56_1 : Bool), v56 = .bool x56_1 ∧ Aside0 (rosetteref22_right.j0 kq x56_1 a0_0 a0_1 a0_2 a0_3 a0_4 l0_5 = some r) ∧ Aside0 (kq ≤ k) ∧ Aside0 (wc.heap[gb192]? = some (.cells #[.int .i64 a0_0, .int .i64 a0_1, .int .i64 a0_2, .int .i64 a0_3, .int .u32 a0_4, (.slice A0_5 l0_5.length c0_5)] 25 (0, 0))) ∧ Aside0 (Below w.heap.size w wc))
  case first =>
    have H := HC2.out
    clear HC2
    by_cases c4 : a0_1 < 0
    · rw [if_pos c4] at H
      have c4b0 : decide (a0_1 < 0) = true := decide_eq_true c4
      clear c4
      (first | rw [c4b0] | (simp only [i64_w, i32_w]; rw [c4b0]) | skip)
      have H' := Aside0.mk H
      clear H
      have hcz5_0 : w3.cell? ⟨gb192, 0, none⟩ = some (.int .i64 a0_0) := (blk_cell BK192.out 0).trans rfl
      have hcz5_1 : w3.cell? ⟨gb192, 1, none⟩ = some (.int .i64 a0_1) := (blk_cell BK192.out 1).trans rfl
      have hcz5_2 : w3.cell? ⟨gb192, 2, none⟩ = some (.int .i64 a0_2) := (blk_cell BK192.out 2).trans rfl
      have hcz5_3 : w3.cell? ⟨gb192, 3, none⟩ = some (.int .i64 a0_3) := (blk_cell BK192.out 3).trans rfl
      have hcz5_4 : w3.cell? ⟨gb192, 4, none⟩ = some (.int .u32 a0_4) := (blk_cell BK192.out 4).trans rfl
      have hcz5_5 : w3.cell? ⟨gb192, 5, none⟩ = some (.slice A0_5 l0_5.length c0_5) := (blk_cell BK192.out 5).trans rfl
      have hfz5_0 := blk_frozen BK192.out 0
      have hfz5_1 := blk_frozen BK192.out 1
      have hfz5_2 := blk_frozen BK192.out 2
      have hfz5_3 := blk_frozen BK192.out 3
      have hfz5_4 := blk_frozen BK192.out 4
      have hfz5_5 := blk_frozen BK192.out 5
      go_wp2
      go_meet
      case rel => exact ⟨_, (true), (by first | rfl | (simp; done) | (simp [*]; done)), H', ⟨by first | omega | exact Nat.le_refl _⟩, ⟨by (with_reducible repeat (first | refine blk_drewN ?_ _ | refine blk_drew ?_ | refine blk_alloc ?_ _)); exact BK192.out⟩, ⟨by repeat (first | (with_reducible first | exact HB.out | apply below_alloc | apply pw_below_drewN | apply below_drew1 | refine below_set ?_ GE192.out) | exact HB.out)⟩⟩
    · rw [if_neg c4] at H
      have c4b0 : decide (a0_1 < 0) = false := decide_eq_false c4
      clear c4
      (first | rw [c4b0] | (simp only [i64_w, i32_w]; rw [c4b0]) | skip)
      by_cases c6 : a0_1 > 1099511627776
      · rw [if_pos c6] at H
        have c6b0 : decide (1099511627776 < a0_1) = true := decide_eq_true c6
        clear c6
        have H' := Aside0.mk H
        clear H
        have hcz7_0 : w3.cell? ⟨gb192, 0, none⟩ = some (.int .i64 a0_0) := (blk_cell BK192.out 0).trans rfl
        have hcz7_1 : w3.cell? ⟨gb192, 1, none⟩ = some (.int .i64 a0_1) := (blk_cell BK192.out 1).trans rfl
        have hcz7_2 : w3.cell? ⟨gb192, 2, none⟩ = some (.int .i64 a0_2) := (blk_cell BK192.out 2).trans rfl
        have hcz7_3 : w3.cell? ⟨gb192, 3, none⟩ = some (.int .i64 a0_3) := (blk_cell BK192.out 3).trans rfl
        have hcz7_4 : w3.cell? ⟨gb192, 4, none⟩ = some (.int .u32 a0_4) := (blk_cell BK192.out 4).trans rfl
        have hcz7_5 : w3.cell? ⟨gb192, 5, none⟩ = some (.slice A0_5 l0_5.length c0_5) := (blk_cell BK192.out 5).trans rfl
        have hfz7_0 := blk_frozen BK192.out 0
        have hfz7_1 := blk_frozen BK192.out 1
        have hfz7_2 := blk_frozen BK192.out 2
        have hfz7_3 := blk_frozen BK192.out 3
        have hfz7_4 := blk_frozen BK192.out 4
        have hfz7_5 := blk_frozen BK192.out 5
        go_wp2
        go_meet
        case rel => exact ⟨_, (true), (by first | rfl | (simp; done) | (simp [*]; done)), H', ⟨by first | omega | exact Nat.le_refl _⟩, ⟨by (with_reducible repeat (first | refine blk_drewN ?_ _ | refine blk_drew ?_ | refine blk_alloc ?_ _)); exact BK192.out⟩, ⟨by repeat (first | (with_reducible first | exact HB.out | apply below_alloc | apply pw_below_drewN | apply below_drew1 | refine below_set ?_ GE192.out) | exact HB.out)⟩⟩
      · rw [if_neg c6] at H
        have c6b0 : decide (1099511627776 < a0_1) = false := decide_eq_false c6
        clear c6
        by_cases c8 : a0_0 = 1
        · rw [if_pos c8] at H
          have c8b0 : (a0_0 == 1) = true := beq_iff_eq.mpr c8
          have c8b1 : (a0_0 != 1) = false := bne_eq_false_iff_eq.mpr c8
          clear c8
          by_cases c9 : a0_0 = 2
          · rw [if_pos c9] at H
            have c9b0 : (a0_0 == 2) = true := beq_iff_eq.mpr c9
            have c9b1 : (a0_0 != 2) = false := bne_eq_false_iff_eq.mpr c9
            clear c9
            have H' := Aside0.mk H
            clear H
            have hcz10_0 : w3.cell? ⟨gb192, 0, none⟩ = some (.int .i64 a0_0) := (blk_cell BK192.out 0).trans rfl
            have hcz10_1 : w3.cell? ⟨gb192, 1, none⟩ = some (.int .i64 a0_1) := (blk_cell BK192.out 1).trans rfl
            have hcz10_2 : w3.cell? ⟨gb192, 2, none⟩ = some (.int .i64 a0_2) := (blk_cell BK192.out 2).trans rfl
            have hcz10_3 : w3.cell? ⟨gb192, 3, none⟩ = some (.int .i64 a0_3) := (blk_cell BK192.out 3).trans rfl
            have hcz10_4 : w3.cell? ⟨gb192, 4, none⟩ = some (.int .u32 a0_4) := (blk_cell BK192.out 4).trans rfl
            have hcz10_5 : w3.cell? ⟨gb192, 5, none⟩ = some (.slice A0_5 l0_5.length c0_5) := (blk_cell BK192.out 5).trans rfl
            have hfz10_0 := blk_frozen BK192.out 0
            have hfz10_1 := blk_frozen BK192.out 1
            have hfz10_2 := blk_frozen BK192.out 2
            have hfz10_3 := blk_frozen BK192.out 3
            have hfz10_4 := blk_frozen BK192.out 4
            have hfz10_5 := blk_frozen BK192.out 5
            go_wp2
            go_meet
            case rel => exact ⟨_, (false), (by first | rfl | (simp; done) | (simp [*]; done)), H', ⟨by first | omega | exact Nat.le_refl _⟩, ⟨by (with_reducible repeat (first | refine blk_drewN ?_ _ | refine blk_drew ?_ | refine blk_alloc ?_ _)); exact BK192.out⟩, ⟨by repeat (first | (with_reducible first | exact HB.out | apply below_alloc | apply pw_below_drewN | apply below_drew1 | refine below_set ?_ GE192.out) | exact HB.out)⟩⟩
          · rw [if_neg c9] at H
            have c9b0 : (a0_0 == 2) = false := beq_eq_false_iff_ne.mpr c9
            have c9b1 : (a0_0 != 2) = true := bne_iff_ne.mpr c9
            by_cases c11 : a0_0 = 3
            · rw [if_pos c11] at H
              have c11b0 : (a0_0 == 3) = true := beq_iff_eq.mpr c11
              have c11b1 : (a0_0 != 3) = false := bne_eq_false_iff_eq.mpr c11
              clear c11
              by_cases c12 : a0_0 = 4
              · rw [if_pos c12] at H
                have c12b0 : (a0_0 == 4) = true := beq_iff_eq.mpr c12
                have c12b1 : (a0_0 != 4) = false := bne_eq_false_iff_eq.mpr c12
                clear c12
                have H' := Aside0.mk H
                clear H
                have hcz13_0 : w3.cell? ⟨gb192, 0, none⟩ = some (.int .i64 a0_0) := (blk_cell BK192.out 0).trans rfl
                have hcz13_1 : w3.cell? ⟨gb192, 1, none⟩ = some (.int .i64 a0_1) := (blk_cell BK192.out 1).trans rfl
                have hcz13_2 : w3.cell? ⟨gb192, 2, none⟩ = some (.int .i64 a0_2) := (blk_cell BK192.out 2).trans rfl
                have hcz13_3 : w3.cell? ⟨gb192, 3, none⟩ = some (.int .i64 a0_3) := (blk_cell BK192.out 3).trans rfl
                have hcz13_4 : w3.cell? ⟨gb192, 4, none⟩ = some (.int .u32 a0_4) := (blk_cell BK192.out 4).trans rfl
                have hcz13_5 : w3.cell? ⟨gb192, 5, none⟩ = some (.slice A0_5 l0_5.length c0_5) := (blk_cell BK192.out 5).trans rfl
                have hfz13_0 := blk_frozen BK192.out 0
                have hfz13_1 := blk_frozen BK192.out 1
                have hfz13_2 := blk_frozen BK192.out 2
                have hfz13_3 := blk_frozen BK192.out 3
                have hfz13_4 := blk_frozen BK192.out 4
                have hfz13_5 := blk_frozen BK192.out 5
                go_wp2
                go_meet
                case rel => exact ⟨_, (false), (by first | rfl | (simp; done) | (simp [*]; done)), H', ⟨by first | omega | exact Nat.le_refl _⟩, ⟨by (with_reducible repeat (first | refine blk_drewN ?_ _ | refine blk_drew ?_ | refine blk_alloc ?_ _)); exact BK192.out⟩, ⟨by repeat (first | (with_reducible first | exact HB.out | apply below_alloc | apply pw_below_drewN | apply below_drew1 | refine below_set ?_ GE192.out) | exact HB.out)⟩⟩
              · rw [if_neg c12] at H
                have c12b0 : (a0_0 == 4) = false := beq_eq_false_iff_ne.mpr c12
                have c12b1 : (a0_0 != 4) = true := bne_iff_ne.mpr c12
                have H' := Aside0.mk H
                clear H
                have hcz14_0 : w3.cell? ⟨gb192, 0, none⟩ = some (.int .i64 a0_0) := (blk_cell BK192.out 0).trans rfl
                have hcz14_1 : w3.cell? ⟨gb192, 1, none⟩ = some (.int .i64 a0_1) := (blk_cell BK192.out 1).trans rfl
                have hcz14_2 : w3.cell? ⟨gb192, 2, none⟩ = some (.int .i64 a0_2) := (blk_cell BK192.out 2).trans rfl
                have hcz14_3 : w3.cell? ⟨gb192, 3, none⟩ = some (.int .i64 a0_3) := (blk_cell BK192.out 3).trans rfl
                have hcz14_4 : w3.cell? ⟨gb192, 4, none⟩ = some (.int .u32 a0_4) := (blk_cell BK192.out 4).trans rfl
                have hcz14_5 : w3.cell? ⟨gb192, 5, none⟩ = some (.slice A0_5 l0_5.length c0_5) := (blk_cell BK192.out 5).trans rfl
                have hfz14_0 := blk_frozen BK192.out 0
                have hfz14_1 := blk_frozen BK192.out 1
                have hfz14_2 := blk_frozen BK192.out 2
                have hfz14_3 := blk_frozen BK192.out 3
                have hfz14_4 := blk_frozen BK192.out 4
                have hfz14_5 := blk_frozen BK192.out 5
                go_wp2
                go_meet
                case rel => exact ⟨_, (decide ((l0_5.length : Int) > 0)), (by first | rfl | (simp; done) | (simp [*]; done)), H', ⟨by first | omega | exact Nat.le_refl _⟩, ⟨by (with_reducible repeat (first | refine blk_drewN ?_ _ | refine blk_drew ?_ | refine blk_alloc ?_ _)); exact BK192.out⟩, ⟨by repeat (first | (with_reducible first | exact HB.out | apply below_alloc | apply pw_below_drewN | apply below_drew1 | refine below_set ?_ GE192.out) | exact HB.out)⟩⟩
            · rw [if_neg c11] at H
              have c11b0 : (a0_0 == 3) = false := beq_eq_false_iff_ne.mpr c11
              have c11b1 : (a0_0 != 3) = true := bne_iff_ne.mpr c11
              by_cases c15 : a0_2 = 0
              · rw [if_pos c15] at H
                have c15b0 : (a0_2 == 0) = true := beq_iff_eq.mpr c15
                have c15b1 : (a0_2 != 0) = false := bne_eq_false_iff_eq.mpr c15
                clear c15
                by_cases c16 : a0_0 = 4
                · rw [if_pos c16] at H
                  have c16b0 : (a0_0 == 4) = true := beq_iff_eq.mpr c16
                  have c16b1 : (a0_0 != 4) = false := bne_eq_false_iff_eq.mpr c16
                  clear c16
                  have H' := Aside0.mk H
                  clear H
                  have hcz17_0 : w3.cell? ⟨gb192, 0, none⟩ = some (.int .i64 a0_0) := (blk_cell BK192.out 0).trans rfl
                  have hcz17_1 : w3.cell? ⟨gb192, 1, none⟩ = some (.int .i64 a0_1) := (blk_cell BK192.out 1).trans rfl
                  have hcz17_2 : w3.cell? ⟨gb192, 2, none⟩ = some (.int .i64 a0_2) := (blk_cell BK192.out 2).trans rfl
                  have hcz17_3 : w3.cell? ⟨gb192, 3, none⟩ = some (.int .i64 a0_3) := (blk_cell BK192.out 3).trans rfl
                  have hcz17_4 : w3.cell? ⟨gb192, 4, none⟩ = some (.int .u32 a0_4) := (blk_cell BK192.out 4).trans rfl
                  have hcz17_5 : w3.cell? ⟨gb192, 5, none⟩ = some (.slice A0_5 l0_5.length c0_5) := (blk_cell BK192.out 5).trans rfl
                  have hfz17_0 := blk_frozen BK192.out 0
                  have hfz17_1 := blk_frozen BK192.out 1
                  have hfz17_2 := blk_frozen BK192.out 2
                  have hfz17_3 := blk_frozen BK192.out 3
                  have hfz17_4 := blk_frozen BK192.out 4
                  have hfz17_5 := blk_frozen BK192.out 5
                  go_wp2
                  go_meet
                  case rel => exact ⟨_, (false), (by first | rfl | (simp; done) | (simp [*]; done)), H', ⟨by first | omega | exact Nat.le_refl _⟩, ⟨by (with_reducible repeat (first | refine blk_drewN ?_ _ | refine blk_drew ?_ | refine blk_alloc ?_ _)); exact BK192.out⟩, ⟨by repeat (first | (with_reducible first | exact HB.out | apply below_alloc | apply pw_below_drewN | apply below_drew1 | refine below_set ?_ GE192.out) | exact HB.out)⟩⟩
                · rw [if_neg c16] at H
                  have c16b0 : (a0_0 == 4) = false := beq_eq_false_iff_ne.mpr c16
                  have c16b1 : (a0_0 != 4) = true := bne_iff_ne.mpr c16
                  have H' := Aside0.mk H
                  clear H
                  have hcz18_0 : w3.cell? ⟨gb192, 0, none⟩ = some (.int .i64 a0_0) := (blk_cell BK192.out 0).trans rfl
                  have hcz18_1 : w3.cell? ⟨gb192, 1, none⟩ = some (.int .i64 a0_1) := (blk_cell BK192.out 1).trans rfl
                  have hcz18_2 : w3.cell? ⟨gb192, 2, none⟩ = some (.int .i64 a0_2) := (blk_cell BK192.out 2).trans rfl
                  have hcz18_3 : w3.cell? ⟨gb192, 3, none⟩ = some (.int .i64 a0_3) := (blk_cell BK192.out 3).trans rfl
                  have hcz18_4 : w3.cell? ⟨gb192, 4, none⟩ = some (.int .u32 a0_4) := (blk_cell BK192.out 4).trans rfl
                  have hcz18_5 : w3.cell? ⟨gb192, 5, none⟩ = some (.slice A0_5 l0_5.length c0_5) := (blk_cell BK192.out 5).trans rfl
                  have hfz18_0 := blk_frozen BK192.out 0
                  have hfz18_1 := blk_frozen BK192.out 1
                  have hfz18_2 := blk_frozen BK192.out 2
                  have hfz18_3 := blk_frozen BK192.out 3
                  have hfz18_4 := blk_frozen BK192.out 4
                  have hfz18_5 := blk_frozen BK192.out 5
                  go_wp2
                  go_meet
                  case rel => exact ⟨_, (decide ((l0_5.length : Int) > 0)), (by first | rfl | (simp; done) | (simp [*]; done)), H', ⟨by first | omega | exact Nat.le_refl _⟩, ⟨by (with_reducible repeat (first | refine blk_drewN ?_ _ | refine blk_drew ?_ | refine blk_alloc ?_ _)); exact BK192.out⟩, ⟨by repeat (first | (with_reducible first | exact HB.out | apply below_alloc | apply pw_below_drewN | apply below_drew1 | refine below_set ?_ GE192.out) | exact HB.out)⟩⟩
              · rw [if_neg c15] at H
                have c15b0 : (a0_2 == 0) = false := beq_eq_false_iff_ne.mpr c15
                have c15b1 : (a0_2 != 0) = true := bne_iff_ne.mpr c15
                have H' := Aside0.mk H
                clear H
                have hcz19_0 : w3.cell? ⟨gb192, 0, none⟩ = some (.int .i64 a0_0) := (blk_cell BK192.out 0).trans rfl
                have hcz19_1 : w3.cell? ⟨gb192, 1, none⟩ = some (.int .i64 a0_1) := (blk_cell BK192.out 1).trans rfl
                have hcz19_2 : w3.cell? ⟨gb192, 2, none⟩ = some (.int .i64 a0_2) := (blk_cell BK192.out 2).trans rfl
                have hcz19_3 : w3.cell? ⟨gb192, 3, none⟩ = some (.int .i64 a0_3) := (blk_cell BK192.out 3).trans rfl
                have hcz19_4 : w3.cell? ⟨gb192, 4, none⟩ = some (.int .u32 a0_4) := (blk_cell BK192.out 4).trans rfl
                have hcz19_5 : w3.cell? ⟨gb192, 5, none⟩ = some (.slice A0_5 l0_5.length c0_5) := (blk_cell BK192.out 5).trans rfl
                have hfz19_0 := blk_frozen BK192.out 0
                have hfz19_1 := blk_frozen BK192.out 1
                have hfz19_2 := blk_frozen BK192.out 2
                have hfz19_3 := blk_frozen BK192.out 3
                have hfz19_4 := blk_frozen BK192.out 4
                have hfz19_5 := blk_frozen BK192.out 5
                go_wp2
                go_meet
                case rel => exact ⟨_, (true), (by first | rfl | (simp; done) | (simp [*]; done)), H', ⟨by first | omega | exact Nat.le_refl _⟩, ⟨by (with_reducible repeat (first | refine blk_drewN ?_ _ | refine blk_drew ?_ | refine blk_alloc ?_ _)); exact BK192.out⟩, ⟨by repeat (first | (with_reducible first | exact HB.out | apply below_alloc | apply pw_below_drewN | apply below_drew1 | refine below_set ?_ GE192.out) | exact HB.out)⟩⟩
        · rw [if_neg c8] at H
          have c8b0 : (a0_0 == 1) = false := beq_eq_false_iff_ne.mpr c8
          have c8b1 : (a0_0 != 1) = true := bne_iff_ne.mpr c8
          by_cases c20 : a0_3 = 0
          · rw [if_pos c20] at H
            have c20b0 : (a0_3 == 0) = true := beq_iff_eq.mpr c20
            have c20b1 : (a0_3 != 0) = false := bne_eq_false_iff_eq.mpr c20
            clear c20
            by_cases c21 : a0_4 = 0
            · rw [if_pos c21] at H
              have c21b0 : (a0_4 == 0) = true := beq_iff_eq.mpr c21
              have c21b1 : (a0_4 != 0) = false := bne_eq_false_iff_eq.mpr c21
              clear c21
              by_cases c22 : a0_0 = 2
              · rw [if_pos c22] at H
                have c22b0 : (a0_0 == 2) = true := beq_iff_eq.mpr c22
                have c22b1 : (a0_0 != 2) = false := bne_eq_false_iff_eq.mpr c22
                clear c22
                have H' := Aside0.mk H
                clear H
                have hcz23_0 : w3.cell? ⟨gb192, 0, none⟩ = some (.int .i64 a0_0) := (blk_cell BK192.out 0).trans rfl
                have hcz23_1 : w3.cell? ⟨gb192, 1, none⟩ = some (.int .i64 a0_1) := (blk_cell BK192.out 1).trans rfl
                have hcz23_2 : w3.cell? ⟨gb192, 2, none⟩ = some (.int .i64 a0_2) := (blk_cell BK192.out 2).trans rfl
                have hcz23_3 : w3.cell? ⟨gb192, 3, none⟩ = some (.int .i64 a0_3) := (blk_cell BK192.out 3).trans rfl
                have hcz23_4 : w3.cell? ⟨gb192, 4, none⟩ = some (.int .u32 a0_4) := (blk_cell BK192.out 4).trans rfl
                have hcz23_5 : w3.cell? ⟨gb192, 5, none⟩ = some (.slice A0_5 l0_5.length c0_5) := (blk_cell BK192.out 5).trans rfl
                have hfz23_0 := blk_frozen BK192.out 0
                have hfz23_1 := blk_frozen BK192.out 1
                have hfz23_2 := blk_frozen BK192.out 2
                have hfz23_3 := blk_frozen BK192.out 3
                have hfz23_4 := blk_frozen BK192.out 4
                have hfz23_5 := blk_frozen BK192.out 5
                go_wp2
                go_meet
                case rel => exact ⟨_, (false), (by first | rfl | (simp; done) | (simp [*]; done)), H', ⟨by first | omega | exact Nat.le_refl _⟩, ⟨by (with_reducible repeat (first | refine blk_drewN ?_ _ | refine blk_drew ?_ | refine blk_alloc ?_ _)); exact BK192.out⟩, ⟨by repeat (first | (with_reducible first | exact HB.out | apply below_alloc | apply pw_below_drewN | apply below_drew1 | refine below_set ?_ GE192.out) | exact HB.out)⟩⟩
              · rw [if_neg c22] at H
                have c22b0 : (a0_0 == 2) = false := beq_eq_false_iff_ne.mpr c22
                have c22b1 : (a0_0 != 2) = true := bne_iff_ne.mpr c22
                by_cases c24 : a0_0 = 3
                · rw [if_pos c24] at H
                  have c24b0 : (a0_0 == 3) = true := beq_iff_eq.mpr c24
                  have c24b1 : (a0_0 != 3) = false := bne_eq_false_iff_eq.mpr c24
                  clear c24
                  by_cases c25 : a0_0 = 4
                  · rw [if_pos c25] at H
                    have c25b0 : (a0_0 == 4) = true := beq_iff_eq.mpr c25
                    have c25b1 : (a0_0 != 4) = false := bne_eq_false_iff_eq.mpr c25
                    clear c25
                    have H' := Aside0.mk H
                    clear H
                    have hcz26_0 : w3.cell? ⟨gb192, 0, none⟩ = some (.int .i64 a0_0) := (blk_cell BK192.out 0).trans rfl
                    have hcz26_1 : w3.cell? ⟨gb192, 1, none⟩ = some (.int .i64 a0_1) := (blk_cell BK192.out 1).trans rfl
                    have hcz26_2 : w3.cell? ⟨gb192, 2, none⟩ = some (.int .i64 a0_2) := (blk_cell BK192.out 2).trans rfl
                    have hcz26_3 : w3.cell? ⟨gb192, 3, none⟩ = some (.int .i64 a0_3) := (blk_cell BK192.out 3).trans rfl
                    have hcz26_4 : w3.cell? ⟨gb192, 4, none⟩ = some (.int .u32 a0_4) := (blk_cell BK192.out 4).trans rfl
                    have hcz26_5 : w3.cell? ⟨gb192, 5, none⟩ = some (.slice A0_5 l0_5.length c0_5) := (blk_cell BK192.out 5).trans rfl
                    have hfz26_0 := blk_frozen BK192.out 0
                    have hfz26_1 := blk_frozen BK192.out 1
                    have hfz26_2 := blk_frozen BK192.out 2
                    have hfz26_3 := blk_frozen BK192.out 3
                    have hfz26_4 := blk_frozen BK192.out 4
                    have hfz26_5 := blk_frozen BK192.out 5
                    go_wp2
                    go_meet
                    case rel => exact ⟨_, (false), (by first | rfl | (simp; done) | (simp [*]; done)), H', ⟨by first | omega | exact Nat.le_refl _⟩, ⟨by (with_reducible repeat (first | refine blk_drewN ?_ _ | refine blk_drew ?_ | refine blk_alloc ?_ _)); exact BK192.out⟩, ⟨by repeat (first | (with_reducible first | exact HB.out | apply below_alloc | apply pw_below_drewN | apply below_drew1 | refine below_set ?_ GE192.out) | exact HB.out)⟩⟩
                  · rw [if_neg c25] at H
                    have c25b0 : (a0_0 == 4) = false := beq_eq_false_iff_ne.mpr c25
                    have c25b1 : (a0_0 != 4) = true := bne_iff_ne.mpr c25
                    have H' := Aside0.mk H
                    clear H
                    have hcz27_0 : w3.cell? ⟨gb192, 0, none⟩ = some (.int .i64 a0_0) := (blk_cell BK192.out 0).trans rfl
                    have hcz27_1 : w3.cell? ⟨gb192, 1, none⟩ = some (.int .i64 a0_1) := (blk_cell BK192.out 1).trans rfl
                    have hcz27_2 : w3.cell? ⟨gb192, 2, none⟩ = some (.int .i64 a0_2) := (blk_cell BK192.out 2).trans rfl
                    have hcz27_3 : w3.cell? ⟨gb192, 3, none⟩ = some (.int .i64 a0_3) := (blk_cell BK192.out 3).trans rfl
                    have hcz27_4 : w3.cell? ⟨gb192, 4, none⟩ = some (.int .u32 a0_4) := (blk_cell BK192.out 4).trans rfl
                    have hcz27_5 : w3.cell? ⟨gb192, 5, none⟩ = some (.slice A0_5 l0_5.length c0_5) := (blk_cell BK192.out 5).trans rfl
                    have hfz27_0 := blk_frozen BK192.out 0
                    have hfz27_1 := blk_frozen BK192.out 1
                    have hfz27_2 := blk_frozen BK192.out 2
                    have hfz27_3 := blk_frozen BK192.out 3
                    have hfz27_4 := blk_frozen BK192.out 4
                    have hfz27_5 := blk_frozen BK192.out 5
                    go_wp2
                    go_meet
                    case rel => exact ⟨_, (decide ((l0_5.length : Int) > 0)), (by first | rfl | (simp; done) | (simp [*]; done)), H', ⟨by first | omega | exact Nat.le_refl _⟩, ⟨by (with_reducible repeat (first | refine blk_drewN ?_ _ | refine blk_drew ?_ | refine blk_alloc ?_ _)); exact BK192.out⟩, ⟨by repeat (first | (with_reducible first | exact HB.out | apply below_alloc | apply pw_below_drewN | apply below_drew1 | refine below_set ?_ GE192.out) | exact HB.out)⟩⟩
                · rw [if_neg c24] at H
                  have c24b0 : (a0_0 == 3) = false := beq_eq_false_iff_ne.mpr c24
                  have c24b1 : (a0_0 != 3) = true := bne_iff_ne.mpr c24
                  by_cases c28 : a0_2 = 0
                  · rw [if_pos c28] at H
                    have c28b0 : (a0_2 == 0) = true := beq_iff_eq.mpr c28
                    have c28b1 : (a0_2 != 0) = false := bne_eq_false_iff_eq.mpr c28
                    clear c28
                    by_cases c29 : a0_0 = 4
                    · rw [if_pos c29] at H
                      have c29b0 : (a0_0 == 4) = true := beq_iff_eq.mpr c29
                      have c29b1 : (a0_0 != 4) = false := bne_eq_false_iff_eq.mpr c29
                      clear c29
                      have H' := Aside0.mk H
                      clear H
                      have hcz30_0 : w3.cell? ⟨gb192, 0, none⟩ = some (.int .i64 a0_0) := (blk_cell BK192.out 0).trans rfl
                      have hcz30_1 : w3.cell? ⟨gb192, 1, none⟩ = some (.int .i64 a0_1) := (blk_cell BK192.out 1).trans rfl
                      have hcz30_2 : w3.cell? ⟨gb192, 2, none⟩ = some (.int .i64 a0_2) := (blk_cell BK192.out 2).trans rfl
                      have hcz30_3 : w3.cell? ⟨gb192, 3, none⟩ = some (.int .i64 a0_3) := (blk_cell BK192.out 3).trans rfl
                      have hcz30_4 : w3.cell? ⟨gb192, 4, none⟩ = some (.int .u32 a0_4) := (blk_cell BK192.out 4).trans rfl
                      have hcz30_5 : w3.cell? ⟨gb192, 5, none⟩ = some (.slice A0_5 l0_5.length c0_5) := (blk_cell BK192.out 5).trans rfl
                      have hfz30_0 := blk_frozen BK192.out 0
                      have hfz30_1 := blk_frozen BK192.out 1
                      have hfz30_2 := blk_frozen BK192.out 2
                      have hfz30_3 := blk_frozen BK192.out 3
                      have hfz30_4 := blk_frozen BK192.out 4
                      have hfz30_5 := blk_frozen BK192.out 5
                      go_wp2
                      go_meet
                      case rel => exact ⟨_, (false), (by first | rfl | (simp; done) | (simp [*]; done)), H', ⟨by first | omega | exact Nat.le_refl _⟩, ⟨by (with_reducible repeat (first | refine blk_drewN ?_ _ | refine blk_drew ?_ | refine blk_alloc ?_ _)); exact BK192.out⟩, ⟨by repeat (first | (with_reducible first | exact HB.out | apply below_alloc | apply pw_below_drewN | apply below_drew1 | refine below_set ?_ GE192.out) | exact HB.out)⟩⟩
                    · rw [if_neg c29] at H
                      have c29b0 : (a0_0 == 4) = false := beq_eq_false_iff_ne.mpr c29
                      have c29b1 : (a0_0 != 4) = true := bne_iff_ne.mpr c29
                      have H' := Aside0.mk H
                      clear H
                      have hcz31_0 : w3.cell? ⟨gb192, 0, none⟩ = some (.int .i64 a0_0) := (blk_cell BK192.out 0).trans rfl
                      have hcz31_1 : w3.cell? ⟨gb192, 1, none⟩ = some (.int .i64 a0_1) := (blk_cell BK192.out 1).trans rfl
                      have hcz31_2 : w3.cell? ⟨gb192, 2, none⟩ = some (.int .i64 a0_2) := (blk_cell BK192.out 2).trans rfl
                      have hcz31_3 : w3.cell? ⟨gb192, 3, none⟩ = some (.int .i64 a0_3) := (blk_cell BK192.out 3).trans rfl
                      have hcz31_4 : w3.cell? ⟨gb192, 4, none⟩ = some (.int .u32 a0_4) := (blk_cell BK192.out 4).trans rfl
                      have hcz31_5 : w3.cell? ⟨gb192, 5, none⟩ = some (.slice A0_5 l0_5.length c0_5) := (blk_cell BK192.out 5).trans rfl
                      have hfz31_0 := blk_frozen BK192.out 0
                      have hfz31_1 := blk_frozen BK192.out 1
                      have hfz31_2 := blk_frozen BK192.out 2
                      have hfz31_3 := blk_frozen BK192.out 3
                      have hfz31_4 := blk_frozen BK192.out 4
                      have hfz31_5 := blk_frozen BK192.out 5
                      go_wp2
                      go_meet
                      case rel => exact ⟨_, (decide ((l0_5.length : Int) > 0)), (by first | rfl | (simp; done) | (simp [*]; done)), H', ⟨by first | omega | exact Nat.le_refl _⟩, ⟨by (with_reducible repeat (first | refine blk_drewN ?_ _ | refine blk_drew ?_ | refine blk_alloc ?_ _)); exact BK192.out⟩, ⟨by repeat (first | (with_reducible first | exact HB.out | apply below_alloc | apply pw_below_drewN | apply below_drew1 | refine below_set ?_ GE192.out) | exact HB.out)⟩⟩
                  · rw [if_neg c28] at H
                    have c28b0 : (a0_2 == 0) = false := beq_eq_false_iff_ne.mpr c28
                    have c28b1 : (a0_2 != 0) = true := bne_iff_ne.mpr c28
                    have H' := Aside0.mk H
                    clear H
                    have hcz32_0 : w3.cell? ⟨gb192, 0, none⟩ = some (.int .i64 a0_0) := (blk_cell BK192.out 0).trans rfl
                    have hcz32_1 : w3.cell? ⟨gb192, 1, none⟩ = some (.int .i64 a0_1) := (blk_cell BK192.out 1).trans rfl
                    have hcz32_2 : w3.cell? ⟨gb192, 2, none⟩ = some (.int .i64 a0_2) := (blk_cell BK192.out 2).trans rfl
                    have hcz32_3 : w3.cell? ⟨gb192, 3, none⟩ = some (.int .i64 a0_3) := (blk_cell BK192.out 3).trans rfl
                    have hcz32_4 : w3.cell? ⟨gb192, 4, none⟩ = some (.int .u32 a0_4) := (blk_cell BK192.out 4).trans rfl
                    have hcz32_5 : w3.cell? ⟨gb192, 5, none⟩ = some (.slice A0_5 l0_5.length c0_5) := (blk_cell BK192.out 5).trans rfl
                    have hfz32_0 := blk_frozen BK192.out 0
                    have hfz32_1 := blk_frozen BK192.out 1
                    have hfz32_2 := blk_frozen BK192.out 2
                    have hfz32_3 := blk_frozen BK192.out 3
                    have hfz32_4 := blk_frozen BK192.out 4
                    have hfz32_5 := blk_frozen BK192.out 5
                    go_wp2
                    go_meet
                    case rel => exact ⟨_, (true), (by first | rfl | (simp; done) | (simp [*]; done)), H', ⟨by first | omega | exact Nat.le_refl _⟩, ⟨by (with_reducible repeat (first | refine blk_drewN ?_ _ | refine blk_drew ?_ | refine blk_alloc ?_ _)); exact BK192.out⟩, ⟨by repeat (first | (with_reducible first | exact HB.out | apply below_alloc | apply pw_below_drewN | apply below_drew1 | refine below_set ?_ GE192.out) | exact HB.out)⟩⟩
            · rw [if_neg c21] at H
              have c21b0 : (a0_4 == 0) = false := beq_eq_false_iff_ne.mpr c21
              have c21b1 : (a0_4 != 0) = true := bne_iff_ne.mpr c21
              have H' := Aside0.mk H
              clear H
              have hcz33_0 : w3.cell? ⟨gb192, 0, none⟩ = some (.int .i64 a0_0) := (blk_cell BK192.out 0).trans rfl
              have hcz33_1 : w3.cell? ⟨gb192, 1, none⟩ = some (.int .i64 a0_1) := (blk_cell BK192.out 1).trans rfl
              have hcz33_2 : w3.cell? ⟨gb192, 2, none⟩ = some (.int .i64 a0_2) := (blk_cell BK192.out 2).trans rfl
              have hcz33_3 : w3.cell? ⟨gb192, 3, none⟩ = some (.int .i64 a0_3) := (blk_cell BK192.out 3).trans rfl
              have hcz33_4 : w3.cell? ⟨gb192, 4, none⟩ = some (.int .u32 a0_4) := (blk_cell BK192.out 4).trans rfl
              have hcz33_5 : w3.cell? ⟨gb192, 5, none⟩ = some (.slice A0_5 l0_5.length c0_5) := (blk_cell BK192.out 5).trans rfl
              have hfz33_0 := blk_frozen BK192.out 0
              have hfz33_1 := blk_frozen BK192.out 1
              have hfz33_2 := blk_frozen BK192.out 2
              have hfz33_3 := blk_frozen BK192.out 3
              have hfz33_4 := blk_frozen BK192.out 4
              have hfz33_5 := blk_frozen BK192.out 5
              go_wp2
              go_meet
              case rel => exact ⟨_, (true), (by first | rfl | (simp; done) | (simp [*]; done)), H', ⟨by first | omega | exact Nat.le_refl _⟩, ⟨by (with_reducible repeat (first | refine blk_drewN ?_ _ | refine blk_drew ?_ | refine blk_alloc ?_ _)); exact BK192.out⟩, ⟨by repeat (first | (with_reducible first | exact HB.out | apply below_alloc | apply pw_below_drewN | apply below_drew1 | refine below_set ?_ GE192.out) | exact HB.out)⟩⟩
          · rw [if_neg c20] at H
            have c20b0 : (a0_3 == 0) = false := beq_eq_false_iff_ne.mpr c20
            have c20b1 : (a0_3 != 0) = true := bne_iff_ne.mpr c20
            have H' := Aside0.mk H
            clear H
            have hcz34_0 : w3.cell? ⟨gb192, 0, none⟩ = some (.int .i64 a0_0) := (blk_cell BK192.out 0).trans rfl
            have hcz34_1 : w3.cell? ⟨gb192, 1, none⟩ = some (.int .i64 a0_1) := (blk_cell BK192.out 1).trans rfl
            have hcz34_2 : w3.cell? ⟨gb192, 2, none⟩ = some (.int .i64 a0_2) := (blk_cell BK192.out 2).trans rfl
            have hcz34_3 : w3.cell? ⟨gb192, 3, none⟩ = some (.int .i64 a0_3) := (blk_cell BK192.out 3).trans rfl
            have hcz34_4 : w3.cell? ⟨gb192, 4, none⟩ = some (.int .u32 a0_4) := (blk_cell BK192.out 4).trans rfl
            have hcz34_5 : w3.cell? ⟨gb192, 5, none⟩ = some (.slice A0_5 l0_5.length c0_5) := (blk_cell BK192.out 5).trans rfl
            have hfz34_0 := blk_frozen BK192.out 0
            have hfz34_1 := blk_frozen BK192.out 1
            have hfz34_2 := blk_frozen BK192.out 2
            have hfz34_3 := blk_frozen BK192.out 3
            have hfz34_4 := blk_frozen BK192.out 4
            have hfz34_5 := blk_frozen BK192.out 5
            go_wp2
            go_meet
            case rel => exact ⟨_, (true), (by first | rfl | (simp; done) | (simp [*]; done)), H', ⟨by first | omega | exact Nat.le_refl _⟩, ⟨by (with_reducible repeat (first | refine blk_drewN ?_ _ | refine blk_drew ?_ | refine blk_alloc ?_ _)); exact BK192.out⟩, ⟨by repeat (first | (with_reducible first | exact HB.out | apply below_alloc | apply pw_below_drewN | apply below_drew1 | refine below_set ?_ GE192.out) | exact HB.out)⟩⟩
  case rest =>
    clear HC2
    try clear c1
    try clear c2
    try clear p2
    try clear c4
    try clear c4b0
    try clear c6
    try clear c6b0
    try clear c8
    try clear c8b0
    try clear c8b1
    try clear c9
    try clear c9b0
    try clear c9b1
    try clear c11
    try clear c11b0
    try clear c11b1
    try clear c12
    try clear c12b0
    try clear c12b1
    try clear c15
    try clear c15b0
    try clear c15b1
    try clear c16
    try clear c16b0
    try clear c16b1
    try clear c20
    try clear c20b0
    try clear c20b1
    try clear c21
    try clear c21b0
    try clear c21b1
    try clear c22
    try clear c22b0
    try clear c22b1
    try clear c24
    try clear c24b0
    try clear c24b1
    try clear c25
    try clear c25b0
    try clear c25b1
    try clear c28
    try clear c28b0
    try clear c28b1
    try clear c29
    try clear c29b0
    try clear c29b1
    try clear hcz10_0
    try clear hcz10_1
    try clear hcz10_2
    try clear hcz10_3
    try clear hcz10_4
    try clear hcz10_5
    try clear hcz13_0
    try clear hcz13_1
    try clear hcz13_2
    try clear hcz13_3
    try clear hcz13_4
    try clear hcz13_5
    try clear hcz14_0
    try clear hcz14_1
    try clear hcz14_2
    try clear hcz14_3
    try clear hcz14_4
    try clear hcz14_5
    try clear hcz17_0
    try clear hcz17_1
    try clear hcz17_2
    try clear hcz17_3
    try clear hcz17_4
    try clear hcz17_5
    try clear hcz18_0
    try clear hcz18_1
    try clear hcz18_2
    try clear hcz18_3
    try clear hcz18_4
    try clear hcz18_5
    try clear hcz19_0
    try clear hcz19_1
    try clear hcz19_2
    try clear hcz19_3
    try clear hcz19_4
    try clear hcz19_5
    try clear hcz23_0
    try clear hcz23_1
    try clear hcz23_2
    try clear hcz23_3
    try clear hcz23_4
    try clear hcz23_5
    try clear hcz26_0
    try clear hcz26_1
    try clear hcz26_2
    try clear hcz26_3
    try clear hcz26_4
    try clear hcz26_5
    try clear hcz27_0
    try clear hcz27_1
    try clear hcz27_2
    try clear hcz27_3
    try clear hcz27_4
    try clear hcz27_5
    try clear hcz30_0
    try clear hcz30_1
    try clear hcz30_2
    try clear hcz30_3
    try clear hcz30_4
    try clear hcz30_5
    try clear hcz31_0
    try clear hcz31_1
    try clear hcz31_2
    try clear hcz31_3
    try clear hcz31_4
    try clear hcz31_5
    try clear hcz32_0
    try clear hcz32_1
    try clear hcz32_2
    try clear hcz32_3
    try clear hcz32_4
    try clear hcz32_5
    try clear hcz33_0
    try clear hcz33_1
    try clear hcz33_2
    try clear hcz33_3
    try clear hcz33_4
    try clear hcz33_5
    try clear hcz34_0
    try clear hcz34_1
    try clear hcz34_2
    try clear hcz34_3
    try clear hcz34_4
    try clear hcz34_5
    try clear hcz5_0
    try clear hcz5_1
    try clear hcz5_2
    try clear hcz5_3
    try clear hcz5_4
    try clear hcz5_5
    try clear hcz7_0
    try clear hcz7_1
    try clear hcz7_2
    try clear hcz7_3
    try clear hcz7_4
    try clear hcz7_5
    try clear hfz10_0
    try clear hfz10_1
    try clear hfz10_2
    try clear hfz10_3
    try clear hfz10_4
    try clear hfz10_5
    try clear hfz13_0
    try clear hfz13_1
    try clear hfz13_2
    try clear hfz13_3
    try clear hfz13_4
    try clear hfz13_5
    try clear hfz14_0
    try clear hfz14_1
    try clear hfz14_2
    try clear hfz14_3
    try clear hfz14_4
    try clear hfz14_5
    try clear hfz17_0
    try clear hfz17_1
    try clear hfz17_2
    try clear hfz17_3
    try clear hfz17_4
    try clear hfz17_5
    try clear hfz18_0
    try clear hfz18_1
    try clear hfz18_2
    try clear hfz18_3
    try clear hfz18_4
    try clear hfz18_5
    try clear hfz19_0
    try clear hfz19_1
    try clear hfz19_2
    try clear hfz19_3
    try clear hfz19_4
    try clear hfz19_5
    try clear hfz23_0
    try clear hfz23_1
    try clear hfz23_2
    try clear hfz23_3
    try clear hfz23_4
    try clear hfz23_5
    try clear hfz26_0
    try clear hfz26_1
    try clear hfz26_2
    try clear hfz26_3
    try clear hfz26_4
    try clear hfz26_5
    try clear hfz27_0
    try clear hfz27_1
    try clear hfz27_2
    try clear hfz27_3
    try clear hfz27_4
    try clear hfz27_5
    try clear hfz30_0
    try clear hfz30_1
    try clear hfz30_2
    try clear hfz30_3
    try clear hfz30_4
    try clear hfz30_5
    try clear hfz31_0
    try clear hfz31_1
    try clear hfz31_2
    try clear hfz31_3
    try clear hfz31_4
    try clear hfz31_5
    try clear hfz32_0
    try clear hfz32_1
    try clear hfz32_2
    try clear hfz32_3
    try clear hfz32_4
    try clear hfz32_5
    try clear hfz33_0
    try clear hfz33_1
    try clear hfz33_2
    try clear hfz33_3
    try clear hfz33_4
    try clear hfz33_5
    try clear hfz34_0
    try clear hfz34_1
    try clear hfz34_2
    try clear hfz34_3
    try clear hfz34_4
    try clear hfz34_5
    try clear hfz5_0
    try clear hfz5_1
    try clear hfz5_2
    try clear hfz5_3
    try clear hfz5_4
    try clear hfz5_5
    try clear hfz7_0
    try clear hfz7_1
    try clear hfz7_2
    try clear hfz7_3
    try clear hfz7_4
    try clear hfz7_5
    obtain ⟨kq, x56_1, rfl, HA, HJ1, BK192, HB⟩ := hcut
    cases kq with
    | zero => exact absurd HA.out (by simp [rosetteref22_right.j0])
    | succ kj1 =>
      have H := HA.out
      clear HA
      simp only [rosetteref22_right.j0] at H
      by_cases c35 : x56_1 = true
      · subst c35
        have H1 : (some false) = some r := by rw [if_pos rfl] at H; exact H
        clear H
        have H := H1
        clear H1
        obtain rfl := Option.some.inj H
        go_wp2
        go_ret
        exact ⟨by first | rfl | (simp [errW_none, errW_some] <;> rfl) | (simp [*, errW_none, errW_some] <;> rfl), by repeat (first | (with_reducible first | exact HB.out | apply below_alloc | apply pw_below_drewN | apply below_drew1 | refine below_set ?_ GE192.out) | exact HB.out)⟩
      · replace c35 := Bool.eq_false_iff.mpr c35
        subst c35
        have H1 : (if a0_0 = 1 then (if a0_3 ≥ 1 then (some (decide (a0_3 ≤ 1048576))) else (some false)) else (if a0_0 = 2 then (if a0_2 ≥ 0 then (if a0_2 ≤ 1048576 then (if (l0_5.length : Int) ≥ 1 then (some (decide ((l0_5.length : Int) ≤ 64))) else (some false)) else (some false)) else (some false)) else (if a0_0 = 3 then (if a0_2 ≥ 0 then (some (decide (a0_2 ≤ 1048576))) else (some false)) else (if a0_0 = 4 then (if (l0_5.length : Int) ≥ 1 then (some (decide ((l0_5.length : Int) ≤ 4096))) else (some false)) else (some false))))) = some r := by rw [if_neg (show ¬ (false = true) by decide)] at H; exact H
        clear H
        have H := H1
        clear H1
        by_cases c36 : a0_0 = 1
        · rw [if_pos c36] at H
          have c36b0 : (a0_0 == 1) = true := beq_iff_eq.mpr c36
          have c36b1 : (a0_0 != 1) = false := bne_eq_false_iff_eq.mpr c36
          clear c36
          by_cases c37 : a0_3 ≥ 1
          · rw [if_pos c37] at H
            have c37b0 : decide (1 ≤ a0_3) = true := decide_eq_true c37
            clear c37
            obtain rfl := Option.some.inj H
            have hcz38_0 : wc.cell? ⟨gb192, 0, none⟩ = some (.int .i64 a0_0) := (blk_cell BK192.out 0).trans rfl
            have hcz38_1 : wc.cell? ⟨gb192, 1, none⟩ = some (.int .i64 a0_1) := (blk_cell BK192.out 1).trans rfl
            have hcz38_2 : wc.cell? ⟨gb192, 2, none⟩ = some (.int .i64 a0_2) := (blk_cell BK192.out 2).trans rfl
            have hcz38_3 : wc.cell? ⟨gb192, 3, none⟩ = some (.int .i64 a0_3) := (blk_cell BK192.out 3).trans rfl
            have hcz38_4 : wc.cell? ⟨gb192, 4, none⟩ = some (.int .u32 a0_4) := (blk_cell BK192.out 4).trans rfl
            have hcz38_5 : wc.cell? ⟨gb192, 5, none⟩ = some (.slice A0_5 l0_5.length c0_5) := (blk_cell BK192.out 5).trans rfl
            have hfz38_0 := blk_frozen BK192.out 0
            have hfz38_1 := blk_frozen BK192.out 1
            have hfz38_2 := blk_frozen BK192.out 2
            have hfz38_3 := blk_frozen BK192.out 3
            have hfz38_4 := blk_frozen BK192.out 4
            have hfz38_5 := blk_frozen BK192.out 5
            go_wp2
            go_ret
            exact ⟨by first | rfl | (simp [errW_none, errW_some] <;> rfl) | (simp [*, errW_none, errW_some] <;> rfl), by repeat (first | (with_reducible first | exact HB.out | apply below_alloc | apply pw_below_drewN | apply below_drew1 | refine below_set ?_ GE192.out) | exact HB.out)⟩
          · rw [if_neg c37] at H
            have c37b0 : decide (1 ≤ a0_3) = false := decide_eq_false c37
            clear c37
            obtain rfl := Option.some.inj H
            have hcz39_0 : wc.cell? ⟨gb192, 0, none⟩ = some (.int .i64 a0_0) := (blk_cell BK192.out 0).trans rfl
            have hcz39_1 : wc.cell? ⟨gb192, 1, none⟩ = some (.int .i64 a0_1) := (blk_cell BK192.out 1).trans rfl
            have hcz39_2 : wc.cell? ⟨gb192, 2, none⟩ = some (.int .i64 a0_2) := (blk_cell BK192.out 2).trans rfl
            have hcz39_3 : wc.cell? ⟨gb192, 3, none⟩ = some (.int .i64 a0_3) := (blk_cell BK192.out 3).trans rfl
            have hcz39_4 : wc.cell? ⟨gb192, 4, none⟩ = some (.int .u32 a0_4) := (blk_cell BK192.out 4).trans rfl
            have hcz39_5 : wc.cell? ⟨gb192, 5, none⟩ = some (.slice A0_5 l0_5.length c0_5) := (blk_cell BK192.out 5).trans rfl
            have hfz39_0 := blk_frozen BK192.out 0
            have hfz39_1 := blk_frozen BK192.out 1
            have hfz39_2 := blk_frozen BK192.out 2
            have hfz39_3 := blk_frozen BK192.out 3
            have hfz39_4 := blk_frozen BK192.out 4
            have hfz39_5 := blk_frozen BK192.out 5
            go_wp2
            go_ret
            exact ⟨by first | rfl | (simp [errW_none, errW_some] <;> rfl) | (simp [*, errW_none, errW_some] <;> rfl), by repeat (first | (with_reducible first | exact HB.out | apply below_alloc | apply pw_below_drewN | apply below_drew1 | refine below_set ?_ GE192.out) | exact HB.out)⟩
        · rw [if_neg c36] at H
          have c36b0 : (a0_0 == 1) = false := beq_eq_false_iff_ne.mpr c36
          have c36b1 : (a0_0 != 1) = true := bne_iff_ne.mpr c36
          by_cases c40 : a0_0 = 2
          · rw [if_pos c40] at H
            have c40b0 : (a0_0 == 2) = true := beq_iff_eq.mpr c40
            have c40b1 : (a0_0 != 2) = false := bne_eq_false_iff_eq.mpr c40
            clear c40
            by_cases c41 : a0_2 ≥ 0
            · rw [if_pos c41] at H
              have c41b0 : decide (0 ≤ a0_2) = true := decide_eq_true c41
              clear c41
              by_cases c42 : a0_2 ≤ 1048576
              · rw [if_pos c42] at H
                have c42b0 : decide (a0_2 ≤ 1048576) = true := decide_eq_true c42
                clear c42
                by_cases c43 : (l0_5.length : Int) ≥ 1
                · rw [if_pos c43] at H
                  have c43b0 : decide (1 ≤ (l0_5.length : Int)) = true := decide_eq_true c43
                  have c43b1 : decide (1 ≤ l0_5.length) = true := decide_eq_true (by omega)
                  clear c43
                  obtain rfl := Option.some.inj H
                  have hcz44_0 : wc.cell? ⟨gb192, 0, none⟩ = some (.int .i64 a0_0) := (blk_cell BK192.out 0).trans rfl
                  have hcz44_1 : wc.cell? ⟨gb192, 1, none⟩ = some (.int .i64 a0_1) := (blk_cell BK192.out 1).trans rfl
                  have hcz44_2 : wc.cell? ⟨gb192, 2, none⟩ = some (.int .i64 a0_2) := (blk_cell BK192.out 2).trans rfl
                  have hcz44_3 : wc.cell? ⟨gb192, 3, none⟩ = some (.int .i64 a0_3) := (blk_cell BK192.out 3).trans rfl
                  have hcz44_4 : wc.cell? ⟨gb192, 4, none⟩ = some (.int .u32 a0_4) := (blk_cell BK192.out 4).trans rfl
                  have hcz44_5 : wc.cell? ⟨gb192, 5, none⟩ = some (.slice A0_5 l0_5.length c0_5) := (blk_cell BK192.out 5).trans rfl
                  have hfz44_0 := blk_frozen BK192.out 0
                  have hfz44_1 := blk_frozen BK192.out 1
                  have hfz44_2 := blk_frozen BK192.out 2
                  have hfz44_3 := blk_frozen BK192.out 3
                  have hfz44_4 := blk_frozen BK192.out 4
                  have hfz44_5 := blk_frozen BK192.out 5
                  go_wp2
                  go_ret
                  exact ⟨by first | rfl | (simp [errW_none, errW_some] <;> rfl) | (simp [*, errW_none, errW_some] <;> rfl), by repeat (first | (with_reducible first | exact HB.out | apply below_alloc | apply pw_below_drewN | apply below_drew1 | refine below_set ?_ GE192.out) | exact HB.out)⟩
                · rw [if_neg c43] at H
                  have c43b0 : decide (1 ≤ (l0_5.length : Int)) = false := decide_eq_false c43
                  have c43b1 : decide (1 ≤ l0_5.length) = false := decide_eq_false (by omega)
                  clear c43
                  obtain rfl := Option.some.inj H
                  have hcz45_0 : wc.cell? ⟨gb192, 0, none⟩ = some (.int .i64 a0_0) := (blk_cell BK192.out 0).trans rfl
                  have hcz45_1 : wc.cell? ⟨gb192, 1, none⟩ = some (.int .i64 a0_1) := (blk_cell BK192.out 1).trans rfl
                  have hcz45_2 : wc.cell? ⟨gb192, 2, none⟩ = some (.int .i64 a0_2) := (blk_cell BK192.out 2).trans rfl
                  have hcz45_3 : wc.cell? ⟨gb192, 3, none⟩ = some (.int .i64 a0_3) := (blk_cell BK192.out 3).trans rfl
                  have hcz45_4 : wc.cell? ⟨gb192, 4, none⟩ = some (.int .u32 a0_4) := (blk_cell BK192.out 4).trans rfl
                  have hcz45_5 : wc.cell? ⟨gb192, 5, none⟩ = some (.slice A0_5 l0_5.length c0_5) := (blk_cell BK192.out 5).trans rfl
                  have hfz45_0 := blk_frozen BK192.out 0
                  have hfz45_1 := blk_frozen BK192.out 1
                  have hfz45_2 := blk_frozen BK192.out 2
                  have hfz45_3 := blk_frozen BK192.out 3
                  have hfz45_4 := blk_frozen BK192.out 4
                  have hfz45_5 := blk_frozen BK192.out 5
                  go_wp2
                  go_ret
                  exact ⟨by first | rfl | (simp [errW_none, errW_some] <;> rfl) | (simp [*, errW_none, errW_some] <;> rfl), by repeat (first | (with_reducible first | exact HB.out | apply below_alloc | apply pw_below_drewN | apply below_drew1 | refine below_set ?_ GE192.out) | exact HB.out)⟩
              · rw [if_neg c42] at H
                have c42b0 : decide (a0_2 ≤ 1048576) = false := decide_eq_false c42
                clear c42
                obtain rfl := Option.some.inj H
                have hcz46_0 : wc.cell? ⟨gb192, 0, none⟩ = some (.int .i64 a0_0) := (blk_cell BK192.out 0).trans rfl
                have hcz46_1 : wc.cell? ⟨gb192, 1, none⟩ = some (.int .i64 a0_1) := (blk_cell BK192.out 1).trans rfl
                have hcz46_2 : wc.cell? ⟨gb192, 2, none⟩ = some (.int .i64 a0_2) := (blk_cell BK192.out 2).trans rfl
                have hcz46_3 : wc.cell? ⟨gb192, 3, none⟩ = some (.int .i64 a0_3) := (blk_cell BK192.out 3).trans rfl
                have hcz46_4 : wc.cell? ⟨gb192, 4, none⟩ = some (.int .u32 a0_4) := (blk_cell BK192.out 4).trans rfl
                have hcz46_5 : wc.cell? ⟨gb192, 5, none⟩ = some (.slice A0_5 l0_5.length c0_5) := (blk_cell BK192.out 5).trans rfl
                have hfz46_0 := blk_frozen BK192.out 0
                have hfz46_1 := blk_frozen BK192.out 1
                have hfz46_2 := blk_frozen BK192.out 2
                have hfz46_3 := blk_frozen BK192.out 3
                have hfz46_4 := blk_frozen BK192.out 4
                have hfz46_5 := blk_frozen BK192.out 5
                go_wp2
                go_ret
                exact ⟨by first | rfl | (simp [errW_none, errW_some] <;> rfl) | (simp [*, errW_none, errW_some] <;> rfl), by repeat (first | (with_reducible first | exact HB.out | apply below_alloc | apply pw_below_drewN | apply below_drew1 | refine below_set ?_ GE192.out) | exact HB.out)⟩
            · rw [if_neg c41] at H
              have c41b0 : decide (0 ≤ a0_2) = false := decide_eq_false c41
              clear c41
              obtain rfl := Option.some.inj H
              have hcz47_0 : wc.cell? ⟨gb192, 0, none⟩ = some (.int .i64 a0_0) := (blk_cell BK192.out 0).trans rfl
              have hcz47_1 : wc.cell? ⟨gb192, 1, none⟩ = some (.int .i64 a0_1) := (blk_cell BK192.out 1).trans rfl
              have hcz47_2 : wc.cell? ⟨gb192, 2, none⟩ = some (.int .i64 a0_2) := (blk_cell BK192.out 2).trans rfl
              have hcz47_3 : wc.cell? ⟨gb192, 3, none⟩ = some (.int .i64 a0_3) := (blk_cell BK192.out 3).trans rfl
              have hcz47_4 : wc.cell? ⟨gb192, 4, none⟩ = some (.int .u32 a0_4) := (blk_cell BK192.out 4).trans rfl
              have hcz47_5 : wc.cell? ⟨gb192, 5, none⟩ = some (.slice A0_5 l0_5.length c0_5) := (blk_cell BK192.out 5).trans rfl
              have hfz47_0 := blk_frozen BK192.out 0
              have hfz47_1 := blk_frozen BK192.out 1
              have hfz47_2 := blk_frozen BK192.out 2
              have hfz47_3 := blk_frozen BK192.out 3
              have hfz47_4 := blk_frozen BK192.out 4
              have hfz47_5 := blk_frozen BK192.out 5
              go_wp2
              go_ret
              exact ⟨by first | rfl | (simp [errW_none, errW_some] <;> rfl) | (simp [*, errW_none, errW_some] <;> rfl), by repeat (first | (with_reducible first | exact HB.out | apply below_alloc | apply pw_below_drewN | apply below_drew1 | refine below_set ?_ GE192.out) | exact HB.out)⟩
          · rw [if_neg c40] at H
            have c40b0 : (a0_0 == 2) = false := beq_eq_false_iff_ne.mpr c40
            have c40b1 : (a0_0 != 2) = true := bne_iff_ne.mpr c40
            by_cases c48 : a0_0 = 3
            · rw [if_pos c48] at H
              have c48b0 : (a0_0 == 3) = true := beq_iff_eq.mpr c48
              have c48b1 : (a0_0 != 3) = false := bne_eq_false_iff_eq.mpr c48
              clear c48
              by_cases c49 : a0_2 ≥ 0
              · rw [if_pos c49] at H
                have c49b0 : decide (0 ≤ a0_2) = true := decide_eq_true c49
                clear c49
                obtain rfl := Option.some.inj H
                have hcz50_0 : wc.cell? ⟨gb192, 0, none⟩ = some (.int .i64 a0_0) := (blk_cell BK192.out 0).trans rfl
                have hcz50_1 : wc.cell? ⟨gb192, 1, none⟩ = some (.int .i64 a0_1) := (blk_cell BK192.out 1).trans rfl
                have hcz50_2 : wc.cell? ⟨gb192, 2, none⟩ = some (.int .i64 a0_2) := (blk_cell BK192.out 2).trans rfl
                have hcz50_3 : wc.cell? ⟨gb192, 3, none⟩ = some (.int .i64 a0_3) := (blk_cell BK192.out 3).trans rfl
                have hcz50_4 : wc.cell? ⟨gb192, 4, none⟩ = some (.int .u32 a0_4) := (blk_cell BK192.out 4).trans rfl
                have hcz50_5 : wc.cell? ⟨gb192, 5, none⟩ = some (.slice A0_5 l0_5.length c0_5) := (blk_cell BK192.out 5).trans rfl
                have hfz50_0 := blk_frozen BK192.out 0
                have hfz50_1 := blk_frozen BK192.out 1
                have hfz50_2 := blk_frozen BK192.out 2
                have hfz50_3 := blk_frozen BK192.out 3
                have hfz50_4 := blk_frozen BK192.out 4
                have hfz50_5 := blk_frozen BK192.out 5
                go_wp2
                go_ret
                exact ⟨by first | rfl | (simp [errW_none, errW_some] <;> rfl) | (simp [*, errW_none, errW_some] <;> rfl), by repeat (first | (with_reducible first | exact HB.out | apply below_alloc | apply pw_below_drewN | apply below_drew1 | refine below_set ?_ GE192.out) | exact HB.out)⟩
              · rw [if_neg c49] at H
                have c49b0 : decide (0 ≤ a0_2) = false := decide_eq_false c49
                clear c49
                obtain rfl := Option.some.inj H
                have hcz51_0 : wc.cell? ⟨gb192, 0, none⟩ = some (.int .i64 a0_0) := (blk_cell BK192.out 0).trans rfl
                have hcz51_1 : wc.cell? ⟨gb192, 1, none⟩ = some (.int .i64 a0_1) := (blk_cell BK192.out 1).trans rfl
                have hcz51_2 : wc.cell? ⟨gb192, 2, none⟩ = some (.int .i64 a0_2) := (blk_cell BK192.out 2).trans rfl
                have hcz51_3 : wc.cell? ⟨gb192, 3, none⟩ = some (.int .i64 a0_3) := (blk_cell BK192.out 3).trans rfl
                have hcz51_4 : wc.cell? ⟨gb192, 4, none⟩ = some (.int .u32 a0_4) := (blk_cell BK192.out 4).trans rfl
                have hcz51_5 : wc.cell? ⟨gb192, 5, none⟩ = some (.slice A0_5 l0_5.length c0_5) := (blk_cell BK192.out 5).trans rfl
                have hfz51_0 := blk_frozen BK192.out 0
                have hfz51_1 := blk_frozen BK192.out 1
                have hfz51_2 := blk_frozen BK192.out 2
                have hfz51_3 := blk_frozen BK192.out 3
                have hfz51_4 := blk_frozen BK192.out 4
                have hfz51_5 := blk_frozen BK192.out 5
                go_wp2
                go_ret
                exact ⟨by first | rfl | (simp [errW_none, errW_some] <;> rfl) | (simp [*, errW_none, errW_some] <;> rfl), by repeat (first | (with_reducible first | exact HB.out | apply below_alloc | apply pw_below_drewN | apply below_drew1 | refine below_set ?_ GE192.out) | exact HB.out)⟩
            · rw [if_neg c48] at H
              have c48b0 : (a0_0 == 3) = false := beq_eq_false_iff_ne.mpr c48
              have c48b1 : (a0_0 != 3) = true := bne_iff_ne.mpr c48
              by_cases c52 : a0_0 = 4
              · rw [if_pos c52] at H
                have c52b0 : (a0_0 == 4) = true := beq_iff_eq.mpr c52
                have c52b1 : (a0_0 != 4) = false := bne_eq_false_iff_eq.mpr c52
                clear c52
                by_cases c53 : (l0_5.length : Int) ≥ 1
                · rw [if_pos c53] at H
                  have c53b0 : decide (1 ≤ (l0_5.length : Int)) = true := decide_eq_true c53
                  have c53b1 : decide (1 ≤ l0_5.length) = true := decide_eq_true (by omega)
                  clear c53
                  obtain rfl := Option.some.inj H
                  have hcz54_0 : wc.cell? ⟨gb192, 0, none⟩ = some (.int .i64 a0_0) := (blk_cell BK192.out 0).trans rfl
                  have hcz54_1 : wc.cell? ⟨gb192, 1, none⟩ = some (.int .i64 a0_1) := (blk_cell BK192.out 1).trans rfl
                  have hcz54_2 : wc.cell? ⟨gb192, 2, none⟩ = some (.int .i64 a0_2) := (blk_cell BK192.out 2).trans rfl
                  have hcz54_3 : wc.cell? ⟨gb192, 3, none⟩ = some (.int .i64 a0_3) := (blk_cell BK192.out 3).trans rfl
                  have hcz54_4 : wc.cell? ⟨gb192, 4, none⟩ = some (.int .u32 a0_4) := (blk_cell BK192.out 4).trans rfl
                  have hcz54_5 : wc.cell? ⟨gb192, 5, none⟩ = some (.slice A0_5 l0_5.length c0_5) := (blk_cell BK192.out 5).trans rfl
                  have hfz54_0 := blk_frozen BK192.out 0
                  have hfz54_1 := blk_frozen BK192.out 1
                  have hfz54_2 := blk_frozen BK192.out 2
                  have hfz54_3 := blk_frozen BK192.out 3
                  have hfz54_4 := blk_frozen BK192.out 4
                  have hfz54_5 := blk_frozen BK192.out 5
                  go_wp2
                  go_ret
                  exact ⟨by first | rfl | (simp [errW_none, errW_some] <;> rfl) | (simp [*, errW_none, errW_some] <;> rfl), by repeat (first | (with_reducible first | exact HB.out | apply below_alloc | apply pw_below_drewN | apply below_drew1 | refine below_set ?_ GE192.out) | exact HB.out)⟩
                · rw [if_neg c53] at H
                  have c53b0 : decide (1 ≤ (l0_5.length : Int)) = false := decide_eq_false c53
                  have c53b1 : decide (1 ≤ l0_5.length) = false := decide_eq_false (by omega)
                  clear c53
                  obtain rfl := Option.some.inj H
                  have hcz55_0 : wc.cell? ⟨gb192, 0, none⟩ = some (.int .i64 a0_0) := (blk_cell BK192.out 0).trans rfl
                  have hcz55_1 : wc.cell? ⟨gb192, 1, none⟩ = some (.int .i64 a0_1) := (blk_cell BK192.out 1).trans rfl
                  have hcz55_2 : wc.cell? ⟨gb192, 2, none⟩ = some (.int .i64 a0_2) := (blk_cell BK192.out 2).trans rfl
                  have hcz55_3 : wc.cell? ⟨gb192, 3, none⟩ = some (.int .i64 a0_3) := (blk_cell BK192.out 3).trans rfl
                  have hcz55_4 : wc.cell? ⟨gb192, 4, none⟩ = some (.int .u32 a0_4) := (blk_cell BK192.out 4).trans rfl
                  have hcz55_5 : wc.cell? ⟨gb192, 5, none⟩ = some (.slice A0_5 l0_5.length c0_5) := (blk_cell BK192.out 5).trans rfl
                  have hfz55_0 := blk_frozen BK192.out 0
                  have hfz55_1 := blk_frozen BK192.out 1
                  have hfz55_2 := blk_frozen BK192.out 2
                  have hfz55_3 := blk_frozen BK192.out 3
                  have hfz55_4 := blk_frozen BK192.out 4
                  have hfz55_5 := blk_frozen BK192.out 5
                  go_wp2
                  go_ret
                  exact ⟨by first | rfl | (simp [errW_none, errW_some] <;> rfl) | (simp [*, errW_none, errW_some] <;> rfl), by repeat (first | (with_reducible first | exact HB.out | apply below_alloc | apply pw_below_drewN | apply below_drew1 | refine below_set ?_ GE192.out) | exact HB.out)⟩
              · rw [if_neg c52] at H
                have c52b0 : (a0_0 == 4) = false := beq_eq_false_iff_ne.mpr c52
                have c52b1 : (a0_0 != 4) = true := bne_iff_ne.mpr c52
                obtain rfl := Option.some.inj H
                have hcz56_0 : wc.cell? ⟨gb192, 0, none⟩ = some (.int .i64 a0_0) := (blk_cell BK192.out 0).trans rfl
                have hcz56_1 : wc.cell? ⟨gb192, 1, none⟩ = some (.int .i64 a0_1) := (blk_cell BK192.out 1).trans rfl
                have hcz56_2 : wc.cell? ⟨gb192, 2, none⟩ = some (.int .i64 a0_2) := (blk_cell BK192.out 2).trans rfl
                have hcz56_3 : wc.cell? ⟨gb192, 3, none⟩ = some (.int .i64 a0_3) := (blk_cell BK192.out 3).trans rfl
                have hcz56_4 : wc.cell? ⟨gb192, 4, none⟩ = some (.int .u32 a0_4) := (blk_cell BK192.out 4).trans rfl
                have hcz56_5 : wc.cell? ⟨gb192, 5, none⟩ = some (.slice A0_5 l0_5.length c0_5) := (blk_cell BK192.out 5).trans rfl
                have hfz56_0 := blk_frozen BK192.out 0
                have hfz56_1 := blk_frozen BK192.out 1
                have hfz56_2 := blk_frozen BK192.out 2
                have hfz56_3 := blk_frozen BK192.out 3
                have hfz56_4 := blk_frozen BK192.out 4
                have hfz56_5 := blk_frozen BK192.out 5
                go_wp2
                go_ret
                exact ⟨by first | rfl | (simp [errW_none, errW_some] <;> rfl) | (simp [*, errW_none, errW_some] <;> rfl), by repeat (first | (with_reducible first | exact HB.out | apply below_alloc | apply pw_below_drewN | apply below_drew1 | refine below_set ?_ GE192.out) | exact HB.out)⟩

end Go.Proofs.Yticpcjjgdkbcjaa.G
end
