/- The statement FirstCodes over numbers and lists: the bytes of a state, the state of bytes, and which states are right are what the document says. -/
import Derived.Test.YtkdhcmmfklganaaZFirstCodes0
import Derived.Test.YtkdhcmmfklganaaZFirstCodes3
import Derived.Test.YtkdhcmmfklganaaZFirstCodes2
import Derived.WalkKit
import Derived.OpenShut
import Derived.Deep.Slices
import Derived.DataReads
import Derived.ChangeShapes
import Derived.WideLaws
import Derived.SizedLaws
import Derived.Test.YtkdhcmmfklganaaProg
import Derived.Test.YtkdhcmmfklganaaRows
import Derived.ProofKit
import Derived.ShutString
import Derived.ChangeOld
import Derived.Below
import Derived.Lib.SmallJoins
section
-- Written by a program of this session (wip/tools/myprint.py), over the kit's print.
namespace Go.Proofs.Ytkdhcmmfklganaa.G
open Go.RowKit Go.Proofs.YtkdhcmmfklganaaW.PrintWords Go.Proofs.YtkdhcmmfklganaaW.PrintLast Go.Proofs.YtkdhcmmfklganaaW.PrintMore
attribute [local go_sem] max2_int min2_int max_two min_two max_three min_three max_four min_four   -- for this text's walks alone
set_option linter.unusedVariables false
set_option linter.unusedSimpArgs false

/-! ### rosetteref15_Encode: function 11 -/
mutual
def rosetteref15_Encode.l0 : Nat → List Int → Int → List Int → List (S40) → Option (List Int × Bool)
  | 0, _, _, _, _ => none
  | k + 1, x5, x6, x165000, x165001 => if x6 < (x165000.length : Int) then (if 0 ≤ x6 then ((rosetteref15_Big.f k (rd x165000 x6) 2).bind fun t170 => (if x5.length + t170.length < 140737488355328 then (rosetteref15_Encode.l0 k (x5 ++ t170) (wrap64 (x6 + 1)) x165000 x165001) else (none))) else (none)) else (if x5.length < 140737488355328 then (rosetteref15_Encode.l1 k (x5 ++ [((x165001.length : Int)) % 256]) 0 x165000 x165001) else (none))
def rosetteref15_Encode.l1 : Nat → List Int → Int → List Int → List (S40) → Option (List Int × Bool)
  | 0, _, _, _, _ => none
  | k + 1, x5, x7, x165000, x165001 => if x7 < (x165001.length : Int) then (if 0 ≤ x7 then ((rosetteref15_Big.f k ((rd_T40 x165001 x7).f0) 2).bind fun t181 => (if x5.length + t181.length < 140737488355328 then ((some (x5 ++ t181 : List Int)).bind fun y184 => ((rosetteref15_Big.f k ((rd_T40 x165001 x7).f1) 2).bind fun t187 => (if y184.length + t187.length < 140737488355328 then ((some (y184 ++ t187 : List Int)).bind fun y190 => (if y190.length < 140737488355328 then (rosetteref15_Encode.l2 k (y190 ++ [((((rd_T40 x165001 x7).f2).length : Int)) % 256]) x7 0 x165000 x165001 ((rd_T40 x165001 x7).f0) ((rd_T40 x165001 x7).f1) ((rd_T40 x165001 x7).f2)) else (none))) else (none)))) else (none))) else (none)) else (some (x5, true))
def rosetteref15_Encode.l2 : Nat → List Int → Int → Int → List Int → List (S40) → Int → Int → List (S46) → Option (List Int × Bool)
  | 0, _, _, _, _, _, _, _, _ => none
  | k + 1, x5, x7, x9, x165000, x165001, x181000, x181001, x181002 => if x9 < (x181002.length : Int) then (if 0 ≤ x9 then (if x5.length < 140737488355328 then ((some (x5 ++ [((((rd_T46 x181002 x9).f0).size : Int)) % 256] : List Int)).bind fun y197 => (if y197.length + ((rd_T46 x181002 x9).f0).size < 140737488355328 then ((some (y197 ++ bytesOf ((rd_T46 x181002 x9).f0) : List Int)).bind fun y201 => ((rosetteref15_Big.f k ((rd_T46 x181002 x9).f1) 4).bind fun t205 => (if y201.length + t205.length < 140737488355328 then ((some (y201 ++ t205 : List Int)).bind fun y208 => ((rosetteref15_Big.f k ((rd_T46 x181002 x9).f2) 4).bind fun t212 => (if y208.length + t212.length < 140737488355328 then (rosetteref15_Encode.l2 k (y208 ++ t212) x7 (wrap64 (x9 + 1)) x165000 x165001 x181000 x181001 x181002) else (none)))) else (none)))) else (none))) else (none)) else (none)) else (rosetteref15_Encode.l1 k x5 (wrap64 (x7 + 1)) x165000 x165001)
end
def rosetteref15_Encode.f (k : Nat) (l0_0 : List Int) (l0_1 : List (S40)) : Option (List Int × Bool) := (rosetteref15_Right.f k l0_0 l0_1).bind fun t165 => (if t165 = true then (rosetteref15_Encode.l0 k (([82, 83, 84, 1, ((l0_0.length : Int)) % 256] : List Int)) 0 l0_0 l0_1) else (some (([] : List Int), false)))
theorem rosetteref15_Encode.mono_l : ∀ k, (∀ y0 y1 y2 y3, LeO (rosetteref15_Encode.l0 k y0 y1 y2 y3) (rosetteref15_Encode.l0 (k + 1) y0 y1 y2 y3)) ∧ (∀ y0 y1 y2 y3, LeO (rosetteref15_Encode.l1 k y0 y1 y2 y3) (rosetteref15_Encode.l1 (k + 1) y0 y1 y2 y3)) ∧ (∀ y0 y1 y2 y3 y4 y5 y6 y7, LeO (rosetteref15_Encode.l2 k y0 y1 y2 y3 y4 y5 y6 y7) (rosetteref15_Encode.l2 (k + 1) y0 y1 y2 y3 y4 y5 y6 y7))
  | 0 => ⟨fun _ _ _ _ r h => by simp [rosetteref15_Encode.l0] at h, fun _ _ _ _ r h => by simp [rosetteref15_Encode.l1] at h, fun _ _ _ _ _ _ _ _ r h => by simp [rosetteref15_Encode.l2] at h⟩
  | k + 1 => by
    obtain ⟨ih0, ih1, ih2⟩ := rosetteref15_Encode.mono_l k
    refine ⟨?_, ?_, ?_⟩
    · intro y0 y1 y2 y3
      unfold rosetteref15_Encode.l0
      repeat' first
      | (with_reducible exact ih0 _ _ _ _)
      | (with_reducible exact ih1 _ _ _ _)
      | (with_reducible exact ih2 _ _ _ _ _ _ _ _)
      | (with_reducible exact rosetteref15_Big.mono _ _ _)
      | (with_reducible exact rosetteref15_Right.mono _ _ _)
      | (with_reducible exact LeO.refl _)
      | (with_reducible exact LeO.none _)
      | (with_reducible refine LeO.ite ?_ ?_)
      | (with_reducible refine LeO.bind ?_ (fun _ => ?_))
      | exact ih0 _ _ _ _
      | exact ih1 _ _ _ _
      | exact ih2 _ _ _ _ _ _ _ _
      | exact rosetteref15_Big.mono _ _ _
      | exact rosetteref15_Right.mono _ _ _
      | exact LeO.none _
      | refine LeO.ite ?_ ?_
      | refine LeO.bind ?_ (fun _ => ?_)
    · intro y0 y1 y2 y3
      unfold rosetteref15_Encode.l1
      repeat' first
      | (with_reducible exact ih0 _ _ _ _)
      | (with_reducible exact ih1 _ _ _ _)
      | (with_reducible exact ih2 _ _ _ _ _ _ _ _)
      | (with_reducible exact rosetteref15_Big.mono _ _ _)
      | (with_reducible exact rosetteref15_Right.mono _ _ _)
      | (with_reducible exact LeO.refl _)
      | (with_reducible exact LeO.none _)
      | (with_reducible refine LeO.ite ?_ ?_)
      | (with_reducible refine LeO.bind ?_ (fun _ => ?_))
      | exact ih0 _ _ _ _
      | exact ih1 _ _ _ _
      | exact ih2 _ _ _ _ _ _ _ _
      | exact rosetteref15_Big.mono _ _ _
      | exact rosetteref15_Right.mono _ _ _
      | exact LeO.none _
      | refine LeO.ite ?_ ?_
      | refine LeO.bind ?_ (fun _ => ?_)
    · intro y0 y1 y2 y3 y4 y5 y6 y7
      unfold rosetteref15_Encode.l2
      repeat' first
      | (with_reducible exact ih0 _ _ _ _)
      | (with_reducible exact ih1 _ _ _ _)
      | (with_reducible exact ih2 _ _ _ _ _ _ _ _)
      | (with_reducible exact rosetteref15_Big.mono _ _ _)
      | (with_reducible exact rosetteref15_Right.mono _ _ _)
      | (with_reducible exact LeO.refl _)
      | (with_reducible exact LeO.none _)
      | (with_reducible refine LeO.ite ?_ ?_)
      | (with_reducible refine LeO.bind ?_ (fun _ => ?_))
      | exact ih0 _ _ _ _
      | exact ih1 _ _ _ _
      | exact ih2 _ _ _ _ _ _ _ _
      | exact rosetteref15_Big.mono _ _ _
      | exact rosetteref15_Right.mono _ _ _
      | exact LeO.none _
      | refine LeO.ite ?_ ?_
      | refine LeO.bind ?_ (fun _ => ?_)
theorem rosetteref15_Encode.mono : ∀ a0 a1 k, LeO (rosetteref15_Encode.f k a0 a1) (rosetteref15_Encode.f (k + 1) a0 a1) := by
  intro a0 a1 k
  obtain ⟨ih0, ih1, ih2⟩ := rosetteref15_Encode.mono_l k
  unfold rosetteref15_Encode.f
  repeat' first
      | (with_reducible exact ih0 _ _ _ _)
      | (with_reducible exact ih1 _ _ _ _)
      | (with_reducible exact ih2 _ _ _ _ _ _ _ _)
      | (with_reducible exact rosetteref15_Big.mono _ _ _)
      | (with_reducible exact rosetteref15_Right.mono _ _ _)
      | (with_reducible exact LeO.refl _)
      | (with_reducible exact LeO.none _)
      | (with_reducible refine LeO.ite ?_ ?_)
      | (with_reducible refine LeO.bind ?_ (fun _ => ?_))
      | exact ih0 _ _ _ _
      | exact ih1 _ _ _ _
      | exact ih2 _ _ _ _ _ _ _ _
      | exact rosetteref15_Big.mono _ _ _
      | exact rosetteref15_Right.mono _ _ _
      | exact LeO.none _
      | refine LeO.ite ?_ ?_
      | refine LeO.bind ?_ (fun _ => ?_)
def rosetteref15_Encode.T14 : Bool × List (List Nat × List Nat) := (true, [([], []), ([], []), ([1], [1]), ([2], [2]), ([0, 3, 3], [0, 3]), ([], []), ([5], [5]), ([6, 4], [6]), ([4, 7, 7], [4, 7]), ([8, 8, 0, 1, 2, 3, 4, 5, 6, 7, 8], [0, 8])])
def rosetteref15_Encode.B14 : List Nat := [0, 0, 2, 6, 15, 0, 32, 127, 255, 511]
theorem rosetteref15_Encode.tab14 : rtab .any (opsOf Try.f11 14) = rosetteref15_Encode.T14 := by kernel_rfl
theorem rosetteref15_Encode.bits14 : waitsOk rosetteref15_Encode.T14.2 rosetteref15_Encode.B14 = true := by kernel_rfl
def rosetteref15_Encode.T21 : Bool × List (List Nat × List Nat) := (true, [([], []), ([], []), ([1], [1]), ([], []), ([2, 3], [2, 3]), ([4], [4]), ([5], [5]), ([6], [6]), ([0, 7, 7], [0, 7]), ([], []), ([9], [9]), ([], []), ([10, 11], [10, 11]), ([12], [12]), ([13], [13]), ([14, 8], [14]), ([8, 15, 15], [8, 15]), ([16, 16, 0, 1, 2, 3, 4, 5, 6, 7, 8, 9, 10, 11, 12, 13, 14, 15, 16], [0, 16])])
def rosetteref15_Encode.B21 : List Nat := [0, 0, 2, 0, 14, 30, 62, 126, 255, 0, 512, 0, 3584, 7680, 15872, 32767, 65535, 131071]
theorem rosetteref15_Encode.tab21 : rtab .any (opsOf Try.f11 21) = rosetteref15_Encode.T21 := by kernel_rfl
theorem rosetteref15_Encode.bits21 : waitsOk rosetteref15_Encode.T21.2 rosetteref15_Encode.B21 = true := by kernel_rfl
set_option maxHeartbeats 8000000 in
set_option maxRecDepth 100000 in
theorem rosetteref15_Encode.calls (k : Nat) (A0_0 : Option Addr) (c0_0 : Nat) (l0_0 : List Int) (A0_1 : Option Addr) (c0_1 : Nat) (l0_1 : List (S40)) (r1 : List Int) (r2 : Bool) (w : World) (hr0_0 : Kd.C (Kd.int .i64) w A0_0 l0_0.length l0_0) (hc0_0 : l0_0.length ≤ c0_0) (hr0_1 : Kd.C k40 w A0_1 l0_1.length l0_1) (hc0_1 : l0_1.length ≤ c0_1) (h : rosetteref15_Encode.f k l0_0 l0_1 = some (r1, r2)) :
    Calls Try.prog 11 #[.agg #[.slice A0_0 l0_0.length c0_0, .slice A0_1 l0_1.length c0_1]] w fun e w' => ∃ v0_ : Value, e = .returned (.tuple #[v0_, .bool r2]) ∧ Kd.R (Kd.int .u8) 5 w' w.heap.size (fun _ => True) v0_ r1 ∧ Below w.heap.size w w' := by
  have hu25 := Try.underlying25
  have hu40 := Try.underlying40
  have HR0_0 := Aside0.mk hr0_0
  have HC0_0 := Aside0.mk hc0_0
  clear hr0_0 hc0_0
  have HR0_1 := Aside0.mk hr0_1
  have HC0_1 := Aside0.mk hc0_1
  clear hr0_1 hc0_1
  have HB := Aside0.mk (Below.refl w.heap.size w)
  have H : ((rosetteref15_Right.f k l0_0 l0_1).bind fun t165 => (if t165 = true then (rosetteref15_Encode.l0 k (([82, 83, 84, 1, ((l0_0.length : Int)) % 256] : List Int)) 0 l0_0 l0_1) else (some (([] : List Int), false)))) = some (r1, r2) := h
  clear h
  replace H := Option.bind_eq_some_iff.mp H
  obtain ⟨t165, A20, H⟩ := H
  replace H : (if t165 = true then (rosetteref15_Encode.l0 k (([82, 83, 84, 1, ((l0_0.length : Int)) % 256] : List Int)) 0 l0_0 l0_1) else (some (([] : List Int), false))) = some (r1, r2) := H
  have A2 := Aside0.mk A20
  clear A20
  by_cases c3 : t165 = true
  · subst c3
    have H1 : (rosetteref15_Encode.l0 k (([82, 83, 84, 1, ((l0_0.length : Int)) % 256] : List Int)) 0 l0_0 l0_1) = some (r1, r2) := by rw [if_pos rfl] at H; exact H
    clear H
    have H := H1
    clear H1
    obtain ⟨y166, hy166⟩ : ∃ y_ : List Int, y_ = (([82, 83, 84, 1, ((l0_0.length : Int)) % 256] : List Int)) := ⟨_, rfl⟩
    replace H : (rosetteref15_Encode.l0 k y166 0 l0_0 l0_1) = some (r1, r2) := by first | (rw [hy166]; with_reducible exact H) | (have H2_ := (Option.bind_some _ _).symm.trans H; rw [hy166]; with_reducible exact H2_) | (have H2_ := (Option.bind_some _ _).symm.trans H; with_reducible exact H2_) | with_reducible exact H | (rw [hy166]; exact H) | exact H
    have Ny166 := Aside0.mk hy166
    clear hy166
    have H' := Aside0.mk H
    clear H
    go_enter Try.func11, Try.ntmps11
    go_wp2_with (first | ((with_reducible refine gate_dst (N := 1) rfl ?_); refine box_event ?hg (N := 1) ?hd (cs := #[.slice A0_0 l0_0.length c0_0, .slice A0_1 l0_1.length c0_1]) (t := 25) ?hr ?_; (case hd => rfl); (case hg => rfl); (case hr => first | (go_simp; done) | (go_simp; rfl)); intro gb164 hg w4 hbox hb; have n0_ := Aside0.mk (below_step (by repeat (first | (with_reducible first | exact HB.out | apply below_alloc | apply pw_below_drewN | apply below_drew1) | exact HB.out)) hb); have n1_ := Aside0.mk (hbox); have n2_ := Aside0.mk ((by rw [hg]; exact (below_size (by repeat (first | (with_reducible first | exact HB.out | apply below_alloc | apply pw_below_drewN | apply below_drew1) | exact HB.out))) : w.heap.size ≤ gb164)); have n3_ := Aside0.mk ((by rw [hg]; exact (below_size (by repeat (first | (with_reducible first | exact HB.out | apply below_alloc | apply pw_below_drewN | apply below_drew1) | exact HB.out))) : w.heap.size ≤ gb164)); clear HB; have HB := n0_; have BK164 := n1_; have GW164 := n2_; have GE164 := n3_; clear n0_ n1_ n2_ n3_; clear hb hbox hg; have hcz5_0 : w4.cell? ⟨gb164, 0, none⟩ = some (.slice A0_0 l0_0.length c0_0) := (blk_cell BK164.out 0).trans rfl; have hcz5_1 : w4.cell? ⟨gb164, 1, none⟩ = some (.slice A0_1 l0_1.length c0_1) := (blk_cell BK164.out 1).trans rfl; have hfz5_0 := blk_frozen BK164.out 0; have hfz5_1 := blk_frozen BK164.out 1) | ((with_reducible refine gate_callee (f := 16) rfl ?_); refine goesL_ (some 11) rfl rfl Try.func16 (by kernel_rfl) rfl #[.agg #[.slice A0_0 l0_0.length c0_0, .slice A0_1 l0_1.length c0_1]] rfl (by (try simp only [List.map_toArray, List.map_cons, List.map_nil]); first | done | rfl | (simp only [List.length_drop, List.length_take]; rfl)) ?_; (with_reducible refine (rosetteref15_Right.calls k _ _ l0_0 _ _ l0_1 true _ ?side1 ?side2 ?side3 ?side4 A2.out).mono ?_); (case side1 => repeat (first | exact (Kd.C_below HR0_0.out HB.out) | (with_reducible refine Kd.C_alloc ?_ _) | (with_reducible refine Kd.C_drewN ?_ _) | (with_reducible refine Kd.C_drew ?_))); (case side2 => exact HC0_0.out); (case side3 => repeat (first | exact (Kd.C_below HR0_1.out HB.out) | (with_reducible refine Kd.C_alloc ?_ _) | (with_reducible refine Kd.C_drewN ?_ _) | (with_reducible refine Kd.C_drew ?_))); (case side4 => exact HC0_1.out); rintro e w6 ⟨rfl, hb⟩; refine ⟨_, rfl, ?_⟩; have n0_ := Aside0.mk (blk_below (g := gb164) (o := .cells #[.slice A0_0 l0_0.length c0_0, .slice A0_1 l0_1.length c0_1] 25 (0, 0)) (by (with_reducible repeat (first | refine blk_drewN ?_ _ | refine blk_drew ?_ | refine blk_alloc ?_ _)); exact BK164.out) hb); have n1_ := Aside0.mk (below_step (by repeat (first | (with_reducible first | exact HB.out | apply below_alloc | apply pw_below_drewN | apply below_drew1 | refine below_set ?_ GE164.out) | exact HB.out)) hb); clear BK164; clear HB; have BK164 := n0_; have HB := n1_; clear n0_ n1_; (try clear hb); (try clear hb2); (try clear hk); (try clear hi); have hcz7_0 : w6.cell? ⟨gb164, 0, none⟩ = some (.slice A0_0 l0_0.length c0_0) := (blk_cell BK164.out 0).trans rfl; have hcz7_1 : w6.cell? ⟨gb164, 1, none⟩ = some (.slice A0_1 l0_1.length c0_1) := (blk_cell BK164.out 1).trans rfl; have hfz7_0 := blk_frozen BK164.out 0; have hfz7_1 := blk_frozen BK164.out 1) | ((with_reducible refine gate_dst (N := 18) rfl ?_); refine Kd.R_lit (Kd.int .u8) _ 5 ?hg (N := 18) ?hd (xs := ([82, 83, 84, 1, ((l0_0.length : Int)) % 256] : List Int)) (inner := [.int .u8 82, .int .u8 83, .int .u8 84, .int .u8 1, .int .u8 (((l0_0.length : Int)) % 256)]) (ok := fun _ => True) (okp := fun _ => True) ?hr ?hp (fun _ hk => hk) trivial (Below.refl _ _) (Nat.le_refl _) (by simp) ?_; (case hd => rfl); (case hg => rfl); (case hr => first | (go_simp; done) | (go_simp; rfl)); (case hp => exact (Reps.one (show Kd.M (Kd.int .u8) _ _ _ 82 [.int .u8 82] from rfl) (Reps.one (show Kd.M (Kd.int .u8) _ _ _ 83 [.int .u8 83] from rfl) (Reps.one (show Kd.M (Kd.int .u8) _ _ _ 84 [.int .u8 84] from rfl) (Reps.one (show Kd.M (Kd.int .u8) _ _ _ 1 [.int .u8 1] from rfl) (Reps.one (show Kd.M (Kd.int .u8) _ _ _ (((l0_0.length : Int)) % 256) [.int .u8 (((l0_0.length : Int)) % 256)] from rfl) (Reps.none _ _))))))); intro v167 w8 ho9 hb hg_ hnew_; clear hg_ hnew_; (first | rw [← Ny166.out] at ho9 | (simp only [Int.reduceToNat] at ho9; rw [← Ny166.out] at ho9)); have n0_ := Aside0.mk (Kd.R_lower ho9 (below_size (by repeat (first | (with_reducible first | exact HB.out | apply below_alloc | apply pw_below_drewN | apply below_drew1 | refine below_set ?_ GE164.out) | exact HB.out)))); have n1_ := Aside0.mk (blk_below (g := gb164) (o := .cells #[.slice A0_0 l0_0.length c0_0, .slice A0_1 l0_1.length c0_1] 25 (0, 0)) (by (with_reducible repeat (first | refine blk_drewN ?_ _ | refine blk_drew ?_ | refine blk_alloc ?_ _)); exact BK164.out) hb); have n2_ := Aside0.mk (below_step (by repeat (first | (with_reducible first | exact HB.out | apply below_alloc | apply pw_below_drewN | apply below_drew1 | refine below_set ?_ GE164.out) | exact HB.out)) hb); clear BK164; clear HB; have HO168 := n0_; have BK164 := n1_; have HB := n2_; clear n0_ n1_ n2_; clear hb ho9))
    go_loopg [5, 6] k (fun kq v5 v6 w' => ∃ (x5_1 : List Int) (x6_1 : Int), v6 = .int .i64 x6_1 ∧ Aside0 (rosetteref15_Encode.l0 kq x5_1 x6_1 l0_0 l0_1 = some (r1, r2)) ∧ Aside0 (kq ≤ k) ∧ Aside0 (Kd.R (Kd.int .u8) 5 w' w.heap.size (fun _ => True) v5 x5_1) ∧ Aside0 (w'.heap[gb164]? = some (.cells #[(.slice A0_0 l0_0.length c0_0), (.slice A0_1 l0_1.length c0_1)] 25 (0, 0))) ∧ Aside0 (Below w.heap.size w w'))
    case atStart => exact ⟨(y166), (0), (by first | rfl | (simp; done) | (simp [*]; done)), H', ⟨Nat.le_refl _⟩, ⟨by (with_reducible repeat (first | apply Kd.R_alloc | apply Kd.R_drewN | apply Kd.R_drew)); exact HO168.out⟩, ⟨by (with_reducible repeat (first | refine blk_drewN ?_ _ | refine blk_drew ?_ | refine blk_alloc ?_ _)); exact BK164.out⟩, ⟨by repeat (first | (with_reducible first | exact HB.out | apply below_alloc | apply pw_below_drewN | apply below_drew1 | refine below_set ?_ GE164.out) | exact HB.out)⟩⟩
    case round =>
      clear H'
      try clear c1
      try clear p2
      try clear c3
      try clear hcz5_0
      try clear hcz5_1
      try clear hcz7_0
      try clear hcz7_1
      try clear hfz5_0
      try clear hfz5_1
      try clear hfz7_0
      try clear hfz7_1
      obtain ⟨x5_1, x6_1, rfl, HA, HK1, HO_5, BK164, HB⟩ := hrel
      cases gk with
      | zero => exact absurd HA.out (by simp [rosetteref15_Encode.l0])
      | succ k1 =>
        have H := HA.out
        clear HA
        simp only [rosetteref15_Encode.l0] at H
        by_cases c10 : x6_1 < (l0_0.length : Int)
        · rw [if_pos c10] at H
          have c10b0 : decide (x6_1 < (l0_0.length : Int)) = true := decide_eq_true c10
          clear c10
          by_cases c11 : 0 ≤ x6_1
          · rw [if_pos c11] at H
            have c11b0 : decide (0 ≤ x6_1) = true := decide_eq_true c11
            clear c11
            replace H := Option.bind_eq_some_iff.mp H
            obtain ⟨t170, A120, H⟩ := H
            replace H : (if x5_1.length + t170.length < 140737488355328 then (rosetteref15_Encode.l0 k1 (x5_1 ++ t170) (wrap64 (x6_1 + 1)) l0_0 l0_1) else (none)) = some (r1, r2) := H
            have A12 := Aside0.mk A120
            clear A120
            by_cases c13 : x5_1.length + t170.length < 140737488355328
            · rw [if_pos c13] at H
              have LMc13 := Aside0.mk c13
              clear c13
              obtain ⟨y173, hy173⟩ : ∃ y_ : List Int, y_ = (x5_1 ++ t170) := ⟨_, rfl⟩
              replace H : (rosetteref15_Encode.l0 k1 y173 (wrap64 (x6_1 + 1)) l0_0 l0_1) = some (r1, r2) := by first | (rw [hy173]; with_reducible exact H) | (have H2_ := (Option.bind_some _ _).symm.trans H; rw [hy173]; with_reducible exact H2_) | (have H2_ := (Option.bind_some _ _).symm.trans H; with_reducible exact H2_) | with_reducible exact H | (rw [hy173]; exact H) | exact H
              have Ny173 := Aside0.mk hy173
              clear hy173
              have H' := Aside0.mk H
              clear H
              have hcz14_0 : wr.cell? ⟨gb164, 0, none⟩ = some (.slice A0_0 l0_0.length c0_0) := (blk_cell BK164.out 0).trans rfl
              have hcz14_1 : wr.cell? ⟨gb164, 1, none⟩ = some (.slice A0_1 l0_1.length c0_1) := (blk_cell BK164.out 1).trans rfl
              have hfz14_0 := blk_frozen BK164.out 0
              have hfz14_1 := blk_frozen BK164.out 1
              have p169 : 0 ≤ (x6_1 : Int) := of_decide_eq_true (by first | (with_reducible assumption) | assumption)
              have q169 : x6_1 < (l0_0.length : Int) := of_decide_eq_true (by first | (with_reducible assumption) | assumption)
              obtain ⟨ad169, e169, hx169_0⟩ := Kd.at_int HR0_0.out x6_1 p169 q169
              cases e169
              replace hx169_0 := (HB.out.cell (World.block_lt_of_cell? w _ hx169_0)).trans hx169_0
              replace p169 := eq_true p169
              replace q169 := eq_true q169
              go_wp2_with (first | ((with_reducible refine gate_callee (f := 25) rfl ?_); refine goesL_ (some 32) rfl rfl Try.func25 (by kernel_rfl) rfl #[.int .i64 (rd l0_0 x6_1), .int .i64 2] rfl (by (try simp only [List.map_toArray, List.map_cons, List.map_nil]); first | done | rfl | (simp only [List.length_drop, List.length_take]; rfl)) ?_; (with_reducible refine (rosetteref15_Big.calls k1 (rd l0_0 x6_1) 2 t170 _ A12.out).mono ?_); rintro e w15 ⟨v171, rfl, ho0, hb⟩; refine ⟨_, rfl, ?_⟩; have n0_ := Aside0.mk (Kd.R_elder' (by (with_reducible repeat (first | apply Kd.R_alloc | apply Kd.R_drewN | apply Kd.R_drew)); exact HO_5.out) (Kd.R_base ho0) hb); have n1_ := Aside0.mk (Kd.R_lower (Kd.R_new' ho0 (Kd.R_lt (by (with_reducible repeat (first | apply Kd.R_alloc | apply Kd.R_drewN | apply Kd.R_drew)); exact HO_5.out))) (below_size (by repeat (first | (with_reducible first | exact HB.out | apply below_alloc | apply pw_below_drewN | apply below_drew1 | refine below_set ?_ GE164.out) | exact HB.out)))); have n2_ := Aside0.mk (blk_below (g := gb164) (o := .cells #[.slice (some ad169) l0_0.length c0_0, .slice A0_1 l0_1.length c0_1] 25 (0, 0)) (by (with_reducible repeat (first | refine blk_drewN ?_ _ | refine blk_drew ?_ | refine blk_alloc ?_ _)); exact BK164.out) hb); have n3_ := Aside0.mk (below_step (by repeat (first | (with_reducible first | exact HB.out | apply below_alloc | apply pw_below_drewN | apply below_drew1 | refine below_set ?_ GE164.out) | exact HB.out)) hb); clear HO_5; clear BK164; clear HB; have HO_5 := n0_; have HO172 := n1_; have BK164 := n2_; have HB := n3_; clear n0_ n1_ n2_ n3_; (try clear hb); (try clear hb2); (try clear hk); (try clear hi); (try clear ho0); obtain ⟨Ao17, co17, eo17⟩ := Kd.R_slice HO172.out; subst eo17) | ((with_reducible refine gate_builtin (b := .append) (xs := #[.tmp 26, .tmp 32]) rfl ?_); at_builtin; refine Kd.R_append_rows (Kd.int .u8) (w0 := w) w.heap.size rfl (.tmp 26) (.tmp 32) 26 5 (.int .u8 0) 1 rfl Try.underlying26 info5 rfl (by decide) (by decide) u5 x5_1 t170 _ _ _ (fun k_ => some k_ ≠ (.slice Ao17 t170.length co17 : Value).ownBlock) (fun _ => False) rfl rfl ?aO ?aR (fun _ _ h => h) (fun _ h => h.elim) ?aF ?aB ?aS ?aL ?_; (case aR => repeat (first | exact (Kd.R_reads' HO172.out).2.2 | (with_reducible refine Kd.C_alloc ?_ _) | (with_reducible refine Kd.C_drewN ?_ _) | (with_reducible refine Kd.C_drew ?_))); (case aB => exact (by repeat (first | (with_reducible first | exact HB.out | apply below_alloc | apply pw_below_drewN | apply below_drew1 | refine below_set ?_ GE164.out) | exact HB.out))); (case aF => exact (fun k_ hk => Kd.fresh' (Kd.R_lt (by (with_reducible repeat (first | apply Kd.R_alloc | apply Kd.R_drewN | apply Kd.R_drew)); exact HO172.out)) k_ hk)); (case aO => exact (by (with_reducible repeat (first | apply Kd.R_alloc | apply Kd.R_drewN | apply Kd.R_drew)); exact Kd.R_mono HO_5.out (fun _ hk => hk.2))); (case aS => exact (below_size (by repeat (first | (with_reducible first | exact HB.out | apply below_alloc | apply pw_below_drewN | apply below_drew1 | refine below_set ?_ GE164.out) | exact HB.out)))); (case aL => have := LMc13.out; omega); intro v174 w16 ho hb hg hat; rw [← Ny173.out] at ho; have n0_ := Aside0.mk (blk_grown (g := gb164) (o := .cells #[.slice (some ad169) l0_0.length c0_0, .slice A0_1 l0_1.length c0_1] 25 (0, 0)) (by (with_reducible repeat (first | refine blk_drewN ?_ _ | refine blk_drew ?_ | refine blk_alloc ?_ _)); exact BK164.out) hg (Kd.R_ne HO_5.out BK164.out (by decide))); have n1_ := Aside0.mk (Kd.R_after (ok := (fun _ => True)) (by (with_reducible repeat (first | apply Kd.R_alloc | apply Kd.R_drewN | apply Kd.R_drew)); exact HO172.out) hg hat); have n2_ := Aside0.mk (hb); have n3_ := Aside0.mk (ho); clear BK164; clear HO172; clear HB; clear HO_5; have BK164 := n0_; have HO172 := n1_; have HB := n2_; have HO175 := n3_; clear n0_ n1_ n2_ n3_; clear ho hb hg hat))
              go_roundg k1
              case measure => have := HK1.out; omega
              case rel => exact ⟨(y173), (wrap64 (x6_1 + 1)), (by first | rfl | (simp; done) | (simp [*]; done)), H', ⟨by have := HK1.out; omega⟩, ⟨by (with_reducible repeat (first | apply Kd.R_alloc | apply Kd.R_drewN | apply Kd.R_drew)); exact Kd.R_mono HO175.out (fun _ hk => trivial)⟩, ⟨by (with_reducible repeat (first | refine blk_drewN ?_ _ | refine blk_drew ?_ | refine blk_alloc ?_ _)); exact BK164.out⟩, ⟨by repeat (first | (with_reducible first | exact HB.out | apply below_alloc | apply pw_below_drewN | apply below_drew1 | refine below_set ?_ GE164.out) | exact HB.out)⟩⟩
            · rw [if_neg c13] at H
              exact absurd H (by simp)
          · rw [if_neg c11] at H
            exact absurd H (by simp)
        · rw [if_neg c10] at H
          have c10b0 : decide (x6_1 < (l0_0.length : Int)) = false := decide_eq_false c10
          clear c10
          by_cases c18 : x5_1.length < 140737488355328
          · rw [if_pos c18] at H
            have LMc18 := Aside0.mk c18
            clear c18
            obtain ⟨y176, hy176⟩ : ∃ y_ : List Int, y_ = (x5_1 ++ [((l0_1.length : Int)) % 256]) := ⟨_, rfl⟩
            replace H : (rosetteref15_Encode.l1 k1 y176 0 l0_0 l0_1) = some (r1, r2) := by first | (rw [hy176]; with_reducible exact H) | (have H2_ := (Option.bind_some _ _).symm.trans H; rw [hy176]; with_reducible exact H2_) | (have H2_ := (Option.bind_some _ _).symm.trans H; with_reducible exact H2_) | with_reducible exact H | (rw [hy176]; exact H) | exact H
            have Ny176 := Aside0.mk hy176
            clear hy176
            have H' := Aside0.mk H
            clear H
            have hcz19_0 : wr.cell? ⟨gb164, 0, none⟩ = some (.slice A0_0 l0_0.length c0_0) := (blk_cell BK164.out 0).trans rfl
            have hcz19_1 : wr.cell? ⟨gb164, 1, none⟩ = some (.slice A0_1 l0_1.length c0_1) := (blk_cell BK164.out 1).trans rfl
            have hfz19_0 := blk_frozen BK164.out 0
            have hfz19_1 := blk_frozen BK164.out 1
            go_wp2_with (first | ((with_reducible refine gate_builtin (b := .append) (xs := #[.tmp 34, .tmp 39]) rfl ?_); at_builtin; refine Kd.R_append (Kd.int .u8) (w0 := w) w.heap.size rfl (.tmp 34) (.tmp 39) 26 5 (.int .u8 0) 1 rfl Try.underlying26 info5 rfl (by decide) (by decide) u5 x5_1 (((l0_1.length : Int)) % 256) [.int .u8 (((l0_1.length : Int)) % 256)] (fun _ => True) (fun _ => False) rfl rfl ?aP (fun _ hk => hk.elim) ?aF ?aO ?aB ?aS ?aL ?_; (case aP => exact rfl); (case aB => exact (by repeat (first | (with_reducible first | exact HB.out | apply below_alloc | apply pw_below_drewN | apply below_drew1 | refine below_set ?_ GE164.out) | exact HB.out))); (case aF => exact (fun _ _ => trivial)); (case aO => exact (by (with_reducible repeat (first | apply Kd.R_alloc | apply Kd.R_drewN | apply Kd.R_drew)); exact HO_5.out)); (case aS => exact (below_size (by repeat (first | (with_reducible first | exact HB.out | apply below_alloc | apply pw_below_drewN | apply below_drew1 | refine below_set ?_ GE164.out) | exact HB.out)))); (case aL => have := LMc18.out; omega); intro v177 w20 ho hb hg hat; rw [← Ny176.out] at ho; have n0_ := Aside0.mk (blk_grown (g := gb164) (o := .cells #[.slice A0_0 l0_0.length c0_0, .slice A0_1 l0_1.length c0_1] 25 (0, 0)) (by (with_reducible repeat (first | refine blk_drewN ?_ _ | refine blk_drew ?_ | refine blk_alloc ?_ _)); exact BK164.out) hg (Kd.R_ne HO_5.out BK164.out (by decide))); have n1_ := Aside0.mk (hb); have n2_ := Aside0.mk (ho); clear BK164; clear HB; clear HO_5; have BK164 := n0_; have HB := n1_; have HO178 := n2_; clear n0_ n1_ n2_; clear ho hb hg hat))
            go_loopg [5, 7] k1 (fun kq v5 v7 w' => ∃ (x5_2 : List Int) (x7_2 : Int), v7 = .int .i64 x7_2 ∧ Aside0 (rosetteref15_Encode.l1 kq x5_2 x7_2 l0_0 l0_1 = some (r1, r2)) ∧ Aside0 (kq ≤ k1) ∧ Aside0 (Kd.R (Kd.int .u8) 5 w' w.heap.size (fun _ => True) v5 x5_2) ∧ Aside0 (w'.heap[gb164]? = some (.cells #[(.slice A0_0 l0_0.length c0_0), (.slice A0_1 l0_1.length c0_1)] 25 (0, 0))) ∧ Aside0 (Below w.heap.size w w'))
            case atStart => exact ⟨(y176), (0), (by first | rfl | (simp; done) | (simp [*]; done)), H', ⟨Nat.le_refl _⟩, ⟨by (with_reducible repeat (first | apply Kd.R_alloc | apply Kd.R_drewN | apply Kd.R_drew)); exact HO178.out⟩, ⟨by (with_reducible repeat (first | refine blk_drewN ?_ _ | refine blk_drew ?_ | refine blk_alloc ?_ _)); exact BK164.out⟩, ⟨by repeat (first | (with_reducible first | exact HB.out | apply below_alloc | apply pw_below_drewN | apply below_drew1 | refine below_set ?_ GE164.out) | exact HB.out)⟩⟩
            case round =>
              clear H'
              try clear c1
              try clear p1
              try clear q1
              try clear hx1
              try clear c2
              try clear p2
              try clear c3
              try clear p6
              try clear c10
              try clear c10b0
              try clear c11
              try clear c11b0
              try clear c13
              try clear c16
              try clear p16
              try clear q16
              try clear hx16
              try clear c18
              try clear hcz14_0
              try clear hcz14_1
              try clear hcz19_0
              try clear hcz19_1
              try clear hcz5_0
              try clear hcz5_1
              try clear hcz7_0
              try clear hcz7_1
              try clear hfz14_0
              try clear hfz14_1
              try clear hfz19_0
              try clear hfz19_1
              try clear hfz5_0
              try clear hfz5_1
              try clear hfz7_0
              try clear hfz7_1
              try clear hx169_0
              try clear p169
              try clear p2
              try clear q169
              obtain ⟨x5_2, x7_2, rfl, HA, HK2, HO_5, BK164, HB⟩ := hrel
              cases gk with
              | zero => exact absurd HA.out (by simp [rosetteref15_Encode.l1])
              | succ k2 =>
                have H := HA.out
                clear HA
                simp only [rosetteref15_Encode.l1] at H
                by_cases c21 : x7_2 < (l0_1.length : Int)
                · rw [if_pos c21] at H
                  have c21b0 : decide (x7_2 < (l0_1.length : Int)) = true := decide_eq_true c21
                  clear c21
                  by_cases c22 : 0 ≤ x7_2
                  · rw [if_pos c22] at H
                    have c22b0 : decide (0 ≤ x7_2) = true := decide_eq_true c22
                    clear c22
                    replace H := Option.bind_eq_some_iff.mp H
                    obtain ⟨t181, A230, H⟩ := H
                    replace H : (if x5_2.length + t181.length < 140737488355328 then ((some (x5_2 ++ t181 : List Int)).bind fun y184 => ((rosetteref15_Big.f k2 ((rd_T40 l0_1 x7_2).f1) 2).bind fun t187 => (if y184.length + t187.length < 140737488355328 then ((some (y184 ++ t187 : List Int)).bind fun y190 => (if y190.length < 140737488355328 then (rosetteref15_Encode.l2 k2 (y190 ++ [((((rd_T40 l0_1 x7_2).f2).length : Int)) % 256]) x7_2 0 l0_0 l0_1 ((rd_T40 l0_1 x7_2).f0) ((rd_T40 l0_1 x7_2).f1) ((rd_T40 l0_1 x7_2).f2)) else (none))) else (none)))) else (none)) = some (r1, r2) := H
                    have A23 := Aside0.mk A230
                    clear A230
                    by_cases c24 : x5_2.length + t181.length < 140737488355328
                    · rw [if_pos c24] at H
                      have LMc24 := Aside0.mk c24
                      clear c24
                      obtain ⟨y184, hy184⟩ : ∃ y_ : List Int, y_ = (x5_2 ++ t181) := ⟨_, rfl⟩
                      replace H : ((rosetteref15_Big.f k2 ((rd_T40 l0_1 x7_2).f1) 2).bind fun t187 => (if y184.length + t187.length < 140737488355328 then ((some (y184 ++ t187 : List Int)).bind fun y190 => (if y190.length < 140737488355328 then (rosetteref15_Encode.l2 k2 (y190 ++ [((((rd_T40 l0_1 x7_2).f2).length : Int)) % 256]) x7_2 0 l0_0 l0_1 ((rd_T40 l0_1 x7_2).f0) ((rd_T40 l0_1 x7_2).f1) ((rd_T40 l0_1 x7_2).f2)) else (none))) else (none))) = some (r1, r2) := by first | (rw [hy184]; with_reducible exact H) | (have H2_ := (Option.bind_some _ _).symm.trans H; rw [hy184]; with_reducible exact H2_) | (have H2_ := (Option.bind_some _ _).symm.trans H; with_reducible exact H2_) | with_reducible exact H | (rw [hy184]; exact H) | exact H
                      have Ny184 := Aside0.mk hy184
                      clear hy184
                      replace H := Option.bind_eq_some_iff.mp H
                      obtain ⟨t187, A250, H⟩ := H
                      replace H : (if y184.length + t187.length < 140737488355328 then ((some (y184 ++ t187 : List Int)).bind fun y190 => (if y190.length < 140737488355328 then (rosetteref15_Encode.l2 k2 (y190 ++ [((((rd_T40 l0_1 x7_2).f2).length : Int)) % 256]) x7_2 0 l0_0 l0_1 ((rd_T40 l0_1 x7_2).f0) ((rd_T40 l0_1 x7_2).f1) ((rd_T40 l0_1 x7_2).f2)) else (none))) else (none)) = some (r1, r2) := H
                      have A25 := Aside0.mk A250
                      clear A250
                      by_cases c26 : y184.length + t187.length < 140737488355328
                      · rw [if_pos c26] at H
                        have LMc26 := Aside0.mk c26
                        clear c26
                        obtain ⟨y190, hy190⟩ : ∃ y_ : List Int, y_ = (y184 ++ t187) := ⟨_, rfl⟩
                        replace H : (if y190.length < 140737488355328 then (rosetteref15_Encode.l2 k2 (y190 ++ [((((rd_T40 l0_1 x7_2).f2).length : Int)) % 256]) x7_2 0 l0_0 l0_1 ((rd_T40 l0_1 x7_2).f0) ((rd_T40 l0_1 x7_2).f1) ((rd_T40 l0_1 x7_2).f2)) else (none)) = some (r1, r2) := by first | (rw [hy190]; with_reducible exact H) | (have H2_ := (Option.bind_some _ _).symm.trans H; rw [hy190]; with_reducible exact H2_) | (have H2_ := (Option.bind_some _ _).symm.trans H; with_reducible exact H2_) | with_reducible exact H | (rw [hy190]; exact H) | exact H
                        have Ny190 := Aside0.mk hy190
                        clear hy190
                        by_cases c27 : y190.length < 140737488355328
                        · rw [if_pos c27] at H
                          have LMc27 := Aside0.mk c27
                          clear c27
                          obtain ⟨y193, hy193⟩ : ∃ y_ : List Int, y_ = (y190 ++ [((((rd_T40 l0_1 x7_2).f2).length : Int)) % 256]) := ⟨_, rfl⟩
                          replace H : (rosetteref15_Encode.l2 k2 y193 x7_2 0 l0_0 l0_1 ((rd_T40 l0_1 x7_2).f0) ((rd_T40 l0_1 x7_2).f1) ((rd_T40 l0_1 x7_2).f2)) = some (r1, r2) := by first | (rw [hy193]; with_reducible exact H) | (have H2_ := (Option.bind_some _ _).symm.trans H; rw [hy193]; with_reducible exact H2_) | (have H2_ := (Option.bind_some _ _).symm.trans H; with_reducible exact H2_) | with_reducible exact H | (rw [hy193]; exact H) | exact H
                          have Ny193 := Aside0.mk hy193
                          clear hy193
                          have H' := Aside0.mk H
                          clear H
                          have hcz28_0 : wr.cell? ⟨gb164, 0, none⟩ = some (.slice A0_0 l0_0.length c0_0) := (blk_cell BK164.out 0).trans rfl
                          have hcz28_1 : wr.cell? ⟨gb164, 1, none⟩ = some (.slice A0_1 l0_1.length c0_1) := (blk_cell BK164.out 1).trans rfl
                          have hfz28_0 := blk_frozen BK164.out 0
                          have hfz28_1 := blk_frozen BK164.out 1
                          have p179 : 0 ≤ (x7_2 : Int) := of_decide_eq_true (by first | (with_reducible assumption) | assumption)
                          have q179 : x7_2 < (l0_1.length : Int) := of_decide_eq_true (by first | (with_reducible assumption) | assumption)
                          obtain ⟨ad179, A179_2, c179_2, e179, hx179_0, hx179_1, hx179_2, hl179_2, hi179_2⟩ := at_T40 HR0_1.out x7_2 p179 q179
                          cases e179
                          replace hx179_0 := (HB.out.cell (World.block_lt_of_cell? w _ hx179_0)).trans hx179_0
                          replace hx179_1 := (HB.out.cell (World.block_lt_of_cell? w _ hx179_1)).trans hx179_1
                          replace hx179_2 := (HB.out.cell (World.block_lt_of_cell? w _ hx179_2)).trans hx179_2
                          have HR179_2 := Aside0.mk hi179_2
                          have HC179_2 := Aside0.mk hl179_2
                          clear hi179_2 hl179_2
                          replace p179 := eq_true p179
                          replace q179 := eq_true q179
                          try go_wp2_with (first | ((with_reducible refine gate_dst (N := 8) rfl ?_); refine box_event ?hg (N := 8) ?hd (cs := #[.int .i64 0, .int .i64 0, .slice none 0 0]) (t := 40) ?hr ?_; (case hd => rfl); (case hg => rfl); (case hr => first | (go_simp; done) | (go_simp; rfl)); intro gb180 hg w29 hbox hb; have n0_ := Aside0.mk (Kd.R_below (by (with_reducible repeat (first | apply Kd.R_alloc | apply Kd.R_drewN | apply Kd.R_drew)); exact HO_5.out) hb); have n1_ := Aside0.mk (blk_below (g := gb164) (o := .cells #[.slice A0_0 l0_0.length c0_0, .slice (some ad179) l0_1.length c0_1] 25 (0, 0)) (by (with_reducible repeat (first | refine blk_drewN ?_ _ | refine blk_drew ?_ | refine blk_alloc ?_ _)); exact BK164.out) hb); have n2_ := Aside0.mk (below_step (by repeat (first | (with_reducible first | exact HB.out | apply below_alloc | apply pw_below_drewN | apply below_drew1 | refine below_set ?_ GE164.out) | exact HB.out)) hb); have n3_ := Aside0.mk (hbox); have n4_ := Aside0.mk ((by rw [hg]; exact (below_size (by repeat (first | (with_reducible first | exact HB.out | apply below_alloc | apply pw_below_drewN | apply below_drew1 | refine below_set ?_ GE164.out) | exact HB.out))) : w.heap.size ≤ gb180)); have n5_ := Aside0.mk ((by rw [hg]; exact (below_size (by repeat (first | (with_reducible first | exact HB.out | apply below_alloc | apply pw_below_drewN | apply below_drew1 | refine below_set ?_ GE164.out) | exact HB.out))) : w.heap.size ≤ gb180)); have n6_ := Aside0.mk ((by rw [hg]; exact Nat.ne_of_lt (blk_lt (g := gb164) (o := .cells #[.slice A0_0 l0_0.length c0_0, .slice (some ad179) l0_1.length c0_1] 25 (0, 0)) (by (with_reducible repeat (first | refine blk_drewN ?_ _ | refine blk_drew ?_ | refine blk_alloc ?_ _)); exact BK164.out)) : gb164 ≠ gb180)); have n7_ := Aside0.mk ((by rw [hg]; exact Nat.ne_of_gt (blk_lt (g := gb164) (o := .cells #[.slice A0_0 l0_0.length c0_0, .slice (some ad179) l0_1.length c0_1] 25 (0, 0)) (by (with_reducible repeat (first | refine blk_drewN ?_ _ | refine blk_drew ?_ | refine blk_alloc ?_ _)); exact BK164.out)) : gb180 ≠ gb164)); clear HO_5; clear BK164; clear HB; have HO_5 := n0_; have BK164 := n1_; have HB := n2_; have BK180 := n3_; have GW180 := n4_; have GE180 := n5_; have NB164_180 := n6_; have NB180_164 := n7_; clear n0_ n1_ n2_ n3_ n4_ n5_ n6_ n7_; clear hb hbox hg; have hnb30 := NB180_164.out; have hnc30 := NB164_180.out; have hcz31_0 : w29.cell? ⟨gb180, 0, none⟩ = some (.int .i64 0) := (blk_cell BK180.out 0).trans rfl; have hcz31_1 : w29.cell? ⟨gb180, 1, none⟩ = some (.int .i64 0) := (blk_cell BK180.out 1).trans rfl; have hcz31_2 : w29.cell? ⟨gb180, 2, none⟩ = some (.slice none 0 0) := (blk_cell BK180.out 2).trans rfl; have hfz31_0 := blk_frozen BK180.out 0; have hfz31_1 := blk_frozen BK180.out 1; have hfz31_2 := blk_frozen BK180.out 2))
                          have n0_ : Aside0 (Kd.R (Kd.int .u8) 5 (((w29.setCell ⟨gb180, 0, none⟩ (.int .i64 ((rd_T40 l0_1 x7_2).f0))).setCell ⟨gb180, 1, none⟩ (.int .i64 ((rd_T40 l0_1 x7_2).f1))).setCell ⟨gb180, 2, none⟩ (.slice A179_2 ((rd_T40 l0_1 x7_2).f2).length c179_2)) w.heap.size (fun _ => True) u5 x5_2) := ⟨by (with_reducible repeat (first | apply Kd.R_alloc | apply Kd.R_drewN | apply Kd.R_drew)); exact Kd.R_mono (Kd.R_far (p := ⟨gb180, 2, none⟩) (Kd.R_far (p := ⟨gb180, 1, none⟩) (Kd.R_far (p := ⟨gb180, 0, none⟩) (Kd.R_types HO_5.out BK180.out (by decide)) (fun _ hk => hk.2) (.int .i64 ((rd_T40 l0_1 x7_2).f0))) (fun _ hk => hk.2) (.int .i64 ((rd_T40 l0_1 x7_2).f1))) (fun _ hk => hk.2) (.slice A179_2 ((rd_T40 l0_1 x7_2).f2).length c179_2)) (fun _ hk => trivial)⟩
                          have n1_ : Aside0 ((((w29.setCell ⟨gb180, 0, none⟩ (.int .i64 ((rd_T40 l0_1 x7_2).f0))).setCell ⟨gb180, 1, none⟩ (.int .i64 ((rd_T40 l0_1 x7_2).f1))).setCell ⟨gb180, 2, none⟩ (.slice A179_2 ((rd_T40 l0_1 x7_2).f2).length c179_2)).heap[gb164]? = some (.cells #[.slice A0_0 l0_0.length c0_0, .slice (some ad179) l0_1.length c0_1] 25 (0, 0))) := ⟨by (with_reducible repeat (first | refine blk_drewN ?_ _ | refine blk_drew ?_ | refine blk_alloc ?_ _)); refine blk_far ?_ NB164_180.out _; (with_reducible repeat (first | refine blk_drewN ?_ _ | refine blk_drew ?_ | refine blk_alloc ?_ _)); refine blk_far ?_ NB164_180.out _; (with_reducible repeat (first | refine blk_drewN ?_ _ | refine blk_drew ?_ | refine blk_alloc ?_ _)); refine blk_far ?_ NB164_180.out _; (with_reducible repeat (first | refine blk_drewN ?_ _ | refine blk_drew ?_ | refine blk_alloc ?_ _)); exact BK164.out⟩
                          have n2_ : Aside0 ((((w29.setCell ⟨gb180, 0, none⟩ (.int .i64 ((rd_T40 l0_1 x7_2).f0))).setCell ⟨gb180, 1, none⟩ (.int .i64 ((rd_T40 l0_1 x7_2).f1))).setCell ⟨gb180, 2, none⟩ (.slice A179_2 ((rd_T40 l0_1 x7_2).f2).length c179_2)).heap[gb180]? = some (.cells #[.int .i64 ((rd_T40 l0_1 x7_2).f0), .int .i64 ((rd_T40 l0_1 x7_2).f1), .slice A179_2 ((rd_T40 l0_1 x7_2).f2).length c179_2] 40 (0, 0))) := ⟨by (with_reducible repeat (first | refine blk_drewN ?_ _ | refine blk_drew ?_ | refine blk_alloc ?_ _)); refine blk_put (cs := #[.int .i64 ((rd_T40 l0_1 x7_2).f0), .int .i64 ((rd_T40 l0_1 x7_2).f1), .slice none 0 0]) ?_ 2 _ rfl; (with_reducible repeat (first | refine blk_drewN ?_ _ | refine blk_drew ?_ | refine blk_alloc ?_ _)); refine blk_put (cs := #[.int .i64 ((rd_T40 l0_1 x7_2).f0), .int .i64 0, .slice none 0 0]) ?_ 1 _ rfl; (with_reducible repeat (first | refine blk_drewN ?_ _ | refine blk_drew ?_ | refine blk_alloc ?_ _)); refine blk_put (cs := #[.int .i64 0, .int .i64 0, .slice none 0 0]) ?_ 0 _ rfl; (with_reducible repeat (first | refine blk_drewN ?_ _ | refine blk_drew ?_ | refine blk_alloc ?_ _)); exact BK180.out⟩
                          have n3_ : Aside0 (Below w.heap.size w (((w29.setCell ⟨gb180, 0, none⟩ (.int .i64 ((rd_T40 l0_1 x7_2).f0))).setCell ⟨gb180, 1, none⟩ (.int .i64 ((rd_T40 l0_1 x7_2).f1))).setCell ⟨gb180, 2, none⟩ (.slice A179_2 ((rd_T40 l0_1 x7_2).f2).length c179_2))) := ⟨by repeat (first | (with_reducible first | exact HB.out | apply below_alloc | apply pw_below_drewN | apply below_drew1 | refine below_set ?_ GE164.out | refine below_set ?_ GE180.out) | exact HB.out)⟩
                          (try clear HO_5)
                          (try clear BK164)
                          (try clear BK180)
                          (try clear HB)
                          generalize (((w29.setCell ⟨gb180, 0, none⟩ (.int .i64 ((rd_T40 l0_1 x7_2).f0))).setCell ⟨gb180, 1, none⟩ (.int .i64 ((rd_T40 l0_1 x7_2).f1))).setCell ⟨gb180, 2, none⟩ (.slice A179_2 ((rd_T40 l0_1 x7_2).f2).length c179_2)) = w32 at n0_ n1_ n2_ n3_ ⊢
                          have HO_5 := n0_
                          have BK164 := n1_
                          have BK180 := n2_
                          have HB := n3_
                          clear n0_ n1_ n2_ n3_
                          have n0_ := Aside0.mk (Kd.R_drew HO_5.out)
                          have n1_ := Aside0.mk (blk_drew BK164.out)
                          have n2_ := Aside0.mk (blk_drew BK180.out)
                          have n3_ := Aside0.mk (below_drew1 HB.out)
                          clear HO_5
                          clear BK164
                          clear BK180
                          clear HB
                          have HO_5 := n0_
                          have BK164 := n1_
                          have BK180 := n2_
                          have HB := n3_
                          clear n0_ n1_ n2_ n3_
                          refine start_ (n := 10) (S := fun w' => w'.cell? ⟨gb180, 0, none⟩ = some (.int .i64 ((rd_T40 l0_1 x7_2).f0)) ∧ w'.cell? ⟨gb180, 1, none⟩ = some (.int .i64 ((rd_T40 l0_1 x7_2).f1)) ∧ w'.cell? ⟨gb180, 2, none⟩ = some (.slice A179_2 ((rd_T40 l0_1 x7_2).f2).length c179_2)) (ds := []) #[false, false, false, false, false, false, false, false, false, false] (by kernel_rfl) rfl rfl ⟨(blk_cell BK180.out 0).trans rfl, (blk_cell BK180.out 1).trans rfl, (blk_cell BK180.out 2).trans rfl⟩ (fun hHeld => ?_); refine with_tabW rosetteref15_Encode.tab14 rosetteref15_Encode.bits14 (fun HT_ HW_ => ?_)
                          generalize w32.drew = w33 at HO_5 BK164 BK180 HB hHeld ⊢
                          refine pure_ (i := 0) (N := some 53) (v := ?_) (a' := ?_) #[true, false, false, false, false, false, false, false, false, false] rfl rfl (any_of HT_.out (by kernel_rfl)) (fun _ _ _ h => h) (Or.inl ⟨by rfl, ?_⟩) ?_ ?_
                          rotate_left
                          · intro w'
                            go_simp
                            with_reducible rfl
                          rotate_left
                          · simp only [Act.put, List.setIfInBounds_toArray, List.set_cons_zero, List.set_cons_succ, i64_w, i32_w]
                            rfl
                          refine pure_ (i := 1) (N := some 54) (v := ?_) (a' := ?_) #[true, true, false, false, false, false, false, false, false, false] rfl rfl (any_of HT_.out (by kernel_rfl)) (fun _ _ _ h => h) (Or.inl ⟨by rfl, ?_⟩) ?_ ?_
                          rotate_left
                          · intro w'
                            go_simp
                            with_reducible rfl
                          rotate_left
                          · simp only [Act.put, List.setIfInBounds_toArray, List.set_cons_zero, List.set_cons_succ, i64_w, i32_w]
                            rfl
                          refine pure_ (i := 5) (N := some 58) (v := ?_) (a' := ?_) #[true, true, false, false, false, true, false, false, false, false] rfl rfl (any_of HT_.out (by kernel_rfl)) (fun _ _ _ h => h) (Or.inl ⟨by rfl, ?_⟩) ?_ ?_
                          rotate_left
                          · intro w'
                            go_simp
                            with_reducible rfl
                          rotate_left
                          · simp only [Act.put, List.setIfInBounds_toArray, List.set_cons_zero, List.set_cons_succ, i64_w, i32_w]
                            rfl
                          refine take_ (i := 2) (N := some 55) (v := ?_) (a' := ?_) #[true, true, true, false, false, true, false, false, false, false] rfl rfl (take_ofW HT_.out HW_.out (by kernel_rfl)) (fun _ _ _ h => h) (Or.inl ⟨by rfl, ?_⟩) hHeld ?_ ?_
                          rotate_left
                          · rintro w' ⟨s0, s1, s2⟩
                            go_simp
                            with_reducible rfl
                          rotate_left
                          · simp only [Act.put, List.setIfInBounds_toArray, List.set_cons_zero, List.set_cons_succ, i64_w, i32_w]
                            rfl
                          refine take_ (i := 6) (N := some 59) (v := ?_) (a' := ?_) #[true, true, true, false, false, true, true, false, false, false] rfl rfl (take_ofW HT_.out HW_.out (by kernel_rfl)) (fun _ _ _ h => h) (Or.inl ⟨by rfl, ?_⟩) hHeld ?_ ?_
                          rotate_left
                          · rintro w' ⟨s0, s1, s2⟩
                            go_simp
                            with_reducible rfl
                          rotate_left
                          · simp only [Act.put, List.setIfInBounds_toArray, List.set_cons_zero, List.set_cons_succ, i64_w, i32_w]
                            rfl
                          refine one_ (i := 3) (N := some 56) #[true, true, true, true, false, true, true, false, false, false] rfl rfl (one_of HT_.out (by kernel_rfl)) (by decide) (fun K hK => ?_)
                          refine goes_ Try.func25 (by kernel_rfl) rfl #[.int .i64 ((rd_T40 l0_1 x7_2).f0), .int .i64 2] (by rfl) rfl rfl (by (try simp only [List.map_toArray, List.map_cons, List.map_nil]); first | done | rfl | (simp only [List.length_drop, List.length_take]; rfl)) ?_
                          with_reducible refine (rosetteref15_Big.calls k2 ((rd_T40 l0_1 x7_2).f0) 2 t181 _ A23.out).mono ?_
                          rintro e w34 ⟨v182, rfl, ho0, hb⟩
                          refine ⟨_, rfl, ?_⟩
                          have n0_ := Aside0.mk (Kd.R_elder' (by (with_reducible repeat (first | apply Kd.R_alloc | apply Kd.R_drewN | apply Kd.R_drew)); exact HO_5.out) (Kd.R_base ho0) hb)
                          have n1_ := Aside0.mk (Kd.R_lower (Kd.R_new' ho0 (Kd.R_lt (by (with_reducible repeat (first | apply Kd.R_alloc | apply Kd.R_drewN | apply Kd.R_drew)); exact HO_5.out))) (below_size (by repeat (first | (with_reducible first | exact HB.out | apply below_alloc | apply pw_below_drewN | apply below_drew1 | refine below_set ?_ GE164.out | refine below_set ?_ GE180.out) | exact HB.out))))
                          have n2_ := Aside0.mk (blk_below (g := gb164) (o := .cells #[.slice A0_0 l0_0.length c0_0, .slice (some ad179) l0_1.length c0_1] 25 (0, 0)) (by (with_reducible repeat (first | refine blk_drewN ?_ _ | refine blk_drew ?_ | refine blk_alloc ?_ _)); exact BK164.out) hb)
                          have n3_ := Aside0.mk (blk_below (g := gb180) (o := .cells #[.int .i64 ((rd_T40 l0_1 x7_2).f0), .int .i64 ((rd_T40 l0_1 x7_2).f1), .slice A179_2 ((rd_T40 l0_1 x7_2).f2).length c179_2] 40 (0, 0)) (by (with_reducible repeat (first | refine blk_drewN ?_ _ | refine blk_drew ?_ | refine blk_alloc ?_ _)); exact BK180.out) hb)
                          have n4_ := Aside0.mk (below_step (by repeat (first | (with_reducible first | exact HB.out | apply below_alloc | apply pw_below_drewN | apply below_drew1 | refine below_set ?_ GE164.out | refine below_set ?_ GE180.out) | exact HB.out)) hb)
                          clear HO_5
                          clear BK164
                          clear BK180
                          clear HB
                          have HO_5 := n0_
                          have HO183 := n1_
                          have BK164 := n2_
                          have BK180 := n3_
                          have HB := n4_
                          clear n0_ n1_ n2_ n3_ n4_
                          (try clear hb)
                          (try clear hb2)
                          (try clear hk)
                          (try clear hi)
                          (try clear ho0)
                          obtain ⟨Ao36, co36, eo36⟩ := Kd.R_slice HO183.out
                          (first | subst eo36 | (injection eo36 with f1_ f2_ f3_; have f4_ := f1_.symm; have f5_ := f3_.symm; clear f1_ f2_ f3_; subst f4_; subst f5_))
                          refine hK.out _ _ ⟨(blk_cell BK180.out 0).trans rfl, (blk_cell BK180.out 1).trans rfl, (blk_cell BK180.out 2).trans rfl⟩ (fun hHeld => ?_)
                          clear hK K
                          refine norm_ (a' := ?_) ?_ ?_
                          rotate_left
                          · show Act.put _ (some 56) _ = _
                            simp only [Act.put, List.setIfInBounds_toArray, List.set_cons_zero, List.set_cons_succ, i64_w, i32_w]
                            rfl
                          refine one_ (i := 4) (N := some 57) #[true, true, true, true, true, true, true, false, false, false] rfl rfl (one_of HT_.out (by kernel_rfl)) (by decide) (fun K hK => ?_)
                          refine Kd.R_append_rows_step (Kd.int .u8) (w0 := w) w.heap.size (by rfl) (.tmp 53) (.tmp 56) 26 5 (.int .u8 0) 1 rfl Try.underlying26 info5 rfl (by decide) (by decide) u5 x5_2 t181 _ _ _ (fun k_ => some k_ ≠ (.slice Ao36 t181.length co36 : Value).ownBlock) (fun _ => False) rfl rfl ?aO ?aR (fun _ _ h => h) (fun _ h => h.elim) ?aF ?aB ?aS ?aL ?_
                          (case aR => repeat (first | exact (Kd.R_reads' HO183.out).2.2 | (with_reducible refine Kd.C_alloc ?_ _) | (with_reducible refine Kd.C_drewN ?_ _) | (with_reducible refine Kd.C_drew ?_)))
                          (case aB => exact (by repeat (first | (with_reducible first | exact HB.out | apply below_alloc | apply pw_below_drewN | apply below_drew1 | refine below_set ?_ GE164.out | refine below_set ?_ GE180.out) | exact HB.out)))
                          (case aF => exact (fun k_ hk => Kd.fresh' (Kd.R_lt (by (with_reducible repeat (first | apply Kd.R_alloc | apply Kd.R_drewN | apply Kd.R_drew)); exact HO183.out)) k_ hk))
                          (case aO => exact (by (with_reducible repeat (first | apply Kd.R_alloc | apply Kd.R_drewN | apply Kd.R_drew)); exact Kd.R_mono HO_5.out (fun _ hk => hk.2)))
                          (case aS => exact (below_size (by repeat (first | (with_reducible first | exact HB.out | apply below_alloc | apply pw_below_drewN | apply below_drew1 | refine below_set ?_ GE164.out | refine below_set ?_ GE180.out) | exact HB.out))))
                          (case aL => have := LMc24.out; omega)
                          intro v185 w35 ho hb hg hat
                          rw [← Ny184.out] at ho
                          have n0_ := Aside0.mk (blk_grown (g := gb164) (o := .cells #[.slice A0_0 l0_0.length c0_0, .slice (some ad179) l0_1.length c0_1] 25 (0, 0)) (by (with_reducible repeat (first | refine blk_drewN ?_ _ | refine blk_drew ?_ | refine blk_alloc ?_ _)); exact BK164.out) hg (Kd.R_ne HO_5.out BK164.out (by decide)))
                          have n1_ := Aside0.mk (blk_grown (g := gb180) (o := .cells #[.int .i64 ((rd_T40 l0_1 x7_2).f0), .int .i64 ((rd_T40 l0_1 x7_2).f1), .slice A179_2 ((rd_T40 l0_1 x7_2).f2).length c179_2] 40 (0, 0)) (by (with_reducible repeat (first | refine blk_drewN ?_ _ | refine blk_drew ?_ | refine blk_alloc ?_ _)); exact BK180.out) hg (Kd.R_ne HO_5.out BK180.out (by decide)))
                          have n2_ := Aside0.mk (Kd.R_after (ok := (fun _ => True)) (by (with_reducible repeat (first | apply Kd.R_alloc | apply Kd.R_drewN | apply Kd.R_drew)); exact HO183.out) hg hat)
                          have n3_ := Aside0.mk (hb)
                          have n4_ := Aside0.mk (ho)
                          clear BK164
                          clear BK180
                          clear HO183
                          clear HB
                          clear HO_5
                          have BK164 := n0_
                          have BK180 := n1_
                          have HO183 := n2_
                          have HB := n3_
                          have HO186 := n4_
                          clear n0_ n1_ n2_ n3_ n4_
                          clear ho hb hg hat
                          refine hK.out _ _ ⟨(blk_cell BK180.out 0).trans rfl, (blk_cell BK180.out 1).trans rfl, (blk_cell BK180.out 2).trans rfl⟩ (fun hHeld => ?_)
                          clear hK K
                          refine norm_ (a' := ?_) ?_ ?_
                          rotate_left
                          · show Act.put _ (some 57) _ = _
                            simp only [Act.put, List.setIfInBounds_toArray, List.set_cons_zero, List.set_cons_succ, i64_w, i32_w]
                            rfl
                          refine one_ (i := 7) (N := some 60) #[true, true, true, true, true, true, true, true, false, false] rfl rfl (one_of HT_.out (by kernel_rfl)) (by decide) (fun K hK => ?_)
                          refine goes_ Try.func25 (by kernel_rfl) rfl #[.int .i64 ((rd_T40 l0_1 x7_2).f1), .int .i64 2] (by rfl) rfl rfl (by (try simp only [List.map_toArray, List.map_cons, List.map_nil]); first | done | rfl | (simp only [List.length_drop, List.length_take]; rfl)) ?_
                          with_reducible refine (rosetteref15_Big.calls k2 ((rd_T40 l0_1 x7_2).f1) 2 t187 _ A25.out).mono ?_
                          rintro e w37 ⟨v188, rfl, ho0, hb⟩
                          refine ⟨_, rfl, ?_⟩
                          have n0_ := Aside0.mk (Kd.R_elder' (by (with_reducible repeat (first | apply Kd.R_alloc | apply Kd.R_drewN | apply Kd.R_drew)); exact HO183.out) (Kd.R_base ho0) hb)
                          have n1_ := Aside0.mk (Kd.R_elder' (by (with_reducible repeat (first | apply Kd.R_alloc | apply Kd.R_drewN | apply Kd.R_drew)); exact HO186.out) (Kd.R_base ho0) hb)
                          have n2_ := Aside0.mk (Kd.R_lower (Kd.R_new' (Kd.R_new' ho0 (Kd.R_lt (by (with_reducible repeat (first | apply Kd.R_alloc | apply Kd.R_drewN | apply Kd.R_drew)); exact HO183.out))) (Kd.R_lt (by (with_reducible repeat (first | apply Kd.R_alloc | apply Kd.R_drewN | apply Kd.R_drew)); exact HO186.out))) (below_size (by repeat (first | (with_reducible first | exact HB.out | apply below_alloc | apply pw_below_drewN | apply below_drew1 | refine below_set ?_ GE164.out | refine below_set ?_ GE180.out) | exact HB.out))))
                          have n3_ := Aside0.mk (blk_below (g := gb164) (o := .cells #[.slice A0_0 l0_0.length c0_0, .slice (some ad179) l0_1.length c0_1] 25 (0, 0)) (by (with_reducible repeat (first | refine blk_drewN ?_ _ | refine blk_drew ?_ | refine blk_alloc ?_ _)); exact BK164.out) hb)
                          have n4_ := Aside0.mk (blk_below (g := gb180) (o := .cells #[.int .i64 ((rd_T40 l0_1 x7_2).f0), .int .i64 ((rd_T40 l0_1 x7_2).f1), .slice A179_2 ((rd_T40 l0_1 x7_2).f2).length c179_2] 40 (0, 0)) (by (with_reducible repeat (first | refine blk_drewN ?_ _ | refine blk_drew ?_ | refine blk_alloc ?_ _)); exact BK180.out) hb)
                          have n5_ := Aside0.mk (below_step (by repeat (first | (with_reducible first | exact HB.out | apply below_alloc | apply pw_below_drewN | apply below_drew1 | refine below_set ?_ GE164.out | refine below_set ?_ GE180.out) | exact HB.out)) hb)
                          clear HO183
                          clear HO186
                          clear BK164
                          clear BK180
                          clear HB
                          have HO183 := n0_
                          have HO186 := n1_
                          have HO189 := n2_
                          have BK164 := n3_
                          have BK180 := n4_
                          have HB := n5_
                          clear n0_ n1_ n2_ n3_ n4_ n5_
                          (try clear hb)
                          (try clear hb2)
                          (try clear hk)
                          (try clear hi)
                          (try clear ho0)
                          obtain ⟨Ao39, co39, eo39⟩ := Kd.R_slice HO189.out
                          (first | subst eo39 | (injection eo39 with f1_ f2_ f3_; have f4_ := f1_.symm; have f5_ := f3_.symm; clear f1_ f2_ f3_; subst f4_; subst f5_))
                          refine hK.out _ _ ⟨(blk_cell BK180.out 0).trans rfl, (blk_cell BK180.out 1).trans rfl, (blk_cell BK180.out 2).trans rfl⟩ (fun hHeld => ?_)
                          clear hK K
                          refine norm_ (a' := ?_) ?_ ?_
                          rotate_left
                          · show Act.put _ (some 60) _ = _
                            simp only [Act.put, List.setIfInBounds_toArray, List.set_cons_zero, List.set_cons_succ, i64_w, i32_w]
                            rfl
                          refine one_ (i := 8) (N := some 61) #[true, true, true, true, true, true, true, true, true, false] rfl rfl (one_of HT_.out (by kernel_rfl)) (by decide) (fun K hK => ?_)
                          refine Kd.R_append_rows_step (Kd.int .u8) (w0 := w) w.heap.size (by rfl) (.tmp 57) (.tmp 60) 26 5 (.int .u8 0) 1 rfl Try.underlying26 info5 rfl (by decide) (by decide) v185 y184 t187 _ _ _ (fun k_ => some k_ ≠ (.slice Ao36 t181.length co36 : Value).ownBlock ∧ some k_ ≠ (.slice Ao39 t187.length co39 : Value).ownBlock) (fun _ => False) rfl rfl ?aO ?aR (fun _ _ h => h) (fun _ h => h.elim) ?aF ?aB ?aS ?aL ?_
                          (case aR => repeat (first | exact (Kd.R_reads' HO189.out).2.2 | (with_reducible refine Kd.C_alloc ?_ _) | (with_reducible refine Kd.C_drewN ?_ _) | (with_reducible refine Kd.C_drew ?_)))
                          (case aB => exact (by repeat (first | (with_reducible first | exact HB.out | apply below_alloc | apply pw_below_drewN | apply below_drew1 | refine below_set ?_ GE164.out | refine below_set ?_ GE180.out) | exact HB.out)))
                          (case aF => exact (fun k_ hk => ⟨Kd.fresh' (Kd.R_lt (by (with_reducible repeat (first | apply Kd.R_alloc | apply Kd.R_drewN | apply Kd.R_drew)); exact HO183.out)) k_ hk, Kd.fresh' (Kd.R_lt (by (with_reducible repeat (first | apply Kd.R_alloc | apply Kd.R_drewN | apply Kd.R_drew)); exact HO189.out)) k_ hk⟩))
                          (case aO => exact (by (with_reducible repeat (first | apply Kd.R_alloc | apply Kd.R_drewN | apply Kd.R_drew)); exact HO186.out))
                          (case aS => exact (below_size (by repeat (first | (with_reducible first | exact HB.out | apply below_alloc | apply pw_below_drewN | apply below_drew1 | refine below_set ?_ GE164.out | refine below_set ?_ GE180.out) | exact HB.out))))
                          (case aL => have := LMc26.out; omega)
                          intro v191 w38 ho hb hg hat
                          rw [← Ny190.out] at ho
                          have n0_ := Aside0.mk (blk_grown (g := gb164) (o := .cells #[.slice A0_0 l0_0.length c0_0, .slice (some ad179) l0_1.length c0_1] 25 (0, 0)) (by (with_reducible repeat (first | refine blk_drewN ?_ _ | refine blk_drew ?_ | refine blk_alloc ?_ _)); exact BK164.out) hg (Kd.R_ne HO186.out BK164.out (by decide)))
                          have n1_ := Aside0.mk (blk_grown (g := gb180) (o := .cells #[.int .i64 ((rd_T40 l0_1 x7_2).f0), .int .i64 ((rd_T40 l0_1 x7_2).f1), .slice A179_2 ((rd_T40 l0_1 x7_2).f2).length c179_2] 40 (0, 0)) (by (with_reducible repeat (first | refine blk_drewN ?_ _ | refine blk_drew ?_ | refine blk_alloc ?_ _)); exact BK180.out) hg (Kd.R_ne HO186.out BK180.out (by decide)))
                          have n2_ := Aside0.mk (Kd.R_after (ok := (fun k_ => some k_ ≠ (.slice Ao39 t187.length co39 : Value).ownBlock)) (by (with_reducible repeat (first | apply Kd.R_alloc | apply Kd.R_drewN | apply Kd.R_drew)); exact Kd.R_mono HO183.out (fun _ hk => ⟨hk.2, hk.1.2⟩)) hg hat)
                          have n3_ := Aside0.mk (Kd.R_after (ok := (fun k_ => some k_ ≠ (.slice Ao36 t181.length co36 : Value).ownBlock)) (by (with_reducible repeat (first | apply Kd.R_alloc | apply Kd.R_drewN | apply Kd.R_drew)); exact Kd.R_mono HO189.out (fun _ hk => ⟨hk.1.2, hk.2⟩)) hg hat)
                          have n4_ := Aside0.mk (hb)
                          have n5_ := Aside0.mk (ho)
                          clear BK164
                          clear BK180
                          clear HO183
                          clear HO189
                          clear HB
                          clear HO186
                          have BK164 := n0_
                          have BK180 := n1_
                          have HO183 := n2_
                          have HO189 := n3_
                          have HB := n4_
                          have HO192 := n5_
                          clear n0_ n1_ n2_ n3_ n4_ n5_
                          clear ho hb hg hat
                          refine hK.out _ _ ⟨(blk_cell BK180.out 0).trans rfl, (blk_cell BK180.out 1).trans rfl, (blk_cell BK180.out 2).trans rfl⟩ (fun hHeld => ?_)
                          clear hK K
                          refine norm_ (a' := ?_) ?_ ?_
                          rotate_left
                          · show Act.put _ (some 61) _ = _
                            simp only [Act.put, List.setIfInBounds_toArray, List.set_cons_zero, List.set_cons_succ, i64_w, i32_w]
                            rfl
                          refine pure_ (i := 9) (N := some 5) (v := ?_) (a' := ?_) #[true, true, true, true, true, true, true, true, true, true] rfl rfl (any_of HT_.out (by kernel_rfl)) (fun _ _ _ h => h) (Or.inl ⟨by rfl, ?_⟩) ?_ ?_
                          rotate_left
                          · intro w'
                            go_simp
                            with_reducible rfl
                          rotate_left
                          · simp only [Act.put, List.setIfInBounds_toArray, List.set_cons_zero, List.set_cons_succ, i64_w, i32_w]
                            rfl
                          refine done_ (done_of HT_.out (by kernel_rfl)) ?_
                          have hcz40_0 : w38.cell? ⟨gb180, 0, none⟩ = some (.int .i64 ((rd_T40 l0_1 x7_2).f0)) := (blk_cell BK180.out 0).trans rfl
                          have hcz40_1 : w38.cell? ⟨gb180, 1, none⟩ = some (.int .i64 ((rd_T40 l0_1 x7_2).f1)) := (blk_cell BK180.out 1).trans rfl
                          have hcz40_2 : w38.cell? ⟨gb180, 2, none⟩ = some (.slice A179_2 ((rd_T40 l0_1 x7_2).f2).length c179_2) := (blk_cell BK180.out 2).trans rfl
                          have hfz40_0 := blk_frozen BK180.out 0
                          have hfz40_1 := blk_frozen BK180.out 1
                          have hfz40_2 := blk_frozen BK180.out 2
                          try go_wp2_with (first | ((with_reducible refine gate_builtin (b := .append) (xs := #[.tmp 62, .tmp 67]) rfl ?_); at_builtin; refine Kd.R_append (Kd.int .u8) (w0 := w) w.heap.size rfl (.tmp 62) (.tmp 67) 26 5 (.int .u8 0) 1 rfl Try.underlying26 info5 rfl (by decide) (by decide) v191 y190 (((((rd_T40 l0_1 x7_2).f2).length : Int)) % 256) [.int .u8 (((((rd_T40 l0_1 x7_2).f2).length : Int)) % 256)] (fun k_ => some k_ ≠ (.slice Ao36 t181.length co36 : Value).ownBlock ∧ some k_ ≠ (.slice Ao39 t187.length co39 : Value).ownBlock) (fun _ => False) rfl rfl ?aP (fun _ hk => hk.elim) ?aF ?aO ?aB ?aS ?aL ?_; (case aP => exact rfl); (case aB => exact (by repeat (first | (with_reducible first | exact HB.out | apply below_alloc | apply pw_below_drewN | apply below_drew1 | refine below_set ?_ GE164.out | refine below_set ?_ GE180.out) | exact HB.out))); (case aF => exact (fun k_ hk => ⟨Kd.fresh' (Kd.R_lt (by (with_reducible repeat (first | apply Kd.R_alloc | apply Kd.R_drewN | apply Kd.R_drew)); exact HO183.out)) k_ hk, Kd.fresh' (Kd.R_lt (by (with_reducible repeat (first | apply Kd.R_alloc | apply Kd.R_drewN | apply Kd.R_drew)); exact HO189.out)) k_ hk⟩)); (case aO => exact (by (with_reducible repeat (first | apply Kd.R_alloc | apply Kd.R_drewN | apply Kd.R_drew)); exact HO192.out)); (case aS => exact (below_size (by repeat (first | (with_reducible first | exact HB.out | apply below_alloc | apply pw_below_drewN | apply below_drew1 | refine below_set ?_ GE164.out | refine below_set ?_ GE180.out) | exact HB.out)))); (case aL => have := LMc27.out; omega); intro v194 w41 ho hb hg hat; rw [← Ny193.out] at ho; have n0_ := Aside0.mk (blk_grown (g := gb164) (o := .cells #[.slice A0_0 l0_0.length c0_0, .slice (some ad179) l0_1.length c0_1] 25 (0, 0)) (by (with_reducible repeat (first | refine blk_drewN ?_ _ | refine blk_drew ?_ | refine blk_alloc ?_ _)); exact BK164.out) hg (Kd.R_ne HO192.out BK164.out (by decide))); have n1_ := Aside0.mk (blk_grown (g := gb180) (o := .cells #[.int .i64 ((rd_T40 l0_1 x7_2).f0), .int .i64 ((rd_T40 l0_1 x7_2).f1), .slice A179_2 ((rd_T40 l0_1 x7_2).f2).length c179_2] 40 (0, 0)) (by (with_reducible repeat (first | refine blk_drewN ?_ _ | refine blk_drew ?_ | refine blk_alloc ?_ _)); exact BK180.out) hg (Kd.R_ne HO192.out BK180.out (by decide))); have n2_ := Aside0.mk (Kd.R_after (ok := (fun k_ => some k_ ≠ (.slice Ao39 t187.length co39 : Value).ownBlock)) (by (with_reducible repeat (first | apply Kd.R_alloc | apply Kd.R_drewN | apply Kd.R_drew)); exact HO183.out) hg hat); have n3_ := Aside0.mk (Kd.R_after (ok := (fun k_ => some k_ ≠ (.slice Ao36 t181.length co36 : Value).ownBlock)) (by (with_reducible repeat (first | apply Kd.R_alloc | apply Kd.R_drewN | apply Kd.R_drew)); exact HO189.out) hg hat); have n4_ := Aside0.mk (hb); have n5_ := Aside0.mk (ho); clear BK164; clear BK180; clear HO183; clear HO189; clear HB; clear HO192; have BK164 := n0_; have BK180 := n1_; have HO183 := n2_; have HO189 := n3_; have HB := n4_; have HO195 := n5_; clear n0_ n1_ n2_ n3_ n4_ n5_; clear ho hb hg hat))
                          go_loopg [5, 9] k2 (fun kq v5 v9 w' => ∃ (x5_3 : List Int) (x9_3 : Int), v9 = .int .i64 x9_3 ∧ Aside0 (rosetteref15_Encode.l2 kq x5_3 x7_2 x9_3 l0_0 l0_1 ((rd_T40 l0_1 x7_2).f0) ((rd_T40 l0_1 x7_2).f1) ((rd_T40 l0_1 x7_2).f2) = some (r1, r2)) ∧ Aside0 (kq ≤ k2) ∧ Aside0 (Kd.R (Kd.int .u8) 5 w' w.heap.size (fun _ => True) v5 x5_3) ∧ Aside0 (w'.heap[gb164]? = some (.cells #[(.slice A0_0 l0_0.length c0_0), (.slice (some ad179) l0_1.length c0_1)] 25 (0, 0))) ∧ Aside0 (w'.heap[gb180]? = some (.cells #[.int .i64 ((rd_T40 l0_1 x7_2).f0), .int .i64 ((rd_T40 l0_1 x7_2).f1), (.slice A179_2 ((rd_T40 l0_1 x7_2).f2).length c179_2)] 40 (0, 0))) ∧ Aside0 (Below w.heap.size w w'))
                          case atStart => exact ⟨(y193), (0), (by first | rfl | (simp; done) | (simp [*]; done)), H', ⟨Nat.le_refl _⟩, ⟨by (with_reducible repeat (first | apply Kd.R_alloc | apply Kd.R_drewN | apply Kd.R_drew)); exact Kd.R_mono HO195.out (fun _ hk => trivial)⟩, ⟨by (with_reducible repeat (first | refine blk_drewN ?_ _ | refine blk_drew ?_ | refine blk_alloc ?_ _)); exact BK164.out⟩, ⟨by (with_reducible repeat (first | refine blk_drewN ?_ _ | refine blk_drew ?_ | refine blk_alloc ?_ _)); exact BK180.out⟩, ⟨by repeat (first | (with_reducible first | exact HB.out | apply below_alloc | apply pw_below_drewN | apply below_drew1 | refine below_set ?_ GE164.out | refine below_set ?_ GE180.out) | exact HB.out)⟩⟩
                          case round =>
                            clear H'
                            try clear c1
                            try clear p1
                            try clear q1
                            try clear hx1
                            try clear c2
                            try clear p2
                            try clear c3
                            try clear p6
                            try clear c10
                            try clear c10b0
                            try clear c11
                            try clear c11b0
                            try clear c13
                            try clear c16
                            try clear p16
                            try clear q16
                            try clear hx16
                            try clear c17
                            try clear p17
                            try clear q17
                            try clear hx17
                            try clear c18
                            try clear c21
                            try clear c21b0
                            try clear c22
                            try clear c22b0
                            try clear c24
                            try clear c25
                            try clear c26
                            try clear c27
                            try clear c30
                            try clear hcz14_0
                            try clear hcz14_1
                            try clear hcz19_0
                            try clear hcz19_1
                            try clear hcz28_0
                            try clear hcz28_1
                            try clear hcz31_0
                            try clear hcz31_1
                            try clear hcz31_2
                            try clear hcz40_0
                            try clear hcz40_1
                            try clear hcz40_2
                            try clear hcz5_0
                            try clear hcz5_1
                            try clear hcz7_0
                            try clear hcz7_1
                            try clear hfz14_0
                            try clear hfz14_1
                            try clear hfz19_0
                            try clear hfz19_1
                            try clear hfz28_0
                            try clear hfz28_1
                            try clear hfz31_0
                            try clear hfz31_1
                            try clear hfz31_2
                            try clear hfz40_0
                            try clear hfz40_1
                            try clear hfz40_2
                            try clear hfz5_0
                            try clear hfz5_1
                            try clear hfz7_0
                            try clear hfz7_1
                            try clear hx169_0
                            try clear hx179_0
                            try clear hx179_1
                            try clear hx179_2
                            try clear p1
                            try clear p16
                            try clear p169
                            try clear p179
                            try clear p2
                            try clear p6
                            try clear q1
                            try clear q16
                            try clear q169
                            try clear q179
                            obtain ⟨x5_3, x9_3, rfl, HA, HK3, HO_5, BK164, BK180, HB⟩ := hrel
                            cases gk with
                            | zero => exact absurd HA.out (by simp [rosetteref15_Encode.l2])
                            | succ k3 =>
                              have H := HA.out
                              clear HA
                              simp only [rosetteref15_Encode.l2] at H
                              by_cases c42 : x9_3 < (((rd_T40 l0_1 x7_2).f2).length : Int)
                              · rw [if_pos c42] at H
                                have c42b0 : decide (x9_3 < (((rd_T40 l0_1 x7_2).f2).length : Int)) = true := decide_eq_true c42
                                clear c42
                                by_cases c43 : 0 ≤ x9_3
                                · rw [if_pos c43] at H
                                  have c43b0 : decide (0 ≤ x9_3) = true := decide_eq_true c43
                                  clear c43
                                  by_cases c44 : x5_3.length < 140737488355328
                                  · rw [if_pos c44] at H
                                    have LMc44 := Aside0.mk c44
                                    clear c44
                                    obtain ⟨y197, hy197⟩ : ∃ y_ : List Int, y_ = (x5_3 ++ [((((rd_T46 ((rd_T40 l0_1 x7_2).f2) x9_3).f0).size : Int)) % 256]) := ⟨_, rfl⟩
                                    replace H : (if y197.length + ((rd_T46 ((rd_T40 l0_1 x7_2).f2) x9_3).f0).size < 140737488355328 then ((some (y197 ++ bytesOf ((rd_T46 ((rd_T40 l0_1 x7_2).f2) x9_3).f0) : List Int)).bind fun y201 => ((rosetteref15_Big.f k3 ((rd_T46 ((rd_T40 l0_1 x7_2).f2) x9_3).f1) 4).bind fun t205 => (if y201.length + t205.length < 140737488355328 then ((some (y201 ++ t205 : List Int)).bind fun y208 => ((rosetteref15_Big.f k3 ((rd_T46 ((rd_T40 l0_1 x7_2).f2) x9_3).f2) 4).bind fun t212 => (if y208.length + t212.length < 140737488355328 then (rosetteref15_Encode.l2 k3 (y208 ++ t212) x7_2 (wrap64 (x9_3 + 1)) l0_0 l0_1 ((rd_T40 l0_1 x7_2).f0) ((rd_T40 l0_1 x7_2).f1) ((rd_T40 l0_1 x7_2).f2)) else (none)))) else (none)))) else (none)) = some (r1, r2) := by first | (rw [hy197]; with_reducible exact H) | (have H2_ := (Option.bind_some _ _).symm.trans H; rw [hy197]; with_reducible exact H2_) | (have H2_ := (Option.bind_some _ _).symm.trans H; with_reducible exact H2_) | with_reducible exact H | (rw [hy197]; exact H) | exact H
                                    have Ny197 := Aside0.mk hy197
                                    clear hy197
                                    by_cases c45 : y197.length + ((rd_T46 ((rd_T40 l0_1 x7_2).f2) x9_3).f0).size < 140737488355328
                                    · rw [if_pos c45] at H
                                      have LMc45 := Aside0.mk c45
                                      clear c45
                                      obtain ⟨y201, hy201⟩ : ∃ y_ : List Int, y_ = (y197 ++ bytesOf ((rd_T46 ((rd_T40 l0_1 x7_2).f2) x9_3).f0)) := ⟨_, rfl⟩
                                      replace H : ((rosetteref15_Big.f k3 ((rd_T46 ((rd_T40 l0_1 x7_2).f2) x9_3).f1) 4).bind fun t205 => (if y201.length + t205.length < 140737488355328 then ((some (y201 ++ t205 : List Int)).bind fun y208 => ((rosetteref15_Big.f k3 ((rd_T46 ((rd_T40 l0_1 x7_2).f2) x9_3).f2) 4).bind fun t212 => (if y208.length + t212.length < 140737488355328 then (rosetteref15_Encode.l2 k3 (y208 ++ t212) x7_2 (wrap64 (x9_3 + 1)) l0_0 l0_1 ((rd_T40 l0_1 x7_2).f0) ((rd_T40 l0_1 x7_2).f1) ((rd_T40 l0_1 x7_2).f2)) else (none)))) else (none))) = some (r1, r2) := by first | (rw [hy201]; with_reducible exact H) | (have H2_ := (Option.bind_some _ _).symm.trans H; rw [hy201]; with_reducible exact H2_) | (have H2_ := (Option.bind_some _ _).symm.trans H; with_reducible exact H2_) | with_reducible exact H | (rw [hy201]; exact H) | exact H
                                      have Ny201 := Aside0.mk hy201
                                      clear hy201
                                      replace H := Option.bind_eq_some_iff.mp H
                                      obtain ⟨t205, A460, H⟩ := H
                                      replace H : (if y201.length + t205.length < 140737488355328 then ((some (y201 ++ t205 : List Int)).bind fun y208 => ((rosetteref15_Big.f k3 ((rd_T46 ((rd_T40 l0_1 x7_2).f2) x9_3).f2) 4).bind fun t212 => (if y208.length + t212.length < 140737488355328 then (rosetteref15_Encode.l2 k3 (y208 ++ t212) x7_2 (wrap64 (x9_3 + 1)) l0_0 l0_1 ((rd_T40 l0_1 x7_2).f0) ((rd_T40 l0_1 x7_2).f1) ((rd_T40 l0_1 x7_2).f2)) else (none)))) else (none)) = some (r1, r2) := H
                                      have A46 := Aside0.mk A460
                                      clear A460
                                      by_cases c47 : y201.length + t205.length < 140737488355328
                                      · rw [if_pos c47] at H
                                        have LMc47 := Aside0.mk c47
                                        clear c47
                                        obtain ⟨y208, hy208⟩ : ∃ y_ : List Int, y_ = (y201 ++ t205) := ⟨_, rfl⟩
                                        replace H : ((rosetteref15_Big.f k3 ((rd_T46 ((rd_T40 l0_1 x7_2).f2) x9_3).f2) 4).bind fun t212 => (if y208.length + t212.length < 140737488355328 then (rosetteref15_Encode.l2 k3 (y208 ++ t212) x7_2 (wrap64 (x9_3 + 1)) l0_0 l0_1 ((rd_T40 l0_1 x7_2).f0) ((rd_T40 l0_1 x7_2).f1) ((rd_T40 l0_1 x7_2).f2)) else (none))) = some (r1, r2) := by first | (rw [hy208]; with_reducible exact H) | (have H2_ := (Option.bind_some _ _).symm.trans H; rw [hy208]; with_reducible exact H2_) | (have H2_ := (Option.bind_some _ _).symm.trans H; with_reducible exact H2_) | with_reducible exact H | (rw [hy208]; exact H) | exact H
                                        have Ny208 := Aside0.mk hy208
                                        clear hy208
                                        replace H := Option.bind_eq_some_iff.mp H
                                        obtain ⟨t212, A480, H⟩ := H
                                        replace H : (if y208.length + t212.length < 140737488355328 then (rosetteref15_Encode.l2 k3 (y208 ++ t212) x7_2 (wrap64 (x9_3 + 1)) l0_0 l0_1 ((rd_T40 l0_1 x7_2).f0) ((rd_T40 l0_1 x7_2).f1) ((rd_T40 l0_1 x7_2).f2)) else (none)) = some (r1, r2) := H
                                        have A48 := Aside0.mk A480
                                        clear A480
                                        by_cases c49 : y208.length + t212.length < 140737488355328
                                        · rw [if_pos c49] at H
                                          have LMc49 := Aside0.mk c49
                                          clear c49
                                          obtain ⟨y215, hy215⟩ : ∃ y_ : List Int, y_ = (y208 ++ t212) := ⟨_, rfl⟩
                                          replace H : (rosetteref15_Encode.l2 k3 y215 x7_2 (wrap64 (x9_3 + 1)) l0_0 l0_1 ((rd_T40 l0_1 x7_2).f0) ((rd_T40 l0_1 x7_2).f1) ((rd_T40 l0_1 x7_2).f2)) = some (r1, r2) := by first | (rw [hy215]; with_reducible exact H) | (have H2_ := (Option.bind_some _ _).symm.trans H; rw [hy215]; with_reducible exact H2_) | (have H2_ := (Option.bind_some _ _).symm.trans H; with_reducible exact H2_) | with_reducible exact H | (rw [hy215]; exact H) | exact H
                                          have Ny215 := Aside0.mk hy215
                                          clear hy215
                                          have H' := Aside0.mk H
                                          clear H
                                          have hnb50 := NB180_164.out
                                          have hnc50 := NB164_180.out
                                          have hcz51_0 : wr.cell? ⟨gb180, 0, none⟩ = some (.int .i64 ((rd_T40 l0_1 x7_2).f0)) := (blk_cell BK180.out 0).trans rfl
                                          have hcz51_1 : wr.cell? ⟨gb180, 1, none⟩ = some (.int .i64 ((rd_T40 l0_1 x7_2).f1)) := (blk_cell BK180.out 1).trans rfl
                                          have hcz51_2 : wr.cell? ⟨gb180, 2, none⟩ = some (.slice A179_2 ((rd_T40 l0_1 x7_2).f2).length c179_2) := (blk_cell BK180.out 2).trans rfl
                                          have hfz51_0 := blk_frozen BK180.out 0
                                          have hfz51_1 := blk_frozen BK180.out 1
                                          have hfz51_2 := blk_frozen BK180.out 2
                                          have p196 : 0 ≤ (x9_3 : Int) := of_decide_eq_true (by first | (with_reducible assumption) | assumption)
                                          have q196 : x9_3 < (((rd_T40 l0_1 x7_2).f2).length : Int) := of_decide_eq_true (by first | (with_reducible assumption) | assumption)
                                          obtain ⟨ad196, e196, hx196_0, hx196_1, hx196_2⟩ := at_T46 HR179_2.out x9_3 p196 q196
                                          cases e196
                                          replace hx196_0 := (HB.out.cell (World.block_lt_of_cell? w _ hx196_0)).trans hx196_0
                                          replace hx196_1 := (HB.out.cell (World.block_lt_of_cell? w _ hx196_1)).trans hx196_1
                                          replace hx196_2 := (HB.out.cell (World.block_lt_of_cell? w _ hx196_2)).trans hx196_2
                                          replace p196 := eq_true p196
                                          replace q196 := eq_true q196
                                          try go_wp2_with (first | ((with_reducible refine gate_builtin (b := .append) (xs := #[.tmp 76, .tmp 85]) rfl ?_); at_builtin; refine Kd.R_append (Kd.int .u8) (w0 := w) w.heap.size rfl (.tmp 76) (.tmp 85) 26 5 (.int .u8 0) 1 rfl Try.underlying26 info5 rfl (by decide) (by decide) u5 x5_3 (((((rd_T46 ((rd_T40 l0_1 x7_2).f2) x9_3).f0).size : Int)) % 256) [.int .u8 (((((rd_T46 ((rd_T40 l0_1 x7_2).f2) x9_3).f0).size : Int)) % 256)] (fun _ => True) (fun _ => False) rfl rfl ?aP (fun _ hk => hk.elim) ?aF ?aO ?aB ?aS ?aL ?_; (case aP => exact rfl); (case aB => exact (by repeat (first | (with_reducible first | exact HB.out | apply below_alloc | apply pw_below_drewN | apply below_drew1 | refine below_set ?_ GE164.out | refine below_set ?_ GE180.out) | exact HB.out))); (case aF => exact (fun _ _ => trivial)); (case aO => exact (by (with_reducible repeat (first | apply Kd.R_alloc | apply Kd.R_drewN | apply Kd.R_drew)); exact HO_5.out)); (case aS => exact (below_size (by repeat (first | (with_reducible first | exact HB.out | apply below_alloc | apply pw_below_drewN | apply below_drew1 | refine below_set ?_ GE164.out | refine below_set ?_ GE180.out) | exact HB.out)))); (case aL => have := LMc44.out; omega); intro v198 w52 ho hb hg hat; rw [← Ny197.out] at ho; have n0_ := Aside0.mk (blk_grown (g := gb164) (o := .cells #[.slice A0_0 l0_0.length c0_0, .slice (some ad179) l0_1.length c0_1] 25 (0, 0)) (by (with_reducible repeat (first | refine blk_drewN ?_ _ | refine blk_drew ?_ | refine blk_alloc ?_ _)); exact BK164.out) hg (Kd.R_ne HO_5.out BK164.out (by decide))); have n1_ := Aside0.mk (blk_grown (g := gb180) (o := .cells #[.int .i64 ((rd_T40 l0_1 x7_2).f0), .int .i64 ((rd_T40 l0_1 x7_2).f1), .slice (some ad196) ((rd_T40 l0_1 x7_2).f2).length c179_2] 40 (0, 0)) (by (with_reducible repeat (first | refine blk_drewN ?_ _ | refine blk_drew ?_ | refine blk_alloc ?_ _)); exact BK180.out) hg (Kd.R_ne HO_5.out BK180.out (by decide))); have n2_ := Aside0.mk (hb); have n3_ := Aside0.mk (ho); clear BK164; clear BK180; clear HB; clear HO_5; have BK164 := n0_; have BK180 := n1_; have HB := n2_; have HO199 := n3_; clear n0_ n1_ n2_ n3_; clear ho hb hg hat; have hcz53_0 : w52.cell? ⟨gb180, 0, none⟩ = some (.int .i64 ((rd_T40 l0_1 x7_2).f0)) := (blk_cell BK180.out 0).trans rfl; have hcz53_1 : w52.cell? ⟨gb180, 1, none⟩ = some (.int .i64 ((rd_T40 l0_1 x7_2).f1)) := (blk_cell BK180.out 1).trans rfl; have hcz53_2 : w52.cell? ⟨gb180, 2, none⟩ = some (.slice (some ad196) ((rd_T40 l0_1 x7_2).f2).length c179_2) := (blk_cell BK180.out 2).trans rfl; have hfz53_0 := blk_frozen BK180.out 0; have hfz53_1 := blk_frozen BK180.out 1; have hfz53_2 := blk_frozen BK180.out 2; have p200 : 0 ≤ (x9_3 : Int) := of_decide_eq_true (by first | (with_reducible assumption) | assumption); have q200 : x9_3 < (((rd_T40 l0_1 x7_2).f2).length : Int) := of_decide_eq_true (by first | (with_reducible assumption) | assumption); obtain ⟨ad200, e200, hx200_0, hx200_1, hx200_2⟩ := at_T46 HR179_2.out x9_3 p200 q200; obtain rfl : ad196 = ad200 := (by injection e200); replace hx200_0 := (HB.out.cell (World.block_lt_of_cell? w _ hx200_0)).trans hx200_0; replace hx200_1 := (HB.out.cell (World.block_lt_of_cell? w _ hx200_1)).trans hx200_1; replace hx200_2 := (HB.out.cell (World.block_lt_of_cell? w _ hx200_2)).trans hx200_2; replace p200 := eq_true p200; replace q200 := eq_true q200) | (at_builtin; refine print_append_str (w0 := w) w.heap.size rfl (.tmp 87) _ 26 9 5 rfl Try.underlying26 Try.underlying9 info5 v198 y197 ((rd_T46 ((rd_T40 l0_1 x7_2).f2) x9_3).f0) rfl rfl ?aO ?aB ?aS ?aL ?_; (case aB => exact (by repeat (first | (with_reducible first | exact HB.out | apply below_alloc | apply pw_below_drewN | apply below_drew1 | refine below_set ?_ GE164.out | refine below_set ?_ GE180.out) | exact HB.out))); (case aO => exact (Kd.own_of_R (by (with_reducible repeat (first | apply Kd.R_alloc | apply Kd.R_drewN | apply Kd.R_drew)); exact HO199.out))); (case aS => exact (below_size (by repeat (first | (with_reducible first | exact HB.out | apply below_alloc | apply pw_below_drewN | apply below_drew1 | refine below_set ?_ GE164.out | refine below_set ?_ GE180.out) | exact HB.out)))); (case aL => have := LMc45.out; omega); intro v202 w54 ho0 hb hg; have ho := Kd.R_of_own (h1 := fun _ => rfl) (ok := fun _ => True) ho0 (fun _ _ => trivial); clear ho0; have hat := True.intro; rw [← Ny201.out] at ho; change Kd.R (Kd.int .u8) 5 w54 w.heap.size (fun _ => True) v202 y201 at ho; have n0_ := Aside0.mk (blk_grown (g := gb164) (o := .cells #[.slice A0_0 l0_0.length c0_0, .slice (some ad179) l0_1.length c0_1] 25 (0, 0)) (by (with_reducible repeat (first | refine blk_drewN ?_ _ | refine blk_drew ?_ | refine blk_alloc ?_ _)); exact BK164.out) hg (Kd.R_ne HO199.out BK164.out (by decide))); have n1_ := Aside0.mk (blk_grown (g := gb180) (o := .cells #[.int .i64 ((rd_T40 l0_1 x7_2).f0), .int .i64 ((rd_T40 l0_1 x7_2).f1), .slice (some ad196) ((rd_T40 l0_1 x7_2).f2).length c179_2] 40 (0, 0)) (by (with_reducible repeat (first | refine blk_drewN ?_ _ | refine blk_drew ?_ | refine blk_alloc ?_ _)); exact BK180.out) hg (Kd.R_ne HO199.out BK180.out (by decide))); have n2_ := Aside0.mk (hb); have n3_ := Aside0.mk (ho); clear BK164; clear BK180; clear HB; clear HO199; have BK164 := n0_; have BK180 := n1_; have HB := n2_; have HO203 := n3_; clear n0_ n1_ n2_ n3_; clear ho hb hg hat))
                                          have n0_ := Aside0.mk (Kd.R_drew HO203.out)
                                          have n1_ := Aside0.mk (blk_drew BK164.out)
                                          have n2_ := Aside0.mk (blk_drew BK180.out)
                                          have n3_ := Aside0.mk (below_drew1 HB.out)
                                          clear HO203
                                          clear BK164
                                          clear BK180
                                          clear HB
                                          have HO203 := n0_
                                          have BK164 := n1_
                                          have BK180 := n2_
                                          have HB := n3_
                                          clear n0_ n1_ n2_ n3_
                                          have p204 : 0 ≤ (x9_3 : Int) := of_decide_eq_true (by first | (with_reducible assumption) | assumption)
                                          have q204 : x9_3 < (((rd_T40 l0_1 x7_2).f2).length : Int) := of_decide_eq_true (by first | (with_reducible assumption) | assumption)
                                          obtain ⟨ad204, e204, hx204_0, hx204_1, hx204_2⟩ := at_T46 HR179_2.out x9_3 p204 q204
                                          have hw204_2 := hx204_2
                                          have hw204_1 := hx204_1
                                          have hw204_0 := hx204_0
                                          obtain rfl : ad196 = ad204 := (by injection e204)
                                          replace hx204_0 := (HB.out.cell (World.block_lt_of_cell? w _ hx204_0)).trans hx204_0
                                          replace hx204_1 := (HB.out.cell (World.block_lt_of_cell? w _ hx204_1)).trans hx204_1
                                          replace hx204_2 := (HB.out.cell (World.block_lt_of_cell? w _ hx204_2)).trans hx204_2
                                          replace p204 := eq_true p204
                                          replace q204 := eq_true q204
                                          have p211 : 0 ≤ (x9_3 : Int) := of_decide_eq_true (by first | (with_reducible assumption) | assumption)
                                          have q211 : x9_3 < (((rd_T40 l0_1 x7_2).f2).length : Int) := of_decide_eq_true (by first | (with_reducible assumption) | assumption)
                                          obtain ⟨ad211, e211, hx211_0, hx211_1, hx211_2⟩ := at_T46 HR179_2.out x9_3 p211 q211
                                          have hw211_2 := hx211_2
                                          have hw211_1 := hx211_1
                                          have hw211_0 := hx211_0
                                          obtain rfl : ad196 = ad211 := (by injection e211)
                                          replace hx211_0 := (HB.out.cell (World.block_lt_of_cell? w _ hx211_0)).trans hx211_0
                                          replace hx211_1 := (HB.out.cell (World.block_lt_of_cell? w _ hx211_1)).trans hx211_1
                                          replace hx211_2 := (HB.out.cell (World.block_lt_of_cell? w _ hx211_2)).trans hx211_2
                                          replace p211 := eq_true p211
                                          replace q211 := eq_true q211
                                          refine start_ (n := 18) (S := fun w' => w'.cell? ⟨gb180, 0, none⟩ = some (.int .i64 ((rd_T40 l0_1 x7_2).f0)) ∧ w'.cell? ⟨gb180, 1, none⟩ = some (.int .i64 ((rd_T40 l0_1 x7_2).f1)) ∧ w'.cell? ⟨gb180, 2, none⟩ = some (.slice (some ad196) ((rd_T40 l0_1 x7_2).f2).length c179_2) ∧ w'.cell? (ad196.add ((x9_3).toNat * 3)) = some (.string ((rd_T46 ((rd_T40 l0_1 x7_2).f2) x9_3).f0)) ∧ w'.cell? ⟨(ad196.add ((x9_3).toNat * 3)).block, (ad196.add ((x9_3).toNat * 3)).off + 1, none⟩ = some (.int .i64 ((rd_T46 ((rd_T40 l0_1 x7_2).f2) x9_3).f1)) ∧ w'.cell? ⟨(ad196.add ((x9_3).toNat * 3)).block, (ad196.add ((x9_3).toNat * 3)).off + 2, none⟩ = some (.int .i64 ((rd_T46 ((rd_T40 l0_1 x7_2).f2) x9_3).f2)) ∧ w'.cell? (ad196.add ((x9_3).toNat * 3)) = some (.string ((rd_T46 ((rd_T40 l0_1 x7_2).f2) x9_3).f0)) ∧ w'.cell? ⟨(ad196.add ((x9_3).toNat * 3)).block, (ad196.add ((x9_3).toNat * 3)).off + 1, none⟩ = some (.int .i64 ((rd_T46 ((rd_T40 l0_1 x7_2).f2) x9_3).f1)) ∧ w'.cell? ⟨(ad196.add ((x9_3).toNat * 3)).block, (ad196.add ((x9_3).toNat * 3)).off + 2, none⟩ = some (.int .i64 ((rd_T46 ((rd_T40 l0_1 x7_2).f2) x9_3).f2))) (ds := []) #[false, false, false, false, false, false, false, false, false, false, false, false, false, false, false, false, false, false] (by kernel_rfl) rfl rfl ⟨(blk_cell BK180.out 0).trans rfl, (blk_cell BK180.out 1).trans rfl, (blk_cell BK180.out 2).trans rfl, ((HB.out.cell (World.block_lt_of_cell? w _ hw204_0)).trans hw204_0), ((HB.out.cell (World.block_lt_of_cell? w _ hw204_1)).trans hw204_1), ((HB.out.cell (World.block_lt_of_cell? w _ hw204_2)).trans hw204_2), ((HB.out.cell (World.block_lt_of_cell? w _ hw211_0)).trans hw211_0), ((HB.out.cell (World.block_lt_of_cell? w _ hw211_1)).trans hw211_1), ((HB.out.cell (World.block_lt_of_cell? w _ hw211_2)).trans hw211_2)⟩ (fun hHeld => ?_); refine with_tabW rosetteref15_Encode.tab21 rosetteref15_Encode.bits21 (fun HT_ HW_ => ?_)
                                          generalize w54.drew = w55 at HO203 BK164 BK180 HB hx204_0 hx204_1 hx204_2 hx211_0 hx211_1 hx211_2 hHeld ⊢
                                          refine pure_ (i := 0) (N := some 95) (v := ?_) (a' := ?_) #[true, false, false, false, false, false, false, false, false, false, false, false, false, false, false, false, false, false] rfl rfl (any_of HT_.out (by kernel_rfl)) (fun _ _ _ h => h) (Or.inl ⟨by rfl, ?_⟩) ?_ ?_
                                          rotate_left
                                          · intro w'
                                            go_simp
                                            with_reducible rfl
                                          rotate_left
                                          · simp only [Act.put, List.setIfInBounds_toArray, List.set_cons_zero, List.set_cons_succ, i64_w, i32_w]
                                            rfl
                                          refine pure_ (i := 1) (N := some 96) (v := ?_) (a' := ?_) #[true, true, false, false, false, false, false, false, false, false, false, false, false, false, false, false, false, false] rfl rfl (any_of HT_.out (by kernel_rfl)) (fun _ _ _ h => h) (Or.inl ⟨by rfl, ?_⟩) ?_ ?_
                                          rotate_left
                                          · intro w'
                                            go_simp
                                            with_reducible rfl
                                          rotate_left
                                          · simp only [Act.put, List.setIfInBounds_toArray, List.set_cons_zero, List.set_cons_succ, i64_w, i32_w]
                                            rfl
                                          refine pure_ (i := 3) (N := some 98) (v := ?_) (a' := ?_) #[true, true, false, true, false, false, false, false, false, false, false, false, false, false, false, false, false, false] rfl rfl (any_of HT_.out (by kernel_rfl)) (fun _ _ _ h => h) (Or.inl ⟨by rfl, ?_⟩) ?_ ?_
                                          rotate_left
                                          · intro w'
                                            go_simp
                                            with_reducible rfl
                                          rotate_left
                                          · simp only [Act.put, List.setIfInBounds_toArray, List.set_cons_zero, List.set_cons_succ, i64_w, i32_w]
                                            rfl
                                          refine pure_ (i := 9) (N := some 104) (v := ?_) (a' := ?_) #[true, true, false, true, false, false, false, false, false, true, false, false, false, false, false, false, false, false] rfl rfl (any_of HT_.out (by kernel_rfl)) (fun _ _ _ h => h) (Or.inl ⟨by rfl, ?_⟩) ?_ ?_
                                          rotate_left
                                          · intro w'
                                            go_simp
                                            with_reducible rfl
                                          rotate_left
                                          · simp only [Act.put, List.setIfInBounds_toArray, List.set_cons_zero, List.set_cons_succ, i64_w, i32_w]
                                            rfl
                                          refine pure_ (i := 11) (N := some 106) (v := ?_) (a' := ?_) #[true, true, false, true, false, false, false, false, false, true, false, true, false, false, false, false, false, false] rfl rfl (any_of HT_.out (by kernel_rfl)) (fun _ _ _ h => h) (Or.inl ⟨by rfl, ?_⟩) ?_ ?_
                                          rotate_left
                                          · intro w'
                                            go_simp
                                            with_reducible rfl
                                          rotate_left
                                          · simp only [Act.put, List.setIfInBounds_toArray, List.set_cons_zero, List.set_cons_succ, i64_w, i32_w]
                                            rfl
                                          refine take_ (i := 2) (N := some 97) (v := ?_) (a' := ?_) #[true, true, true, true, false, false, false, false, false, true, false, true, false, false, false, false, false, false] rfl rfl (take_ofW HT_.out HW_.out (by kernel_rfl)) (fun _ _ _ h => h) (Or.inl ⟨by rfl, ?_⟩) hHeld ?_ ?_
                                          rotate_left
                                          · rintro w' ⟨s0, s1, s2, s3, s4, s5, s6, s7, s8⟩
                                            go_simp
                                            with_reducible rfl
                                          rotate_left
                                          · simp only [Act.put, List.setIfInBounds_toArray, List.set_cons_zero, List.set_cons_succ, i64_w, i32_w]
                                            rfl
                                          refine pure_ (i := 4) (N := some 99) (v := ?_) (a' := ?_) #[true, true, true, true, true, false, false, false, false, true, false, true, false, false, false, false, false, false] rfl rfl (any_of HT_.out (by kernel_rfl)) (fun _ _ _ h => h) (Or.inl ⟨by rfl, ?_⟩) ?_ ?_
                                          rotate_left
                                          · intro w'
                                            go_simp
                                            with_reducible rfl
                                          rotate_left
                                          · simp only [Act.put, List.setIfInBounds_toArray, List.set_cons_zero, List.set_cons_succ, i64_w, i32_w]
                                            rfl
                                          refine pure_ (i := 5) (N := some 100) (v := ?_) (a' := ?_) #[true, true, true, true, true, true, false, false, false, true, false, true, false, false, false, false, false, false] rfl rfl (any_of HT_.out (by kernel_rfl)) (fun _ _ _ h => h) (Or.inl ⟨by rfl, ?_⟩) ?_ ?_
                                          rotate_left
                                          · intro w'
                                            go_simp
                                            with_reducible rfl
                                          rotate_left
                                          · simp only [Act.put, List.setIfInBounds_toArray, List.set_cons_zero, List.set_cons_succ, i64_w, i32_w]
                                            rfl
                                          refine take_ (i := 6) (N := some 101) (v := ?_) (a' := ?_) #[true, true, true, true, true, true, true, false, false, true, false, true, false, false, false, false, false, false] rfl rfl (take_ofW HT_.out HW_.out (by kernel_rfl)) (fun _ _ _ h => h) (Or.inl ⟨by rfl, ?_⟩) hHeld ?_ ?_
                                          rotate_left
                                          · rintro w' ⟨s0, s1, s2, s3, s4, s5, s6, s7, s8⟩
                                            go_simp
                                            with_reducible rfl
                                          rotate_left
                                          · simp only [Act.put, List.setIfInBounds_toArray, List.set_cons_zero, List.set_cons_succ, i64_w, i32_w]
                                            rfl
                                          refine take_ (i := 10) (N := some 105) (v := ?_) (a' := ?_) #[true, true, true, true, true, true, true, false, false, true, true, true, false, false, false, false, false, false] rfl rfl (take_ofW HT_.out HW_.out (by kernel_rfl)) (fun _ _ _ h => h) (Or.inl ⟨by rfl, ?_⟩) hHeld ?_ ?_
                                          rotate_left
                                          · rintro w' ⟨s0, s1, s2, s3, s4, s5, s6, s7, s8⟩
                                            go_simp
                                            with_reducible rfl
                                          rotate_left
                                          · simp only [Act.put, List.setIfInBounds_toArray, List.set_cons_zero, List.set_cons_succ, i64_w, i32_w]
                                            rfl
                                          refine pure_ (i := 12) (N := some 107) (v := ?_) (a' := ?_) #[true, true, true, true, true, true, true, false, false, true, true, true, true, false, false, false, false, false] rfl rfl (any_of HT_.out (by kernel_rfl)) (fun _ _ _ h => h) (Or.inl ⟨by rfl, ?_⟩) ?_ ?_
                                          rotate_left
                                          · intro w'
                                            go_simp
                                            with_reducible rfl
                                          rotate_left
                                          · simp only [Act.put, List.setIfInBounds_toArray, List.set_cons_zero, List.set_cons_succ, i64_w, i32_w]
                                            rfl
                                          refine pure_ (i := 13) (N := some 108) (v := ?_) (a' := ?_) #[true, true, true, true, true, true, true, false, false, true, true, true, true, true, false, false, false, false] rfl rfl (any_of HT_.out (by kernel_rfl)) (fun _ _ _ h => h) (Or.inl ⟨by rfl, ?_⟩) ?_ ?_
                                          rotate_left
                                          · intro w'
                                            go_simp
                                            with_reducible rfl
                                          rotate_left
                                          · simp only [Act.put, List.setIfInBounds_toArray, List.set_cons_zero, List.set_cons_succ, i64_w, i32_w]
                                            rfl
                                          refine take_ (i := 14) (N := some 109) (v := ?_) (a' := ?_) #[true, true, true, true, true, true, true, false, false, true, true, true, true, true, true, false, false, false] rfl rfl (take_ofW HT_.out HW_.out (by kernel_rfl)) (fun _ _ _ h => h) (Or.inl ⟨by rfl, ?_⟩) hHeld ?_ ?_
                                          rotate_left
                                          · rintro w' ⟨s0, s1, s2, s3, s4, s5, s6, s7, s8⟩
                                            go_simp
                                            with_reducible rfl
                                          rotate_left
                                          · simp only [Act.put, List.setIfInBounds_toArray, List.set_cons_zero, List.set_cons_succ, i64_w, i32_w]
                                            rfl
                                          refine one_ (i := 7) (N := some 102) #[true, true, true, true, true, true, true, true, false, true, true, true, true, true, true, false, false, false] rfl rfl (one_of HT_.out (by kernel_rfl)) (by decide) (fun K hK => ?_)
                                          refine goes_ Try.func25 (by kernel_rfl) rfl #[.int .i64 ((rd_T46 ((rd_T40 l0_1 x7_2).f2) x9_3).f1), .int .i64 4] (by rfl) rfl rfl (by (try simp only [List.map_toArray, List.map_cons, List.map_nil]); first | done | rfl | (simp only [List.length_drop, List.length_take]; rfl)) ?_
                                          with_reducible refine (rosetteref15_Big.calls k3 ((rd_T46 ((rd_T40 l0_1 x7_2).f2) x9_3).f1) 4 t205 _ A46.out).mono ?_
                                          rintro e w56 ⟨v206, rfl, ho0, hb⟩
                                          refine ⟨_, rfl, ?_⟩
                                          have n0_ := Aside0.mk (Kd.R_elder' (by (with_reducible repeat (first | apply Kd.R_alloc | apply Kd.R_drewN | apply Kd.R_drew)); exact HO203.out) (Kd.R_base ho0) hb)
                                          have n1_ := Aside0.mk (Kd.R_lower (Kd.R_new' ho0 (Kd.R_lt (by (with_reducible repeat (first | apply Kd.R_alloc | apply Kd.R_drewN | apply Kd.R_drew)); exact HO203.out))) (below_size (by repeat (first | (with_reducible first | exact HB.out | apply below_alloc | apply pw_below_drewN | apply below_drew1 | refine below_set ?_ GE164.out | refine below_set ?_ GE180.out) | exact HB.out))))
                                          have n2_ := Aside0.mk (blk_below (g := gb164) (o := .cells #[.slice A0_0 l0_0.length c0_0, .slice (some ad179) l0_1.length c0_1] 25 (0, 0)) (by (with_reducible repeat (first | refine blk_drewN ?_ _ | refine blk_drew ?_ | refine blk_alloc ?_ _)); exact BK164.out) hb)
                                          have n3_ := Aside0.mk (blk_below (g := gb180) (o := .cells #[.int .i64 ((rd_T40 l0_1 x7_2).f0), .int .i64 ((rd_T40 l0_1 x7_2).f1), .slice (some ad196) ((rd_T40 l0_1 x7_2).f2).length c179_2] 40 (0, 0)) (by (with_reducible repeat (first | refine blk_drewN ?_ _ | refine blk_drew ?_ | refine blk_alloc ?_ _)); exact BK180.out) hb)
                                          have n4_ := Aside0.mk (below_step (by repeat (first | (with_reducible first | exact HB.out | apply below_alloc | apply pw_below_drewN | apply below_drew1 | refine below_set ?_ GE164.out | refine below_set ?_ GE180.out) | exact HB.out)) hb)
                                          clear HO203
                                          clear BK164
                                          clear BK180
                                          clear HB
                                          have HO203 := n0_
                                          have HO207 := n1_
                                          have BK164 := n2_
                                          have BK180 := n3_
                                          have HB := n4_
                                          clear n0_ n1_ n2_ n3_ n4_
                                          (try clear hb)
                                          (try clear hb2)
                                          (try clear hk)
                                          (try clear hi)
                                          (try clear ho0)
                                          obtain ⟨Ao58, co58, eo58⟩ := Kd.R_slice HO207.out
                                          (first | subst eo58 | (injection eo58 with f1_ f2_ f3_; have f4_ := f1_.symm; have f5_ := f3_.symm; clear f1_ f2_ f3_; subst f4_; subst f5_))
                                          refine hK.out _ _ ⟨(blk_cell BK180.out 0).trans rfl, (blk_cell BK180.out 1).trans rfl, (blk_cell BK180.out 2).trans rfl, ((HB.out.cell (World.block_lt_of_cell? w _ hw204_0)).trans hw204_0), ((HB.out.cell (World.block_lt_of_cell? w _ hw204_1)).trans hw204_1), ((HB.out.cell (World.block_lt_of_cell? w _ hw204_2)).trans hw204_2), ((HB.out.cell (World.block_lt_of_cell? w _ hw211_0)).trans hw211_0), ((HB.out.cell (World.block_lt_of_cell? w _ hw211_1)).trans hw211_1), ((HB.out.cell (World.block_lt_of_cell? w _ hw211_2)).trans hw211_2)⟩ (fun hHeld => ?_)
                                          clear hK K
                                          refine norm_ (a' := ?_) ?_ ?_
                                          rotate_left
                                          · show Act.put _ (some 102) _ = _
                                            simp only [Act.put, List.setIfInBounds_toArray, List.set_cons_zero, List.set_cons_succ, i64_w, i32_w]
                                            rfl
                                          refine one_ (i := 8) (N := some 103) #[true, true, true, true, true, true, true, true, true, true, true, true, true, true, true, false, false, false] rfl rfl (one_of HT_.out (by kernel_rfl)) (by decide) (fun K hK => ?_)
                                          refine Kd.R_append_rows_step (Kd.int .u8) (w0 := w) w.heap.size (by rfl) (.tmp 95) (.tmp 102) 26 5 (.int .u8 0) 1 rfl Try.underlying26 info5 rfl (by decide) (by decide) v202 y201 t205 _ _ _ (fun k_ => some k_ ≠ (.slice Ao58 t205.length co58 : Value).ownBlock) (fun _ => False) rfl rfl ?aO ?aR (fun _ _ h => h) (fun _ h => h.elim) ?aF ?aB ?aS ?aL ?_
                                          (case aR => repeat (first | exact (Kd.R_reads' HO207.out).2.2 | (with_reducible refine Kd.C_alloc ?_ _) | (with_reducible refine Kd.C_drewN ?_ _) | (with_reducible refine Kd.C_drew ?_)))
                                          (case aB => exact (by repeat (first | (with_reducible first | exact HB.out | apply below_alloc | apply pw_below_drewN | apply below_drew1 | refine below_set ?_ GE164.out | refine below_set ?_ GE180.out) | exact HB.out)))
                                          (case aF => exact (fun k_ hk => Kd.fresh' (Kd.R_lt (by (with_reducible repeat (first | apply Kd.R_alloc | apply Kd.R_drewN | apply Kd.R_drew)); exact HO207.out)) k_ hk))
                                          (case aO => exact (by (with_reducible repeat (first | apply Kd.R_alloc | apply Kd.R_drewN | apply Kd.R_drew)); exact Kd.R_mono HO203.out (fun _ hk => hk.2)))
                                          (case aS => exact (below_size (by repeat (first | (with_reducible first | exact HB.out | apply below_alloc | apply pw_below_drewN | apply below_drew1 | refine below_set ?_ GE164.out | refine below_set ?_ GE180.out) | exact HB.out))))
                                          (case aL => have := LMc47.out; omega)
                                          intro v209 w57 ho hb hg hat
                                          rw [← Ny208.out] at ho
                                          have n0_ := Aside0.mk (blk_grown (g := gb164) (o := .cells #[.slice A0_0 l0_0.length c0_0, .slice (some ad179) l0_1.length c0_1] 25 (0, 0)) (by (with_reducible repeat (first | refine blk_drewN ?_ _ | refine blk_drew ?_ | refine blk_alloc ?_ _)); exact BK164.out) hg (Kd.R_ne HO203.out BK164.out (by decide)))
                                          have n1_ := Aside0.mk (blk_grown (g := gb180) (o := .cells #[.int .i64 ((rd_T40 l0_1 x7_2).f0), .int .i64 ((rd_T40 l0_1 x7_2).f1), .slice (some ad196) ((rd_T40 l0_1 x7_2).f2).length c179_2] 40 (0, 0)) (by (with_reducible repeat (first | refine blk_drewN ?_ _ | refine blk_drew ?_ | refine blk_alloc ?_ _)); exact BK180.out) hg (Kd.R_ne HO203.out BK180.out (by decide)))
                                          have n2_ := Aside0.mk (Kd.R_after (ok := (fun _ => True)) (by (with_reducible repeat (first | apply Kd.R_alloc | apply Kd.R_drewN | apply Kd.R_drew)); exact HO207.out) hg hat)
                                          have n3_ := Aside0.mk (hb)
                                          have n4_ := Aside0.mk (ho)
                                          clear BK164
                                          clear BK180
                                          clear HO207
                                          clear HB
                                          clear HO203
                                          have BK164 := n0_
                                          have BK180 := n1_
                                          have HO207 := n2_
                                          have HB := n3_
                                          have HO210 := n4_
                                          clear n0_ n1_ n2_ n3_ n4_
                                          clear ho hb hg hat
                                          refine hK.out _ _ ⟨(blk_cell BK180.out 0).trans rfl, (blk_cell BK180.out 1).trans rfl, (blk_cell BK180.out 2).trans rfl, ((HB.out.cell (World.block_lt_of_cell? w _ hw204_0)).trans hw204_0), ((HB.out.cell (World.block_lt_of_cell? w _ hw204_1)).trans hw204_1), ((HB.out.cell (World.block_lt_of_cell? w _ hw204_2)).trans hw204_2), ((HB.out.cell (World.block_lt_of_cell? w _ hw211_0)).trans hw211_0), ((HB.out.cell (World.block_lt_of_cell? w _ hw211_1)).trans hw211_1), ((HB.out.cell (World.block_lt_of_cell? w _ hw211_2)).trans hw211_2)⟩ (fun hHeld => ?_)
                                          clear hK K
                                          refine norm_ (a' := ?_) ?_ ?_
                                          rotate_left
                                          · show Act.put _ (some 103) _ = _
                                            simp only [Act.put, List.setIfInBounds_toArray, List.set_cons_zero, List.set_cons_succ, i64_w, i32_w]
                                            rfl
                                          refine one_ (i := 15) (N := some 110) #[true, true, true, true, true, true, true, true, true, true, true, true, true, true, true, true, false, false] rfl rfl (one_of HT_.out (by kernel_rfl)) (by decide) (fun K hK => ?_)
                                          refine goes_ Try.func25 (by kernel_rfl) rfl #[.int .i64 ((rd_T46 ((rd_T40 l0_1 x7_2).f2) x9_3).f2), .int .i64 4] (by rfl) rfl rfl (by (try simp only [List.map_toArray, List.map_cons, List.map_nil]); first | done | rfl | (simp only [List.length_drop, List.length_take]; rfl)) ?_
                                          with_reducible refine (rosetteref15_Big.calls k3 ((rd_T46 ((rd_T40 l0_1 x7_2).f2) x9_3).f2) 4 t212 _ A48.out).mono ?_
                                          rintro e w59 ⟨v213, rfl, ho0, hb⟩
                                          refine ⟨_, rfl, ?_⟩
                                          have n0_ := Aside0.mk (Kd.R_elder' (by (with_reducible repeat (first | apply Kd.R_alloc | apply Kd.R_drewN | apply Kd.R_drew)); exact HO207.out) (Kd.R_base ho0) hb)
                                          have n1_ := Aside0.mk (Kd.R_elder' (by (with_reducible repeat (first | apply Kd.R_alloc | apply Kd.R_drewN | apply Kd.R_drew)); exact HO210.out) (Kd.R_base ho0) hb)
                                          have n2_ := Aside0.mk (Kd.R_lower (Kd.R_new' (Kd.R_new' ho0 (Kd.R_lt (by (with_reducible repeat (first | apply Kd.R_alloc | apply Kd.R_drewN | apply Kd.R_drew)); exact HO207.out))) (Kd.R_lt (by (with_reducible repeat (first | apply Kd.R_alloc | apply Kd.R_drewN | apply Kd.R_drew)); exact HO210.out))) (below_size (by repeat (first | (with_reducible first | exact HB.out | apply below_alloc | apply pw_below_drewN | apply below_drew1 | refine below_set ?_ GE164.out | refine below_set ?_ GE180.out) | exact HB.out))))
                                          have n3_ := Aside0.mk (blk_below (g := gb164) (o := .cells #[.slice A0_0 l0_0.length c0_0, .slice (some ad179) l0_1.length c0_1] 25 (0, 0)) (by (with_reducible repeat (first | refine blk_drewN ?_ _ | refine blk_drew ?_ | refine blk_alloc ?_ _)); exact BK164.out) hb)
                                          have n4_ := Aside0.mk (blk_below (g := gb180) (o := .cells #[.int .i64 ((rd_T40 l0_1 x7_2).f0), .int .i64 ((rd_T40 l0_1 x7_2).f1), .slice (some ad196) ((rd_T40 l0_1 x7_2).f2).length c179_2] 40 (0, 0)) (by (with_reducible repeat (first | refine blk_drewN ?_ _ | refine blk_drew ?_ | refine blk_alloc ?_ _)); exact BK180.out) hb)
                                          have n5_ := Aside0.mk (below_step (by repeat (first | (with_reducible first | exact HB.out | apply below_alloc | apply pw_below_drewN | apply below_drew1 | refine below_set ?_ GE164.out | refine below_set ?_ GE180.out) | exact HB.out)) hb)
                                          clear HO207
                                          clear HO210
                                          clear BK164
                                          clear BK180
                                          clear HB
                                          have HO207 := n0_
                                          have HO210 := n1_
                                          have HO214 := n2_
                                          have BK164 := n3_
                                          have BK180 := n4_
                                          have HB := n5_
                                          clear n0_ n1_ n2_ n3_ n4_ n5_
                                          (try clear hb)
                                          (try clear hb2)
                                          (try clear hk)
                                          (try clear hi)
                                          (try clear ho0)
                                          obtain ⟨Ao61, co61, eo61⟩ := Kd.R_slice HO214.out
                                          (first | subst eo61 | (injection eo61 with f1_ f2_ f3_; have f4_ := f1_.symm; have f5_ := f3_.symm; clear f1_ f2_ f3_; subst f4_; subst f5_))
                                          refine hK.out _ _ ⟨(blk_cell BK180.out 0).trans rfl, (blk_cell BK180.out 1).trans rfl, (blk_cell BK180.out 2).trans rfl, ((HB.out.cell (World.block_lt_of_cell? w _ hw204_0)).trans hw204_0), ((HB.out.cell (World.block_lt_of_cell? w _ hw204_1)).trans hw204_1), ((HB.out.cell (World.block_lt_of_cell? w _ hw204_2)).trans hw204_2), ((HB.out.cell (World.block_lt_of_cell? w _ hw211_0)).trans hw211_0), ((HB.out.cell (World.block_lt_of_cell? w _ hw211_1)).trans hw211_1), ((HB.out.cell (World.block_lt_of_cell? w _ hw211_2)).trans hw211_2)⟩ (fun hHeld => ?_)
                                          clear hK K
                                          refine norm_ (a' := ?_) ?_ ?_
                                          rotate_left
                                          · show Act.put _ (some 110) _ = _
                                            simp only [Act.put, List.setIfInBounds_toArray, List.set_cons_zero, List.set_cons_succ, i64_w, i32_w]
                                            rfl
                                          refine one_ (i := 16) (N := some 111) #[true, true, true, true, true, true, true, true, true, true, true, true, true, true, true, true, true, false] rfl rfl (one_of HT_.out (by kernel_rfl)) (by decide) (fun K hK => ?_)
                                          refine Kd.R_append_rows_step (Kd.int .u8) (w0 := w) w.heap.size (by rfl) (.tmp 103) (.tmp 110) 26 5 (.int .u8 0) 1 rfl Try.underlying26 info5 rfl (by decide) (by decide) v209 y208 t212 _ _ _ (fun k_ => some k_ ≠ (.slice Ao58 t205.length co58 : Value).ownBlock ∧ some k_ ≠ (.slice Ao61 t212.length co61 : Value).ownBlock) (fun _ => False) rfl rfl ?aO ?aR (fun _ _ h => h) (fun _ h => h.elim) ?aF ?aB ?aS ?aL ?_
                                          (case aR => repeat (first | exact (Kd.R_reads' HO214.out).2.2 | (with_reducible refine Kd.C_alloc ?_ _) | (with_reducible refine Kd.C_drewN ?_ _) | (with_reducible refine Kd.C_drew ?_)))
                                          (case aB => exact (by repeat (first | (with_reducible first | exact HB.out | apply below_alloc | apply pw_below_drewN | apply below_drew1 | refine below_set ?_ GE164.out | refine below_set ?_ GE180.out) | exact HB.out)))
                                          (case aF => exact (fun k_ hk => ⟨Kd.fresh' (Kd.R_lt (by (with_reducible repeat (first | apply Kd.R_alloc | apply Kd.R_drewN | apply Kd.R_drew)); exact HO207.out)) k_ hk, Kd.fresh' (Kd.R_lt (by (with_reducible repeat (first | apply Kd.R_alloc | apply Kd.R_drewN | apply Kd.R_drew)); exact HO214.out)) k_ hk⟩))
                                          (case aO => exact (by (with_reducible repeat (first | apply Kd.R_alloc | apply Kd.R_drewN | apply Kd.R_drew)); exact HO210.out))
                                          (case aS => exact (below_size (by repeat (first | (with_reducible first | exact HB.out | apply below_alloc | apply pw_below_drewN | apply below_drew1 | refine below_set ?_ GE164.out | refine below_set ?_ GE180.out) | exact HB.out))))
                                          (case aL => have := LMc49.out; omega)
                                          intro v216 w60 ho hb hg hat
                                          rw [← Ny215.out] at ho
                                          have n0_ := Aside0.mk (blk_grown (g := gb164) (o := .cells #[.slice A0_0 l0_0.length c0_0, .slice (some ad179) l0_1.length c0_1] 25 (0, 0)) (by (with_reducible repeat (first | refine blk_drewN ?_ _ | refine blk_drew ?_ | refine blk_alloc ?_ _)); exact BK164.out) hg (Kd.R_ne HO210.out BK164.out (by decide)))
                                          have n1_ := Aside0.mk (blk_grown (g := gb180) (o := .cells #[.int .i64 ((rd_T40 l0_1 x7_2).f0), .int .i64 ((rd_T40 l0_1 x7_2).f1), .slice (some ad196) ((rd_T40 l0_1 x7_2).f2).length c179_2] 40 (0, 0)) (by (with_reducible repeat (first | refine blk_drewN ?_ _ | refine blk_drew ?_ | refine blk_alloc ?_ _)); exact BK180.out) hg (Kd.R_ne HO210.out BK180.out (by decide)))
                                          have n2_ := Aside0.mk (Kd.R_after (ok := (fun k_ => some k_ ≠ (.slice Ao61 t212.length co61 : Value).ownBlock)) (by (with_reducible repeat (first | apply Kd.R_alloc | apply Kd.R_drewN | apply Kd.R_drew)); exact Kd.R_mono HO207.out (fun _ hk => ⟨hk.2, hk.1.2⟩)) hg hat)
                                          have n3_ := Aside0.mk (Kd.R_after (ok := (fun k_ => some k_ ≠ (.slice Ao58 t205.length co58 : Value).ownBlock)) (by (with_reducible repeat (first | apply Kd.R_alloc | apply Kd.R_drewN | apply Kd.R_drew)); exact Kd.R_mono HO214.out (fun _ hk => ⟨hk.1.2, hk.2⟩)) hg hat)
                                          have n4_ := Aside0.mk (hb)
                                          have n5_ := Aside0.mk (ho)
                                          clear BK164
                                          clear BK180
                                          clear HO207
                                          clear HO214
                                          clear HB
                                          clear HO210
                                          have BK164 := n0_
                                          have BK180 := n1_
                                          have HO207 := n2_
                                          have HO214 := n3_
                                          have HB := n4_
                                          have HO217 := n5_
                                          clear n0_ n1_ n2_ n3_ n4_ n5_
                                          clear ho hb hg hat
                                          refine hK.out _ _ ⟨(blk_cell BK180.out 0).trans rfl, (blk_cell BK180.out 1).trans rfl, (blk_cell BK180.out 2).trans rfl, ((HB.out.cell (World.block_lt_of_cell? w _ hw204_0)).trans hw204_0), ((HB.out.cell (World.block_lt_of_cell? w _ hw204_1)).trans hw204_1), ((HB.out.cell (World.block_lt_of_cell? w _ hw204_2)).trans hw204_2), ((HB.out.cell (World.block_lt_of_cell? w _ hw211_0)).trans hw211_0), ((HB.out.cell (World.block_lt_of_cell? w _ hw211_1)).trans hw211_1), ((HB.out.cell (World.block_lt_of_cell? w _ hw211_2)).trans hw211_2)⟩ (fun hHeld => ?_)
                                          clear hK K
                                          refine norm_ (a' := ?_) ?_ ?_
                                          rotate_left
                                          · show Act.put _ (some 111) _ = _
                                            simp only [Act.put, List.setIfInBounds_toArray, List.set_cons_zero, List.set_cons_succ, i64_w, i32_w]
                                            rfl
                                          refine pure_ (i := 17) (N := some 5) (v := ?_) (a' := ?_) #[true, true, true, true, true, true, true, true, true, true, true, true, true, true, true, true, true, true] rfl rfl (any_of HT_.out (by kernel_rfl)) (fun _ _ _ h => h) (Or.inl ⟨by rfl, ?_⟩) ?_ ?_
                                          rotate_left
                                          · intro w'
                                            go_simp
                                            with_reducible rfl
                                          rotate_left
                                          · simp only [Act.put, List.setIfInBounds_toArray, List.set_cons_zero, List.set_cons_succ, i64_w, i32_w]
                                            rfl
                                          refine done_ (done_of HT_.out (by kernel_rfl)) ?_
                                          try go_wp2
                                          go_roundg k3
                                          case measure => have := HK1.out; have := HK2.out; have := HK3.out; omega
                                          case rel => exact ⟨(y215), (wrap64 (x9_3 + 1)), (by first | rfl | (simp; done) | (simp [*]; done)), H', ⟨by have := HK1.out; have := HK2.out; have := HK3.out; omega⟩, ⟨by (with_reducible repeat (first | apply Kd.R_alloc | apply Kd.R_drewN | apply Kd.R_drew)); exact Kd.R_mono HO217.out (fun _ hk => trivial)⟩, ⟨by (with_reducible repeat (first | refine blk_drewN ?_ _ | refine blk_drew ?_ | refine blk_alloc ?_ _)); exact BK164.out⟩, ⟨by (with_reducible repeat (first | refine blk_drewN ?_ _ | refine blk_drew ?_ | refine blk_alloc ?_ _)); exact BK180.out⟩, ⟨by repeat (first | (with_reducible first | exact HB.out | apply below_alloc | apply pw_below_drewN | apply below_drew1 | refine below_set ?_ GE164.out | refine below_set ?_ GE180.out) | exact HB.out)⟩⟩
                                        · rw [if_neg c49] at H
                                          exact absurd H (by simp)
                                      · rw [if_neg c47] at H
                                        exact absurd H (by simp)
                                    · rw [if_neg c45] at H
                                      exact absurd H (by simp)
                                  · rw [if_neg c44] at H
                                    exact absurd H (by simp)
                                · rw [if_neg c43] at H
                                  exact absurd H (by simp)
                              · rw [if_neg c42] at H
                                have c42b0 : decide (x9_3 < (((rd_T40 l0_1 x7_2).f2).length : Int)) = false := decide_eq_false c42
                                clear c42
                                have H' := Aside0.mk H
                                clear H
                                have hnb62 := NB180_164.out
                                have hnc62 := NB164_180.out
                                have hcz63_0 : wr.cell? ⟨gb180, 0, none⟩ = some (.int .i64 ((rd_T40 l0_1 x7_2).f0)) := (blk_cell BK180.out 0).trans rfl
                                have hcz63_1 : wr.cell? ⟨gb180, 1, none⟩ = some (.int .i64 ((rd_T40 l0_1 x7_2).f1)) := (blk_cell BK180.out 1).trans rfl
                                have hcz63_2 : wr.cell? ⟨gb180, 2, none⟩ = some (.slice A179_2 ((rd_T40 l0_1 x7_2).f2).length c179_2) := (blk_cell BK180.out 2).trans rfl
                                have hfz63_0 := blk_frozen BK180.out 0
                                have hfz63_1 := blk_frozen BK180.out 1
                                have hfz63_2 := blk_frozen BK180.out 2
                                go_wp2
                                go_roundg k3
                                case measure => have := HK1.out; have := HK2.out; have := HK3.out; omega
                                case rel => exact ⟨(x5_3), (wrap64 (x7_2 + 1)), (by first | rfl | (simp; done) | (simp [*]; done)), H', ⟨by have := HK1.out; have := HK2.out; have := HK3.out; omega⟩, ⟨by (with_reducible repeat (first | apply Kd.R_alloc | apply Kd.R_drewN | apply Kd.R_drew)); exact HO_5.out⟩, ⟨by (with_reducible repeat (first | refine blk_drewN ?_ _ | refine blk_drew ?_ | refine blk_alloc ?_ _)); exact BK164.out⟩, ⟨by repeat (first | (with_reducible first | exact HB.out | apply below_alloc | apply pw_below_drewN | apply below_drew1 | refine below_set ?_ GE164.out | refine below_set ?_ GE180.out) | exact HB.out)⟩⟩
                        · rw [if_neg c27] at H
                          exact absurd H (by simp)
                      · rw [if_neg c26] at H
                        exact absurd H (by simp)
                    · rw [if_neg c24] at H
                      exact absurd H (by simp)
                  · rw [if_neg c22] at H
                    exact absurd H (by simp)
                · rw [if_neg c21] at H
                  have c21b0 : decide (x7_2 < (l0_1.length : Int)) = false := decide_eq_false c21
                  clear c21
                  simp only [Option.some.injEq, Prod.mk.injEq] at H
                  obtain ⟨rfl, rfl⟩ := H
                  have hcz64_0 : wr.cell? ⟨gb164, 0, none⟩ = some (.slice A0_0 l0_0.length c0_0) := (blk_cell BK164.out 0).trans rfl
                  have hcz64_1 : wr.cell? ⟨gb164, 1, none⟩ = some (.slice A0_1 l0_1.length c0_1) := (blk_cell BK164.out 1).trans rfl
                  have hfz64_0 := blk_frozen BK164.out 0
                  have hfz64_1 := blk_frozen BK164.out 1
                  go_wp2
                  go_ret2
                  exact ⟨_, by first | rfl | (simp [errW_none, errW_some] <;> rfl) | (simp [*, errW_none, errW_some] <;> rfl), by (with_reducible repeat (first | apply Kd.R_alloc | apply Kd.R_drewN | apply Kd.R_drew)); exact HO_5.out, by repeat (first | (with_reducible first | exact HB.out | apply below_alloc | apply pw_below_drewN | apply below_drew1 | refine below_set ?_ GE164.out) | exact HB.out)⟩
          · rw [if_neg c18] at H
            exact absurd H (by simp)
  · replace c3 := Bool.eq_false_iff.mpr c3
    subst c3
    have H1 : (some (([] : List Int), false)) = some (r1, r2) := by rw [if_neg (show ¬ (false = true) by decide)] at H; exact H
    clear H
    have H := H1
    clear H1
    simp only [Option.some.injEq, Prod.mk.injEq] at H
    obtain ⟨rfl, rfl⟩ := H
    go_enter Try.func11, Try.ntmps11
    go_wp2_with (first | ((with_reducible refine gate_dst (N := 1) rfl ?_); refine box_event ?hg (N := 1) ?hd (cs := #[.slice A0_0 l0_0.length c0_0, .slice A0_1 l0_1.length c0_1]) (t := 25) ?hr ?_; (case hd => rfl); (case hg => rfl); (case hr => first | (go_simp; done) | (go_simp; rfl)); intro gb164 hg w65 hbox hb; have n0_ := Aside0.mk (below_step (by repeat (first | (with_reducible first | exact HB.out | apply below_alloc | apply pw_below_drewN | apply below_drew1) | exact HB.out)) hb); have n1_ := Aside0.mk (hbox); have n2_ := Aside0.mk ((by rw [hg]; exact (below_size (by repeat (first | (with_reducible first | exact HB.out | apply below_alloc | apply pw_below_drewN | apply below_drew1) | exact HB.out))) : w.heap.size ≤ gb164)); have n3_ := Aside0.mk ((by rw [hg]; exact (below_size (by repeat (first | (with_reducible first | exact HB.out | apply below_alloc | apply pw_below_drewN | apply below_drew1) | exact HB.out))) : w.heap.size ≤ gb164)); clear HB; have HB := n0_; have BK164 := n1_; have GW164 := n2_; have GE164 := n3_; clear n0_ n1_ n2_ n3_; clear hb hbox hg; have hcz66_0 : w65.cell? ⟨gb164, 0, none⟩ = some (.slice A0_0 l0_0.length c0_0) := (blk_cell BK164.out 0).trans rfl; have hcz66_1 : w65.cell? ⟨gb164, 1, none⟩ = some (.slice A0_1 l0_1.length c0_1) := (blk_cell BK164.out 1).trans rfl; have hfz66_0 := blk_frozen BK164.out 0; have hfz66_1 := blk_frozen BK164.out 1) | ((with_reducible refine gate_callee (f := 16) rfl ?_); refine goesL_ (some 11) rfl rfl Try.func16 (by kernel_rfl) rfl #[.agg #[.slice A0_0 l0_0.length c0_0, .slice A0_1 l0_1.length c0_1]] rfl (by (try simp only [List.map_toArray, List.map_cons, List.map_nil]); first | done | rfl | (simp only [List.length_drop, List.length_take]; rfl)) ?_; (with_reducible refine (rosetteref15_Right.calls k _ _ l0_0 _ _ l0_1 false _ ?side1 ?side2 ?side3 ?side4 A2.out).mono ?_); (case side1 => repeat (first | exact (Kd.C_below HR0_0.out HB.out) | (with_reducible refine Kd.C_alloc ?_ _) | (with_reducible refine Kd.C_drewN ?_ _) | (with_reducible refine Kd.C_drew ?_))); (case side2 => exact HC0_0.out); (case side3 => repeat (first | exact (Kd.C_below HR0_1.out HB.out) | (with_reducible refine Kd.C_alloc ?_ _) | (with_reducible refine Kd.C_drewN ?_ _) | (with_reducible refine Kd.C_drew ?_))); (case side4 => exact HC0_1.out); rintro e w67 ⟨rfl, hb⟩; refine ⟨_, rfl, ?_⟩; have n0_ := Aside0.mk (blk_below (g := gb164) (o := .cells #[.slice A0_0 l0_0.length c0_0, .slice A0_1 l0_1.length c0_1] 25 (0, 0)) (by (with_reducible repeat (first | refine blk_drewN ?_ _ | refine blk_drew ?_ | refine blk_alloc ?_ _)); exact BK164.out) hb); have n1_ := Aside0.mk (below_step (by repeat (first | (with_reducible first | exact HB.out | apply below_alloc | apply pw_below_drewN | apply below_drew1 | refine below_set ?_ GE164.out) | exact HB.out)) hb); clear BK164; clear HB; have BK164 := n0_; have HB := n1_; clear n0_ n1_; (try clear hb); (try clear hb2); (try clear hk); (try clear hi)))
    go_ret2
    exact ⟨_, by first | rfl | (simp [errW_none, errW_some] <;> rfl) | (simp [*, errW_none, errW_some] <;> rfl), by first | exact Kd.R_nil _ _ _ _ _ | exact Kd.N_nil _ _ _ _ _ | exact Kd.V_nil _ _ _ _ _ | exact Kd.Q_nil _ _ _ _ _ | exact Kd.S_nil _ _ _ _ _, by repeat (first | (with_reducible first | exact HB.out | apply below_alloc | apply pw_below_drewN | apply below_drew1 | refine below_set ?_ GE164.out) | exact HB.out)⟩

end Go.Proofs.Ytkdhcmmfklganaa.G
end

section
/- FirstCodes, walked -/
set_option linter.unusedVariables false
set_option linter.unusedSimpArgs false
set_option autoImplicit false
namespace Go.Proofs.Ytkdhcmmfklganaa.G
open Go.RowKit Go.Proofs.Ytkdhcmmfklganaa Go.Proofs.YtkdhcmmfklganaaW.PrintWords Go.Proofs.YtkdhcmmfklganaaW.PrintLast Go.Proofs.YtkdhcmmfklganaaW.PrintMore

def codesOK (k : Nat) (l0_0 : List Int) (l0_1 : List S40) (l1 : List Int) : Prop := u8s l1 ∧ rosetteref15_Encode.f k l0_0 l0_1 = some (if rightB l0_0 l0_1 = true then encL l0_0 l0_1 else [], rightB l0_0 l0_1) ∧ rosetteref15_Same.f k (dec15 l1).1.1 (dec15 l1).1.2 (dec15 l1).1.1 (dec15 l1).1.2 = some true ∧ rosetteref15_Right.f k l0_0 l0_1 = some (rightB l0_0 l0_1)
instance (k : Nat) (l0_0 : List Int) (l0_1 : List S40) (l1 : List Int) : Decidable (codesOK k l0_0 l0_1 l1) := by unfold codesOK; exact inferInstance
def codesF (k : Nat) (fw : Bool) (l0_0 : List Int) (l0_1 : List S40) (l1 : List Int) : Option Bool :=
  if fw = false ∨ l1.length > 2000 then some true
  else if codesOK k l0_0 l0_1 l1 then some true else none
def rosettelaw15_FirstCodes.f (k : Nat) (l0_0 : List Int) (l0_1 : List S40) (l1 : List Int) : Option Bool :=
  (rosettelaw15_Few.f k l0_0 l0_1).bind fun fw => codesF k fw l0_0 l0_1 l1
theorem str_selfc (l : List Int) : ((strOfNums l).toList == (strOfNums l).toList) = true := beq_self_eq_true _
theorem lrdec15 {l : List Int} {n : Nat} (hn : l.length = n) {ls : List Int} {ss : List S40} {E : Int} {n1 n2 : Nat} (hq : dec15 l = ((ls, ss), E)) (h1 : ls.length = n1) (h2 : ss.length = n2) (A0 : Option Addr) (c0 : Nat) (w : World) (hr0 : (Kd.int .u8).C w A0 l.length l) (hc0 : n ≤ c0) (hc1 : c0 ≤ 9223372036854775807) (hu : u8s l) (hl : n ≤ 100000) :
    Calls Try.prog 13 #[.slice A0 n c0] w fun e w' => ∃ A1 c1 A2 c2, e = .returned (.tuple #[.agg #[.slice A1 n1 c1, .slice A2 n2 c2], .int .i64 E]) ∧ Kd.C (Kd.int .i64) w' A1 n1 ls ∧ n1 ≤ c1 ∧ Kd.C k40 w' A2 n2 ss ∧ n2 ≤ c2 ∧ Below w.heap.size w w' := by
  subst hn h1 h2
  have h := rdecode15 A0 c0 l w hr0 hc0 hc1 hu hl
  rw [hq] at h
  exact h
theorem cells2w {W : World} {b T : Nat} {x y : Value} (h : W.heap[b]? = some (.cells #[x, y] T (0, 0))) : W.cell? ⟨b, 0, none⟩ = some x ∧ W.cell? ⟨b, 1, none⟩ = some y := (cells2r h).1
set_option maxRecDepth 100000 in
set_option maxHeartbeats 8000000 in
theorem rosettelaw15_FirstCodes.calls (k : Nat) (A0_0 : Option Addr) (c0_0 : Nat) (l0_0 : List Int) (A0_1 : Option Addr) (c0_1 : Nat) (l0_1 : List S40) (A1 : Option Addr) (c1 : Nat) (l1 : List Int) (r : Bool) (w : World) (hr0_0 : Kd.C (Kd.int .i64) w A0_0 l0_0.length l0_0) (hc0_0 : l0_0.length ≤ c0_0) (hr0_1 : Kd.C k40 w A0_1 l0_1.length l0_1) (hc0_1 : l0_1.length ≤ c0_1) (hr1 : Kd.C (Kd.int .u8) w A1 l1.length l1) (hc1 : l1.length ≤ c1) (hm1 : c1 ≤ 9223372036854775807) (h : rosettelaw15_FirstCodes.f k l0_0 l0_1 l1 = some r) :
    Calls Try.prog 3 #[.agg #[.slice A0_0 l0_0.length c0_0, .slice A0_1 l0_1.length c0_1], .slice A1 l1.length c1] w fun e w' => e = .returned (.bool r) ∧ Below w.heap.size w w' := by
  unfold rosettelaw15_FirstCodes.f at h
  obtain ⟨fw, hE, h⟩ := Option.bind_eq_some_iff.mp h
  have HE := Aside0.mk hE
  have LM := Aside0.mk hr1.2.1
  have LD := Aside0.mk hr0_0.2.1
  have hlm := hr1.2.1
  obtain ⟨is, his⟩ : ∃ q, q = rightB l0_0 l0_1 := ⟨_, rfl⟩
  obtain ⟨B, hB⟩ : ∃ q, q = (if rightB l0_0 l0_1 = true then encL l0_0 l0_1 else []) := ⟨_, rfl⟩
  have HI := Aside0.mk his
  have HQ := Aside0.mk hB
  clear his hB
  have hb0 := (Below.refl w.heap.size w).alloc (Nat.le_refl _) (.cells #[.slice A0_0 l0_0.length c0_0, .slice A0_1 l0_1.length c0_1] 25 (0, 0))
  have HD1 := Aside0.mk (Kd.C_below hr0_0 hb0)
  have HS1 := Aside0.mk (Kd.C_below hr0_1 hb0)
  have HM1 := Aside0.mk (Kd.C_below hr1 hb0)
  have KP1 := Aside0.mk (heap_alloc_new w (.cells #[.slice A0_0 l0_0.length c0_0, .slice A0_1 l0_1.length c0_1] 25 (0, 0)))
  have HB1 := Aside0.mk hb0
  have HC := Aside0.mk (And.intro hc0_0 (And.intro hc0_1 (And.intro hc1 hm1)))
  have HH := Aside0.mk h
  clear hE hr0_0 hc0_0 hr0_1 hc0_1 hr1 hc1 hm1 hb0 h
  go_enter Try.func3, Try.ntmps3
  go_upto_region 1 with fail
  generalize w.alloc (.cells #[.slice A0_0 l0_0.length c0_0, .slice A0_1 l0_1.length c0_1] 25 (0, 0)) = w1 at HD1 HS1 HM1 KP1 HB1 ⊢
  go_wp2_with fail
  refine (small_any w1).mono ?_
  rintro e w2 ⟨rfl, hX⟩
  have KP2 := Aside0.mk (vkeepB KP1.out hX)
  have HD2 := Aside0.mk (Kd.C_below HD1.out hX)
  have HS2 := Aside0.mk (Kd.C_below HS1.out hX)
  have HM2 := Aside0.mk (Kd.C_below HM1.out hX)
  have HB2 := Aside0.mk (HB1.out.trans ((hX).mono HB1.out.size))
  clear KP1 HD1 HS1 HM1 HB1
  clear hX
  obtain ⟨⟨p0, p1⟩, p2, p3⟩ := cells2r KP2.out
  go_wp2_with fail
  refine (rosettelaw15_Few.calls k A0_0 c0_0 l0_0 A0_1 c0_1 l0_1 fw w2 HD2.out HC.out.1 HS2.out HC.out.2.1 HE.out).mono ?_
  rintro e w3 ⟨rfl, hX⟩
  clear p0 p1 p2 p3
  have KP3 := Aside0.mk (vkeepB KP2.out hX)
  have HD3 := Aside0.mk (Kd.C_below HD2.out hX)
  have HS3 := Aside0.mk (Kd.C_below HS2.out hX)
  have HM3 := Aside0.mk (Kd.C_below HM2.out hX)
  have HB3 := Aside0.mk (HB2.out.trans ((hX).mono HB2.out.size))
  clear KP2 HD2 HS2 HM2 HB2
  clear hX
  go_upto_region 3 with fail
  cases fw with
  | false =>
    go_wp2
    go_ret
    exact ⟨by have h := HH.out; unfold codesF at h; rw [if_pos (by exact .inl rfl)] at h; rw [← Option.some.inj h]; rfl, HB3.out⟩
  | true =>
    by_cases d5 : l1.length > 2000
    · have d5' : (l1.length : Int) > 2000 := by omega
      go_wp2
      go_ret
      exact ⟨by have h := HH.out; unfold codesF at h; rw [if_pos (by exact .inr d5)] at h; rw [← Option.some.inj h]; rfl, HB3.out⟩
    have d5' : ¬ ((l1.length : Int) > 2000) := by omega
    have e5 : decide ((2000 : Int) < (l1.length : Int)) = false := decide_eq_false (by omega)
    have h := HH.out
    unfold codesF at h
    rw [if_neg (by rintro (hh | hh) <;> first | omega | cases hh)] at h
    split at h
    case isFalse => cases h
    case isTrue hd =>
      unfold codesOK at hd
      obtain rfl := Option.some.inj h
      rw [← HI.out] at hd
      obtain ⟨⟨⟨gl, gs⟩, E⟩, hq⟩ : ∃ q, dec15 l1 = q := ⟨_, rfl⟩
      rw [hq] at hd
      simp only at hd
      have HU := Aside0.mk hd.1
      have HEN := Aside0.mk hd.2.1
      have HSM := Aside0.mk hd.2.2.1
      have HRT := Aside0.mk hd.2.2.2
      have HDQ := Aside0.mk hq
      have HLL := Aside0.mk (show l1.length ≤ 2000 by omega)
      clear h hd HH HE hlm hq
      obtain ⟨⟨p0, p1⟩, p2, p3⟩ := cells2r KP3.out
      go_upto_region 5 with fail
      clear d5 d5' e5
      go_wp2_with fail
      refine (wencode15 l0_0 A0_0 c0_0 l0_1 A0_1 c0_1 w3 HD3.out HC.out.1 HS3.out LD.out).mono ?_
      rintro e w4 ⟨v1, rfl, hR, hX⟩
      rw [← HQ.out] at hR
      rw [← HI.out]
      obtain ⟨Aa, na, rfl, hna, hna2, _, hCa⟩ := held_own hR
      clear p0 p1 p2 p3
      have KP4 := Aside0.mk (vkeepB KP3.out hX)
      have HD4 := Aside0.mk (Kd.C_below HD3.out hX)
      have HS4 := Aside0.mk (Kd.C_below HS3.out hX)
      have HM4 := Aside0.mk (Kd.C_below HM3.out hX)
      have HB4 := Aside0.mk (HB3.out.trans ((hX).mono HB3.out.size))
      clear KP3 HD3 HS3 HM3 HB3
      have HA4 := Aside0.mk hCa
      clear hR hX hCa hna hna2
      obtain ⟨⟨p0, p1⟩, p2, p3⟩ := cells2r KP4.out
      go_upto_region 6 with fail
      go_wp2_with fail
      have hen := HEN.out
      rw [HI.out] at hen
      rw [← HQ.out, ← HI.out] at hen
      have HEN2 := Aside0.mk hen
      clear hen HEN
      refine (rosetteref15_Encode.calls k A0_0 c0_0 l0_0 A0_1 c0_1 l0_1 B is w4 HD4.out HC.out.1 HS4.out HC.out.2.1 HEN2.out).mono ?_
      rintro e w5 ⟨v2, rfl, hR, hX⟩
      obtain ⟨Ab, nb, rfl, hnb, hnb2, _, hCb⟩ := held_own hR
      clear p0 p1 p2 p3
      have KP5 := Aside0.mk (vkeepB KP4.out hX)
      have HD5 := Aside0.mk (Kd.C_below HD4.out hX)
      have HS5 := Aside0.mk (Kd.C_below HS4.out hX)
      have HM5 := Aside0.mk (Kd.C_below HM4.out hX)
      have HB5 := Aside0.mk (HB4.out.trans ((hX).mono HB4.out.size))
      have HA5 := Aside0.mk (Kd.C_below HA4.out hX)
      clear KP4 HD4 HS4 HM4 HB4 HA4
      have HY5 := Aside0.mk hCb
      clear hR hX hCb hnb hnb2
      go_upto_region 7 with fail
      go_wp2_with fail
      refine (ldec15 (l := l1) rfl HDQ.out rfl rfl A1 c1 w5 HM5.out HC.out.2.2.1 HC.out.2.2.2 HU.out (by have := HLL.out; omega)).mono ?_
      rintro e w6 ⟨A3, c3, A4, c4, rfl, hq1, hq2, hq3, hq4, hX⟩
      have q1 := Aside0.mk hq1
      have q3 := Aside0.mk hq3
      have HQC := Aside0.mk (And.intro hq2 hq4)
      clear hq1 hq3 hq2 hq4
      have KP6 := Aside0.mk (vkeepB KP5.out hX)
      have HD6 := Aside0.mk (Kd.C_below HD5.out hX)
      have HS6 := Aside0.mk (Kd.C_below HS5.out hX)
      have HM6 := Aside0.mk (Kd.C_below HM5.out hX)
      have HB6 := Aside0.mk (HB5.out.trans ((hX).mono HB5.out.size))
      have HA6 := Aside0.mk (Kd.C_below HA5.out hX)
      have HY6 := Aside0.mk (Kd.C_below HY5.out hX)
      clear KP5 HD5 HS5 HM5 HB5 HA5 HY5
      have HG6 := q1
      have HT6 := q3
      clear hX q1 q3
      have hb := (Below.refl w6.heap.size w6).alloc (Nat.le_refl _) (.cells #[.slice A3 gl.length c3, .slice A4 gs.length c4] 25 (0, 0))
      have hN := heap_alloc_new w6 (.cells #[.slice A3 gl.length c3, .slice A4 gs.length c4] 25 (0, 0))
      go_upto_region 8 with fail
      have KP7 := Aside0.mk (vkeepB KP6.out hb)
      have HD7 := Aside0.mk (Kd.C_below HD6.out hb)
      have HS7 := Aside0.mk (Kd.C_below HS6.out hb)
      have HM7 := Aside0.mk (Kd.C_below HM6.out hb)
      have HB7 := Aside0.mk (HB6.out.trans ((hb).mono HB6.out.size))
      have HA7 := Aside0.mk (Kd.C_below HA6.out hb)
      have HY7 := Aside0.mk (Kd.C_below HY6.out hb)
      have HG7 := Aside0.mk (Kd.C_below HG6.out hb)
      have HT7 := Aside0.mk (Kd.C_below HT6.out hb)
      clear KP6 HD6 HS6 HM6 HB6 HA6 HY6 HG6 HT6
      have KG7 := Aside0.mk hN
      clear hb hN
      generalize w6.alloc (.cells #[.slice A3 gl.length c3, .slice A4 gs.length c4] 25 (0, 0)) = w7 at KP7 HD7 HS7 HM7 HB7 HA7 HY7 HG7 HT7 KG7 ⊢
      generalize w6.heap.size = bKG at KG7 ⊢
      go_upto_region 8 with fail
      go_wp2_with fail
      refine (lrdec15 (l := l1) rfl HDQ.out rfl rfl A1 c1 w7 HM7.out HC.out.2.2.1 HC.out.2.2.2 HU.out (by have := HLL.out; omega)).mono ?_
      rintro e w8 ⟨A5, c5, A6, c6, rfl, hq1, hq2, hq3, hq4, hX⟩
      have q1 := Aside0.mk hq1
      have q3 := Aside0.mk hq3
      have HQ5 := Aside0.mk (And.intro hq2 hq4)
      clear hq1 hq3 hq2 hq4
      have KP8 := Aside0.mk (vkeepB KP7.out hX)
      have HD8 := Aside0.mk (Kd.C_below HD7.out hX)
      have HS8 := Aside0.mk (Kd.C_below HS7.out hX)
      have HM8 := Aside0.mk (Kd.C_below HM7.out hX)
      have HB8 := Aside0.mk (HB7.out.trans ((hX).mono HB7.out.size))
      have HA8 := Aside0.mk (Kd.C_below HA7.out hX)
      have HY8 := Aside0.mk (Kd.C_below HY7.out hX)
      have HG8 := Aside0.mk (Kd.C_below HG7.out hX)
      have HT8 := Aside0.mk (Kd.C_below HT7.out hX)
      have KG8 := Aside0.mk (vkeepB KG7.out hX)
      clear KP7 HD7 HS7 HM7 HB7 HA7 HY7 HG7 HT7 KG7
      have HV8 := q1
      have HW8 := q3
      clear hX q1 q3
      have hb := (Below.refl w8.heap.size w8).alloc (Nat.le_refl _) (.cells #[.slice A5 gl.length c5, .slice A6 gs.length c6] 25 (0, 0))
      have hN := heap_alloc_new w8 (.cells #[.slice A5 gl.length c5, .slice A6 gs.length c6] 25 (0, 0))
      go_upto_region 9 with fail
      have KP9 := Aside0.mk (vkeepB KP8.out hb)
      have HD9 := Aside0.mk (Kd.C_below HD8.out hb)
      have HS9 := Aside0.mk (Kd.C_below HS8.out hb)
      have HM9 := Aside0.mk (Kd.C_below HM8.out hb)
      have HB9 := Aside0.mk (HB8.out.trans ((hb).mono HB8.out.size))
      have HA9 := Aside0.mk (Kd.C_below HA8.out hb)
      have HY9 := Aside0.mk (Kd.C_below HY8.out hb)
      have HG9 := Aside0.mk (Kd.C_below HG8.out hb)
      have HT9 := Aside0.mk (Kd.C_below HT8.out hb)
      have KG9 := Aside0.mk (vkeepB KG8.out hb)
      have HV9 := Aside0.mk (Kd.C_below HV8.out hb)
      have HW9 := Aside0.mk (Kd.C_below HW8.out hb)
      clear KP8 HD8 HS8 HM8 HB8 HA8 HY8 HG8 HT8 KG8 HV8 HW8
      have KQ9 := Aside0.mk hN
      clear hb hN
      generalize w8.alloc (.cells #[.slice A5 gl.length c5, .slice A6 gs.length c6] 25 (0, 0)) = w9 at KP9 HD9 HS9 HM9 HB9 HA9 HY9 HG9 HT9 KG9 HV9 HW9 KQ9 ⊢
      generalize w8.heap.size = bKQ at KQ9 ⊢
      have hbd := below_drew (Below.refl w9.heap.size w9)
      have KPc := Aside0.mk (vkeepB KP9.out hbd)
      have HDc := Aside0.mk (Kd.C_below HD9.out hbd)
      have HSc := Aside0.mk (Kd.C_below HS9.out hbd)
      have HMc := Aside0.mk (Kd.C_below HM9.out hbd)
      have HBc := Aside0.mk (below_drew HB9.out)
      have HAc := Aside0.mk (Kd.C_below HA9.out hbd)
      have HYc := Aside0.mk (Kd.C_below HY9.out hbd)
      have HGc := Aside0.mk (Kd.C_below HG9.out hbd)
      have HTc := Aside0.mk (Kd.C_below HT9.out hbd)
      have KGc := Aside0.mk (vkeepB KG9.out hbd)
      have HVc := Aside0.mk (Kd.C_below HV9.out hbd)
      have HWc := Aside0.mk (Kd.C_below HW9.out hbd)
      have KQc := Aside0.mk (vkeepB KQ9.out hbd)
      clear hbd KP9 HD9 HS9 HM9 HB9 HA9 HY9 HG9 HT9 KG9 HV9 HW9 KQ9
      have hs3 := str_selfc B
      cases hbs : (is == is) with
      | false => cases is <;> cases hbs
      | true =>
        refine wp_region_held_drew (S := (fun W => W.cell? ⟨w.heap.size, 0, none⟩ = some (.slice A0_0 l0_0.length c0_0) ∧ W.cell? ⟨w.heap.size, 1, none⟩ = some (.slice A0_1 l0_1.length c0_1) ∧ W.cell? ⟨bKG, 0, none⟩ = some (.slice A3 gl.length c3) ∧ W.cell? ⟨bKG, 1, none⟩ = some (.slice A4 gs.length c4) ∧ W.cell? ⟨bKQ, 0, none⟩ = some (.slice A5 gl.length c5) ∧ W.cell? ⟨bKQ, 1, none⟩ = some (.slice A6 gs.length c6) ∧ (convert 26 9 (.slice Aa B.length na)).run Try.prog W = .ok (.string (strOfNums B)) W ∧ (convert 26 9 (.slice Ab B.length nb)).run Try.prog W = .ok (.string (strOfNums B)) W)) (by kernel_rfl) ⟨(cells2w KPc.out).1, (cells2w KPc.out).2, (cells2w KGc.out).1, (cells2w KGc.out).2, (cells2w KQc.out).1, (cells2w KQc.out).2, Kd.C_string (P := Try.prog) (A := Aa) (c := na) Try.underlying26 Try.underlying5 Try.underlying9 HAc.out, Kd.C_string (P := Try.prog) (A := Ab) (c := nb) Try.underlying26 Try.underlying5 Try.underlying9 HYc.out⟩ (fun hHeld => ?_)
        refine wpAnyH_take (i := 0) (oi := { dst := some 46, op := Op.move (Operand.tmp 5), type := 4, pos := "law.go:49", after := #[], guard := none }) (v := ?_) rfl (by kernel_rfl) (by kernel_rfl) (by kernel_rfl) (fun _ _ _ h => h) (Or.inl ⟨by rfl, ?_⟩) (by assumption) ?_
        rotate_left
        · intro w hSw
          try dsimp only at hSw
          go_simp
          all_goals with_reducible rfl
        try simp only [Act.put, List.setIfInBounds_toArray, List.set_cons_zero, List.set_cons_succ]
        refine wpAnyH_take (i := 1) (oi := { dst := some 47, op := Op.move (Operand.tmp 46), type := 4, pos := "law.go:49", after := #[{ on := 0, ground := Ground.data }], guard := none }) (v := ?_) rfl (by kernel_rfl) (by kernel_rfl) (by kernel_rfl) (fun _ _ _ h => h) (Or.inl ⟨by rfl, ?_⟩) (by assumption) ?_
        rotate_left
        · intro w hSw
          try dsimp only at hSw
          go_simp
          all_goals with_reducible rfl
        try simp only [Act.put, List.setIfInBounds_toArray, List.set_cons_zero, List.set_cons_succ]
        refine wpAnyH_take (i := 2) (oi := { dst := some 48, op := Op.move (Operand.tmp 7), type := 26, pos := "law.go:49", after := #[{ on := 1, ground := Ground.guard }], guard := some (1, true) }) (v := ?_) rfl (by kernel_rfl) (by kernel_rfl) (by kernel_rfl) (fun _ _ _ h => h) (Or.inl ⟨by rfl, ?_⟩) (by assumption) ?_
        rotate_left
        · intro w hSw
          try dsimp only at hSw
          go_simp
          all_goals with_reducible rfl
        try simp only [Act.put, List.setIfInBounds_toArray, List.set_cons_zero, List.set_cons_succ]
        refine wpAnyH_take (i := 3) (oi := { dst := some 49, op := Op.convert 26 9 (Operand.tmp 48), type := 9, pos := "law.go:49", after := #[{ on := 2, ground := Ground.data }, { on := 1, ground := Ground.guard }], guard := some (1, true) }) (v := ?_) rfl (by kernel_rfl) (by kernel_rfl) (by kernel_rfl) (fun _ _ _ h => h) (Or.inl ⟨by rfl, ?_⟩) (by assumption) ?_
        rotate_left
        · intro w hSw
          try dsimp only at hSw
          go_simp
          all_goals with_reducible rfl
        try simp only [Act.put, List.setIfInBounds_toArray, List.set_cons_zero, List.set_cons_succ]
        refine wpAnyH_take (i := 4) (oi := { dst := some 50, op := Op.move (Operand.tmp 9), type := 26, pos := "law.go:49", after := #[{ on := 1, ground := Ground.guard }], guard := some (1, true) }) (v := ?_) rfl (by kernel_rfl) (by kernel_rfl) (by kernel_rfl) (fun _ _ _ h => h) (Or.inl ⟨by rfl, ?_⟩) (by assumption) ?_
        rotate_left
        · intro w hSw
          try dsimp only at hSw
          go_simp
          all_goals with_reducible rfl
        try simp only [Act.put, List.setIfInBounds_toArray, List.set_cons_zero, List.set_cons_succ]
        refine wpAnyH_take (i := 5) (oi := { dst := some 51, op := Op.convert 26 9 (Operand.tmp 50), type := 9, pos := "law.go:49", after := #[{ on := 4, ground := Ground.data }, { on := 1, ground := Ground.guard }], guard := some (1, true) }) (v := ?_) rfl (by kernel_rfl) (by kernel_rfl) (by kernel_rfl) (fun _ _ _ h => h) (Or.inl ⟨by rfl, ?_⟩) (by assumption) ?_
        rotate_left
        · intro w hSw
          try dsimp only at hSw
          go_simp
          all_goals with_reducible rfl
        try simp only [Act.put, List.setIfInBounds_toArray, List.set_cons_zero, List.set_cons_succ]
        refine wpAnyH_take (i := 6) (oi := { dst := some 52, op := Op.binOp BinOp.eql 9 (Operand.tmp 49) (Operand.tmp 51) 9, type := 4, pos := "law.go:49", after := #[{ on := 3, ground := Ground.data }, { on := 5, ground := Ground.data }, { on := 1, ground := Ground.guard }], guard := some (1, true) }) (v := ?_) rfl (by kernel_rfl) (by kernel_rfl) (by kernel_rfl) (fun _ _ _ h => h) (Or.inl ⟨by rfl, ?_⟩) (by assumption) ?_
        rotate_left
        · intro w hSw
          try dsimp only at hSw
          go_simp
          all_goals with_reducible rfl
        try simp only [Act.put, List.setIfInBounds_toArray, List.set_cons_zero, List.set_cons_succ]
        refine wpAnyH_take (i := 7) (oi := { dst := some 53, op := Op.pick (Operand.tmp 47) (Operand.tmp 52) (Operand.const (Value.bool false)), type := 4, pos := "law.go:49", after := #[{ on := 1, ground := Ground.data }, { on := 6, ground := Ground.data }], guard := none }) (v := ?_) rfl (by kernel_rfl) (by kernel_rfl) (by kernel_rfl) (fun _ _ _ h => h) (Or.inl ⟨by rfl, ?_⟩) (by assumption) ?_
        rotate_left
        · intro w hSw
          try dsimp only at hSw
          go_simp
          all_goals with_reducible rfl
        try simp only [Act.put, List.setIfInBounds_toArray, List.set_cons_zero, List.set_cons_succ]
        refine wpAnyH_take (i := 8) (oi := { dst := some 54, op := Op.move (Operand.tmp 53), type := 4, pos := "law.go:49", after := #[{ on := 7, ground := Ground.data }, { on := 1, ground := Ground.chain }], guard := none }) (v := ?_) rfl (by kernel_rfl) (by kernel_rfl) (by kernel_rfl) (fun _ _ _ h => h) (Or.inl ⟨by rfl, ?_⟩) (by assumption) ?_
        rotate_left
        · intro w hSw
          try dsimp only at hSw
          go_simp
          all_goals with_reducible rfl
        try simp only [Act.put, List.setIfInBounds_toArray, List.set_cons_zero, List.set_cons_succ]
        refine wpAnyH_take (i := 9) (oi := { dst := some 55, op := Op.move (Operand.tmp 8), type := 4, pos := "law.go:49", after := #[{ on := 8, ground := Ground.guard }], guard := some (8, true) }) (v := ?_) rfl (by kernel_rfl) (by kernel_rfl) (by kernel_rfl) (fun _ _ _ h => h) (Or.inl ⟨by rfl, ?_⟩) (by assumption) ?_
        rotate_left
        · intro w hSw
          try dsimp only at hSw
          go_simp
          all_goals with_reducible rfl
        try simp only [Act.put, List.setIfInBounds_toArray, List.set_cons_zero, List.set_cons_succ]
        refine wpAnyH_take (i := 10) (oi := { dst := some 56, op := Op.move (Operand.tmp 10), type := 4, pos := "law.go:49", after := #[{ on := 8, ground := Ground.guard }], guard := some (8, true) }) (v := ?_) rfl (by kernel_rfl) (by kernel_rfl) (by kernel_rfl) (fun _ _ _ h => h) (Or.inl ⟨by rfl, ?_⟩) (by assumption) ?_
        rotate_left
        · intro w hSw
          try dsimp only at hSw
          go_simp
          all_goals with_reducible rfl
        try simp only [Act.put, List.setIfInBounds_toArray, List.set_cons_zero, List.set_cons_succ]
        refine wpAnyH_take (i := 11) (oi := { dst := some 57, op := Op.binOp BinOp.eql 4 (Operand.tmp 55) (Operand.tmp 56) 4, type := 4, pos := "law.go:49", after := #[{ on := 9, ground := Ground.data }, { on := 10, ground := Ground.data }, { on := 8, ground := Ground.guard }], guard := some (8, true) }) (v := ?_) rfl (by kernel_rfl) (by kernel_rfl) (by kernel_rfl) (fun _ _ _ h => h) (Or.inl ⟨by rfl, ?_⟩) (by assumption) ?_
        rotate_left
        · intro w hSw
          try dsimp only at hSw
          go_simp
          all_goals with_reducible rfl
        try simp only [Act.put, List.setIfInBounds_toArray, List.set_cons_zero, List.set_cons_succ]
        refine wpAnyH_take (i := 12) (oi := { dst := some 58, op := Op.pick (Operand.tmp 54) (Operand.tmp 57) (Operand.const (Value.bool false)), type := 4, pos := "law.go:49", after := #[{ on := 8, ground := Ground.data }, { on := 11, ground := Ground.data }], guard := none }) (v := ?_) rfl (by kernel_rfl) (by kernel_rfl) (by kernel_rfl) (fun _ _ _ h => h) (Or.inl ⟨by rfl, ?_⟩) (by assumption) ?_
        rotate_left
        · intro w hSw
          try dsimp only at hSw
          go_simp
          all_goals with_reducible rfl
        try simp only [Act.put, List.setIfInBounds_toArray, List.set_cons_zero, List.set_cons_succ]
        refine wpAnyH_take (i := 13) (oi := { dst := some 59, op := Op.move (Operand.tmp 58), type := 4, pos := "law.go:49", after := #[{ on := 12, ground := Ground.data }, { on := 8, ground := Ground.chain }], guard := none }) (v := ?_) rfl (by kernel_rfl) (by kernel_rfl) (by kernel_rfl) (fun _ _ _ h => h) (Or.inl ⟨by rfl, ?_⟩) (by assumption) ?_
        rotate_left
        · intro w hSw
          try dsimp only at hSw
          go_simp
          all_goals with_reducible rfl
        try simp only [Act.put, List.setIfInBounds_toArray, List.set_cons_zero, List.set_cons_succ]
        refine wpAnyH_take (i := 14) (oi := { dst := some 60, op := Op.load 25 (Operand.tmp 11), type := 25, pos := "law.go:49", after := #[{ on := 13, ground := Ground.guard }], guard := some (13, true) }) (v := ?_) rfl (by kernel_rfl) (by kernel_rfl) (by kernel_rfl) (fun _ _ _ h => h) (Or.inl ⟨by rfl, ?_⟩) (by assumption) ?_
        rotate_left
        · intro w hSw
          try dsimp only at hSw
          go_simp
          all_goals with_reducible rfl
        try simp only [Act.put, List.setIfInBounds_toArray, List.set_cons_zero, List.set_cons_succ]
        refine wpAnyH_take (i := 15) (oi := { dst := some 61, op := Op.load 25 (Operand.tmp 13), type := 25, pos := "law.go:49", after := #[{ on := 13, ground := Ground.guard }], guard := some (13, true) }) (v := ?_) rfl (by kernel_rfl) (by kernel_rfl) (by kernel_rfl) (fun _ _ _ h => h) (Or.inl ⟨by rfl, ?_⟩) (by assumption) ?_
        rotate_left
        · intro w hSw
          try dsimp only at hSw
          go_simp
          all_goals with_reducible rfl
        try simp only [Act.put, List.setIfInBounds_toArray, List.set_cons_zero, List.set_cons_succ]
        refine wpAnyH_ready (rs := [16]) (by kernel_rfl) (by simp) ?_
        refine AllReadyH.cons (o := { dst := some 62, op := Op.call { callee := Callee.value (Operand.func 14), args := #[Operand.tmp 60, Operand.tmp 61], argTypes := #[25, 25] }, type := 4, pos := "law.go:49", after := #[{ on := 14, ground := Ground.data }, { on := 15, ground := Ground.data }, { on := 13, ground := Ground.chain }, { on := 13, ground := Ground.guard }], guard := some (13, true) }) rfl (fun K hK => ?_) AllReadyH.nil
        go_simp
        (clear hs3; refine (rosetteref15_Same.calls k A3 c3 gl A4 c4 gs A5 c5 gl A6 c6 gs true _ HGc.out HQC.out.1 HTc.out HQC.out.2 HVc.out HQ5.out.1 HWc.out HQ5.out.2 HSM.out).mono ?_; rintro e wn ⟨rfl, hX⟩; have KPd := Aside0.mk (vkeepB KPc.out hX); have HDd := Aside0.mk (Kd.C_below HDc.out hX); have HSd := Aside0.mk (Kd.C_below HSc.out hX); have HMd := Aside0.mk (Kd.C_below HMc.out hX); have HBd := Aside0.mk (below_via6 HBc.out hX); have HAd := Aside0.mk (Kd.C_below HAc.out hX); have HYd := Aside0.mk (Kd.C_below HYc.out hX); have HGd := Aside0.mk (Kd.C_below HGc.out hX); have HTd := Aside0.mk (Kd.C_below HTc.out hX); have KGd := Aside0.mk (vkeepB KGc.out hX); have HVd := Aside0.mk (Kd.C_below HVc.out hX); have HWd := Aside0.mk (Kd.C_below HWc.out hX); have KQd := Aside0.mk (vkeepB KQc.out hX); clear KPc HDc HSc HMc HBc HAc HYc HGc HTc KGc HVc HWc KQc; have KPc := KPd; have HDc := HDd; have HSc := HSd; have HMc := HMd; have HBc := HBd; have HAc := HAd; have HYc := HYd; have HGc := HGd; have HTc := HTd; have KGc := KGd; have HVc := HVd; have HWc := HWd; have KQc := KQd; clear KPd HDd HSd HMd HBd HAd HYd HGd HTd KGd HVd HWd KQd; clear hX)
        go_wp2_with fail
        refine hK.out _ _ ⟨(cells2w KPc.out).1, (cells2w KPc.out).2, (cells2w KGc.out).1, (cells2w KGc.out).2, (cells2w KQc.out).1, (cells2w KQc.out).2, Kd.C_string (P := Try.prog) (A := Aa) (c := na) Try.underlying26 Try.underlying5 Try.underlying9 HAc.out, Kd.C_string (P := Try.prog) (A := Ab) (c := nb) Try.underlying26 Try.underlying5 Try.underlying9 HYc.out⟩ (fun hHeld => ?_)
        clear hK K
        try simp only [Act.put, List.setIfInBounds_toArray, List.set_cons_zero, List.set_cons_succ]
        refine wpAnyH_take (i := 17) (oi := { dst := some 63, op := Op.pick (Operand.tmp 59) (Operand.tmp 62) (Operand.const (Value.bool false)), type := 4, pos := "law.go:49", after := #[{ on := 13, ground := Ground.data }, { on := 16, ground := Ground.data }], guard := none }) (v := ?_) rfl (by kernel_rfl) (by kernel_rfl) (by kernel_rfl) (fun _ _ _ h => h) (Or.inl ⟨by rfl, ?_⟩) (by assumption) ?_
        rotate_left
        · intro w hSw
          try dsimp only at hSw
          go_simp
          all_goals with_reducible rfl
        try simp only [Act.put, List.setIfInBounds_toArray, List.set_cons_zero, List.set_cons_succ]
        refine wpAnyH_take (i := 18) (oi := { dst := some 64, op := Op.move (Operand.tmp 63), type := 4, pos := "law.go:49", after := #[{ on := 17, ground := Ground.data }, { on := 16, ground := Ground.chain }], guard := none }) (v := ?_) rfl (by kernel_rfl) (by kernel_rfl) (by kernel_rfl) (fun _ _ _ h => h) (Or.inl ⟨by rfl, ?_⟩) (by assumption) ?_
        rotate_left
        · intro w hSw
          try dsimp only at hSw
          go_simp
          all_goals with_reducible rfl
        try simp only [Act.put, List.setIfInBounds_toArray, List.set_cons_zero, List.set_cons_succ]
        refine wpAnyH_take (i := 19) (oi := { dst := some 65, op := Op.move (Operand.tmp 12), type := 31, pos := "law.go:49", after := #[{ on := 18, ground := Ground.guard }], guard := some (18, true) }) (v := ?_) rfl (by kernel_rfl) (by kernel_rfl) (by kernel_rfl) (fun _ _ _ h => h) (Or.inl ⟨by rfl, ?_⟩) (by assumption) ?_
        rotate_left
        · intro w hSw
          try dsimp only at hSw
          go_simp
          all_goals with_reducible rfl
        try simp only [Act.put, List.setIfInBounds_toArray, List.set_cons_zero, List.set_cons_succ]
        refine wpAnyH_take (i := 20) (oi := { dst := some 66, op := Op.move (Operand.tmp 14), type := 31, pos := "law.go:49", after := #[{ on := 18, ground := Ground.guard }], guard := some (18, true) }) (v := ?_) rfl (by kernel_rfl) (by kernel_rfl) (by kernel_rfl) (fun _ _ _ h => h) (Or.inl ⟨by rfl, ?_⟩) (by assumption) ?_
        rotate_left
        · intro w hSw
          try dsimp only at hSw
          go_simp
          all_goals with_reducible rfl
        try simp only [Act.put, List.setIfInBounds_toArray, List.set_cons_zero, List.set_cons_succ]
        refine wpAnyH_take (i := 21) (oi := { dst := some 67, op := Op.binOp BinOp.eql 31 (Operand.tmp 65) (Operand.tmp 66) 31, type := 4, pos := "law.go:49", after := #[{ on := 19, ground := Ground.data }, { on := 20, ground := Ground.data }, { on := 18, ground := Ground.guard }], guard := some (18, true) }) (v := ?_) rfl (by kernel_rfl) (by kernel_rfl) (by kernel_rfl) (fun _ _ _ h => h) (Or.inl ⟨by rfl, ?_⟩) (by assumption) ?_
        rotate_left
        · intro w hSw
          try dsimp only at hSw
          go_simp
          all_goals with_reducible rfl
        try simp only [Act.put, List.setIfInBounds_toArray, List.set_cons_zero, List.set_cons_succ]
        refine wpAnyH_take (i := 22) (oi := { dst := some 68, op := Op.pick (Operand.tmp 64) (Operand.tmp 67) (Operand.const (Value.bool false)), type := 4, pos := "law.go:49", after := #[{ on := 18, ground := Ground.data }, { on := 21, ground := Ground.data }], guard := none }) (v := ?_) rfl (by kernel_rfl) (by kernel_rfl) (by kernel_rfl) (fun _ _ _ h => h) (Or.inl ⟨by rfl, ?_⟩) (by assumption) ?_
        rotate_left
        · intro w hSw
          try dsimp only at hSw
          go_simp
          all_goals with_reducible rfl
        try simp only [Act.put, List.setIfInBounds_toArray, List.set_cons_zero, List.set_cons_succ]
        refine wpAnyH_take (i := 23) (oi := { dst := some 69, op := Op.move (Operand.tmp 68), type := 4, pos := "law.go:49", after := #[{ on := 22, ground := Ground.data }, { on := 18, ground := Ground.chain }], guard := none }) (v := ?_) rfl (by kernel_rfl) (by kernel_rfl) (by kernel_rfl) (fun _ _ _ h => h) (Or.inl ⟨by rfl, ?_⟩) (by assumption) ?_
        rotate_left
        · intro w hSw
          try dsimp only at hSw
          go_simp
          all_goals with_reducible rfl
        try simp only [Act.put, List.setIfInBounds_toArray, List.set_cons_zero, List.set_cons_succ]
        refine wpAnyH_take (i := 24) (oi := { dst := some 70, op := Op.load 25 (Operand.tmp 2), type := 25, pos := "law.go:49", after := #[{ on := 23, ground := Ground.guard }], guard := some (23, true) }) (v := ?_) rfl (by kernel_rfl) (by kernel_rfl) (by kernel_rfl) (fun _ _ _ h => h) (Or.inl ⟨by rfl, ?_⟩) (by assumption) ?_
        rotate_left
        · intro w hSw
          try dsimp only at hSw
          go_simp
          all_goals with_reducible rfl
        try simp only [Act.put, List.setIfInBounds_toArray, List.set_cons_zero, List.set_cons_succ]
        refine wpAnyH_take (i := 26) (oi := { dst := some 72, op := Op.load 25 (Operand.tmp 2), type := 25, pos := "law.go:49", after := #[{ on := 23, ground := Ground.guard }], guard := some (23, true) }) (v := ?_) rfl (by kernel_rfl) (by kernel_rfl) (by kernel_rfl) (fun _ _ _ h => h) (Or.inl ⟨by rfl, ?_⟩) (by assumption) ?_
        rotate_left
        · intro w hSw
          try dsimp only at hSw
          go_simp
          all_goals with_reducible rfl
        try simp only [Act.put, List.setIfInBounds_toArray, List.set_cons_zero, List.set_cons_succ]
        refine wpAnyH_ready (rs := [25]) (by kernel_rfl) (by simp) ?_
        refine AllReadyH.cons (o := { dst := some 71, op := Op.call { callee := Callee.value (Operand.func 15), args := #[Operand.tmp 70], argTypes := #[25] }, type := 4, pos := "law.go:49", after := #[{ on := 24, ground := Ground.data }, { on := 23, ground := Ground.chain }, { on := 23, ground := Ground.guard }], guard := some (23, true) }) rfl (fun K hK => ?_) AllReadyH.nil
        go_simp
        (refine (wright l0_0 A0_0 c0_0 l0_1 A0_1 c0_1 _ HDc.out HC.out.1 HSc.out LD.out).mono ?_; rintro e wn ⟨rfl, hX⟩; rw [← HI.out]; have KPd := Aside0.mk (vkeepB KPc.out hX); have HDd := Aside0.mk (Kd.C_below HDc.out hX); have HSd := Aside0.mk (Kd.C_below HSc.out hX); have HMd := Aside0.mk (Kd.C_below HMc.out hX); have HBd := Aside0.mk (below_via6 HBc.out hX); have HAd := Aside0.mk (Kd.C_below HAc.out hX); have HYd := Aside0.mk (Kd.C_below HYc.out hX); have HGd := Aside0.mk (Kd.C_below HGc.out hX); have HTd := Aside0.mk (Kd.C_below HTc.out hX); have KGd := Aside0.mk (vkeepB KGc.out hX); have HVd := Aside0.mk (Kd.C_below HVc.out hX); have HWd := Aside0.mk (Kd.C_below HWc.out hX); have KQd := Aside0.mk (vkeepB KQc.out hX); clear KPc HDc HSc HMc HBc HAc HYc HGc HTc KGc HVc HWc KQc; have KPc := KPd; have HDc := HDd; have HSc := HSd; have HMc := HMd; have HBc := HBd; have HAc := HAd; have HYc := HYd; have HGc := HGd; have HTc := HTd; have KGc := KGd; have HVc := HVd; have HWc := HWd; have KQc := KQd; clear KPd HDd HSd HMd HBd HAd HYd HGd HTd KGd HVd HWd KQd; clear hX)
        go_wp2_with fail
        refine hK.out _ _ ⟨(cells2w KPc.out).1, (cells2w KPc.out).2, (cells2w KGc.out).1, (cells2w KGc.out).2, (cells2w KQc.out).1, (cells2w KQc.out).2, Kd.C_string (P := Try.prog) (A := Aa) (c := na) Try.underlying26 Try.underlying5 Try.underlying9 HAc.out, Kd.C_string (P := Try.prog) (A := Ab) (c := nb) Try.underlying26 Try.underlying5 Try.underlying9 HYc.out⟩ (fun hHeld => ?_)
        clear hK K
        try simp only [Act.put, List.setIfInBounds_toArray, List.set_cons_zero, List.set_cons_succ]
        refine wpAnyH_ready (rs := [27]) (by kernel_rfl) (by simp) ?_
        refine AllReadyH.cons (o := { dst := some 73, op := Op.call { callee := Callee.value (Operand.func 16), args := #[Operand.tmp 72], argTypes := #[25] }, type := 4, pos := "law.go:49", after := #[{ on := 26, ground := Ground.data }, { on := 25, ground := Ground.chain }, { on := 23, ground := Ground.guard }], guard := some (23, true) }) rfl (fun K hK => ?_) AllReadyH.nil
        go_simp
        (refine (rosetteref15_Right.calls k A0_0 c0_0 l0_0 A0_1 c0_1 l0_1 is _ HDc.out HC.out.1 HSc.out HC.out.2.1 HRT.out).mono ?_; rintro e wn ⟨rfl, hX⟩; have KPd := Aside0.mk (vkeepB KPc.out hX); have HDd := Aside0.mk (Kd.C_below HDc.out hX); have HSd := Aside0.mk (Kd.C_below HSc.out hX); have HMd := Aside0.mk (Kd.C_below HMc.out hX); have HBd := Aside0.mk (below_via6 HBc.out hX); have HAd := Aside0.mk (Kd.C_below HAc.out hX); have HYd := Aside0.mk (Kd.C_below HYc.out hX); have HGd := Aside0.mk (Kd.C_below HGc.out hX); have HTd := Aside0.mk (Kd.C_below HTc.out hX); have KGd := Aside0.mk (vkeepB KGc.out hX); have HVd := Aside0.mk (Kd.C_below HVc.out hX); have HWd := Aside0.mk (Kd.C_below HWc.out hX); have KQd := Aside0.mk (vkeepB KQc.out hX); clear KPc HDc HSc HMc HBc HAc HYc HGc HTc KGc HVc HWc KQc; have KPc := KPd; have HDc := HDd; have HSc := HSd; have HMc := HMd; have HBc := HBd; have HAc := HAd; have HYc := HYd; have HGc := HGd; have HTc := HTd; have KGc := KGd; have HVc := HVd; have HWc := HWd; have KQc := KQd; clear KPd HDd HSd HMd HBd HAd HYd HGd HTd KGd HVd HWd KQd; clear hX)
        go_wp2_with fail
        refine hK.out _ _ ⟨(cells2w KPc.out).1, (cells2w KPc.out).2, (cells2w KGc.out).1, (cells2w KGc.out).2, (cells2w KQc.out).1, (cells2w KQc.out).2, Kd.C_string (P := Try.prog) (A := Aa) (c := na) Try.underlying26 Try.underlying5 Try.underlying9 HAc.out, Kd.C_string (P := Try.prog) (A := Ab) (c := nb) Try.underlying26 Try.underlying5 Try.underlying9 HYc.out⟩ (fun hHeld => ?_)
        clear hK K
        try simp only [Act.put, List.setIfInBounds_toArray, List.set_cons_zero, List.set_cons_succ]
        refine wpAnyH_take (i := 28) (oi := { dst := some 74, op := Op.binOp BinOp.eql 4 (Operand.tmp 71) (Operand.tmp 73) 4, type := 4, pos := "law.go:49", after := #[{ on := 25, ground := Ground.data }, { on := 27, ground := Ground.data }, { on := 23, ground := Ground.guard }], guard := some (23, true) }) (v := ?_) rfl (by kernel_rfl) (by kernel_rfl) (by kernel_rfl) (fun _ _ _ h => h) (Or.inl ⟨by rfl, ?_⟩) (by assumption) ?_
        rotate_left
        · intro w hSw
          try dsimp only at hSw
          go_simp
          all_goals with_reducible rfl
        try simp only [Act.put, List.setIfInBounds_toArray, List.set_cons_zero, List.set_cons_succ]
        refine wpAnyH_take (i := 29) (oi := { dst := some 75, op := Op.pick (Operand.tmp 69) (Operand.tmp 74) (Operand.const (Value.bool false)), type := 4, pos := "law.go:49", after := #[{ on := 23, ground := Ground.data }, { on := 28, ground := Ground.data }], guard := none }) (v := ?_) rfl (by kernel_rfl) (by kernel_rfl) (by kernel_rfl) (fun _ _ _ h => h) (Or.inl ⟨by rfl, ?_⟩) (by assumption) ?_
        rotate_left
        · intro w hSw
          try dsimp only at hSw
          go_simp
          all_goals with_reducible rfl
        try simp only [Act.put, List.setIfInBounds_toArray, List.set_cons_zero, List.set_cons_succ]
        refine wpAnyH_take (i := 30) (oi := { dst := some 4, op := Op.assign (Operand.tmp 75), type := 4, pos := "law.go:49", after := #[{ on := 29, ground := Ground.data }, { on := 27, ground := Ground.chain }, { on := 0, ground := Ground.phase }, { on := 1, ground := Ground.phase }, { on := 2, ground := Ground.phase }, { on := 3, ground := Ground.phase }, { on := 4, ground := Ground.phase }, { on := 5, ground := Ground.phase }, { on := 6, ground := Ground.phase }, { on := 7, ground := Ground.phase }, { on := 8, ground := Ground.phase }, { on := 9, ground := Ground.phase }, { on := 10, ground := Ground.phase }, { on := 11, ground := Ground.phase }, { on := 12, ground := Ground.phase }, { on := 13, ground := Ground.phase }, { on := 14, ground := Ground.phase }, { on := 15, ground := Ground.phase }, { on := 16, ground := Ground.phase }, { on := 17, ground := Ground.phase }, { on := 18, ground := Ground.phase }, { on := 19, ground := Ground.phase }, { on := 20, ground := Ground.phase }, { on := 21, ground := Ground.phase }, { on := 22, ground := Ground.phase }, { on := 23, ground := Ground.phase }, { on := 24, ground := Ground.phase }, { on := 25, ground := Ground.phase }, { on := 26, ground := Ground.phase }, { on := 27, ground := Ground.phase }, { on := 28, ground := Ground.phase }, { on := 29, ground := Ground.phase }], guard := none }) (v := ?_) rfl (by kernel_rfl) (by kernel_rfl) (by kernel_rfl) (fun _ _ _ h => h) (Or.inl ⟨by rfl, ?_⟩) (by assumption) ?_
        rotate_left
        · intro w hSw
          try dsimp only at hSw
          go_simp
          all_goals with_reducible rfl
        try simp only [Act.put, List.setIfInBounds_toArray, List.set_cons_zero, List.set_cons_succ]
        refine wpAnyH_done (by kernel_rfl) ?_ _
        go_wp2_with fail
        go_ret
        exact ⟨rfl, HBc.out⟩
end Go.Proofs.Ytkdhcmmfklganaa.G
end

section
namespace Go.Proofs.Ytkdhcmmfklganaa.G
open Go.RowKit Go.Proofs.Ytkdhcmmfklganaa Go.Proofs.Ytkdhcmmfklganaa.G Go.Proofs.YtkdhcmmfklganaaW.PrintWords Go.Proofs.YtkdhcmmfklganaaW.PrintLast
/-! #### struct type 25 -/
structure S25 where
  f0 : (List Int)
  f1 : (List S40)
def z25 : S25 := ⟨([] : List Int), ([] : List S40)⟩
def k25 : Kd S25 := Kd.iso (Kd.pair (Kd.slice 3 (Kd.int .i64)) (Kd.slice 40 k40)) (fun x : S25 => (x.f0, x.f1))
theorem k25_open {w : World} {x : S25} {cs : List Value} (h : k25.K w x cs) : ∃ A0 c0 A1 c1, cs = [.slice A0 x.f0.length c0, .slice A1 x.f1.length c1] ∧ x.f0.length ≤ c0 ∧ (Kd.int .i64).C w A0 x.f0.length x.f0 ∧ x.f1.length ≤ c1 ∧ k40.C w A1 x.f1.length x.f1 := by
  obtain ⟨_, _, rfl, ⟨A0, c0, rfl, l0, g0⟩, ⟨A1, c1, rfl, l1, g1⟩⟩ := h
  exact ⟨A0, c0, A1, c1, rfl, l0, g0, l1, g1⟩
theorem k25_openM {w : World} {base : Nat} {ok : Nat → Prop} {x : S25} {cs : List Value} (h : k25.M w base ok x cs) : ∃ v0 v1, cs = [v0, v1] ∧ (Kd.int .i64).R 3 w base ok v0 x.f0 ∧ k40.R 40 w base ok v1 x.f1 := by
  obtain ⟨_, _, rfl, ⟨v0, rfl, g0⟩, ⟨v1, rfl, g1⟩⟩ := h
  exact ⟨v0, v1, rfl, g0, g1⟩
theorem k25_mk (w : World) (x : S25) {A0 : Option Addr} {c0 : Nat} (l0 : x.f0.length ≤ c0) (g0 : (Kd.int .i64).C w A0 x.f0.length x.f0) {A1 : Option Addr} {c1 : Nat} (l1 : x.f1.length ≤ c1) (g1 : k40.C w A1 x.f1.length x.f1) : k25.K w x [.slice A0 x.f0.length c0, .slice A1 x.f1.length c1] := ⟨[.slice A0 x.f0.length c0], [.slice A1 x.f1.length c1], rfl, ⟨A0, c0, rfl, l0, g0⟩, ⟨A1, c1, rfl, l1, g1⟩⟩
theorem k25_mkM (w : World) (base : Nat) (ok : Nat → Prop) (x : S25) {v0 : Value} (g0 : (Kd.int .i64).R 3 w base ok v0 x.f0) {v1 : Value} (g1 : k40.R 40 w base ok v1 x.f1) : k25.M w base ok x [v0, v1] := ⟨[v0], [v1], rfl, ⟨v0, rfl, g0⟩, ⟨v1, rfl, g1⟩⟩

/-- The pure statement of rosettelaw15_FirstCodes. -/
def rosettelaw15_FirstCodes.Pure : Prop := ∀ (a0 : S25) (l1 : (List Int)), (((a0.f0.length ≤ maxLen ∧ a0.f0.length * 8 ≤ 140737488351232) ∧ ∀ x0 ∈ a0.f0, (Lit.int .i64 x0).wf = true) ∧ ((a0.f1.length ≤ maxLen ∧ a0.f1.length * 40 ≤ 140737488351232) ∧ ∀ x0 ∈ a0.f1, ((Lit.int .i64 x0.f0).wf = true ∧ ((Lit.int .i64 x0.f1).wf = true ∧ ((x0.f2.length ≤ maxLen ∧ x0.f2.length * 32 ≤ 140737488351232) ∧ ∀ x1 ∈ x0.f2, (x1.f0.size ≤ 140737488351232 ∧ ((Lit.int .i64 x1.f1).wf = true ∧ (Lit.int .i64 x1.f2).wf = true))))))) → ((l1.length ≤ maxLen ∧ l1.length * 1 ≤ 140737488351232) ∧ ∀ x0 ∈ l1, (Lit.int .u8 x0).wf = true) → ∃ k, rosettelaw15_FirstCodes.f k a0.f0 a0.f1 l1 = some true
end Go.Proofs.Ytkdhcmmfklganaa.G
end

section
/- the document's answer lays numbers as the program does; plain laws -/
set_option linter.unusedVariables false
set_option autoImplicit false
namespace Go.Proofs.Ytkdhcmmfklganaa
open Go.RowKit Go.Proofs.YtkdhcmmfklganaaW.PrintWords Go.Proofs.YtkdhcmmfklganaaW.PrintLast Go.Proofs.YtkdhcmmfklganaaW.PrintMore Go.Proofs.Ytkdhcmmfklganaa.G

theorem big_byte (n : Int) (j : Nat) (hj : j ≤ 3) : shr .u64 (IntKind.u64.wrap n) (IntKind.u64.wrap (wrap64 (8 * (j : Int)))) % 256 = n / 2 ^ (8 * j) % 256 := by
  have e : IntKind.u64.wrap (wrap64 (8 * (j : Int))) = 8 * (j : Int) := by
    rw [IntKind.wrap_u64]
    unfold wrap64
    omega
  rw [e, IntKind.wrap_u64]
  unfold shr
  rw [show min (8 * (j : Int)).toNat (IntKind.bits .u64) = 8 * j by show min (8 * (j : Int)).toNat 64 = 8 * j; omega]
  match j, hj with
  | 0, _ => simp only [Nat.mul_zero, Int.pow_zero]; omega
  | 1, _ => simp only [Nat.mul_one]; omega
  | 2, _ => show n % 18446744073709551616 / 65536 % 256 = n / 65536 % 256; omega
  | 3, _ => show n % 18446744073709551616 / 16777216 % 256 = n / 16777216 % 256; omega
theorem big_step (k : Nat) (n : Int) (acc : List Int) (j : Nat) (hj : j ≤ 3) (ha : acc.length < 100) : rosetteref15_Big.l0 (k + 1) n acc (j : Int) = rosetteref15_Big.l0 k n (acc ++ [n / 2 ^ (8 * j) % 256]) ((j : Int) - 1) := by
  simp only [rosetteref15_Big.l0]
  rw [if_pos (by omega), if_pos (by rw [IntKind.wrap_u64]; unfold wrap64; omega), if_pos (by omega), big_byte n j hj, show wrap64 ((j : Int) - 1) = (j : Int) - 1 by unfold wrap64; omega]
theorem big_end (k : Nat) (n : Int) (acc : List Int) : rosetteref15_Big.l0 (k + 1) n acc (-1) = some acc := by
  simp only [rosetteref15_Big.l0]
  rw [if_neg (by decide)]
theorem big_two (n : Int) (k : Nat) (hk : 3 ≤ k) : rosetteref15_Big.f k n 2 = some (twoB n) := by
  obtain ⟨k, rfl⟩ : ∃ m, k = m + 3 := ⟨k - 3, by omega⟩
  unfold rosetteref15_Big.f
  rw [show wrap64 (2 - 1) = ((1 : Nat) : Int) by unfold wrap64; omega, big_step _ n [] 1 (by omega) (by simp), show ((1 : Nat) : Int) - 1 = ((0 : Nat) : Int) from rfl, big_step _ n _ 0 (by omega) (by simp), show ((0 : Nat) : Int) - 1 = -1 from rfl, big_end]
  simp [twoB]
theorem big_four (n : Int) (k : Nat) (hk : 5 ≤ k) : rosetteref15_Big.f k n 4 = some (fourB n) := by
  obtain ⟨k, rfl⟩ : ∃ m, k = m + 5 := ⟨k - 5, by omega⟩
  unfold rosetteref15_Big.f
  rw [show wrap64 (4 - 1) = ((3 : Nat) : Int) by unfold wrap64; omega, big_step _ n [] 3 (by omega) (by simp), show ((3 : Nat) : Int) - 1 = ((2 : Nat) : Int) from rfl, big_step _ n _ 2 (by omega) (by simp), show ((2 : Nat) : Int) - 1 = ((1 : Nat) : Int) from rfl, big_step _ n _ 1 (by omega) (by simp), show ((1 : Nat) : Int) - 1 = ((0 : Nat) : Int) from rfl, big_step _ n _ 0 (by omega) (by simp), show ((0 : Nat) : Int) - 1 = -1 from rfl, big_end]
  unfold fourB twoB
  congr 1
  have h : n / 2 ^ (8 * 3) % 256 = n / 65536 / 256 % 256 ∧ n / 2 ^ (8 * 2) % 256 = n / 65536 % 256 ∧ n / 2 ^ (8 * 1) % 256 = n / 256 % 256 ∧ n / 2 ^ (8 * 0) % 256 = n % 256 := by
    refine ⟨?_, ?_, ?_, ?_⟩
    · show n / 16777216 % 256 = _; omega
    · show n / 65536 % 256 = _; omega
    · show n / 256 % 256 = _; omega
    · show n / 1 % 256 = _; omega
  rw [h.1, h.2.1, h.2.2.1, h.2.2.2]
  rfl
end Go.Proofs.Ytkdhcmmfklganaa
end

section
/- the document's Encode: plain law -/
set_option linter.unusedVariables false
set_option autoImplicit false
namespace Go.Proofs.Ytkdhcmmfklganaa
open Go.RowKit Go.Proofs.YtkdhcmmfklganaaW.PrintWords Go.Proofs.YtkdhcmmfklganaaW.PrintLast Go.Proofs.YtkdhcmmfklganaaW.PrintMore Go.Proofs.Ytkdhcmmfklganaa.G

theorem enc2 (links : List Int) (subs : List S40) (i : Nat) (hi : i < 1000) (f0 f1 : Int) (f2 : List S46) (hx : ∀ r ∈ f2, r.f0.size ≤ 16) (hf : f2.length ≤ 1000) (R : Option (List Int × Bool)) : ∀ (d j : Nat) (acc : List Int), j + d = f2.length → acc.length + 100 * d ≤ 1000000000 →
    (∃ K, ∀ k, K ≤ k → rosetteref15_Encode.l1 k (acc ++ (f2.drop j).flatMap rgL) ((i + 1 : Nat) : Int) links subs = R) → ∃ K, ∀ k, K ≤ k → rosetteref15_Encode.l2 k acc (i : Int) (j : Int) links subs f0 f1 f2 = R := by
  intro d
  induction d with
  | zero =>
    intro j acc hj ha H
    obtain ⟨K, h⟩ := H
    refine ⟨K + 1, fun k hk => ?_⟩
    obtain ⟨k, rfl⟩ : ∃ m, k = m + 1 := ⟨k - 1, by omega⟩
    have h := h k (by omega)
    rw [List.drop_of_length_le (by omega), List.flatMap_nil, List.append_nil] at h
    simp only [rosetteref15_Encode.l2]
    rw [if_neg (by omega), show wrap64 ((i : Int) + 1) = ((i + 1 : Nat) : Int) by unfold wrap64; omega]
    exact h
  | succ d ih =>
    intro j acc hj ha H
    have hlt : j < f2.length := by omega
    have hr : rd_T46 f2 (j : Int) = f2[j] := by simp [rd_T46, List.getD_eq_getElem?_getD, hlt]
    have hs := hx f2[j] (List.getElem_mem hlt)
    rw [List.drop_eq_getElem_cons hlt, List.flatMap_cons] at H
    generalize f2[j] = x at hr hs H
    have hm : (x.f0.size : Int) % 256 = x.f0.size := by omega
    obtain ⟨K, h⟩ := ih (j + 1) (acc ++ [(x.f0.size : Int)] ++ bytesOf x.f0 ++ fourB x.f1 ++ fourB x.f2) (by omega) (by simp [bytesOf_length, fourB, twoB]; omega) (by
      obtain ⟨K, h⟩ := H
      refine ⟨K, fun k hk => ?_⟩
      have := h k hk
      rw [← this]
      congr 1
      simp [rgL, List.append_assoc])
    refine ⟨K + 6, fun k hk => ?_⟩
    obtain ⟨k, rfl⟩ : ∃ m, k = m + 1 := ⟨k - 1, by omega⟩
    simp only [rosetteref15_Encode.l2]
    rw [if_pos (by omega), if_pos (by omega), hr, if_pos (by omega), Option.bind_some, hm, if_pos (by simp; omega), Option.bind_some, big_four _ _ (by omega), Option.bind_some, if_pos (by simp [bytesOf_length, fourB, twoB]; omega), Option.bind_some, big_four _ _ (by omega), Option.bind_some, if_pos (by simp [bytesOf_length, fourB, twoB]; omega), show wrap64 ((j : Int) + 1) = ((j + 1 : Nat) : Int) by unfold wrap64; omega]
    exact h k (by omega)
theorem enc1 (links : List Int) (subs : List S40) (hf : Fit links subs) : ∀ (d i : Nat) (acc : List Int), i + d = subs.length → acc.length + 10000 * d ≤ 500000000 →
    ∃ K, ∀ k, K ≤ k → rosetteref15_Encode.l1 k acc (i : Int) links subs = some (acc ++ (subs.drop i).flatMap subL, true) := by
  have hn := hf.n2
  intro d
  induction d with
  | zero =>
    intro i acc hi ha
    refine ⟨1, fun k hk => ?_⟩
    obtain ⟨k, rfl⟩ : ∃ m, k = m + 1 := ⟨k - 1, by omega⟩
    simp only [rosetteref15_Encode.l1]
    rw [if_neg (by omega), List.drop_of_length_le (by omega)]
    simp
  | succ d ih =>
    intro i acc hi ha
    have hlt : i < subs.length := by omega
    have hr : rd_T40 subs (i : Int) = subs[i] := by simp [rd_T40, List.getD_eq_getElem?_getD, hlt]
    have hs := hf.sb subs[i] (List.getElem_mem hlt)
    have hd := List.drop_eq_getElem_cons hlt
    generalize subs[i] = x at hr hs hd
    have hm : (x.f2.length : Int) % 256 = x.f2.length := by have := hs.2.2.1; omega
    have hl := flat_len rgL 25 x.f2 (fun r hr => by
      have := (hs.2.2.2 r hr).1
      unfold rgL fourB twoB
      simp only [List.length_append, List.length_cons, List.length_nil, bytesOf_length]
      omega)
    have h12 := hs.2.2.1
    obtain ⟨K0, h0⟩ := ih (i + 1) (acc ++ subL x) (by omega) (by unfold subL twoB; simp only [List.length_append, List.length_cons, List.length_nil]; omega)
    obtain ⟨K, h⟩ := enc2 links subs i (by omega) x.f0 x.f1 x.f2 (fun r hr => (hs.2.2.2 r hr).1) (by omega) (some (acc ++ (subs.drop i).flatMap subL, true)) x.f2.length 0 (acc ++ twoB x.f0 ++ twoB x.f1 ++ [(x.f2.length : Int)]) (by omega) (by simp [twoB]; omega) ⟨K0, fun k hk => by
      have h1 := h0 k hk
      rw [List.drop_zero]
      rw [show acc ++ twoB x.f0 ++ twoB x.f1 ++ [(x.f2.length : Int)] ++ x.f2.flatMap rgL = acc ++ subL x by simp [subL, List.append_assoc], h1, hd]
      simp [List.append_assoc]⟩
    refine ⟨K + 6, fun k hk => ?_⟩
    obtain ⟨k, rfl⟩ : ∃ m, k = m + 1 := ⟨k - 1, by omega⟩
    simp only [rosetteref15_Encode.l1]
    rw [if_pos (by omega), if_pos (by omega), hr, big_two _ _ (by omega), Option.bind_some, if_pos (by simp [twoB]; omega), Option.bind_some, big_two _ _ (by omega), Option.bind_some, if_pos (by simp [twoB]; omega), Option.bind_some, if_pos (by simp [twoB]; omega), hm]
    exact h k (by omega)
theorem enc0 (links : List Int) (subs : List S40) (hf : Fit links subs) : ∀ (d i : Nat) (acc : List Int), i + d = links.length → acc.length + 10 * d ≤ 1000 →
    ∃ K, ∀ k, K ≤ k → rosetteref15_Encode.l0 k acc (i : Int) links subs = some (acc ++ (links.drop i).flatMap twoB ++ [(subs.length : Int)] ++ subs.flatMap subL, true) := by
  have hn := hf.n1
  have hn2 := hf.n2
  intro d
  induction d with
  | zero =>
    intro i acc hi ha
    obtain ⟨K, h⟩ := enc1 links subs hf subs.length 0 (acc ++ [(subs.length : Int)]) (by omega) (by simp; omega)
    refine ⟨K + 1, fun k hk => ?_⟩
    obtain ⟨k, rfl⟩ : ∃ m, k = m + 1 := ⟨k - 1, by omega⟩
    simp only [rosetteref15_Encode.l0]
    rw [if_neg (by omega), if_pos (by omega), show (subs.length : Int) % 256 = subs.length by omega]
    refine (h k (by omega)).trans ?_
    rw [List.drop_zero, List.drop_of_length_le (by omega)]
    simp
  | succ d ih =>
    intro i acc hi ha
    have hlt : i < links.length := by omega
    have hr : rd links (i : Int) = links[i] := by simp [rd, List.getD_eq_getElem?_getD, hlt]
    obtain ⟨K, h⟩ := ih (i + 1) (acc ++ twoB links[i]) (by omega) (by simp [twoB]; omega)
    refine ⟨K + 6, fun k hk => ?_⟩
    obtain ⟨k, rfl⟩ : ∃ m, k = m + 1 := ⟨k - 1, by omega⟩
    simp only [rosetteref15_Encode.l0]
    rw [if_pos (by omega), if_pos (by omega), hr, big_two _ _ (by omega), Option.bind_some, if_pos (by simp [twoB]; omega), show wrap64 ((i : Int) + 1) = ((i + 1 : Nat) : Int) by unfold wrap64; omega]
    refine (h k (by omega)).trans ?_
    rw [List.drop_eq_getElem_cons hlt, List.flatMap_cons]
    simp [List.append_assoc]
theorem enc_f (links : List Int) (subs : List S40) (M : Nat) (hl : links.length ≤ 4611686018427387904) (hs : subs.length ≤ 4611686018427387904) (hM : M ≤ 4611686018427387904) (hx : ∀ x ∈ subs, x.f2.length ≤ M) : ∃ K, ∀ k, K ≤ k → rosetteref15_Encode.f k links subs = some (if rightB links subs = true then encL links subs else [], rightB links subs) := by
  cases hr : rightB links subs with
  | false =>
    refine ⟨links.length + subs.length + M + links.length + 3, fun k hk => ?_⟩
    unfold rosetteref15_Encode.f
    rw [right_f links subs M hl hs hM hx k (by omega), hr, Option.bind_some, if_neg (by decide), if_neg (by decide)]
  | true =>
    have hf := fit_of hr
    have hn := hf.n1
    obtain ⟨K, h⟩ := enc0 links subs hf links.length 0 [82, 83, 84, 1, (links.length : Int)] (by omega) (by simp; omega)
    refine ⟨K + links.length + subs.length + M + links.length + 3, fun k hk => ?_⟩
    unfold rosetteref15_Encode.f
    rw [right_f links subs M hl hs hM hx k (by omega), hr, Option.bind_some, if_pos rfl, if_pos rfl, show (links.length : Int) % 256 = links.length by omega]
    refine (h k (by omega)).trans ?_
    rw [List.drop_zero]
    rfl
end Go.Proofs.Ytkdhcmmfklganaa
end

section
/- The statement FirstCodes over numbers and lists: the bytes of a state, the state of bytes, and which states are right are what the document says. -/
namespace Go.Proofs.Ytkdhcmmfklganaa.Pure
open Go.RowKit Go.Proofs.Ytkdhcmmfklganaa Go.Proofs.Ytkdhcmmfklganaa.G Go.Proofs.YtkdhcmmfklganaaW.PrintWords Go.Proofs.YtkdhcmmfklganaaW.PrintLast

theorem u8s_ofC {l : List Int} (h : ∀ x ∈ l, (Lit.int .u8 x).wf = true) : u8s l := by
  intro x hx
  have := Go.bounds_u8 (h x hx)
  omega
theorem dec_small (l : List Int) : (dec15 l).1.1.length ≤ 16 ∧ (dec15 l).1.2.length ≤ 64 ∧ ∀ x ∈ (dec15 l).1.2, x.f2.length ≤ 12 := by
  have z : ([] : List Int).length ≤ 16 ∧ ([] : List S40).length ≤ 64 ∧ ∀ x ∈ ([] : List S40), x.f2.length ≤ 12 := ⟨by decide, by decide, fun x hx => by cases hx⟩
  by_cases h : (dec15 l).2 = 0
  case neg => rw [dec_bad h]; exact z
  unfold dec15 at h ⊢
  split
  · exact z
  split
  · exact z
  split
  · exact z
  split
  · exact z
  split
  case isFalse => exact z
  have c16 : ∀ (s : Sc) (m : Int), 0 ≤ m → (s.count m).1 ≤ m := fun s m hm => by
    unfold Sc.count
    split
    · exact hm
    · omega
  refine ⟨?_, ?_, ?_⟩
  · have e : (fP ⟨l.drop 4, 0⟩).1.1 = (Pars.rep (fun s => s.num 2) ((⟨l.drop 4, 0⟩ : Sc).count 16).1.toNat ((⟨l.drop 4, 0⟩ : Sc).count 16).2).1 := rfl
    show (fP ⟨l.drop 4, 0⟩).1.1.length ≤ 16
    rw [e]
    have h1 := rep_len (fun s => s.num 2) ((⟨l.drop 4, 0⟩ : Sc).count 16).1.toNat ((⟨l.drop 4, 0⟩ : Sc).count 16).2
    have h2 := c16 ⟨l.drop 4, 0⟩ 16 (by decide)
    omega
  · obtain ⟨s2, hs2⟩ : ∃ s2 : Sc, (fP ⟨l.drop 4, 0⟩).1.2 = (Pars.rep subP (s2.count 64).1.toNat (s2.count 64).2).1 := ⟨(Pars.rep (fun s => s.num 2) ((⟨l.drop 4, 0⟩ : Sc).count 16).1.toNat ((⟨l.drop 4, 0⟩ : Sc).count 16).2).2, rfl⟩
    show (fP ⟨l.drop 4, 0⟩).1.2.length ≤ 64
    rw [hs2]
    have h1 := rep_len subP (s2.count 64).1.toNat (s2.count 64).2
    have h2 := c16 s2 64 (by decide)
    omega
  · obtain ⟨s2, hs2⟩ : ∃ s2 : Sc, (fP ⟨l.drop 4, 0⟩).1.2 = (Pars.rep subP (s2.count 64).1.toNat (s2.count 64).2).1 := ⟨(Pars.rep (fun s => s.num 2) ((⟨l.drop 4, 0⟩ : Sc).count 16).1.toNat ((⟨l.drop 4, 0⟩ : Sc).count 16).2).2, rfl⟩
    show ∀ x ∈ (fP ⟨l.drop 4, 0⟩).1.2, x.f2.length ≤ 12
    rw [hs2]
    exact rep_all (P := subP) (q := fun x => x.f2.length ≤ 12) sub_len _ _
theorem FirstCodes : rosettelaw15_FirstCodes.Pure := by
  intro a0 l1 hp h1
  have hb0 : a0.f0.length ≤ 4611686018427387904 := by have := hp.1.1.2; omega
  have hb1 : a0.f1.length ≤ 4611686018427387904 := by have := hp.2.1.2; omega
  have hb2 : ∀ x ∈ a0.f1, x.f2.length ≤ 4611686018427387904 := fun x hx => by have := (hp.2.2 x hx).2.2.1.2; omega
  obtain ⟨k1, b, hk⟩ := few_some a0.f0 a0.f1 hb1 hb2
  obtain ⟨k2, he⟩ := enc_f a0.f0 a0.f1 4611686018427387904 hb0 hb1 (by decide) hb2
  have hd := dec_small l1
  obtain ⟨k3, hs⟩ := same_self (dec15 l1).1.1 (dec15 l1).1.2 (by omega) (by omega) (fun x hx => by have := hd.2.2 x hx; omega)
  obtain ⟨k4, hr⟩ : ∃ K, ∀ k, K ≤ k → rosetteref15_Right.f k a0.f0 a0.f1 = some (rightB a0.f0 a0.f1) := ⟨a0.f0.length + a0.f1.length + 4611686018427387904 + a0.f0.length + 3, fun k hk => right_f a0.f0 a0.f1 4611686018427387904 hb0 hb1 (by decide) hb2 k (by omega)⟩
  refine ⟨k1 + (k2 + k3 + k4), ?_⟩
  unfold rosettelaw15_FirstCodes.f
  rw [fuel_up (f := fun k => rosettelaw15_Few.f k a0.f0 a0.f1) (fun k => rosettelaw15_Few.mono _ _ k) hk (k2 + k3 + k4), Option.bind_some]
  unfold codesF
  by_cases c : b = false ∨ l1.length > 2000
  · exact if_pos c
  · refine (if_neg c).trans (if_pos ?_)
    exact ⟨u8s_ofC h1.2, he _ (by omega), hs _ (by omega), hr _ (by omega)⟩
end Go.Proofs.Ytkdhcmmfklganaa.Pure
end

section
/- What comes in, opened kind by kind: a datum that is read whole reads as a list, a structure, a number; and no slice and no text of it is longer than the form's reach. -/
set_option linter.unusedVariables false
set_option linter.unusedSimpArgs false
set_option autoImplicit false
namespace Go.Proofs.Ytkdhcmmfklganaa.Op
open Go.RowKit Go.Deep Go.ChangeShapes Go.WideShapes Go.Proofs.YtkdhcmmfklganaaW.PrintWords

section
variable {H α β : Type} (enc : TypeId × Value → H) (P : Program) (W : World)
/-- no part of a datum is longer than the reach -/
def Lite (P : Program) (t : TypeId) (d : DataW H) : Prop := ∀ n ∈ d.weights P t, n ≤ 140737488351232
/-- whatever is read at type t, and is no longer than the reach, is of the kind d, and good -/
def Opens (t : TypeId) (d : Kd α) (good : α → Prop) : Prop :=
  ∀ fuel (cs : List Value) x, DataW.trod enc P W 0 (fun _ => true) true fuel t cs = some x → Lite P t x.1 → ∃ a, d.K W a cs ∧ good a
def OpensF (fs : List Field) (o : Nat) (d : Kd α) (good : α → Prop) : Prop :=
  ∀ fuel (cs : List Value) xs, (fs.mapM fun f => DataW.trod enc P W 0 (fun _ => true) true fuel f.type ((cs.drop f.offset).take (P.cellsOf f.type))) = some xs → (∀ n ∈ DataW.weightsEach P (fs.map (·.type)) (xs.map (·.1)), n ≤ 140737488351232) → cs.length = o + d.sz → ∃ a, d.K W a (cs.drop o) ∧ good a
variable {enc P W}
theorem opens_int {t : TypeId} {k : IntKind} (ht : P.underlying t = some (.int k)) : Opens enc P W t (Kd.int k) (fun n => (Lit.int k n).wf = true) := by
  intro fuel cs x h _
  obtain ⟨n, h1, _, h2⟩ := DataW.trod_int ht h
  exact ⟨n, h1, h2⟩
theorem opens_bool {t : TypeId} (ht : P.underlying t = some .bool) : Opens enc P W t Kd.bool (fun _ => True) := by
  intro fuel cs x h _
  obtain ⟨n, h1, _⟩ := DataW.trod_bool ht h
  exact ⟨n, h1, trivial⟩
theorem opens_str {t : TypeId} (ht : P.underlying t = some .string) : Opens enc P W t Kd.string (fun s => s.size ≤ 140737488351232) := by
  intro fuel cs x h hl
  obtain ⟨s, h1, h2, _⟩ := DataW.trod_string ht h
  refine ⟨s, h1, ?_⟩
  rw [h2] at hl
  have := hl s.data.toList.length (by simp [DataW.weights])
  rw [Array.length_toList] at this
  exact this
theorem weightsAll_mem {e : TypeId} : ∀ {ds : List (DataW H)} {d : DataW H}, d ∈ ds → ∀ n ∈ d.weights P e, n ∈ DataW.weightsAll P e ds := by
  intro ds
  induction ds with
  | nil => intro d h; cases h
  | cons y ys ih =>
    intro d h n hn
    rw [DataW.weightsAll]
    rcases List.mem_cons.1 h with rfl | h
    · exact List.mem_append_left _ hn
    · exact List.mem_append_right _ (ih h n hn)
theorem opens_slice {t e : TypeId} {d : Kd α} {good : α → Prop} {B : Nat} (ht : P.underlying t = some (.slice e)) (hs : P.cellsOf e = d.sz) (hB : P.bytesOf e = B) (h : Opens enc P W e d good) :
    Opens enc P W t (Kd.slice e d) (fun xs => (xs.length ≤ maxLen ∧ xs.length * B ≤ 140737488351232) ∧ ∀ x ∈ xs, good x) := by
  intro fuel cs x hx hw
  rcases open_slice ht hx with ⟨rfl, _⟩ | ⟨a, len, cap, m, n, D, Pl, rfl, hb, hl, hm, hmm, rfl, hel⟩
  · exact ⟨[], ⟨none, 0, rfl, Nat.le_refl _, Kd.C_nil _ _⟩, ⟨Nat.zero_le _, by simp⟩, fun _ h => by cases h⟩
  · simp only [if_true] at hmm
    have hwt : ∀ n ∈ (len + (m - len)) * P.bytesOf e :: (DataW.weightsAll P e ((List.range len).map D) ++ DataW.weightsAll P e ((List.range (m - len)).map fun j => D (len + j))), n ≤ 140737488351232 := by
      have h1 := hw
      unfold Lite at h1
      rw [DataW.weights] at h1
      simp only [ht, List.length_map, List.length_range] at h1
      exact h1
    have hlenB : len * B ≤ 140737488351232 := by
      have h1 := hwt _ List.mem_cons_self
      rw [hB] at h1
      exact Nat.le_trans (Nat.mul_le_mul_right _ (by omega)) h1
    have hlite : ∀ i, i < len → Lite P e (D i) := fun i hi n hn => hwt n (List.mem_cons_of_mem _ (List.mem_append_left _ (weightsAll_mem (List.mem_map.2 ⟨i, List.mem_range.2 hi, rfl⟩) n hn)))
    have each : ∀ i, i < len → ∃ y : α, ∃ c, W.cells? 0 (a.add (i * P.cellsOf e)) (P.cellsOf e) = some c ∧ d.K W y c ∧ good y := by
      intro i hi
      obtain ⟨c, h1, h2⟩ := hel i (by omega)
      obtain ⟨y, h3, h4⟩ := h _ _ _ h2 (hlite i hi)
      exact ⟨y, c, h1, h3, h4⟩
    have build : ∃ xs : List α, xs.length = len ∧ ∀ i y, xs[i]? = some y → ∃ c, W.cells? 0 (a.add (i * P.cellsOf e)) (P.cellsOf e) = some c ∧ d.K W y c ∧ good y := by
      clear hx hel hm hl hb hmm hw hwt hlenB hlite
      induction len with
      | zero => exact ⟨[], rfl, fun i y h => by simp at h⟩
      | succ len ih =>
        obtain ⟨xs, h1, h2⟩ := ih (fun i hi => each i (by omega))
        obtain ⟨y, c, h3, h4, h5⟩ := each len (by omega)
        refine ⟨xs ++ [y], by simp [h1], fun i z hz => ?_⟩
        by_cases hi : i < len
        · exact h2 i z (by rw [List.getElem?_append_left (by omega)] at hz; exact hz)
        · have hi2 : i < (xs ++ [y]).length := (List.getElem?_eq_some_iff.1 hz).1
          have : i = len := by rw [List.length_append, List.length_singleton] at hi2; omega
          subst this
          rw [List.getElem?_append_right (by omega), h1, Nat.sub_self] at hz
          simp only [List.getElem?_cons_zero, Option.some.injEq] at hz
          subst hz
          exact ⟨c, h3, h4, h5⟩
    obtain ⟨xs, h1, h2⟩ := build
    refine ⟨xs, ⟨some a, cap, by rw [h1], by omega, rfl, by rw [h1]; simp only [maxLen] at hm; omega, fun h0 => ⟨a, rfl, fun j p hj => ?_⟩⟩, ⟨by omega, by rw [h1]; exact hlenB⟩, fun y hy => ?_⟩
    · obtain ⟨c, h3, h4, h5⟩ := h2 j p hj
      obtain ⟨_, hlen, hcell⟩ := World.cells?_some h3
      refine ⟨c, by rw [hlen, hs], h4, fun i u hu => ?_⟩
      have hi : i < P.cellsOf e := by rw [← hlen]; exact (List.getElem?_eq_some_iff.1 hu).1
      have := hcell i hi
      rw [hu, Go.Proofs.YtkdhcmmfklganaaW.PrintWords.add_add, hs] at this
      exact this
    · obtain ⟨i, hi⟩ := List.getElem?_of_mem hy
      obtain ⟨c, _, _, h5⟩ := h2 i y hi
      exact h5
theorem opensF_one {f : Field} {o : Nat} {d : Kd α} {good : α → Prop} (ho : f.offset = o) (hc : P.cellsOf f.type = d.sz) (h : Opens enc P W f.type d good) : OpensF enc P W [f] o d good := by
  intro fuel cs xs hx hw hl
  simp only [List.mapM_cons, List.mapM_nil, Option.pure_def, Option.bind_eq_bind, Option.bind_eq_some_iff] at hx
  obtain ⟨y, h1, z, hz, hxs⟩ := hx
  simp only [Option.some.injEq] at hz hxs
  subst hz
  subst hxs
  obtain ⟨a, h2, h3⟩ := h _ _ _ h1 (fun n hn => hw n (by simp [DataW.weightsEach, hn]))
  rw [ho, hc, List.take_of_length_le (by rw [List.length_drop]; omega)] at h2
  exact ⟨a, h2, h3⟩
theorem opensF_cons {f : Field} {fs : List Field} {o : Nat} {d : Kd α} {e : Kd β} {g1 : α → Prop} {g2 : β → Prop} (ho : f.offset = o) (hc : P.cellsOf f.type = d.sz) (h : Opens enc P W f.type d g1) (hr : OpensF enc P W fs (o + d.sz) e g2) :
    OpensF enc P W (f :: fs) o (Kd.pair d e) (fun p => g1 p.1 ∧ g2 p.2) := by
  intro fuel cs xs hx hw hl
  simp only [List.mapM_cons, Option.pure_def, Option.bind_eq_bind, Option.bind_eq_some_iff] at hx
  obtain ⟨y, h1, ys, h2, hxs⟩ := hx
  simp only [Option.some.injEq] at hxs
  subst hxs
  have hsz : (Kd.pair d e).sz = d.sz + e.sz := rfl
  obtain ⟨a, h3, h4⟩ := h _ _ _ h1 (fun n hn => hw n (by simp [DataW.weightsEach, hn]))
  obtain ⟨b, h5, h6⟩ := hr _ _ _ h2 (fun n hn => hw n (by rw [List.map_cons, List.map_cons, DataW.weightsEach]; exact List.mem_append_right _ hn)) (by omega)
  rw [ho, hc] at h3
  refine ⟨(a, b), ⟨_, _, ?_, h3, h5⟩, h4, h6⟩
  rw [← List.drop_drop, List.take_append_drop]
theorem opens_struct {t : TypeId} {fs : Array Field} {d : Kd α} {good : α → Prop} (ht : P.underlying t = some (.struct fs)) (hc : P.cellsOf t = d.sz) (h : OpensF enc P W fs.toList 0 d good) : Opens enc P W t d good := by
  intro fuel cs x hx hw
  cases fuel with
  | zero => simp [DataW.trod] at hx
  | succ fuel =>
    have key : cs.length = P.cellsOf t ∧ ∃ xs, (fs.toList.mapM fun f => DataW.trod enc P W 0 (fun _ => true) true fuel f.type ((cs.drop f.offset).take (P.cellsOf f.type))) = some xs ∧ x.1 = .agg (xs.map (·.1)) := by
      unfold DataW.trod at hx
      rw [ht] at hx
      simp only at hx
      split at hx
      · rename_i hl
        rw [Option.map_eq_some_iff] at hx
        obtain ⟨xs, h1, h2⟩ := hx
        exact ⟨hl, xs, h1, by rw [← h2]⟩
      · cases hx
    obtain ⟨h1, xs, h2, h3⟩ := key
    have hw2 : ∀ n ∈ DataW.weightsEach P (fs.toList.map (·.type)) (xs.map (·.1)), n ≤ 140737488351232 := by
      unfold Lite at hw
      rw [h3, DataW.weights] at hw
      simp only [ht] at hw
      exact hw
    obtain ⟨a, h4, h5⟩ := h _ _ _ h2 hw2 (by omega)
    exact ⟨a, by simpa using h4, h5⟩
theorem opens_iso {t : TypeId} {d : Kd α} {good : α → Prop} (f : β → α) (g : α → β) (hfg : ∀ a, f (g a) = a) (h : Opens enc P W t d good) : Opens enc P W t (Kd.iso d f) (fun x => good (f x)) := by
  intro fuel cs x hx hw
  obtain ⟨a, h1, h2⟩ := h _ _ _ hx hw
  refine ⟨g a, ?_, by show good (f (g a)); rw [hfg]; exact h2⟩
  show d.K W (f (g a)) cs
  rw [hfg]
  exact h1
/-- the weight of an argument -/
theorem lite_arg {ts : List TypeId} {ds : List (DataW H)} (hsz : (DataW.weightsEach P ts ds).all (· ≤ reachBytes) = true) {j : Nat} {t : TypeId} {d : DataW H} (ht : ts[j]? = some t) (hd : ds[j]? = some d) : Lite P t d := by
  intro n hn
  have := List.all_eq_true.1 hsz n (DataW.weights_mem_each ht hd n hn)
  have h2 : n ≤ reachBytes := by simpa using this
  exact Nat.le_trans h2 (by decide)
/-- a slice that is handed in -/
theorem open_arg {t e : TypeId} {d : Kd α} {good : α → Prop} {B : Nat} (ht : P.underlying t = some (.slice e)) (hs : P.cellsOf e = d.sz) (hB : P.bytesOf e = B) (h : Opens enc P W e d good) {A : Option Addr} {n c : Nat} {y : DataW H} {p : List MemPlace}
    (hl : Lite P t y) (hx : DataW.Trod enc P W 0 (fun _ => true) true t (.slice A n c) y p) : ∃ xs : List α, n = xs.length ∧ xs.length ≤ c ∧ c ≤ maxLen ∧ d.C W A xs.length xs ∧ (xs.length ≤ maxLen ∧ xs.length * B ≤ 140737488351232) ∧ ∀ x ∈ xs, good x := by
  obtain ⟨fuel, hf⟩ := hx
  have hcap : c ≤ maxLen := by
    rcases open_slice ht hf with ⟨hcs, _⟩ | ⟨a, len, cap, m, n, D, Pl, hcs, hb, hl, hm, hmm, _, hel⟩
    · simp only [Value.cells, List.cons.injEq, Value.slice.injEq, and_true] at hcs
      omega
    · simp only [Value.cells, List.cons.injEq, Value.slice.injEq, and_true] at hcs
      omega
  obtain ⟨xs, ⟨A', c', h1, h2, h3⟩, h4, h5⟩ := opens_slice ht hs hB h _ _ _ hf hl
  simp only [Value.cells, List.cons.injEq, Value.slice.injEq, and_true] at h1
  obtain ⟨rfl, rfl, rfl⟩ := h1
  exact ⟨xs, rfl, h2, hcap, h3, h4, h5⟩
/-- a text that is handed in -/
theorem lite_str {t : TypeId} {s : ByteArray} (hl : Lite (H := H) P t (.lit (.string s.data.toList))) : s.size ≤ 140737488351232 := by
  have := hl s.data.toList.length (by simp [DataW.weights])
  rw [Array.length_toList] at this
  exact this
end
end Go.Proofs.Ytkdhcmmfklganaa.Op
end

section
namespace Go.Proofs.Ytkdhcmmfklganaa.firstCodes
open Go.ChangeShapes Go.WideShapes Go.ChangeAt Go.RowKit Go.Proofs.Ytkdhcmmfklganaa Go.Proofs.Ytkdhcmmfklganaa.G Go.Proofs.YtkdhcmmfklganaaW.PrintWords Go.Proofs.YtkdhcmmfklganaaW.PrintLast Go.Proofs.YtkdhcmmfklganaaW.PrintMore
open Go.ChangeMaps (open_string shut_string)
set_option linter.unusedVariables false
set_option linter.unusedSimpArgs false
theorem own : ownKnob Try.prog.godebug = none := by kernel_rfl
theorem laidOut : laidOutB Try.prog = true := by kernel_rfl
set_option maxRecDepth 100000 in
theorem lifted (os : Os) (started : os.Started) (H : Type) (enc : TypeId × Value → H) :
    ReturnsInHanded {} Try.checked os 3 .any (Rows.firstCodesSpec.pre6 enc Try.prog Try.f3 Rows.firstCodesRow.domain false) (Rows.firstCodesSpec.post enc Try.prog Try.f3 false true false false) := by
  refine returnsInHanded_of_change_sized (C := Try.checked) own started (by kernel_rfl) Try.func3
    (ChangeSpec.witness6 (enc := enc) (C := Try.checked) false ⟨#[], #[.agg #[.slice none 0 0, .slice none 0 0], .slice none 0 0], []⟩ 8 (by kernel_rfl) (by kernel_rfl) (by kernel_rfl) (by kernel_rfl)) ?_
  intro W base args ds gs before hval0 hW hcnd hsz0 _
  have hsz : (DataW.weightsEach Try.prog (Try.f3.params.toList ++ Rows.firstCodesSpec.plain.varTypes Try.prog) (ds ++ gs)).all (· ≤ reachBytes) = true := hsz0
  have hval : ∀ (j : Nat) t v, Try.f3.params[j]? = some t → args[j]? = some v → Value.okWide Try.prog W .any base t v := hval0
  have hW' := hW
  obtain ⟨p, q, hA0, hV, rfl, hfz, hnd⟩ := hW
  have hA : DataW.TrodAll enc Try.prog W 0 (fun _ => true) true Try.f3.params.toList args.toList ds p := hA0
  rw [Try.params3] at hA hval hsz
  obtain ⟨v0, vs0, d0, ds0, p0, q0, hargs, rfl, rfl, h0, r0⟩ := trodAll_cons hA
  obtain ⟨v1, vs1, d1, ds1, p1, q1, rfl, rfl, rfl, h1, r1⟩ := trodAll_cons r0
  obtain ⟨rfl, rfl, rfl⟩ := trodAll_nil r1
  obtain rfl : args = #[v0, v1] := by cases args; simp_all
  obtain ⟨rfl, rfl⟩ := trodVars_none hV
  have k0 := h0
  have lt0 : ∀ x ∈ p0, x.block < W.heap.size := by obtain ⟨m, hm⟩ := k0; exact DataW.trod_lt m _ _ _ hm
  obtain ⟨cs0, rfl, _⟩ := okWide_struct Try.underlying25 (hval 0 25 v0 rfl rfl)
  have q0 := Op.lite_arg hsz (j := 0) (t := 25) rfl rfl
  obtain ⟨fu0, hf0⟩ := h0
  obtain ⟨a0, hK0, hg0⟩ := (Op.opens_iso (fun x : S25 => (x.f0, x.f1)) (fun p => (⟨p.1, p.2⟩ : S25)) (fun _ => rfl) (Op.opens_struct Try.underlying25 (by kernel_rfl) (Op.opensF_cons rfl (by kernel_rfl) (Op.opens_slice Try.underlying22 (by kernel_rfl) (by kernel_rfl : _ = 8) (Op.opens_int Try.underlying3)) (Op.opensF_one rfl (by kernel_rfl) (Op.opens_slice Try.underlying23 (by kernel_rfl) (by kernel_rfl : _ = 40) (Op.opens_iso (fun x : S40 => (x.f0, x.f1, x.f2)) (fun p => (⟨p.1, p.2.1, p.2.2⟩ : S40)) (fun _ => rfl) (Op.opens_struct Try.underlying40 (by kernel_rfl) (Op.opensF_cons rfl (by kernel_rfl) (Op.opens_int Try.underlying3) (Op.opensF_cons rfl (by kernel_rfl) (Op.opens_int Try.underlying3) (Op.opensF_one rfl (by kernel_rfl) (Op.opens_slice Try.underlying37 (by kernel_rfl) (by kernel_rfl : _ = 32) (Op.opens_iso (fun x : S46 => (x.f0, x.f1, x.f2)) (fun p => (⟨p.1, p.2.1, p.2.2⟩ : S46)) (fun _ => rfl) (Op.opens_struct Try.underlying46 (by kernel_rfl) (Op.opensF_cons rfl (by kernel_rfl) (Op.opens_str Try.underlying9) (Op.opensF_cons rfl (by kernel_rfl) (Op.opens_int Try.underlying3) (Op.opensF_one rfl (by kernel_rfl) (Op.opens_int Try.underlying3))))))))))))))))) _ _ _ hf0 q0
  obtain ⟨A0_0, c0_0, A0_1, c0_1, e0, hc0_0, hr0_0, hc0_1, hr0_1⟩ := k25_open hK0
  obtain rfl : cs0 = #[.slice A0_0 a0.f0.length c0_0, .slice A0_1 a0.f1.length c0_1] := by have h_ : cs0.toList = _ := e0; rw [← Array.toArray_toList (xs := cs0), h_]
  have k1 := h1
  have lt1 : ∀ x ∈ p1, x.block < W.heap.size := by obtain ⟨m, hm⟩ := k1; exact DataW.trod_lt m _ _ _ hm
  obtain ⟨A1, len1, cap1, rfl⟩ := okWide_slice Try.underlying26 (hval 1 26 v1 rfl rfl)
  have q1 := Op.lite_arg hsz (j := 1) (t := 26) rfl rfl
  obtain ⟨l1, rfl, hc1, hk1, hr1, hg1⟩ := Op.open_arg Try.underlying26 (by kernel_rfl) (by kernel_rfl : _ = 1) (Op.opens_int Try.underlying5) q1 h1
  clear hA0 hval0 hsz0 hsz
  obtain ⟨k, h⟩ := Pure.FirstCodes a0 l1 hg0 hg1
  refine (rosettelaw15_FirstCodes.calls k A0_0 c0_0 a0.f0 A0_1 c0_1 a0.f1 A1 cap1 l1 true W hr0_0 hc0_0 hr0_1 hc0_1 hr1 hc1 (by simpa [maxLen] using hk1) h).mono fun e W' ⟨he, bel⟩ => ?_
  subst he
  exact ⟨_, rfl, _, _, _, [], _, [], hW', trodAll_mk1 (shut_bool Try.underlying4 _), (trodAll_cons_mk (Below.trod laidOut (by kernel_rfl) (of_decide_eq_true (by kernel_rfl)) k0 bel lt0) (trodAll_cons_mk (Below.trod laidOut (by kernel_rfl) (of_decide_eq_true (by kernel_rfl)) k1 bel lt1) trodAll_mk0)), rfl, bel.frame _, fun h => by cases h⟩
theorem over : Rows.firstCodesRow.holds Try.pinned (OpenSpec.ofChange Rows.firstCodesSpec) :=
  OpenClaim.holds_of_wide 3 Try.f3 rfl rfl rfl rfl rfl rfl rfl ⟨rfl, rfl, rfl, rfl, rfl⟩ rfl rfl rfl rfl rfl (by kernel_rfl) Try.func3 (by kernel_rfl)
    (of_decide_eq_true (by kernel_rfl)) (by unfold Func.isWrapper; first | (rw [if_pos (by decide +kernel)]; kernel_rfl) | (rw [if_neg (by decide +kernel)]; exact ⟨rfl, rfl⟩))
    (fun os started H enc _ => lifted os started H enc)
theorem proved : Rows.FirstCodesSaid := over
#print axioms proved
end Go.Proofs.Ytkdhcmmfklganaa.firstCodes
namespace Go.Proofs.Ytkdhcmmfklganaa
/-- The row, under a short name, for the claim. -/
theorem firstCodes_holds : Rows.FirstCodesSaid := firstCodes.proved
end Go.Proofs.Ytkdhcmmfklganaa
end
