/- The statement PacketTurned over numbers and lists: a packet of which one, two or three bits are turned is refused. -/
import Derived.Test.YticpcjjgdkbcjaaZPacketTurned0
import Derived.Test.YticpcjjgdkbcjaaZPacketTurned2
import Derived.Test.YticpcjjgdkbcjaaZPacketTurned1
import Derived.Test.YticpcjjgdkbcjaaZPacketTurned3
import Derived.Deep.Slices
import Derived.DataReads
import Derived.ChangeShapes
import Derived.WideLaws
import Derived.SizedLaws
import Derived.Test.YticpcjjgdkbcjaaProg
import Derived.Test.YticpcjjgdkbcjaaRows
import Derived.WalkKit
import Derived.ProofKit
import Derived.OpenShut
import Derived.ShutString
import Derived.ChangeOld
import Derived.Below
import Derived.Lib.SmallJoins
section
-- Written by a program of this session (wip/tools/myprint.py), over the kit's print.
namespace Go.Proofs.Yticpcjjgdkbcjaa.G
open Go.RowKit Go.Proofs.YticpcjjgdkbcjaaW.PrintWords Go.Proofs.YticpcjjgdkbcjaaW.PrintLast Go.Proofs.YticpcjjgdkbcjaaW.PrintMore
attribute [local go_sem] max2_int min2_int max_two min_two max_three min_three max_four min_four   -- for this text's walks alone
set_option linter.unusedVariables false
set_option linter.unusedSimpArgs false

/-! ### rosetteref22_Encode: function 10 -/
def rosetteref22_Encode.f (k : Nat) (a0_0 : Int) (a0_1 : Int) (a0_2 : Int) (a0_3 : Int) (a0_4 : Int) (l0_5 : List Int) : Option (List Int × Bool) := (rosetteref22_right.f k a0_0 a0_1 a0_2 a0_3 a0_4 l0_5).bind fun t200 => (if t200 = true then ((rosetteref02_Put.f ([] : List Int) (IntKind.u64.wrap (a0_0))).bind fun t201 => ((rosetteref02_Put.f t201 (IntKind.u64.wrap (a0_1))).bind fun t204 => (if a0_0 = 1 then ((rosetteref02_Put.f t204 (IntKind.u64.wrap (a0_3))).bind fun t207 => ((rosetteref02_Put.f t207 (IntKind.u64.wrap (a0_4))).bind fun t210 => ((rosetteref03_Make.f k t210).bind fun bt213 => (some (bt213.1, true))))) else (if a0_0 = 2 then ((rosetteref02_Put.f t204 (IntKind.u64.wrap (a0_2))).bind fun t217 => ((rosetteref02_PutText.f t217 (strOfNums l0_5)).bind fun t220 => ((rosetteref03_Make.f k t220).bind fun bt223 => (some (bt223.1, true))))) else (if a0_0 = 3 then ((rosetteref02_Put.f t204 (IntKind.u64.wrap (a0_2))).bind fun t227 => ((rosetteref03_Make.f k t227).bind fun bt230 => (some (bt230.1, true)))) else ((rosetteref02_PutText.f t204 (strOfNums l0_5)).bind fun t234 => ((rosetteref03_Make.f k t234).bind fun bt237 => (some (bt237.1, true))))))))) else (some (([] : List Int), false)))
theorem rosetteref22_Encode.mono : ∀ a0 a1 a2 a3 a4 a5 k, LeO (rosetteref22_Encode.f k a0 a1 a2 a3 a4 a5) (rosetteref22_Encode.f (k + 1) a0 a1 a2 a3 a4 a5) := by
  intro a0 a1 a2 a3 a4 a5 k
  unfold rosetteref22_Encode.f
  repeat' first
      | (with_reducible exact rosetteref03_Make.mono _ _)
      | (with_reducible exact rosetteref22_right.mono _ _ _ _ _ _ _)
      | (with_reducible exact LeO.refl _)
      | (with_reducible exact LeO.none _)
      | (with_reducible refine LeO.ite ?_ ?_)
      | (with_reducible refine LeO.bind ?_ (fun _ => ?_))
      | exact rosetteref03_Make.mono _ _
      | exact rosetteref22_right.mono _ _ _ _ _ _ _
      | exact LeO.none _
      | refine LeO.ite ?_ ?_
      | refine LeO.bind ?_ (fun _ => ?_)
def rosetteref22_Encode.T4 : Bool × List (List Nat × List Nat) := (true, [([], []), ([0], [0]), ([1], [1]), ([2], [2]), ([], []), ([4], [4]), ([5], [5]), ([3, 6, 3], [3, 6]), ([7, 7, 0, 1, 2, 3, 4, 5, 6, 7], [7])])
def rosetteref22_Encode.B4 : List Nat := [0, 1, 3, 7, 0, 16, 48, 127, 255]
theorem rosetteref22_Encode.tab4 : rtab .any (opsOf Try.f10 4) = rosetteref22_Encode.T4 := by kernel_rfl
theorem rosetteref22_Encode.bits4 : waitsOk rosetteref22_Encode.T4.2 rosetteref22_Encode.B4 = true := by kernel_rfl
def rosetteref22_Encode.T8 : Bool × List (List Nat × List Nat) := (true, [([], []), ([], []), ([1], [1]), ([2], [2]), ([0, 3], [0, 3]), ([], []), ([5], [5]), ([6], [6]), ([4, 7, 4], [4, 7]), ([8, 8, 0, 1, 2, 3, 4, 5, 6, 7, 8], [0, 8])])
def rosetteref22_Encode.B8 : List Nat := [0, 0, 2, 6, 15, 0, 32, 96, 255, 511]
theorem rosetteref22_Encode.tab8 : rtab .any (opsOf Try.f10 8) = rosetteref22_Encode.T8 := by kernel_rfl
theorem rosetteref22_Encode.bits8 : waitsOk rosetteref22_Encode.T8.2 rosetteref22_Encode.B8 = true := by kernel_rfl
def rosetteref22_Encode.T10 : Bool × List (List Nat × List Nat) := (true, [([], []), ([], []), ([1], [1]), ([2], [2]), ([0, 3], [0, 3]), ([], []), ([5], [5]), ([6], [6]), ([4, 7, 4], [4, 7]), ([8, 8, 0, 1, 2, 3, 4, 5, 6, 7, 8], [0, 8])])
def rosetteref22_Encode.B10 : List Nat := [0, 0, 2, 6, 15, 0, 32, 96, 255, 511]
theorem rosetteref22_Encode.tab10 : rtab .any (opsOf Try.f10 10) = rosetteref22_Encode.T10 := by kernel_rfl
theorem rosetteref22_Encode.bits10 : waitsOk rosetteref22_Encode.T10.2 rosetteref22_Encode.B10 = true := by kernel_rfl
set_option maxHeartbeats 8000000 in
set_option maxRecDepth 100000 in
theorem rosetteref22_Encode.calls (k : Nat) (a0_0 : Int) (a0_1 : Int) (a0_2 : Int) (a0_3 : Int) (a0_4 : Int) (A0_5 : Option Addr) (c0_5 : Nat) (l0_5 : List Int) (r1 : List Int) (r2 : Bool) (w : World) (hr0_5 : Kd.C (Kd.int .u8) w A0_5 l0_5.length l0_5) (hc0_5 : l0_5.length ≤ c0_5) (h : rosetteref22_Encode.f k a0_0 a0_1 a0_2 a0_3 a0_4 l0_5 = some (r1, r2)) :
    Calls Try.prog 10 #[.agg #[.int .i64 a0_0, .int .i64 a0_1, .int .i64 a0_2, .int .i64 a0_3, .int .u32 a0_4, .slice A0_5 l0_5.length c0_5]] w fun e w' => ∃ v0_ : Value, e = .returned (.tuple #[v0_, .bool r2]) ∧ Kd.R (Kd.int .u8) 5 w' w.heap.size (fun _ => True) v0_ r1 ∧ Below w.heap.size w w' := by
  have hu25 := Try.underlying25
  have HR0_5 := Aside0.mk hr0_5
  have HC0_5 := Aside0.mk hc0_5
  clear hr0_5 hc0_5
  have HB := Aside0.mk (Below.refl w.heap.size w)
  have H : ((rosetteref22_right.f k a0_0 a0_1 a0_2 a0_3 a0_4 l0_5).bind fun t200 => (if t200 = true then ((rosetteref02_Put.f ([] : List Int) (IntKind.u64.wrap (a0_0))).bind fun t201 => ((rosetteref02_Put.f t201 (IntKind.u64.wrap (a0_1))).bind fun t204 => (if a0_0 = 1 then ((rosetteref02_Put.f t204 (IntKind.u64.wrap (a0_3))).bind fun t207 => ((rosetteref02_Put.f t207 (IntKind.u64.wrap (a0_4))).bind fun t210 => ((rosetteref03_Make.f k t210).bind fun bt213 => (some (bt213.1, true))))) else (if a0_0 = 2 then ((rosetteref02_Put.f t204 (IntKind.u64.wrap (a0_2))).bind fun t217 => ((rosetteref02_PutText.f t217 (strOfNums l0_5)).bind fun t220 => ((rosetteref03_Make.f k t220).bind fun bt223 => (some (bt223.1, true))))) else (if a0_0 = 3 then ((rosetteref02_Put.f t204 (IntKind.u64.wrap (a0_2))).bind fun t227 => ((rosetteref03_Make.f k t227).bind fun bt230 => (some (bt230.1, true)))) else ((rosetteref02_PutText.f t204 (strOfNums l0_5)).bind fun t234 => ((rosetteref03_Make.f k t234).bind fun bt237 => (some (bt237.1, true))))))))) else (some (([] : List Int), false)))) = some (r1, r2) := h
  clear h
  replace H := Option.bind_eq_some_iff.mp H
  obtain ⟨t200, A20, H⟩ := H
  replace H : (if t200 = true then ((rosetteref02_Put.f ([] : List Int) (IntKind.u64.wrap (a0_0))).bind fun t201 => ((rosetteref02_Put.f t201 (IntKind.u64.wrap (a0_1))).bind fun t204 => (if a0_0 = 1 then ((rosetteref02_Put.f t204 (IntKind.u64.wrap (a0_3))).bind fun t207 => ((rosetteref02_Put.f t207 (IntKind.u64.wrap (a0_4))).bind fun t210 => ((rosetteref03_Make.f k t210).bind fun bt213 => (some (bt213.1, true))))) else (if a0_0 = 2 then ((rosetteref02_Put.f t204 (IntKind.u64.wrap (a0_2))).bind fun t217 => ((rosetteref02_PutText.f t217 (strOfNums l0_5)).bind fun t220 => ((rosetteref03_Make.f k t220).bind fun bt223 => (some (bt223.1, true))))) else (if a0_0 = 3 then ((rosetteref02_Put.f t204 (IntKind.u64.wrap (a0_2))).bind fun t227 => ((rosetteref03_Make.f k t227).bind fun bt230 => (some (bt230.1, true)))) else ((rosetteref02_PutText.f t204 (strOfNums l0_5)).bind fun t234 => ((rosetteref03_Make.f k t234).bind fun bt237 => (some (bt237.1, true))))))))) else (some (([] : List Int), false))) = some (r1, r2) := H
  have A2 := Aside0.mk A20
  clear A20
  by_cases c3 : t200 = true
  · subst c3
    have H1 : ((rosetteref02_Put.f ([] : List Int) (IntKind.u64.wrap (a0_0))).bind fun t201 => ((rosetteref02_Put.f t201 (IntKind.u64.wrap (a0_1))).bind fun t204 => (if a0_0 = 1 then ((rosetteref02_Put.f t204 (IntKind.u64.wrap (a0_3))).bind fun t207 => ((rosetteref02_Put.f t207 (IntKind.u64.wrap (a0_4))).bind fun t210 => ((rosetteref03_Make.f k t210).bind fun bt213 => (some (bt213.1, true))))) else (if a0_0 = 2 then ((rosetteref02_Put.f t204 (IntKind.u64.wrap (a0_2))).bind fun t217 => ((rosetteref02_PutText.f t217 (strOfNums l0_5)).bind fun t220 => ((rosetteref03_Make.f k t220).bind fun bt223 => (some (bt223.1, true))))) else (if a0_0 = 3 then ((rosetteref02_Put.f t204 (IntKind.u64.wrap (a0_2))).bind fun t227 => ((rosetteref03_Make.f k t227).bind fun bt230 => (some (bt230.1, true)))) else ((rosetteref02_PutText.f t204 (strOfNums l0_5)).bind fun t234 => ((rosetteref03_Make.f k t234).bind fun bt237 => (some (bt237.1, true))))))))) = some (r1, r2) := by rw [if_pos rfl] at H; exact H
    clear H
    have H := H1
    clear H1
    replace H := Option.bind_eq_some_iff.mp H
    obtain ⟨t201, A40, H⟩ := H
    replace H : ((rosetteref02_Put.f t201 (IntKind.u64.wrap (a0_1))).bind fun t204 => (if a0_0 = 1 then ((rosetteref02_Put.f t204 (IntKind.u64.wrap (a0_3))).bind fun t207 => ((rosetteref02_Put.f t207 (IntKind.u64.wrap (a0_4))).bind fun t210 => ((rosetteref03_Make.f k t210).bind fun bt213 => (some (bt213.1, true))))) else (if a0_0 = 2 then ((rosetteref02_Put.f t204 (IntKind.u64.wrap (a0_2))).bind fun t217 => ((rosetteref02_PutText.f t217 (strOfNums l0_5)).bind fun t220 => ((rosetteref03_Make.f k t220).bind fun bt223 => (some (bt223.1, true))))) else (if a0_0 = 3 then ((rosetteref02_Put.f t204 (IntKind.u64.wrap (a0_2))).bind fun t227 => ((rosetteref03_Make.f k t227).bind fun bt230 => (some (bt230.1, true)))) else ((rosetteref02_PutText.f t204 (strOfNums l0_5)).bind fun t234 => ((rosetteref03_Make.f k t234).bind fun bt237 => (some (bt237.1, true)))))))) = some (r1, r2) := H
    have A4 := Aside0.mk A40
    clear A40
    replace H := Option.bind_eq_some_iff.mp H
    obtain ⟨t204, A50, H⟩ := H
    replace H : (if a0_0 = 1 then ((rosetteref02_Put.f t204 (IntKind.u64.wrap (a0_3))).bind fun t207 => ((rosetteref02_Put.f t207 (IntKind.u64.wrap (a0_4))).bind fun t210 => ((rosetteref03_Make.f k t210).bind fun bt213 => (some (bt213.1, true))))) else (if a0_0 = 2 then ((rosetteref02_Put.f t204 (IntKind.u64.wrap (a0_2))).bind fun t217 => ((rosetteref02_PutText.f t217 (strOfNums l0_5)).bind fun t220 => ((rosetteref03_Make.f k t220).bind fun bt223 => (some (bt223.1, true))))) else (if a0_0 = 3 then ((rosetteref02_Put.f t204 (IntKind.u64.wrap (a0_2))).bind fun t227 => ((rosetteref03_Make.f k t227).bind fun bt230 => (some (bt230.1, true)))) else ((rosetteref02_PutText.f t204 (strOfNums l0_5)).bind fun t234 => ((rosetteref03_Make.f k t234).bind fun bt237 => (some (bt237.1, true))))))) = some (r1, r2) := H
    have A5 := Aside0.mk A50
    clear A50
    by_cases c6 : a0_0 = 1
    · rw [if_pos c6] at H
      have c6b0 : (a0_0 == 1) = true := beq_iff_eq.mpr c6
      have c6b1 : (a0_0 != 1) = false := bne_eq_false_iff_eq.mpr c6
      clear c6
      replace H := Option.bind_eq_some_iff.mp H
      obtain ⟨t207, A70, H⟩ := H
      replace H : ((rosetteref02_Put.f t207 (IntKind.u64.wrap (a0_4))).bind fun t210 => ((rosetteref03_Make.f k t210).bind fun bt213 => (some (bt213.1, true)))) = some (r1, r2) := H
      have A7 := Aside0.mk A70
      clear A70
      replace H := Option.bind_eq_some_iff.mp H
      obtain ⟨t210, A80, H⟩ := H
      replace H : ((rosetteref03_Make.f k t210).bind fun bt213 => (some (bt213.1, true))) = some (r1, r2) := H
      have A8 := Aside0.mk A80
      clear A80
      replace H := Option.bind_eq_some_iff.mp H
      obtain ⟨⟨t213, t214⟩, A90, H⟩ := H
      replace H : (some (t213, true)) = some (r1, r2) := H
      have A9 := Aside0.mk A90
      clear A90
      simp only [Option.some.injEq, Prod.mk.injEq] at H
      obtain ⟨rfl, rfl⟩ := H
      go_enter Try.func10, Try.ntmps10
      try go_wp2_with (first | ((with_reducible refine gate_dst (N := 1) rfl ?_); refine box_event ?hg (N := 1) ?hd (cs := #[.int .i64 a0_0, .int .i64 a0_1, .int .i64 a0_2, .int .i64 a0_3, .int .u32 a0_4, .slice A0_5 l0_5.length c0_5]) (t := 25) ?hr ?_; (case hd => rfl); (case hg => rfl); (case hr => first | (go_simp; done) | (go_simp; rfl)); intro gb199 hg w10 hbox hb; have n0_ := Aside0.mk (below_step (by repeat (first | (with_reducible first | exact HB.out | apply below_alloc | apply pw_below_drewN | apply below_drew1) | exact HB.out)) hb); have n1_ := Aside0.mk (hbox); have n2_ := Aside0.mk ((by rw [hg]; exact (below_size (by repeat (first | (with_reducible first | exact HB.out | apply below_alloc | apply pw_below_drewN | apply below_drew1) | exact HB.out))) : w.heap.size ≤ gb199)); have n3_ := Aside0.mk ((by rw [hg]; exact (below_size (by repeat (first | (with_reducible first | exact HB.out | apply below_alloc | apply pw_below_drewN | apply below_drew1) | exact HB.out))) : w.heap.size ≤ gb199)); clear HB; have HB := n0_; have BK199 := n1_; have GW199 := n2_; have GE199 := n3_; clear n0_ n1_ n2_ n3_; clear hb hbox hg; have hcz11_0 : w10.cell? ⟨gb199, 0, none⟩ = some (.int .i64 a0_0) := (blk_cell BK199.out 0).trans rfl; have hcz11_1 : w10.cell? ⟨gb199, 1, none⟩ = some (.int .i64 a0_1) := (blk_cell BK199.out 1).trans rfl; have hcz11_2 : w10.cell? ⟨gb199, 2, none⟩ = some (.int .i64 a0_2) := (blk_cell BK199.out 2).trans rfl; have hcz11_3 : w10.cell? ⟨gb199, 3, none⟩ = some (.int .i64 a0_3) := (blk_cell BK199.out 3).trans rfl; have hcz11_4 : w10.cell? ⟨gb199, 4, none⟩ = some (.int .u32 a0_4) := (blk_cell BK199.out 4).trans rfl; have hcz11_5 : w10.cell? ⟨gb199, 5, none⟩ = some (.slice A0_5 l0_5.length c0_5) := (blk_cell BK199.out 5).trans rfl; have hfz11_0 := blk_frozen BK199.out 0; have hfz11_1 := blk_frozen BK199.out 1; have hfz11_2 := blk_frozen BK199.out 2; have hfz11_3 := blk_frozen BK199.out 3; have hfz11_4 := blk_frozen BK199.out 4; have hfz11_5 := blk_frozen BK199.out 5) | ((with_reducible refine gate_callee (f := 21) rfl ?_); refine goesL_ (some 9) rfl rfl Try.func21 (by kernel_rfl) rfl #[.agg #[.int .i64 a0_0, .int .i64 a0_1, .int .i64 a0_2, .int .i64 a0_3, .int .u32 a0_4, .slice A0_5 l0_5.length c0_5]] rfl (by (try simp only [List.map_toArray, List.map_cons, List.map_nil]); first | done | rfl | (simp only [List.length_drop, List.length_take]; rfl)) ?_; (with_reducible refine (rosetteref22_right.calls k a0_0 a0_1 a0_2 a0_3 a0_4 _ _ l0_5 true _ ?side1 ?side2 A2.out).mono ?_); (case side1 => repeat (first | exact (Kd.C_below HR0_5.out HB.out) | (with_reducible refine Kd.C_alloc ?_ _) | (with_reducible refine Kd.C_drewN ?_ _) | (with_reducible refine Kd.C_drew ?_))); (case side2 => exact HC0_5.out); rintro e w12 ⟨rfl, hb⟩; refine ⟨_, rfl, ?_⟩; have n0_ := Aside0.mk (blk_below (g := gb199) (o := .cells #[.int .i64 a0_0, .int .i64 a0_1, .int .i64 a0_2, .int .i64 a0_3, .int .u32 a0_4, .slice A0_5 l0_5.length c0_5] 25 (0, 0)) (by (with_reducible repeat (first | refine blk_drewN ?_ _ | refine blk_drew ?_ | refine blk_alloc ?_ _)); exact BK199.out) hb); have n1_ := Aside0.mk (below_step (by repeat (first | (with_reducible first | exact HB.out | apply below_alloc | apply pw_below_drewN | apply below_drew1 | refine below_set ?_ GE199.out) | exact HB.out)) hb); clear BK199; clear HB; have BK199 := n0_; have HB := n1_; clear n0_ n1_; (try clear hb); (try clear hb2); (try clear hk); (try clear hi)))
      have n0_ := Aside0.mk (blk_drew BK199.out)
      have n1_ := Aside0.mk (below_drew1 HB.out)
      clear BK199
      clear HB
      have BK199 := n0_
      have HB := n1_
      clear n0_ n1_
      refine start_ (n := 9) (S := fun w' => w'.cell? ⟨gb199, 0, none⟩ = some (.int .i64 a0_0) ∧ w'.cell? ⟨gb199, 1, none⟩ = some (.int .i64 a0_1) ∧ w'.cell? ⟨gb199, 2, none⟩ = some (.int .i64 a0_2) ∧ w'.cell? ⟨gb199, 3, none⟩ = some (.int .i64 a0_3) ∧ w'.cell? ⟨gb199, 4, none⟩ = some (.int .u32 a0_4) ∧ w'.cell? ⟨gb199, 5, none⟩ = some (.slice A0_5 l0_5.length c0_5)) (ds := []) #[false, false, false, false, false, false, false, false, false] (by kernel_rfl) rfl rfl ⟨(blk_cell BK199.out 0).trans rfl, (blk_cell BK199.out 1).trans rfl, (blk_cell BK199.out 2).trans rfl, (blk_cell BK199.out 3).trans rfl, (blk_cell BK199.out 4).trans rfl, (blk_cell BK199.out 5).trans rfl⟩ (fun hHeld => ?_); refine with_tabW rosetteref22_Encode.tab4 rosetteref22_Encode.bits4 (fun HT_ HW_ => ?_)
      generalize w12.drew = w13 at BK199 HB hHeld ⊢
      refine pure_ (i := 0) (N := some 12) (v := ?_) (a' := ?_) #[true, false, false, false, false, false, false, false, false] rfl rfl (any_of HT_.out (by kernel_rfl)) (fun _ _ _ h => h) (Or.inl ⟨by rfl, ?_⟩) ?_ ?_
      rotate_left
      · intro w'
        go_simp
        with_reducible rfl
      rotate_left
      · simp only [Act.put, List.setIfInBounds_toArray, List.set_cons_zero, List.set_cons_succ, i64_w, i32_w]
        rfl
      refine pure_ (i := 4) (N := some 16) (v := ?_) (a' := ?_) #[true, false, false, false, true, false, false, false, false] rfl rfl (any_of HT_.out (by kernel_rfl)) (fun _ _ _ h => h) (Or.inl ⟨by rfl, ?_⟩) ?_ ?_
      rotate_left
      · intro w'
        go_simp
        with_reducible rfl
      rotate_left
      · simp only [Act.put, List.setIfInBounds_toArray, List.set_cons_zero, List.set_cons_succ, i64_w, i32_w]
        rfl
      refine take_ (i := 1) (N := some 13) (v := ?_) (a' := ?_) #[true, true, false, false, true, false, false, false, false] rfl rfl (take_ofW HT_.out HW_.out (by kernel_rfl)) (fun _ _ _ h => h) (Or.inl ⟨by rfl, ?_⟩) hHeld ?_ ?_
      rotate_left
      · rintro w' ⟨s0, s1, s2, s3, s4, s5⟩
        go_simp
        with_reducible rfl
      rotate_left
      · simp only [Act.put, List.setIfInBounds_toArray, List.set_cons_zero, List.set_cons_succ, i64_w, i32_w]
        rfl
      refine pure_ (i := 2) (N := some 14) (v := ?_) (a' := ?_) #[true, true, true, false, true, false, false, false, false] rfl rfl (any_of HT_.out (by kernel_rfl)) (fun _ _ _ h => h) (Or.inl ⟨by rfl, ?_⟩) ?_ ?_
      rotate_left
      · intro w'
        go_simp
        with_reducible rfl
      rotate_left
      · simp only [Act.put, List.setIfInBounds_toArray, List.set_cons_zero, List.set_cons_succ, i64_w, i32_w]
        rfl
      refine take_ (i := 5) (N := some 17) (v := ?_) (a' := ?_) #[true, true, true, false, true, true, false, false, false] rfl rfl (take_ofW HT_.out HW_.out (by kernel_rfl)) (fun _ _ _ h => h) (Or.inl ⟨by rfl, ?_⟩) hHeld ?_ ?_
      rotate_left
      · rintro w' ⟨s0, s1, s2, s3, s4, s5⟩
        go_simp
        with_reducible rfl
      rotate_left
      · simp only [Act.put, List.setIfInBounds_toArray, List.set_cons_zero, List.set_cons_succ, i64_w, i32_w]
        rfl
      refine pure_ (i := 6) (N := some 18) (v := ?_) (a' := ?_) #[true, true, true, false, true, true, true, false, false] rfl rfl (any_of HT_.out (by kernel_rfl)) (fun _ _ _ h => h) (Or.inl ⟨by rfl, ?_⟩) ?_ ?_
      rotate_left
      · intro w'
        go_simp
        with_reducible rfl
      rotate_left
      · simp only [Act.put, List.setIfInBounds_toArray, List.set_cons_zero, List.set_cons_succ, i64_w, i32_w]
        rfl
      refine one_ (i := 3) (N := some 15) #[true, true, true, true, true, true, true, false, false] rfl rfl (one_of HT_.out (by kernel_rfl)) (by decide) (fun K hK => ?_)
      refine goes_ Try.func22 (by kernel_rfl) rfl #[.slice none 0 0, .int .u64 (IntKind.u64.wrap (a0_0))] (by rfl) rfl rfl (by (try simp only [List.map_toArray, List.map_cons, List.map_nil]); first | done | rfl | (simp only [List.length_drop, List.length_take]; rfl)) ?_
      refine (rosetteref02_Put.calls _ _ ([] : List Int) (IntKind.u64.wrap (a0_0)) t201 _ ?side1 ?side2 A4.out).mono ?_
      (case side1 => exact Kd.C_nil _ _)
      (case side2 => exact Nat.le_refl _)
      rintro e w14 ⟨v202, rfl, ho0, hb⟩
      refine ⟨_, rfl, ?_⟩
      have n0_ := Aside0.mk (Kd.R_lower ho0 (below_size (by repeat (first | (with_reducible first | exact HB.out | apply below_alloc | apply pw_below_drewN | apply below_drew1 | refine below_set ?_ GE199.out) | exact HB.out))))
      have n1_ := Aside0.mk (blk_below (g := gb199) (o := .cells #[.int .i64 a0_0, .int .i64 a0_1, .int .i64 a0_2, .int .i64 a0_3, .int .u32 a0_4, .slice A0_5 l0_5.length c0_5] 25 (0, 0)) (by (with_reducible repeat (first | refine blk_drewN ?_ _ | refine blk_drew ?_ | refine blk_alloc ?_ _)); exact BK199.out) hb)
      have n2_ := Aside0.mk (below_step (by repeat (first | (with_reducible first | exact HB.out | apply below_alloc | apply pw_below_drewN | apply below_drew1 | refine below_set ?_ GE199.out) | exact HB.out)) hb)
      clear BK199
      clear HB
      have HO203 := n0_
      have BK199 := n1_
      have HB := n2_
      clear n0_ n1_ n2_
      (try clear hb)
      (try clear hb2)
      (try clear hk)
      (try clear hi)
      (try clear ho0)
      obtain ⟨Ao15, co15, eo15⟩ := Kd.R_slice HO203.out
      (first | subst eo15 | (injection eo15 with f1_ f2_ f3_; have f4_ := f1_.symm; have f5_ := f3_.symm; clear f1_ f2_ f3_; subst f4_; subst f5_))
      refine hK.out _ _ ⟨(blk_cell BK199.out 0).trans rfl, (blk_cell BK199.out 1).trans rfl, (blk_cell BK199.out 2).trans rfl, (blk_cell BK199.out 3).trans rfl, (blk_cell BK199.out 4).trans rfl, (blk_cell BK199.out 5).trans rfl⟩ (fun hHeld => ?_)
      clear hK K
      refine norm_ (a' := ?_) ?_ ?_
      rotate_left
      · show Act.put _ (some 15) _ = _
        simp only [Act.put, List.setIfInBounds_toArray, List.set_cons_zero, List.set_cons_succ, i64_w, i32_w]
        rfl
      refine one_ (i := 7) (N := some 19) #[true, true, true, true, true, true, true, true, false] rfl rfl (one_of HT_.out (by kernel_rfl)) (by decide) (fun K hK => ?_)
      refine goes_ Try.func22 (by kernel_rfl) rfl #[.slice Ao15 t201.length co15, .int .u64 (IntKind.u64.wrap (a0_1))] (by rfl) rfl rfl (by (try simp only [List.map_toArray, List.map_cons, List.map_nil]); first | done | rfl | (simp only [List.length_drop, List.length_take]; rfl)) ?_
      with_reducible refine (rosetteref02_Put.calls _ _ t201 (IntKind.u64.wrap (a0_1)) t204 _ ?side1 ?side2 A5.out).mono ?_
      (case side1 => repeat (first | exact (Kd.R_reads' HO203.out).2.2 | (with_reducible refine Kd.C_alloc ?_ _) | (with_reducible refine Kd.C_drewN ?_ _) | (with_reducible refine Kd.C_drew ?_)))
      (case side2 => exact (Kd.R_reads' HO203.out).2.1)
      rintro e w16 ⟨v205, rfl, ho0, hb⟩
      refine ⟨_, rfl, ?_⟩
      have n0_ := Aside0.mk (Kd.R_elder' (by (with_reducible repeat (first | apply Kd.R_alloc | apply Kd.R_drewN | apply Kd.R_drew)); exact HO203.out) (Kd.R_base ho0) hb)
      have n1_ := Aside0.mk (Kd.R_lower (Kd.R_new' ho0 (Kd.R_lt (by (with_reducible repeat (first | apply Kd.R_alloc | apply Kd.R_drewN | apply Kd.R_drew)); exact HO203.out))) (below_size (by repeat (first | (with_reducible first | exact HB.out | apply below_alloc | apply pw_below_drewN | apply below_drew1 | refine below_set ?_ GE199.out) | exact HB.out))))
      have n2_ := Aside0.mk (blk_below (g := gb199) (o := .cells #[.int .i64 a0_0, .int .i64 a0_1, .int .i64 a0_2, .int .i64 a0_3, .int .u32 a0_4, .slice A0_5 l0_5.length c0_5] 25 (0, 0)) (by (with_reducible repeat (first | refine blk_drewN ?_ _ | refine blk_drew ?_ | refine blk_alloc ?_ _)); exact BK199.out) hb)
      have n3_ := Aside0.mk (below_step (by repeat (first | (with_reducible first | exact HB.out | apply below_alloc | apply pw_below_drewN | apply below_drew1 | refine below_set ?_ GE199.out) | exact HB.out)) hb)
      clear HO203
      clear BK199
      clear HB
      have HO203 := n0_
      have HO206 := n1_
      have BK199 := n2_
      have HB := n3_
      clear n0_ n1_ n2_ n3_
      (try clear hb)
      (try clear hb2)
      (try clear hk)
      (try clear hi)
      (try clear ho0)
      refine hK.out _ _ ⟨(blk_cell BK199.out 0).trans rfl, (blk_cell BK199.out 1).trans rfl, (blk_cell BK199.out 2).trans rfl, (blk_cell BK199.out 3).trans rfl, (blk_cell BK199.out 4).trans rfl, (blk_cell BK199.out 5).trans rfl⟩ (fun hHeld => ?_)
      clear hK K
      refine norm_ (a' := ?_) ?_ ?_
      rotate_left
      · show Act.put _ (some 19) _ = _
        simp only [Act.put, List.setIfInBounds_toArray, List.set_cons_zero, List.set_cons_succ, i64_w, i32_w]
        rfl
      refine pure_ (i := 8) (N := some 5) (v := ?_) (a' := ?_) #[true, true, true, true, true, true, true, true, true] rfl rfl (any_of HT_.out (by kernel_rfl)) (fun _ _ _ h => h) (Or.inl ⟨by rfl, ?_⟩) ?_ ?_
      rotate_left
      · intro w'
        go_simp
        with_reducible rfl
      rotate_left
      · simp only [Act.put, List.setIfInBounds_toArray, List.set_cons_zero, List.set_cons_succ, i64_w, i32_w]
        rfl
      refine done_ (done_of HT_.out (by kernel_rfl)) ?_
      have hcz17_0 : w16.cell? ⟨gb199, 0, none⟩ = some (.int .i64 a0_0) := (blk_cell BK199.out 0).trans rfl
      have hcz17_1 : w16.cell? ⟨gb199, 1, none⟩ = some (.int .i64 a0_1) := (blk_cell BK199.out 1).trans rfl
      have hcz17_2 : w16.cell? ⟨gb199, 2, none⟩ = some (.int .i64 a0_2) := (blk_cell BK199.out 2).trans rfl
      have hcz17_3 : w16.cell? ⟨gb199, 3, none⟩ = some (.int .i64 a0_3) := (blk_cell BK199.out 3).trans rfl
      have hcz17_4 : w16.cell? ⟨gb199, 4, none⟩ = some (.int .u32 a0_4) := (blk_cell BK199.out 4).trans rfl
      have hcz17_5 : w16.cell? ⟨gb199, 5, none⟩ = some (.slice A0_5 l0_5.length c0_5) := (blk_cell BK199.out 5).trans rfl
      have hfz17_0 := blk_frozen BK199.out 0
      have hfz17_1 := blk_frozen BK199.out 1
      have hfz17_2 := blk_frozen BK199.out 2
      have hfz17_3 := blk_frozen BK199.out 3
      have hfz17_4 := blk_frozen BK199.out 4
      have hfz17_5 := blk_frozen BK199.out 5
      try go_wp2
      have n0_ := Aside0.mk (Kd.R_drew HO203.out)
      have n1_ := Aside0.mk (Kd.R_drew HO206.out)
      have n2_ := Aside0.mk (blk_drew BK199.out)
      have n3_ := Aside0.mk (below_drew1 HB.out)
      clear HO203
      clear HO206
      clear BK199
      clear HB
      have HO203 := n0_
      have HO206 := n1_
      have BK199 := n2_
      have HB := n3_
      clear n0_ n1_ n2_ n3_
      obtain ⟨Ao19, co19, eo19⟩ := Kd.R_slice HO206.out
      (first | subst eo19 | (injection eo19 with f1_ f2_ f3_; have f4_ := f1_.symm; have f5_ := f3_.symm; clear f1_ f2_ f3_; subst f4_; subst f5_))
      refine start_ (n := 10) (S := fun w' => w'.cell? ⟨gb199, 0, none⟩ = some (.int .i64 a0_0) ∧ w'.cell? ⟨gb199, 1, none⟩ = some (.int .i64 a0_1) ∧ w'.cell? ⟨gb199, 2, none⟩ = some (.int .i64 a0_2) ∧ w'.cell? ⟨gb199, 3, none⟩ = some (.int .i64 a0_3) ∧ w'.cell? ⟨gb199, 4, none⟩ = some (.int .u32 a0_4) ∧ w'.cell? ⟨gb199, 5, none⟩ = some (.slice A0_5 l0_5.length c0_5)) (ds := []) #[false, false, false, false, false, false, false, false, false, false] (by kernel_rfl) rfl rfl ⟨(blk_cell BK199.out 0).trans rfl, (blk_cell BK199.out 1).trans rfl, (blk_cell BK199.out 2).trans rfl, (blk_cell BK199.out 3).trans rfl, (blk_cell BK199.out 4).trans rfl, (blk_cell BK199.out 5).trans rfl⟩ (fun hHeld => ?_); refine with_tabW rosetteref22_Encode.tab8 rosetteref22_Encode.bits8 (fun HT_ HW_ => ?_)
      generalize w16.drew = w18 at HO203 HO206 BK199 HB hHeld ⊢
      refine pure_ (i := 0) (N := some 29) (v := ?_) (a' := ?_) #[true, false, false, false, false, false, false, false, false, false] rfl rfl (any_of HT_.out (by kernel_rfl)) (fun _ _ _ h => h) (Or.inl ⟨by rfl, ?_⟩) ?_ ?_
      rotate_left
      · intro w'
        go_simp
        with_reducible rfl
      rotate_left
      · simp only [Act.put, List.setIfInBounds_toArray, List.set_cons_zero, List.set_cons_succ, i64_w, i32_w]
        rfl
      refine pure_ (i := 1) (N := some 30) (v := ?_) (a' := ?_) #[true, true, false, false, false, false, false, false, false, false] rfl rfl (any_of HT_.out (by kernel_rfl)) (fun _ _ _ h => h) (Or.inl ⟨by rfl, ?_⟩) ?_ ?_
      rotate_left
      · intro w'
        go_simp
        with_reducible rfl
      rotate_left
      · simp only [Act.put, List.setIfInBounds_toArray, List.set_cons_zero, List.set_cons_succ, i64_w, i32_w]
        rfl
      refine pure_ (i := 5) (N := some 34) (v := ?_) (a' := ?_) #[true, true, false, false, false, true, false, false, false, false] rfl rfl (any_of HT_.out (by kernel_rfl)) (fun _ _ _ h => h) (Or.inl ⟨by rfl, ?_⟩) ?_ ?_
      rotate_left
      · intro w'
        go_simp
        with_reducible rfl
      rotate_left
      · simp only [Act.put, List.setIfInBounds_toArray, List.set_cons_zero, List.set_cons_succ, i64_w, i32_w]
        rfl
      refine take_ (i := 2) (N := some 31) (v := ?_) (a' := ?_) #[true, true, true, false, false, true, false, false, false, false] rfl rfl (take_ofW HT_.out HW_.out (by kernel_rfl)) (fun _ _ _ h => h) (Or.inl ⟨by rfl, ?_⟩) hHeld ?_ ?_
      rotate_left
      · rintro w' ⟨s0, s1, s2, s3, s4, s5⟩
        go_simp
        with_reducible rfl
      rotate_left
      · simp only [Act.put, List.setIfInBounds_toArray, List.set_cons_zero, List.set_cons_succ, i64_w, i32_w]
        rfl
      refine pure_ (i := 3) (N := some 32) (v := ?_) (a' := ?_) #[true, true, true, true, false, true, false, false, false, false] rfl rfl (any_of HT_.out (by kernel_rfl)) (fun _ _ _ h => h) (Or.inl ⟨by rfl, ?_⟩) ?_ ?_
      rotate_left
      · intro w'
        go_simp
        with_reducible rfl
      rotate_left
      · simp only [Act.put, List.setIfInBounds_toArray, List.set_cons_zero, List.set_cons_succ, i64_w, i32_w]
        rfl
      refine take_ (i := 6) (N := some 35) (v := ?_) (a' := ?_) #[true, true, true, true, false, true, true, false, false, false] rfl rfl (take_ofW HT_.out HW_.out (by kernel_rfl)) (fun _ _ _ h => h) (Or.inl ⟨by rfl, ?_⟩) hHeld ?_ ?_
      rotate_left
      · rintro w' ⟨s0, s1, s2, s3, s4, s5⟩
        go_simp
        with_reducible rfl
      rotate_left
      · simp only [Act.put, List.setIfInBounds_toArray, List.set_cons_zero, List.set_cons_succ, i64_w, i32_w]
        rfl
      refine pure_ (i := 7) (N := some 36) (v := ?_) (a' := ?_) #[true, true, true, true, false, true, true, true, false, false] rfl rfl (any_of HT_.out (by kernel_rfl)) (fun _ _ _ h => h) (Or.inl ⟨by rfl, ?_⟩) ?_ ?_
      rotate_left
      · intro w'
        go_simp
        with_reducible rfl
      rotate_left
      · simp only [Act.put, List.setIfInBounds_toArray, List.set_cons_zero, List.set_cons_succ, i64_w, i32_w]
        rfl
      refine one_ (i := 4) (N := some 33) #[true, true, true, true, true, true, true, true, false, false] rfl rfl (one_of HT_.out (by kernel_rfl)) (by decide) (fun K hK => ?_)
      refine goes_ Try.func22 (by kernel_rfl) rfl #[.slice Ao19 t204.length co19, .int .u64 (IntKind.u64.wrap (a0_3))] (by rfl) rfl rfl (by (try simp only [List.map_toArray, List.map_cons, List.map_nil]); first | done | rfl | (simp only [List.length_drop, List.length_take]; rfl)) ?_
      with_reducible refine (rosetteref02_Put.calls _ _ t204 (IntKind.u64.wrap (a0_3)) t207 _ ?side1 ?side2 A7.out).mono ?_
      (case side1 => repeat (first | exact (Kd.R_reads' HO206.out).2.2 | (with_reducible refine Kd.C_alloc ?_ _) | (with_reducible refine Kd.C_drewN ?_ _) | (with_reducible refine Kd.C_drew ?_)))
      (case side2 => exact (Kd.R_reads' HO206.out).2.1)
      rintro e w20 ⟨v208, rfl, ho0, hb⟩
      refine ⟨_, rfl, ?_⟩
      have n0_ := Aside0.mk (Kd.R_elder' (by (with_reducible repeat (first | apply Kd.R_alloc | apply Kd.R_drewN | apply Kd.R_drew)); exact HO203.out) (Kd.R_base ho0) hb)
      have n1_ := Aside0.mk (Kd.R_elder' (by (with_reducible repeat (first | apply Kd.R_alloc | apply Kd.R_drewN | apply Kd.R_drew)); exact HO206.out) (Kd.R_base ho0) hb)
      have n2_ := Aside0.mk (Kd.R_lower (Kd.R_new' (Kd.R_new' ho0 (Kd.R_lt (by (with_reducible repeat (first | apply Kd.R_alloc | apply Kd.R_drewN | apply Kd.R_drew)); exact HO203.out))) (Kd.R_lt (by (with_reducible repeat (first | apply Kd.R_alloc | apply Kd.R_drewN | apply Kd.R_drew)); exact HO206.out))) (below_size (by repeat (first | (with_reducible first | exact HB.out | apply below_alloc | apply pw_below_drewN | apply below_drew1 | refine below_set ?_ GE199.out) | exact HB.out))))
      have n3_ := Aside0.mk (blk_below (g := gb199) (o := .cells #[.int .i64 a0_0, .int .i64 a0_1, .int .i64 a0_2, .int .i64 a0_3, .int .u32 a0_4, .slice A0_5 l0_5.length c0_5] 25 (0, 0)) (by (with_reducible repeat (first | refine blk_drewN ?_ _ | refine blk_drew ?_ | refine blk_alloc ?_ _)); exact BK199.out) hb)
      have n4_ := Aside0.mk (below_step (by repeat (first | (with_reducible first | exact HB.out | apply below_alloc | apply pw_below_drewN | apply below_drew1 | refine below_set ?_ GE199.out) | exact HB.out)) hb)
      clear HO203
      clear HO206
      clear BK199
      clear HB
      have HO203 := n0_
      have HO206 := n1_
      have HO209 := n2_
      have BK199 := n3_
      have HB := n4_
      clear n0_ n1_ n2_ n3_ n4_
      (try clear hb)
      (try clear hb2)
      (try clear hk)
      (try clear hi)
      (try clear ho0)
      obtain ⟨Ao21, co21, eo21⟩ := Kd.R_slice HO209.out
      (first | subst eo21 | (injection eo21 with f1_ f2_ f3_; have f4_ := f1_.symm; have f5_ := f3_.symm; clear f1_ f2_ f3_; subst f4_; subst f5_))
      refine hK.out _ _ ⟨(blk_cell BK199.out 0).trans rfl, (blk_cell BK199.out 1).trans rfl, (blk_cell BK199.out 2).trans rfl, (blk_cell BK199.out 3).trans rfl, (blk_cell BK199.out 4).trans rfl, (blk_cell BK199.out 5).trans rfl⟩ (fun hHeld => ?_)
      clear hK K
      refine norm_ (a' := ?_) ?_ ?_
      rotate_left
      · show Act.put _ (some 33) _ = _
        simp only [Act.put, List.setIfInBounds_toArray, List.set_cons_zero, List.set_cons_succ, i64_w, i32_w]
        rfl
      refine one_ (i := 8) (N := some 37) #[true, true, true, true, true, true, true, true, true, false] rfl rfl (one_of HT_.out (by kernel_rfl)) (by decide) (fun K hK => ?_)
      refine goes_ Try.func22 (by kernel_rfl) rfl #[.slice Ao21 t207.length co21, .int .u64 (IntKind.u64.wrap (a0_4))] (by rfl) rfl rfl (by (try simp only [List.map_toArray, List.map_cons, List.map_nil]); first | done | rfl | (simp only [List.length_drop, List.length_take]; rfl)) ?_
      with_reducible refine (rosetteref02_Put.calls _ _ t207 (IntKind.u64.wrap (a0_4)) t210 _ ?side1 ?side2 A8.out).mono ?_
      (case side1 => repeat (first | exact (Kd.R_reads' HO209.out).2.2 | (with_reducible refine Kd.C_alloc ?_ _) | (with_reducible refine Kd.C_drewN ?_ _) | (with_reducible refine Kd.C_drew ?_)))
      (case side2 => exact (Kd.R_reads' HO209.out).2.1)
      rintro e w22 ⟨v211, rfl, ho0, hb⟩
      refine ⟨_, rfl, ?_⟩
      have n0_ := Aside0.mk (Kd.R_elder' (by (with_reducible repeat (first | apply Kd.R_alloc | apply Kd.R_drewN | apply Kd.R_drew)); exact HO203.out) (Kd.R_base ho0) hb)
      have n1_ := Aside0.mk (Kd.R_elder' (by (with_reducible repeat (first | apply Kd.R_alloc | apply Kd.R_drewN | apply Kd.R_drew)); exact HO206.out) (Kd.R_base ho0) hb)
      have n2_ := Aside0.mk (Kd.R_elder' (by (with_reducible repeat (first | apply Kd.R_alloc | apply Kd.R_drewN | apply Kd.R_drew)); exact HO209.out) (Kd.R_base ho0) hb)
      have n3_ := Aside0.mk (Kd.R_lower (Kd.R_new' (Kd.R_new' (Kd.R_new' ho0 (Kd.R_lt (by (with_reducible repeat (first | apply Kd.R_alloc | apply Kd.R_drewN | apply Kd.R_drew)); exact HO203.out))) (Kd.R_lt (by (with_reducible repeat (first | apply Kd.R_alloc | apply Kd.R_drewN | apply Kd.R_drew)); exact HO206.out))) (Kd.R_lt (by (with_reducible repeat (first | apply Kd.R_alloc | apply Kd.R_drewN | apply Kd.R_drew)); exact HO209.out))) (below_size (by repeat (first | (with_reducible first | exact HB.out | apply below_alloc | apply pw_below_drewN | apply below_drew1 | refine below_set ?_ GE199.out) | exact HB.out))))
      have n4_ := Aside0.mk (blk_below (g := gb199) (o := .cells #[.int .i64 a0_0, .int .i64 a0_1, .int .i64 a0_2, .int .i64 a0_3, .int .u32 a0_4, .slice A0_5 l0_5.length c0_5] 25 (0, 0)) (by (with_reducible repeat (first | refine blk_drewN ?_ _ | refine blk_drew ?_ | refine blk_alloc ?_ _)); exact BK199.out) hb)
      have n5_ := Aside0.mk (below_step (by repeat (first | (with_reducible first | exact HB.out | apply below_alloc | apply pw_below_drewN | apply below_drew1 | refine below_set ?_ GE199.out) | exact HB.out)) hb)
      clear HO203
      clear HO206
      clear HO209
      clear BK199
      clear HB
      have HO203 := n0_
      have HO206 := n1_
      have HO209 := n2_
      have HO212 := n3_
      have BK199 := n4_
      have HB := n5_
      clear n0_ n1_ n2_ n3_ n4_ n5_
      (try clear hb)
      (try clear hb2)
      (try clear hk)
      (try clear hi)
      (try clear ho0)
      refine hK.out _ _ ⟨(blk_cell BK199.out 0).trans rfl, (blk_cell BK199.out 1).trans rfl, (blk_cell BK199.out 2).trans rfl, (blk_cell BK199.out 3).trans rfl, (blk_cell BK199.out 4).trans rfl, (blk_cell BK199.out 5).trans rfl⟩ (fun hHeld => ?_)
      clear hK K
      refine norm_ (a' := ?_) ?_ ?_
      rotate_left
      · show Act.put _ (some 37) _ = _
        simp only [Act.put, List.setIfInBounds_toArray, List.set_cons_zero, List.set_cons_succ, i64_w, i32_w]
        rfl
      refine pure_ (i := 9) (N := some 5) (v := ?_) (a' := ?_) #[true, true, true, true, true, true, true, true, true, true] rfl rfl (any_of HT_.out (by kernel_rfl)) (fun _ _ _ h => h) (Or.inl ⟨by rfl, ?_⟩) ?_ ?_
      rotate_left
      · intro w'
        go_simp
        with_reducible rfl
      rotate_left
      · simp only [Act.put, List.setIfInBounds_toArray, List.set_cons_zero, List.set_cons_succ, i64_w, i32_w]
        rfl
      refine done_ (done_of HT_.out (by kernel_rfl)) ?_
      obtain ⟨Ao23, co23, eo23⟩ := Kd.R_slice HO212.out
      subst eo23
      try go_wp2_with (first | ((with_reducible refine gate_callee (f := 16) rfl ?_); refine goesL_ (some 58) rfl rfl Try.func16 (by kernel_rfl) rfl #[.slice Ao23 t210.length co23] rfl (by (try simp only [List.map_toArray, List.map_cons, List.map_nil]); first | done | rfl | (simp only [List.length_drop, List.length_take]; rfl)) ?_; (with_reducible refine (rosetteref03_Make.calls k _ _ t210 t213 t214 _ ?side1 ?side2 A9.out).mono ?_); (case side1 => repeat (first | exact (Kd.R_reads' HO212.out).2.2 | (with_reducible refine Kd.C_alloc ?_ _) | (with_reducible refine Kd.C_drewN ?_ _) | (with_reducible refine Kd.C_drew ?_))); (case side2 => exact (Kd.R_reads' HO212.out).2.1); rintro e w24 ⟨v215, rfl, ho0, hb⟩; refine ⟨_, rfl, ?_⟩; have n0_ := Aside0.mk (Kd.R_elder' (by (with_reducible repeat (first | apply Kd.R_alloc | apply Kd.R_drewN | apply Kd.R_drew)); exact HO203.out) (Kd.R_base ho0) hb); have n1_ := Aside0.mk (Kd.R_elder' (by (with_reducible repeat (first | apply Kd.R_alloc | apply Kd.R_drewN | apply Kd.R_drew)); exact HO206.out) (Kd.R_base ho0) hb); have n2_ := Aside0.mk (Kd.R_elder' (by (with_reducible repeat (first | apply Kd.R_alloc | apply Kd.R_drewN | apply Kd.R_drew)); exact HO209.out) (Kd.R_base ho0) hb); have n3_ := Aside0.mk (Kd.R_elder' (by (with_reducible repeat (first | apply Kd.R_alloc | apply Kd.R_drewN | apply Kd.R_drew)); exact HO212.out) (Kd.R_base ho0) hb); have n4_ := Aside0.mk (Kd.R_lower (Kd.R_new' (Kd.R_new' (Kd.R_new' (Kd.R_new' ho0 (Kd.R_lt (by (with_reducible repeat (first | apply Kd.R_alloc | apply Kd.R_drewN | apply Kd.R_drew)); exact HO203.out))) (Kd.R_lt (by (with_reducible repeat (first | apply Kd.R_alloc | apply Kd.R_drewN | apply Kd.R_drew)); exact HO206.out))) (Kd.R_lt (by (with_reducible repeat (first | apply Kd.R_alloc | apply Kd.R_drewN | apply Kd.R_drew)); exact HO209.out))) (Kd.R_lt (by (with_reducible repeat (first | apply Kd.R_alloc | apply Kd.R_drewN | apply Kd.R_drew)); exact HO212.out))) (below_size (by repeat (first | (with_reducible first | exact HB.out | apply below_alloc | apply pw_below_drewN | apply below_drew1 | refine below_set ?_ GE199.out) | exact HB.out)))); have n5_ := Aside0.mk (blk_below (g := gb199) (o := .cells #[.int .i64 a0_0, .int .i64 a0_1, .int .i64 a0_2, .int .i64 a0_3, .int .u32 a0_4, .slice A0_5 l0_5.length c0_5] 25 (0, 0)) (by (with_reducible repeat (first | refine blk_drewN ?_ _ | refine blk_drew ?_ | refine blk_alloc ?_ _)); exact BK199.out) hb); have n6_ := Aside0.mk (below_step (by repeat (first | (with_reducible first | exact HB.out | apply below_alloc | apply pw_below_drewN | apply below_drew1 | refine below_set ?_ GE199.out) | exact HB.out)) hb); clear HO203; clear HO206; clear HO209; clear HO212; clear BK199; clear HB; have HO203 := n0_; have HO206 := n1_; have HO209 := n2_; have HO212 := n3_; have HO216 := n4_; have BK199 := n5_; have HB := n6_; clear n0_ n1_ n2_ n3_ n4_ n5_ n6_; (try clear hb); (try clear hb2); (try clear hk); (try clear hi); (try clear ho0)))
      go_ret2
      exact ⟨_, by first | rfl | (simp [errW_none, errW_some] <;> rfl) | (simp [*, errW_none, errW_some] <;> rfl), by (with_reducible repeat (first | apply Kd.R_alloc | apply Kd.R_drewN | apply Kd.R_drew)); exact Kd.R_mono HO216.out (fun _ hk => trivial), by repeat (first | (with_reducible first | exact HB.out | apply below_alloc | apply pw_below_drewN | apply below_drew1 | refine below_set ?_ GE199.out) | exact HB.out)⟩
    · rw [if_neg c6] at H
      have c6b0 : (a0_0 == 1) = false := beq_eq_false_iff_ne.mpr c6
      have c6b1 : (a0_0 != 1) = true := bne_iff_ne.mpr c6
      by_cases c25 : a0_0 = 2
      · rw [if_pos c25] at H
        have c25b0 : (a0_0 == 2) = true := beq_iff_eq.mpr c25
        have c25b1 : (a0_0 != 2) = false := bne_eq_false_iff_eq.mpr c25
        clear c25
        replace H := Option.bind_eq_some_iff.mp H
        obtain ⟨t217, A260, H⟩ := H
        replace H : ((rosetteref02_PutText.f t217 (strOfNums l0_5)).bind fun t220 => ((rosetteref03_Make.f k t220).bind fun bt223 => (some (bt223.1, true)))) = some (r1, r2) := H
        have A26 := Aside0.mk A260
        clear A260
        replace H := Option.bind_eq_some_iff.mp H
        obtain ⟨t220, A270, H⟩ := H
        replace H : ((rosetteref03_Make.f k t220).bind fun bt223 => (some (bt223.1, true))) = some (r1, r2) := H
        have A27 := Aside0.mk A270
        clear A270
        replace H := Option.bind_eq_some_iff.mp H
        obtain ⟨⟨t223, t224⟩, A280, H⟩ := H
        replace H : (some (t223, true)) = some (r1, r2) := H
        have A28 := Aside0.mk A280
        clear A280
        simp only [Option.some.injEq, Prod.mk.injEq] at H
        obtain ⟨rfl, rfl⟩ := H
        go_enter Try.func10, Try.ntmps10
        try go_wp2_with (first | ((with_reducible refine gate_dst (N := 1) rfl ?_); refine box_event ?hg (N := 1) ?hd (cs := #[.int .i64 a0_0, .int .i64 a0_1, .int .i64 a0_2, .int .i64 a0_3, .int .u32 a0_4, .slice A0_5 l0_5.length c0_5]) (t := 25) ?hr ?_; (case hd => rfl); (case hg => rfl); (case hr => first | (go_simp; done) | (go_simp; rfl)); intro gb199 hg w29 hbox hb; have n0_ := Aside0.mk (below_step (by repeat (first | (with_reducible first | exact HB.out | apply below_alloc | apply pw_below_drewN | apply below_drew1) | exact HB.out)) hb); have n1_ := Aside0.mk (hbox); have n2_ := Aside0.mk ((by rw [hg]; exact (below_size (by repeat (first | (with_reducible first | exact HB.out | apply below_alloc | apply pw_below_drewN | apply below_drew1) | exact HB.out))) : w.heap.size ≤ gb199)); have n3_ := Aside0.mk ((by rw [hg]; exact (below_size (by repeat (first | (with_reducible first | exact HB.out | apply below_alloc | apply pw_below_drewN | apply below_drew1) | exact HB.out))) : w.heap.size ≤ gb199)); clear HB; have HB := n0_; have BK199 := n1_; have GW199 := n2_; have GE199 := n3_; clear n0_ n1_ n2_ n3_; clear hb hbox hg; have hcz30_0 : w29.cell? ⟨gb199, 0, none⟩ = some (.int .i64 a0_0) := (blk_cell BK199.out 0).trans rfl; have hcz30_1 : w29.cell? ⟨gb199, 1, none⟩ = some (.int .i64 a0_1) := (blk_cell BK199.out 1).trans rfl; have hcz30_2 : w29.cell? ⟨gb199, 2, none⟩ = some (.int .i64 a0_2) := (blk_cell BK199.out 2).trans rfl; have hcz30_3 : w29.cell? ⟨gb199, 3, none⟩ = some (.int .i64 a0_3) := (blk_cell BK199.out 3).trans rfl; have hcz30_4 : w29.cell? ⟨gb199, 4, none⟩ = some (.int .u32 a0_4) := (blk_cell BK199.out 4).trans rfl; have hcz30_5 : w29.cell? ⟨gb199, 5, none⟩ = some (.slice A0_5 l0_5.length c0_5) := (blk_cell BK199.out 5).trans rfl; have hfz30_0 := blk_frozen BK199.out 0; have hfz30_1 := blk_frozen BK199.out 1; have hfz30_2 := blk_frozen BK199.out 2; have hfz30_3 := blk_frozen BK199.out 3; have hfz30_4 := blk_frozen BK199.out 4; have hfz30_5 := blk_frozen BK199.out 5) | ((with_reducible refine gate_callee (f := 21) rfl ?_); refine goesL_ (some 9) rfl rfl Try.func21 (by kernel_rfl) rfl #[.agg #[.int .i64 a0_0, .int .i64 a0_1, .int .i64 a0_2, .int .i64 a0_3, .int .u32 a0_4, .slice A0_5 l0_5.length c0_5]] rfl (by (try simp only [List.map_toArray, List.map_cons, List.map_nil]); first | done | rfl | (simp only [List.length_drop, List.length_take]; rfl)) ?_; (with_reducible refine (rosetteref22_right.calls k a0_0 a0_1 a0_2 a0_3 a0_4 _ _ l0_5 true _ ?side1 ?side2 A2.out).mono ?_); (case side1 => repeat (first | exact (Kd.C_below HR0_5.out HB.out) | (with_reducible refine Kd.C_alloc ?_ _) | (with_reducible refine Kd.C_drewN ?_ _) | (with_reducible refine Kd.C_drew ?_))); (case side2 => exact HC0_5.out); rintro e w31 ⟨rfl, hb⟩; refine ⟨_, rfl, ?_⟩; have n0_ := Aside0.mk (blk_below (g := gb199) (o := .cells #[.int .i64 a0_0, .int .i64 a0_1, .int .i64 a0_2, .int .i64 a0_3, .int .u32 a0_4, .slice A0_5 l0_5.length c0_5] 25 (0, 0)) (by (with_reducible repeat (first | refine blk_drewN ?_ _ | refine blk_drew ?_ | refine blk_alloc ?_ _)); exact BK199.out) hb); have n1_ := Aside0.mk (below_step (by repeat (first | (with_reducible first | exact HB.out | apply below_alloc | apply pw_below_drewN | apply below_drew1 | refine below_set ?_ GE199.out) | exact HB.out)) hb); clear BK199; clear HB; have BK199 := n0_; have HB := n1_; clear n0_ n1_; (try clear hb); (try clear hb2); (try clear hk); (try clear hi)))
        have n0_ := Aside0.mk (blk_drew BK199.out)
        have n1_ := Aside0.mk (below_drew1 HB.out)
        clear BK199
        clear HB
        have BK199 := n0_
        have HB := n1_
        clear n0_ n1_
        refine start_ (n := 9) (S := fun w' => w'.cell? ⟨gb199, 0, none⟩ = some (.int .i64 a0_0) ∧ w'.cell? ⟨gb199, 1, none⟩ = some (.int .i64 a0_1) ∧ w'.cell? ⟨gb199, 2, none⟩ = some (.int .i64 a0_2) ∧ w'.cell? ⟨gb199, 3, none⟩ = some (.int .i64 a0_3) ∧ w'.cell? ⟨gb199, 4, none⟩ = some (.int .u32 a0_4) ∧ w'.cell? ⟨gb199, 5, none⟩ = some (.slice A0_5 l0_5.length c0_5)) (ds := []) #[false, false, false, false, false, false, false, false, false] (by kernel_rfl) rfl rfl ⟨(blk_cell BK199.out 0).trans rfl, (blk_cell BK199.out 1).trans rfl, (blk_cell BK199.out 2).trans rfl, (blk_cell BK199.out 3).trans rfl, (blk_cell BK199.out 4).trans rfl, (blk_cell BK199.out 5).trans rfl⟩ (fun hHeld => ?_); refine with_tabW rosetteref22_Encode.tab4 rosetteref22_Encode.bits4 (fun HT_ HW_ => ?_)
        generalize w31.drew = w32 at BK199 HB hHeld ⊢
        refine pure_ (i := 0) (N := some 12) (v := ?_) (a' := ?_) #[true, false, false, false, false, false, false, false, false] rfl rfl (any_of HT_.out (by kernel_rfl)) (fun _ _ _ h => h) (Or.inl ⟨by rfl, ?_⟩) ?_ ?_
        rotate_left
        · intro w'
          go_simp
          with_reducible rfl
        rotate_left
        · simp only [Act.put, List.setIfInBounds_toArray, List.set_cons_zero, List.set_cons_succ, i64_w, i32_w]
          rfl
        refine pure_ (i := 4) (N := some 16) (v := ?_) (a' := ?_) #[true, false, false, false, true, false, false, false, false] rfl rfl (any_of HT_.out (by kernel_rfl)) (fun _ _ _ h => h) (Or.inl ⟨by rfl, ?_⟩) ?_ ?_
        rotate_left
        · intro w'
          go_simp
          with_reducible rfl
        rotate_left
        · simp only [Act.put, List.setIfInBounds_toArray, List.set_cons_zero, List.set_cons_succ, i64_w, i32_w]
          rfl
        refine take_ (i := 1) (N := some 13) (v := ?_) (a' := ?_) #[true, true, false, false, true, false, false, false, false] rfl rfl (take_ofW HT_.out HW_.out (by kernel_rfl)) (fun _ _ _ h => h) (Or.inl ⟨by rfl, ?_⟩) hHeld ?_ ?_
        rotate_left
        · rintro w' ⟨s0, s1, s2, s3, s4, s5⟩
          go_simp
          with_reducible rfl
        rotate_left
        · simp only [Act.put, List.setIfInBounds_toArray, List.set_cons_zero, List.set_cons_succ, i64_w, i32_w]
          rfl
        refine pure_ (i := 2) (N := some 14) (v := ?_) (a' := ?_) #[true, true, true, false, true, false, false, false, false] rfl rfl (any_of HT_.out (by kernel_rfl)) (fun _ _ _ h => h) (Or.inl ⟨by rfl, ?_⟩) ?_ ?_
        rotate_left
        · intro w'
          go_simp
          with_reducible rfl
        rotate_left
        · simp only [Act.put, List.setIfInBounds_toArray, List.set_cons_zero, List.set_cons_succ, i64_w, i32_w]
          rfl
        refine take_ (i := 5) (N := some 17) (v := ?_) (a' := ?_) #[true, true, true, false, true, true, false, false, false] rfl rfl (take_ofW HT_.out HW_.out (by kernel_rfl)) (fun _ _ _ h => h) (Or.inl ⟨by rfl, ?_⟩) hHeld ?_ ?_
        rotate_left
        · rintro w' ⟨s0, s1, s2, s3, s4, s5⟩
          go_simp
          with_reducible rfl
        rotate_left
        · simp only [Act.put, List.setIfInBounds_toArray, List.set_cons_zero, List.set_cons_succ, i64_w, i32_w]
          rfl
        refine pure_ (i := 6) (N := some 18) (v := ?_) (a' := ?_) #[true, true, true, false, true, true, true, false, false] rfl rfl (any_of HT_.out (by kernel_rfl)) (fun _ _ _ h => h) (Or.inl ⟨by rfl, ?_⟩) ?_ ?_
        rotate_left
        · intro w'
          go_simp
          with_reducible rfl
        rotate_left
        · simp only [Act.put, List.setIfInBounds_toArray, List.set_cons_zero, List.set_cons_succ, i64_w, i32_w]
          rfl
        refine one_ (i := 3) (N := some 15) #[true, true, true, true, true, true, true, false, false] rfl rfl (one_of HT_.out (by kernel_rfl)) (by decide) (fun K hK => ?_)
        refine goes_ Try.func22 (by kernel_rfl) rfl #[.slice none 0 0, .int .u64 (IntKind.u64.wrap (a0_0))] (by rfl) rfl rfl (by (try simp only [List.map_toArray, List.map_cons, List.map_nil]); first | done | rfl | (simp only [List.length_drop, List.length_take]; rfl)) ?_
        refine (rosetteref02_Put.calls _ _ ([] : List Int) (IntKind.u64.wrap (a0_0)) t201 _ ?side1 ?side2 A4.out).mono ?_
        (case side1 => exact Kd.C_nil _ _)
        (case side2 => exact Nat.le_refl _)
        rintro e w33 ⟨v202, rfl, ho0, hb⟩
        refine ⟨_, rfl, ?_⟩
        have n0_ := Aside0.mk (Kd.R_lower ho0 (below_size (by repeat (first | (with_reducible first | exact HB.out | apply below_alloc | apply pw_below_drewN | apply below_drew1 | refine below_set ?_ GE199.out) | exact HB.out))))
        have n1_ := Aside0.mk (blk_below (g := gb199) (o := .cells #[.int .i64 a0_0, .int .i64 a0_1, .int .i64 a0_2, .int .i64 a0_3, .int .u32 a0_4, .slice A0_5 l0_5.length c0_5] 25 (0, 0)) (by (with_reducible repeat (first | refine blk_drewN ?_ _ | refine blk_drew ?_ | refine blk_alloc ?_ _)); exact BK199.out) hb)
        have n2_ := Aside0.mk (below_step (by repeat (first | (with_reducible first | exact HB.out | apply below_alloc | apply pw_below_drewN | apply below_drew1 | refine below_set ?_ GE199.out) | exact HB.out)) hb)
        clear BK199
        clear HB
        have HO203 := n0_
        have BK199 := n1_
        have HB := n2_
        clear n0_ n1_ n2_
        (try clear hb)
        (try clear hb2)
        (try clear hk)
        (try clear hi)
        (try clear ho0)
        obtain ⟨Ao34, co34, eo34⟩ := Kd.R_slice HO203.out
        (first | subst eo34 | (injection eo34 with f1_ f2_ f3_; have f4_ := f1_.symm; have f5_ := f3_.symm; clear f1_ f2_ f3_; subst f4_; subst f5_))
        refine hK.out _ _ ⟨(blk_cell BK199.out 0).trans rfl, (blk_cell BK199.out 1).trans rfl, (blk_cell BK199.out 2).trans rfl, (blk_cell BK199.out 3).trans rfl, (blk_cell BK199.out 4).trans rfl, (blk_cell BK199.out 5).trans rfl⟩ (fun hHeld => ?_)
        clear hK K
        refine norm_ (a' := ?_) ?_ ?_
        rotate_left
        · show Act.put _ (some 15) _ = _
          simp only [Act.put, List.setIfInBounds_toArray, List.set_cons_zero, List.set_cons_succ, i64_w, i32_w]
          rfl
        refine one_ (i := 7) (N := some 19) #[true, true, true, true, true, true, true, true, false] rfl rfl (one_of HT_.out (by kernel_rfl)) (by decide) (fun K hK => ?_)
        refine goes_ Try.func22 (by kernel_rfl) rfl #[.slice Ao34 t201.length co34, .int .u64 (IntKind.u64.wrap (a0_1))] (by rfl) rfl rfl (by (try simp only [List.map_toArray, List.map_cons, List.map_nil]); first | done | rfl | (simp only [List.length_drop, List.length_take]; rfl)) ?_
        with_reducible refine (rosetteref02_Put.calls _ _ t201 (IntKind.u64.wrap (a0_1)) t204 _ ?side1 ?side2 A5.out).mono ?_
        (case side1 => repeat (first | exact (Kd.R_reads' HO203.out).2.2 | (with_reducible refine Kd.C_alloc ?_ _) | (with_reducible refine Kd.C_drewN ?_ _) | (with_reducible refine Kd.C_drew ?_)))
        (case side2 => exact (Kd.R_reads' HO203.out).2.1)
        rintro e w35 ⟨v205, rfl, ho0, hb⟩
        refine ⟨_, rfl, ?_⟩
        have n0_ := Aside0.mk (Kd.R_elder' (by (with_reducible repeat (first | apply Kd.R_alloc | apply Kd.R_drewN | apply Kd.R_drew)); exact HO203.out) (Kd.R_base ho0) hb)
        have n1_ := Aside0.mk (Kd.R_lower (Kd.R_new' ho0 (Kd.R_lt (by (with_reducible repeat (first | apply Kd.R_alloc | apply Kd.R_drewN | apply Kd.R_drew)); exact HO203.out))) (below_size (by repeat (first | (with_reducible first | exact HB.out | apply below_alloc | apply pw_below_drewN | apply below_drew1 | refine below_set ?_ GE199.out) | exact HB.out))))
        have n2_ := Aside0.mk (blk_below (g := gb199) (o := .cells #[.int .i64 a0_0, .int .i64 a0_1, .int .i64 a0_2, .int .i64 a0_3, .int .u32 a0_4, .slice A0_5 l0_5.length c0_5] 25 (0, 0)) (by (with_reducible repeat (first | refine blk_drewN ?_ _ | refine blk_drew ?_ | refine blk_alloc ?_ _)); exact BK199.out) hb)
        have n3_ := Aside0.mk (below_step (by repeat (first | (with_reducible first | exact HB.out | apply below_alloc | apply pw_below_drewN | apply below_drew1 | refine below_set ?_ GE199.out) | exact HB.out)) hb)
        clear HO203
        clear BK199
        clear HB
        have HO203 := n0_
        have HO206 := n1_
        have BK199 := n2_
        have HB := n3_
        clear n0_ n1_ n2_ n3_
        (try clear hb)
        (try clear hb2)
        (try clear hk)
        (try clear hi)
        (try clear ho0)
        refine hK.out _ _ ⟨(blk_cell BK199.out 0).trans rfl, (blk_cell BK199.out 1).trans rfl, (blk_cell BK199.out 2).trans rfl, (blk_cell BK199.out 3).trans rfl, (blk_cell BK199.out 4).trans rfl, (blk_cell BK199.out 5).trans rfl⟩ (fun hHeld => ?_)
        clear hK K
        refine norm_ (a' := ?_) ?_ ?_
        rotate_left
        · show Act.put _ (some 19) _ = _
          simp only [Act.put, List.setIfInBounds_toArray, List.set_cons_zero, List.set_cons_succ, i64_w, i32_w]
          rfl
        refine pure_ (i := 8) (N := some 5) (v := ?_) (a' := ?_) #[true, true, true, true, true, true, true, true, true] rfl rfl (any_of HT_.out (by kernel_rfl)) (fun _ _ _ h => h) (Or.inl ⟨by rfl, ?_⟩) ?_ ?_
        rotate_left
        · intro w'
          go_simp
          with_reducible rfl
        rotate_left
        · simp only [Act.put, List.setIfInBounds_toArray, List.set_cons_zero, List.set_cons_succ, i64_w, i32_w]
          rfl
        refine done_ (done_of HT_.out (by kernel_rfl)) ?_
        have hcz36_0 : w35.cell? ⟨gb199, 0, none⟩ = some (.int .i64 a0_0) := (blk_cell BK199.out 0).trans rfl
        have hcz36_1 : w35.cell? ⟨gb199, 1, none⟩ = some (.int .i64 a0_1) := (blk_cell BK199.out 1).trans rfl
        have hcz36_2 : w35.cell? ⟨gb199, 2, none⟩ = some (.int .i64 a0_2) := (blk_cell BK199.out 2).trans rfl
        have hcz36_3 : w35.cell? ⟨gb199, 3, none⟩ = some (.int .i64 a0_3) := (blk_cell BK199.out 3).trans rfl
        have hcz36_4 : w35.cell? ⟨gb199, 4, none⟩ = some (.int .u32 a0_4) := (blk_cell BK199.out 4).trans rfl
        have hcz36_5 : w35.cell? ⟨gb199, 5, none⟩ = some (.slice A0_5 l0_5.length c0_5) := (blk_cell BK199.out 5).trans rfl
        have hfz36_0 := blk_frozen BK199.out 0
        have hfz36_1 := blk_frozen BK199.out 1
        have hfz36_2 := blk_frozen BK199.out 2
        have hfz36_3 := blk_frozen BK199.out 3
        have hfz36_4 := blk_frozen BK199.out 4
        have hfz36_5 := blk_frozen BK199.out 5
        obtain ⟨Ao37, co37, eo37⟩ := Kd.R_slice HO206.out
        subst eo37
        try go_wp2
        have n0_ := Aside0.mk (Kd.R_drew HO203.out)
        have n1_ := Aside0.mk (Kd.R_drew HO206.out)
        have n2_ := Aside0.mk (blk_drew BK199.out)
        have n3_ := Aside0.mk (below_drew1 HB.out)
        clear HO203
        clear HO206
        clear BK199
        clear HB
        have HO203 := n0_
        have HO206 := n1_
        have BK199 := n2_
        have HB := n3_
        clear n0_ n1_ n2_ n3_
        refine start_ (n := 10) (S := fun w' => w'.cell? ⟨gb199, 0, none⟩ = some (.int .i64 a0_0) ∧ w'.cell? ⟨gb199, 1, none⟩ = some (.int .i64 a0_1) ∧ w'.cell? ⟨gb199, 2, none⟩ = some (.int .i64 a0_2) ∧ w'.cell? ⟨gb199, 3, none⟩ = some (.int .i64 a0_3) ∧ w'.cell? ⟨gb199, 4, none⟩ = some (.int .u32 a0_4) ∧ w'.cell? ⟨gb199, 5, none⟩ = some (.slice A0_5 l0_5.length c0_5) ∧ (convert 23 9 (.slice A0_5 l0_5.length c0_5)).run Try.prog w' = .ok (.string (strOfNums l0_5)) w') (ds := []) #[false, false, false, false, false, false, false, false, false, false] (by kernel_rfl) rfl rfl ⟨(blk_cell BK199.out 0).trans rfl, (blk_cell BK199.out 1).trans rfl, (blk_cell BK199.out 2).trans rfl, (blk_cell BK199.out 3).trans rfl, (blk_cell BK199.out 4).trans rfl, (blk_cell BK199.out 5).trans rfl, (by have key_ : ∀ W_ : World, Below w.heap.size w W_ → (convert 23 9 (.slice A0_5 l0_5.length c0_5)).run Try.prog W_ = .ok (.string (strOfNums l0_5)) W_ := (fun W_ hb_ => by have h_ := Kd.C_string (P := Try.prog) (A := A0_5) (c := c0_5) Try.underlying23 Try.underlying5 Try.underlying9 (Kd.C_below HR0_5.out hb_); first | exact h_ | (rw [List.length_drop] at h_; exact h_) | (rw [List.length_take, Nat.min_eq_left (by omega)] at h_; exact h_)); first | exact key_ _ HB.out | exact key_ _ (pw_below_drewN HB.out _) | exact key_ _ (below_drew HB.out) | exact key_ _ (pw_below_drewN (below_drew HB.out) _))⟩ (fun hHeld => ?_); refine with_tabW rosetteref22_Encode.tab10 rosetteref22_Encode.bits10 (fun HT_ HW_ => ?_)
        generalize w35.drew = w38 at HO203 HO206 BK199 HB hHeld ⊢
        refine pure_ (i := 0) (N := some 40) (v := ?_) (a' := ?_) #[true, false, false, false, false, false, false, false, false, false] rfl rfl (any_of HT_.out (by kernel_rfl)) (fun _ _ _ h => h) (Or.inl ⟨by rfl, ?_⟩) ?_ ?_
        rotate_left
        · intro w'
          go_simp
          with_reducible rfl
        rotate_left
        · simp only [Act.put, List.setIfInBounds_toArray, List.set_cons_zero, List.set_cons_succ, i64_w, i32_w]
          rfl
        refine pure_ (i := 1) (N := some 41) (v := ?_) (a' := ?_) #[true, true, false, false, false, false, false, false, false, false] rfl rfl (any_of HT_.out (by kernel_rfl)) (fun _ _ _ h => h) (Or.inl ⟨by rfl, ?_⟩) ?_ ?_
        rotate_left
        · intro w'
          go_simp
          with_reducible rfl
        rotate_left
        · simp only [Act.put, List.setIfInBounds_toArray, List.set_cons_zero, List.set_cons_succ, i64_w, i32_w]
          rfl
        refine pure_ (i := 5) (N := some 45) (v := ?_) (a' := ?_) #[true, true, false, false, false, true, false, false, false, false] rfl rfl (any_of HT_.out (by kernel_rfl)) (fun _ _ _ h => h) (Or.inl ⟨by rfl, ?_⟩) ?_ ?_
        rotate_left
        · intro w'
          go_simp
          with_reducible rfl
        rotate_left
        · simp only [Act.put, List.setIfInBounds_toArray, List.set_cons_zero, List.set_cons_succ, i64_w, i32_w]
          rfl
        refine take_ (i := 2) (N := some 42) (v := ?_) (a' := ?_) #[true, true, true, false, false, true, false, false, false, false] rfl rfl (take_ofW HT_.out HW_.out (by kernel_rfl)) (fun _ _ _ h => h) (Or.inl ⟨by rfl, ?_⟩) hHeld ?_ ?_
        rotate_left
        · rintro w' ⟨s0, s1, s2, s3, s4, s5, s6⟩
          go_simp
          with_reducible rfl
        rotate_left
        · simp only [Act.put, List.setIfInBounds_toArray, List.set_cons_zero, List.set_cons_succ, i64_w, i32_w]
          rfl
        refine pure_ (i := 3) (N := some 43) (v := ?_) (a' := ?_) #[true, true, true, true, false, true, false, false, false, false] rfl rfl (any_of HT_.out (by kernel_rfl)) (fun _ _ _ h => h) (Or.inl ⟨by rfl, ?_⟩) ?_ ?_
        rotate_left
        · intro w'
          go_simp
          with_reducible rfl
        rotate_left
        · simp only [Act.put, List.setIfInBounds_toArray, List.set_cons_zero, List.set_cons_succ, i64_w, i32_w]
          rfl
        refine take_ (i := 6) (N := some 46) (v := ?_) (a' := ?_) #[true, true, true, true, false, true, true, false, false, false] rfl rfl (take_ofW HT_.out HW_.out (by kernel_rfl)) (fun _ _ _ h => h) (Or.inl ⟨by rfl, ?_⟩) hHeld ?_ ?_
        rotate_left
        · rintro w' ⟨s0, s1, s2, s3, s4, s5, s6⟩
          go_simp
          with_reducible rfl
        rotate_left
        · simp only [Act.put, List.setIfInBounds_toArray, List.set_cons_zero, List.set_cons_succ, i64_w, i32_w]
          rfl
        refine take_ (i := 7) (N := some 47) (v := ?_) (a' := ?_) #[true, true, true, true, false, true, true, true, false, false] rfl rfl (take_ofW HT_.out HW_.out (by kernel_rfl)) (fun _ _ _ h => h) (Or.inl ⟨by rfl, ?_⟩) hHeld ?_ ?_
        rotate_left
        · rintro w' ⟨s0, s1, s2, s3, s4, s5, s6⟩
          go_simp
          with_reducible rfl
        rotate_left
        · simp only [Act.put, List.setIfInBounds_toArray, List.set_cons_zero, List.set_cons_succ, i64_w, i32_w]
          rfl
        refine one_ (i := 4) (N := some 44) #[true, true, true, true, true, true, true, true, false, false] rfl rfl (one_of HT_.out (by kernel_rfl)) (by decide) (fun K hK => ?_)
        refine goes_ Try.func22 (by kernel_rfl) rfl #[.slice Ao37 t204.length co37, .int .u64 (IntKind.u64.wrap (a0_2))] (by rfl) rfl rfl (by (try simp only [List.map_toArray, List.map_cons, List.map_nil]); first | done | rfl | (simp only [List.length_drop, List.length_take]; rfl)) ?_
        with_reducible refine (rosetteref02_Put.calls _ _ t204 (IntKind.u64.wrap (a0_2)) t217 _ ?side1 ?side2 A26.out).mono ?_
        (case side1 => repeat (first | exact (Kd.R_reads' HO206.out).2.2 | (with_reducible refine Kd.C_alloc ?_ _) | (with_reducible refine Kd.C_drewN ?_ _) | (with_reducible refine Kd.C_drew ?_)))
        (case side2 => exact (Kd.R_reads' HO206.out).2.1)
        rintro e w39 ⟨v218, rfl, ho0, hb⟩
        refine ⟨_, rfl, ?_⟩
        have n0_ := Aside0.mk (Kd.R_elder' (by (with_reducible repeat (first | apply Kd.R_alloc | apply Kd.R_drewN | apply Kd.R_drew)); exact HO203.out) (Kd.R_base ho0) hb)
        have n1_ := Aside0.mk (Kd.R_elder' (by (with_reducible repeat (first | apply Kd.R_alloc | apply Kd.R_drewN | apply Kd.R_drew)); exact HO206.out) (Kd.R_base ho0) hb)
        have n2_ := Aside0.mk (Kd.R_lower (Kd.R_new' (Kd.R_new' ho0 (Kd.R_lt (by (with_reducible repeat (first | apply Kd.R_alloc | apply Kd.R_drewN | apply Kd.R_drew)); exact HO203.out))) (Kd.R_lt (by (with_reducible repeat (first | apply Kd.R_alloc | apply Kd.R_drewN | apply Kd.R_drew)); exact HO206.out))) (below_size (by repeat (first | (with_reducible first | exact HB.out | apply below_alloc | apply pw_below_drewN | apply below_drew1 | refine below_set ?_ GE199.out) | exact HB.out))))
        have n3_ := Aside0.mk (blk_below (g := gb199) (o := .cells #[.int .i64 a0_0, .int .i64 a0_1, .int .i64 a0_2, .int .i64 a0_3, .int .u32 a0_4, .slice A0_5 l0_5.length c0_5] 25 (0, 0)) (by (with_reducible repeat (first | refine blk_drewN ?_ _ | refine blk_drew ?_ | refine blk_alloc ?_ _)); exact BK199.out) hb)
        have n4_ := Aside0.mk (below_step (by repeat (first | (with_reducible first | exact HB.out | apply below_alloc | apply pw_below_drewN | apply below_drew1 | refine below_set ?_ GE199.out) | exact HB.out)) hb)
        clear HO203
        clear HO206
        clear BK199
        clear HB
        have HO203 := n0_
        have HO206 := n1_
        have HO219 := n2_
        have BK199 := n3_
        have HB := n4_
        clear n0_ n1_ n2_ n3_ n4_
        obtain ⟨Ao41, co41, eo41⟩ := Kd.R_slice HO219.out
        subst eo41
        (try clear hb)
        (try clear hb2)
        (try clear hk)
        (try clear hi)
        (try clear ho0)
        refine hK.out _ _ ⟨(blk_cell BK199.out 0).trans rfl, (blk_cell BK199.out 1).trans rfl, (blk_cell BK199.out 2).trans rfl, (blk_cell BK199.out 3).trans rfl, (blk_cell BK199.out 4).trans rfl, (blk_cell BK199.out 5).trans rfl, (by have key_ : ∀ W_ : World, Below w.heap.size w W_ → (convert 23 9 (.slice A0_5 l0_5.length c0_5)).run Try.prog W_ = .ok (.string (strOfNums l0_5)) W_ := (fun W_ hb_ => by have h_ := Kd.C_string (P := Try.prog) (A := A0_5) (c := c0_5) Try.underlying23 Try.underlying5 Try.underlying9 (Kd.C_below HR0_5.out hb_); first | exact h_ | (rw [List.length_drop] at h_; exact h_) | (rw [List.length_take, Nat.min_eq_left (by omega)] at h_; exact h_)); first | exact key_ _ HB.out | exact key_ _ (pw_below_drewN HB.out _) | exact key_ _ (below_drew HB.out) | exact key_ _ (pw_below_drewN (below_drew HB.out) _))⟩ (fun hHeld => ?_)
        clear hK K
        refine norm_ (a' := ?_) ?_ ?_
        rotate_left
        · show Act.put _ (some 44) _ = _
          simp only [Act.put, List.setIfInBounds_toArray, List.set_cons_zero, List.set_cons_succ, i64_w, i32_w]
          rfl
        refine one_ (i := 8) (N := some 48) #[true, true, true, true, true, true, true, true, true, false] rfl rfl (one_of HT_.out (by kernel_rfl)) (by decide) (fun K hK => ?_)
        refine goes_ Try.func23 (by kernel_rfl) rfl #[.slice Ao41 t217.length co41, .string (strOfNums l0_5)] (by rfl) rfl rfl (by (try simp only [List.map_toArray, List.map_cons, List.map_nil]); first | done | rfl | (simp only [List.length_drop, List.length_take]; rfl)) ?_
        with_reducible refine (rosetteref02_PutText.calls _ _ t217 (strOfNums l0_5) t220 _ ?side1 ?side2 A27.out).mono ?_
        (case side1 => repeat (first | exact (Kd.R_reads' HO219.out).2.2 | (with_reducible refine Kd.C_alloc ?_ _) | (with_reducible refine Kd.C_drewN ?_ _) | (with_reducible refine Kd.C_drew ?_)))
        (case side2 => exact (Kd.R_reads' HO219.out).2.1)
        rintro e w42 ⟨v221, rfl, ho0, hb⟩
        refine ⟨_, rfl, ?_⟩
        have n0_ := Aside0.mk (Kd.R_elder' (by (with_reducible repeat (first | apply Kd.R_alloc | apply Kd.R_drewN | apply Kd.R_drew)); exact HO203.out) (Kd.R_base ho0) hb)
        have n1_ := Aside0.mk (Kd.R_elder' (by (with_reducible repeat (first | apply Kd.R_alloc | apply Kd.R_drewN | apply Kd.R_drew)); exact HO206.out) (Kd.R_base ho0) hb)
        have n2_ := Aside0.mk (Kd.R_elder' (by (with_reducible repeat (first | apply Kd.R_alloc | apply Kd.R_drewN | apply Kd.R_drew)); exact HO219.out) (Kd.R_base ho0) hb)
        have n3_ := Aside0.mk (Kd.R_lower (Kd.R_new' (Kd.R_new' (Kd.R_new' ho0 (Kd.R_lt (by (with_reducible repeat (first | apply Kd.R_alloc | apply Kd.R_drewN | apply Kd.R_drew)); exact HO203.out))) (Kd.R_lt (by (with_reducible repeat (first | apply Kd.R_alloc | apply Kd.R_drewN | apply Kd.R_drew)); exact HO206.out))) (Kd.R_lt (by (with_reducible repeat (first | apply Kd.R_alloc | apply Kd.R_drewN | apply Kd.R_drew)); exact HO219.out))) (below_size (by repeat (first | (with_reducible first | exact HB.out | apply below_alloc | apply pw_below_drewN | apply below_drew1 | refine below_set ?_ GE199.out) | exact HB.out))))
        have n4_ := Aside0.mk (blk_below (g := gb199) (o := .cells #[.int .i64 a0_0, .int .i64 a0_1, .int .i64 a0_2, .int .i64 a0_3, .int .u32 a0_4, .slice A0_5 l0_5.length c0_5] 25 (0, 0)) (by (with_reducible repeat (first | refine blk_drewN ?_ _ | refine blk_drew ?_ | refine blk_alloc ?_ _)); exact BK199.out) hb)
        have n5_ := Aside0.mk (below_step (by repeat (first | (with_reducible first | exact HB.out | apply below_alloc | apply pw_below_drewN | apply below_drew1 | refine below_set ?_ GE199.out) | exact HB.out)) hb)
        clear HO203
        clear HO206
        clear HO219
        clear BK199
        clear HB
        have HO203 := n0_
        have HO206 := n1_
        have HO219 := n2_
        have HO222 := n3_
        have BK199 := n4_
        have HB := n5_
        clear n0_ n1_ n2_ n3_ n4_ n5_
        (try clear hb)
        (try clear hb2)
        (try clear hk)
        (try clear hi)
        (try clear ho0)
        refine hK.out _ _ ⟨(blk_cell BK199.out 0).trans rfl, (blk_cell BK199.out 1).trans rfl, (blk_cell BK199.out 2).trans rfl, (blk_cell BK199.out 3).trans rfl, (blk_cell BK199.out 4).trans rfl, (blk_cell BK199.out 5).trans rfl, (by have key_ : ∀ W_ : World, Below w.heap.size w W_ → (convert 23 9 (.slice A0_5 l0_5.length c0_5)).run Try.prog W_ = .ok (.string (strOfNums l0_5)) W_ := (fun W_ hb_ => by have h_ := Kd.C_string (P := Try.prog) (A := A0_5) (c := c0_5) Try.underlying23 Try.underlying5 Try.underlying9 (Kd.C_below HR0_5.out hb_); first | exact h_ | (rw [List.length_drop] at h_; exact h_) | (rw [List.length_take, Nat.min_eq_left (by omega)] at h_; exact h_)); first | exact key_ _ HB.out | exact key_ _ (pw_below_drewN HB.out _) | exact key_ _ (below_drew HB.out) | exact key_ _ (pw_below_drewN (below_drew HB.out) _))⟩ (fun hHeld => ?_)
        clear hK K
        refine norm_ (a' := ?_) ?_ ?_
        rotate_left
        · show Act.put _ (some 48) _ = _
          simp only [Act.put, List.setIfInBounds_toArray, List.set_cons_zero, List.set_cons_succ, i64_w, i32_w]
          rfl
        refine pure_ (i := 9) (N := some 5) (v := ?_) (a' := ?_) #[true, true, true, true, true, true, true, true, true, true] rfl rfl (any_of HT_.out (by kernel_rfl)) (fun _ _ _ h => h) (Or.inl ⟨by rfl, ?_⟩) ?_ ?_
        rotate_left
        · intro w'
          go_simp
          with_reducible rfl
        rotate_left
        · simp only [Act.put, List.setIfInBounds_toArray, List.set_cons_zero, List.set_cons_succ, i64_w, i32_w]
          rfl
        refine done_ (done_of HT_.out (by kernel_rfl)) ?_
        obtain ⟨Ao43, co43, eo43⟩ := Kd.R_slice HO222.out
        subst eo43
        try go_wp2_with (first | ((with_reducible refine gate_callee (f := 16) rfl ?_); refine goesL_ (some 58) rfl rfl Try.func16 (by kernel_rfl) rfl #[.slice Ao43 t220.length co43] rfl (by (try simp only [List.map_toArray, List.map_cons, List.map_nil]); first | done | rfl | (simp only [List.length_drop, List.length_take]; rfl)) ?_; (with_reducible refine (rosetteref03_Make.calls k _ _ t220 t223 t224 _ ?side1 ?side2 A28.out).mono ?_); (case side1 => repeat (first | exact (Kd.R_reads' HO222.out).2.2 | (with_reducible refine Kd.C_alloc ?_ _) | (with_reducible refine Kd.C_drewN ?_ _) | (with_reducible refine Kd.C_drew ?_))); (case side2 => exact (Kd.R_reads' HO222.out).2.1); rintro e w44 ⟨v225, rfl, ho0, hb⟩; refine ⟨_, rfl, ?_⟩; have n0_ := Aside0.mk (Kd.R_elder' (by (with_reducible repeat (first | apply Kd.R_alloc | apply Kd.R_drewN | apply Kd.R_drew)); exact HO203.out) (Kd.R_base ho0) hb); have n1_ := Aside0.mk (Kd.R_elder' (by (with_reducible repeat (first | apply Kd.R_alloc | apply Kd.R_drewN | apply Kd.R_drew)); exact HO206.out) (Kd.R_base ho0) hb); have n2_ := Aside0.mk (Kd.R_elder' (by (with_reducible repeat (first | apply Kd.R_alloc | apply Kd.R_drewN | apply Kd.R_drew)); exact HO219.out) (Kd.R_base ho0) hb); have n3_ := Aside0.mk (Kd.R_elder' (by (with_reducible repeat (first | apply Kd.R_alloc | apply Kd.R_drewN | apply Kd.R_drew)); exact HO222.out) (Kd.R_base ho0) hb); have n4_ := Aside0.mk (Kd.R_lower (Kd.R_new' (Kd.R_new' (Kd.R_new' (Kd.R_new' ho0 (Kd.R_lt (by (with_reducible repeat (first | apply Kd.R_alloc | apply Kd.R_drewN | apply Kd.R_drew)); exact HO203.out))) (Kd.R_lt (by (with_reducible repeat (first | apply Kd.R_alloc | apply Kd.R_drewN | apply Kd.R_drew)); exact HO206.out))) (Kd.R_lt (by (with_reducible repeat (first | apply Kd.R_alloc | apply Kd.R_drewN | apply Kd.R_drew)); exact HO219.out))) (Kd.R_lt (by (with_reducible repeat (first | apply Kd.R_alloc | apply Kd.R_drewN | apply Kd.R_drew)); exact HO222.out))) (below_size (by repeat (first | (with_reducible first | exact HB.out | apply below_alloc | apply pw_below_drewN | apply below_drew1 | refine below_set ?_ GE199.out) | exact HB.out)))); have n5_ := Aside0.mk (blk_below (g := gb199) (o := .cells #[.int .i64 a0_0, .int .i64 a0_1, .int .i64 a0_2, .int .i64 a0_3, .int .u32 a0_4, .slice A0_5 l0_5.length c0_5] 25 (0, 0)) (by (with_reducible repeat (first | refine blk_drewN ?_ _ | refine blk_drew ?_ | refine blk_alloc ?_ _)); exact BK199.out) hb); have n6_ := Aside0.mk (below_step (by repeat (first | (with_reducible first | exact HB.out | apply below_alloc | apply pw_below_drewN | apply below_drew1 | refine below_set ?_ GE199.out) | exact HB.out)) hb); clear HO203; clear HO206; clear HO219; clear HO222; clear BK199; clear HB; have HO203 := n0_; have HO206 := n1_; have HO219 := n2_; have HO222 := n3_; have HO226 := n4_; have BK199 := n5_; have HB := n6_; clear n0_ n1_ n2_ n3_ n4_ n5_ n6_; (try clear hb); (try clear hb2); (try clear hk); (try clear hi); (try clear ho0)))
        go_ret2
        exact ⟨_, by first | rfl | (simp [errW_none, errW_some] <;> rfl) | (simp [*, errW_none, errW_some] <;> rfl), by (with_reducible repeat (first | apply Kd.R_alloc | apply Kd.R_drewN | apply Kd.R_drew)); exact Kd.R_mono HO226.out (fun _ hk => trivial), by repeat (first | (with_reducible first | exact HB.out | apply below_alloc | apply pw_below_drewN | apply below_drew1 | refine below_set ?_ GE199.out) | exact HB.out)⟩
      · rw [if_neg c25] at H
        have c25b0 : (a0_0 == 2) = false := beq_eq_false_iff_ne.mpr c25
        have c25b1 : (a0_0 != 2) = true := bne_iff_ne.mpr c25
        by_cases c45 : a0_0 = 3
        · rw [if_pos c45] at H
          have c45b0 : (a0_0 == 3) = true := beq_iff_eq.mpr c45
          have c45b1 : (a0_0 != 3) = false := bne_eq_false_iff_eq.mpr c45
          clear c45
          replace H := Option.bind_eq_some_iff.mp H
          obtain ⟨t227, A460, H⟩ := H
          replace H : ((rosetteref03_Make.f k t227).bind fun bt230 => (some (bt230.1, true))) = some (r1, r2) := H
          have A46 := Aside0.mk A460
          clear A460
          replace H := Option.bind_eq_some_iff.mp H
          obtain ⟨⟨t230, t231⟩, A470, H⟩ := H
          replace H : (some (t230, true)) = some (r1, r2) := H
          have A47 := Aside0.mk A470
          clear A470
          simp only [Option.some.injEq, Prod.mk.injEq] at H
          obtain ⟨rfl, rfl⟩ := H
          go_enter Try.func10, Try.ntmps10
          try go_wp2_with (first | ((with_reducible refine gate_dst (N := 1) rfl ?_); refine box_event ?hg (N := 1) ?hd (cs := #[.int .i64 a0_0, .int .i64 a0_1, .int .i64 a0_2, .int .i64 a0_3, .int .u32 a0_4, .slice A0_5 l0_5.length c0_5]) (t := 25) ?hr ?_; (case hd => rfl); (case hg => rfl); (case hr => first | (go_simp; done) | (go_simp; rfl)); intro gb199 hg w48 hbox hb; have n0_ := Aside0.mk (below_step (by repeat (first | (with_reducible first | exact HB.out | apply below_alloc | apply pw_below_drewN | apply below_drew1) | exact HB.out)) hb); have n1_ := Aside0.mk (hbox); have n2_ := Aside0.mk ((by rw [hg]; exact (below_size (by repeat (first | (with_reducible first | exact HB.out | apply below_alloc | apply pw_below_drewN | apply below_drew1) | exact HB.out))) : w.heap.size ≤ gb199)); have n3_ := Aside0.mk ((by rw [hg]; exact (below_size (by repeat (first | (with_reducible first | exact HB.out | apply below_alloc | apply pw_below_drewN | apply below_drew1) | exact HB.out))) : w.heap.size ≤ gb199)); clear HB; have HB := n0_; have BK199 := n1_; have GW199 := n2_; have GE199 := n3_; clear n0_ n1_ n2_ n3_; clear hb hbox hg; have hcz49_0 : w48.cell? ⟨gb199, 0, none⟩ = some (.int .i64 a0_0) := (blk_cell BK199.out 0).trans rfl; have hcz49_1 : w48.cell? ⟨gb199, 1, none⟩ = some (.int .i64 a0_1) := (blk_cell BK199.out 1).trans rfl; have hcz49_2 : w48.cell? ⟨gb199, 2, none⟩ = some (.int .i64 a0_2) := (blk_cell BK199.out 2).trans rfl; have hcz49_3 : w48.cell? ⟨gb199, 3, none⟩ = some (.int .i64 a0_3) := (blk_cell BK199.out 3).trans rfl; have hcz49_4 : w48.cell? ⟨gb199, 4, none⟩ = some (.int .u32 a0_4) := (blk_cell BK199.out 4).trans rfl; have hcz49_5 : w48.cell? ⟨gb199, 5, none⟩ = some (.slice A0_5 l0_5.length c0_5) := (blk_cell BK199.out 5).trans rfl; have hfz49_0 := blk_frozen BK199.out 0; have hfz49_1 := blk_frozen BK199.out 1; have hfz49_2 := blk_frozen BK199.out 2; have hfz49_3 := blk_frozen BK199.out 3; have hfz49_4 := blk_frozen BK199.out 4; have hfz49_5 := blk_frozen BK199.out 5) | ((with_reducible refine gate_callee (f := 21) rfl ?_); refine goesL_ (some 9) rfl rfl Try.func21 (by kernel_rfl) rfl #[.agg #[.int .i64 a0_0, .int .i64 a0_1, .int .i64 a0_2, .int .i64 a0_3, .int .u32 a0_4, .slice A0_5 l0_5.length c0_5]] rfl (by (try simp only [List.map_toArray, List.map_cons, List.map_nil]); first | done | rfl | (simp only [List.length_drop, List.length_take]; rfl)) ?_; (with_reducible refine (rosetteref22_right.calls k a0_0 a0_1 a0_2 a0_3 a0_4 _ _ l0_5 true _ ?side1 ?side2 A2.out).mono ?_); (case side1 => repeat (first | exact (Kd.C_below HR0_5.out HB.out) | (with_reducible refine Kd.C_alloc ?_ _) | (with_reducible refine Kd.C_drewN ?_ _) | (with_reducible refine Kd.C_drew ?_))); (case side2 => exact HC0_5.out); rintro e w50 ⟨rfl, hb⟩; refine ⟨_, rfl, ?_⟩; have n0_ := Aside0.mk (blk_below (g := gb199) (o := .cells #[.int .i64 a0_0, .int .i64 a0_1, .int .i64 a0_2, .int .i64 a0_3, .int .u32 a0_4, .slice A0_5 l0_5.length c0_5] 25 (0, 0)) (by (with_reducible repeat (first | refine blk_drewN ?_ _ | refine blk_drew ?_ | refine blk_alloc ?_ _)); exact BK199.out) hb); have n1_ := Aside0.mk (below_step (by repeat (first | (with_reducible first | exact HB.out | apply below_alloc | apply pw_below_drewN | apply below_drew1 | refine below_set ?_ GE199.out) | exact HB.out)) hb); clear BK199; clear HB; have BK199 := n0_; have HB := n1_; clear n0_ n1_; (try clear hb); (try clear hb2); (try clear hk); (try clear hi)))
          have n0_ := Aside0.mk (blk_drew BK199.out)
          have n1_ := Aside0.mk (below_drew1 HB.out)
          clear BK199
          clear HB
          have BK199 := n0_
          have HB := n1_
          clear n0_ n1_
          refine start_ (n := 9) (S := fun w' => w'.cell? ⟨gb199, 0, none⟩ = some (.int .i64 a0_0) ∧ w'.cell? ⟨gb199, 1, none⟩ = some (.int .i64 a0_1) ∧ w'.cell? ⟨gb199, 2, none⟩ = some (.int .i64 a0_2) ∧ w'.cell? ⟨gb199, 3, none⟩ = some (.int .i64 a0_3) ∧ w'.cell? ⟨gb199, 4, none⟩ = some (.int .u32 a0_4) ∧ w'.cell? ⟨gb199, 5, none⟩ = some (.slice A0_5 l0_5.length c0_5)) (ds := []) #[false, false, false, false, false, false, false, false, false] (by kernel_rfl) rfl rfl ⟨(blk_cell BK199.out 0).trans rfl, (blk_cell BK199.out 1).trans rfl, (blk_cell BK199.out 2).trans rfl, (blk_cell BK199.out 3).trans rfl, (blk_cell BK199.out 4).trans rfl, (blk_cell BK199.out 5).trans rfl⟩ (fun hHeld => ?_); refine with_tabW rosetteref22_Encode.tab4 rosetteref22_Encode.bits4 (fun HT_ HW_ => ?_)
          generalize w50.drew = w51 at BK199 HB hHeld ⊢
          refine pure_ (i := 0) (N := some 12) (v := ?_) (a' := ?_) #[true, false, false, false, false, false, false, false, false] rfl rfl (any_of HT_.out (by kernel_rfl)) (fun _ _ _ h => h) (Or.inl ⟨by rfl, ?_⟩) ?_ ?_
          rotate_left
          · intro w'
            go_simp
            with_reducible rfl
          rotate_left
          · simp only [Act.put, List.setIfInBounds_toArray, List.set_cons_zero, List.set_cons_succ, i64_w, i32_w]
            rfl
          refine pure_ (i := 4) (N := some 16) (v := ?_) (a' := ?_) #[true, false, false, false, true, false, false, false, false] rfl rfl (any_of HT_.out (by kernel_rfl)) (fun _ _ _ h => h) (Or.inl ⟨by rfl, ?_⟩) ?_ ?_
          rotate_left
          · intro w'
            go_simp
            with_reducible rfl
          rotate_left
          · simp only [Act.put, List.setIfInBounds_toArray, List.set_cons_zero, List.set_cons_succ, i64_w, i32_w]
            rfl
          refine take_ (i := 1) (N := some 13) (v := ?_) (a' := ?_) #[true, true, false, false, true, false, false, false, false] rfl rfl (take_ofW HT_.out HW_.out (by kernel_rfl)) (fun _ _ _ h => h) (Or.inl ⟨by rfl, ?_⟩) hHeld ?_ ?_
          rotate_left
          · rintro w' ⟨s0, s1, s2, s3, s4, s5⟩
            go_simp
            with_reducible rfl
          rotate_left
          · simp only [Act.put, List.setIfInBounds_toArray, List.set_cons_zero, List.set_cons_succ, i64_w, i32_w]
            rfl
          refine pure_ (i := 2) (N := some 14) (v := ?_) (a' := ?_) #[true, true, true, false, true, false, false, false, false] rfl rfl (any_of HT_.out (by kernel_rfl)) (fun _ _ _ h => h) (Or.inl ⟨by rfl, ?_⟩) ?_ ?_
          rotate_left
          · intro w'
            go_simp
            with_reducible rfl
          rotate_left
          · simp only [Act.put, List.setIfInBounds_toArray, List.set_cons_zero, List.set_cons_succ, i64_w, i32_w]
            rfl
          refine take_ (i := 5) (N := some 17) (v := ?_) (a' := ?_) #[true, true, true, false, true, true, false, false, false] rfl rfl (take_ofW HT_.out HW_.out (by kernel_rfl)) (fun _ _ _ h => h) (Or.inl ⟨by rfl, ?_⟩) hHeld ?_ ?_
          rotate_left
          · rintro w' ⟨s0, s1, s2, s3, s4, s5⟩
            go_simp
            with_reducible rfl
          rotate_left
          · simp only [Act.put, List.setIfInBounds_toArray, List.set_cons_zero, List.set_cons_succ, i64_w, i32_w]
            rfl
          refine pure_ (i := 6) (N := some 18) (v := ?_) (a' := ?_) #[true, true, true, false, true, true, true, false, false] rfl rfl (any_of HT_.out (by kernel_rfl)) (fun _ _ _ h => h) (Or.inl ⟨by rfl, ?_⟩) ?_ ?_
          rotate_left
          · intro w'
            go_simp
            with_reducible rfl
          rotate_left
          · simp only [Act.put, List.setIfInBounds_toArray, List.set_cons_zero, List.set_cons_succ, i64_w, i32_w]
            rfl
          refine one_ (i := 3) (N := some 15) #[true, true, true, true, true, true, true, false, false] rfl rfl (one_of HT_.out (by kernel_rfl)) (by decide) (fun K hK => ?_)
          refine goes_ Try.func22 (by kernel_rfl) rfl #[.slice none 0 0, .int .u64 (IntKind.u64.wrap (a0_0))] (by rfl) rfl rfl (by (try simp only [List.map_toArray, List.map_cons, List.map_nil]); first | done | rfl | (simp only [List.length_drop, List.length_take]; rfl)) ?_
          refine (rosetteref02_Put.calls _ _ ([] : List Int) (IntKind.u64.wrap (a0_0)) t201 _ ?side1 ?side2 A4.out).mono ?_
          (case side1 => exact Kd.C_nil _ _)
          (case side2 => exact Nat.le_refl _)
          rintro e w52 ⟨v202, rfl, ho0, hb⟩
          refine ⟨_, rfl, ?_⟩
          have n0_ := Aside0.mk (Kd.R_lower ho0 (below_size (by repeat (first | (with_reducible first | exact HB.out | apply below_alloc | apply pw_below_drewN | apply below_drew1 | refine below_set ?_ GE199.out) | exact HB.out))))
          have n1_ := Aside0.mk (blk_below (g := gb199) (o := .cells #[.int .i64 a0_0, .int .i64 a0_1, .int .i64 a0_2, .int .i64 a0_3, .int .u32 a0_4, .slice A0_5 l0_5.length c0_5] 25 (0, 0)) (by (with_reducible repeat (first | refine blk_drewN ?_ _ | refine blk_drew ?_ | refine blk_alloc ?_ _)); exact BK199.out) hb)
          have n2_ := Aside0.mk (below_step (by repeat (first | (with_reducible first | exact HB.out | apply below_alloc | apply pw_below_drewN | apply below_drew1 | refine below_set ?_ GE199.out) | exact HB.out)) hb)
          clear BK199
          clear HB
          have HO203 := n0_
          have BK199 := n1_
          have HB := n2_
          clear n0_ n1_ n2_
          (try clear hb)
          (try clear hb2)
          (try clear hk)
          (try clear hi)
          (try clear ho0)
          obtain ⟨Ao53, co53, eo53⟩ := Kd.R_slice HO203.out
          (first | subst eo53 | (injection eo53 with f1_ f2_ f3_; have f4_ := f1_.symm; have f5_ := f3_.symm; clear f1_ f2_ f3_; subst f4_; subst f5_))
          refine hK.out _ _ ⟨(blk_cell BK199.out 0).trans rfl, (blk_cell BK199.out 1).trans rfl, (blk_cell BK199.out 2).trans rfl, (blk_cell BK199.out 3).trans rfl, (blk_cell BK199.out 4).trans rfl, (blk_cell BK199.out 5).trans rfl⟩ (fun hHeld => ?_)
          clear hK K
          refine norm_ (a' := ?_) ?_ ?_
          rotate_left
          · show Act.put _ (some 15) _ = _
            simp only [Act.put, List.setIfInBounds_toArray, List.set_cons_zero, List.set_cons_succ, i64_w, i32_w]
            rfl
          refine one_ (i := 7) (N := some 19) #[true, true, true, true, true, true, true, true, false] rfl rfl (one_of HT_.out (by kernel_rfl)) (by decide) (fun K hK => ?_)
          refine goes_ Try.func22 (by kernel_rfl) rfl #[.slice Ao53 t201.length co53, .int .u64 (IntKind.u64.wrap (a0_1))] (by rfl) rfl rfl (by (try simp only [List.map_toArray, List.map_cons, List.map_nil]); first | done | rfl | (simp only [List.length_drop, List.length_take]; rfl)) ?_
          with_reducible refine (rosetteref02_Put.calls _ _ t201 (IntKind.u64.wrap (a0_1)) t204 _ ?side1 ?side2 A5.out).mono ?_
          (case side1 => repeat (first | exact (Kd.R_reads' HO203.out).2.2 | (with_reducible refine Kd.C_alloc ?_ _) | (with_reducible refine Kd.C_drewN ?_ _) | (with_reducible refine Kd.C_drew ?_)))
          (case side2 => exact (Kd.R_reads' HO203.out).2.1)
          rintro e w54 ⟨v205, rfl, ho0, hb⟩
          refine ⟨_, rfl, ?_⟩
          have n0_ := Aside0.mk (Kd.R_elder' (by (with_reducible repeat (first | apply Kd.R_alloc | apply Kd.R_drewN | apply Kd.R_drew)); exact HO203.out) (Kd.R_base ho0) hb)
          have n1_ := Aside0.mk (Kd.R_lower (Kd.R_new' ho0 (Kd.R_lt (by (with_reducible repeat (first | apply Kd.R_alloc | apply Kd.R_drewN | apply Kd.R_drew)); exact HO203.out))) (below_size (by repeat (first | (with_reducible first | exact HB.out | apply below_alloc | apply pw_below_drewN | apply below_drew1 | refine below_set ?_ GE199.out) | exact HB.out))))
          have n2_ := Aside0.mk (blk_below (g := gb199) (o := .cells #[.int .i64 a0_0, .int .i64 a0_1, .int .i64 a0_2, .int .i64 a0_3, .int .u32 a0_4, .slice A0_5 l0_5.length c0_5] 25 (0, 0)) (by (with_reducible repeat (first | refine blk_drewN ?_ _ | refine blk_drew ?_ | refine blk_alloc ?_ _)); exact BK199.out) hb)
          have n3_ := Aside0.mk (below_step (by repeat (first | (with_reducible first | exact HB.out | apply below_alloc | apply pw_below_drewN | apply below_drew1 | refine below_set ?_ GE199.out) | exact HB.out)) hb)
          clear HO203
          clear BK199
          clear HB
          have HO203 := n0_
          have HO206 := n1_
          have BK199 := n2_
          have HB := n3_
          clear n0_ n1_ n2_ n3_
          (try clear hb)
          (try clear hb2)
          (try clear hk)
          (try clear hi)
          (try clear ho0)
          refine hK.out _ _ ⟨(blk_cell BK199.out 0).trans rfl, (blk_cell BK199.out 1).trans rfl, (blk_cell BK199.out 2).trans rfl, (blk_cell BK199.out 3).trans rfl, (blk_cell BK199.out 4).trans rfl, (blk_cell BK199.out 5).trans rfl⟩ (fun hHeld => ?_)
          clear hK K
          refine norm_ (a' := ?_) ?_ ?_
          rotate_left
          · show Act.put _ (some 19) _ = _
            simp only [Act.put, List.setIfInBounds_toArray, List.set_cons_zero, List.set_cons_succ, i64_w, i32_w]
            rfl
          refine pure_ (i := 8) (N := some 5) (v := ?_) (a' := ?_) #[true, true, true, true, true, true, true, true, true] rfl rfl (any_of HT_.out (by kernel_rfl)) (fun _ _ _ h => h) (Or.inl ⟨by rfl, ?_⟩) ?_ ?_
          rotate_left
          · intro w'
            go_simp
            with_reducible rfl
          rotate_left
          · simp only [Act.put, List.setIfInBounds_toArray, List.set_cons_zero, List.set_cons_succ, i64_w, i32_w]
            rfl
          refine done_ (done_of HT_.out (by kernel_rfl)) ?_
          have hcz55_0 : w54.cell? ⟨gb199, 0, none⟩ = some (.int .i64 a0_0) := (blk_cell BK199.out 0).trans rfl
          have hcz55_1 : w54.cell? ⟨gb199, 1, none⟩ = some (.int .i64 a0_1) := (blk_cell BK199.out 1).trans rfl
          have hcz55_2 : w54.cell? ⟨gb199, 2, none⟩ = some (.int .i64 a0_2) := (blk_cell BK199.out 2).trans rfl
          have hcz55_3 : w54.cell? ⟨gb199, 3, none⟩ = some (.int .i64 a0_3) := (blk_cell BK199.out 3).trans rfl
          have hcz55_4 : w54.cell? ⟨gb199, 4, none⟩ = some (.int .u32 a0_4) := (blk_cell BK199.out 4).trans rfl
          have hcz55_5 : w54.cell? ⟨gb199, 5, none⟩ = some (.slice A0_5 l0_5.length c0_5) := (blk_cell BK199.out 5).trans rfl
          have hfz55_0 := blk_frozen BK199.out 0
          have hfz55_1 := blk_frozen BK199.out 1
          have hfz55_2 := blk_frozen BK199.out 2
          have hfz55_3 := blk_frozen BK199.out 3
          have hfz55_4 := blk_frozen BK199.out 4
          have hfz55_5 := blk_frozen BK199.out 5
          obtain ⟨Ao56, co56, eo56⟩ := Kd.R_slice HO206.out
          subst eo56
          try go_wp2_with (first | ((with_reducible refine gate_callee (f := 22) rfl ?_); refine goesL_ (some 55) rfl rfl Try.func22 (by kernel_rfl) rfl #[.slice Ao56 t204.length co56, .int .u64 (IntKind.u64.wrap (a0_2))] rfl (by (try simp only [List.map_toArray, List.map_cons, List.map_nil]); first | done | rfl | (simp only [List.length_drop, List.length_take]; rfl)) ?_; (with_reducible refine (rosetteref02_Put.calls _ _ t204 (IntKind.u64.wrap (a0_2)) t227 _ ?side1 ?side2 A46.out).mono ?_); (case side1 => repeat (first | exact (Kd.R_reads' HO206.out).2.2 | (with_reducible refine Kd.C_alloc ?_ _) | (with_reducible refine Kd.C_drewN ?_ _) | (with_reducible refine Kd.C_drew ?_))); (case side2 => exact (Kd.R_reads' HO206.out).2.1); rintro e w57 ⟨v228, rfl, ho0, hb⟩; refine ⟨_, rfl, ?_⟩; have n0_ := Aside0.mk (Kd.R_elder' (by (with_reducible repeat (first | apply Kd.R_alloc | apply Kd.R_drewN | apply Kd.R_drew)); exact HO203.out) (Kd.R_base ho0) hb); have n1_ := Aside0.mk (Kd.R_elder' (by (with_reducible repeat (first | apply Kd.R_alloc | apply Kd.R_drewN | apply Kd.R_drew)); exact HO206.out) (Kd.R_base ho0) hb); have n2_ := Aside0.mk (Kd.R_lower (Kd.R_new' (Kd.R_new' ho0 (Kd.R_lt (by (with_reducible repeat (first | apply Kd.R_alloc | apply Kd.R_drewN | apply Kd.R_drew)); exact HO203.out))) (Kd.R_lt (by (with_reducible repeat (first | apply Kd.R_alloc | apply Kd.R_drewN | apply Kd.R_drew)); exact HO206.out))) (below_size (by repeat (first | (with_reducible first | exact HB.out | apply below_alloc | apply pw_below_drewN | apply below_drew1 | refine below_set ?_ GE199.out) | exact HB.out)))); have n3_ := Aside0.mk (blk_below (g := gb199) (o := .cells #[.int .i64 a0_0, .int .i64 a0_1, .int .i64 a0_2, .int .i64 a0_3, .int .u32 a0_4, .slice A0_5 l0_5.length c0_5] 25 (0, 0)) (by (with_reducible repeat (first | refine blk_drewN ?_ _ | refine blk_drew ?_ | refine blk_alloc ?_ _)); exact BK199.out) hb); have n4_ := Aside0.mk (below_step (by repeat (first | (with_reducible first | exact HB.out | apply below_alloc | apply pw_below_drewN | apply below_drew1 | refine below_set ?_ GE199.out) | exact HB.out)) hb); clear HO203; clear HO206; clear BK199; clear HB; have HO203 := n0_; have HO206 := n1_; have HO229 := n2_; have BK199 := n3_; have HB := n4_; clear n0_ n1_ n2_ n3_ n4_; (try clear hb); (try clear hb2); (try clear hk); (try clear hi); (try clear ho0); obtain ⟨Ao58, co58, eo58⟩ := Kd.R_slice HO229.out; subst eo58) | ((with_reducible refine gate_callee (f := 16) rfl ?_); refine goesL_ (some 58) rfl rfl Try.func16 (by kernel_rfl) rfl #[.slice Ao58 t227.length co58] rfl (by (try simp only [List.map_toArray, List.map_cons, List.map_nil]); first | done | rfl | (simp only [List.length_drop, List.length_take]; rfl)) ?_; (with_reducible refine (rosetteref03_Make.calls k _ _ t227 t230 t231 _ ?side1 ?side2 A47.out).mono ?_); (case side1 => repeat (first | exact (Kd.R_reads' HO229.out).2.2 | (with_reducible refine Kd.C_alloc ?_ _) | (with_reducible refine Kd.C_drewN ?_ _) | (with_reducible refine Kd.C_drew ?_))); (case side2 => exact (Kd.R_reads' HO229.out).2.1); rintro e w59 ⟨v232, rfl, ho0, hb⟩; refine ⟨_, rfl, ?_⟩; have n0_ := Aside0.mk (Kd.R_elder' (by (with_reducible repeat (first | apply Kd.R_alloc | apply Kd.R_drewN | apply Kd.R_drew)); exact HO203.out) (Kd.R_base ho0) hb); have n1_ := Aside0.mk (Kd.R_elder' (by (with_reducible repeat (first | apply Kd.R_alloc | apply Kd.R_drewN | apply Kd.R_drew)); exact HO206.out) (Kd.R_base ho0) hb); have n2_ := Aside0.mk (Kd.R_elder' (by (with_reducible repeat (first | apply Kd.R_alloc | apply Kd.R_drewN | apply Kd.R_drew)); exact HO229.out) (Kd.R_base ho0) hb); have n3_ := Aside0.mk (Kd.R_lower (Kd.R_new' (Kd.R_new' (Kd.R_new' ho0 (Kd.R_lt (by (with_reducible repeat (first | apply Kd.R_alloc | apply Kd.R_drewN | apply Kd.R_drew)); exact HO203.out))) (Kd.R_lt (by (with_reducible repeat (first | apply Kd.R_alloc | apply Kd.R_drewN | apply Kd.R_drew)); exact HO206.out))) (Kd.R_lt (by (with_reducible repeat (first | apply Kd.R_alloc | apply Kd.R_drewN | apply Kd.R_drew)); exact HO229.out))) (below_size (by repeat (first | (with_reducible first | exact HB.out | apply below_alloc | apply pw_below_drewN | apply below_drew1 | refine below_set ?_ GE199.out) | exact HB.out)))); have n4_ := Aside0.mk (blk_below (g := gb199) (o := .cells #[.int .i64 a0_0, .int .i64 a0_1, .int .i64 a0_2, .int .i64 a0_3, .int .u32 a0_4, .slice A0_5 l0_5.length c0_5] 25 (0, 0)) (by (with_reducible repeat (first | refine blk_drewN ?_ _ | refine blk_drew ?_ | refine blk_alloc ?_ _)); exact BK199.out) hb); have n5_ := Aside0.mk (below_step (by repeat (first | (with_reducible first | exact HB.out | apply below_alloc | apply pw_below_drewN | apply below_drew1 | refine below_set ?_ GE199.out) | exact HB.out)) hb); clear HO203; clear HO206; clear HO229; clear BK199; clear HB; have HO203 := n0_; have HO206 := n1_; have HO229 := n2_; have HO233 := n3_; have BK199 := n4_; have HB := n5_; clear n0_ n1_ n2_ n3_ n4_ n5_; (try clear hb); (try clear hb2); (try clear hk); (try clear hi); (try clear ho0)))
          go_ret2
          exact ⟨_, by first | rfl | (simp [errW_none, errW_some] <;> rfl) | (simp [*, errW_none, errW_some] <;> rfl), by (with_reducible repeat (first | apply Kd.R_alloc | apply Kd.R_drewN | apply Kd.R_drew)); exact Kd.R_mono HO233.out (fun _ hk => trivial), by repeat (first | (with_reducible first | exact HB.out | apply below_alloc | apply pw_below_drewN | apply below_drew1 | refine below_set ?_ GE199.out) | exact HB.out)⟩
        · rw [if_neg c45] at H
          have c45b0 : (a0_0 == 3) = false := beq_eq_false_iff_ne.mpr c45
          have c45b1 : (a0_0 != 3) = true := bne_iff_ne.mpr c45
          replace H := Option.bind_eq_some_iff.mp H
          obtain ⟨t234, A600, H⟩ := H
          replace H : ((rosetteref03_Make.f k t234).bind fun bt237 => (some (bt237.1, true))) = some (r1, r2) := H
          have A60 := Aside0.mk A600
          clear A600
          replace H := Option.bind_eq_some_iff.mp H
          obtain ⟨⟨t237, t238⟩, A610, H⟩ := H
          replace H : (some (t237, true)) = some (r1, r2) := H
          have A61 := Aside0.mk A610
          clear A610
          simp only [Option.some.injEq, Prod.mk.injEq] at H
          obtain ⟨rfl, rfl⟩ := H
          go_enter Try.func10, Try.ntmps10
          try go_wp2_with (first | ((with_reducible refine gate_dst (N := 1) rfl ?_); refine box_event ?hg (N := 1) ?hd (cs := #[.int .i64 a0_0, .int .i64 a0_1, .int .i64 a0_2, .int .i64 a0_3, .int .u32 a0_4, .slice A0_5 l0_5.length c0_5]) (t := 25) ?hr ?_; (case hd => rfl); (case hg => rfl); (case hr => first | (go_simp; done) | (go_simp; rfl)); intro gb199 hg w62 hbox hb; have n0_ := Aside0.mk (below_step (by repeat (first | (with_reducible first | exact HB.out | apply below_alloc | apply pw_below_drewN | apply below_drew1) | exact HB.out)) hb); have n1_ := Aside0.mk (hbox); have n2_ := Aside0.mk ((by rw [hg]; exact (below_size (by repeat (first | (with_reducible first | exact HB.out | apply below_alloc | apply pw_below_drewN | apply below_drew1) | exact HB.out))) : w.heap.size ≤ gb199)); have n3_ := Aside0.mk ((by rw [hg]; exact (below_size (by repeat (first | (with_reducible first | exact HB.out | apply below_alloc | apply pw_below_drewN | apply below_drew1) | exact HB.out))) : w.heap.size ≤ gb199)); clear HB; have HB := n0_; have BK199 := n1_; have GW199 := n2_; have GE199 := n3_; clear n0_ n1_ n2_ n3_; clear hb hbox hg; have hcz63_0 : w62.cell? ⟨gb199, 0, none⟩ = some (.int .i64 a0_0) := (blk_cell BK199.out 0).trans rfl; have hcz63_1 : w62.cell? ⟨gb199, 1, none⟩ = some (.int .i64 a0_1) := (blk_cell BK199.out 1).trans rfl; have hcz63_2 : w62.cell? ⟨gb199, 2, none⟩ = some (.int .i64 a0_2) := (blk_cell BK199.out 2).trans rfl; have hcz63_3 : w62.cell? ⟨gb199, 3, none⟩ = some (.int .i64 a0_3) := (blk_cell BK199.out 3).trans rfl; have hcz63_4 : w62.cell? ⟨gb199, 4, none⟩ = some (.int .u32 a0_4) := (blk_cell BK199.out 4).trans rfl; have hcz63_5 : w62.cell? ⟨gb199, 5, none⟩ = some (.slice A0_5 l0_5.length c0_5) := (blk_cell BK199.out 5).trans rfl; have hfz63_0 := blk_frozen BK199.out 0; have hfz63_1 := blk_frozen BK199.out 1; have hfz63_2 := blk_frozen BK199.out 2; have hfz63_3 := blk_frozen BK199.out 3; have hfz63_4 := blk_frozen BK199.out 4; have hfz63_5 := blk_frozen BK199.out 5) | ((with_reducible refine gate_callee (f := 21) rfl ?_); refine goesL_ (some 9) rfl rfl Try.func21 (by kernel_rfl) rfl #[.agg #[.int .i64 a0_0, .int .i64 a0_1, .int .i64 a0_2, .int .i64 a0_3, .int .u32 a0_4, .slice A0_5 l0_5.length c0_5]] rfl (by (try simp only [List.map_toArray, List.map_cons, List.map_nil]); first | done | rfl | (simp only [List.length_drop, List.length_take]; rfl)) ?_; (with_reducible refine (rosetteref22_right.calls k a0_0 a0_1 a0_2 a0_3 a0_4 _ _ l0_5 true _ ?side1 ?side2 A2.out).mono ?_); (case side1 => repeat (first | exact (Kd.C_below HR0_5.out HB.out) | (with_reducible refine Kd.C_alloc ?_ _) | (with_reducible refine Kd.C_drewN ?_ _) | (with_reducible refine Kd.C_drew ?_))); (case side2 => exact HC0_5.out); rintro e w64 ⟨rfl, hb⟩; refine ⟨_, rfl, ?_⟩; have n0_ := Aside0.mk (blk_below (g := gb199) (o := .cells #[.int .i64 a0_0, .int .i64 a0_1, .int .i64 a0_2, .int .i64 a0_3, .int .u32 a0_4, .slice A0_5 l0_5.length c0_5] 25 (0, 0)) (by (with_reducible repeat (first | refine blk_drewN ?_ _ | refine blk_drew ?_ | refine blk_alloc ?_ _)); exact BK199.out) hb); have n1_ := Aside0.mk (below_step (by repeat (first | (with_reducible first | exact HB.out | apply below_alloc | apply pw_below_drewN | apply below_drew1 | refine below_set ?_ GE199.out) | exact HB.out)) hb); clear BK199; clear HB; have BK199 := n0_; have HB := n1_; clear n0_ n1_; (try clear hb); (try clear hb2); (try clear hk); (try clear hi)))
          have n0_ := Aside0.mk (blk_drew BK199.out)
          have n1_ := Aside0.mk (below_drew1 HB.out)
          clear BK199
          clear HB
          have BK199 := n0_
          have HB := n1_
          clear n0_ n1_
          refine start_ (n := 9) (S := fun w' => w'.cell? ⟨gb199, 0, none⟩ = some (.int .i64 a0_0) ∧ w'.cell? ⟨gb199, 1, none⟩ = some (.int .i64 a0_1) ∧ w'.cell? ⟨gb199, 2, none⟩ = some (.int .i64 a0_2) ∧ w'.cell? ⟨gb199, 3, none⟩ = some (.int .i64 a0_3) ∧ w'.cell? ⟨gb199, 4, none⟩ = some (.int .u32 a0_4) ∧ w'.cell? ⟨gb199, 5, none⟩ = some (.slice A0_5 l0_5.length c0_5)) (ds := []) #[false, false, false, false, false, false, false, false, false] (by kernel_rfl) rfl rfl ⟨(blk_cell BK199.out 0).trans rfl, (blk_cell BK199.out 1).trans rfl, (blk_cell BK199.out 2).trans rfl, (blk_cell BK199.out 3).trans rfl, (blk_cell BK199.out 4).trans rfl, (blk_cell BK199.out 5).trans rfl⟩ (fun hHeld => ?_); refine with_tabW rosetteref22_Encode.tab4 rosetteref22_Encode.bits4 (fun HT_ HW_ => ?_)
          generalize w64.drew = w65 at BK199 HB hHeld ⊢
          refine pure_ (i := 0) (N := some 12) (v := ?_) (a' := ?_) #[true, false, false, false, false, false, false, false, false] rfl rfl (any_of HT_.out (by kernel_rfl)) (fun _ _ _ h => h) (Or.inl ⟨by rfl, ?_⟩) ?_ ?_
          rotate_left
          · intro w'
            go_simp
            with_reducible rfl
          rotate_left
          · simp only [Act.put, List.setIfInBounds_toArray, List.set_cons_zero, List.set_cons_succ, i64_w, i32_w]
            rfl
          refine pure_ (i := 4) (N := some 16) (v := ?_) (a' := ?_) #[true, false, false, false, true, false, false, false, false] rfl rfl (any_of HT_.out (by kernel_rfl)) (fun _ _ _ h => h) (Or.inl ⟨by rfl, ?_⟩) ?_ ?_
          rotate_left
          · intro w'
            go_simp
            with_reducible rfl
          rotate_left
          · simp only [Act.put, List.setIfInBounds_toArray, List.set_cons_zero, List.set_cons_succ, i64_w, i32_w]
            rfl
          refine take_ (i := 1) (N := some 13) (v := ?_) (a' := ?_) #[true, true, false, false, true, false, false, false, false] rfl rfl (take_ofW HT_.out HW_.out (by kernel_rfl)) (fun _ _ _ h => h) (Or.inl ⟨by rfl, ?_⟩) hHeld ?_ ?_
          rotate_left
          · rintro w' ⟨s0, s1, s2, s3, s4, s5⟩
            go_simp
            with_reducible rfl
          rotate_left
          · simp only [Act.put, List.setIfInBounds_toArray, List.set_cons_zero, List.set_cons_succ, i64_w, i32_w]
            rfl
          refine pure_ (i := 2) (N := some 14) (v := ?_) (a' := ?_) #[true, true, true, false, true, false, false, false, false] rfl rfl (any_of HT_.out (by kernel_rfl)) (fun _ _ _ h => h) (Or.inl ⟨by rfl, ?_⟩) ?_ ?_
          rotate_left
          · intro w'
            go_simp
            with_reducible rfl
          rotate_left
          · simp only [Act.put, List.setIfInBounds_toArray, List.set_cons_zero, List.set_cons_succ, i64_w, i32_w]
            rfl
          refine take_ (i := 5) (N := some 17) (v := ?_) (a' := ?_) #[true, true, true, false, true, true, false, false, false] rfl rfl (take_ofW HT_.out HW_.out (by kernel_rfl)) (fun _ _ _ h => h) (Or.inl ⟨by rfl, ?_⟩) hHeld ?_ ?_
          rotate_left
          · rintro w' ⟨s0, s1, s2, s3, s4, s5⟩
            go_simp
            with_reducible rfl
          rotate_left
          · simp only [Act.put, List.setIfInBounds_toArray, List.set_cons_zero, List.set_cons_succ, i64_w, i32_w]
            rfl
          refine pure_ (i := 6) (N := some 18) (v := ?_) (a' := ?_) #[true, true, true, false, true, true, true, false, false] rfl rfl (any_of HT_.out (by kernel_rfl)) (fun _ _ _ h => h) (Or.inl ⟨by rfl, ?_⟩) ?_ ?_
          rotate_left
          · intro w'
            go_simp
            with_reducible rfl
          rotate_left
          · simp only [Act.put, List.setIfInBounds_toArray, List.set_cons_zero, List.set_cons_succ, i64_w, i32_w]
            rfl
          refine one_ (i := 3) (N := some 15) #[true, true, true, true, true, true, true, false, false] rfl rfl (one_of HT_.out (by kernel_rfl)) (by decide) (fun K hK => ?_)
          refine goes_ Try.func22 (by kernel_rfl) rfl #[.slice none 0 0, .int .u64 (IntKind.u64.wrap (a0_0))] (by rfl) rfl rfl (by (try simp only [List.map_toArray, List.map_cons, List.map_nil]); first | done | rfl | (simp only [List.length_drop, List.length_take]; rfl)) ?_
          refine (rosetteref02_Put.calls _ _ ([] : List Int) (IntKind.u64.wrap (a0_0)) t201 _ ?side1 ?side2 A4.out).mono ?_
          (case side1 => exact Kd.C_nil _ _)
          (case side2 => exact Nat.le_refl _)
          rintro e w66 ⟨v202, rfl, ho0, hb⟩
          refine ⟨_, rfl, ?_⟩
          have n0_ := Aside0.mk (Kd.R_lower ho0 (below_size (by repeat (first | (with_reducible first | exact HB.out | apply below_alloc | apply pw_below_drewN | apply below_drew1 | refine below_set ?_ GE199.out) | exact HB.out))))
          have n1_ := Aside0.mk (blk_below (g := gb199) (o := .cells #[.int .i64 a0_0, .int .i64 a0_1, .int .i64 a0_2, .int .i64 a0_3, .int .u32 a0_4, .slice A0_5 l0_5.length c0_5] 25 (0, 0)) (by (with_reducible repeat (first | refine blk_drewN ?_ _ | refine blk_drew ?_ | refine blk_alloc ?_ _)); exact BK199.out) hb)
          have n2_ := Aside0.mk (below_step (by repeat (first | (with_reducible first | exact HB.out | apply below_alloc | apply pw_below_drewN | apply below_drew1 | refine below_set ?_ GE199.out) | exact HB.out)) hb)
          clear BK199
          clear HB
          have HO203 := n0_
          have BK199 := n1_
          have HB := n2_
          clear n0_ n1_ n2_
          (try clear hb)
          (try clear hb2)
          (try clear hk)
          (try clear hi)
          (try clear ho0)
          obtain ⟨Ao67, co67, eo67⟩ := Kd.R_slice HO203.out
          (first | subst eo67 | (injection eo67 with f1_ f2_ f3_; have f4_ := f1_.symm; have f5_ := f3_.symm; clear f1_ f2_ f3_; subst f4_; subst f5_))
          refine hK.out _ _ ⟨(blk_cell BK199.out 0).trans rfl, (blk_cell BK199.out 1).trans rfl, (blk_cell BK199.out 2).trans rfl, (blk_cell BK199.out 3).trans rfl, (blk_cell BK199.out 4).trans rfl, (blk_cell BK199.out 5).trans rfl⟩ (fun hHeld => ?_)
          clear hK K
          refine norm_ (a' := ?_) ?_ ?_
          rotate_left
          · show Act.put _ (some 15) _ = _
            simp only [Act.put, List.setIfInBounds_toArray, List.set_cons_zero, List.set_cons_succ, i64_w, i32_w]
            rfl
          refine one_ (i := 7) (N := some 19) #[true, true, true, true, true, true, true, true, false] rfl rfl (one_of HT_.out (by kernel_rfl)) (by decide) (fun K hK => ?_)
          refine goes_ Try.func22 (by kernel_rfl) rfl #[.slice Ao67 t201.length co67, .int .u64 (IntKind.u64.wrap (a0_1))] (by rfl) rfl rfl (by (try simp only [List.map_toArray, List.map_cons, List.map_nil]); first | done | rfl | (simp only [List.length_drop, List.length_take]; rfl)) ?_
          with_reducible refine (rosetteref02_Put.calls _ _ t201 (IntKind.u64.wrap (a0_1)) t204 _ ?side1 ?side2 A5.out).mono ?_
          (case side1 => repeat (first | exact (Kd.R_reads' HO203.out).2.2 | (with_reducible refine Kd.C_alloc ?_ _) | (with_reducible refine Kd.C_drewN ?_ _) | (with_reducible refine Kd.C_drew ?_)))
          (case side2 => exact (Kd.R_reads' HO203.out).2.1)
          rintro e w68 ⟨v205, rfl, ho0, hb⟩
          refine ⟨_, rfl, ?_⟩
          have n0_ := Aside0.mk (Kd.R_elder' (by (with_reducible repeat (first | apply Kd.R_alloc | apply Kd.R_drewN | apply Kd.R_drew)); exact HO203.out) (Kd.R_base ho0) hb)
          have n1_ := Aside0.mk (Kd.R_lower (Kd.R_new' ho0 (Kd.R_lt (by (with_reducible repeat (first | apply Kd.R_alloc | apply Kd.R_drewN | apply Kd.R_drew)); exact HO203.out))) (below_size (by repeat (first | (with_reducible first | exact HB.out | apply below_alloc | apply pw_below_drewN | apply below_drew1 | refine below_set ?_ GE199.out) | exact HB.out))))
          have n2_ := Aside0.mk (blk_below (g := gb199) (o := .cells #[.int .i64 a0_0, .int .i64 a0_1, .int .i64 a0_2, .int .i64 a0_3, .int .u32 a0_4, .slice A0_5 l0_5.length c0_5] 25 (0, 0)) (by (with_reducible repeat (first | refine blk_drewN ?_ _ | refine blk_drew ?_ | refine blk_alloc ?_ _)); exact BK199.out) hb)
          have n3_ := Aside0.mk (below_step (by repeat (first | (with_reducible first | exact HB.out | apply below_alloc | apply pw_below_drewN | apply below_drew1 | refine below_set ?_ GE199.out) | exact HB.out)) hb)
          clear HO203
          clear BK199
          clear HB
          have HO203 := n0_
          have HO206 := n1_
          have BK199 := n2_
          have HB := n3_
          clear n0_ n1_ n2_ n3_
          (try clear hb)
          (try clear hb2)
          (try clear hk)
          (try clear hi)
          (try clear ho0)
          refine hK.out _ _ ⟨(blk_cell BK199.out 0).trans rfl, (blk_cell BK199.out 1).trans rfl, (blk_cell BK199.out 2).trans rfl, (blk_cell BK199.out 3).trans rfl, (blk_cell BK199.out 4).trans rfl, (blk_cell BK199.out 5).trans rfl⟩ (fun hHeld => ?_)
          clear hK K
          refine norm_ (a' := ?_) ?_ ?_
          rotate_left
          · show Act.put _ (some 19) _ = _
            simp only [Act.put, List.setIfInBounds_toArray, List.set_cons_zero, List.set_cons_succ, i64_w, i32_w]
            rfl
          refine pure_ (i := 8) (N := some 5) (v := ?_) (a' := ?_) #[true, true, true, true, true, true, true, true, true] rfl rfl (any_of HT_.out (by kernel_rfl)) (fun _ _ _ h => h) (Or.inl ⟨by rfl, ?_⟩) ?_ ?_
          rotate_left
          · intro w'
            go_simp
            with_reducible rfl
          rotate_left
          · simp only [Act.put, List.setIfInBounds_toArray, List.set_cons_zero, List.set_cons_succ, i64_w, i32_w]
            rfl
          refine done_ (done_of HT_.out (by kernel_rfl)) ?_
          have hcz69_0 : w68.cell? ⟨gb199, 0, none⟩ = some (.int .i64 a0_0) := (blk_cell BK199.out 0).trans rfl
          have hcz69_1 : w68.cell? ⟨gb199, 1, none⟩ = some (.int .i64 a0_1) := (blk_cell BK199.out 1).trans rfl
          have hcz69_2 : w68.cell? ⟨gb199, 2, none⟩ = some (.int .i64 a0_2) := (blk_cell BK199.out 2).trans rfl
          have hcz69_3 : w68.cell? ⟨gb199, 3, none⟩ = some (.int .i64 a0_3) := (blk_cell BK199.out 3).trans rfl
          have hcz69_4 : w68.cell? ⟨gb199, 4, none⟩ = some (.int .u32 a0_4) := (blk_cell BK199.out 4).trans rfl
          have hcz69_5 : w68.cell? ⟨gb199, 5, none⟩ = some (.slice A0_5 l0_5.length c0_5) := (blk_cell BK199.out 5).trans rfl
          have hfz69_0 := blk_frozen BK199.out 0
          have hfz69_1 := blk_frozen BK199.out 1
          have hfz69_2 := blk_frozen BK199.out 2
          have hfz69_3 := blk_frozen BK199.out 3
          have hfz69_4 := blk_frozen BK199.out 4
          have hfz69_5 := blk_frozen BK199.out 5
          have hcv70 := Kd.C_string (P := Try.prog) (A := A0_5) (c := c0_5) Try.underlying23 Try.underlying5 Try.underlying9 (Kd.C_below HR0_5.out HB.out)
          obtain ⟨Ao71, co71, eo71⟩ := Kd.R_slice HO206.out
          subst eo71
          try go_wp2_with (first | ((with_reducible refine gate_callee (f := 23) rfl ?_); refine goesL_ (some 26) rfl rfl Try.func23 (by kernel_rfl) rfl #[.slice Ao71 t204.length co71, .string (strOfNums l0_5)] rfl (by (try simp only [List.map_toArray, List.map_cons, List.map_nil]); first | done | rfl | (simp only [List.length_drop, List.length_take]; rfl)) ?_; (with_reducible refine (rosetteref02_PutText.calls _ _ t204 (strOfNums l0_5) t234 _ ?side1 ?side2 A60.out).mono ?_); (case side1 => repeat (first | exact (Kd.R_reads' HO206.out).2.2 | (with_reducible refine Kd.C_alloc ?_ _) | (with_reducible refine Kd.C_drewN ?_ _) | (with_reducible refine Kd.C_drew ?_))); (case side2 => exact (Kd.R_reads' HO206.out).2.1); rintro e w72 ⟨v235, rfl, ho0, hb⟩; refine ⟨_, rfl, ?_⟩; have n0_ := Aside0.mk (Kd.R_elder' (by (with_reducible repeat (first | apply Kd.R_alloc | apply Kd.R_drewN | apply Kd.R_drew)); exact HO203.out) (Kd.R_base ho0) hb); have n1_ := Aside0.mk (Kd.R_elder' (by (with_reducible repeat (first | apply Kd.R_alloc | apply Kd.R_drewN | apply Kd.R_drew)); exact HO206.out) (Kd.R_base ho0) hb); have n2_ := Aside0.mk (Kd.R_lower (Kd.R_new' (Kd.R_new' ho0 (Kd.R_lt (by (with_reducible repeat (first | apply Kd.R_alloc | apply Kd.R_drewN | apply Kd.R_drew)); exact HO203.out))) (Kd.R_lt (by (with_reducible repeat (first | apply Kd.R_alloc | apply Kd.R_drewN | apply Kd.R_drew)); exact HO206.out))) (below_size (by repeat (first | (with_reducible first | exact HB.out | apply below_alloc | apply pw_below_drewN | apply below_drew1 | refine below_set ?_ GE199.out) | exact HB.out)))); have n3_ := Aside0.mk (blk_below (g := gb199) (o := .cells #[.int .i64 a0_0, .int .i64 a0_1, .int .i64 a0_2, .int .i64 a0_3, .int .u32 a0_4, .slice A0_5 l0_5.length c0_5] 25 (0, 0)) (by (with_reducible repeat (first | refine blk_drewN ?_ _ | refine blk_drew ?_ | refine blk_alloc ?_ _)); exact BK199.out) hb); have n4_ := Aside0.mk (below_step (by repeat (first | (with_reducible first | exact HB.out | apply below_alloc | apply pw_below_drewN | apply below_drew1 | refine below_set ?_ GE199.out) | exact HB.out)) hb); clear HO203; clear HO206; clear BK199; clear HB; have HO203 := n0_; have HO206 := n1_; have HO236 := n2_; have BK199 := n3_; have HB := n4_; clear n0_ n1_ n2_ n3_ n4_; (try clear hb); (try clear hb2); (try clear hk); (try clear hi); (try clear ho0); obtain ⟨Ao73, co73, eo73⟩ := Kd.R_slice HO236.out; subst eo73) | ((with_reducible refine gate_callee (f := 16) rfl ?_); refine goesL_ (some 58) rfl rfl Try.func16 (by kernel_rfl) rfl #[.slice Ao73 t234.length co73] rfl (by (try simp only [List.map_toArray, List.map_cons, List.map_nil]); first | done | rfl | (simp only [List.length_drop, List.length_take]; rfl)) ?_; (with_reducible refine (rosetteref03_Make.calls k _ _ t234 t237 t238 _ ?side1 ?side2 A61.out).mono ?_); (case side1 => repeat (first | exact (Kd.R_reads' HO236.out).2.2 | (with_reducible refine Kd.C_alloc ?_ _) | (with_reducible refine Kd.C_drewN ?_ _) | (with_reducible refine Kd.C_drew ?_))); (case side2 => exact (Kd.R_reads' HO236.out).2.1); rintro e w74 ⟨v239, rfl, ho0, hb⟩; refine ⟨_, rfl, ?_⟩; have n0_ := Aside0.mk (Kd.R_elder' (by (with_reducible repeat (first | apply Kd.R_alloc | apply Kd.R_drewN | apply Kd.R_drew)); exact HO203.out) (Kd.R_base ho0) hb); have n1_ := Aside0.mk (Kd.R_elder' (by (with_reducible repeat (first | apply Kd.R_alloc | apply Kd.R_drewN | apply Kd.R_drew)); exact HO206.out) (Kd.R_base ho0) hb); have n2_ := Aside0.mk (Kd.R_elder' (by (with_reducible repeat (first | apply Kd.R_alloc | apply Kd.R_drewN | apply Kd.R_drew)); exact HO236.out) (Kd.R_base ho0) hb); have n3_ := Aside0.mk (Kd.R_lower (Kd.R_new' (Kd.R_new' (Kd.R_new' ho0 (Kd.R_lt (by (with_reducible repeat (first | apply Kd.R_alloc | apply Kd.R_drewN | apply Kd.R_drew)); exact HO203.out))) (Kd.R_lt (by (with_reducible repeat (first | apply Kd.R_alloc | apply Kd.R_drewN | apply Kd.R_drew)); exact HO206.out))) (Kd.R_lt (by (with_reducible repeat (first | apply Kd.R_alloc | apply Kd.R_drewN | apply Kd.R_drew)); exact HO236.out))) (below_size (by repeat (first | (with_reducible first | exact HB.out | apply below_alloc | apply pw_below_drewN | apply below_drew1 | refine below_set ?_ GE199.out) | exact HB.out)))); have n4_ := Aside0.mk (blk_below (g := gb199) (o := .cells #[.int .i64 a0_0, .int .i64 a0_1, .int .i64 a0_2, .int .i64 a0_3, .int .u32 a0_4, .slice A0_5 l0_5.length c0_5] 25 (0, 0)) (by (with_reducible repeat (first | refine blk_drewN ?_ _ | refine blk_drew ?_ | refine blk_alloc ?_ _)); exact BK199.out) hb); have n5_ := Aside0.mk (below_step (by repeat (first | (with_reducible first | exact HB.out | apply below_alloc | apply pw_below_drewN | apply below_drew1 | refine below_set ?_ GE199.out) | exact HB.out)) hb); clear HO203; clear HO206; clear HO236; clear BK199; clear HB; have HO203 := n0_; have HO206 := n1_; have HO236 := n2_; have HO240 := n3_; have BK199 := n4_; have HB := n5_; clear n0_ n1_ n2_ n3_ n4_ n5_; (try clear hb); (try clear hb2); (try clear hk); (try clear hi); (try clear ho0)))
          go_ret2
          exact ⟨_, by first | rfl | (simp [errW_none, errW_some] <;> rfl) | (simp [*, errW_none, errW_some] <;> rfl), by (with_reducible repeat (first | apply Kd.R_alloc | apply Kd.R_drewN | apply Kd.R_drew)); exact Kd.R_mono HO240.out (fun _ hk => trivial), by repeat (first | (with_reducible first | exact HB.out | apply below_alloc | apply pw_below_drewN | apply below_drew1 | refine below_set ?_ GE199.out) | exact HB.out)⟩
  · replace c3 := Bool.eq_false_iff.mpr c3
    subst c3
    have H1 : (some (([] : List Int), false)) = some (r1, r2) := by rw [if_neg (show ¬ (false = true) by decide)] at H; exact H
    clear H
    have H := H1
    clear H1
    simp only [Option.some.injEq, Prod.mk.injEq] at H
    obtain ⟨rfl, rfl⟩ := H
    go_enter Try.func10, Try.ntmps10
    go_wp2_with (first | ((with_reducible refine gate_dst (N := 1) rfl ?_); refine box_event ?hg (N := 1) ?hd (cs := #[.int .i64 a0_0, .int .i64 a0_1, .int .i64 a0_2, .int .i64 a0_3, .int .u32 a0_4, .slice A0_5 l0_5.length c0_5]) (t := 25) ?hr ?_; (case hd => rfl); (case hg => rfl); (case hr => first | (go_simp; done) | (go_simp; rfl)); intro gb199 hg w75 hbox hb; have n0_ := Aside0.mk (below_step (by repeat (first | (with_reducible first | exact HB.out | apply below_alloc | apply pw_below_drewN | apply below_drew1) | exact HB.out)) hb); have n1_ := Aside0.mk (hbox); have n2_ := Aside0.mk ((by rw [hg]; exact (below_size (by repeat (first | (with_reducible first | exact HB.out | apply below_alloc | apply pw_below_drewN | apply below_drew1) | exact HB.out))) : w.heap.size ≤ gb199)); have n3_ := Aside0.mk ((by rw [hg]; exact (below_size (by repeat (first | (with_reducible first | exact HB.out | apply below_alloc | apply pw_below_drewN | apply below_drew1) | exact HB.out))) : w.heap.size ≤ gb199)); clear HB; have HB := n0_; have BK199 := n1_; have GW199 := n2_; have GE199 := n3_; clear n0_ n1_ n2_ n3_; clear hb hbox hg; have hcz76_0 : w75.cell? ⟨gb199, 0, none⟩ = some (.int .i64 a0_0) := (blk_cell BK199.out 0).trans rfl; have hcz76_1 : w75.cell? ⟨gb199, 1, none⟩ = some (.int .i64 a0_1) := (blk_cell BK199.out 1).trans rfl; have hcz76_2 : w75.cell? ⟨gb199, 2, none⟩ = some (.int .i64 a0_2) := (blk_cell BK199.out 2).trans rfl; have hcz76_3 : w75.cell? ⟨gb199, 3, none⟩ = some (.int .i64 a0_3) := (blk_cell BK199.out 3).trans rfl; have hcz76_4 : w75.cell? ⟨gb199, 4, none⟩ = some (.int .u32 a0_4) := (blk_cell BK199.out 4).trans rfl; have hcz76_5 : w75.cell? ⟨gb199, 5, none⟩ = some (.slice A0_5 l0_5.length c0_5) := (blk_cell BK199.out 5).trans rfl; have hfz76_0 := blk_frozen BK199.out 0; have hfz76_1 := blk_frozen BK199.out 1; have hfz76_2 := blk_frozen BK199.out 2; have hfz76_3 := blk_frozen BK199.out 3; have hfz76_4 := blk_frozen BK199.out 4; have hfz76_5 := blk_frozen BK199.out 5) | ((with_reducible refine gate_callee (f := 21) rfl ?_); refine goesL_ (some 9) rfl rfl Try.func21 (by kernel_rfl) rfl #[.agg #[.int .i64 a0_0, .int .i64 a0_1, .int .i64 a0_2, .int .i64 a0_3, .int .u32 a0_4, .slice A0_5 l0_5.length c0_5]] rfl (by (try simp only [List.map_toArray, List.map_cons, List.map_nil]); first | done | rfl | (simp only [List.length_drop, List.length_take]; rfl)) ?_; (with_reducible refine (rosetteref22_right.calls k a0_0 a0_1 a0_2 a0_3 a0_4 _ _ l0_5 false _ ?side1 ?side2 A2.out).mono ?_); (case side1 => repeat (first | exact (Kd.C_below HR0_5.out HB.out) | (with_reducible refine Kd.C_alloc ?_ _) | (with_reducible refine Kd.C_drewN ?_ _) | (with_reducible refine Kd.C_drew ?_))); (case side2 => exact HC0_5.out); rintro e w77 ⟨rfl, hb⟩; refine ⟨_, rfl, ?_⟩; have n0_ := Aside0.mk (blk_below (g := gb199) (o := .cells #[.int .i64 a0_0, .int .i64 a0_1, .int .i64 a0_2, .int .i64 a0_3, .int .u32 a0_4, .slice A0_5 l0_5.length c0_5] 25 (0, 0)) (by (with_reducible repeat (first | refine blk_drewN ?_ _ | refine blk_drew ?_ | refine blk_alloc ?_ _)); exact BK199.out) hb); have n1_ := Aside0.mk (below_step (by repeat (first | (with_reducible first | exact HB.out | apply below_alloc | apply pw_below_drewN | apply below_drew1 | refine below_set ?_ GE199.out) | exact HB.out)) hb); clear BK199; clear HB; have BK199 := n0_; have HB := n1_; clear n0_ n1_; (try clear hb); (try clear hb2); (try clear hk); (try clear hi)))
    go_ret2
    exact ⟨_, by first | rfl | (simp [errW_none, errW_some] <;> rfl) | (simp [*, errW_none, errW_some] <;> rfl), by first | exact Kd.R_nil _ _ _ _ _ | exact Kd.N_nil _ _ _ _ _ | exact Kd.V_nil _ _ _ _ _ | exact Kd.Q_nil _ _ _ _ _ | exact Kd.S_nil _ _ _ _ _, by repeat (first | (with_reducible first | exact HB.out | apply below_alloc | apply pw_below_drewN | apply below_drew1 | refine below_set ?_ GE199.out) | exact HB.out)⟩

end Go.Proofs.Yticpcjjgdkbcjaa.G
end

section
-- Written by a program of this session (wip/tools/myprint.py), over the kit's print.
namespace Go.Proofs.Yticpcjjgdkbcjaa.G
open Go.RowKit Go.Proofs.YticpcjjgdkbcjaaW.PrintWords Go.Proofs.YticpcjjgdkbcjaaW.PrintLast Go.Proofs.YticpcjjgdkbcjaaW.PrintMore
attribute [local go_sem] max2_int min2_int max_two min_two max_three min_three max_four min_four   -- for this text's walks alone
set_option linter.unusedVariables false
set_option linter.unusedSimpArgs false

-- BY HAND
-- IMPORT YticpcjjgdkbcjaaPackRs
def rosetteref22_Decode.f (k : Nat) (l0 : List Int) : Option (Int × Int × Int × Int × Int × List Int × Int) :=
  (rosetteref03_Next.f k l0).bind fun r => if u8s r.1 ∧ r.1.length ≤ 140737488355300 then some ((dec l0.length r.1 r.2.1 r.2.2).1.r (dec l0.length r.1 r.2.1 r.2.2).2) else none
theorem rosetteref22_Decode.mono : ∀ a0 k, LeO (rosetteref22_Decode.f k a0) (rosetteref22_Decode.f (k + 1) a0) := by
  intro a0 k r h
  unfold rosetteref22_Decode.f at h ⊢
  obtain ⟨q, hN, h⟩ := Option.bind_eq_some_iff.mp h
  exact Option.bind_eq_some_iff.mpr ⟨q, rosetteref03_Next.mono _ _ _ hN, h⟩
theorem rosetteref22_Decode.calls (k : Nat) (A0 : Option Addr) (c0 : Nat) (l0 : List Int) (r1 r2 r3 r4 r5 : Int) (r6 : List Int) (r7 : Int) (w : World) (hr0 : Kd.C (Kd.int .u8) w A0 l0.length l0) (hc0 : l0.length ≤ c0) (h : rosetteref22_Decode.f k l0 = some (r1, r2, r3, r4, r5, r6, r7)) :
    Calls Try.prog 12 #[.slice A0 l0.length c0] w fun e w' => ∃ v1_ : Value, e = .returned (.tuple #[.agg #[.int .i64 r1, .int .i64 r2, .int .i64 r3, .int .i64 r4, .int .u32 r5, v1_], .int .i64 r7]) ∧ Rs 5 w' w.heap.size (fun _ => True) v1_ r6 ∧ Below w.heap.size w w' := by
  unfold rosetteref22_Decode.f at h
  obtain ⟨⟨x, n, er⟩, hN, h⟩ := Option.bind_eq_some_iff.mp h
  simp only at h
  split at h
  case isFalse => cases h
  case isTrue hu =>
    have h := Option.some.inj h
    refine (rdecode k A0 c0 l0 x n er w hr0 hc0 hr0.2.1 hu.1 hu.2 hN).mono ?_
    rintro e w' ⟨A, c, rfl, hH, h1, h2, hB⟩
    generalize dec l0.length x n er = q at h hH h1 ⊢
    obtain ⟨p, er'⟩ := q
    simp only [Pk.r, Prod.mk.injEq] at h
    obtain ⟨rfl, rfl, rfl, rfl, rfl, rfl, rfl⟩ := h
    exact ⟨_, rfl, Rs_of hH h1 h2, hB⟩

end Go.Proofs.Yticpcjjgdkbcjaa.G
end

section
/- packets as numbers and lists: what Encode lays is read as it was, what is read was laid so -/
set_option linter.unusedVariables false
set_option linter.unusedSimpArgs false
set_option autoImplicit false
namespace Go.Proofs.Yticpcjjgdkbcjaa.Pure
open Go.RowKit Go.Proofs.Yticpcjjgdkbcjaa Go.Proofs.Yticpcjjgdkbcjaa.G Go.Proofs.YticpcjjgdkbcjaaW.PrintWords Go.Proofs.YticpcjjgdkbcjaaW.PrintLast

theorem bind_of {α β : Type} {o : Option α} {f : α → Option β} {x : α} (h : o = some x) : o.bind f = f x := by rw [h]; rfl
/-- what is laid of a packet, ahead of its frame -/
def kbytes (p : Pk) : List Int :=
  if p.k = 1 then putL 1 ++ putL p.e ++ putL p.t ++ putL p.u
  else if p.k = 2 then putL 2 ++ putL p.e ++ putL p.s ++ putL p.d.length ++ p.d
  else if p.k = 3 then putL 3 ++ putL p.e ++ putL p.s
  else putL 4 ++ putL p.e ++ putL p.d.length ++ p.d
def enc (p : Pk) : List Int × Bool := if pkright p = true then (frz (kbytes p), true) else ([], false)
def PkW (p : Pk) : Prop := u8s p.d ∧ 0 ≤ p.u ∧ p.u < 4294967296
theorem strd_eq {d d' : List Int} (h : u8s d) (h' : u8s d') (e : ((strOfNums d).toList == (strOfNums d').toList) = true) : d = d' := by
  have h1 : (strOfNums d).toList = (strOfNums d').toList := by simpa using e
  rw [ByteArray.toList_eq, ByteArray.toList_eq] at h1
  have h2 : strOfNums d = strOfNums d' := by
    have : (strOfNums d).data = (strOfNums d').data := Array.toList_inj.1 h1
    cases hd : strOfNums d; cases hd' : strOfNums d'
    rw [hd, hd'] at this
    simp only at this
    rw [this]
  rw [← str_bytes d h, ← str_bytes d' h', h2]
theorem inB_iff (n a b : Int) : inB n a b = true ↔ a ≤ n ∧ n ≤ b := by
  unfold inB
  split
  · simp; omega
  · simp; omega
theorem sameB_iff {s t u : Int} {d : List Int} {s' t' u' : Int} {d' : List Int} (h : u8s d) (h' : u8s d') : sameB s t u d s' t' u' d' = true ↔ s = s' ∧ t = t' ∧ u = u' ∧ d = d' := by
  unfold sameB
  constructor
  · intro hh
    split at hh
    · split at hh
      · split at hh
        · exact ⟨by assumption, by assumption, by assumption, strd_eq h h' hh⟩
        · cases hh
      · cases hh
    · cases hh
  · rintro ⟨rfl, rfl, rfl, rfl⟩
    simp
theorem u8s_nil : u8s ([] : List Int) := fun x hx => by cases hx
/-- the four kinds -/
theorem pk_cases {p : Pk} (hw : PkW p) (h : pkright p = true) : 0 ≤ p.e ∧ p.e ≤ 1099511627776 ∧
    ((p.k = 1 ∧ 1 ≤ p.t ∧ p.t ≤ 1048576 ∧ p.s = 0 ∧ p.d = []) ∨ (p.k = 2 ∧ 0 ≤ p.s ∧ p.s ≤ 1048576 ∧ p.t = 0 ∧ p.u = 0 ∧ 1 ≤ p.d.length ∧ p.d.length ≤ 64) ∨
     (p.k = 3 ∧ 0 ≤ p.s ∧ p.s ≤ 1048576 ∧ p.t = 0 ∧ p.u = 0 ∧ p.d = []) ∨ (p.k = 4 ∧ p.s = 0 ∧ p.t = 0 ∧ p.u = 0 ∧ 1 ≤ p.d.length ∧ p.d.length ≤ 4096)) := by
  obtain ⟨k, e, s, t, u, d⟩ := p
  obtain ⟨hd, hu0, hu1⟩ := hw
  simp only at hd hu0 hu1 ⊢
  unfold pkright prB at h
  simp only at h
  by_cases k1 : k = 1
  · rw [if_pos k1] at h
    simp only [Bool.and_eq_true, inB_iff, sameB_iff hd u8s_nil] at h
    exact ⟨by omega, by omega, .inl ⟨k1, by omega, by omega, h.2.2.1, h.2.2.2.2.2⟩⟩
  rw [if_neg k1] at h
  by_cases k2 : k = 2
  · rw [if_pos k2] at h
    simp only [Bool.and_eq_true, inB_iff, sameB_iff hd hd] at h
    exact ⟨by omega, by omega, .inr (.inl ⟨k2, by omega, by omega, by omega, by omega, by omega, by omega⟩)⟩
  rw [if_neg k2] at h
  by_cases k3 : k = 3
  · rw [if_pos k3] at h
    simp only [Bool.and_eq_true, inB_iff, sameB_iff hd u8s_nil] at h
    exact ⟨by omega, by omega, .inr (.inr (.inl ⟨k3, by omega, by omega, by omega, by omega, h.2.2.2.2.2⟩))⟩
  rw [if_neg k3] at h
  by_cases k4 : k = 4
  · rw [if_pos k4] at h
    simp only [Bool.and_eq_true, inB_iff, sameB_iff hd hd] at h
    exact ⟨by omega, by omega, .inr (.inr (.inr ⟨k4, by omega, by omega, by omega, by omega, by omega⟩))⟩
  rw [if_neg k4] at h
  cases h
theorem wrap_u (n : Int) (h0 : 0 ≤ n) (h1 : n < 18446744073709551616) : IntKind.u64.wrap n = n := by rw [IntKind.wrap_u64]; omega
theorem pput (l : List Int) (n : Int) (h0 : 0 ≤ n) (h1 : n < 18446744073709551616) (hl : l.length ≤ 140737488355300) : wire_Put.f l (IntKind.u64.wrap n) = some (l ++ putL n) := by
  rw [wrap_u n h0 h1]; unfold wire_Put.f; rw [if_pos ⟨h0, h1, hl⟩]
theorem rput (l : List Int) (n : Int) (h0 : 0 ≤ n) (h1 : n < 18446744073709551616) (hl : l.length ≤ 140737488355300) : rosetteref02_Put.f l (IntKind.u64.wrap n) = some (l ++ putL n) := by
  rw [wrap_u n h0 h1]; unfold rosetteref02_Put.f; rw [if_pos ⟨h0, h1, hl⟩]
theorem ptext (l d : List Int) (hd : u8s d) (hl : l.length ≤ 100000) (hdl : d.length ≤ 5000) : wire_PutText.f l (strOfNums d) = some (l ++ putL d.length ++ d) := by
  unfold wire_PutText.f
  rw [str_size, pput l _ (by omega) (by omega) (by omega)]
  simp only [Option.bind_some]
  have := putL_len (d.length : Int)
  rw [if_pos (by rw [List.length_append]; omega), str_bytes d hd]
theorem rtext (l d : List Int) (hd : u8s d) (hl : l.length ≤ 100000) (hdl : d.length ≤ 5000) : rosetteref02_PutText.f l (strOfNums d) = some (l ++ putL d.length ++ d) := by
  unfold rosetteref02_PutText.f
  rw [str_size, rput l _ (by omega) (by omega) (by omega)]
  simp only [Option.bind_some]
  have := putL_len (d.length : Int)
  rw [if_pos (by rw [List.length_append]; omega), str_bytes d hd]
theorem kbytes_len {p : Pk} (hw : PkW p) (h : pkright p = true) : (kbytes p).length ≤ 4126 := by
  obtain ⟨_, _, hc⟩ := pk_cases hw h
  have l1 := putL_len 1; have l2 := putL_len 2; have l3 := putL_len 3; have l4 := putL_len 4
  have le := putL_len p.e; have ls := putL_len p.s; have lt := putL_len p.t; have lu := putL_len p.u; have ld := putL_len (p.d.length : Int)
  unfold kbytes
  split
  · simp only [List.length_append]; omega
  · split
    · simp only [List.length_append]; omega
    · split
      · simp only [List.length_append]; omega
      · simp only [List.length_append]; omega
theorem kbytes_u8s {p : Pk} (hw : PkW p) (h : pkright p = true) : u8s (kbytes p) := by
  obtain ⟨e0, e1, hc⟩ := pk_cases hw h
  have := hw.2.1
  have A := fun {a b : List Int} (h1 : u8s a) (h2 : u8s b) => u8s_append.2 ⟨h1, h2⟩
  have P := put_u8s
  unfold kbytes
  split
  · exact A (A (A (P _ (by decide)) (P _ e0)) (P _ (by omega))) (P _ (by omega))
  · split
    · exact A (A (A (A (P _ (by decide)) (P _ e0)) (P _ (by omega))) (P _ (by omega))) hw.1
    · split
      · exact A (A (P _ (by decide)) (P _ e0)) (P _ (by omega))
      · exact A (A (A (P _ (by decide)) (P _ e0)) (P _ (by omega))) hw.1
theorem right_rw (p : Pk) (b : Bool) (h : pkright p = b) : packet_right.f p.k p.e p.s p.t p.u p.d = some b := by rw [right_pk, h]
theorem encode_f (K : Nat) (p : Pk) (hw : PkW p) : packet_Encode.f (K + 3) p.k p.e p.s p.t p.u p.d = some (enc p) := by
  unfold packet_Encode.f enc
  cases h : pkright p with
  | false => rw [bind_of (right_rw p _ h)]; simp
  | true =>
    rw [bind_of (right_rw p _ h), if_pos rfl, if_pos rfl]
    have hM := make_some (kbytes_u8s hw h) (by have := kbytes_len hw h; omega)
    obtain ⟨e0, e1, hc⟩ := pk_cases hw h
    obtain ⟨hd, hu0, hu1⟩ := hw
    have le := putL_len p.e; have ls := putL_len p.s; have lt := putL_len p.t; have lu := putL_len p.u
    obtain ⟨k, e, s, t, u, d⟩ := p
    simp only at hd hu0 hu1 e0 e1 hc le ls lt lu ⊢
    unfold kbytes at hM
    simp only at hM
    rcases hc with ⟨rfl, t0, t1, rfl, rfl⟩ | ⟨rfl, s0, s1, rfl, rfl, d1, d2⟩ | ⟨rfl, s0, s1, rfl, rfl, rfl⟩ | ⟨rfl, rfl, rfl, rfl, d1, d2⟩
    · rw [if_pos rfl] at hM
      have l1 := putL_len 1
      rw [bind_of (pput [] 1 (by decide) (by decide) (by simp)), List.nil_append, bind_of (pput _ e e0 (by omega) (by omega)), if_pos rfl,
        bind_of (pput _ t (by omega) (by omega) (by simp only [List.length_append]; omega)), bind_of (pput _ u (by omega) (by omega) (by simp only [List.length_append]; omega))]
      simp only [packet_Encode.j0, packet_Encode.j1, packet_Encode.j2]
      rw [if_neg (by decide), if_neg (by decide), if_neg (by decide), bind_of hM]
      rfl
    · rw [if_neg (by decide), if_pos rfl] at hM
      have l1 := putL_len 2
      rw [bind_of (pput [] 2 (by decide) (by decide) (by simp)), List.nil_append, bind_of (pput _ e e0 (by omega) (by omega)), if_neg (by decide)]
      simp only [packet_Encode.j0, packet_Encode.j1, packet_Encode.j2]
      rw [if_pos trivial, if_pos trivial, bind_of (pput _ s s0 (by omega) (by simp only [List.length_append]; omega)), if_pos (by omega),
        bind_of (ptext _ d hd (by simp only [List.length_append]; omega) (by omega)), bind_of hM]
      rfl
    · rw [if_neg (by decide), if_neg (by decide), if_pos rfl] at hM
      have l1 := putL_len 3
      rw [bind_of (pput [] 3 (by decide) (by decide) (by simp)), List.nil_append, bind_of (pput _ e e0 (by omega) (by omega)), if_neg (by decide)]
      simp only [packet_Encode.j0, packet_Encode.j1, packet_Encode.j2]
      rw [if_neg (by decide), if_pos (by decide), bind_of (pput _ s s0 (by omega) (by simp only [List.length_append]; omega)), if_neg (by simp), bind_of hM]
      rfl
    · rw [if_neg (by decide), if_neg (by decide), if_neg (by decide)] at hM
      have l1 := putL_len 4
      rw [bind_of (pput [] 4 (by decide) (by decide) (by simp)), List.nil_append, bind_of (pput _ e e0 (by omega) (by omega)), if_neg (by decide)]
      simp only [packet_Encode.j0, packet_Encode.j1, packet_Encode.j2]
      rw [if_neg (by decide), if_neg (by decide), if_pos (by omega), bind_of (ptext _ d hd (by simp only [List.length_append]; omega) (by omega)), bind_of hM]
      rfl
theorem rencode_f (K : Nat) (hK : 5000 ≤ K) (p : Pk) (hw : PkW p) : rosetteref22_Encode.f K p.k p.e p.s p.t p.u p.d = some (enc p) := by
  unfold rosetteref22_Encode.f enc
  rw [bind_of (rright_pk (by omega) p)]
  cases h : pkright p with
  | false => simp
  | true =>
    rw [if_pos rfl, if_pos rfl]
    have hM := refmake_some (kbytes_u8s hw h) (by have := kbytes_len hw h; omega) K (by have := kbytes_len hw h; omega)
    obtain ⟨e0, e1, hc⟩ := pk_cases hw h
    obtain ⟨hd, hu0, hu1⟩ := hw
    have le := putL_len p.e; have ls := putL_len p.s; have lt := putL_len p.t; have lu := putL_len p.u
    obtain ⟨k, e, s, t, u, d⟩ := p
    simp only at hd hu0 hu1 e0 e1 hc le ls lt lu ⊢
    unfold kbytes at hM
    simp only at hM
    rcases hc with ⟨rfl, t0, t1, rfl, rfl⟩ | ⟨rfl, s0, s1, rfl, rfl, d1, d2⟩ | ⟨rfl, s0, s1, rfl, rfl, rfl⟩ | ⟨rfl, rfl, rfl, rfl, d1, d2⟩
    · rw [if_pos rfl] at hM
      have l1 := putL_len 1
      rw [bind_of (rput [] 1 (by decide) (by decide) (by simp)), List.nil_append, bind_of (rput _ e e0 (by omega) (by omega)), if_pos rfl,
        bind_of (rput _ t (by omega) (by omega) (by simp only [List.length_append]; omega)), bind_of (rput _ u (by omega) (by omega) (by simp only [List.length_append]; omega)), bind_of hM]
      rfl
    · rw [if_neg (by decide), if_pos rfl] at hM
      have l1 := putL_len 2
      rw [bind_of (rput [] 2 (by decide) (by decide) (by simp)), List.nil_append, bind_of (rput _ e e0 (by omega) (by omega)), if_neg (by decide), if_pos rfl,
        bind_of (rput _ s s0 (by omega) (by simp only [List.length_append]; omega)),
        bind_of (rtext _ d hd (by simp only [List.length_append]; omega) (by omega)), bind_of hM]
      rfl
    · rw [if_neg (by decide), if_neg (by decide), if_pos rfl] at hM
      have l1 := putL_len 3
      rw [bind_of (rput [] 3 (by decide) (by decide) (by simp)), List.nil_append, bind_of (rput _ e e0 (by omega) (by omega)), if_neg (by decide), if_neg (by decide), if_pos rfl,
        bind_of (rput _ s s0 (by omega) (by simp only [List.length_append]; omega)), bind_of hM]
      rfl
    · rw [if_neg (by decide), if_neg (by decide), if_neg (by decide)] at hM
      have l1 := putL_len 4
      rw [bind_of (rput [] 4 (by decide) (by decide) (by simp)), List.nil_append, bind_of (rput _ e e0 (by omega) (by omega)), if_neg (by decide), if_neg (by decide), if_neg (by decide),
        bind_of (rtext _ d hd (by simp only [List.length_append]; omega) (by omega)), bind_of hM]
      rfl
end Go.Proofs.Yticpcjjgdkbcjaa.Pure
end

section
/- packets as numbers and lists: what was laid is read, what is read was laid so -/
set_option linter.unusedVariables false
set_option linter.unusedSimpArgs false
set_option autoImplicit false
namespace Go.Proofs.Yticpcjjgdkbcjaa.Pure
open Go.RowKit Go.Proofs.Yticpcjjgdkbcjaa Go.Proofs.Yticpcjjgdkbcjaa.G Go.Proofs.YticpcjjgdkbcjaaW.PrintWords Go.Proofs.YticpcjjgdkbcjaaW.PrintLast

theorem num_err (s : Sc) (h : s.e ≠ 0) : s.num.2.e ≠ 0 := by unfold Sc.num; rw [if_neg h]; exact h
theorem upto_err (s : Sc) (m : Int) (h : s.e ≠ 0) : (s.upto m).2.e ≠ 0 := by
  have := num_err s h
  unfold Sc.upto
  rw [if_neg (fun hh => this hh.1)]
  exact this
theorem text_err (s : Sc) (m : Int) (h : s.e ≠ 0) : (s.text m).2.e ≠ 0 := by
  have := upto_err s m h
  unfold Sc.text
  rw [if_neg this]
  exact this
theorem upto_once (l : List Int) (hu : u8s l) (m : Int) (hm : 0 ≤ m ∧ m ≤ 2000000000000) (he : (Sc.upto ⟨l, 0⟩ m).2.e = 0) :
    l = putL (Sc.upto ⟨l, 0⟩ m).1 ++ (Sc.upto ⟨l, 0⟩ m).2.l ∧ 0 ≤ (Sc.upto ⟨l, 0⟩ m).1 ∧ (Sc.upto ⟨l, 0⟩ m).1 ≤ m := by
  have hn := Sc.num_lt ⟨l, 0⟩ hu
  have ho := num_once l hu
  unfold Sc.upto at he ⊢
  split at he
  · exact absurd he (fail_ne _ 4 (by decide))
  · rename_i h3
    rw [if_neg h3]
    simp only at he
    have h4 : ¬ (m < 0 ∨ m < (Sc.num ⟨l, 0⟩).1) := fun h => h3 ⟨he, h⟩
    have hw : wrap64 (Sc.num ⟨l, 0⟩).1 = (Sc.num ⟨l, 0⟩).1 := by unfold wrap64; omega
    simp only
    rw [hw]
    exact ⟨ho he, by omega, by omega⟩
theorem eta0 (s : Sc) (h : s.e = 0) : s = ⟨s.l, 0⟩ := by cases s; simp only at h; rw [h]
theorem upto_back (n : Int) (rest : List Int) (m : Int) (h0 : 0 ≤ n) (h1 : n ≤ m) (hm : m < 9223372036854775808) : Sc.upto ⟨putL n ++ rest, 0⟩ m = (n, ⟨rest, 0⟩) := by
  unfold Sc.upto
  rw [num_back n rest h0 (by omega), if_neg (by simp only; omega)]
  simp only
  rw [show wrap64 n = n by unfold wrap64; omega]
theorem pack_back {p : Pk} (hw : PkW p) (h : pkright p = true) : Sc.pack ⟨kbytes p, 0⟩ = (p, ⟨[], 0⟩) := by
  obtain ⟨e0, e1, hc⟩ := pk_cases hw h
  obtain ⟨hd, hu0, hu1⟩ := hw
  obtain ⟨k, e, s, t, u, d⟩ := p
  simp only at hd hu0 hu1 e0 e1 hc ⊢
  have K1 : ∀ (k : Int) (rest : List Int), 1 ≤ k → k ≤ 4 → Sc.k1 ⟨putL k ++ rest, 0⟩ = (k, ⟨rest, 0⟩) := by
    intro k rest h1 h2
    unfold Sc.k1
    rw [upto_back k rest 4 (by omega) h2 (by decide)]
    simp only
    rw [if_neg (by omega)]
  have E1 : ∀ (rest : List Int), Sc.upto ⟨putL e ++ rest, 0⟩ 1099511627776 = (e, ⟨rest, 0⟩) := fun rest => upto_back e rest _ e0 e1 (by decide)
  unfold Sc.pack kbytes
  simp only
  rcases hc with ⟨rfl, t0, t1, rfl, rfl⟩ | ⟨rfl, s0, s1, rfl, rfl, d1, d2⟩ | ⟨rfl, s0, s1, rfl, rfl, rfl⟩ | ⟨rfl, rfl, rfl, rfl, d1, d2⟩
  · rw [if_pos rfl, List.append_assoc, List.append_assoc, K1 1 _ (by decide) (by decide)]
    simp only
    rw [E1]
    simp only
    unfold Sc.k2
    rw [if_pos rfl, upto_back t _ _ (by omega) t1 (by decide)]
    simp only
    have := upto_back u [] 4294967295 hu0 (by omega) (by decide)
    rw [List.append_nil] at this
    rw [this]
    simp only [Prod.mk.injEq, Pk.mk.injEq, and_true, true_and]
    omega
  · rw [if_neg (by decide), if_pos rfl, List.append_assoc, List.append_assoc, List.append_assoc, K1 2 _ (by decide) (by decide)]
    simp only
    rw [E1]
    simp only
    unfold Sc.k2
    rw [if_neg (by decide), if_pos rfl, upto_back s _ _ s0 s1 (by decide)]
    simp only
    have := text_back d [] 64 (by omega) (by omega)
    rw [List.append_nil] at this
    rw [this]
  · rw [if_neg (by decide), if_neg (by decide), if_pos rfl, List.append_assoc, K1 3 _ (by decide) (by decide)]
    simp only
    rw [E1]
    simp only
    unfold Sc.k2
    rw [if_neg (by decide), if_neg (by decide), if_pos rfl]
    have := upto_back s [] 1048576 s0 s1 (by decide)
    rw [List.append_nil] at this
    rw [this]
  · rw [if_neg (by decide), if_neg (by decide), if_neg (by decide), List.append_assoc, List.append_assoc, K1 4 _ (by decide) (by decide)]
    simp only
    rw [E1]
    simp only
    unfold Sc.k2
    rw [if_neg (by decide), if_neg (by decide), if_neg (by decide), if_pos rfl]
    have := text_back d [] 4096 (by omega) (by omega)
    rw [List.append_nil] at this
    rw [this]
theorem kb1 (e s t u : Int) (d : List Int) : kbytes ⟨1, e, s, t, u, d⟩ = putL 1 ++ putL e ++ putL t ++ putL u := rfl
theorem kb2 (e s t u : Int) (d : List Int) : kbytes ⟨2, e, s, t, u, d⟩ = putL 2 ++ putL e ++ putL s ++ putL d.length ++ d := rfl
theorem kb3 (e s t u : Int) (d : List Int) : kbytes ⟨3, e, s, t, u, d⟩ = putL 3 ++ putL e ++ putL s := rfl
theorem kb4 (e s t u : Int) (d : List Int) : kbytes ⟨4, e, s, t, u, d⟩ = putL 4 ++ putL e ++ putL d.length ++ d := rfl
theorem k2_err (k e : Int) (s : Sc) (h : s.e ≠ 0) : (Sc.k2 k e s).2.e ≠ 0 := by
  unfold Sc.k2
  split
  · exact upto_err _ _ (upto_err _ _ h)
  · split
    · exact text_err _ _ (upto_err _ _ h)
    · split
      · exact upto_err _ _ h
      · split
        · exact text_err _ _ h
        · exact h
theorem pack_W (l : List Int) (hu : u8s l) : PkW (Sc.pack ⟨l, 0⟩).1 := by
  have h1 : u8s (Sc.k1 ⟨l, 0⟩).2.l := by
    unfold Sc.k1
    simp only
    split
    · exact fail_u8s _ _ (upto_u8s _ _ hu)
    · exact upto_u8s _ _ hu
  have h2 := upto_u8s _ 1099511627776 h1
  unfold Sc.pack Sc.k2 PkW
  split
  · exact ⟨u8s_nil, by simp only; omega, by simp only; omega⟩
  · split
    · exact ⟨text_u8s _ _ (upto_u8s _ _ h2), by simp only; omega, by simp only; omega⟩
    · split
      · exact ⟨u8s_nil, by simp only; omega, by simp only; omega⟩
      · split
        · exact ⟨text_u8s _ _ h2, by simp only; omega, by simp only; omega⟩
        · exact ⟨u8s_nil, by simp only; omega, by simp only; omega⟩
theorem end_zero {s : Sc} (h : s.endE = 0) : s.e = 0 ∧ s.l = [] := by
  unfold Sc.endE at h
  split at h
  · cases h
  · rename_i hh
    refine ⟨h, ?_⟩
    cases hl : s.l with
    | nil => rfl
    | cons a b => exact absurd ⟨h, by rw [hl]; simp⟩ hh
theorem pack_once (l : List Int) (hu : u8s l) (he : (Sc.pack ⟨l, 0⟩).2.endE = 0) (hr : pkright (Sc.pack ⟨l, 0⟩).1 = true) : l = kbytes (Sc.pack ⟨l, 0⟩).1 := by
  obtain ⟨h0, hl0⟩ := end_zero he
  obtain ⟨eb0, eb1, hc⟩ := pk_cases (pack_W l hu) hr
  obtain ⟨a, ha⟩ : ∃ a, Sc.k1 ⟨l, 0⟩ = a := ⟨_, rfl⟩
  obtain ⟨b, hb⟩ : ∃ b, a.2.upto 1099511627776 = b := ⟨_, rfl⟩
  have hP : Sc.pack ⟨l, 0⟩ = Sc.k2 a.1 b.1 b.2 := by unfold Sc.pack; rw [ha, hb]
  rw [hP] at h0 hl0 hr hc ⊢
  have b0 : b.2.e = 0 := Classical.byContradiction fun h => k2_err a.1 b.1 b.2 h h0
  have a0 : a.2.e = 0 := Classical.byContradiction fun h => by have := upto_err a.2 1099511627776 h; rw [hb] at this; exact this b0
  obtain ⟨c, hcc⟩ : ∃ c, Sc.upto ⟨l, 0⟩ 4 = c := ⟨_, rfl⟩
  have hk1 : a = (c.1, if c.1 = 0 then c.2.fail 3 else c.2) := by rw [← ha]; unfold Sc.k1; rw [hcc]
  have hc1 : c.1 ≠ 0 ∧ a.2 = c.2 ∧ a.1 = c.1 := by
    rw [hk1] at a0
    simp only at a0
    by_cases hz : c.1 = 0
    · rw [if_pos hz] at a0; exact absurd a0 (fail_ne _ 3 (by decide))
    · exact ⟨hz, by rw [hk1]; exact if_neg hz, by rw [hk1]⟩
  have o1 := upto_once l hu 4 (by decide) (by rw [hcc, ← hc1.2.1]; exact a0)
  rw [hcc, ← hc1.2.1, ← hc1.2.2] at o1
  have u1 : u8s a.2.l := u8s_right (by rw [← o1.1]; exact hu)
  have o2 := upto_once a.2.l u1 1099511627776 (by decide) (by rw [← eta0 _ a0, hb]; exact b0)
  rw [← eta0 _ a0, hb] at o2
  have u2 : u8s b.2.l := u8s_right (by rw [← o2.1]; exact u1)
  have hl : l = putL a.1 ++ (putL b.1 ++ b.2.l) := by rw [← o2.1]; exact o1.1
  have eb := eta0 _ b0
  clear hP ha hb hcc hk1 hc1 o1 o2 he a0
  obtain ⟨ak, aS⟩ := a
  obtain ⟨be, bs⟩ := b
  simp only at *
  generalize bs.l = L at u2 hl eb
  subst eb
  unfold Sc.k2 at h0 hl0 hc ⊢
  by_cases k1 : ak = 1
  · subst k1
    rw [if_pos rfl] at h0 hl0 hc ⊢
    have e1 : (Sc.upto ⟨L, 0⟩ 1048576).2.e = 0 := Classical.byContradiction fun h => upto_err _ _ h h0
    have o3 := upto_once L u2 1048576 (by decide) e1
    have es := eta0 _ e1
    generalize Sc.upto ⟨L, 0⟩ 1048576 = q at *
    obtain ⟨qt, qs⟩ := q
    simp only at *
    generalize qs.l = M at o3 es
    subst es
    have u3 : u8s M := u8s_right (by rw [← o3.1]; exact u2)
    have o4 := upto_once M u3 4294967295 (by decide) h0
    rw [hl0, List.append_nil] at o4
    simp only [kb1]
    rw [show (Sc.upto ⟨M, 0⟩ 4294967295).1 % 4294967296 = (Sc.upto ⟨M, 0⟩ 4294967295).1 by omega, ← o4.1, List.append_assoc, List.append_assoc, ← o3.1]
    exact hl
  · rw [if_neg k1] at h0 hl0 hc ⊢
    by_cases k2 : ak = 2
    · subst k2
      rw [if_pos rfl] at h0 hl0 hc ⊢
      have e1 : (Sc.upto ⟨L, 0⟩ 1048576).2.e = 0 := Classical.byContradiction fun h => text_err _ _ h h0
      have o3 := upto_once L u2 1048576 (by decide) e1
      have es := eta0 _ e1
      generalize Sc.upto ⟨L, 0⟩ 1048576 = q at *
      obtain ⟨qt, qs⟩ := q
      simp only at *
      generalize qs.l = M at o3 es
      subst es
      have u3 : u8s M := u8s_right (by rw [← o3.1]; exact u2)
      have o4 := text_once M u3 64 (by decide) h0
      rw [hl0, List.append_nil] at o4
      simp only [kb2]
      rw [List.append_assoc, List.append_assoc, List.append_assoc, ← o4.1, ← o3.1]
      exact hl
    · rw [if_neg k2] at h0 hl0 hc ⊢
      by_cases k3 : ak = 3
      · subst k3
        rw [if_pos rfl] at h0 hl0 hc ⊢
        have o3 := upto_once L u2 1048576 (by decide) h0
        rw [hl0, List.append_nil] at o3
        simp only [kb3]
        rw [List.append_assoc, ← o3.1]
        exact hl
      · rw [if_neg k3] at h0 hl0 hc ⊢
        by_cases k4 : ak = 4
        · subst k4
          rw [if_pos rfl] at h0 hl0 hc ⊢
          have o3 := text_once L u2 4096 (by decide) h0
          rw [hl0, List.append_nil] at o3
          simp only [kb4]
          rw [List.append_assoc, List.append_assoc, ← o3.1]
          exact hl
        · rw [if_neg k4] at hc
          simp only at hc
          omega
theorem opened_true {o : Option (List Nat)} {h : List Int} (ho : opened o = (h, true)) : ∃ y, o = some y ∧ h = zof y := by
  cases o with
  | none => cases ho
  | some y => exact ⟨y, rfl, (Prod.mk.inj ho).1.symm⟩
/-- a frame that is found was laid so -/
theorem next_all {l : List Int} (hu : u8s l) (hl : l.length ≤ 1000000) : ∃ x n er, frame_Next.f l = some (x, n, er) ∧ u8s x ∧ x.length ≤ 9000 ∧
    (er = 0 → n = x.length + 10 ∧ n ≤ l.length ∧ l.take n.toNat = frz x) := by
  unfold frame_Next.f
  by_cases h6 : l.length < 6
  · rw [if_pos h6]; exact ⟨_, _, _, rfl, u8s_nil, by simp, fun h => by cases h⟩
  rw [if_neg h6, open_some' (u8s_take hu 6) (by simp; omega)]
  obtain ⟨⟨h, ok⟩, hop⟩ : ∃ p, opened (CrcM.openB (nats (l.take 6))) = p := ⟨_, rfl⟩
  rw [hop]
  simp only [Option.bind_some]
  cases ok with
  | false => exact ⟨_, _, _, if_pos rfl, u8s_nil, by simp, fun h => by cases h⟩
  | true =>
    obtain ⟨y, ho, rfl⟩ := opened_true hop
    have hs := CrcM.open_some _ _ ho
    have hy : CrcM.Bytes y := fun c hc => u8s_nats (u8s_take hu 6) c (by rw [← hs]; exact List.mem_append_left _ hc)
    have hyl : y.length = 2 := by
      have := congrArg List.length hs
      rw [CrcM.sealB_length, nats_length, List.length_take] at this
      omega
    rw [if_neg (by decide), if_pos ⟨by rw [zof_length]; exact hyl, u8s_zof hy⟩]
    obtain ⟨a, b, rfl⟩ : ∃ a b, y = [a, b] := by
      match y, hyl with
      | [a, b], _ => exact ⟨a, b, rfl⟩
    have ha := hy a (by simp)
    have hb := hy b (by simp)
    rw [show rd (zof [a, b]) 0 = (a : Int) from rfl, show rd (zof [a, b]) 1 = (b : Int) from rfl]
    by_cases hbig : (a : Int) + 256 * b > 8192
    · rw [if_pos hbig]; exact ⟨_, _, _, rfl, u8s_nil, by simp, fun h => by cases h⟩
    rw [if_neg hbig]
    by_cases hsh : (l.length : Int) < (a : Int) + 256 * b + 10
    · rw [if_pos hsh]; exact ⟨_, _, _, rfl, u8s_nil, by simp, fun h => by cases h⟩
    rw [if_neg hsh, open_some' (u8s_drop (u8s_take hu _) 6) (by simp; omega)]
    obtain ⟨m, hm⟩ : ∃ m : Nat, m = a + 256 * b := ⟨_, rfl⟩
    have hmi : ((a : Int) + 256 * b + 10).toNat = m + 10 := by omega
    rw [hmi]
    obtain ⟨⟨x, ok2⟩, hop2⟩ : ∃ p, opened (CrcM.openB (nats ((l.take (m + 10)).drop 6))) = p := ⟨_, rfl⟩
    rw [hop2]
    simp only [Option.bind_some]
    cases ok2 with
    | false => exact ⟨_, _, _, if_pos rfl, u8s_nil, by simp, fun h => by cases h⟩
    | true =>
      obtain ⟨z, ho2, rfl⟩ := opened_true hop2
      have hs2 := CrcM.open_some _ _ ho2
      have hz : CrcM.Bytes z := fun c hc => u8s_nats (u8s_drop (u8s_take hu _) 6) c (by rw [← hs2]; exact List.mem_append_left _ hc)
      have hzl : z.length = m := by
        have := congrArg List.length hs2
        rw [CrcM.sealB_length, nats_length, List.length_drop, List.length_take] at this
        omega
      refine ⟨_, _, _, if_neg (by decide), u8s_zof hz, by rw [zof_length]; omega, fun _ => ⟨by rw [zof_length]; omega, by omega, ?_⟩⟩
      rw [hmi]
      have q1 : l.take 6 = zof (CrcM.sealB [a, b]) := by rw [hs, zof_nats (u8s_take hu 6)]
      have q2 : (l.take (m + 10)).drop 6 = zof (CrcM.sealB z) := by rw [hs2, zof_nats (u8s_drop (u8s_take hu _) 6)]
      have q3 : l.take (m + 10) = l.take 6 ++ (l.take (m + 10)).drop 6 := by
        have := List.take_append_drop 6 (l.take (m + 10))
        rw [List.take_take, show min 6 (m + 10) = 6 by omega] at this
        exact this.symm
      rw [q3, q1, q2]
      unfold frz CrcM.fr
      rw [nats_zof, hzl, show m % 256 = a by omega, show m / 256 = b by omega, zof_append]
theorem dec_err (len : Nat) (x : List Int) (n er : Int) (h : (dec len x n er).2 ≠ 0) : (dec len x n er).1 = pk0 := by
  unfold dec at h ⊢
  split
  · rfl
  · split
    · rfl
    · split
      · rfl
      · split
        · rename_i h1 h2 h3 h4
          rw [if_neg h1, if_neg h2, if_neg h3, if_pos h4] at h
          exact absurd rfl h
        · rfl
theorem pk0_W : PkW pk0 := ⟨u8s_nil, by decide, by decide⟩
theorem dec_W (len : Nat) (x : List Int) (hx : u8s x) (n er : Int) : PkW (dec len x n er).1 := by
  unfold dec
  split
  · exact pk0_W
  · split
    · exact pk0_W
    · split
      · exact pk0_W
      · split
        · exact pack_W x hx
        · exact pk0_W
/-- what is decoded -/
theorem decode_some {l : List Int} (hu : u8s l) (hl : l.length ≤ 1000000) : ∃ p er, packet_Decode.f l = some (Pk.r p er) ∧ PkW p ∧ (er ≠ 0 → p = pk0) ∧ (er = 0 → pkright p = true ∧ l = frz (kbytes p)) := by
  obtain ⟨x, n, er, hn, hx, hxl, h0⟩ := next_all hu hl
  refine ⟨(dec l.length x n er).1, (dec l.length x n er).2, ?_, dec_W _ _ hx _ _, dec_err _ _ _ _, fun hz => ?_⟩
  · unfold packet_Decode.f
    rw [bind_of hn]
    simp only
    rw [if_pos ⟨hx, by omega⟩]
  · unfold dec at hz ⊢
    by_cases e1 : er ≠ 0
    · rw [if_pos e1] at hz; exact absurd hz e1
    rw [if_neg e1] at hz ⊢
    obtain ⟨n1, n2, n3⟩ := h0 (by omega)
    by_cases e2 : n < (l.length : Int)
    · rw [if_pos e2] at hz; cases hz
    rw [if_neg e2] at hz ⊢
    by_cases e3 : (Sc.pack ⟨x, 0⟩).2.endE ≠ 0
    · rw [if_pos e3] at hz; exact absurd hz e3
    rw [if_neg e3] at hz ⊢
    by_cases e4 : pkright (Sc.pack ⟨x, 0⟩).1 = true
    · rw [if_pos e4]
      refine ⟨e4, ?_⟩
      simp only
      rw [← pack_once x hx (by omega) e4, ← n3]
      exact (List.take_of_length_le (by omega)).symm
    · rw [if_neg e4] at hz; cases hz
theorem decode_of {l x : List Int} {n er : Int} (hn : frame_Next.f l = some (x, n, er)) (hx : u8s x) (hxl : x.length ≤ 9000) : packet_Decode.f l = some ((dec l.length x n er).1.r (dec l.length x n er).2) := by
  unfold packet_Decode.f
  rw [bind_of hn]
  simp only
  rw [if_pos ⟨hx, by omega⟩]
theorem decode_frz {p : Pk} (hw : PkW p) (h : pkright p = true) : packet_Decode.f (frz (kbytes p)) = some (p.r 0) := by
  have hk := kbytes_u8s hw h
  have hl := kbytes_len hw h
  have hn := next_frame hk (by omega) []
  rw [List.append_nil] at hn
  rw [decode_of hn hk (by omega)]
  unfold dec
  rw [if_neg (by decide), if_neg (by rw [frz_length]; omega), pack_back hw h]
  simp only
  rw [if_neg (by simp [Sc.endE]), if_pos h]
theorem decode_bad {l : List Int} {er : Int} (hn : frame_Next.f l = some ([], 0, er)) (he : er ≠ 0) : packet_Decode.f l = some (pk0.r er) := by
  rw [decode_of hn u8s_nil (by simp)]
  unfold dec
  rw [if_pos he]
theorem rdecode_eq {l : List Int} (hu : u8s l) (hl : l.length ≤ 1000000) (K : Nat) (hK : l.length + 12 ≤ K) : rosetteref22_Decode.f K l = packet_Decode.f l := by
  unfold rosetteref22_Decode.f packet_Decode.f
  rw [refnext_eq hu hl K hK]
theorem enc_true {p : Pk} (h : pkright p = true) : enc p = (frz (kbytes p), true) := if_pos h
theorem enc_false {p : Pk} (h : pkright p = false) : enc p = ([], false) := by unfold enc; rw [h]; rfl
theorem same_self (p : Pk) : rosetteref22_Same.f p.k p.e p.s p.t p.u p.d p.k p.e p.s p.t p.u p.d = some true := by
  unfold rosetteref22_Same.f
  simp
theorem next_fewL {l : List Int} (hu : u8s l) (hl : l.length ≤ 4126) (p q r : Nat) (hp : p < 8 * (l.length + 10)) (hq : q < 8 * (l.length + 10)) (hr : r < 8 * (l.length + 10)) :
    frame_Next.f (zof (CrcM.flips (nats (frz l)) (CrcM.places p q r))) = some ([], 0, 6) := by
  have hin := CrcM.places_in _ p q r hp hq hr
  have hnd := CrcM.places_nodup p q r
  have hln := CrcM.places_length p q r
  refine next_turned hu (by omega) _ hin (by unfold CrcM.places; simp) ?_ ?_
  · exact CrcM.nodup_tells CrcM.dist_L 48 (by decide) _ (CrcM.lows_nodup _ _ hnd) (Nat.le_trans (CrcM.lows_few _ _) hln) (CrcM.lows_lt _ _)
  · exact CrcM.nodup_tells CrcM.dist_L _ (by omega) _ (CrcM.highs_nodup _ _ hnd) (Nat.le_trans (CrcM.highs_few _ _) hln) (CrcM.highs_lt 48 _ _ (fun z hz => by have := hin z hz; omega))
end Go.Proofs.Yticpcjjgdkbcjaa.Pure
end

section
namespace Go.Proofs.Yticpcjjgdkbcjaa.Pure
open Go.RowKit Go.Proofs.Yticpcjjgdkbcjaa.G Go.Proofs.YticpcjjgdkbcjaaW.PrintWords Go.Proofs.YticpcjjgdkbcjaaW.PrintLast

/-- one bit of one byte turned, as the code does it -/
theorem flip_step {x : List Int} (hx : u8s x) (p : Nat) (hp : p < 8 * x.length) (h63 : p < 9223372036854775808) :
    x.set (wrap64 (Int.tdiv (p : Int) 8)).toNat (Go.bits .xor .u8 (rd x (wrap64 (Int.tdiv (p : Int) 8))) (shl .u8 1 (IntKind.u64.wrap (Int.tmod (p : Int) 8)))) = zof (CrcM.flip (nats x) p) := by
  have e1 : wrap64 (Int.tdiv (p : Int) 8) = ((p / 8 : Nat) : Int) := by
    rw [Int.tdiv_eq_ediv_of_nonneg (by omega)]
    rw [wrap_small _ (by omega) (by omega)]
    omega
  have e2 : IntKind.u64.wrap (Int.tmod (p : Int) 8) = ((p % 8 : Nat) : Int) := by
    rw [Int.tmod_eq_emod_of_nonneg (by omega), IntKind.wrap_u64]
    omega
  have e3 : shl .u8 1 ((p % 8 : Nat) : Int) = ((2 ^ (p % 8) : Nat) : Int) := by
    have h8 : p % 8 < 8 := by omega
    generalize p % 8 = j at h8
    show IntKind.u8.wrap (1 * 2 ^ min (j : Int).toNat 8) = _
    rw [IntKind.wrap_u8, Int.toNat_natCast, Nat.min_eq_left (by omega), Int.one_mul]
    match j, h8 with
    | 0, _ => rfl
    | 1, _ => rfl
    | 2, _ => rfl
    | 3, _ => rfl
    | 4, _ => rfl
    | 5, _ => rfl
    | 6, _ => rfl
    | 7, _ => rfl
  have hlt : p / 8 < x.length := by omega
  obtain ⟨h0, h1⟩ := rd_u8 hx (p / 8) hlt
  obtain ⟨c, hc⟩ := Int.eq_ofNat_of_zero_le h0
  have hc' : x[p / 8] = (c : Int) := by rw [← hc]; simp only [rd, Int.toNat_natCast, List.getD_eq_getElem?_getD, List.getElem?_eq_getElem hlt, Option.getD_some]
  rw [e1, e2, e3, Int.toNat_natCast, hc, u8_xor_nat _ _ (by omega) (CrcM.pow_lt p)]
  unfold CrcM.flip
  have e4 : (nats x).getD (p / 8) 0 = c := by simp [nats, List.getD_eq_getElem?_getD, hlt, hc']
  rw [e4]
  apply List.ext_getElem
  · simp [zof, nats]
  · intro i hi1 hi2
    have hi : i < x.length := by simpa using hi1
    simp only [zof, nats, List.getElem_map, List.getElem_set]
    split
    · rfl
    · have := hx x[i] (List.getElem_mem hi)
      omega
theorem flip_u8s {x : List Int} (hx : u8s x) (p : Nat) : u8s (zof (CrcM.flip (nats x) p)) := u8s_zof (CrcM.flip_bytes _ _ (u8s_nats hx))
theorem flip_len (x : List Int) (p : Nat) : (zof (CrcM.flip (nats x) p)).length = x.length := by rw [zof_length, CrcM.flip_length, nats_length]
/-- the place of the byte lies in the row -/
theorem flip_at (p n : Nat) (hp : p < 8 * n) (h63 : p < 9223372036854775808) : 0 ≤ wrap64 (Int.tdiv (p : Int) 8) ∧ wrap64 (Int.tdiv (p : Int) 8) < (n : Int) := by
  rw [Int.tdiv_eq_ediv_of_nonneg (by omega), wrap_small _ (by omega) (by omega)]
  omega
theorem flip_by (p : Nat) (_h63 : p < 9223372036854775808) : 0 ≤ IntKind.u64.wrap (Int.tmod (p : Int) 8) := by
  rw [IntKind.wrap_u64]; omega
end Go.Proofs.Yticpcjjgdkbcjaa.Pure
end

section
/- The statement PacketTurned over numbers and lists: a packet of which one, two or three bits are turned is refused. -/
namespace Go.Proofs.Yticpcjjgdkbcjaa.Pure
open Go.RowKit Go.Proofs.Yticpcjjgdkbcjaa Go.Proofs.Yticpcjjgdkbcjaa.G Go.Proofs.YticpcjjgdkbcjaaW.PrintWords Go.Proofs.YticpcjjgdkbcjaaW.PrintLast

theorem u32_wf {n : Int} (h : (Lit.int .u32 n).wf = true) : 0 ≤ n ∧ n < 4294967296 := by
  have := Go.bounds_u32 h
  omega
theorem told {X : List Int} (H : frame_Next.f X = some ([], 0, 6)) : ((packet_Decode.f X).bind fun bt => if true = true then (if bt.2.2.2.2.2.2 = 6 then ((rosetteref22_Same.f bt.1 bt.2.1 bt.2.2.1 bt.2.2.2.1 bt.2.2.2.2.1 bt.2.2.2.2.2.1 0 0 0 0 0 ([] : List Int)).bind fun t341 => (some t341)) else (some false)) else (some false)) = some true := by
  refine (bind_of (decode_bad H (by decide))).trans ?_
  simp only [Pk.r]
  rw [if_pos trivial, if_pos trivial]
  exact bind_of (same_self pk0)
theorem j2_no {X : List Int} (H : frame_Next.f X = some ([], 0, 6)) (k : Nat) (r : Int) : rosettelaw22_PacketTurned.j2 (k + 1) r true X false = some true := by
  simp only [rosettelaw22_PacketTurned.j2]
  rw [if_neg (by decide)]
  exact told H
theorem PacketTurned : rosettelaw22_PacketTurned.Pure := by
  intro p_ a1 a2 a3 hp _ _ _
  obtain ⟨_, _, _, _, hu_, _, hd⟩ := hp
  have hw : PkW ⟨p_.f0, p_.f1, p_.f2, p_.f3, p_.f4, p_.f5⟩ := ⟨u8s_wf hd, (u32_wf hu_).1, (u32_wf hu_).2⟩
  refine ⟨6, ?_⟩
  unfold rosettelaw22_PacketTurned.f rosettelaw22_small.f
  refine (bind_of rfl).trans ?_
  refine (bind_of (encode_f 3 ⟨p_.f0, p_.f1, p_.f2, p_.f3, p_.f4, p_.f5⟩ hw)).trans ?_
  have J : ∀ t, rosettelaw22_PacketTurned.j0 6 a1 a2 a3 true t true = some true := fun t => by simp [rosettelaw22_PacketTurned.j0]
  by_cases c1 : (p_.f5.length : Int) > 5000
  · rw [if_pos c1]; exact J _
  rw [if_neg c1]
  cases hr_ : pkright ⟨p_.f0, p_.f1, p_.f2, p_.f3, p_.f4, p_.f5⟩ with
  | false =>
    rw [enc_false hr_]
    refine (if_neg (by decide)).trans ?_
    exact J _
  | true =>
  rw [enc_true hr_]
  refine (if_pos rfl).trans ?_
  have hk := kbytes_u8s hw hr_
  have hkl := kbytes_len hw hr_
  obtain ⟨l0, hl0⟩ : ∃ l, kbytes ⟨p_.f0, p_.f1, p_.f2, p_.f3, p_.f4, p_.f5⟩ = l := ⟨_, rfl⟩
  rw [hl0] at hk hkl ⊢
  have hu := hk
  have hs : u8s (frz l0) := frz_u8s hu (by omega)
  have hsl : (frz l0).length = l0.length + 10 := frz_length l0
  simp only
  rw [hsl, wrap_small _ (by omega) (by omega)]
  by_cases h1 : a1 < 0
  · rw [if_pos h1]; exact J _
  rw [if_neg h1]
  by_cases h2 : a1 ≥ 8 * ((l0.length + 10 : Nat) : Int)
  · rw [if_pos h2]; exact J _
  rw [if_neg h2]
  by_cases h3 : a2 < 0
  · rw [if_pos h3]; exact J _
  rw [if_neg h3]
  by_cases h4 : a2 ≥ 8 * ((l0.length + 10 : Nat) : Int)
  · rw [if_pos h4]; exact J _
  rw [if_neg h4]
  by_cases h5 : a3 < 0
  · rw [if_pos h5]; exact J _
  rw [if_neg h5]
  by_cases h6 : a3 ≥ 8 * ((l0.length + 10 : Nat) : Int)
  · rw [decide_eq_true h6]; exact J _
  rw [decide_eq_false h6]
  obtain ⟨p, rfl⟩ := Int.eq_ofNat_of_zero_le (show 0 ≤ a1 by omega)
  obtain ⟨q, rfl⟩ := Int.eq_ofNat_of_zero_le (show 0 ≤ a2 by omega)
  obtain ⟨r, rfl⟩ := Int.eq_ofNat_of_zero_le (show 0 ≤ a3 by omega)
  have hp : p < 8 * (l0.length + 10) := by omega
  have hq : q < 8 * (l0.length + 10) := by omega
  have hr : r < 8 * (l0.length + 10) := by omega
  have H := next_fewL hu (by omega) p q r hp hq hr
  have A := fun z (hz : z < 8 * (l0.length + 10)) => flip_at z (l0.length + 10) hz (by omega)
  have B := fun z (hz : z < 8 * (l0.length + 10)) => flip_by z (by omega)
  have F := fun (x : List Int) (hx : u8s x) (hxl : x.length = l0.length + 10) z (hz : z < 8 * (l0.length + 10)) => flip_step hx z (by omega) (by omega)
  have L := fun (x : List Int) (hxl : x.length = l0.length + 10) z => (flip_len x z).trans hxl
  simp only [rosettelaw22_PacketTurned.j0]
  rw [if_neg (by decide), hsl, if_pos (A p hp).1, if_pos (A p hp).2, if_pos (B p hp), F _ hs hsl p hp]
  simp only [Option.bind_some]
  have s1 := flip_u8s hs p
  have l1 := L _ hsl p
  unfold CrcM.places CrcM.flips at H
  by_cases e1 : (q : Int) = (p : Int)
  · have e1' : q = p := by omega
    subst e1'
    rw [if_pos rfl]
    by_cases e2 : (r : Int) = (q : Int)
    · have e2' : r = q := by omega
      subst e2'
      simp only [rosettelaw22_PacketTurned.j1]
      rw [if_pos trivial]
      simp only [ne_eq, not_true_eq_false, if_false, false_and, List.append_nil, List.foldl] at H
      exact j2_no H _ _
    · have e2' : r ≠ q := by omega
      simp only [rosettelaw22_PacketTurned.j1]
      rw [if_neg e2, show ((r : Int) != (q : Int)) = true from bne_iff_ne.mpr e2]
      simp only [rosettelaw22_PacketTurned.j2]
      rw [if_pos trivial, if_pos (A r hr).1, l1, if_pos (A r hr).2, if_pos (B r hr)]
      have f2 := F _ s1 l1 r hr
      rw [nats_zof] at f2
      rw [f2]
      simp only [ne_eq, not_true_eq_false, if_false, e2', not_false_eq_true, and_self, if_true, List.nil_append, List.foldl] at H
      exact told H
  · have e1' : q ≠ p := by omega
    rw [if_neg e1, if_pos (A q hq).1, if_pos (A q hq).2, if_pos (B q hq)]
    have f2 := F _ s1 l1 q hq
    rw [nats_zof] at f2
    rw [f2]
    have s2 := flip_u8s s1 q
    have l2 := L _ l1 q
    rw [nats_zof] at s2 l2
    simp only [rosettelaw22_PacketTurned.j1]
    by_cases e2 : (r : Int) = (p : Int)
    · have e2' : r = p := by omega
      subst e2'
      rw [if_pos rfl]
      simp only [ne_eq, e1', not_false_eq_true, if_true, not_true_eq_false, false_and, if_false, List.append_nil, List.foldl] at H
      exact j2_no H _ _
    · rw [if_neg e2]
      have e2' : r ≠ p := by omega
      by_cases e3 : (r : Int) = (q : Int)
      · have e3' : r = q := by omega
        subst e3'
        rw [show ((r : Int) != (r : Int)) = false by simp]
        simp only [ne_eq, e1', not_false_eq_true, if_true, not_true_eq_false, and_false, if_false, List.append_nil, List.foldl] at H
        exact j2_no H _ _
      · have e3' : r ≠ q := by omega
        rw [show ((r : Int) != (q : Int)) = true from bne_iff_ne.mpr e3]
        simp only [rosettelaw22_PacketTurned.j2]
        rw [if_pos trivial, if_pos (A r hr).1, l2, if_pos (A r hr).2, if_pos (B r hr)]
        have f3 := F _ s2 l2 r hr
        rw [nats_zof] at f3
        rw [f3]
        simp only [ne_eq, e1', e2', e3', not_false_eq_true, if_true, and_self, List.cons_append, List.nil_append, List.foldl] at H
        exact told H
end Go.Proofs.Yticpcjjgdkbcjaa.Pure
end

section
/- What comes in, opened kind by kind: a datum that is read whole reads as a list, a structure, a number; and no slice and no text of it is longer than the form's reach. -/
set_option linter.unusedVariables false
set_option linter.unusedSimpArgs false
set_option autoImplicit false
namespace Go.Proofs.Yticpcjjgdkbcjaa.Op
open Go.RowKit Go.Deep Go.ChangeShapes Go.WideShapes Go.Proofs.YticpcjjgdkbcjaaW.PrintWords

section
variable {H α β : Type} (enc : TypeId × Value → H) (P : Program) (W : World)
/-- no part of a datum is longer than the reach -/
def Lite (P : Program) (t : TypeId) (d : DataW H) : Prop := ∀ n ∈ d.weights P t, n ≤ 140737488351232
/-- whatever is read at type t, and is no longer than the reach, is of the kind d, and good -/
def Opens (t : TypeId) (d : Kd α) (good : α → Prop) : Prop :=
  ∀ fuel (cs : List Value) x, DataW.trod enc P W 0 (fun _ => true) true fuel t cs = some x → Lite P t x.1 → ∃ a, d.K W a cs ∧ good a
def OpensF (fs : List Field) (o : Nat) (d : Kd α) (good : α → Prop) : Prop :=
  ∀ fuel (cs : List Value) xs, (fs.mapM fun f => DataW.trod enc P W 0 (fun _ => true) true fuel f.type ((cs.drop f.offset).take (P.cellsOf f.type))) = some xs → (∀ n ∈ DataW.weightsEach P (fs.map (·.type)) (xs.map (·.1)), n ≤ 140737488351232) → cs.length = o + d.sz → ∃ a, d.K W a (cs.drop o) ∧ good a
variable {enc P W}
theorem opens_int {t : TypeId} {k : IntKind} (ht : P.underlying t = some (.int k)) : Opens enc P W t (Kd.int k) (fun n => (Lit.int k n).wf = true) := by
  intro fuel cs x h _
  obtain ⟨n, h1, _, h2⟩ := DataW.trod_int ht h
  exact ⟨n, h1, h2⟩
theorem opens_bool {t : TypeId} (ht : P.underlying t = some .bool) : Opens enc P W t Kd.bool (fun _ => True) := by
  intro fuel cs x h _
  obtain ⟨n, h1, _⟩ := DataW.trod_bool ht h
  exact ⟨n, h1, trivial⟩
theorem opens_str {t : TypeId} (ht : P.underlying t = some .string) : Opens enc P W t Kd.string (fun s => s.size ≤ 140737488351232) := by
  intro fuel cs x h hl
  obtain ⟨s, h1, h2, _⟩ := DataW.trod_string ht h
  refine ⟨s, h1, ?_⟩
  rw [h2] at hl
  have := hl s.data.toList.length (by simp [DataW.weights])
  rw [Array.length_toList] at this
  exact this
theorem weightsAll_mem {e : TypeId} : ∀ {ds : List (DataW H)} {d : DataW H}, d ∈ ds → ∀ n ∈ d.weights P e, n ∈ DataW.weightsAll P e ds := by
  intro ds
  induction ds with
  | nil => intro d h; cases h
  | cons y ys ih =>
    intro d h n hn
    rw [DataW.weightsAll]
    rcases List.mem_cons.1 h with rfl | h
    · exact List.mem_append_left _ hn
    · exact List.mem_append_right _ (ih h n hn)
theorem opens_slice {t e : TypeId} {d : Kd α} {good : α → Prop} {B : Nat} (ht : P.underlying t = some (.slice e)) (hs : P.cellsOf e = d.sz) (hB : P.bytesOf e = B) (h : Opens enc P W e d good) :
    Opens enc P W t (Kd.slice e d) (fun xs => (xs.length ≤ maxLen ∧ xs.length * B ≤ 140737488351232) ∧ ∀ x ∈ xs, good x) := by
  intro fuel cs x hx hw
  rcases open_slice ht hx with ⟨rfl, _⟩ | ⟨a, len, cap, m, n, D, Pl, rfl, hb, hl, hm, hmm, rfl, hel⟩
  · exact ⟨[], ⟨none, 0, rfl, Nat.le_refl _, Kd.C_nil _ _⟩, ⟨Nat.zero_le _, by simp⟩, fun _ h => by cases h⟩
  · simp only [if_true] at hmm
    have hwt : ∀ n ∈ (len + (m - len)) * P.bytesOf e :: (DataW.weightsAll P e ((List.range len).map D) ++ DataW.weightsAll P e ((List.range (m - len)).map fun j => D (len + j))), n ≤ 140737488351232 := by
      have h1 := hw
      unfold Lite at h1
      rw [DataW.weights] at h1
      simp only [ht, List.length_map, List.length_range] at h1
      exact h1
    have hlenB : len * B ≤ 140737488351232 := by
      have h1 := hwt _ List.mem_cons_self
      rw [hB] at h1
      exact Nat.le_trans (Nat.mul_le_mul_right _ (by omega)) h1
    have hlite : ∀ i, i < len → Lite P e (D i) := fun i hi n hn => hwt n (List.mem_cons_of_mem _ (List.mem_append_left _ (weightsAll_mem (List.mem_map.2 ⟨i, List.mem_range.2 hi, rfl⟩) n hn)))
    have each : ∀ i, i < len → ∃ y : α, ∃ c, W.cells? 0 (a.add (i * P.cellsOf e)) (P.cellsOf e) = some c ∧ d.K W y c ∧ good y := by
      intro i hi
      obtain ⟨c, h1, h2⟩ := hel i (by omega)
      obtain ⟨y, h3, h4⟩ := h _ _ _ h2 (hlite i hi)
      exact ⟨y, c, h1, h3, h4⟩
    have build : ∃ xs : List α, xs.length = len ∧ ∀ i y, xs[i]? = some y → ∃ c, W.cells? 0 (a.add (i * P.cellsOf e)) (P.cellsOf e) = some c ∧ d.K W y c ∧ good y := by
      clear hx hel hm hl hb hmm hw hwt hlenB hlite
      induction len with
      | zero => exact ⟨[], rfl, fun i y h => by simp at h⟩
      | succ len ih =>
        obtain ⟨xs, h1, h2⟩ := ih (fun i hi => each i (by omega))
        obtain ⟨y, c, h3, h4, h5⟩ := each len (by omega)
        refine ⟨xs ++ [y], by simp [h1], fun i z hz => ?_⟩
        by_cases hi : i < len
        · exact h2 i z (by rw [List.getElem?_append_left (by omega)] at hz; exact hz)
        · have hi2 : i < (xs ++ [y]).length := (List.getElem?_eq_some_iff.1 hz).1
          have : i = len := by rw [List.length_append, List.length_singleton] at hi2; omega
          subst this
          rw [List.getElem?_append_right (by omega), h1, Nat.sub_self] at hz
          simp only [List.getElem?_cons_zero, Option.some.injEq] at hz
          subst hz
          exact ⟨c, h3, h4, h5⟩
    obtain ⟨xs, h1, h2⟩ := build
    refine ⟨xs, ⟨some a, cap, by rw [h1], by omega, rfl, by rw [h1]; simp only [maxLen] at hm; omega, fun h0 => ⟨a, rfl, fun j p hj => ?_⟩⟩, ⟨by omega, by rw [h1]; exact hlenB⟩, fun y hy => ?_⟩
    · obtain ⟨c, h3, h4, h5⟩ := h2 j p hj
      obtain ⟨_, hlen, hcell⟩ := World.cells?_some h3
      refine ⟨c, by rw [hlen, hs], h4, fun i u hu => ?_⟩
      have hi : i < P.cellsOf e := by rw [← hlen]; exact (List.getElem?_eq_some_iff.1 hu).1
      have := hcell i hi
      rw [hu, Go.Proofs.YticpcjjgdkbcjaaW.PrintWords.add_add, hs] at this
      exact this
    · obtain ⟨i, hi⟩ := List.getElem?_of_mem hy
      obtain ⟨c, _, _, h5⟩ := h2 i y hi
      exact h5
theorem opensF_one {f : Field} {o : Nat} {d : Kd α} {good : α → Prop} (ho : f.offset = o) (hc : P.cellsOf f.type = d.sz) (h : Opens enc P W f.type d good) : OpensF enc P W [f] o d good := by
  intro fuel cs xs hx hw hl
  simp only [List.mapM_cons, List.mapM_nil, Option.pure_def, Option.bind_eq_bind, Option.bind_eq_some_iff] at hx
  obtain ⟨y, h1, z, hz, hxs⟩ := hx
  simp only [Option.some.injEq] at hz hxs
  subst hz
  subst hxs
  obtain ⟨a, h2, h3⟩ := h _ _ _ h1 (fun n hn => hw n (by simp [DataW.weightsEach, hn]))
  rw [ho, hc, List.take_of_length_le (by rw [List.length_drop]; omega)] at h2
  exact ⟨a, h2, h3⟩
theorem opensF_cons {f : Field} {fs : List Field} {o : Nat} {d : Kd α} {e : Kd β} {g1 : α → Prop} {g2 : β → Prop} (ho : f.offset = o) (hc : P.cellsOf f.type = d.sz) (h : Opens enc P W f.type d g1) (hr : OpensF enc P W fs (o + d.sz) e g2) :
    OpensF enc P W (f :: fs) o (Kd.pair d e) (fun p => g1 p.1 ∧ g2 p.2) := by
  intro fuel cs xs hx hw hl
  simp only [List.mapM_cons, Option.pure_def, Option.bind_eq_bind, Option.bind_eq_some_iff] at hx
  obtain ⟨y, h1, ys, h2, hxs⟩ := hx
  simp only [Option.some.injEq] at hxs
  subst hxs
  have hsz : (Kd.pair d e).sz = d.sz + e.sz := rfl
  obtain ⟨a, h3, h4⟩ := h _ _ _ h1 (fun n hn => hw n (by simp [DataW.weightsEach, hn]))
  obtain ⟨b, h5, h6⟩ := hr _ _ _ h2 (fun n hn => hw n (by rw [List.map_cons, List.map_cons, DataW.weightsEach]; exact List.mem_append_right _ hn)) (by omega)
  rw [ho, hc] at h3
  refine ⟨(a, b), ⟨_, _, ?_, h3, h5⟩, h4, h6⟩
  rw [← List.drop_drop, List.take_append_drop]
theorem opens_struct {t : TypeId} {fs : Array Field} {d : Kd α} {good : α → Prop} (ht : P.underlying t = some (.struct fs)) (hc : P.cellsOf t = d.sz) (h : OpensF enc P W fs.toList 0 d good) : Opens enc P W t d good := by
  intro fuel cs x hx hw
  cases fuel with
  | zero => simp [DataW.trod] at hx
  | succ fuel =>
    have key : cs.length = P.cellsOf t ∧ ∃ xs, (fs.toList.mapM fun f => DataW.trod enc P W 0 (fun _ => true) true fuel f.type ((cs.drop f.offset).take (P.cellsOf f.type))) = some xs ∧ x.1 = .agg (xs.map (·.1)) := by
      unfold DataW.trod at hx
      rw [ht] at hx
      simp only at hx
      split at hx
      · rename_i hl
        rw [Option.map_eq_some_iff] at hx
        obtain ⟨xs, h1, h2⟩ := hx
        exact ⟨hl, xs, h1, by rw [← h2]⟩
      · cases hx
    obtain ⟨h1, xs, h2, h3⟩ := key
    have hw2 : ∀ n ∈ DataW.weightsEach P (fs.toList.map (·.type)) (xs.map (·.1)), n ≤ 140737488351232 := by
      unfold Lite at hw
      rw [h3, DataW.weights] at hw
      simp only [ht] at hw
      exact hw
    obtain ⟨a, h4, h5⟩ := h _ _ _ h2 hw2 (by omega)
    exact ⟨a, by simpa using h4, h5⟩
theorem opens_iso {t : TypeId} {d : Kd α} {good : α → Prop} (f : β → α) (g : α → β) (hfg : ∀ a, f (g a) = a) (h : Opens enc P W t d good) : Opens enc P W t (Kd.iso d f) (fun x => good (f x)) := by
  intro fuel cs x hx hw
  obtain ⟨a, h1, h2⟩ := h _ _ _ hx hw
  refine ⟨g a, ?_, by show good (f (g a)); rw [hfg]; exact h2⟩
  show d.K W (f (g a)) cs
  rw [hfg]
  exact h1
/-- the weight of an argument -/
theorem lite_arg {ts : List TypeId} {ds : List (DataW H)} (hsz : (DataW.weightsEach P ts ds).all (· ≤ reachBytes) = true) {j : Nat} {t : TypeId} {d : DataW H} (ht : ts[j]? = some t) (hd : ds[j]? = some d) : Lite P t d := by
  intro n hn
  have := List.all_eq_true.1 hsz n (DataW.weights_mem_each ht hd n hn)
  have h2 : n ≤ reachBytes := by simpa using this
  exact Nat.le_trans h2 (by decide)
/-- a slice that is handed in -/
theorem open_arg {t e : TypeId} {d : Kd α} {good : α → Prop} {B : Nat} (ht : P.underlying t = some (.slice e)) (hs : P.cellsOf e = d.sz) (hB : P.bytesOf e = B) (h : Opens enc P W e d good) {A : Option Addr} {n c : Nat} {y : DataW H} {p : List MemPlace}
    (hl : Lite P t y) (hx : DataW.Trod enc P W 0 (fun _ => true) true t (.slice A n c) y p) : ∃ xs : List α, n = xs.length ∧ xs.length ≤ c ∧ c ≤ maxLen ∧ d.C W A xs.length xs ∧ (xs.length ≤ maxLen ∧ xs.length * B ≤ 140737488351232) ∧ ∀ x ∈ xs, good x := by
  obtain ⟨fuel, hf⟩ := hx
  have hcap : c ≤ maxLen := by
    rcases open_slice ht hf with ⟨hcs, _⟩ | ⟨a, len, cap, m, n, D, Pl, hcs, hb, hl, hm, hmm, _, hel⟩
    · simp only [Value.cells, List.cons.injEq, Value.slice.injEq, and_true] at hcs
      omega
    · simp only [Value.cells, List.cons.injEq, Value.slice.injEq, and_true] at hcs
      omega
  obtain ⟨xs, ⟨A', c', h1, h2, h3⟩, h4, h5⟩ := opens_slice ht hs hB h _ _ _ hf hl
  simp only [Value.cells, List.cons.injEq, Value.slice.injEq, and_true] at h1
  obtain ⟨rfl, rfl, rfl⟩ := h1
  exact ⟨xs, rfl, h2, hcap, h3, h4, h5⟩
/-- a text that is handed in -/
theorem lite_str {t : TypeId} {s : ByteArray} (hl : Lite (H := H) P t (.lit (.string s.data.toList))) : s.size ≤ 140737488351232 := by
  have := hl s.data.toList.length (by simp [DataW.weights])
  rw [Array.length_toList] at this
  exact this
end
end Go.Proofs.Yticpcjjgdkbcjaa.Op
end

section
namespace Go.Proofs.Yticpcjjgdkbcjaa.packetTurned
open Go.ChangeShapes Go.WideShapes Go.ChangeAt Go.RowKit Go.Proofs.Yticpcjjgdkbcjaa Go.Proofs.Yticpcjjgdkbcjaa.G Go.Proofs.YticpcjjgdkbcjaaW.PrintWords Go.Proofs.YticpcjjgdkbcjaaW.PrintLast Go.Proofs.YticpcjjgdkbcjaaW.PrintMore
open Go.ChangeMaps (open_string shut_string)
set_option linter.unusedVariables false
set_option linter.unusedSimpArgs false
theorem own : ownKnob Try.prog.godebug = none := by kernel_rfl
theorem laidOut : laidOutB Try.prog = true := by kernel_rfl
set_option maxRecDepth 100000 in
theorem lifted (os : Os) (started : os.Started) (H : Type) (enc : TypeId × Value → H) :
    ReturnsInHanded {} Try.checked os 5 .any (Rows.packetTurnedSpec.pre6 enc Try.prog Try.f5 Rows.packetTurnedRow.domain false) (Rows.packetTurnedSpec.post enc Try.prog Try.f5 false true false false) := by
  refine returnsInHanded_of_change_sized (C := Try.checked) own started (by kernel_rfl) Try.func5
    (ChangeSpec.witness6 (enc := enc) (C := Try.checked) false ⟨#[], #[.agg #[.int .i64 0, .int .i64 0, .int .i64 0, .int .i64 0, .int .u32 0, .slice none 0 0], .int .i64 0, .int .i64 0, .int .i64 0], []⟩ 8 (by kernel_rfl) (by kernel_rfl) (by kernel_rfl) (by kernel_rfl)) ?_
  intro W base args ds gs before hval0 hW hcnd hsz0 _
  have hsz : (DataW.weightsEach Try.prog (Try.f5.params.toList ++ Rows.packetTurnedSpec.plain.varTypes Try.prog) (ds ++ gs)).all (· ≤ reachBytes) = true := hsz0
  have hval : ∀ (j : Nat) t v, Try.f5.params[j]? = some t → args[j]? = some v → Value.okWide Try.prog W .any base t v := hval0
  have hW' := hW
  obtain ⟨p, q, hA0, hV, rfl, hfz, hnd⟩ := hW
  have hA : DataW.TrodAll enc Try.prog W 0 (fun _ => true) true Try.f5.params.toList args.toList ds p := hA0
  rw [Try.params5] at hA hval hsz
  obtain ⟨v0, vs0, d0, ds0, p0, q0, hargs, rfl, rfl, h0, r0⟩ := trodAll_cons hA
  obtain ⟨v1, vs1, d1, ds1, p1, q1, rfl, rfl, rfl, h1, r1⟩ := trodAll_cons r0
  obtain ⟨v2, vs2, d2, ds2, p2, q2, rfl, rfl, rfl, h2, r2⟩ := trodAll_cons r1
  obtain ⟨v3, vs3, d3, ds3, p3, q3, rfl, rfl, rfl, h3, r3⟩ := trodAll_cons r2
  obtain ⟨rfl, rfl, rfl⟩ := trodAll_nil r3
  obtain rfl : args = #[v0, v1, v2, v3] := by cases args; simp_all
  obtain ⟨rfl, rfl⟩ := trodVars_none hV
  have k0 := h0
  have lt0 : ∀ x ∈ p0, x.block < W.heap.size := by obtain ⟨m, hm⟩ := k0; exact DataW.trod_lt m _ _ _ hm
  obtain ⟨cs0, rfl, _⟩ := okWide_struct Try.underlying25 (hval 0 25 v0 rfl rfl)
  have q0 := Op.lite_arg hsz (j := 0) (t := 25) rfl rfl
  obtain ⟨fu0, hf0⟩ := h0
  obtain ⟨a0, hK0, hg0⟩ := (Op.opens_iso (fun x : S25 => (x.f0, x.f1, x.f2, x.f3, x.f4, x.f5)) (fun p => (⟨p.1, p.2.1, p.2.2.1, p.2.2.2.1, p.2.2.2.2.1, p.2.2.2.2.2⟩ : S25)) (fun _ => rfl) (Op.opens_struct Try.underlying25 (by kernel_rfl) (Op.opensF_cons rfl (by kernel_rfl) (Op.opens_int Try.underlying3) (Op.opensF_cons rfl (by kernel_rfl) (Op.opens_int Try.underlying3) (Op.opensF_cons rfl (by kernel_rfl) (Op.opens_int Try.underlying3) (Op.opensF_cons rfl (by kernel_rfl) (Op.opens_int Try.underlying3) (Op.opensF_cons rfl (by kernel_rfl) (Op.opens_int Try.underlying22) (Op.opensF_one rfl (by kernel_rfl) (Op.opens_slice Try.underlying23 (by kernel_rfl) (by kernel_rfl : _ = 1) (Op.opens_int Try.underlying5)))))))))) _ _ _ hf0 q0
  obtain ⟨A0_5, c0_5, e0, hc0_5, hr0_5⟩ := k25_open hK0
  obtain rfl : cs0 = #[.int .i64 a0.f0, .int .i64 a0.f1, .int .i64 a0.f2, .int .i64 a0.f3, .int .u32 a0.f4, .slice A0_5 a0.f5.length c0_5] := by have h_ : cs0.toList = _ := e0; rw [← Array.toArray_toList (xs := cs0), h_]
  obtain ⟨a1, rfl, rfl, rfl, hg1⟩ := open_int Try.underlying3 (hval 1 3 v1 rfl rfl) h1
  obtain ⟨a2, rfl, rfl, rfl, hg2⟩ := open_int Try.underlying3 (hval 2 3 v2 rfl rfl) h2
  obtain ⟨a3, rfl, rfl, rfl, hg3⟩ := open_int Try.underlying3 (hval 3 3 v3 rfl rfl) h3
  clear hA0 hval0 hsz0 hsz
  obtain ⟨k, h⟩ := Pure.PacketTurned a0 a1 a2 a3 hg0 hg1 hg2 hg3
  refine (rosettelaw22_PacketTurned.calls k a0.f0 a0.f1 a0.f2 a0.f3 a0.f4 A0_5 c0_5 a0.f5 a1 a2 a3 true W hr0_5 hc0_5 h).mono fun e W' ⟨he, bel⟩ => ?_
  subst he
  exact ⟨_, rfl, _, _, _, [], _, [], hW', trodAll_mk1 (shut_bool Try.underlying4 _), (trodAll_cons_mk (Below.trod laidOut (by kernel_rfl) (of_decide_eq_true (by kernel_rfl)) k0 bel lt0) (trodAll_cons_mk (shut_int Try.underlying3 hg1) (trodAll_cons_mk (shut_int Try.underlying3 hg2) (trodAll_cons_mk (shut_int Try.underlying3 hg3) trodAll_mk0)))), rfl, bel.frame _, fun h => by cases h⟩
theorem over : Rows.packetTurnedRow.holds Try.pinned (OpenSpec.ofChange Rows.packetTurnedSpec) :=
  OpenClaim.holds_of_wide 5 Try.f5 rfl rfl rfl rfl rfl rfl rfl ⟨rfl, rfl, rfl, rfl, rfl⟩ rfl rfl rfl rfl rfl (by kernel_rfl) Try.func5 (by kernel_rfl)
    (of_decide_eq_true (by kernel_rfl)) (by unfold Func.isWrapper; first | (rw [if_pos (by decide +kernel)]; kernel_rfl) | (rw [if_neg (by decide +kernel)]; exact ⟨rfl, rfl⟩))
    (fun os started H enc _ => lifted os started H enc)
theorem proved : Rows.PacketTurnedSaid := over
#print axioms proved
end Go.Proofs.Yticpcjjgdkbcjaa.packetTurned
namespace Go.Proofs.Yticpcjjgdkbcjaa
/-- The row, under a short name, for the claim. -/
theorem packetTurned_holds : Rows.PacketTurnedSaid := packetTurned.proved
end Go.Proofs.Yticpcjjgdkbcjaa
end
