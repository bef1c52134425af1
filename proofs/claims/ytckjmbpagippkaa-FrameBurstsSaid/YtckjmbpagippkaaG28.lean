-- Written by a program of this session (wip/tools/myprint.py), over the kit's print.
import Derived.Test.YtckjmbpagippkaaG0
import Derived.Test.YtckjmbpagippkaaG7
import Derived.Test.YtckjmbpagippkaaG11
import Derived.Test.YtckjmbpagippkaaG19
namespace Go.Proofs.Ytckjmbpagippkaa.G
open Go.RowKit Go.Proofs.YtckjmbpagippkaaW.PrintWords Go.Proofs.YtckjmbpagippkaaW.PrintLast Go.Proofs.YtckjmbpagippkaaW.PrintMore
attribute [local go_sem] max2_int min2_int max_two min_two max_three min_three max_four min_four   -- for this text's walks alone
set_option linter.unusedVariables false
set_option linter.unusedSimpArgs false

/-! ### rosettelaw03_FrameBursts: function 6 -/
mutual
def rosettelaw03_FrameBursts.j0 : Nat → List Int → Int → Int → Bool → List Int → Int → Bool → Option (Bool)
  | 0, _, _, _, _, _, _, _ => none
  | k + 1, x0, x1, x2, x7, x8, x9, x29 => if x29 = true then (some false) else (if (x0.length : Int) > 1000 then (rosettelaw03_FrameBursts.j1 k x0 x1 x2 x7 x8 x9 true) else (if x9 = 0 then (if x2 = 0 then (rosettelaw03_FrameBursts.j1 k x0 x1 x2 x7 x8 x9 true) else (if x1 < 0 then (rosettelaw03_FrameBursts.j1 k x0 x1 x2 x7 x8 x9 true) else (rosettelaw03_FrameBursts.j1 k x0 x1 x2 x7 x8 x9 (decide (x1 > (wrap64 ((wrap64 (8 * (x8.length : Int))) - 32))))))) else (rosettelaw03_FrameBursts.j1 k x0 x1 x2 x7 x8 x9 true)))
def rosettelaw03_FrameBursts.j1 : Nat → List Int → Int → Int → Bool → List Int → Int → Bool → Option (Bool)
  | 0, _, _, _, _, _, _, _ => none
  | k + 1, x0, x1, x2, x7, x8, x9, x52 => if x52 = true then (if x7 = true then (if x9 = 0 then (some true) else (some (decide ((x0.length : Int) > 8192)))) else (some false)) else (rosettelaw03_FrameBursts.l0 k x1 x2 x7 x8 0)
def rosettelaw03_FrameBursts.l0 : Nat → Int → Int → Bool → List Int → Int → Option (Bool)
  | 0, _, _, _, _, _ => none
  | k + 1, x1, x2, x7, x8, x10 => if x10 < 32 then (if 0 ≤ (IntKind.u64.wrap (x10)) then (if (Int.tmod (shr .u32 x2 (IntKind.u64.wrap (x10))) 2) = 1 then (if 0 ≤ (wrap64 (Int.tdiv (wrap64 (x1 + x10)) 8)) then (if (wrap64 (Int.tdiv (wrap64 (x1 + x10)) 8)) < (x8.length : Int) then (if 0 ≤ (IntKind.u64.wrap (Int.tmod (wrap64 (x1 + x10)) 8)) then (rosettelaw03_FrameBursts.l0 k x1 x2 x7 (x8.set ((wrap64 (Int.tdiv (wrap64 (x1 + x10)) 8)) : Int).toNat (Go.bits .xor .u8 (rd x8 (wrap64 (Int.tdiv (wrap64 (x1 + x10)) 8))) (shl .u8 1 (IntKind.u64.wrap (Int.tmod (wrap64 (x1 + x10)) 8))))) (wrap64 (x10 + 1))) else (none)) else (none)) else (none)) else (rosettelaw03_FrameBursts.l0 k x1 x2 x7 x8 (wrap64 (x10 + 1)))) else (none)) else ((frame_Next.f x8).bind fun bt264 => (if x7 = true then (if bt264.2.2 = 6 then (if (bt264.1.length : Int) = 0 then (some (bt264.2.1 == 0)) else (some false)) else (some false)) else (some false)))
end
def rosettelaw03_FrameBursts.f (k : Nat) (l0 : List Int) (a1 : Int) (a2 : Int) : Option (Bool) := (rosettelaw03_small.f).bind fun t257 => ((frame_Make.f l0).bind fun bt258 => (if bt258.2 = 0 then (rosettelaw03_FrameBursts.j0 k l0 a1 a2 t257 bt258.1 bt258.2 ((bt258.1.length : Int) != (wrap64 ((l0.length : Int) + 10)))) else (rosettelaw03_FrameBursts.j0 k l0 a1 a2 t257 bt258.1 bt258.2 false)))
theorem rosettelaw03_FrameBursts.mono_l : ∀ k, (∀ y0 y1 y2 y3 y4 y5 y6, LeO (rosettelaw03_FrameBursts.j0 k y0 y1 y2 y3 y4 y5 y6) (rosettelaw03_FrameBursts.j0 (k + 1) y0 y1 y2 y3 y4 y5 y6)) ∧ (∀ y0 y1 y2 y3 y4 y5 y6, LeO (rosettelaw03_FrameBursts.j1 k y0 y1 y2 y3 y4 y5 y6) (rosettelaw03_FrameBursts.j1 (k + 1) y0 y1 y2 y3 y4 y5 y6)) ∧ (∀ y0 y1 y2 y3 y4, LeO (rosettelaw03_FrameBursts.l0 k y0 y1 y2 y3 y4) (rosettelaw03_FrameBursts.l0 (k + 1) y0 y1 y2 y3 y4))
  | 0 => ⟨fun _ _ _ _ _ _ _ r h => by simp [rosettelaw03_FrameBursts.j0] at h, fun _ _ _ _ _ _ _ r h => by simp [rosettelaw03_FrameBursts.j1] at h, fun _ _ _ _ _ r h => by simp [rosettelaw03_FrameBursts.l0] at h⟩
  | k + 1 => by
    obtain ⟨ih0, ih1, ih2⟩ := rosettelaw03_FrameBursts.mono_l k
    refine ⟨?_, ?_, ?_⟩
    · intro y0 y1 y2 y3 y4 y5 y6
      unfold rosettelaw03_FrameBursts.j0
      repeat' first
      | (with_reducible exact ih0 _ _ _ _ _ _ _)
      | (with_reducible exact ih1 _ _ _ _ _ _ _)
      | (with_reducible exact ih2 _ _ _ _ _)
      | (with_reducible exact LeO.refl _)
      | (with_reducible exact LeO.none _)
      | (with_reducible refine LeO.ite ?_ ?_)
      | (with_reducible refine LeO.bind ?_ (fun _ => ?_))
      | exact ih0 _ _ _ _ _ _ _
      | exact ih1 _ _ _ _ _ _ _
      | exact ih2 _ _ _ _ _
      | exact LeO.none _
      | refine LeO.ite ?_ ?_
      | refine LeO.bind ?_ (fun _ => ?_)
    · intro y0 y1 y2 y3 y4 y5 y6
      unfold rosettelaw03_FrameBursts.j1
      repeat' first
      | (with_reducible exact ih0 _ _ _ _ _ _ _)
      | (with_reducible exact ih1 _ _ _ _ _ _ _)
      | (with_reducible exact ih2 _ _ _ _ _)
      | (with_reducible exact LeO.refl _)
      | (with_reducible exact LeO.none _)
      | (with_reducible refine LeO.ite ?_ ?_)
      | (with_reducible refine LeO.bind ?_ (fun _ => ?_))
      | exact ih0 _ _ _ _ _ _ _
      | exact ih1 _ _ _ _ _ _ _
      | exact ih2 _ _ _ _ _
      | exact LeO.none _
      | refine LeO.ite ?_ ?_
      | refine LeO.bind ?_ (fun _ => ?_)
    · intro y0 y1 y2 y3 y4
      unfold rosettelaw03_FrameBursts.l0
      repeat' first
      | (with_reducible exact ih0 _ _ _ _ _ _ _)
      | (with_reducible exact ih1 _ _ _ _ _ _ _)
      | (with_reducible exact ih2 _ _ _ _ _)
      | (with_reducible exact LeO.refl _)
      | (with_reducible exact LeO.none _)
      | (with_reducible refine LeO.ite ?_ ?_)
      | (with_reducible refine LeO.bind ?_ (fun _ => ?_))
      | exact ih0 _ _ _ _ _ _ _
      | exact ih1 _ _ _ _ _ _ _
      | exact ih2 _ _ _ _ _
      | exact LeO.none _
      | refine LeO.ite ?_ ?_
      | refine LeO.bind ?_ (fun _ => ?_)
theorem rosettelaw03_FrameBursts.mono : ∀ a0 a1 a2 k, LeO (rosettelaw03_FrameBursts.f k a0 a1 a2) (rosettelaw03_FrameBursts.f (k + 1) a0 a1 a2) := by
  intro a0 a1 a2 k
  obtain ⟨ih0, ih1, ih2⟩ := rosettelaw03_FrameBursts.mono_l k
  unfold rosettelaw03_FrameBursts.f
  repeat' first
      | (with_reducible exact ih0 _ _ _ _ _ _ _)
      | (with_reducible exact ih1 _ _ _ _ _ _ _)
      | (with_reducible exact ih2 _ _ _ _ _)
      | (with_reducible exact LeO.refl _)
      | (with_reducible exact LeO.none _)
      | (with_reducible refine LeO.ite ?_ ?_)
      | (with_reducible refine LeO.bind ?_ (fun _ => ?_))
      | exact ih0 _ _ _ _ _ _ _
      | exact ih1 _ _ _ _ _ _ _
      | exact ih2 _ _ _ _ _
      | exact LeO.none _
      | refine LeO.ite ?_ ?_
      | refine LeO.bind ?_ (fun _ => ?_)
set_option maxHeartbeats 8000000 in
set_option maxRecDepth 100000 in
theorem rosettelaw03_FrameBursts.calls (k : Nat) (A0 : Option Addr) (c0 : Nat) (l0 : List Int) (a1 : Int) (a2 : Int) (r : Bool) (w : World) (hr0 : Kd.C (Kd.int .u8) w A0 l0.length l0) (hc0 : l0.length ≤ c0) (h : rosettelaw03_FrameBursts.f k l0 a1 a2 = some r) :
    Calls Try.prog 6 #[.slice A0 l0.length c0, .int .i64 a1, .int .u32 a2] w fun e w' => e = .returned (.bool r) ∧ Below w.heap.size w w' := by
  have HR0 := Aside0.mk hr0
  have HC0 := Aside0.mk hc0
  clear hr0 hc0
  have HB := Aside0.mk (Below.refl w.heap.size w)
  have H : ((rosettelaw03_small.f).bind fun t257 => ((frame_Make.f l0).bind fun bt258 => (if bt258.2 = 0 then (rosettelaw03_FrameBursts.j0 k l0 a1 a2 t257 bt258.1 bt258.2 ((bt258.1.length : Int) != (wrap64 ((l0.length : Int) + 10)))) else (rosettelaw03_FrameBursts.j0 k l0 a1 a2 t257 bt258.1 bt258.2 false)))) = some r := h
  clear h
  replace H := Option.bind_eq_some_iff.mp H
  obtain ⟨t257, A40, H⟩ := H
  replace H : ((frame_Make.f l0).bind fun bt258 => (if bt258.2 = 0 then (rosettelaw03_FrameBursts.j0 k l0 a1 a2 t257 bt258.1 bt258.2 ((bt258.1.length : Int) != (wrap64 ((l0.length : Int) + 10)))) else (rosettelaw03_FrameBursts.j0 k l0 a1 a2 t257 bt258.1 bt258.2 false))) = some r := H
  have A4 := Aside0.mk A40
  clear A40
  replace H := Option.bind_eq_some_iff.mp H
  obtain ⟨⟨t258, t259⟩, A50, H⟩ := H
  replace H : (if t259 = 0 then (rosettelaw03_FrameBursts.j0 k l0 a1 a2 t257 t258 t259 ((t258.length : Int) != (wrap64 ((l0.length : Int) + 10)))) else (rosettelaw03_FrameBursts.j0 k l0 a1 a2 t257 t258 t259 false)) = some r := H
  have A5 := Aside0.mk A50
  clear A50
  have HC6 := Aside0.mk H
  clear H
  go_enter Try.func6, Try.ntmps6
  go_upto_region 3 with (first | ((with_reducible refine gate_callee (f := 8) rfl ?_); refine goesL_ (some 14) rfl rfl Try.func8 (by kernel_rfl) rfl #[] rfl (by (try simp only [List.map_toArray, List.map_cons, List.map_nil]); first | done | rfl | (simp only [List.length_drop, List.length_take]; rfl)) ?_; (with_reducible refine (rosettelaw03_small.calls  t257 _ A4.out).mono ?_); rintro e w7 ⟨rfl, hb⟩; refine ⟨_, rfl, ?_⟩; have n0_ := Aside0.mk (below_step (by repeat (first | (with_reducible first | exact HB.out | apply below_alloc | apply pw_below_drewN | apply below_drew1) | exact HB.out)) hb); clear HB; have HB := n0_; clear n0_; (try clear hb); (try clear hb2); (try clear hk); (try clear hi)) | ((with_reducible refine gate_callee (f := 9) rfl ?_); refine goesL_ (some 17) rfl rfl Try.func9 (by kernel_rfl) rfl #[.slice A0 l0.length c0] rfl (by (try simp only [List.map_toArray, List.map_cons, List.map_nil]); first | done | rfl | (simp only [List.length_drop, List.length_take]; rfl)) ?_; (with_reducible refine (frame_Make.calls _ _ l0 t258 t259 _ ?side1 ?side2 A5.out).mono ?_); (case side1 => repeat (first | exact (Kd.C_below HR0.out HB.out) | (with_reducible refine Kd.C_alloc ?_ _) | (with_reducible refine Kd.C_drewN ?_ _) | (with_reducible refine Kd.C_drew ?_))); (case side2 => exact HC0.out); rintro e w8 ⟨v260, rfl, ho0, hb⟩; refine ⟨_, rfl, ?_⟩; have n0_ := Aside0.mk (Kd.R_lower ho0 (below_size (by repeat (first | (with_reducible first | exact HB.out | apply below_alloc | apply pw_below_drewN | apply below_drew1) | exact HB.out)))); have n1_ := Aside0.mk (below_step (by repeat (first | (with_reducible first | exact HB.out | apply below_alloc | apply pw_below_drewN | apply below_drew1) | exact HB.out)) hb); clear HB; have HO261 := n0_; have HB := n1_; clear n0_ n1_; (try clear hb); (try clear hb2); (try clear hk); (try clear hi); (try clear ho0)))
  (try simp only [Act.put, List.setIfInBounds_toArray, List.set_cons_zero, List.set_cons_succ])
  go_cut [29] (fun v29 wc => ∃ (kq : Nat) (x29_5 : Bool), v29 = .bool x29_5 ∧ Aside0 (rosettelaw03_FrameBursts.j0 kq l0 a1 a2 t257 t258 t259 x29_5 = some r) ∧ Aside0 (kq ≤ k) ∧ Aside0 (Kd.R (Kd.int .u8) 5 wc w.heap.size (fun _ => True) v260 t258) ∧ Aside0 (Below w.heap.size w wc))
  case first =>
    have H := HC6.out
    clear HC6
    by_cases c9 : t259 = 0
    · rw [if_pos c9] at H
      have c9b0 : (t259 == 0) = true := beq_iff_eq.mpr c9
      have c9b1 : (t259 != 0) = false := bne_eq_false_iff_eq.mpr c9
      clear c9
      (first | rw [c9b0] | (simp only [i64_w, i32_w]; rw [c9b0]) | skip)
      have H' := Aside0.mk H
      clear H
      obtain ⟨Ao10, co10, eo10⟩ := Kd.R_slice HO261.out
      subst eo10
      go_wp2
      go_meet
      case rel => exact ⟨_, (((t258.length : Int) != (wrap64 ((l0.length : Int) + 10)))), (by first | rfl | (simp; done) | (simp [*]; done)), H', ⟨by first | omega | exact Nat.le_refl _⟩, ⟨by (with_reducible repeat (first | apply Kd.R_alloc | apply Kd.R_drewN | apply Kd.R_drew)); exact HO261.out⟩, ⟨by repeat (first | (with_reducible first | exact HB.out | apply below_alloc | apply pw_below_drewN | apply below_drew1) | exact HB.out)⟩⟩
    · rw [if_neg c9] at H
      have c9b0 : (t259 == 0) = false := beq_eq_false_iff_ne.mpr c9
      have c9b1 : (t259 != 0) = true := bne_iff_ne.mpr c9
      (first | rw [c9b0] | (simp only [i64_w, i32_w]; rw [c9b0]) | skip)
      have H' := Aside0.mk H
      clear H
      go_wp2
      go_meet
      case rel => exact ⟨_, (false), (by first | rfl | (simp; done) | (simp [*]; done)), H', ⟨by first | omega | exact Nat.le_refl _⟩, ⟨by (with_reducible repeat (first | apply Kd.R_alloc | apply Kd.R_drewN | apply Kd.R_drew)); exact HO261.out⟩, ⟨by repeat (first | (with_reducible first | exact HB.out | apply below_alloc | apply pw_below_drewN | apply below_drew1) | exact HB.out)⟩⟩
  case rest =>
    clear HC6
    try clear p2
    try clear c6
    try clear p6
    try clear c8
    try clear c9
    try clear c9b0
    try clear c9b1
    obtain ⟨kq, x29_5, rfl, HA, HJ5, HO_8, HB⟩ := hcut
    cases kq with
    | zero => exact absurd HA.out (by simp [rosettelaw03_FrameBursts.j0])
    | succ kj5 =>
      have H := HA.out
      clear HA
      simp only [rosettelaw03_FrameBursts.j0] at H
      by_cases c11 : x29_5 = true
      · subst c11
        have H1 : (some false) = some r := by rw [if_pos rfl] at H; exact H
        clear H
        have H := H1
        clear H1
        obtain rfl := Option.some.inj H
        go_wp2
        go_ret
        exact ⟨by first | rfl | (simp [errW_none, errW_some] <;> rfl) | (simp [*, errW_none, errW_some] <;> rfl), by repeat (first | (with_reducible first | exact HB.out | apply below_alloc | apply pw_below_drewN | apply below_drew1) | exact HB.out)⟩
      · replace c11 := Bool.eq_false_iff.mpr c11
        subst c11
        have H1 : (if (l0.length : Int) > 1000 then (rosettelaw03_FrameBursts.j1 kj5 l0 a1 a2 t257 t258 t259 true) else (if t259 = 0 then (if a2 = 0 then (rosettelaw03_FrameBursts.j1 kj5 l0 a1 a2 t257 t258 t259 true) else (if a1 < 0 then (rosettelaw03_FrameBursts.j1 kj5 l0 a1 a2 t257 t258 t259 true) else (rosettelaw03_FrameBursts.j1 kj5 l0 a1 a2 t257 t258 t259 (decide (a1 > (wrap64 ((wrap64 (8 * (t258.length : Int))) - 32))))))) else (rosettelaw03_FrameBursts.j1 kj5 l0 a1 a2 t257 t258 t259 true))) = some r := by rw [if_neg (show ¬ (false = true) by decide)] at H; exact H
        clear H
        have H := H1
        clear H1
        have HC12 := Aside0.mk H
        clear H
        go_upto_region 5 with (fail)
        go_cut [52] (fun v52 wc => ∃ (kq : Nat) (x52_11 : Bool), v52 = .bool x52_11 ∧ Aside0 (rosettelaw03_FrameBursts.j1 kq l0 a1 a2 t257 t258 t259 x52_11 = some r) ∧ Aside0 (kq ≤ kj5) ∧ Aside0 (Kd.R (Kd.int .u8) 5 wc w.heap.size (fun _ => True) v260 t258) ∧ Aside0 (Below w.heap.size w wc))
        case first =>
          have H := HC12.out
          clear HC12
          by_cases c13 : (l0.length : Int) > 1000
          · rw [if_pos c13] at H
            have c13b0 : decide (1000 < (l0.length : Int)) = true := decide_eq_true c13
            have c13b1 : decide (1000 < l0.length) = true := decide_eq_true (by omega)
            clear c13
            (first | rw [c13b0] | (simp only [i64_w, i32_w]; rw [c13b0]) | skip)
            have H' := Aside0.mk H
            clear H
            go_wp2
            go_meet
            case rel => exact ⟨_, (true), (by first | rfl | (simp; done) | (simp [*]; done)), H', ⟨by have := HJ5.out; first | omega | exact Nat.le_refl _⟩, ⟨by (with_reducible repeat (first | apply Kd.R_alloc | apply Kd.R_drewN | apply Kd.R_drew)); exact HO_8.out⟩, ⟨by repeat (first | (with_reducible first | exact HB.out | apply below_alloc | apply pw_below_drewN | apply below_drew1) | exact HB.out)⟩⟩
          · rw [if_neg c13] at H
            have c13b0 : decide (1000 < (l0.length : Int)) = false := decide_eq_false c13
            have c13b1 : decide (1000 < l0.length) = false := decide_eq_false (by omega)
            clear c13
            (first | rw [c13b0] | (simp only [i64_w, i32_w]; rw [c13b0]) | skip)
            by_cases c14 : t259 = 0
            · rw [if_pos c14] at H
              have c14b0 : (t259 == 0) = true := beq_iff_eq.mpr c14
              have c14b1 : (t259 != 0) = false := bne_eq_false_iff_eq.mpr c14
              clear c14
              by_cases c15 : a2 = 0
              · rw [if_pos c15] at H
                have c15b0 : (a2 == 0) = true := beq_iff_eq.mpr c15
                have c15b1 : (a2 != 0) = false := bne_eq_false_iff_eq.mpr c15
                clear c15
                have H' := Aside0.mk H
                clear H
                go_wp2
                go_meet
                case rel => exact ⟨_, (true), (by first | rfl | (simp; done) | (simp [*]; done)), H', ⟨by have := HJ5.out; first | omega | exact Nat.le_refl _⟩, ⟨by (with_reducible repeat (first | apply Kd.R_alloc | apply Kd.R_drewN | apply Kd.R_drew)); exact HO_8.out⟩, ⟨by repeat (first | (with_reducible first | exact HB.out | apply below_alloc | apply pw_below_drewN | apply below_drew1) | exact HB.out)⟩⟩
              · rw [if_neg c15] at H
                have c15b0 : (a2 == 0) = false := beq_eq_false_iff_ne.mpr c15
                have c15b1 : (a2 != 0) = true := bne_iff_ne.mpr c15
                by_cases c16 : a1 < 0
                · rw [if_pos c16] at H
                  have c16b0 : decide (a1 < 0) = true := decide_eq_true c16
                  clear c16
                  have H' := Aside0.mk H
                  clear H
                  go_wp2
                  go_meet
                  case rel => exact ⟨_, (true), (by first | rfl | (simp; done) | (simp [*]; done)), H', ⟨by have := HJ5.out; first | omega | exact Nat.le_refl _⟩, ⟨by (with_reducible repeat (first | apply Kd.R_alloc | apply Kd.R_drewN | apply Kd.R_drew)); exact HO_8.out⟩, ⟨by repeat (first | (with_reducible first | exact HB.out | apply below_alloc | apply pw_below_drewN | apply below_drew1) | exact HB.out)⟩⟩
                · rw [if_neg c16] at H
                  have c16b0 : decide (a1 < 0) = false := decide_eq_false c16
                  clear c16
                  have H' := Aside0.mk H
                  clear H
                  obtain ⟨Ao17, co17, eo17⟩ := Kd.R_slice HO_8.out
                  subst eo17
                  go_wp2
                  go_meet
                  case rel => exact ⟨_, (decide (a1 > (wrap64 ((wrap64 (8 * (t258.length : Int))) - 32)))), (by first | rfl | (simp; done) | (simp [*]; done)), H', ⟨by have := HJ5.out; first | omega | exact Nat.le_refl _⟩, ⟨by (with_reducible repeat (first | apply Kd.R_alloc | apply Kd.R_drewN | apply Kd.R_drew)); exact HO_8.out⟩, ⟨by repeat (first | (with_reducible first | exact HB.out | apply below_alloc | apply pw_below_drewN | apply below_drew1) | exact HB.out)⟩⟩
            · rw [if_neg c14] at H
              have c14b0 : (t259 == 0) = false := beq_eq_false_iff_ne.mpr c14
              have c14b1 : (t259 != 0) = true := bne_iff_ne.mpr c14
              have H' := Aside0.mk H
              clear H
              go_wp2
              go_meet
              case rel => exact ⟨_, (true), (by first | rfl | (simp; done) | (simp [*]; done)), H', ⟨by have := HJ5.out; first | omega | exact Nat.le_refl _⟩, ⟨by (with_reducible repeat (first | apply Kd.R_alloc | apply Kd.R_drewN | apply Kd.R_drew)); exact HO_8.out⟩, ⟨by repeat (first | (with_reducible first | exact HB.out | apply below_alloc | apply pw_below_drewN | apply below_drew1) | exact HB.out)⟩⟩
        case rest =>
          clear HC12
          try clear c1
          try clear p2
          try clear c6
          try clear p6
          try clear c8
          try clear c9
          try clear c9b0
          try clear c9b1
          try clear c11
          try clear c13
          try clear c13b0
          try clear c13b1
          try clear c14
          try clear c14b0
          try clear c14b1
          try clear c15
          try clear c15b0
          try clear c15b1
          try clear c16
          try clear c16b0
          try clear p2
          try clear p6
          obtain ⟨kq, x52_11, rfl, HA, HJ11, HO_8, HB⟩ := hcut
          cases kq with
          | zero => exact absurd HA.out (by simp [rosettelaw03_FrameBursts.j1])
          | succ kj11 =>
            have H := HA.out
            clear HA
            simp only [rosettelaw03_FrameBursts.j1] at H
            by_cases c18 : x52_11 = true
            · subst c18
              have H1 : (if t257 = true then (if t259 = 0 then (some true) else (some (decide ((l0.length : Int) > 8192)))) else (some false)) = some r := by rw [if_pos rfl] at H; exact H
              clear H
              have H := H1
              clear H1
              by_cases c19 : t257 = true
              · subst c19
                have H1 : (if t259 = 0 then (some true) else (some (decide ((l0.length : Int) > 8192)))) = some r := by rw [if_pos rfl] at H; exact H
                clear H
                have H := H1
                clear H1
                by_cases c20 : t259 = 0
                · rw [if_pos c20] at H
                  have c20b0 : (t259 == 0) = true := beq_iff_eq.mpr c20
                  have c20b1 : (t259 != 0) = false := bne_eq_false_iff_eq.mpr c20
                  clear c20
                  obtain rfl := Option.some.inj H
                  go_wp2
                  go_ret
                  exact ⟨by first | rfl | (simp [errW_none, errW_some] <;> rfl) | (simp [*, errW_none, errW_some] <;> rfl), by repeat (first | (with_reducible first | exact HB.out | apply below_alloc | apply pw_below_drewN | apply below_drew1) | exact HB.out)⟩
                · rw [if_neg c20] at H
                  have c20b0 : (t259 == 0) = false := beq_eq_false_iff_ne.mpr c20
                  have c20b1 : (t259 != 0) = true := bne_iff_ne.mpr c20
                  obtain rfl := Option.some.inj H
                  go_wp2
                  go_ret
                  exact ⟨by first | rfl | (simp [errW_none, errW_some] <;> rfl) | (simp [*, errW_none, errW_some] <;> rfl), by repeat (first | (with_reducible first | exact HB.out | apply below_alloc | apply pw_below_drewN | apply below_drew1) | exact HB.out)⟩
              · replace c19 := Bool.eq_false_iff.mpr c19
                subst c19
                have H1 : (some false) = some r := by rw [if_neg (show ¬ (false = true) by decide)] at H; exact H
                clear H
                have H := H1
                clear H1
                obtain rfl := Option.some.inj H
                go_wp2
                go_ret
                exact ⟨by first | rfl | (simp [errW_none, errW_some] <;> rfl) | (simp [*, errW_none, errW_some] <;> rfl), by repeat (first | (with_reducible first | exact HB.out | apply below_alloc | apply pw_below_drewN | apply below_drew1) | exact HB.out)⟩
            · replace c18 := Bool.eq_false_iff.mpr c18
              subst c18
              have H1 : (rosettelaw03_FrameBursts.l0 kj11 a1 a2 t257 t258 0) = some r := by rw [if_neg (show ¬ (false = true) by decide)] at H; exact H
              clear H
              have H := H1
              clear H1
              have H' := Aside0.mk H
              clear H
              go_wp2
              go_loopg [10] kj11 (fun kq v10 w' => ∃ (x8_3 : List Int) (x10_3 : Int), v10 = .int .i64 x10_3 ∧ Aside0 (rosettelaw03_FrameBursts.l0 kq a1 a2 t257 x8_3 x10_3 = some r) ∧ Aside0 (kq ≤ kj11) ∧ Aside0 (Kd.R (Kd.int .u8) 5 w' w.heap.size (fun _ => True) v260 x8_3) ∧ Aside0 (Below w.heap.size w w'))
              case atStart => exact ⟨(t258), (0), (by first | rfl | (simp; done) | (simp [*]; done)), H', ⟨Nat.le_refl _⟩, ⟨by (with_reducible repeat (first | apply Kd.R_alloc | apply Kd.R_drewN | apply Kd.R_drew)); exact HO_8.out⟩, ⟨by repeat (first | (with_reducible first | exact HB.out | apply below_alloc | apply pw_below_drewN | apply below_drew1) | exact HB.out)⟩⟩
              case round =>
                clear H'
                try clear c1
                try clear c2
                try clear p2
                try clear c6
                try clear p6
                try clear c8
                try clear c9
                try clear c9b0
                try clear c9b1
                try clear c11
                try clear c13
                try clear c13b0
                try clear c13b1
                try clear c14
                try clear c14b0
                try clear c14b1
                try clear c15
                try clear c15b0
                try clear c15b1
                try clear c16
                try clear c16b0
                try clear c18
                try clear c19
                try clear c20
                try clear c20b0
                try clear c20b1
                try clear p2
                try clear p6
                obtain ⟨x8_3, x10_3, rfl, HA, HK3, HO_8, HB⟩ := hrel
                cases gk with
                | zero => exact absurd HA.out (by simp [rosettelaw03_FrameBursts.l0])
                | succ k3 =>
                  have H := HA.out
                  clear HA
                  simp only [rosettelaw03_FrameBursts.l0] at H
                  by_cases c21 : x10_3 < 32
                  · rw [if_pos c21] at H
                    have c21b0 : decide (x10_3 < 32) = true := decide_eq_true c21
                    clear c21
                    obtain ⟨ji22, hji22⟩ : ∃ j_ : Int, (IntKind.u64.wrap (x10_3)) = j_ := ⟨_, rfl⟩
                    replace H : (if 0 ≤ (ji22) then (if (Int.tmod (shr .u32 a2 (ji22)) 2) = 1 then (if 0 ≤ (wrap64 (Int.tdiv (wrap64 (a1 + x10_3)) 8)) then (if (wrap64 (Int.tdiv (wrap64 (a1 + x10_3)) 8)) < (x8_3.length : Int) then (if 0 ≤ (IntKind.u64.wrap (Int.tmod (wrap64 (a1 + x10_3)) 8)) then (rosettelaw03_FrameBursts.l0 k3 a1 a2 t257 (x8_3.set ((wrap64 (Int.tdiv (wrap64 (a1 + x10_3)) 8)) : Int).toNat (Go.bits .xor .u8 (rd x8_3 (wrap64 (Int.tdiv (wrap64 (a1 + x10_3)) 8))) (shl .u8 1 (IntKind.u64.wrap (Int.tmod (wrap64 (a1 + x10_3)) 8))))) (wrap64 (x10_3 + 1))) else (none)) else (none)) else (none)) else (rosettelaw03_FrameBursts.l0 k3 a1 a2 t257 x8_3 (wrap64 (x10_3 + 1)))) else (none)) = some r := by first | (rw [hji22] at H; exact H) | (simp only [hji22] at H ⊢; exact H)
                    by_cases c23 : 0 ≤ (ji22)
                    · rw [if_pos c23] at H
                      have c23b0 := eq_true c23
                      have c23b1 : decide (0 ≤ (ji22)) = true := decide_eq_true c23
                      clear c23
                      obtain ⟨ji24, hji24⟩ : ∃ j_ : Int, (shr .u32 a2 (ji22)) = j_ := ⟨_, rfl⟩
                      replace H : (if (Int.tmod (ji24) 2) = 1 then (if 0 ≤ (wrap64 (Int.tdiv (wrap64 (a1 + x10_3)) 8)) then (if (wrap64 (Int.tdiv (wrap64 (a1 + x10_3)) 8)) < (x8_3.length : Int) then (if 0 ≤ (IntKind.u64.wrap (Int.tmod (wrap64 (a1 + x10_3)) 8)) then (rosettelaw03_FrameBursts.l0 k3 a1 a2 t257 (x8_3.set ((wrap64 (Int.tdiv (wrap64 (a1 + x10_3)) 8)) : Int).toNat (Go.bits .xor .u8 (rd x8_3 (wrap64 (Int.tdiv (wrap64 (a1 + x10_3)) 8))) (shl .u8 1 (IntKind.u64.wrap (Int.tmod (wrap64 (a1 + x10_3)) 8))))) (wrap64 (x10_3 + 1))) else (none)) else (none)) else (none)) else (rosettelaw03_FrameBursts.l0 k3 a1 a2 t257 x8_3 (wrap64 (x10_3 + 1)))) = some r := by first | (rw [hji24] at H; exact H) | (simp only [hji24] at H ⊢; exact H)
                      have hji24_ : (a2 / 2 ^ min (ji22).toNat 32) = ji24 := hji24
                      have hji24z : (ji22) ≤ 32 → (a2 / 2 ^ (ji22).toNat) = ji24 := shr_small hji24
                      by_cases c25 : (Int.tmod (ji24) 2) = 1
                      · rw [if_pos c25] at H
                        have c25b0 : ((Int.tmod (ji24) 2) == 1) = true := beq_iff_eq.mpr c25
                        have c25b1 : ((Int.tmod (ji24) 2) != 1) = false := bne_eq_false_iff_eq.mpr c25
                        clear c25
                        obtain ⟨ji26, hji26⟩ : ∃ j_ : Int, (wrap64 (Int.tdiv (wrap64 (a1 + x10_3)) 8)) = j_ := ⟨_, rfl⟩
                        replace H : (if 0 ≤ (ji26) then (if (ji26) < (x8_3.length : Int) then (if 0 ≤ (IntKind.u64.wrap (Int.tmod (wrap64 (a1 + x10_3)) 8)) then (rosettelaw03_FrameBursts.l0 k3 a1 a2 t257 (x8_3.set ((ji26) : Int).toNat (Go.bits .xor .u8 (rd x8_3 (ji26)) (shl .u8 1 (IntKind.u64.wrap (Int.tmod (wrap64 (a1 + x10_3)) 8))))) (wrap64 (x10_3 + 1))) else (none)) else (none)) else (none)) = some r := by first | (rw [hji26] at H; exact H) | (simp only [hji26] at H ⊢; exact H)
                        have hji26w : (IntKind.i64.wrap (Int.tdiv (wrap64 (a1 + x10_3)) 8)) = ji26 := (i64_w _).trans hji26
                        by_cases c27 : 0 ≤ (ji26)
                        · rw [if_pos c27] at H
                          have c27b0 : decide (0 ≤ (ji26)) = true := decide_eq_true c27
                          clear c27
                          by_cases c28 : (ji26) < (x8_3.length : Int)
                          · rw [if_pos c28] at H
                            have c28b0 : decide ((ji26) < (x8_3.length : Int)) = true := decide_eq_true c28
                            clear c28
                            obtain ⟨ji29, hji29⟩ : ∃ j_ : Int, (IntKind.u64.wrap (Int.tmod (wrap64 (a1 + x10_3)) 8)) = j_ := ⟨_, rfl⟩
                            replace H : (if 0 ≤ (ji29) then (rosettelaw03_FrameBursts.l0 k3 a1 a2 t257 (x8_3.set ((ji26) : Int).toNat (Go.bits .xor .u8 (rd x8_3 (ji26)) (shl .u8 1 (ji29)))) (wrap64 (x10_3 + 1))) else (none)) = some r := by first | (rw [hji29] at H; exact H) | (simp only [hji29] at H ⊢; exact H)
                            by_cases c30 : 0 ≤ (ji29)
                            · rw [if_pos c30] at H
                              have c30b0 := eq_true c30
                              have c30b1 : decide (0 ≤ (ji29)) = true := decide_eq_true c30
                              clear c30
                              obtain ⟨ji31, hji31⟩ : ∃ j_ : Int, (shl .u8 1 (ji29)) = j_ := ⟨_, rfl⟩
                              replace H : (rosettelaw03_FrameBursts.l0 k3 a1 a2 t257 (x8_3.set ((ji26) : Int).toNat (Go.bits .xor .u8 (rd x8_3 (ji26)) (ji31))) (wrap64 (x10_3 + 1))) = some r := by first | (rw [hji31] at H; exact H) | (simp only [hji31] at H ⊢; exact H)
                              have hji31_ : (IntKind.u8.wrap (1 * 2 ^ min (ji29).toNat 8)) = ji31 := hji31
                              have hji31z : (ji29) ≤ 8 → (IntKind.u8.wrap (1 * 2 ^ (ji29).toNat)) = ji31 := shl_small hji31
                              have hji31u : (IntKind.u8.wrap (2 ^ min (ji29).toNat 8)) = ji31 := by have h_ := hji31_; rw [Int.one_mul] at h_; exact h_
                              have hji31v : (ji29) ≤ 8 → (IntKind.u8.wrap (2 ^ (ji29).toNat)) = ji31 := fun hle_ => by have h_ := hji31z hle_; rw [Int.one_mul] at h_; exact h_
                              have hji31l : (2 ^ ((ji29)).toNat % 256) = ji31 := by have h_ := hji31u; rw [IntKind.wrap_u8, pow_min8] at h_; exact h_
                              obtain ⟨y263, hy263⟩ : ∃ y_ : List Int, y_ = (x8_3.set ((ji26) : Int).toNat (Go.bits .xor .u8 (rd x8_3 (ji26)) (ji31))) := ⟨_, rfl⟩
                              replace H : (rosettelaw03_FrameBursts.l0 k3 a1 a2 t257 y263 (wrap64 (x10_3 + 1))) = some r := by first | (rw [hy263]; with_reducible exact H) | (have H2_ := (Option.bind_some _ _).symm.trans H; rw [hy263]; with_reducible exact H2_) | (have H2_ := (Option.bind_some _ _).symm.trans H; with_reducible exact H2_) | with_reducible exact H | (rw [hy263]; exact H) | exact H
                              have Ny263 := Aside0.mk hy263
                              clear hy263
                              have H' := Aside0.mk H
                              clear H
                              obtain ⟨Ao33, co33, eo33⟩ := Kd.R_slice HO_8.out
                              subst eo33
                              have p262 : 0 ≤ ((ji26) : Int) := of_decide_eq_true (by first | (with_reducible assumption) | assumption)
                              have q262 : (ji26) < (x8_3.length : Int) := of_decide_eq_true (by first | (with_reducible assumption) | assumption)
                              obtain ⟨ad262, e262, hx262_0⟩ := Kd.at_int (Kd.R_reads' HO_8.out).2.2 (ji26) p262 q262
                              cases e262
                              replace p262 := eq_true p262
                              replace q262 := eq_true q262
                              have p32 : 0 ≤ ((ji26) : Int) := of_decide_eq_true (by first | (with_reducible assumption) | assumption)
                              have q32 : ((ji26) : Int) < ((x8_3.length : Int) : Int) := of_decide_eq_true (by first | (with_reducible assumption) | assumption)
                              obtain ⟨go32, co32, eo32, gb32, gl32, cl32, HG32⟩ := Kd.R_form HO_8.out (by omega)
                              (first | cases eo32 | (injection eo32 with ea_ en_ ec_; (first | subst ea_ | (injection ea_ with ea_; subst ea_)); subst ec_; clear en_))
                              have GB32 := Aside0.mk gb32
                              have GG32 := Aside0.mk HG32
                              clear gb32 gl32 HG32
                              (first | simp only [add_plain] at hx262_0 | skip)
                              obtain ⟨hx32_0, hf32_0⟩ := Kd.R_celln 0 HO_8.out ((ji26) : Int) p32 q32
                              replace p32 := eq_true p32
                              replace q32 := eq_true q32
                              have HP34 := Kd.R_putg HO_8.out ((ji26) : Int) (Go.bits .xor .u8 (rd x8_3 (ji26)) (ji31))
                              go_wp2_with (first | ((with_reducible refine gate_store (t := 5) (p := 92) rfl ?_); refine store_event (t := 5) (p := 92) (v := ?vo_w35) (w1 := (wr.setCell ⟨go32, ((ji26) : Int).toNat, none⟩ (.int .u8 (Go.bits .xor .u8 (rd x8_3 (ji26)) (ji31))))) ?hg ?ho ?hn ?hr ?_; (case ho => rfl); (case hg => rfl); (case hn => rfl); (case hr => first | (go_simp; done) | (go_simp; rfl)); intro w35 hw; have hg : wr.grownBy w35 (some go32) := (by rw [hw]; exact HP34.2); have hp_ : Kd.R (Kd.int .u8) 5 w35 w.heap.size (fun _ => True) (.slice (some ⟨go32, 0, none⟩) x8_3.length co33) y263 := (by rw [hw, Ny263.out]; exact HP34.1); clear HP34; have n0_ := Aside0.mk (hp_); have n1_ := Aside0.mk ((by rw [hw]; exact below_set (HB.out) GB32.out : Below w.heap.size w w35)); clear HO_8; clear HB; have HO_8 := n0_; have HB := n1_; clear n0_ n1_; clear hg hw hp_))
                              go_roundg k3
                              case measure => have := HJ5.out; have := HJ11.out; have := HK3.out; omega
                              case rel => exact ⟨(y263), (wrap64 (x10_3 + 1)), (by first | rfl | (simp; done) | (simp [*]; done)), H', ⟨by have := HJ5.out; have := HJ11.out; have := HK3.out; omega⟩, ⟨by (with_reducible repeat (first | apply Kd.R_alloc | apply Kd.R_drewN | apply Kd.R_drew)); exact HO_8.out⟩, ⟨by repeat (first | (with_reducible first | exact HB.out | apply below_alloc | apply pw_below_drewN | apply below_drew1) | exact HB.out)⟩⟩
                            · rw [if_neg c30] at H
                              exact absurd H (by simp)
                          · rw [if_neg c28] at H
                            exact absurd H (by simp)
                        · rw [if_neg c27] at H
                          exact absurd H (by simp)
                      · rw [if_neg c25] at H
                        have c25b0 : ((Int.tmod (ji24) 2) == 1) = false := beq_eq_false_iff_ne.mpr c25
                        have c25b1 : ((Int.tmod (ji24) 2) != 1) = true := bne_iff_ne.mpr c25
                        have H' := Aside0.mk H
                        clear H
                        go_wp2
                        go_roundg k3
                        case measure => have := HJ5.out; have := HJ11.out; have := HK3.out; omega
                        case rel => exact ⟨(x8_3), (wrap64 (x10_3 + 1)), (by first | rfl | (simp; done) | (simp [*]; done)), H', ⟨by have := HJ5.out; have := HJ11.out; have := HK3.out; omega⟩, ⟨by (with_reducible repeat (first | apply Kd.R_alloc | apply Kd.R_drewN | apply Kd.R_drew)); exact HO_8.out⟩, ⟨by repeat (first | (with_reducible first | exact HB.out | apply below_alloc | apply pw_below_drewN | apply below_drew1) | exact HB.out)⟩⟩
                    · rw [if_neg c23] at H
                      exact absurd H (by simp)
                  · rw [if_neg c21] at H
                    have c21b0 : decide (x10_3 < 32) = false := decide_eq_false c21
                    clear c21
                    replace H := Option.bind_eq_some_iff.mp H
                    obtain ⟨⟨t264, t265, t266⟩, A360, H⟩ := H
                    replace H : (if t257 = true then (if t266 = 6 then (if (t264.length : Int) = 0 then (some (t265 == 0)) else (some false)) else (some false)) else (some false)) = some r := H
                    have A36 := Aside0.mk A360
                    clear A360
                    by_cases c37 : t257 = true
                    · subst c37
                      have H1 : (if t266 = 6 then (if (t264.length : Int) = 0 then (some (t265 == 0)) else (some false)) else (some false)) = some r := by rw [if_pos rfl] at H; exact H
                      clear H
                      have H := H1
                      clear H1
                      by_cases c38 : t266 = 6
                      · rw [if_pos c38] at H
                        have c38b0 : (t266 == 6) = true := beq_iff_eq.mpr c38
                        have c38b1 : (t266 != 6) = false := bne_eq_false_iff_eq.mpr c38
                        clear c38
                        by_cases c39 : (t264.length : Int) = 0
                        · rw [if_pos c39] at H
                          have c39b0 : ((t264.length : Int) == 0) = true := beq_iff_eq.mpr c39
                          have c39b1 : ((t264.length : Int) != 0) = false := bne_eq_false_iff_eq.mpr c39
                          clear c39
                          obtain rfl := Option.some.inj H
                          obtain ⟨Ao40, co40, eo40⟩ := Kd.R_slice HO_8.out
                          subst eo40
                          go_wp2_with (first | ((with_reducible refine gate_callee (f := 11) rfl ?_); refine goesL_ (some 95) rfl rfl Try.func11 (by kernel_rfl) rfl #[.slice Ao40 x8_3.length co40] rfl (by (try simp only [List.map_toArray, List.map_cons, List.map_nil]); first | done | rfl | (simp only [List.length_drop, List.length_take]; rfl)) ?_; (with_reducible refine (frame_Next.calls _ _ x8_3 t264 t265 t266 _ ?side1 ?side2 A36.out).mono ?_); (case side1 => repeat (first | exact (Kd.R_reads' HO_8.out).2.2 | (with_reducible refine Kd.C_alloc ?_ _) | (with_reducible refine Kd.C_drewN ?_ _) | (with_reducible refine Kd.C_drew ?_))); (case side2 => exact (Kd.R_reads' HO_8.out).2.1); rintro e w41 ⟨v267, rfl, ho0, hb⟩; refine ⟨_, rfl, ?_⟩; have n0_ := Aside0.mk (Kd.R_elder' (by (with_reducible repeat (first | apply Kd.R_alloc | apply Kd.R_drewN | apply Kd.R_drew)); exact HO_8.out) (Kd.R_base ho0) hb); have n1_ := Aside0.mk (Kd.R_lower (Kd.R_new' ho0 (Kd.R_lt (by (with_reducible repeat (first | apply Kd.R_alloc | apply Kd.R_drewN | apply Kd.R_drew)); exact HO_8.out))) (below_size (by repeat (first | (with_reducible first | exact HB.out | apply below_alloc | apply pw_below_drewN | apply below_drew1) | exact HB.out)))); have n2_ := Aside0.mk (below_step (by repeat (first | (with_reducible first | exact HB.out | apply below_alloc | apply pw_below_drewN | apply below_drew1) | exact HB.out)) hb); clear HO_8; clear HB; have HO_8 := n0_; have HO268 := n1_; have HB := n2_; clear n0_ n1_ n2_; (try clear hb); (try clear hb2); (try clear hk); (try clear hi); (try clear ho0); obtain ⟨Ao42, co42, eo42⟩ := Kd.R_slice HO268.out; subst eo42))
                          go_ret
                          exact ⟨by first | rfl | (simp [errW_none, errW_some] <;> rfl) | (simp [*, errW_none, errW_some] <;> rfl), by repeat (first | (with_reducible first | exact HB.out | apply below_alloc | apply pw_below_drewN | apply below_drew1) | exact HB.out)⟩
                        · rw [if_neg c39] at H
                          have c39b0 : ((t264.length : Int) == 0) = false := beq_eq_false_iff_ne.mpr c39
                          have c39b1 : ((t264.length : Int) != 0) = true := bne_iff_ne.mpr c39
                          have c39b2 : ¬ (t264 = []) := fun h_ => c39 (by rw [h_]; rfl)
                          obtain rfl := Option.some.inj H
                          obtain ⟨Ao43, co43, eo43⟩ := Kd.R_slice HO_8.out
                          subst eo43
                          go_wp2_with (first | ((with_reducible refine gate_callee (f := 11) rfl ?_); refine goesL_ (some 95) rfl rfl Try.func11 (by kernel_rfl) rfl #[.slice Ao43 x8_3.length co43] rfl (by (try simp only [List.map_toArray, List.map_cons, List.map_nil]); first | done | rfl | (simp only [List.length_drop, List.length_take]; rfl)) ?_; (with_reducible refine (frame_Next.calls _ _ x8_3 t264 t265 t266 _ ?side1 ?side2 A36.out).mono ?_); (case side1 => repeat (first | exact (Kd.R_reads' HO_8.out).2.2 | (with_reducible refine Kd.C_alloc ?_ _) | (with_reducible refine Kd.C_drewN ?_ _) | (with_reducible refine Kd.C_drew ?_))); (case side2 => exact (Kd.R_reads' HO_8.out).2.1); rintro e w44 ⟨v267, rfl, ho0, hb⟩; refine ⟨_, rfl, ?_⟩; have n0_ := Aside0.mk (Kd.R_elder' (by (with_reducible repeat (first | apply Kd.R_alloc | apply Kd.R_drewN | apply Kd.R_drew)); exact HO_8.out) (Kd.R_base ho0) hb); have n1_ := Aside0.mk (Kd.R_lower (Kd.R_new' ho0 (Kd.R_lt (by (with_reducible repeat (first | apply Kd.R_alloc | apply Kd.R_drewN | apply Kd.R_drew)); exact HO_8.out))) (below_size (by repeat (first | (with_reducible first | exact HB.out | apply below_alloc | apply pw_below_drewN | apply below_drew1) | exact HB.out)))); have n2_ := Aside0.mk (below_step (by repeat (first | (with_reducible first | exact HB.out | apply below_alloc | apply pw_below_drewN | apply below_drew1) | exact HB.out)) hb); clear HO_8; clear HB; have HO_8 := n0_; have HO268 := n1_; have HB := n2_; clear n0_ n1_ n2_; (try clear hb); (try clear hb2); (try clear hk); (try clear hi); (try clear ho0); obtain ⟨Ao45, co45, eo45⟩ := Kd.R_slice HO268.out; subst eo45))
                          go_ret
                          exact ⟨by first | rfl | (simp [errW_none, errW_some] <;> rfl) | (simp [*, errW_none, errW_some] <;> rfl), by repeat (first | (with_reducible first | exact HB.out | apply below_alloc | apply pw_below_drewN | apply below_drew1) | exact HB.out)⟩
                      · rw [if_neg c38] at H
                        have c38b0 : (t266 == 6) = false := beq_eq_false_iff_ne.mpr c38
                        have c38b1 : (t266 != 6) = true := bne_iff_ne.mpr c38
                        obtain rfl := Option.some.inj H
                        obtain ⟨Ao46, co46, eo46⟩ := Kd.R_slice HO_8.out
                        subst eo46
                        go_wp2_with (first | ((with_reducible refine gate_callee (f := 11) rfl ?_); refine goesL_ (some 95) rfl rfl Try.func11 (by kernel_rfl) rfl #[.slice Ao46 x8_3.length co46] rfl (by (try simp only [List.map_toArray, List.map_cons, List.map_nil]); first | done | rfl | (simp only [List.length_drop, List.length_take]; rfl)) ?_; (with_reducible refine (frame_Next.calls _ _ x8_3 t264 t265 t266 _ ?side1 ?side2 A36.out).mono ?_); (case side1 => repeat (first | exact (Kd.R_reads' HO_8.out).2.2 | (with_reducible refine Kd.C_alloc ?_ _) | (with_reducible refine Kd.C_drewN ?_ _) | (with_reducible refine Kd.C_drew ?_))); (case side2 => exact (Kd.R_reads' HO_8.out).2.1); rintro e w47 ⟨v267, rfl, ho0, hb⟩; refine ⟨_, rfl, ?_⟩; have n0_ := Aside0.mk (Kd.R_elder' (by (with_reducible repeat (first | apply Kd.R_alloc | apply Kd.R_drewN | apply Kd.R_drew)); exact HO_8.out) (Kd.R_base ho0) hb); have n1_ := Aside0.mk (Kd.R_lower (Kd.R_new' ho0 (Kd.R_lt (by (with_reducible repeat (first | apply Kd.R_alloc | apply Kd.R_drewN | apply Kd.R_drew)); exact HO_8.out))) (below_size (by repeat (first | (with_reducible first | exact HB.out | apply below_alloc | apply pw_below_drewN | apply below_drew1) | exact HB.out)))); have n2_ := Aside0.mk (below_step (by repeat (first | (with_reducible first | exact HB.out | apply below_alloc | apply pw_below_drewN | apply below_drew1) | exact HB.out)) hb); clear HO_8; clear HB; have HO_8 := n0_; have HO268 := n1_; have HB := n2_; clear n0_ n1_ n2_; (try clear hb); (try clear hb2); (try clear hk); (try clear hi); (try clear ho0)))
                        go_ret
                        exact ⟨by first | rfl | (simp [errW_none, errW_some] <;> rfl) | (simp [*, errW_none, errW_some] <;> rfl), by repeat (first | (with_reducible first | exact HB.out | apply below_alloc | apply pw_below_drewN | apply below_drew1) | exact HB.out)⟩
                    · replace c37 := Bool.eq_false_iff.mpr c37
                      subst c37
                      have H1 : (some false) = some r := by rw [if_neg (show ¬ (false = true) by decide)] at H; exact H
                      clear H
                      have H := H1
                      clear H1
                      obtain rfl := Option.some.inj H
                      obtain ⟨Ao48, co48, eo48⟩ := Kd.R_slice HO_8.out
                      subst eo48
                      go_wp2_with (first | ((with_reducible refine gate_callee (f := 11) rfl ?_); refine goesL_ (some 95) rfl rfl Try.func11 (by kernel_rfl) rfl #[.slice Ao48 x8_3.length co48] rfl (by (try simp only [List.map_toArray, List.map_cons, List.map_nil]); first | done | rfl | (simp only [List.length_drop, List.length_take]; rfl)) ?_; (with_reducible refine (frame_Next.calls _ _ x8_3 t264 t265 t266 _ ?side1 ?side2 A36.out).mono ?_); (case side1 => repeat (first | exact (Kd.R_reads' HO_8.out).2.2 | (with_reducible refine Kd.C_alloc ?_ _) | (with_reducible refine Kd.C_drewN ?_ _) | (with_reducible refine Kd.C_drew ?_))); (case side2 => exact (Kd.R_reads' HO_8.out).2.1); rintro e w49 ⟨v267, rfl, ho0, hb⟩; refine ⟨_, rfl, ?_⟩; have n0_ := Aside0.mk (Kd.R_elder' (by (with_reducible repeat (first | apply Kd.R_alloc | apply Kd.R_drewN | apply Kd.R_drew)); exact HO_8.out) (Kd.R_base ho0) hb); have n1_ := Aside0.mk (Kd.R_lower (Kd.R_new' ho0 (Kd.R_lt (by (with_reducible repeat (first | apply Kd.R_alloc | apply Kd.R_drewN | apply Kd.R_drew)); exact HO_8.out))) (below_size (by repeat (first | (with_reducible first | exact HB.out | apply below_alloc | apply pw_below_drewN | apply below_drew1) | exact HB.out)))); have n2_ := Aside0.mk (below_step (by repeat (first | (with_reducible first | exact HB.out | apply below_alloc | apply pw_below_drewN | apply below_drew1) | exact HB.out)) hb); clear HO_8; clear HB; have HO_8 := n0_; have HO268 := n1_; have HB := n2_; clear n0_ n1_ n2_; (try clear hb); (try clear hb2); (try clear hk); (try clear hi); (try clear ho0)))
                      go_ret
                      exact ⟨by first | rfl | (simp [errW_none, errW_some] <;> rfl) | (simp [*, errW_none, errW_some] <;> rfl), by repeat (first | (with_reducible first | exact HB.out | apply below_alloc | apply pw_below_drewN | apply below_drew1) | exact HB.out)⟩

/-- THE ONE PURE STATEMENT of rosettelaw03_FrameBursts: yours. -/
def rosettelaw03_FrameBursts.Pure : Prop := ∀ (l0 : List Int) (a1 : Int) (a2 : Int), l0.length ≤ maxLen → l0.length * 1 ≤ 140737488351232 → (∀ x ∈ l0, (Lit.int .u8 x).wf = true) → (Lit.int .i64 a1).wf = true → (Lit.int .u32 a2).wf = true → ∃ k, rosettelaw03_FrameBursts.f k l0 a1 a2 = some true
theorem rosettelaw03_FrameBursts.walk (P : rosettelaw03_FrameBursts.Pure) (a0 : Option Addr) (len0 cap0 : Nat) (z0 : List Int) (a1 : Int) (a2 : Int) (w : World) (w0 : (a0 = none ∧ len0 = 0 ∧ cap0 = 0 ∧ z0 = []) ∨ ∃ x, a0 = some x ∧ len0 ≤ cap0 ∧ cap0 ≤ maxLen ∧ z0.length = cap0 ∧ (∀ i, i < z0.length → w.cell? (x.add i) = some (.int .u8 (z0.getD i 0))) ∧ ∀ n ∈ z0, (Lit.int .u8 n).wf = true) (y0 : len0 * 1 ≤ 140737488351232) (w1 : (Lit.int .i64 a1).wf = true) (w2 : (Lit.int .u32 a2).wf = true) :
    Calls Try.prog 6 #[.slice a0 len0 cap0, .int .i64 a1, .int .u32 a2] w fun e w' => e = .returned (.bool true) ∧ Below w.heap.size w w' := by
  obtain ⟨l0, rfl, hr0, hm0, hw0, hc0⟩ := ReadsInt.ofRowC w0
  obtain ⟨k, h⟩ := P l0 a1 a2 hm0 y0 hw0 w1 w2
  refine (rosettelaw03_FrameBursts.calls k _ _ l0 a1 a2 true w (Kd.C_of_reads (d := (0 : Int)) (h1 := fun _ => rfl) hr0) hc0 h).mono ?_
  rintro e w' ⟨rfl, hd⟩
  exact ⟨rfl, hd⟩

end Go.Proofs.Ytckjmbpagippkaa.G
