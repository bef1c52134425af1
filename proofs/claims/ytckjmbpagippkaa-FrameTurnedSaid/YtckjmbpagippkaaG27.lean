-- Written by a program of this session (wip/tools/myprint.py), over the kit's print.
import Derived.Test.YtckjmbpagippkaaG0
import Derived.Test.YtckjmbpagippkaaG7
import Derived.Test.YtckjmbpagippkaaG11
import Derived.Test.YtckjmbpagippkaaG19
namespace Go.Proofs.Ytckjmbpagippkaa.G
open Go.RowKit Go.Proofs.YtckjmbpagippkaaW.PrintWords Go.Proofs.YtckjmbpagippkaaW.PrintLast Go.Proofs.YtckjmbpagippkaaW.PrintMore
attribute [local go_sem] max2_int min2_int max_two min_two max_three min_three max_four min_four   -- for this text's walks alone
set_option linter.unusedVariables false
set_option linter.unusedSimpArgs false

/-! ### rosettelaw03_FrameTurned: function 5 -/
mutual
def rosettelaw03_FrameTurned.j0 : Nat → List Int → Int → Int → Int → Bool → List Int → Int → Int → Bool → Option (Bool)
  | 0, _, _, _, _, _, _, _, _, _ => none
  | k + 1, x0, x1, x2, x3, x9, x10, x11, x12, x34 => if x34 = true then (some false) else (if (x0.length : Int) > 1000 then (rosettelaw03_FrameTurned.j1 k x0 x1 x2 x3 x9 x10 x11 true) else (if x11 = 0 then (if x1 < 0 then (rosettelaw03_FrameTurned.j1 k x0 x1 x2 x3 x9 x10 x11 true) else (if x1 ≥ x12 then (rosettelaw03_FrameTurned.j1 k x0 x1 x2 x3 x9 x10 x11 true) else (if x2 < 0 then (rosettelaw03_FrameTurned.j1 k x0 x1 x2 x3 x9 x10 x11 true) else (if x2 ≥ x12 then (rosettelaw03_FrameTurned.j1 k x0 x1 x2 x3 x9 x10 x11 true) else (if x3 < 0 then (rosettelaw03_FrameTurned.j1 k x0 x1 x2 x3 x9 x10 x11 true) else (rosettelaw03_FrameTurned.j1 k x0 x1 x2 x3 x9 x10 x11 (decide (x3 ≥ x12)))))))) else (rosettelaw03_FrameTurned.j1 k x0 x1 x2 x3 x9 x10 x11 true)))
def rosettelaw03_FrameTurned.j1 : Nat → List Int → Int → Int → Int → Bool → List Int → Int → Bool → Option (Bool)
  | 0, _, _, _, _, _, _, _, _ => none
  | k + 1, x0, x1, x2, x3, x9, x10, x11, x68 => if x68 = true then (if x9 = true then (if x11 = 0 then (some true) else (some (decide ((x0.length : Int) > 8192)))) else (some false)) else (if 0 ≤ (wrap64 (Int.tdiv x1 8)) then (if (wrap64 (Int.tdiv x1 8)) < (x10.length : Int) then (if 0 ≤ (IntKind.u64.wrap (Int.tmod x1 8)) then ((some (x10.set ((wrap64 (Int.tdiv x1 8)) : Int).toNat (Go.bits .xor .u8 (rd x10 (wrap64 (Int.tdiv x1 8))) (shl .u8 1 (IntKind.u64.wrap (Int.tmod x1 8)))) : List Int)).bind fun y249 => (if x2 = x1 then (if x3 = x1 then ((frame_Next.f y249).bind fun bt250 => (if x9 = true then (if bt250.2.2 = 6 then (if (bt250.1.length : Int) = 0 then (some (bt250.2.1 == 0)) else (some false)) else (some false)) else (some false))) else (if x3 = x2 then ((frame_Next.f y249).bind fun bt255 => (if x9 = true then (if bt255.2.2 = 6 then (if (bt255.1.length : Int) = 0 then (some (bt255.2.1 == 0)) else (some false)) else (some false)) else (some false))) else (if 0 ≤ (wrap64 (Int.tdiv x3 8)) then (if (wrap64 (Int.tdiv x3 8)) < (x10.length : Int) then (if 0 ≤ (IntKind.u64.wrap (Int.tmod x3 8)) then ((frame_Next.f (y249.set ((wrap64 (Int.tdiv x3 8)) : Int).toNat (Go.bits .xor .u8 (rd y249 (wrap64 (Int.tdiv x3 8))) (shl .u8 1 (IntKind.u64.wrap (Int.tmod x3 8)))))).bind fun bt262 => (if x9 = true then (if bt262.2.2 = 6 then (if (bt262.1.length : Int) = 0 then (some (bt262.2.1 == 0)) else (some false)) else (some false)) else (some false))) else (none)) else (none)) else (none)))) else (if 0 ≤ (wrap64 (Int.tdiv x2 8)) then (if (wrap64 (Int.tdiv x2 8)) < (x10.length : Int) then (if 0 ≤ (IntKind.u64.wrap (Int.tmod x2 8)) then ((some (y249.set ((wrap64 (Int.tdiv x2 8)) : Int).toNat (Go.bits .xor .u8 (rd y249 (wrap64 (Int.tdiv x2 8))) (shl .u8 1 (IntKind.u64.wrap (Int.tmod x2 8)))) : List Int)).bind fun y268 => (if x3 = x1 then ((frame_Next.f y268).bind fun bt269 => (if x9 = true then (if bt269.2.2 = 6 then (if (bt269.1.length : Int) = 0 then (some (bt269.2.1 == 0)) else (some false)) else (some false)) else (some false))) else (if x3 = x2 then ((frame_Next.f y268).bind fun bt274 => (if x9 = true then (if bt274.2.2 = 6 then (if (bt274.1.length : Int) = 0 then (some (bt274.2.1 == 0)) else (some false)) else (some false)) else (some false))) else (if 0 ≤ (wrap64 (Int.tdiv x3 8)) then (if (wrap64 (Int.tdiv x3 8)) < (x10.length : Int) then (if 0 ≤ (IntKind.u64.wrap (Int.tmod x3 8)) then ((frame_Next.f (y268.set ((wrap64 (Int.tdiv x3 8)) : Int).toNat (Go.bits .xor .u8 (rd y268 (wrap64 (Int.tdiv x3 8))) (shl .u8 1 (IntKind.u64.wrap (Int.tmod x3 8)))))).bind fun bt281 => (if x9 = true then (if bt281.2.2 = 6 then (if (bt281.1.length : Int) = 0 then (some (bt281.2.1 == 0)) else (some false)) else (some false)) else (some false))) else (none)) else (none)) else (none))))) else (none)) else (none)) else (none)))) else (none)) else (none)) else (none))
end
def rosettelaw03_FrameTurned.f (k : Nat) (l0 : List Int) (a1 : Int) (a2 : Int) (a3 : Int) : Option (Bool) := (rosettelaw03_small.f).bind fun t243 => ((frame_Make.f l0).bind fun bt244 => (if bt244.2 = 0 then (rosettelaw03_FrameTurned.j0 k l0 a1 a2 a3 t243 bt244.1 bt244.2 (wrap64 (8 * (bt244.1.length : Int))) ((bt244.1.length : Int) != (wrap64 ((l0.length : Int) + 10)))) else (rosettelaw03_FrameTurned.j0 k l0 a1 a2 a3 t243 bt244.1 bt244.2 (wrap64 (8 * (bt244.1.length : Int))) false)))
theorem rosettelaw03_FrameTurned.mono_l : ∀ k, (∀ y0 y1 y2 y3 y4 y5 y6 y7 y8, LeO (rosettelaw03_FrameTurned.j0 k y0 y1 y2 y3 y4 y5 y6 y7 y8) (rosettelaw03_FrameTurned.j0 (k + 1) y0 y1 y2 y3 y4 y5 y6 y7 y8)) ∧ (∀ y0 y1 y2 y3 y4 y5 y6 y7, LeO (rosettelaw03_FrameTurned.j1 k y0 y1 y2 y3 y4 y5 y6 y7) (rosettelaw03_FrameTurned.j1 (k + 1) y0 y1 y2 y3 y4 y5 y6 y7))
  | 0 => ⟨fun _ _ _ _ _ _ _ _ _ r h => by simp [rosettelaw03_FrameTurned.j0] at h, fun _ _ _ _ _ _ _ _ r h => by simp [rosettelaw03_FrameTurned.j1] at h⟩
  | k + 1 => by
    obtain ⟨ih0, ih1⟩ := rosettelaw03_FrameTurned.mono_l k
    refine ⟨?_, ?_⟩
    · intro y0 y1 y2 y3 y4 y5 y6 y7 y8
      unfold rosettelaw03_FrameTurned.j0
      repeat' first
      | (with_reducible exact ih0 _ _ _ _ _ _ _ _ _)
      | (with_reducible exact ih1 _ _ _ _ _ _ _ _)
      | (with_reducible exact LeO.refl _)
      | (with_reducible exact LeO.none _)
      | (with_reducible refine LeO.ite ?_ ?_)
      | (with_reducible refine LeO.bind ?_ (fun _ => ?_))
      | exact ih0 _ _ _ _ _ _ _ _ _
      | exact ih1 _ _ _ _ _ _ _ _
      | exact LeO.none _
      | refine LeO.ite ?_ ?_
      | refine LeO.bind ?_ (fun _ => ?_)
    · intro y0 y1 y2 y3 y4 y5 y6 y7
      unfold rosettelaw03_FrameTurned.j1
      repeat' first
      | (with_reducible exact ih0 _ _ _ _ _ _ _ _ _)
      | (with_reducible exact ih1 _ _ _ _ _ _ _ _)
      | (with_reducible exact LeO.refl _)
      | (with_reducible exact LeO.none _)
      | (with_reducible refine LeO.ite ?_ ?_)
      | (with_reducible refine LeO.bind ?_ (fun _ => ?_))
      | exact ih0 _ _ _ _ _ _ _ _ _
      | exact ih1 _ _ _ _ _ _ _ _
      | exact LeO.none _
      | refine LeO.ite ?_ ?_
      | refine LeO.bind ?_ (fun _ => ?_)
theorem rosettelaw03_FrameTurned.mono : ∀ a0 a1 a2 a3 k, LeO (rosettelaw03_FrameTurned.f k a0 a1 a2 a3) (rosettelaw03_FrameTurned.f (k + 1) a0 a1 a2 a3) := by
  intro a0 a1 a2 a3 k
  obtain ⟨ih0, ih1⟩ := rosettelaw03_FrameTurned.mono_l k
  unfold rosettelaw03_FrameTurned.f
  repeat' first
      | (with_reducible exact ih0 _ _ _ _ _ _ _ _ _)
      | (with_reducible exact ih1 _ _ _ _ _ _ _ _)
      | (with_reducible exact LeO.refl _)
      | (with_reducible exact LeO.none _)
      | (with_reducible refine LeO.ite ?_ ?_)
      | (with_reducible refine LeO.bind ?_ (fun _ => ?_))
      | exact ih0 _ _ _ _ _ _ _ _ _
      | exact ih1 _ _ _ _ _ _ _ _
      | exact LeO.none _
      | refine LeO.ite ?_ ?_
      | refine LeO.bind ?_ (fun _ => ?_)
set_option maxHeartbeats 8000000 in
set_option maxRecDepth 100000 in
theorem rosettelaw03_FrameTurned.calls (k : Nat) (A0 : Option Addr) (c0 : Nat) (l0 : List Int) (a1 : Int) (a2 : Int) (a3 : Int) (r : Bool) (w : World) (hr0 : Kd.C (Kd.int .u8) w A0 l0.length l0) (hc0 : l0.length ≤ c0) (h : rosettelaw03_FrameTurned.f k l0 a1 a2 a3 = some r) :
    Calls Try.prog 5 #[.slice A0 l0.length c0, .int .i64 a1, .int .i64 a2, .int .i64 a3] w fun e w' => e = .returned (.bool r) ∧ Below w.heap.size w w' := by
  have HR0 := Aside0.mk hr0
  have HC0 := Aside0.mk hc0
  clear hr0 hc0
  have HB := Aside0.mk (Below.refl w.heap.size w)
  have H : ((rosettelaw03_small.f).bind fun t243 => ((frame_Make.f l0).bind fun bt244 => (if bt244.2 = 0 then (rosettelaw03_FrameTurned.j0 k l0 a1 a2 a3 t243 bt244.1 bt244.2 (wrap64 (8 * (bt244.1.length : Int))) ((bt244.1.length : Int) != (wrap64 ((l0.length : Int) + 10)))) else (rosettelaw03_FrameTurned.j0 k l0 a1 a2 a3 t243 bt244.1 bt244.2 (wrap64 (8 * (bt244.1.length : Int))) false)))) = some r := h
  clear h
  replace H := Option.bind_eq_some_iff.mp H
  obtain ⟨t243, A50, H⟩ := H
  replace H : ((frame_Make.f l0).bind fun bt244 => (if bt244.2 = 0 then (rosettelaw03_FrameTurned.j0 k l0 a1 a2 a3 t243 bt244.1 bt244.2 (wrap64 (8 * (bt244.1.length : Int))) ((bt244.1.length : Int) != (wrap64 ((l0.length : Int) + 10)))) else (rosettelaw03_FrameTurned.j0 k l0 a1 a2 a3 t243 bt244.1 bt244.2 (wrap64 (8 * (bt244.1.length : Int))) false))) = some r := H
  have A5 := Aside0.mk A50
  clear A50
  replace H := Option.bind_eq_some_iff.mp H
  obtain ⟨⟨t244, t245⟩, A60, H⟩ := H
  replace H : (if t245 = 0 then (rosettelaw03_FrameTurned.j0 k l0 a1 a2 a3 t243 t244 t245 (wrap64 (8 * (t244.length : Int))) ((t244.length : Int) != (wrap64 ((l0.length : Int) + 10)))) else (rosettelaw03_FrameTurned.j0 k l0 a1 a2 a3 t243 t244 t245 (wrap64 (8 * (t244.length : Int))) false)) = some r := H
  have A6 := Aside0.mk A60
  clear A60
  have HC7 := Aside0.mk H
  clear H
  go_enter Try.func5, Try.ntmps5
  go_upto_region 4 with (first | ((with_reducible refine gate_callee (f := 8) rfl ?_); refine goesL_ (some 16) rfl rfl Try.func8 (by kernel_rfl) rfl #[] rfl (by (try simp only [List.map_toArray, List.map_cons, List.map_nil]); first | done | rfl | (simp only [List.length_drop, List.length_take]; rfl)) ?_; (with_reducible refine (rosettelaw03_small.calls  t243 _ A5.out).mono ?_); rintro e w8 ⟨rfl, hb⟩; refine ⟨_, rfl, ?_⟩; have n0_ := Aside0.mk (below_step (by repeat (first | (with_reducible first | exact HB.out | apply below_alloc | apply pw_below_drewN | apply below_drew1) | exact HB.out)) hb); clear HB; have HB := n0_; clear n0_; (try clear hb); (try clear hb2); (try clear hk); (try clear hi)) | ((with_reducible refine gate_callee (f := 9) rfl ?_); refine goesL_ (some 19) rfl rfl Try.func9 (by kernel_rfl) rfl #[.slice A0 l0.length c0] rfl (by (try simp only [List.map_toArray, List.map_cons, List.map_nil]); first | done | rfl | (simp only [List.length_drop, List.length_take]; rfl)) ?_; (with_reducible refine (frame_Make.calls _ _ l0 t244 t245 _ ?side1 ?side2 A6.out).mono ?_); (case side1 => repeat (first | exact (Kd.C_below HR0.out HB.out) | (with_reducible refine Kd.C_alloc ?_ _) | (with_reducible refine Kd.C_drewN ?_ _) | (with_reducible refine Kd.C_drew ?_))); (case side2 => exact HC0.out); rintro e w9 ⟨v246, rfl, ho0, hb⟩; refine ⟨_, rfl, ?_⟩; have n0_ := Aside0.mk (Kd.R_lower ho0 (below_size (by repeat (first | (with_reducible first | exact HB.out | apply below_alloc | apply pw_below_drewN | apply below_drew1) | exact HB.out)))); have n1_ := Aside0.mk (below_step (by repeat (first | (with_reducible first | exact HB.out | apply below_alloc | apply pw_below_drewN | apply below_drew1) | exact HB.out)) hb); clear HB; have HO247 := n0_; have HB := n1_; clear n0_ n1_; (try clear hb); (try clear hb2); (try clear hk); (try clear hi); (try clear ho0); obtain ⟨Ao10, co10, eo10⟩ := Kd.R_slice HO247.out; subst eo10))
  (try simp only [Act.put, List.setIfInBounds_toArray, List.set_cons_zero, List.set_cons_succ])
  go_cut [34] (fun v34 wc => ∃ (kq : Nat) (x34_6 : Bool), v34 = .bool x34_6 ∧ Aside0 (rosettelaw03_FrameTurned.j0 kq l0 a1 a2 a3 t243 t244 t245 (wrap64 (8 * (t244.length : Int))) x34_6 = some r) ∧ Aside0 (kq ≤ k) ∧ Aside0 (Kd.R (Kd.int .u8) 5 wc w.heap.size (fun _ => True) (.slice Ao10 t244.length co10) t244) ∧ Aside0 (Below w.heap.size w wc))
  case first =>
    have H := HC7.out
    clear HC7
    by_cases c11 : t245 = 0
    · rw [if_pos c11] at H
      have c11b0 : (t245 == 0) = true := beq_iff_eq.mpr c11
      have c11b1 : (t245 != 0) = false := bne_eq_false_iff_eq.mpr c11
      clear c11
      (first | rw [c11b0] | (simp only [i64_w, i32_w]; rw [c11b0]) | skip)
      have H' := Aside0.mk H
      clear H
      go_wp2
      go_meet
      case rel => exact ⟨_, (((t244.length : Int) != (wrap64 ((l0.length : Int) + 10)))), (by first | rfl | (simp; done) | (simp [*]; done)), H', ⟨by first | omega | exact Nat.le_refl _⟩, ⟨by (with_reducible repeat (first | apply Kd.R_alloc | apply Kd.R_drewN | apply Kd.R_drew)); exact HO247.out⟩, ⟨by repeat (first | (with_reducible first | exact HB.out | apply below_alloc | apply pw_below_drewN | apply below_drew1) | exact HB.out)⟩⟩
    · rw [if_neg c11] at H
      have c11b0 : (t245 == 0) = false := beq_eq_false_iff_ne.mpr c11
      have c11b1 : (t245 != 0) = true := bne_iff_ne.mpr c11
      (first | rw [c11b0] | (simp only [i64_w, i32_w]; rw [c11b0]) | skip)
      have H' := Aside0.mk H
      clear H
      go_wp2
      go_meet
      case rel => exact ⟨_, (false), (by first | rfl | (simp; done) | (simp [*]; done)), H', ⟨by first | omega | exact Nat.le_refl _⟩, ⟨by (with_reducible repeat (first | apply Kd.R_alloc | apply Kd.R_drewN | apply Kd.R_drew)); exact HO247.out⟩, ⟨by repeat (first | (with_reducible first | exact HB.out | apply below_alloc | apply pw_below_drewN | apply below_drew1) | exact HB.out)⟩⟩
  case rest =>
    clear HC7
    try clear c1
    try clear p2
    try clear c5
    try clear p6
    try clear c8
    try clear c9
    try clear c11
    try clear c11b0
    try clear c11b1
    obtain ⟨kq, x34_6, rfl, HA, HJ6, HO_10, HB⟩ := hcut
    cases kq with
    | zero => exact absurd HA.out (by simp [rosettelaw03_FrameTurned.j0])
    | succ kj6 =>
      have H := HA.out
      clear HA
      simp only [rosettelaw03_FrameTurned.j0] at H
      by_cases c12 : x34_6 = true
      · subst c12
        have H1 : (some false) = some r := by rw [if_pos rfl] at H; exact H
        clear H
        have H := H1
        clear H1
        obtain rfl := Option.some.inj H
        go_wp2
        go_ret
        exact ⟨by first | rfl | (simp [errW_none, errW_some] <;> rfl) | (simp [*, errW_none, errW_some] <;> rfl), by repeat (first | (with_reducible first | exact HB.out | apply below_alloc | apply pw_below_drewN | apply below_drew1) | exact HB.out)⟩
      · replace c12 := Bool.eq_false_iff.mpr c12
        subst c12
        have H1 : (if (l0.length : Int) > 1000 then (rosettelaw03_FrameTurned.j1 kj6 l0 a1 a2 a3 t243 t244 t245 true) else (if t245 = 0 then (if a1 < 0 then (rosettelaw03_FrameTurned.j1 kj6 l0 a1 a2 a3 t243 t244 t245 true) else (if a1 ≥ (wrap64 (8 * (t244.length : Int))) then (rosettelaw03_FrameTurned.j1 kj6 l0 a1 a2 a3 t243 t244 t245 true) else (if a2 < 0 then (rosettelaw03_FrameTurned.j1 kj6 l0 a1 a2 a3 t243 t244 t245 true) else (if a2 ≥ (wrap64 (8 * (t244.length : Int))) then (rosettelaw03_FrameTurned.j1 kj6 l0 a1 a2 a3 t243 t244 t245 true) else (if a3 < 0 then (rosettelaw03_FrameTurned.j1 kj6 l0 a1 a2 a3 t243 t244 t245 true) else (rosettelaw03_FrameTurned.j1 kj6 l0 a1 a2 a3 t243 t244 t245 (decide (a3 ≥ (wrap64 (8 * (t244.length : Int))))))))))) else (rosettelaw03_FrameTurned.j1 kj6 l0 a1 a2 a3 t243 t244 t245 true))) = some r := by rw [if_neg (show ¬ (false = true) by decide)] at H; exact H
        clear H
        have H := H1
        clear H1
        have HC13 := Aside0.mk H
        clear H
        go_upto_region 6 with (fail)
        go_cut [68] (fun v68 wc => ∃ (kq : Nat) (x68_12 : Bool), v68 = .bool x68_12 ∧ Aside0 (rosettelaw03_FrameTurned.j1 kq l0 a1 a2 a3 t243 t244 t245 x68_12 = some r) ∧ Aside0 (kq ≤ kj6) ∧ Aside0 (Kd.R (Kd.int .u8) 5 wc w.heap.size (fun _ => True) (.slice Ao10 t244.length co10) t244) ∧ Aside0 (Below w.heap.size w wc))
        case first =>
          have H := HC13.out
          clear HC13
          by_cases c14 : (l0.length : Int) > 1000
          · rw [if_pos c14] at H
            have c14b0 : decide (1000 < (l0.length : Int)) = true := decide_eq_true c14
            have c14b1 : decide (1000 < l0.length) = true := decide_eq_true (by omega)
            clear c14
            (first | rw [c14b0] | (simp only [i64_w, i32_w]; rw [c14b0]) | skip)
            have H' := Aside0.mk H
            clear H
            go_wp2
            go_meet
            case rel => exact ⟨_, (true), (by first | rfl | (simp; done) | (simp [*]; done)), H', ⟨by have := HJ6.out; first | omega | exact Nat.le_refl _⟩, ⟨by (with_reducible repeat (first | apply Kd.R_alloc | apply Kd.R_drewN | apply Kd.R_drew)); exact HO_10.out⟩, ⟨by repeat (first | (with_reducible first | exact HB.out | apply below_alloc | apply pw_below_drewN | apply below_drew1) | exact HB.out)⟩⟩
          · rw [if_neg c14] at H
            have c14b0 : decide (1000 < (l0.length : Int)) = false := decide_eq_false c14
            have c14b1 : decide (1000 < l0.length) = false := decide_eq_false (by omega)
            clear c14
            (first | rw [c14b0] | (simp only [i64_w, i32_w]; rw [c14b0]) | skip)
            by_cases c15 : t245 = 0
            · rw [if_pos c15] at H
              have c15b0 : (t245 == 0) = true := beq_iff_eq.mpr c15
              have c15b1 : (t245 != 0) = false := bne_eq_false_iff_eq.mpr c15
              clear c15
              by_cases c16 : a1 < 0
              · rw [if_pos c16] at H
                have c16b0 : decide (a1 < 0) = true := decide_eq_true c16
                clear c16
                have H' := Aside0.mk H
                clear H
                go_wp2
                go_meet
                case rel => exact ⟨_, (true), (by first | rfl | (simp; done) | (simp [*]; done)), H', ⟨by have := HJ6.out; first | omega | exact Nat.le_refl _⟩, ⟨by (with_reducible repeat (first | apply Kd.R_alloc | apply Kd.R_drewN | apply Kd.R_drew)); exact HO_10.out⟩, ⟨by repeat (first | (with_reducible first | exact HB.out | apply below_alloc | apply pw_below_drewN | apply below_drew1) | exact HB.out)⟩⟩
              · rw [if_neg c16] at H
                have c16b0 : decide (a1 < 0) = false := decide_eq_false c16
                clear c16
                by_cases c17 : a1 ≥ (wrap64 (8 * (t244.length : Int)))
                · rw [if_pos c17] at H
                  have c17b0 : decide ((wrap64 (8 * (t244.length : Int))) ≤ a1) = true := decide_eq_true c17
                  clear c17
                  have H' := Aside0.mk H
                  clear H
                  go_wp2
                  go_meet
                  case rel => exact ⟨_, (true), (by first | rfl | (simp; done) | (simp [*]; done)), H', ⟨by have := HJ6.out; first | omega | exact Nat.le_refl _⟩, ⟨by (with_reducible repeat (first | apply Kd.R_alloc | apply Kd.R_drewN | apply Kd.R_drew)); exact HO_10.out⟩, ⟨by repeat (first | (with_reducible first | exact HB.out | apply below_alloc | apply pw_below_drewN | apply below_drew1) | exact HB.out)⟩⟩
                · rw [if_neg c17] at H
                  have c17b0 : decide ((wrap64 (8 * (t244.length : Int))) ≤ a1) = false := decide_eq_false c17
                  clear c17
                  by_cases c18 : a2 < 0
                  · rw [if_pos c18] at H
                    have c18b0 : decide (a2 < 0) = true := decide_eq_true c18
                    clear c18
                    have H' := Aside0.mk H
                    clear H
                    go_wp2
                    go_meet
                    case rel => exact ⟨_, (true), (by first | rfl | (simp; done) | (simp [*]; done)), H', ⟨by have := HJ6.out; first | omega | exact Nat.le_refl _⟩, ⟨by (with_reducible repeat (first | apply Kd.R_alloc | apply Kd.R_drewN | apply Kd.R_drew)); exact HO_10.out⟩, ⟨by repeat (first | (with_reducible first | exact HB.out | apply below_alloc | apply pw_below_drewN | apply below_drew1) | exact HB.out)⟩⟩
                  · rw [if_neg c18] at H
                    have c18b0 : decide (a2 < 0) = false := decide_eq_false c18
                    clear c18
                    by_cases c19 : a2 ≥ (wrap64 (8 * (t244.length : Int)))
                    · rw [if_pos c19] at H
                      have c19b0 : decide ((wrap64 (8 * (t244.length : Int))) ≤ a2) = true := decide_eq_true c19
                      clear c19
                      have H' := Aside0.mk H
                      clear H
                      go_wp2
                      go_meet
                      case rel => exact ⟨_, (true), (by first | rfl | (simp; done) | (simp [*]; done)), H', ⟨by have := HJ6.out; first | omega | exact Nat.le_refl _⟩, ⟨by (with_reducible repeat (first | apply Kd.R_alloc | apply Kd.R_drewN | apply Kd.R_drew)); exact HO_10.out⟩, ⟨by repeat (first | (with_reducible first | exact HB.out | apply below_alloc | apply pw_below_drewN | apply below_drew1) | exact HB.out)⟩⟩
                    · rw [if_neg c19] at H
                      have c19b0 : decide ((wrap64 (8 * (t244.length : Int))) ≤ a2) = false := decide_eq_false c19
                      clear c19
                      by_cases c20 : a3 < 0
                      · rw [if_pos c20] at H
                        have c20b0 : decide (a3 < 0) = true := decide_eq_true c20
                        clear c20
                        have H' := Aside0.mk H
                        clear H
                        go_wp2
                        go_meet
                        case rel => exact ⟨_, (true), (by first | rfl | (simp; done) | (simp [*]; done)), H', ⟨by have := HJ6.out; first | omega | exact Nat.le_refl _⟩, ⟨by (with_reducible repeat (first | apply Kd.R_alloc | apply Kd.R_drewN | apply Kd.R_drew)); exact HO_10.out⟩, ⟨by repeat (first | (with_reducible first | exact HB.out | apply below_alloc | apply pw_below_drewN | apply below_drew1) | exact HB.out)⟩⟩
                      · rw [if_neg c20] at H
                        have c20b0 : decide (a3 < 0) = false := decide_eq_false c20
                        clear c20
                        have H' := Aside0.mk H
                        clear H
                        go_wp2
                        go_meet
                        case rel => exact ⟨_, (decide (a3 ≥ (wrap64 (8 * (t244.length : Int))))), (by first | rfl | (simp; done) | (simp [*]; done)), H', ⟨by have := HJ6.out; first | omega | exact Nat.le_refl _⟩, ⟨by (with_reducible repeat (first | apply Kd.R_alloc | apply Kd.R_drewN | apply Kd.R_drew)); exact HO_10.out⟩, ⟨by repeat (first | (with_reducible first | exact HB.out | apply below_alloc | apply pw_below_drewN | apply below_drew1) | exact HB.out)⟩⟩
            · rw [if_neg c15] at H
              have c15b0 : (t245 == 0) = false := beq_eq_false_iff_ne.mpr c15
              have c15b1 : (t245 != 0) = true := bne_iff_ne.mpr c15
              have H' := Aside0.mk H
              clear H
              go_wp2
              go_meet
              case rel => exact ⟨_, (true), (by first | rfl | (simp; done) | (simp [*]; done)), H', ⟨by have := HJ6.out; first | omega | exact Nat.le_refl _⟩, ⟨by (with_reducible repeat (first | apply Kd.R_alloc | apply Kd.R_drewN | apply Kd.R_drew)); exact HO_10.out⟩, ⟨by repeat (first | (with_reducible first | exact HB.out | apply below_alloc | apply pw_below_drewN | apply below_drew1) | exact HB.out)⟩⟩
        case rest =>
          clear HC13
          try clear c1
          try clear c2
          try clear p2
          try clear c5
          try clear p6
          try clear c8
          try clear c9
          try clear c11
          try clear c11b0
          try clear c11b1
          try clear c12
          try clear c14
          try clear c14b0
          try clear c14b1
          try clear c15
          try clear c15b0
          try clear c15b1
          try clear c16
          try clear c16b0
          try clear c17
          try clear c17b0
          try clear c18
          try clear c18b0
          try clear c19
          try clear c19b0
          try clear c20
          try clear c20b0
          try clear p2
          try clear p6
          obtain ⟨kq, x68_12, rfl, HA, HJ12, HO_10, HB⟩ := hcut
          cases kq with
          | zero => exact absurd HA.out (by simp [rosettelaw03_FrameTurned.j1])
          | succ kj12 =>
            have H := HA.out
            clear HA
            simp only [rosettelaw03_FrameTurned.j1] at H
            by_cases c21 : x68_12 = true
            · subst c21
              have H1 : (if t243 = true then (if t245 = 0 then (some true) else (some (decide ((l0.length : Int) > 8192)))) else (some false)) = some r := by rw [if_pos rfl] at H; exact H
              clear H
              have H := H1
              clear H1
              by_cases c22 : t243 = true
              · subst c22
                have H1 : (if t245 = 0 then (some true) else (some (decide ((l0.length : Int) > 8192)))) = some r := by rw [if_pos rfl] at H; exact H
                clear H
                have H := H1
                clear H1
                by_cases c23 : t245 = 0
                · rw [if_pos c23] at H
                  have c23b0 : (t245 == 0) = true := beq_iff_eq.mpr c23
                  have c23b1 : (t245 != 0) = false := bne_eq_false_iff_eq.mpr c23
                  clear c23
                  obtain rfl := Option.some.inj H
                  go_wp2
                  go_ret
                  exact ⟨by first | rfl | (simp [errW_none, errW_some] <;> rfl) | (simp [*, errW_none, errW_some] <;> rfl), by repeat (first | (with_reducible first | exact HB.out | apply below_alloc | apply pw_below_drewN | apply below_drew1) | exact HB.out)⟩
                · rw [if_neg c23] at H
                  have c23b0 : (t245 == 0) = false := beq_eq_false_iff_ne.mpr c23
                  have c23b1 : (t245 != 0) = true := bne_iff_ne.mpr c23
                  obtain rfl := Option.some.inj H
                  go_wp2
                  go_ret
                  exact ⟨by first | rfl | (simp [errW_none, errW_some] <;> rfl) | (simp [*, errW_none, errW_some] <;> rfl), by repeat (first | (with_reducible first | exact HB.out | apply below_alloc | apply pw_below_drewN | apply below_drew1) | exact HB.out)⟩
              · replace c22 := Bool.eq_false_iff.mpr c22
                subst c22
                have H1 : (some false) = some r := by rw [if_neg (show ¬ (false = true) by decide)] at H; exact H
                clear H
                have H := H1
                clear H1
                obtain rfl := Option.some.inj H
                go_wp2
                go_ret
                exact ⟨by first | rfl | (simp [errW_none, errW_some] <;> rfl) | (simp [*, errW_none, errW_some] <;> rfl), by repeat (first | (with_reducible first | exact HB.out | apply below_alloc | apply pw_below_drewN | apply below_drew1) | exact HB.out)⟩
            · replace c21 := Bool.eq_false_iff.mpr c21
              subst c21
              have H1 : (if 0 ≤ (wrap64 (Int.tdiv a1 8)) then (if (wrap64 (Int.tdiv a1 8)) < (t244.length : Int) then (if 0 ≤ (IntKind.u64.wrap (Int.tmod a1 8)) then ((some (t244.set ((wrap64 (Int.tdiv a1 8)) : Int).toNat (Go.bits .xor .u8 (rd t244 (wrap64 (Int.tdiv a1 8))) (shl .u8 1 (IntKind.u64.wrap (Int.tmod a1 8)))) : List Int)).bind fun y249 => (if a2 = a1 then (if a3 = a1 then ((frame_Next.f y249).bind fun bt250 => (if t243 = true then (if bt250.2.2 = 6 then (if (bt250.1.length : Int) = 0 then (some (bt250.2.1 == 0)) else (some false)) else (some false)) else (some false))) else (if a3 = a2 then ((frame_Next.f y249).bind fun bt255 => (if t243 = true then (if bt255.2.2 = 6 then (if (bt255.1.length : Int) = 0 then (some (bt255.2.1 == 0)) else (some false)) else (some false)) else (some false))) else (if 0 ≤ (wrap64 (Int.tdiv a3 8)) then (if (wrap64 (Int.tdiv a3 8)) < (t244.length : Int) then (if 0 ≤ (IntKind.u64.wrap (Int.tmod a3 8)) then ((frame_Next.f (y249.set ((wrap64 (Int.tdiv a3 8)) : Int).toNat (Go.bits .xor .u8 (rd y249 (wrap64 (Int.tdiv a3 8))) (shl .u8 1 (IntKind.u64.wrap (Int.tmod a3 8)))))).bind fun bt262 => (if t243 = true then (if bt262.2.2 = 6 then (if (bt262.1.length : Int) = 0 then (some (bt262.2.1 == 0)) else (some false)) else (some false)) else (some false))) else (none)) else (none)) else (none)))) else (if 0 ≤ (wrap64 (Int.tdiv a2 8)) then (if (wrap64 (Int.tdiv a2 8)) < (t244.length : Int) then (if 0 ≤ (IntKind.u64.wrap (Int.tmod a2 8)) then ((some (y249.set ((wrap64 (Int.tdiv a2 8)) : Int).toNat (Go.bits .xor .u8 (rd y249 (wrap64 (Int.tdiv a2 8))) (shl .u8 1 (IntKind.u64.wrap (Int.tmod a2 8)))) : List Int)).bind fun y268 => (if a3 = a1 then ((frame_Next.f y268).bind fun bt269 => (if t243 = true then (if bt269.2.2 = 6 then (if (bt269.1.length : Int) = 0 then (some (bt269.2.1 == 0)) else (some false)) else (some false)) else (some false))) else (if a3 = a2 then ((frame_Next.f y268).bind fun bt274 => (if t243 = true then (if bt274.2.2 = 6 then (if (bt274.1.length : Int) = 0 then (some (bt274.2.1 == 0)) else (some false)) else (some false)) else (some false))) else (if 0 ≤ (wrap64 (Int.tdiv a3 8)) then (if (wrap64 (Int.tdiv a3 8)) < (t244.length : Int) then (if 0 ≤ (IntKind.u64.wrap (Int.tmod a3 8)) then ((frame_Next.f (y268.set ((wrap64 (Int.tdiv a3 8)) : Int).toNat (Go.bits .xor .u8 (rd y268 (wrap64 (Int.tdiv a3 8))) (shl .u8 1 (IntKind.u64.wrap (Int.tmod a3 8)))))).bind fun bt281 => (if t243 = true then (if bt281.2.2 = 6 then (if (bt281.1.length : Int) = 0 then (some (bt281.2.1 == 0)) else (some false)) else (some false)) else (some false))) else (none)) else (none)) else (none))))) else (none)) else (none)) else (none)))) else (none)) else (none)) else (none)) = some r := by rw [if_neg (show ¬ (false = true) by decide)] at H; exact H
              clear H
              have H := H1
              clear H1
              obtain ⟨ji24, hji24⟩ : ∃ j_ : Int, (wrap64 (Int.tdiv a1 8)) = j_ := ⟨_, rfl⟩
              replace H : (if 0 ≤ (ji24) then (if (ji24) < (t244.length : Int) then (if 0 ≤ (IntKind.u64.wrap (Int.tmod a1 8)) then ((some (t244.set ((ji24) : Int).toNat (Go.bits .xor .u8 (rd t244 (ji24)) (shl .u8 1 (IntKind.u64.wrap (Int.tmod a1 8)))) : List Int)).bind fun y249 => (if a2 = a1 then (if a3 = a1 then ((frame_Next.f y249).bind fun bt250 => (if t243 = true then (if bt250.2.2 = 6 then (if (bt250.1.length : Int) = 0 then (some (bt250.2.1 == 0)) else (some false)) else (some false)) else (some false))) else (if a3 = a2 then ((frame_Next.f y249).bind fun bt255 => (if t243 = true then (if bt255.2.2 = 6 then (if (bt255.1.length : Int) = 0 then (some (bt255.2.1 == 0)) else (some false)) else (some false)) else (some false))) else (if 0 ≤ (wrap64 (Int.tdiv a3 8)) then (if (wrap64 (Int.tdiv a3 8)) < (t244.length : Int) then (if 0 ≤ (IntKind.u64.wrap (Int.tmod a3 8)) then ((frame_Next.f (y249.set ((wrap64 (Int.tdiv a3 8)) : Int).toNat (Go.bits .xor .u8 (rd y249 (wrap64 (Int.tdiv a3 8))) (shl .u8 1 (IntKind.u64.wrap (Int.tmod a3 8)))))).bind fun bt262 => (if t243 = true then (if bt262.2.2 = 6 then (if (bt262.1.length : Int) = 0 then (some (bt262.2.1 == 0)) else (some false)) else (some false)) else (some false))) else (none)) else (none)) else (none)))) else (if 0 ≤ (wrap64 (Int.tdiv a2 8)) then (if (wrap64 (Int.tdiv a2 8)) < (t244.length : Int) then (if 0 ≤ (IntKind.u64.wrap (Int.tmod a2 8)) then ((some (y249.set ((wrap64 (Int.tdiv a2 8)) : Int).toNat (Go.bits .xor .u8 (rd y249 (wrap64 (Int.tdiv a2 8))) (shl .u8 1 (IntKind.u64.wrap (Int.tmod a2 8)))) : List Int)).bind fun y268 => (if a3 = a1 then ((frame_Next.f y268).bind fun bt269 => (if t243 = true then (if bt269.2.2 = 6 then (if (bt269.1.length : Int) = 0 then (some (bt269.2.1 == 0)) else (some false)) else (some false)) else (some false))) else (if a3 = a2 then ((frame_Next.f y268).bind fun bt274 => (if t243 = true then (if bt274.2.2 = 6 then (if (bt274.1.length : Int) = 0 then (some (bt274.2.1 == 0)) else (some false)) else (some false)) else (some false))) else (if 0 ≤ (wrap64 (Int.tdiv a3 8)) then (if (wrap64 (Int.tdiv a3 8)) < (t244.length : Int) then (if 0 ≤ (IntKind.u64.wrap (Int.tmod a3 8)) then ((frame_Next.f (y268.set ((wrap64 (Int.tdiv a3 8)) : Int).toNat (Go.bits .xor .u8 (rd y268 (wrap64 (Int.tdiv a3 8))) (shl .u8 1 (IntKind.u64.wrap (Int.tmod a3 8)))))).bind fun bt281 => (if t243 = true then (if bt281.2.2 = 6 then (if (bt281.1.length : Int) = 0 then (some (bt281.2.1 == 0)) else (some false)) else (some false)) else (some false))) else (none)) else (none)) else (none))))) else (none)) else (none)) else (none)))) else (none)) else (none)) else (none)) = some r := by first | (rw [hji24] at H; exact H) | (simp only [hji24] at H ⊢; exact H)
              have hji24w : (IntKind.i64.wrap (Int.tdiv a1 8)) = ji24 := (i64_w _).trans hji24
              by_cases c25 : 0 ≤ (ji24)
              · rw [if_pos c25] at H
                have c25b0 : decide (0 ≤ (ji24)) = true := decide_eq_true c25
                clear c25
                by_cases c26 : (ji24) < (t244.length : Int)
                · rw [if_pos c26] at H
                  have c26b0 : decide ((ji24) < (t244.length : Int)) = true := decide_eq_true c26
                  clear c26
                  obtain ⟨ji27, hji27⟩ : ∃ j_ : Int, (IntKind.u64.wrap (Int.tmod a1 8)) = j_ := ⟨_, rfl⟩
                  replace H : (if 0 ≤ (ji27) then ((some (t244.set ((ji24) : Int).toNat (Go.bits .xor .u8 (rd t244 (ji24)) (shl .u8 1 (ji27))) : List Int)).bind fun y249 => (if a2 = a1 then (if a3 = a1 then ((frame_Next.f y249).bind fun bt250 => (if t243 = true then (if bt250.2.2 = 6 then (if (bt250.1.length : Int) = 0 then (some (bt250.2.1 == 0)) else (some false)) else (some false)) else (some false))) else (if a3 = a2 then ((frame_Next.f y249).bind fun bt255 => (if t243 = true then (if bt255.2.2 = 6 then (if (bt255.1.length : Int) = 0 then (some (bt255.2.1 == 0)) else (some false)) else (some false)) else (some false))) else (if 0 ≤ (wrap64 (Int.tdiv a3 8)) then (if (wrap64 (Int.tdiv a3 8)) < (t244.length : Int) then (if 0 ≤ (IntKind.u64.wrap (Int.tmod a3 8)) then ((frame_Next.f (y249.set ((wrap64 (Int.tdiv a3 8)) : Int).toNat (Go.bits .xor .u8 (rd y249 (wrap64 (Int.tdiv a3 8))) (shl .u8 1 (IntKind.u64.wrap (Int.tmod a3 8)))))).bind fun bt262 => (if t243 = true then (if bt262.2.2 = 6 then (if (bt262.1.length : Int) = 0 then (some (bt262.2.1 == 0)) else (some false)) else (some false)) else (some false))) else (none)) else (none)) else (none)))) else (if 0 ≤ (wrap64 (Int.tdiv a2 8)) then (if (wrap64 (Int.tdiv a2 8)) < (t244.length : Int) then (if 0 ≤ (IntKind.u64.wrap (Int.tmod a2 8)) then ((some (y249.set ((wrap64 (Int.tdiv a2 8)) : Int).toNat (Go.bits .xor .u8 (rd y249 (wrap64 (Int.tdiv a2 8))) (shl .u8 1 (IntKind.u64.wrap (Int.tmod a2 8)))) : List Int)).bind fun y268 => (if a3 = a1 then ((frame_Next.f y268).bind fun bt269 => (if t243 = true then (if bt269.2.2 = 6 then (if (bt269.1.length : Int) = 0 then (some (bt269.2.1 == 0)) else (some false)) else (some false)) else (some false))) else (if a3 = a2 then ((frame_Next.f y268).bind fun bt274 => (if t243 = true then (if bt274.2.2 = 6 then (if (bt274.1.length : Int) = 0 then (some (bt274.2.1 == 0)) else (some false)) else (some false)) else (some false))) else (if 0 ≤ (wrap64 (Int.tdiv a3 8)) then (if (wrap64 (Int.tdiv a3 8)) < (t244.length : Int) then (if 0 ≤ (IntKind.u64.wrap (Int.tmod a3 8)) then ((frame_Next.f (y268.set ((wrap64 (Int.tdiv a3 8)) : Int).toNat (Go.bits .xor .u8 (rd y268 (wrap64 (Int.tdiv a3 8))) (shl .u8 1 (IntKind.u64.wrap (Int.tmod a3 8)))))).bind fun bt281 => (if t243 = true then (if bt281.2.2 = 6 then (if (bt281.1.length : Int) = 0 then (some (bt281.2.1 == 0)) else (some false)) else (some false)) else (some false))) else (none)) else (none)) else (none))))) else (none)) else (none)) else (none)))) else (none)) = some r := by first | (rw [hji27] at H; exact H) | (simp only [hji27] at H ⊢; exact H)
                  by_cases c28 : 0 ≤ (ji27)
                  · rw [if_pos c28] at H
                    have c28b0 := eq_true c28
                    have c28b1 : decide (0 ≤ (ji27)) = true := decide_eq_true c28
                    clear c28
                    obtain ⟨ji29, hji29⟩ : ∃ j_ : Int, (shl .u8 1 (ji27)) = j_ := ⟨_, rfl⟩
                    replace H : ((some (t244.set ((ji24) : Int).toNat (Go.bits .xor .u8 (rd t244 (ji24)) (ji29)) : List Int)).bind fun y249 => (if a2 = a1 then (if a3 = a1 then ((frame_Next.f y249).bind fun bt250 => (if t243 = true then (if bt250.2.2 = 6 then (if (bt250.1.length : Int) = 0 then (some (bt250.2.1 == 0)) else (some false)) else (some false)) else (some false))) else (if a3 = a2 then ((frame_Next.f y249).bind fun bt255 => (if t243 = true then (if bt255.2.2 = 6 then (if (bt255.1.length : Int) = 0 then (some (bt255.2.1 == 0)) else (some false)) else (some false)) else (some false))) else (if 0 ≤ (wrap64 (Int.tdiv a3 8)) then (if (wrap64 (Int.tdiv a3 8)) < (t244.length : Int) then (if 0 ≤ (IntKind.u64.wrap (Int.tmod a3 8)) then ((frame_Next.f (y249.set ((wrap64 (Int.tdiv a3 8)) : Int).toNat (Go.bits .xor .u8 (rd y249 (wrap64 (Int.tdiv a3 8))) (shl .u8 1 (IntKind.u64.wrap (Int.tmod a3 8)))))).bind fun bt262 => (if t243 = true then (if bt262.2.2 = 6 then (if (bt262.1.length : Int) = 0 then (some (bt262.2.1 == 0)) else (some false)) else (some false)) else (some false))) else (none)) else (none)) else (none)))) else (if 0 ≤ (wrap64 (Int.tdiv a2 8)) then (if (wrap64 (Int.tdiv a2 8)) < (t244.length : Int) then (if 0 ≤ (IntKind.u64.wrap (Int.tmod a2 8)) then ((some (y249.set ((wrap64 (Int.tdiv a2 8)) : Int).toNat (Go.bits .xor .u8 (rd y249 (wrap64 (Int.tdiv a2 8))) (shl .u8 1 (IntKind.u64.wrap (Int.tmod a2 8)))) : List Int)).bind fun y268 => (if a3 = a1 then ((frame_Next.f y268).bind fun bt269 => (if t243 = true then (if bt269.2.2 = 6 then (if (bt269.1.length : Int) = 0 then (some (bt269.2.1 == 0)) else (some false)) else (some false)) else (some false))) else (if a3 = a2 then ((frame_Next.f y268).bind fun bt274 => (if t243 = true then (if bt274.2.2 = 6 then (if (bt274.1.length : Int) = 0 then (some (bt274.2.1 == 0)) else (some false)) else (some false)) else (some false))) else (if 0 ≤ (wrap64 (Int.tdiv a3 8)) then (if (wrap64 (Int.tdiv a3 8)) < (t244.length : Int) then (if 0 ≤ (IntKind.u64.wrap (Int.tmod a3 8)) then ((frame_Next.f (y268.set ((wrap64 (Int.tdiv a3 8)) : Int).toNat (Go.bits .xor .u8 (rd y268 (wrap64 (Int.tdiv a3 8))) (shl .u8 1 (IntKind.u64.wrap (Int.tmod a3 8)))))).bind fun bt281 => (if t243 = true then (if bt281.2.2 = 6 then (if (bt281.1.length : Int) = 0 then (some (bt281.2.1 == 0)) else (some false)) else (some false)) else (some false))) else (none)) else (none)) else (none))))) else (none)) else (none)) else (none)))) = some r := by first | (rw [hji29] at H; exact H) | (simp only [hji29] at H ⊢; exact H)
                    have hji29_ : (IntKind.u8.wrap (1 * 2 ^ min (ji27).toNat 8)) = ji29 := hji29
                    have hji29z : (ji27) ≤ 8 → (IntKind.u8.wrap (1 * 2 ^ (ji27).toNat)) = ji29 := shl_small hji29
                    have hji29u : (IntKind.u8.wrap (2 ^ min (ji27).toNat 8)) = ji29 := by have h_ := hji29_; rw [Int.one_mul] at h_; exact h_
                    have hji29v : (ji27) ≤ 8 → (IntKind.u8.wrap (2 ^ (ji27).toNat)) = ji29 := fun hle_ => by have h_ := hji29z hle_; rw [Int.one_mul] at h_; exact h_
                    have hji29l : (2 ^ ((ji27)).toNat % 256) = ji29 := by have h_ := hji29u; rw [IntKind.wrap_u8, pow_min8] at h_; exact h_
                    obtain ⟨y249, hy249⟩ : ∃ y_ : List Int, y_ = (t244.set ((ji24) : Int).toNat (Go.bits .xor .u8 (rd t244 (ji24)) (ji29))) := ⟨_, rfl⟩
                    replace H : (if a2 = a1 then (if a3 = a1 then ((frame_Next.f y249).bind fun bt250 => (if t243 = true then (if bt250.2.2 = 6 then (if (bt250.1.length : Int) = 0 then (some (bt250.2.1 == 0)) else (some false)) else (some false)) else (some false))) else (if a3 = a2 then ((frame_Next.f y249).bind fun bt255 => (if t243 = true then (if bt255.2.2 = 6 then (if (bt255.1.length : Int) = 0 then (some (bt255.2.1 == 0)) else (some false)) else (some false)) else (some false))) else (if 0 ≤ (wrap64 (Int.tdiv a3 8)) then (if (wrap64 (Int.tdiv a3 8)) < (t244.length : Int) then (if 0 ≤ (IntKind.u64.wrap (Int.tmod a3 8)) then ((frame_Next.f (y249.set ((wrap64 (Int.tdiv a3 8)) : Int).toNat (Go.bits .xor .u8 (rd y249 (wrap64 (Int.tdiv a3 8))) (shl .u8 1 (IntKind.u64.wrap (Int.tmod a3 8)))))).bind fun bt262 => (if t243 = true then (if bt262.2.2 = 6 then (if (bt262.1.length : Int) = 0 then (some (bt262.2.1 == 0)) else (some false)) else (some false)) else (some false))) else (none)) else (none)) else (none)))) else (if 0 ≤ (wrap64 (Int.tdiv a2 8)) then (if (wrap64 (Int.tdiv a2 8)) < (t244.length : Int) then (if 0 ≤ (IntKind.u64.wrap (Int.tmod a2 8)) then ((some (y249.set ((wrap64 (Int.tdiv a2 8)) : Int).toNat (Go.bits .xor .u8 (rd y249 (wrap64 (Int.tdiv a2 8))) (shl .u8 1 (IntKind.u64.wrap (Int.tmod a2 8)))) : List Int)).bind fun y268 => (if a3 = a1 then ((frame_Next.f y268).bind fun bt269 => (if t243 = true then (if bt269.2.2 = 6 then (if (bt269.1.length : Int) = 0 then (some (bt269.2.1 == 0)) else (some false)) else (some false)) else (some false))) else (if a3 = a2 then ((frame_Next.f y268).bind fun bt274 => (if t243 = true then (if bt274.2.2 = 6 then (if (bt274.1.length : Int) = 0 then (some (bt274.2.1 == 0)) else (some false)) else (some false)) else (some false))) else (if 0 ≤ (wrap64 (Int.tdiv a3 8)) then (if (wrap64 (Int.tdiv a3 8)) < (t244.length : Int) then (if 0 ≤ (IntKind.u64.wrap (Int.tmod a3 8)) then ((frame_Next.f (y268.set ((wrap64 (Int.tdiv a3 8)) : Int).toNat (Go.bits .xor .u8 (rd y268 (wrap64 (Int.tdiv a3 8))) (shl .u8 1 (IntKind.u64.wrap (Int.tmod a3 8)))))).bind fun bt281 => (if t243 = true then (if bt281.2.2 = 6 then (if (bt281.1.length : Int) = 0 then (some (bt281.2.1 == 0)) else (some false)) else (some false)) else (some false))) else (none)) else (none)) else (none))))) else (none)) else (none)) else (none))) = some r := by first | (rw [hy249]; with_reducible exact H) | (have H2_ := (Option.bind_some _ _).symm.trans H; rw [hy249]; with_reducible exact H2_) | (have H2_ := (Option.bind_some _ _).symm.trans H; with_reducible exact H2_) | with_reducible exact H | (rw [hy249]; exact H) | exact H
                    have Ny249 := Aside0.mk hy249
                    clear hy249
                    by_cases c31 : a2 = a1
                    · as_aux_lemma =>
                      rw [if_pos c31] at H
                      have c31b0 : (a2 == a1) = true := beq_iff_eq.mpr c31
                      have c31b1 : (a2 != a1) = false := bne_eq_false_iff_eq.mpr c31
                      clear c31
                      by_cases c32 : a3 = a1
                      · as_aux_lemma =>
                        rw [if_pos c32] at H
                        have c32b0 : (a3 == a1) = true := beq_iff_eq.mpr c32
                        have c32b1 : (a3 != a1) = false := bne_eq_false_iff_eq.mpr c32
                        clear c32
                        replace H := Option.bind_eq_some_iff.mp H
                        obtain ⟨⟨t250, t251, t252⟩, A330, H⟩ := H
                        replace H : (if t243 = true then (if t252 = 6 then (if (t250.length : Int) = 0 then (some (t251 == 0)) else (some false)) else (some false)) else (some false)) = some r := H
                        have A33 := Aside0.mk A330
                        clear A330
                        by_cases c34 : t243 = true
                        · subst c34
                          have H1 : (if t252 = 6 then (if (t250.length : Int) = 0 then (some (t251 == 0)) else (some false)) else (some false)) = some r := by rw [if_pos rfl] at H; exact H
                          clear H
                          have H := H1
                          clear H1
                          by_cases c35 : t252 = 6
                          · rw [if_pos c35] at H
                            have c35b0 : (t252 == 6) = true := beq_iff_eq.mpr c35
                            have c35b1 : (t252 != 6) = false := bne_eq_false_iff_eq.mpr c35
                            clear c35
                            by_cases c36 : (t250.length : Int) = 0
                            · rw [if_pos c36] at H
                              have c36b0 : ((t250.length : Int) == 0) = true := beq_iff_eq.mpr c36
                              have c36b1 : ((t250.length : Int) != 0) = false := bne_eq_false_iff_eq.mpr c36
                              clear c36
                              obtain rfl := Option.some.inj H
                              have p248 : 0 ≤ ((ji24) : Int) := of_decide_eq_true (by first | (with_reducible assumption) | assumption)
                              have q248 : (ji24) < (t244.length : Int) := of_decide_eq_true (by first | (with_reducible assumption) | assumption)
                              obtain ⟨ad248, e248, hx248_0⟩ := Kd.at_int (Kd.R_reads' HO_10.out).2.2 (ji24) p248 q248
                              cases e248
                              replace p248 := eq_true p248
                              replace q248 := eq_true q248
                              have p30 : 0 ≤ ((ji24) : Int) := of_decide_eq_true (by first | (with_reducible assumption) | assumption)
                              have q30 : ((ji24) : Int) < ((t244.length : Int) : Int) := of_decide_eq_true (by first | (with_reducible assumption) | assumption)
                              obtain ⟨go30, co30, eo30, gb30, gl30, cl30, HG30⟩ := Kd.R_form HO_10.out (by omega)
                              (first | cases eo30 | (injection eo30 with ea_ en_ ec_; (first | subst ea_ | (injection ea_ with ea_; subst ea_)); subst ec_; clear en_))
                              have GB30 := Aside0.mk gb30
                              have GG30 := Aside0.mk HG30
                              clear gb30 gl30 HG30
                              (first | simp only [add_plain] at hx248_0 | skip)
                              obtain ⟨hx30_0, hf30_0⟩ := Kd.R_celln 0 HO_10.out ((ji24) : Int) p30 q30
                              replace p30 := eq_true p30
                              replace q30 := eq_true q30
                              have HP37 := Kd.R_putg HO_10.out ((ji24) : Int) (Go.bits .xor .u8 (rd t244 (ji24)) (ji29))
                              go_wp2_with (first | ((with_reducible refine gate_store (t := 5) (p := 92) rfl ?_); refine store_event (t := 5) (p := 92) (v := ?vo_w38) (w1 := (wc.setCell ⟨go30, ((ji24) : Int).toNat, none⟩ (.int .u8 (Go.bits .xor .u8 (rd t244 (ji24)) (ji29))))) ?hg ?ho ?hn ?hr ?_; (case ho => rfl); (case hg => rfl); (case hn => rfl); (case hr => first | (go_simp; done) | (go_simp; rfl)); intro w38 hw; have hg : wc.grownBy w38 (some go30) := (by rw [hw]; exact HP37.2); have hp_ : Kd.R (Kd.int .u8) 5 w38 w.heap.size (fun _ => True) (.slice (some ⟨go30, 0, none⟩) t244.length co10) y249 := (by rw [hw, Ny249.out]; exact HP37.1); clear HP37; have n0_ := Aside0.mk (hp_); have n1_ := Aside0.mk ((by rw [hw]; exact below_set (HB.out) GB30.out : Below w.heap.size w w38)); clear HO_10; clear HB; have HO_10 := n0_; have HB := n1_; clear n0_ n1_; clear hg hw hp_) | ((with_reducible refine gate_callee (f := 11) rfl ?_); refine goesL_ (some 134) rfl rfl Try.func11 (by kernel_rfl) rfl #[.slice (some ⟨go30, 0, none⟩) y249.length co10] rfl (by (try simp only [List.map_toArray, List.map_cons, List.map_nil]); first | done | (rw [show y249.length = t244.length from (Kd.R_reads' HO_10.out).1.symm] <;> rfl) | rfl | (simp only [List.length_drop, List.length_take]; rfl)) ?_; (with_reducible refine (frame_Next.calls _ _ y249 t250 t251 t252 _ ?side1 ?side2 A33.out).mono ?_); (case side1 => repeat (first | exact (Kd.R_reads' HO_10.out).2.2 | (with_reducible refine Kd.C_alloc ?_ _) | (with_reducible refine Kd.C_drewN ?_ _) | (with_reducible refine Kd.C_drew ?_))); (case side2 => rw [show y249.length = t244.length from (Kd.R_reads' HO_10.out).1.symm]; exact (Kd.R_reads' HO_10.out).2.1); rintro e w39 ⟨v253, rfl, ho0, hb⟩; refine ⟨_, rfl, ?_⟩; have n0_ := Aside0.mk (Kd.R_elder' (by (with_reducible repeat (first | apply Kd.R_alloc | apply Kd.R_drewN | apply Kd.R_drew)); exact HO_10.out) (Kd.R_base ho0) hb); have n1_ := Aside0.mk (Kd.R_lower (Kd.R_new' ho0 (Kd.R_lt (by (with_reducible repeat (first | apply Kd.R_alloc | apply Kd.R_drewN | apply Kd.R_drew)); exact HO_10.out))) (below_size (by repeat (first | (with_reducible first | exact HB.out | apply below_alloc | apply pw_below_drewN | apply below_drew1) | exact HB.out)))); have n2_ := Aside0.mk (below_step (by repeat (first | (with_reducible first | exact HB.out | apply below_alloc | apply pw_below_drewN | apply below_drew1) | exact HB.out)) hb); clear HO_10; clear HB; have HO_10 := n0_; have HO254 := n1_; have HB := n2_; clear n0_ n1_ n2_; (try clear hb); (try clear hb2); (try clear hk); (try clear hi); (try clear ho0); obtain ⟨Ao40, co40, eo40⟩ := Kd.R_slice HO254.out; subst eo40))
                              go_ret
                              exact ⟨by first | rfl | (simp [errW_none, errW_some] <;> rfl) | (simp only [← hji24, ← hji27, ← hji29]; first | rfl | (simp [errW_none, errW_some] <;> rfl)) | (simp [*, errW_none, errW_some] <;> rfl), by repeat (first | (with_reducible first | exact HB.out | apply below_alloc | apply pw_below_drewN | apply below_drew1) | exact HB.out)⟩
                            · rw [if_neg c36] at H
                              have c36b0 : ((t250.length : Int) == 0) = false := beq_eq_false_iff_ne.mpr c36
                              have c36b1 : ((t250.length : Int) != 0) = true := bne_iff_ne.mpr c36
                              have c36b2 : ¬ (t250 = []) := fun h_ => c36 (by rw [h_]; rfl)
                              obtain rfl := Option.some.inj H
                              have p248 : 0 ≤ ((ji24) : Int) := of_decide_eq_true (by first | (with_reducible assumption) | assumption)
                              have q248 : (ji24) < (t244.length : Int) := of_decide_eq_true (by first | (with_reducible assumption) | assumption)
                              obtain ⟨ad248, e248, hx248_0⟩ := Kd.at_int (Kd.R_reads' HO_10.out).2.2 (ji24) p248 q248
                              cases e248
                              replace p248 := eq_true p248
                              replace q248 := eq_true q248
                              have p30 : 0 ≤ ((ji24) : Int) := of_decide_eq_true (by first | (with_reducible assumption) | assumption)
                              have q30 : ((ji24) : Int) < ((t244.length : Int) : Int) := of_decide_eq_true (by first | (with_reducible assumption) | assumption)
                              obtain ⟨go30, co30, eo30, gb30, gl30, cl30, HG30⟩ := Kd.R_form HO_10.out (by omega)
                              (first | cases eo30 | (injection eo30 with ea_ en_ ec_; (first | subst ea_ | (injection ea_ with ea_; subst ea_)); subst ec_; clear en_))
                              have GB30 := Aside0.mk gb30
                              have GG30 := Aside0.mk HG30
                              clear gb30 gl30 HG30
                              (first | simp only [add_plain] at hx248_0 | skip)
                              obtain ⟨hx30_0, hf30_0⟩ := Kd.R_celln 0 HO_10.out ((ji24) : Int) p30 q30
                              replace p30 := eq_true p30
                              replace q30 := eq_true q30
                              have HP41 := Kd.R_putg HO_10.out ((ji24) : Int) (Go.bits .xor .u8 (rd t244 (ji24)) (ji29))
                              go_wp2_with (first | ((with_reducible refine gate_store (t := 5) (p := 92) rfl ?_); refine store_event (t := 5) (p := 92) (v := ?vo_w42) (w1 := (wc.setCell ⟨go30, ((ji24) : Int).toNat, none⟩ (.int .u8 (Go.bits .xor .u8 (rd t244 (ji24)) (ji29))))) ?hg ?ho ?hn ?hr ?_; (case ho => rfl); (case hg => rfl); (case hn => rfl); (case hr => first | (go_simp; done) | (go_simp; rfl)); intro w42 hw; have hg : wc.grownBy w42 (some go30) := (by rw [hw]; exact HP41.2); have hp_ : Kd.R (Kd.int .u8) 5 w42 w.heap.size (fun _ => True) (.slice (some ⟨go30, 0, none⟩) t244.length co10) y249 := (by rw [hw, Ny249.out]; exact HP41.1); clear HP41; have n0_ := Aside0.mk (hp_); have n1_ := Aside0.mk ((by rw [hw]; exact below_set (HB.out) GB30.out : Below w.heap.size w w42)); clear HO_10; clear HB; have HO_10 := n0_; have HB := n1_; clear n0_ n1_; clear hg hw hp_) | ((with_reducible refine gate_callee (f := 11) rfl ?_); refine goesL_ (some 134) rfl rfl Try.func11 (by kernel_rfl) rfl #[.slice (some ⟨go30, 0, none⟩) y249.length co10] rfl (by (try simp only [List.map_toArray, List.map_cons, List.map_nil]); first | done | (rw [show y249.length = t244.length from (Kd.R_reads' HO_10.out).1.symm] <;> rfl) | rfl | (simp only [List.length_drop, List.length_take]; rfl)) ?_; (with_reducible refine (frame_Next.calls _ _ y249 t250 t251 t252 _ ?side1 ?side2 A33.out).mono ?_); (case side1 => repeat (first | exact (Kd.R_reads' HO_10.out).2.2 | (with_reducible refine Kd.C_alloc ?_ _) | (with_reducible refine Kd.C_drewN ?_ _) | (with_reducible refine Kd.C_drew ?_))); (case side2 => rw [show y249.length = t244.length from (Kd.R_reads' HO_10.out).1.symm]; exact (Kd.R_reads' HO_10.out).2.1); rintro e w43 ⟨v253, rfl, ho0, hb⟩; refine ⟨_, rfl, ?_⟩; have n0_ := Aside0.mk (Kd.R_elder' (by (with_reducible repeat (first | apply Kd.R_alloc | apply Kd.R_drewN | apply Kd.R_drew)); exact HO_10.out) (Kd.R_base ho0) hb); have n1_ := Aside0.mk (Kd.R_lower (Kd.R_new' ho0 (Kd.R_lt (by (with_reducible repeat (first | apply Kd.R_alloc | apply Kd.R_drewN | apply Kd.R_drew)); exact HO_10.out))) (below_size (by repeat (first | (with_reducible first | exact HB.out | apply below_alloc | apply pw_below_drewN | apply below_drew1) | exact HB.out)))); have n2_ := Aside0.mk (below_step (by repeat (first | (with_reducible first | exact HB.out | apply below_alloc | apply pw_below_drewN | apply below_drew1) | exact HB.out)) hb); clear HO_10; clear HB; have HO_10 := n0_; have HO254 := n1_; have HB := n2_; clear n0_ n1_ n2_; (try clear hb); (try clear hb2); (try clear hk); (try clear hi); (try clear ho0); obtain ⟨Ao44, co44, eo44⟩ := Kd.R_slice HO254.out; subst eo44))
                              go_ret
                              exact ⟨by first | rfl | (simp [errW_none, errW_some] <;> rfl) | (simp only [← hji24, ← hji27, ← hji29]; first | rfl | (simp [errW_none, errW_some] <;> rfl)) | (simp [*, errW_none, errW_some] <;> rfl), by repeat (first | (with_reducible first | exact HB.out | apply below_alloc | apply pw_below_drewN | apply below_drew1) | exact HB.out)⟩
                          · rw [if_neg c35] at H
                            have c35b0 : (t252 == 6) = false := beq_eq_false_iff_ne.mpr c35
                            have c35b1 : (t252 != 6) = true := bne_iff_ne.mpr c35
                            obtain rfl := Option.some.inj H
                            have p248 : 0 ≤ ((ji24) : Int) := of_decide_eq_true (by first | (with_reducible assumption) | assumption)
                            have q248 : (ji24) < (t244.length : Int) := of_decide_eq_true (by first | (with_reducible assumption) | assumption)
                            obtain ⟨ad248, e248, hx248_0⟩ := Kd.at_int (Kd.R_reads' HO_10.out).2.2 (ji24) p248 q248
                            cases e248
                            replace p248 := eq_true p248
                            replace q248 := eq_true q248
                            have p30 : 0 ≤ ((ji24) : Int) := of_decide_eq_true (by first | (with_reducible assumption) | assumption)
                            have q30 : ((ji24) : Int) < ((t244.length : Int) : Int) := of_decide_eq_true (by first | (with_reducible assumption) | assumption)
                            obtain ⟨go30, co30, eo30, gb30, gl30, cl30, HG30⟩ := Kd.R_form HO_10.out (by omega)
                            (first | cases eo30 | (injection eo30 with ea_ en_ ec_; (first | subst ea_ | (injection ea_ with ea_; subst ea_)); subst ec_; clear en_))
                            have GB30 := Aside0.mk gb30
                            have GG30 := Aside0.mk HG30
                            clear gb30 gl30 HG30
                            (first | simp only [add_plain] at hx248_0 | skip)
                            obtain ⟨hx30_0, hf30_0⟩ := Kd.R_celln 0 HO_10.out ((ji24) : Int) p30 q30
                            replace p30 := eq_true p30
                            replace q30 := eq_true q30
                            have HP45 := Kd.R_putg HO_10.out ((ji24) : Int) (Go.bits .xor .u8 (rd t244 (ji24)) (ji29))
                            go_wp2_with (first | ((with_reducible refine gate_store (t := 5) (p := 92) rfl ?_); refine store_event (t := 5) (p := 92) (v := ?vo_w46) (w1 := (wc.setCell ⟨go30, ((ji24) : Int).toNat, none⟩ (.int .u8 (Go.bits .xor .u8 (rd t244 (ji24)) (ji29))))) ?hg ?ho ?hn ?hr ?_; (case ho => rfl); (case hg => rfl); (case hn => rfl); (case hr => first | (go_simp; done) | (go_simp; rfl)); intro w46 hw; have hg : wc.grownBy w46 (some go30) := (by rw [hw]; exact HP45.2); have hp_ : Kd.R (Kd.int .u8) 5 w46 w.heap.size (fun _ => True) (.slice (some ⟨go30, 0, none⟩) t244.length co10) y249 := (by rw [hw, Ny249.out]; exact HP45.1); clear HP45; have n0_ := Aside0.mk (hp_); have n1_ := Aside0.mk ((by rw [hw]; exact below_set (HB.out) GB30.out : Below w.heap.size w w46)); clear HO_10; clear HB; have HO_10 := n0_; have HB := n1_; clear n0_ n1_; clear hg hw hp_) | ((with_reducible refine gate_callee (f := 11) rfl ?_); refine goesL_ (some 134) rfl rfl Try.func11 (by kernel_rfl) rfl #[.slice (some ⟨go30, 0, none⟩) y249.length co10] rfl (by (try simp only [List.map_toArray, List.map_cons, List.map_nil]); first | done | (rw [show y249.length = t244.length from (Kd.R_reads' HO_10.out).1.symm] <;> rfl) | rfl | (simp only [List.length_drop, List.length_take]; rfl)) ?_; (with_reducible refine (frame_Next.calls _ _ y249 t250 t251 t252 _ ?side1 ?side2 A33.out).mono ?_); (case side1 => repeat (first | exact (Kd.R_reads' HO_10.out).2.2 | (with_reducible refine Kd.C_alloc ?_ _) | (with_reducible refine Kd.C_drewN ?_ _) | (with_reducible refine Kd.C_drew ?_))); (case side2 => rw [show y249.length = t244.length from (Kd.R_reads' HO_10.out).1.symm]; exact (Kd.R_reads' HO_10.out).2.1); rintro e w47 ⟨v253, rfl, ho0, hb⟩; refine ⟨_, rfl, ?_⟩; have n0_ := Aside0.mk (Kd.R_elder' (by (with_reducible repeat (first | apply Kd.R_alloc | apply Kd.R_drewN | apply Kd.R_drew)); exact HO_10.out) (Kd.R_base ho0) hb); have n1_ := Aside0.mk (Kd.R_lower (Kd.R_new' ho0 (Kd.R_lt (by (with_reducible repeat (first | apply Kd.R_alloc | apply Kd.R_drewN | apply Kd.R_drew)); exact HO_10.out))) (below_size (by repeat (first | (with_reducible first | exact HB.out | apply below_alloc | apply pw_below_drewN | apply below_drew1) | exact HB.out)))); have n2_ := Aside0.mk (below_step (by repeat (first | (with_reducible first | exact HB.out | apply below_alloc | apply pw_below_drewN | apply below_drew1) | exact HB.out)) hb); clear HO_10; clear HB; have HO_10 := n0_; have HO254 := n1_; have HB := n2_; clear n0_ n1_ n2_; (try clear hb); (try clear hb2); (try clear hk); (try clear hi); (try clear ho0)))
                            go_ret
                            exact ⟨by first | rfl | (simp [errW_none, errW_some] <;> rfl) | (simp only [← hji24, ← hji27, ← hji29]; first | rfl | (simp [errW_none, errW_some] <;> rfl)) | (simp [*, errW_none, errW_some] <;> rfl), by repeat (first | (with_reducible first | exact HB.out | apply below_alloc | apply pw_below_drewN | apply below_drew1) | exact HB.out)⟩
                        · replace c34 := Bool.eq_false_iff.mpr c34
                          subst c34
                          have H1 : (some false) = some r := by rw [if_neg (show ¬ (false = true) by decide)] at H; exact H
                          clear H
                          have H := H1
                          clear H1
                          obtain rfl := Option.some.inj H
                          have p248 : 0 ≤ ((ji24) : Int) := of_decide_eq_true (by first | (with_reducible assumption) | assumption)
                          have q248 : (ji24) < (t244.length : Int) := of_decide_eq_true (by first | (with_reducible assumption) | assumption)
                          obtain ⟨ad248, e248, hx248_0⟩ := Kd.at_int (Kd.R_reads' HO_10.out).2.2 (ji24) p248 q248
                          cases e248
                          replace p248 := eq_true p248
                          replace q248 := eq_true q248
                          have p30 : 0 ≤ ((ji24) : Int) := of_decide_eq_true (by first | (with_reducible assumption) | assumption)
                          have q30 : ((ji24) : Int) < ((t244.length : Int) : Int) := of_decide_eq_true (by first | (with_reducible assumption) | assumption)
                          obtain ⟨go30, co30, eo30, gb30, gl30, cl30, HG30⟩ := Kd.R_form HO_10.out (by omega)
                          (first | cases eo30 | (injection eo30 with ea_ en_ ec_; (first | subst ea_ | (injection ea_ with ea_; subst ea_)); subst ec_; clear en_))
                          have GB30 := Aside0.mk gb30
                          have GG30 := Aside0.mk HG30
                          clear gb30 gl30 HG30
                          (first | simp only [add_plain] at hx248_0 | skip)
                          obtain ⟨hx30_0, hf30_0⟩ := Kd.R_celln 0 HO_10.out ((ji24) : Int) p30 q30
                          replace p30 := eq_true p30
                          replace q30 := eq_true q30
                          have HP48 := Kd.R_putg HO_10.out ((ji24) : Int) (Go.bits .xor .u8 (rd t244 (ji24)) (ji29))
                          go_wp2_with (first | ((with_reducible refine gate_store (t := 5) (p := 92) rfl ?_); refine store_event (t := 5) (p := 92) (v := ?vo_w49) (w1 := (wc.setCell ⟨go30, ((ji24) : Int).toNat, none⟩ (.int .u8 (Go.bits .xor .u8 (rd t244 (ji24)) (ji29))))) ?hg ?ho ?hn ?hr ?_; (case ho => rfl); (case hg => rfl); (case hn => rfl); (case hr => first | (go_simp; done) | (go_simp; rfl)); intro w49 hw; have hg : wc.grownBy w49 (some go30) := (by rw [hw]; exact HP48.2); have hp_ : Kd.R (Kd.int .u8) 5 w49 w.heap.size (fun _ => True) (.slice (some ⟨go30, 0, none⟩) t244.length co10) y249 := (by rw [hw, Ny249.out]; exact HP48.1); clear HP48; have n0_ := Aside0.mk (hp_); have n1_ := Aside0.mk ((by rw [hw]; exact below_set (HB.out) GB30.out : Below w.heap.size w w49)); clear HO_10; clear HB; have HO_10 := n0_; have HB := n1_; clear n0_ n1_; clear hg hw hp_) | ((with_reducible refine gate_callee (f := 11) rfl ?_); refine goesL_ (some 134) rfl rfl Try.func11 (by kernel_rfl) rfl #[.slice (some ⟨go30, 0, none⟩) y249.length co10] rfl (by (try simp only [List.map_toArray, List.map_cons, List.map_nil]); first | done | (rw [show y249.length = t244.length from (Kd.R_reads' HO_10.out).1.symm] <;> rfl) | rfl | (simp only [List.length_drop, List.length_take]; rfl)) ?_; (with_reducible refine (frame_Next.calls _ _ y249 t250 t251 t252 _ ?side1 ?side2 A33.out).mono ?_); (case side1 => repeat (first | exact (Kd.R_reads' HO_10.out).2.2 | (with_reducible refine Kd.C_alloc ?_ _) | (with_reducible refine Kd.C_drewN ?_ _) | (with_reducible refine Kd.C_drew ?_))); (case side2 => rw [show y249.length = t244.length from (Kd.R_reads' HO_10.out).1.symm]; exact (Kd.R_reads' HO_10.out).2.1); rintro e w50 ⟨v253, rfl, ho0, hb⟩; refine ⟨_, rfl, ?_⟩; have n0_ := Aside0.mk (Kd.R_elder' (by (with_reducible repeat (first | apply Kd.R_alloc | apply Kd.R_drewN | apply Kd.R_drew)); exact HO_10.out) (Kd.R_base ho0) hb); have n1_ := Aside0.mk (Kd.R_lower (Kd.R_new' ho0 (Kd.R_lt (by (with_reducible repeat (first | apply Kd.R_alloc | apply Kd.R_drewN | apply Kd.R_drew)); exact HO_10.out))) (below_size (by repeat (first | (with_reducible first | exact HB.out | apply below_alloc | apply pw_below_drewN | apply below_drew1) | exact HB.out)))); have n2_ := Aside0.mk (below_step (by repeat (first | (with_reducible first | exact HB.out | apply below_alloc | apply pw_below_drewN | apply below_drew1) | exact HB.out)) hb); clear HO_10; clear HB; have HO_10 := n0_; have HO254 := n1_; have HB := n2_; clear n0_ n1_ n2_; (try clear hb); (try clear hb2); (try clear hk); (try clear hi); (try clear ho0)))
                          go_ret
                          exact ⟨by first | rfl | (simp [errW_none, errW_some] <;> rfl) | (simp only [← hji24, ← hji27, ← hji29]; first | rfl | (simp [errW_none, errW_some] <;> rfl)) | (simp [*, errW_none, errW_some] <;> rfl), by repeat (first | (with_reducible first | exact HB.out | apply below_alloc | apply pw_below_drewN | apply below_drew1) | exact HB.out)⟩
                      · as_aux_lemma =>
                        rw [if_neg c32] at H
                        have c32b0 : (a3 == a1) = false := beq_eq_false_iff_ne.mpr c32
                        have c32b1 : (a3 != a1) = true := bne_iff_ne.mpr c32
                        by_cases c51 : a3 = a2
                        · as_aux_lemma =>
                          rw [if_pos c51] at H
                          have c51b0 : (a3 == a2) = true := beq_iff_eq.mpr c51
                          have c51b1 : (a3 != a2) = false := bne_eq_false_iff_eq.mpr c51
                          clear c51
                          replace H := Option.bind_eq_some_iff.mp H
                          obtain ⟨⟨t255, t256, t257⟩, A520, H⟩ := H
                          replace H : (if t243 = true then (if t257 = 6 then (if (t255.length : Int) = 0 then (some (t256 == 0)) else (some false)) else (some false)) else (some false)) = some r := H
                          have A52 := Aside0.mk A520
                          clear A520
                          by_cases c53 : t243 = true
                          · subst c53
                            have H1 : (if t257 = 6 then (if (t255.length : Int) = 0 then (some (t256 == 0)) else (some false)) else (some false)) = some r := by rw [if_pos rfl] at H; exact H
                            clear H
                            have H := H1
                            clear H1
                            by_cases c54 : t257 = 6
                            · rw [if_pos c54] at H
                              have c54b0 : (t257 == 6) = true := beq_iff_eq.mpr c54
                              have c54b1 : (t257 != 6) = false := bne_eq_false_iff_eq.mpr c54
                              clear c54
                              by_cases c55 : (t255.length : Int) = 0
                              · rw [if_pos c55] at H
                                have c55b0 : ((t255.length : Int) == 0) = true := beq_iff_eq.mpr c55
                                have c55b1 : ((t255.length : Int) != 0) = false := bne_eq_false_iff_eq.mpr c55
                                clear c55
                                obtain rfl := Option.some.inj H
                                have p248 : 0 ≤ ((ji24) : Int) := of_decide_eq_true (by first | (with_reducible assumption) | assumption)
                                have q248 : (ji24) < (t244.length : Int) := of_decide_eq_true (by first | (with_reducible assumption) | assumption)
                                obtain ⟨ad248, e248, hx248_0⟩ := Kd.at_int (Kd.R_reads' HO_10.out).2.2 (ji24) p248 q248
                                cases e248
                                replace p248 := eq_true p248
                                replace q248 := eq_true q248
                                have p30 : 0 ≤ ((ji24) : Int) := of_decide_eq_true (by first | (with_reducible assumption) | assumption)
                                have q30 : ((ji24) : Int) < ((t244.length : Int) : Int) := of_decide_eq_true (by first | (with_reducible assumption) | assumption)
                                obtain ⟨go30, co30, eo30, gb30, gl30, cl30, HG30⟩ := Kd.R_form HO_10.out (by omega)
                                (first | cases eo30 | (injection eo30 with ea_ en_ ec_; (first | subst ea_ | (injection ea_ with ea_; subst ea_)); subst ec_; clear en_))
                                have GB30 := Aside0.mk gb30
                                have GG30 := Aside0.mk HG30
                                clear gb30 gl30 HG30
                                (first | simp only [add_plain] at hx248_0 | skip)
                                obtain ⟨hx30_0, hf30_0⟩ := Kd.R_celln 0 HO_10.out ((ji24) : Int) p30 q30
                                replace p30 := eq_true p30
                                replace q30 := eq_true q30
                                have HP56 := Kd.R_putg HO_10.out ((ji24) : Int) (Go.bits .xor .u8 (rd t244 (ji24)) (ji29))
                                go_wp2_with (first | ((with_reducible refine gate_store (t := 5) (p := 92) rfl ?_); refine store_event (t := 5) (p := 92) (v := ?vo_w57) (w1 := (wc.setCell ⟨go30, ((ji24) : Int).toNat, none⟩ (.int .u8 (Go.bits .xor .u8 (rd t244 (ji24)) (ji29))))) ?hg ?ho ?hn ?hr ?_; (case ho => rfl); (case hg => rfl); (case hn => rfl); (case hr => first | (go_simp; done) | (go_simp; rfl)); intro w57 hw; have hg : wc.grownBy w57 (some go30) := (by rw [hw]; exact HP56.2); have hp_ : Kd.R (Kd.int .u8) 5 w57 w.heap.size (fun _ => True) (.slice (some ⟨go30, 0, none⟩) t244.length co10) y249 := (by rw [hw, Ny249.out]; exact HP56.1); clear HP56; have n0_ := Aside0.mk (hp_); have n1_ := Aside0.mk ((by rw [hw]; exact below_set (HB.out) GB30.out : Below w.heap.size w w57)); clear HO_10; clear HB; have HO_10 := n0_; have HB := n1_; clear n0_ n1_; clear hg hw hp_) | ((with_reducible refine gate_callee (f := 11) rfl ?_); refine goesL_ (some 134) rfl rfl Try.func11 (by kernel_rfl) rfl #[.slice (some ⟨go30, 0, none⟩) y249.length co10] rfl (by (try simp only [List.map_toArray, List.map_cons, List.map_nil]); first | done | (rw [show y249.length = t244.length from (Kd.R_reads' HO_10.out).1.symm] <;> rfl) | rfl | (simp only [List.length_drop, List.length_take]; rfl)) ?_; (with_reducible refine (frame_Next.calls _ _ y249 t255 t256 t257 _ ?side1 ?side2 A52.out).mono ?_); (case side1 => repeat (first | exact (Kd.R_reads' HO_10.out).2.2 | (with_reducible refine Kd.C_alloc ?_ _) | (with_reducible refine Kd.C_drewN ?_ _) | (with_reducible refine Kd.C_drew ?_))); (case side2 => rw [show y249.length = t244.length from (Kd.R_reads' HO_10.out).1.symm]; exact (Kd.R_reads' HO_10.out).2.1); rintro e w58 ⟨v258, rfl, ho0, hb⟩; refine ⟨_, rfl, ?_⟩; have n0_ := Aside0.mk (Kd.R_elder' (by (with_reducible repeat (first | apply Kd.R_alloc | apply Kd.R_drewN | apply Kd.R_drew)); exact HO_10.out) (Kd.R_base ho0) hb); have n1_ := Aside0.mk (Kd.R_lower (Kd.R_new' ho0 (Kd.R_lt (by (with_reducible repeat (first | apply Kd.R_alloc | apply Kd.R_drewN | apply Kd.R_drew)); exact HO_10.out))) (below_size (by repeat (first | (with_reducible first | exact HB.out | apply below_alloc | apply pw_below_drewN | apply below_drew1) | exact HB.out)))); have n2_ := Aside0.mk (below_step (by repeat (first | (with_reducible first | exact HB.out | apply below_alloc | apply pw_below_drewN | apply below_drew1) | exact HB.out)) hb); clear HO_10; clear HB; have HO_10 := n0_; have HO259 := n1_; have HB := n2_; clear n0_ n1_ n2_; (try clear hb); (try clear hb2); (try clear hk); (try clear hi); (try clear ho0); obtain ⟨Ao59, co59, eo59⟩ := Kd.R_slice HO259.out; subst eo59))
                                go_ret
                                exact ⟨by first | rfl | (simp [errW_none, errW_some] <;> rfl) | (simp only [← hji24, ← hji27, ← hji29]; first | rfl | (simp [errW_none, errW_some] <;> rfl)) | (simp [*, errW_none, errW_some] <;> rfl), by repeat (first | (with_reducible first | exact HB.out | apply below_alloc | apply pw_below_drewN | apply below_drew1) | exact HB.out)⟩
                              · rw [if_neg c55] at H
                                have c55b0 : ((t255.length : Int) == 0) = false := beq_eq_false_iff_ne.mpr c55
                                have c55b1 : ((t255.length : Int) != 0) = true := bne_iff_ne.mpr c55
                                have c55b2 : ¬ (t255 = []) := fun h_ => c55 (by rw [h_]; rfl)
                                obtain rfl := Option.some.inj H
                                have p248 : 0 ≤ ((ji24) : Int) := of_decide_eq_true (by first | (with_reducible assumption) | assumption)
                                have q248 : (ji24) < (t244.length : Int) := of_decide_eq_true (by first | (with_reducible assumption) | assumption)
                                obtain ⟨ad248, e248, hx248_0⟩ := Kd.at_int (Kd.R_reads' HO_10.out).2.2 (ji24) p248 q248
                                cases e248
                                replace p248 := eq_true p248
                                replace q248 := eq_true q248
                                have p30 : 0 ≤ ((ji24) : Int) := of_decide_eq_true (by first | (with_reducible assumption) | assumption)
                                have q30 : ((ji24) : Int) < ((t244.length : Int) : Int) := of_decide_eq_true (by first | (with_reducible assumption) | assumption)
                                obtain ⟨go30, co30, eo30, gb30, gl30, cl30, HG30⟩ := Kd.R_form HO_10.out (by omega)
                                (first | cases eo30 | (injection eo30 with ea_ en_ ec_; (first | subst ea_ | (injection ea_ with ea_; subst ea_)); subst ec_; clear en_))
                                have GB30 := Aside0.mk gb30
                                have GG30 := Aside0.mk HG30
                                clear gb30 gl30 HG30
                                (first | simp only [add_plain] at hx248_0 | skip)
                                obtain ⟨hx30_0, hf30_0⟩ := Kd.R_celln 0 HO_10.out ((ji24) : Int) p30 q30
                                replace p30 := eq_true p30
                                replace q30 := eq_true q30
                                have HP60 := Kd.R_putg HO_10.out ((ji24) : Int) (Go.bits .xor .u8 (rd t244 (ji24)) (ji29))
                                go_wp2_with (first | ((with_reducible refine gate_store (t := 5) (p := 92) rfl ?_); refine store_event (t := 5) (p := 92) (v := ?vo_w61) (w1 := (wc.setCell ⟨go30, ((ji24) : Int).toNat, none⟩ (.int .u8 (Go.bits .xor .u8 (rd t244 (ji24)) (ji29))))) ?hg ?ho ?hn ?hr ?_; (case ho => rfl); (case hg => rfl); (case hn => rfl); (case hr => first | (go_simp; done) | (go_simp; rfl)); intro w61 hw; have hg : wc.grownBy w61 (some go30) := (by rw [hw]; exact HP60.2); have hp_ : Kd.R (Kd.int .u8) 5 w61 w.heap.size (fun _ => True) (.slice (some ⟨go30, 0, none⟩) t244.length co10) y249 := (by rw [hw, Ny249.out]; exact HP60.1); clear HP60; have n0_ := Aside0.mk (hp_); have n1_ := Aside0.mk ((by rw [hw]; exact below_set (HB.out) GB30.out : Below w.heap.size w w61)); clear HO_10; clear HB; have HO_10 := n0_; have HB := n1_; clear n0_ n1_; clear hg hw hp_) | ((with_reducible refine gate_callee (f := 11) rfl ?_); refine goesL_ (some 134) rfl rfl Try.func11 (by kernel_rfl) rfl #[.slice (some ⟨go30, 0, none⟩) y249.length co10] rfl (by (try simp only [List.map_toArray, List.map_cons, List.map_nil]); first | done | (rw [show y249.length = t244.length from (Kd.R_reads' HO_10.out).1.symm] <;> rfl) | rfl | (simp only [List.length_drop, List.length_take]; rfl)) ?_; (with_reducible refine (frame_Next.calls _ _ y249 t255 t256 t257 _ ?side1 ?side2 A52.out).mono ?_); (case side1 => repeat (first | exact (Kd.R_reads' HO_10.out).2.2 | (with_reducible refine Kd.C_alloc ?_ _) | (with_reducible refine Kd.C_drewN ?_ _) | (with_reducible refine Kd.C_drew ?_))); (case side2 => rw [show y249.length = t244.length from (Kd.R_reads' HO_10.out).1.symm]; exact (Kd.R_reads' HO_10.out).2.1); rintro e w62 ⟨v258, rfl, ho0, hb⟩; refine ⟨_, rfl, ?_⟩; have n0_ := Aside0.mk (Kd.R_elder' (by (with_reducible repeat (first | apply Kd.R_alloc | apply Kd.R_drewN | apply Kd.R_drew)); exact HO_10.out) (Kd.R_base ho0) hb); have n1_ := Aside0.mk (Kd.R_lower (Kd.R_new' ho0 (Kd.R_lt (by (with_reducible repeat (first | apply Kd.R_alloc | apply Kd.R_drewN | apply Kd.R_drew)); exact HO_10.out))) (below_size (by repeat (first | (with_reducible first | exact HB.out | apply below_alloc | apply pw_below_drewN | apply below_drew1) | exact HB.out)))); have n2_ := Aside0.mk (below_step (by repeat (first | (with_reducible first | exact HB.out | apply below_alloc | apply pw_below_drewN | apply below_drew1) | exact HB.out)) hb); clear HO_10; clear HB; have HO_10 := n0_; have HO259 := n1_; have HB := n2_; clear n0_ n1_ n2_; (try clear hb); (try clear hb2); (try clear hk); (try clear hi); (try clear ho0); obtain ⟨Ao63, co63, eo63⟩ := Kd.R_slice HO259.out; subst eo63))
                                go_ret
                                exact ⟨by first | rfl | (simp [errW_none, errW_some] <;> rfl) | (simp only [← hji24, ← hji27, ← hji29]; first | rfl | (simp [errW_none, errW_some] <;> rfl)) | (simp [*, errW_none, errW_some] <;> rfl), by repeat (first | (with_reducible first | exact HB.out | apply below_alloc | apply pw_below_drewN | apply below_drew1) | exact HB.out)⟩
                            · rw [if_neg c54] at H
                              have c54b0 : (t257 == 6) = false := beq_eq_false_iff_ne.mpr c54
                              have c54b1 : (t257 != 6) = true := bne_iff_ne.mpr c54
                              obtain rfl := Option.some.inj H
                              have p248 : 0 ≤ ((ji24) : Int) := of_decide_eq_true (by first | (with_reducible assumption) | assumption)
                              have q248 : (ji24) < (t244.length : Int) := of_decide_eq_true (by first | (with_reducible assumption) | assumption)
                              obtain ⟨ad248, e248, hx248_0⟩ := Kd.at_int (Kd.R_reads' HO_10.out).2.2 (ji24) p248 q248
                              cases e248
                              replace p248 := eq_true p248
                              replace q248 := eq_true q248
                              have p30 : 0 ≤ ((ji24) : Int) := of_decide_eq_true (by first | (with_reducible assumption) | assumption)
                              have q30 : ((ji24) : Int) < ((t244.length : Int) : Int) := of_decide_eq_true (by first | (with_reducible assumption) | assumption)
                              obtain ⟨go30, co30, eo30, gb30, gl30, cl30, HG30⟩ := Kd.R_form HO_10.out (by omega)
                              (first | cases eo30 | (injection eo30 with ea_ en_ ec_; (first | subst ea_ | (injection ea_ with ea_; subst ea_)); subst ec_; clear en_))
                              have GB30 := Aside0.mk gb30
                              have GG30 := Aside0.mk HG30
                              clear gb30 gl30 HG30
                              (first | simp only [add_plain] at hx248_0 | skip)
                              obtain ⟨hx30_0, hf30_0⟩ := Kd.R_celln 0 HO_10.out ((ji24) : Int) p30 q30
                              replace p30 := eq_true p30
                              replace q30 := eq_true q30
                              have HP64 := Kd.R_putg HO_10.out ((ji24) : Int) (Go.bits .xor .u8 (rd t244 (ji24)) (ji29))
                              go_wp2_with (first | ((with_reducible refine gate_store (t := 5) (p := 92) rfl ?_); refine store_event (t := 5) (p := 92) (v := ?vo_w65) (w1 := (wc.setCell ⟨go30, ((ji24) : Int).toNat, none⟩ (.int .u8 (Go.bits .xor .u8 (rd t244 (ji24)) (ji29))))) ?hg ?ho ?hn ?hr ?_; (case ho => rfl); (case hg => rfl); (case hn => rfl); (case hr => first | (go_simp; done) | (go_simp; rfl)); intro w65 hw; have hg : wc.grownBy w65 (some go30) := (by rw [hw]; exact HP64.2); have hp_ : Kd.R (Kd.int .u8) 5 w65 w.heap.size (fun _ => True) (.slice (some ⟨go30, 0, none⟩) t244.length co10) y249 := (by rw [hw, Ny249.out]; exact HP64.1); clear HP64; have n0_ := Aside0.mk (hp_); have n1_ := Aside0.mk ((by rw [hw]; exact below_set (HB.out) GB30.out : Below w.heap.size w w65)); clear HO_10; clear HB; have HO_10 := n0_; have HB := n1_; clear n0_ n1_; clear hg hw hp_) | ((with_reducible refine gate_callee (f := 11) rfl ?_); refine goesL_ (some 134) rfl rfl Try.func11 (by kernel_rfl) rfl #[.slice (some ⟨go30, 0, none⟩) y249.length co10] rfl (by (try simp only [List.map_toArray, List.map_cons, List.map_nil]); first | done | (rw [show y249.length = t244.length from (Kd.R_reads' HO_10.out).1.symm] <;> rfl) | rfl | (simp only [List.length_drop, List.length_take]; rfl)) ?_; (with_reducible refine (frame_Next.calls _ _ y249 t255 t256 t257 _ ?side1 ?side2 A52.out).mono ?_); (case side1 => repeat (first | exact (Kd.R_reads' HO_10.out).2.2 | (with_reducible refine Kd.C_alloc ?_ _) | (with_reducible refine Kd.C_drewN ?_ _) | (with_reducible refine Kd.C_drew ?_))); (case side2 => rw [show y249.length = t244.length from (Kd.R_reads' HO_10.out).1.symm]; exact (Kd.R_reads' HO_10.out).2.1); rintro e w66 ⟨v258, rfl, ho0, hb⟩; refine ⟨_, rfl, ?_⟩; have n0_ := Aside0.mk (Kd.R_elder' (by (with_reducible repeat (first | apply Kd.R_alloc | apply Kd.R_drewN | apply Kd.R_drew)); exact HO_10.out) (Kd.R_base ho0) hb); have n1_ := Aside0.mk (Kd.R_lower (Kd.R_new' ho0 (Kd.R_lt (by (with_reducible repeat (first | apply Kd.R_alloc | apply Kd.R_drewN | apply Kd.R_drew)); exact HO_10.out))) (below_size (by repeat (first | (with_reducible first | exact HB.out | apply below_alloc | apply pw_below_drewN | apply below_drew1) | exact HB.out)))); have n2_ := Aside0.mk (below_step (by repeat (first | (with_reducible first | exact HB.out | apply below_alloc | apply pw_below_drewN | apply below_drew1) | exact HB.out)) hb); clear HO_10; clear HB; have HO_10 := n0_; have HO259 := n1_; have HB := n2_; clear n0_ n1_ n2_; (try clear hb); (try clear hb2); (try clear hk); (try clear hi); (try clear ho0)))
                              go_ret
                              exact ⟨by first | rfl | (simp [errW_none, errW_some] <;> rfl) | (simp only [← hji24, ← hji27, ← hji29]; first | rfl | (simp [errW_none, errW_some] <;> rfl)) | (simp [*, errW_none, errW_some] <;> rfl), by repeat (first | (with_reducible first | exact HB.out | apply below_alloc | apply pw_below_drewN | apply below_drew1) | exact HB.out)⟩
                          · replace c53 := Bool.eq_false_iff.mpr c53
                            subst c53
                            have H1 : (some false) = some r := by rw [if_neg (show ¬ (false = true) by decide)] at H; exact H
                            clear H
                            have H := H1
                            clear H1
                            obtain rfl := Option.some.inj H
                            have p248 : 0 ≤ ((ji24) : Int) := of_decide_eq_true (by first | (with_reducible assumption) | assumption)
                            have q248 : (ji24) < (t244.length : Int) := of_decide_eq_true (by first | (with_reducible assumption) | assumption)
                            obtain ⟨ad248, e248, hx248_0⟩ := Kd.at_int (Kd.R_reads' HO_10.out).2.2 (ji24) p248 q248
                            cases e248
                            replace p248 := eq_true p248
                            replace q248 := eq_true q248
                            have p30 : 0 ≤ ((ji24) : Int) := of_decide_eq_true (by first | (with_reducible assumption) | assumption)
                            have q30 : ((ji24) : Int) < ((t244.length : Int) : Int) := of_decide_eq_true (by first | (with_reducible assumption) | assumption)
                            obtain ⟨go30, co30, eo30, gb30, gl30, cl30, HG30⟩ := Kd.R_form HO_10.out (by omega)
                            (first | cases eo30 | (injection eo30 with ea_ en_ ec_; (first | subst ea_ | (injection ea_ with ea_; subst ea_)); subst ec_; clear en_))
                            have GB30 := Aside0.mk gb30
                            have GG30 := Aside0.mk HG30
                            clear gb30 gl30 HG30
                            (first | simp only [add_plain] at hx248_0 | skip)
                            obtain ⟨hx30_0, hf30_0⟩ := Kd.R_celln 0 HO_10.out ((ji24) : Int) p30 q30
                            replace p30 := eq_true p30
                            replace q30 := eq_true q30
                            have HP67 := Kd.R_putg HO_10.out ((ji24) : Int) (Go.bits .xor .u8 (rd t244 (ji24)) (ji29))
                            go_wp2_with (first | ((with_reducible refine gate_store (t := 5) (p := 92) rfl ?_); refine store_event (t := 5) (p := 92) (v := ?vo_w68) (w1 := (wc.setCell ⟨go30, ((ji24) : Int).toNat, none⟩ (.int .u8 (Go.bits .xor .u8 (rd t244 (ji24)) (ji29))))) ?hg ?ho ?hn ?hr ?_; (case ho => rfl); (case hg => rfl); (case hn => rfl); (case hr => first | (go_simp; done) | (go_simp; rfl)); intro w68 hw; have hg : wc.grownBy w68 (some go30) := (by rw [hw]; exact HP67.2); have hp_ : Kd.R (Kd.int .u8) 5 w68 w.heap.size (fun _ => True) (.slice (some ⟨go30, 0, none⟩) t244.length co10) y249 := (by rw [hw, Ny249.out]; exact HP67.1); clear HP67; have n0_ := Aside0.mk (hp_); have n1_ := Aside0.mk ((by rw [hw]; exact below_set (HB.out) GB30.out : Below w.heap.size w w68)); clear HO_10; clear HB; have HO_10 := n0_; have HB := n1_; clear n0_ n1_; clear hg hw hp_) | ((with_reducible refine gate_callee (f := 11) rfl ?_); refine goesL_ (some 134) rfl rfl Try.func11 (by kernel_rfl) rfl #[.slice (some ⟨go30, 0, none⟩) y249.length co10] rfl (by (try simp only [List.map_toArray, List.map_cons, List.map_nil]); first | done | (rw [show y249.length = t244.length from (Kd.R_reads' HO_10.out).1.symm] <;> rfl) | rfl | (simp only [List.length_drop, List.length_take]; rfl)) ?_; (with_reducible refine (frame_Next.calls _ _ y249 t255 t256 t257 _ ?side1 ?side2 A52.out).mono ?_); (case side1 => repeat (first | exact (Kd.R_reads' HO_10.out).2.2 | (with_reducible refine Kd.C_alloc ?_ _) | (with_reducible refine Kd.C_drewN ?_ _) | (with_reducible refine Kd.C_drew ?_))); (case side2 => rw [show y249.length = t244.length from (Kd.R_reads' HO_10.out).1.symm]; exact (Kd.R_reads' HO_10.out).2.1); rintro e w69 ⟨v258, rfl, ho0, hb⟩; refine ⟨_, rfl, ?_⟩; have n0_ := Aside0.mk (Kd.R_elder' (by (with_reducible repeat (first | apply Kd.R_alloc | apply Kd.R_drewN | apply Kd.R_drew)); exact HO_10.out) (Kd.R_base ho0) hb); have n1_ := Aside0.mk (Kd.R_lower (Kd.R_new' ho0 (Kd.R_lt (by (with_reducible repeat (first | apply Kd.R_alloc | apply Kd.R_drewN | apply Kd.R_drew)); exact HO_10.out))) (below_size (by repeat (first | (with_reducible first | exact HB.out | apply below_alloc | apply pw_below_drewN | apply below_drew1) | exact HB.out)))); have n2_ := Aside0.mk (below_step (by repeat (first | (with_reducible first | exact HB.out | apply below_alloc | apply pw_below_drewN | apply below_drew1) | exact HB.out)) hb); clear HO_10; clear HB; have HO_10 := n0_; have HO259 := n1_; have HB := n2_; clear n0_ n1_ n2_; (try clear hb); (try clear hb2); (try clear hk); (try clear hi); (try clear ho0)))
                            go_ret
                            exact ⟨by first | rfl | (simp [errW_none, errW_some] <;> rfl) | (simp only [← hji24, ← hji27, ← hji29]; first | rfl | (simp [errW_none, errW_some] <;> rfl)) | (simp [*, errW_none, errW_some] <;> rfl), by repeat (first | (with_reducible first | exact HB.out | apply below_alloc | apply pw_below_drewN | apply below_drew1) | exact HB.out)⟩
                        · as_aux_lemma =>
                          rw [if_neg c51] at H
                          have c51b0 : (a3 == a2) = false := beq_eq_false_iff_ne.mpr c51
                          have c51b1 : (a3 != a2) = true := bne_iff_ne.mpr c51
                          obtain ⟨ji70, hji70⟩ : ∃ j_ : Int, (wrap64 (Int.tdiv a3 8)) = j_ := ⟨_, rfl⟩
                          replace H : (if 0 ≤ (ji70) then (if (ji70) < (t244.length : Int) then (if 0 ≤ (IntKind.u64.wrap (Int.tmod a3 8)) then ((frame_Next.f (y249.set ((ji70) : Int).toNat (Go.bits .xor .u8 (rd y249 (ji70)) (shl .u8 1 (IntKind.u64.wrap (Int.tmod a3 8)))))).bind fun bt262 => (if t243 = true then (if bt262.2.2 = 6 then (if (bt262.1.length : Int) = 0 then (some (bt262.2.1 == 0)) else (some false)) else (some false)) else (some false))) else (none)) else (none)) else (none)) = some r := by first | (rw [hji70] at H; exact H) | (simp only [hji70] at H ⊢; exact H)
                          have hji70w : (IntKind.i64.wrap (Int.tdiv a3 8)) = ji70 := (i64_w _).trans hji70
                          by_cases c71 : 0 ≤ (ji70)
                          · rw [if_pos c71] at H
                            have c71b0 : decide (0 ≤ (ji70)) = true := decide_eq_true c71
                            clear c71
                            by_cases c72 : (ji70) < (t244.length : Int)
                            · rw [if_pos c72] at H
                              have c72b0 : decide ((ji70) < (t244.length : Int)) = true := decide_eq_true c72
                              clear c72
                              obtain ⟨ji73, hji73⟩ : ∃ j_ : Int, (IntKind.u64.wrap (Int.tmod a3 8)) = j_ := ⟨_, rfl⟩
                              replace H : (if 0 ≤ (ji73) then ((frame_Next.f (y249.set ((ji70) : Int).toNat (Go.bits .xor .u8 (rd y249 (ji70)) (shl .u8 1 (ji73))))).bind fun bt262 => (if t243 = true then (if bt262.2.2 = 6 then (if (bt262.1.length : Int) = 0 then (some (bt262.2.1 == 0)) else (some false)) else (some false)) else (some false))) else (none)) = some r := by first | (rw [hji73] at H; exact H) | (simp only [hji73] at H ⊢; exact H)
                              by_cases c74 : 0 ≤ (ji73)
                              · rw [if_pos c74] at H
                                have c74b0 := eq_true c74
                                have c74b1 : decide (0 ≤ (ji73)) = true := decide_eq_true c74
                                clear c74
                                obtain ⟨ji75, hji75⟩ : ∃ j_ : Int, (shl .u8 1 (ji73)) = j_ := ⟨_, rfl⟩
                                replace H : ((frame_Next.f (y249.set ((ji70) : Int).toNat (Go.bits .xor .u8 (rd y249 (ji70)) (ji75)))).bind fun bt262 => (if t243 = true then (if bt262.2.2 = 6 then (if (bt262.1.length : Int) = 0 then (some (bt262.2.1 == 0)) else (some false)) else (some false)) else (some false))) = some r := by first | (rw [hji75] at H; exact H) | (simp only [hji75] at H ⊢; exact H)
                                have hji75_ : (IntKind.u8.wrap (1 * 2 ^ min (ji73).toNat 8)) = ji75 := hji75
                                have hji75z : (ji73) ≤ 8 → (IntKind.u8.wrap (1 * 2 ^ (ji73).toNat)) = ji75 := shl_small hji75
                                have hji75u : (IntKind.u8.wrap (2 ^ min (ji73).toNat 8)) = ji75 := by have h_ := hji75_; rw [Int.one_mul] at h_; exact h_
                                have hji75v : (ji73) ≤ 8 → (IntKind.u8.wrap (2 ^ (ji73).toNat)) = ji75 := fun hle_ => by have h_ := hji75z hle_; rw [Int.one_mul] at h_; exact h_
                                have hji75l : (2 ^ ((ji73)).toNat % 256) = ji75 := by have h_ := hji75u; rw [IntKind.wrap_u8, pow_min8] at h_; exact h_
                                obtain ⟨y261, hy261⟩ : ∃ y_ : List Int, y_ = (y249.set ((ji70) : Int).toNat (Go.bits .xor .u8 (rd y249 (ji70)) (ji75))) := ⟨_, rfl⟩
                                replace H : ((frame_Next.f y261).bind fun bt262 => (if t243 = true then (if bt262.2.2 = 6 then (if (bt262.1.length : Int) = 0 then (some (bt262.2.1 == 0)) else (some false)) else (some false)) else (some false))) = some r := by first | (rw [hy261]; with_reducible exact H) | (have H2_ := (Option.bind_some _ _).symm.trans H; rw [hy261]; with_reducible exact H2_) | (have H2_ := (Option.bind_some _ _).symm.trans H; with_reducible exact H2_) | with_reducible exact H | (rw [hy261]; exact H) | exact H
                                have Ny261 := Aside0.mk hy261
                                clear hy261
                                replace H := Option.bind_eq_some_iff.mp H
                                obtain ⟨⟨t262, t263, t264⟩, A770, H⟩ := H
                                replace H : (if t243 = true then (if t264 = 6 then (if (t262.length : Int) = 0 then (some (t263 == 0)) else (some false)) else (some false)) else (some false)) = some r := H
                                have A77 := Aside0.mk A770
                                clear A770
                                by_cases c78 : t243 = true
                                · subst c78
                                  have H1 : (if t264 = 6 then (if (t262.length : Int) = 0 then (some (t263 == 0)) else (some false)) else (some false)) = some r := by rw [if_pos rfl] at H; exact H
                                  clear H
                                  have H := H1
                                  clear H1
                                  by_cases c79 : t264 = 6
                                  · rw [if_pos c79] at H
                                    have c79b0 : (t264 == 6) = true := beq_iff_eq.mpr c79
                                    have c79b1 : (t264 != 6) = false := bne_eq_false_iff_eq.mpr c79
                                    clear c79
                                    by_cases c80 : (t262.length : Int) = 0
                                    · rw [if_pos c80] at H
                                      have c80b0 : ((t262.length : Int) == 0) = true := beq_iff_eq.mpr c80
                                      have c80b1 : ((t262.length : Int) != 0) = false := bne_eq_false_iff_eq.mpr c80
                                      clear c80
                                      obtain rfl := Option.some.inj H
                                      have p248 : 0 ≤ ((ji24) : Int) := of_decide_eq_true (by first | (with_reducible assumption) | assumption)
                                      have q248 : (ji24) < (t244.length : Int) := of_decide_eq_true (by first | (with_reducible assumption) | assumption)
                                      obtain ⟨ad248, e248, hx248_0⟩ := Kd.at_int (Kd.R_reads' HO_10.out).2.2 (ji24) p248 q248
                                      cases e248
                                      replace p248 := eq_true p248
                                      replace q248 := eq_true q248
                                      have p30 : 0 ≤ ((ji24) : Int) := of_decide_eq_true (by first | (with_reducible assumption) | assumption)
                                      have q30 : ((ji24) : Int) < ((t244.length : Int) : Int) := of_decide_eq_true (by first | (with_reducible assumption) | assumption)
                                      obtain ⟨go30, co30, eo30, gb30, gl30, cl30, HG30⟩ := Kd.R_form HO_10.out (by omega)
                                      (first | cases eo30 | (injection eo30 with ea_ en_ ec_; (first | subst ea_ | (injection ea_ with ea_; subst ea_)); subst ec_; clear en_))
                                      have GB30 := Aside0.mk gb30
                                      have GG30 := Aside0.mk HG30
                                      clear gb30 gl30 HG30
                                      (first | simp only [add_plain] at hx248_0 | skip)
                                      obtain ⟨hx30_0, hf30_0⟩ := Kd.R_celln 0 HO_10.out ((ji24) : Int) p30 q30
                                      replace p30 := eq_true p30
                                      replace q30 := eq_true q30
                                      have HP81 := Kd.R_putg HO_10.out ((ji24) : Int) (Go.bits .xor .u8 (rd t244 (ji24)) (ji29))
                                      go_wp2_with (first | ((with_reducible refine gate_store (t := 5) (p := 92) rfl ?_); refine store_event (t := 5) (p := 92) (v := ?vo_w82) (w1 := (wc.setCell ⟨go30, ((ji24) : Int).toNat, none⟩ (.int .u8 (Go.bits .xor .u8 (rd t244 (ji24)) (ji29))))) ?hg ?ho ?hn ?hr ?_; (case ho => rfl); (case hg => rfl); (case hn => rfl); (case hr => first | (go_simp; done) | (go_simp; rfl)); intro w82 hw; have hg : wc.grownBy w82 (some go30) := (by rw [hw]; exact HP81.2); have hp_ : Kd.R (Kd.int .u8) 5 w82 w.heap.size (fun _ => True) (.slice (some ⟨go30, 0, none⟩) t244.length co10) y249 := (by rw [hw, Ny249.out]; exact HP81.1); clear HP81; have n0_ := Aside0.mk (hp_); have n1_ := Aside0.mk ((by rw [hw]; exact below_set (HB.out) GB30.out : Below w.heap.size w w82)); clear HO_10; clear HB; have HO_10 := n0_; have HB := n1_; clear n0_ n1_; clear hg hw hp_; have p260 : 0 ≤ ((ji70) : Int) := of_decide_eq_true (by first | (with_reducible assumption) | assumption); have q260 : (ji70) < (y249.length : Int) := (by have h_ : ((ji70) : Int) < ((t244.length : Int) : Int) := of_decide_eq_true (by first | (with_reducible assumption) | assumption); first | (have e_ := (Kd.R_reads' HO_10.out).1; omega) | simpa only [Ny249.out, List.length_set] using h_); have ql260 : (((ji70) : Int) < ((t244.length : Int) : Int)) = True := eq_true (of_decide_eq_true (by first | (with_reducible assumption) | assumption)); obtain ⟨ad260, e260, hx260_0⟩ := Kd.at_int (Kd.R_reads' HO_10.out).2.2 (ji70) p260 q260; obtain rfl : (⟨go30, 0, none⟩ : Addr) = ad260 := (by injection e260); (first | simp only [add_plain] at hx260_0 | simp only [add_at] at hx260_0 | simp only [Addr.add, Nat.zero_add] at hx260_0 | skip); replace p260 := eq_true p260; replace q260 := eq_true q260; have p76 : 0 ≤ ((ji70) : Int) := of_decide_eq_true (by first | (with_reducible assumption) | assumption); have q76 : ((ji70) : Int) < ((t244.length : Int) : Int) := of_decide_eq_true (by first | (with_reducible assumption) | assumption); obtain ⟨hx76_0, hf76_0⟩ := Kd.R_celln 0 HO_10.out ((ji70) : Int) p76 q76; replace p76 := eq_true p76; replace q76 := eq_true q76; obtain ⟨hy83_, hz83_⟩ := Kd.R_celln 0 HO_10.out ((ji70) : Int) (of_decide_eq_true (by first | (with_reducible assumption) | assumption)) (of_decide_eq_true (by first | (with_reducible assumption) | assumption)); have HP83 := Kd.R_putg HO_10.out ((ji70) : Int) (Go.bits .xor .u8 (rd y249 (ji70)) (ji75))) | ((with_reducible refine gate_store (t := 5) (p := 131) rfl ?_); refine store_event (t := 5) (p := 131) (v := ?vo_w84) (w1 := (w82.setCell ⟨go30, ((ji70) : Int).toNat, none⟩ (.int .u8 (Go.bits .xor .u8 (rd y249 (ji70)) (ji75))))) ?hg ?ho ?hn ?hr ?_; (case ho => rfl); (case hg => rfl); (case hn => rfl); (case hr => first | (go_simp; done) | (go_simp; rfl)); intro w84 hw; have hg : w82.grownBy w84 (some go30) := (by rw [hw]; exact HP83.2); have hp_ : Kd.R (Kd.int .u8) 5 w84 w.heap.size (fun _ => True) (.slice (some ⟨go30, 0, none⟩) t244.length co10) y261 := (by rw [hw, Ny261.out]; exact HP83.1); clear HP83; have n0_ := Aside0.mk (hp_); have n1_ := Aside0.mk ((by rw [hw]; exact below_set (HB.out) GB30.out : Below w.heap.size w w84)); clear HO_10; clear HB; have HO_10 := n0_; have HB := n1_; clear n0_ n1_; clear hg hw hp_) | ((with_reducible refine gate_callee (f := 11) rfl ?_); refine goesL_ (some 134) rfl rfl Try.func11 (by kernel_rfl) rfl #[.slice (some ⟨go30, 0, none⟩) y261.length co10] rfl (by (try simp only [List.map_toArray, List.map_cons, List.map_nil]); first | done | (rw [show y261.length = t244.length from (Kd.R_reads' HO_10.out).1.symm] <;> rfl) | rfl | (simp only [List.length_drop, List.length_take]; rfl)) ?_; (with_reducible refine (frame_Next.calls _ _ y261 t262 t263 t264 _ ?side1 ?side2 A77.out).mono ?_); (case side1 => repeat (first | exact (Kd.R_reads' HO_10.out).2.2 | (with_reducible refine Kd.C_alloc ?_ _) | (with_reducible refine Kd.C_drewN ?_ _) | (with_reducible refine Kd.C_drew ?_))); (case side2 => rw [show y261.length = t244.length from (Kd.R_reads' HO_10.out).1.symm]; exact (Kd.R_reads' HO_10.out).2.1); rintro e w85 ⟨v265, rfl, ho0, hb⟩; refine ⟨_, rfl, ?_⟩; have n0_ := Aside0.mk (Kd.R_elder' (by (with_reducible repeat (first | apply Kd.R_alloc | apply Kd.R_drewN | apply Kd.R_drew)); exact HO_10.out) (Kd.R_base ho0) hb); have n1_ := Aside0.mk (Kd.R_lower (Kd.R_new' ho0 (Kd.R_lt (by (with_reducible repeat (first | apply Kd.R_alloc | apply Kd.R_drewN | apply Kd.R_drew)); exact HO_10.out))) (below_size (by repeat (first | (with_reducible first | exact HB.out | apply below_alloc | apply pw_below_drewN | apply below_drew1) | exact HB.out)))); have n2_ := Aside0.mk (below_step (by repeat (first | (with_reducible first | exact HB.out | apply below_alloc | apply pw_below_drewN | apply below_drew1) | exact HB.out)) hb); clear HO_10; clear HB; have HO_10 := n0_; have HO266 := n1_; have HB := n2_; clear n0_ n1_ n2_; (try clear hb); (try clear hb2); (try clear hk); (try clear hi); (try clear ho0); obtain ⟨Ao86, co86, eo86⟩ := Kd.R_slice HO266.out; subst eo86))
                                      go_ret
                                      exact ⟨by first | rfl | (simp [errW_none, errW_some] <;> rfl) | (simp only [← hji24, ← hji27, ← hji29, ← hji70, ← hji73, ← hji75]; first | rfl | (simp [errW_none, errW_some] <;> rfl)) | (simp [*, errW_none, errW_some] <;> rfl), by repeat (first | (with_reducible first | exact HB.out | apply below_alloc | apply pw_below_drewN | apply below_drew1) | exact HB.out)⟩
                                    · rw [if_neg c80] at H
                                      have c80b0 : ((t262.length : Int) == 0) = false := beq_eq_false_iff_ne.mpr c80
                                      have c80b1 : ((t262.length : Int) != 0) = true := bne_iff_ne.mpr c80
                                      have c80b2 : ¬ (t262 = []) := fun h_ => c80 (by rw [h_]; rfl)
                                      obtain rfl := Option.some.inj H
                                      have p248 : 0 ≤ ((ji24) : Int) := of_decide_eq_true (by first | (with_reducible assumption) | assumption)
                                      have q248 : (ji24) < (t244.length : Int) := of_decide_eq_true (by first | (with_reducible assumption) | assumption)
                                      obtain ⟨ad248, e248, hx248_0⟩ := Kd.at_int (Kd.R_reads' HO_10.out).2.2 (ji24) p248 q248
                                      cases e248
                                      replace p248 := eq_true p248
                                      replace q248 := eq_true q248
                                      have p30 : 0 ≤ ((ji24) : Int) := of_decide_eq_true (by first | (with_reducible assumption) | assumption)
                                      have q30 : ((ji24) : Int) < ((t244.length : Int) : Int) := of_decide_eq_true (by first | (with_reducible assumption) | assumption)
                                      obtain ⟨go30, co30, eo30, gb30, gl30, cl30, HG30⟩ := Kd.R_form HO_10.out (by omega)
                                      (first | cases eo30 | (injection eo30 with ea_ en_ ec_; (first | subst ea_ | (injection ea_ with ea_; subst ea_)); subst ec_; clear en_))
                                      have GB30 := Aside0.mk gb30
                                      have GG30 := Aside0.mk HG30
                                      clear gb30 gl30 HG30
                                      (first | simp only [add_plain] at hx248_0 | skip)
                                      obtain ⟨hx30_0, hf30_0⟩ := Kd.R_celln 0 HO_10.out ((ji24) : Int) p30 q30
                                      replace p30 := eq_true p30
                                      replace q30 := eq_true q30
                                      have HP87 := Kd.R_putg HO_10.out ((ji24) : Int) (Go.bits .xor .u8 (rd t244 (ji24)) (ji29))
                                      go_wp2_with (first | ((with_reducible refine gate_store (t := 5) (p := 92) rfl ?_); refine store_event (t := 5) (p := 92) (v := ?vo_w88) (w1 := (wc.setCell ⟨go30, ((ji24) : Int).toNat, none⟩ (.int .u8 (Go.bits .xor .u8 (rd t244 (ji24)) (ji29))))) ?hg ?ho ?hn ?hr ?_; (case ho => rfl); (case hg => rfl); (case hn => rfl); (case hr => first | (go_simp; done) | (go_simp; rfl)); intro w88 hw; have hg : wc.grownBy w88 (some go30) := (by rw [hw]; exact HP87.2); have hp_ : Kd.R (Kd.int .u8) 5 w88 w.heap.size (fun _ => True) (.slice (some ⟨go30, 0, none⟩) t244.length co10) y249 := (by rw [hw, Ny249.out]; exact HP87.1); clear HP87; have n0_ := Aside0.mk (hp_); have n1_ := Aside0.mk ((by rw [hw]; exact below_set (HB.out) GB30.out : Below w.heap.size w w88)); clear HO_10; clear HB; have HO_10 := n0_; have HB := n1_; clear n0_ n1_; clear hg hw hp_; have p260 : 0 ≤ ((ji70) : Int) := of_decide_eq_true (by first | (with_reducible assumption) | assumption); have q260 : (ji70) < (y249.length : Int) := (by have h_ : ((ji70) : Int) < ((t244.length : Int) : Int) := of_decide_eq_true (by first | (with_reducible assumption) | assumption); first | (have e_ := (Kd.R_reads' HO_10.out).1; omega) | simpa only [Ny249.out, List.length_set] using h_); have ql260 : (((ji70) : Int) < ((t244.length : Int) : Int)) = True := eq_true (of_decide_eq_true (by first | (with_reducible assumption) | assumption)); obtain ⟨ad260, e260, hx260_0⟩ := Kd.at_int (Kd.R_reads' HO_10.out).2.2 (ji70) p260 q260; obtain rfl : (⟨go30, 0, none⟩ : Addr) = ad260 := (by injection e260); (first | simp only [add_plain] at hx260_0 | simp only [add_at] at hx260_0 | simp only [Addr.add, Nat.zero_add] at hx260_0 | skip); replace p260 := eq_true p260; replace q260 := eq_true q260; have p76 : 0 ≤ ((ji70) : Int) := of_decide_eq_true (by first | (with_reducible assumption) | assumption); have q76 : ((ji70) : Int) < ((t244.length : Int) : Int) := of_decide_eq_true (by first | (with_reducible assumption) | assumption); obtain ⟨hx76_0, hf76_0⟩ := Kd.R_celln 0 HO_10.out ((ji70) : Int) p76 q76; replace p76 := eq_true p76; replace q76 := eq_true q76; obtain ⟨hy89_, hz89_⟩ := Kd.R_celln 0 HO_10.out ((ji70) : Int) (of_decide_eq_true (by first | (with_reducible assumption) | assumption)) (of_decide_eq_true (by first | (with_reducible assumption) | assumption)); have HP89 := Kd.R_putg HO_10.out ((ji70) : Int) (Go.bits .xor .u8 (rd y249 (ji70)) (ji75))) | ((with_reducible refine gate_store (t := 5) (p := 131) rfl ?_); refine store_event (t := 5) (p := 131) (v := ?vo_w90) (w1 := (w88.setCell ⟨go30, ((ji70) : Int).toNat, none⟩ (.int .u8 (Go.bits .xor .u8 (rd y249 (ji70)) (ji75))))) ?hg ?ho ?hn ?hr ?_; (case ho => rfl); (case hg => rfl); (case hn => rfl); (case hr => first | (go_simp; done) | (go_simp; rfl)); intro w90 hw; have hg : w88.grownBy w90 (some go30) := (by rw [hw]; exact HP89.2); have hp_ : Kd.R (Kd.int .u8) 5 w90 w.heap.size (fun _ => True) (.slice (some ⟨go30, 0, none⟩) t244.length co10) y261 := (by rw [hw, Ny261.out]; exact HP89.1); clear HP89; have n0_ := Aside0.mk (hp_); have n1_ := Aside0.mk ((by rw [hw]; exact below_set (HB.out) GB30.out : Below w.heap.size w w90)); clear HO_10; clear HB; have HO_10 := n0_; have HB := n1_; clear n0_ n1_; clear hg hw hp_) | ((with_reducible refine gate_callee (f := 11) rfl ?_); refine goesL_ (some 134) rfl rfl Try.func11 (by kernel_rfl) rfl #[.slice (some ⟨go30, 0, none⟩) y261.length co10] rfl (by (try simp only [List.map_toArray, List.map_cons, List.map_nil]); first | done | (rw [show y261.length = t244.length from (Kd.R_reads' HO_10.out).1.symm] <;> rfl) | rfl | (simp only [List.length_drop, List.length_take]; rfl)) ?_; (with_reducible refine (frame_Next.calls _ _ y261 t262 t263 t264 _ ?side1 ?side2 A77.out).mono ?_); (case side1 => repeat (first | exact (Kd.R_reads' HO_10.out).2.2 | (with_reducible refine Kd.C_alloc ?_ _) | (with_reducible refine Kd.C_drewN ?_ _) | (with_reducible refine Kd.C_drew ?_))); (case side2 => rw [show y261.length = t244.length from (Kd.R_reads' HO_10.out).1.symm]; exact (Kd.R_reads' HO_10.out).2.1); rintro e w91 ⟨v265, rfl, ho0, hb⟩; refine ⟨_, rfl, ?_⟩; have n0_ := Aside0.mk (Kd.R_elder' (by (with_reducible repeat (first | apply Kd.R_alloc | apply Kd.R_drewN | apply Kd.R_drew)); exact HO_10.out) (Kd.R_base ho0) hb); have n1_ := Aside0.mk (Kd.R_lower (Kd.R_new' ho0 (Kd.R_lt (by (with_reducible repeat (first | apply Kd.R_alloc | apply Kd.R_drewN | apply Kd.R_drew)); exact HO_10.out))) (below_size (by repeat (first | (with_reducible first | exact HB.out | apply below_alloc | apply pw_below_drewN | apply below_drew1) | exact HB.out)))); have n2_ := Aside0.mk (below_step (by repeat (first | (with_reducible first | exact HB.out | apply below_alloc | apply pw_below_drewN | apply below_drew1) | exact HB.out)) hb); clear HO_10; clear HB; have HO_10 := n0_; have HO266 := n1_; have HB := n2_; clear n0_ n1_ n2_; (try clear hb); (try clear hb2); (try clear hk); (try clear hi); (try clear ho0); obtain ⟨Ao92, co92, eo92⟩ := Kd.R_slice HO266.out; subst eo92))
                                      go_ret
                                      exact ⟨by first | rfl | (simp [errW_none, errW_some] <;> rfl) | (simp only [← hji24, ← hji27, ← hji29, ← hji70, ← hji73, ← hji75]; first | rfl | (simp [errW_none, errW_some] <;> rfl)) | (simp [*, errW_none, errW_some] <;> rfl), by repeat (first | (with_reducible first | exact HB.out | apply below_alloc | apply pw_below_drewN | apply below_drew1) | exact HB.out)⟩
                                  · rw [if_neg c79] at H
                                    have c79b0 : (t264 == 6) = false := beq_eq_false_iff_ne.mpr c79
                                    have c79b1 : (t264 != 6) = true := bne_iff_ne.mpr c79
                                    obtain rfl := Option.some.inj H
                                    have p248 : 0 ≤ ((ji24) : Int) := of_decide_eq_true (by first | (with_reducible assumption) | assumption)
                                    have q248 : (ji24) < (t244.length : Int) := of_decide_eq_true (by first | (with_reducible assumption) | assumption)
                                    obtain ⟨ad248, e248, hx248_0⟩ := Kd.at_int (Kd.R_reads' HO_10.out).2.2 (ji24) p248 q248
                                    cases e248
                                    replace p248 := eq_true p248
                                    replace q248 := eq_true q248
                                    have p30 : 0 ≤ ((ji24) : Int) := of_decide_eq_true (by first | (with_reducible assumption) | assumption)
                                    have q30 : ((ji24) : Int) < ((t244.length : Int) : Int) := of_decide_eq_true (by first | (with_reducible assumption) | assumption)
                                    obtain ⟨go30, co30, eo30, gb30, gl30, cl30, HG30⟩ := Kd.R_form HO_10.out (by omega)
                                    (first | cases eo30 | (injection eo30 with ea_ en_ ec_; (first | subst ea_ | (injection ea_ with ea_; subst ea_)); subst ec_; clear en_))
                                    have GB30 := Aside0.mk gb30
                                    have GG30 := Aside0.mk HG30
                                    clear gb30 gl30 HG30
                                    (first | simp only [add_plain] at hx248_0 | skip)
                                    obtain ⟨hx30_0, hf30_0⟩ := Kd.R_celln 0 HO_10.out ((ji24) : Int) p30 q30
                                    replace p30 := eq_true p30
                                    replace q30 := eq_true q30
                                    have HP93 := Kd.R_putg HO_10.out ((ji24) : Int) (Go.bits .xor .u8 (rd t244 (ji24)) (ji29))
                                    go_wp2_with (first | ((with_reducible refine gate_store (t := 5) (p := 92) rfl ?_); refine store_event (t := 5) (p := 92) (v := ?vo_w94) (w1 := (wc.setCell ⟨go30, ((ji24) : Int).toNat, none⟩ (.int .u8 (Go.bits .xor .u8 (rd t244 (ji24)) (ji29))))) ?hg ?ho ?hn ?hr ?_; (case ho => rfl); (case hg => rfl); (case hn => rfl); (case hr => first | (go_simp; done) | (go_simp; rfl)); intro w94 hw; have hg : wc.grownBy w94 (some go30) := (by rw [hw]; exact HP93.2); have hp_ : Kd.R (Kd.int .u8) 5 w94 w.heap.size (fun _ => True) (.slice (some ⟨go30, 0, none⟩) t244.length co10) y249 := (by rw [hw, Ny249.out]; exact HP93.1); clear HP93; have n0_ := Aside0.mk (hp_); have n1_ := Aside0.mk ((by rw [hw]; exact below_set (HB.out) GB30.out : Below w.heap.size w w94)); clear HO_10; clear HB; have HO_10 := n0_; have HB := n1_; clear n0_ n1_; clear hg hw hp_; have p260 : 0 ≤ ((ji70) : Int) := of_decide_eq_true (by first | (with_reducible assumption) | assumption); have q260 : (ji70) < (y249.length : Int) := (by have h_ : ((ji70) : Int) < ((t244.length : Int) : Int) := of_decide_eq_true (by first | (with_reducible assumption) | assumption); first | (have e_ := (Kd.R_reads' HO_10.out).1; omega) | simpa only [Ny249.out, List.length_set] using h_); have ql260 : (((ji70) : Int) < ((t244.length : Int) : Int)) = True := eq_true (of_decide_eq_true (by first | (with_reducible assumption) | assumption)); obtain ⟨ad260, e260, hx260_0⟩ := Kd.at_int (Kd.R_reads' HO_10.out).2.2 (ji70) p260 q260; obtain rfl : (⟨go30, 0, none⟩ : Addr) = ad260 := (by injection e260); (first | simp only [add_plain] at hx260_0 | simp only [add_at] at hx260_0 | simp only [Addr.add, Nat.zero_add] at hx260_0 | skip); replace p260 := eq_true p260; replace q260 := eq_true q260; have p76 : 0 ≤ ((ji70) : Int) := of_decide_eq_true (by first | (with_reducible assumption) | assumption); have q76 : ((ji70) : Int) < ((t244.length : Int) : Int) := of_decide_eq_true (by first | (with_reducible assumption) | assumption); obtain ⟨hx76_0, hf76_0⟩ := Kd.R_celln 0 HO_10.out ((ji70) : Int) p76 q76; replace p76 := eq_true p76; replace q76 := eq_true q76; obtain ⟨hy95_, hz95_⟩ := Kd.R_celln 0 HO_10.out ((ji70) : Int) (of_decide_eq_true (by first | (with_reducible assumption) | assumption)) (of_decide_eq_true (by first | (with_reducible assumption) | assumption)); have HP95 := Kd.R_putg HO_10.out ((ji70) : Int) (Go.bits .xor .u8 (rd y249 (ji70)) (ji75))) | ((with_reducible refine gate_store (t := 5) (p := 131) rfl ?_); refine store_event (t := 5) (p := 131) (v := ?vo_w96) (w1 := (w94.setCell ⟨go30, ((ji70) : Int).toNat, none⟩ (.int .u8 (Go.bits .xor .u8 (rd y249 (ji70)) (ji75))))) ?hg ?ho ?hn ?hr ?_; (case ho => rfl); (case hg => rfl); (case hn => rfl); (case hr => first | (go_simp; done) | (go_simp; rfl)); intro w96 hw; have hg : w94.grownBy w96 (some go30) := (by rw [hw]; exact HP95.2); have hp_ : Kd.R (Kd.int .u8) 5 w96 w.heap.size (fun _ => True) (.slice (some ⟨go30, 0, none⟩) t244.length co10) y261 := (by rw [hw, Ny261.out]; exact HP95.1); clear HP95; have n0_ := Aside0.mk (hp_); have n1_ := Aside0.mk ((by rw [hw]; exact below_set (HB.out) GB30.out : Below w.heap.size w w96)); clear HO_10; clear HB; have HO_10 := n0_; have HB := n1_; clear n0_ n1_; clear hg hw hp_) | ((with_reducible refine gate_callee (f := 11) rfl ?_); refine goesL_ (some 134) rfl rfl Try.func11 (by kernel_rfl) rfl #[.slice (some ⟨go30, 0, none⟩) y261.length co10] rfl (by (try simp only [List.map_toArray, List.map_cons, List.map_nil]); first | done | (rw [show y261.length = t244.length from (Kd.R_reads' HO_10.out).1.symm] <;> rfl) | rfl | (simp only [List.length_drop, List.length_take]; rfl)) ?_; (with_reducible refine (frame_Next.calls _ _ y261 t262 t263 t264 _ ?side1 ?side2 A77.out).mono ?_); (case side1 => repeat (first | exact (Kd.R_reads' HO_10.out).2.2 | (with_reducible refine Kd.C_alloc ?_ _) | (with_reducible refine Kd.C_drewN ?_ _) | (with_reducible refine Kd.C_drew ?_))); (case side2 => rw [show y261.length = t244.length from (Kd.R_reads' HO_10.out).1.symm]; exact (Kd.R_reads' HO_10.out).2.1); rintro e w97 ⟨v265, rfl, ho0, hb⟩; refine ⟨_, rfl, ?_⟩; have n0_ := Aside0.mk (Kd.R_elder' (by (with_reducible repeat (first | apply Kd.R_alloc | apply Kd.R_drewN | apply Kd.R_drew)); exact HO_10.out) (Kd.R_base ho0) hb); have n1_ := Aside0.mk (Kd.R_lower (Kd.R_new' ho0 (Kd.R_lt (by (with_reducible repeat (first | apply Kd.R_alloc | apply Kd.R_drewN | apply Kd.R_drew)); exact HO_10.out))) (below_size (by repeat (first | (with_reducible first | exact HB.out | apply below_alloc | apply pw_below_drewN | apply below_drew1) | exact HB.out)))); have n2_ := Aside0.mk (below_step (by repeat (first | (with_reducible first | exact HB.out | apply below_alloc | apply pw_below_drewN | apply below_drew1) | exact HB.out)) hb); clear HO_10; clear HB; have HO_10 := n0_; have HO266 := n1_; have HB := n2_; clear n0_ n1_ n2_; (try clear hb); (try clear hb2); (try clear hk); (try clear hi); (try clear ho0)))
                                    go_ret
                                    exact ⟨by first | rfl | (simp [errW_none, errW_some] <;> rfl) | (simp only [← hji24, ← hji27, ← hji29, ← hji70, ← hji73, ← hji75]; first | rfl | (simp [errW_none, errW_some] <;> rfl)) | (simp [*, errW_none, errW_some] <;> rfl), by repeat (first | (with_reducible first | exact HB.out | apply below_alloc | apply pw_below_drewN | apply below_drew1) | exact HB.out)⟩
                                · replace c78 := Bool.eq_false_iff.mpr c78
                                  subst c78
                                  have H1 : (some false) = some r := by rw [if_neg (show ¬ (false = true) by decide)] at H; exact H
                                  clear H
                                  have H := H1
                                  clear H1
                                  obtain rfl := Option.some.inj H
                                  have p248 : 0 ≤ ((ji24) : Int) := of_decide_eq_true (by first | (with_reducible assumption) | assumption)
                                  have q248 : (ji24) < (t244.length : Int) := of_decide_eq_true (by first | (with_reducible assumption) | assumption)
                                  obtain ⟨ad248, e248, hx248_0⟩ := Kd.at_int (Kd.R_reads' HO_10.out).2.2 (ji24) p248 q248
                                  cases e248
                                  replace p248 := eq_true p248
                                  replace q248 := eq_true q248
                                  have p30 : 0 ≤ ((ji24) : Int) := of_decide_eq_true (by first | (with_reducible assumption) | assumption)
                                  have q30 : ((ji24) : Int) < ((t244.length : Int) : Int) := of_decide_eq_true (by first | (with_reducible assumption) | assumption)
                                  obtain ⟨go30, co30, eo30, gb30, gl30, cl30, HG30⟩ := Kd.R_form HO_10.out (by omega)
                                  (first | cases eo30 | (injection eo30 with ea_ en_ ec_; (first | subst ea_ | (injection ea_ with ea_; subst ea_)); subst ec_; clear en_))
                                  have GB30 := Aside0.mk gb30
                                  have GG30 := Aside0.mk HG30
                                  clear gb30 gl30 HG30
                                  (first | simp only [add_plain] at hx248_0 | skip)
                                  obtain ⟨hx30_0, hf30_0⟩ := Kd.R_celln 0 HO_10.out ((ji24) : Int) p30 q30
                                  replace p30 := eq_true p30
                                  replace q30 := eq_true q30
                                  have HP98 := Kd.R_putg HO_10.out ((ji24) : Int) (Go.bits .xor .u8 (rd t244 (ji24)) (ji29))
                                  go_wp2_with (first | ((with_reducible refine gate_store (t := 5) (p := 92) rfl ?_); refine store_event (t := 5) (p := 92) (v := ?vo_w99) (w1 := (wc.setCell ⟨go30, ((ji24) : Int).toNat, none⟩ (.int .u8 (Go.bits .xor .u8 (rd t244 (ji24)) (ji29))))) ?hg ?ho ?hn ?hr ?_; (case ho => rfl); (case hg => rfl); (case hn => rfl); (case hr => first | (go_simp; done) | (go_simp; rfl)); intro w99 hw; have hg : wc.grownBy w99 (some go30) := (by rw [hw]; exact HP98.2); have hp_ : Kd.R (Kd.int .u8) 5 w99 w.heap.size (fun _ => True) (.slice (some ⟨go30, 0, none⟩) t244.length co10) y249 := (by rw [hw, Ny249.out]; exact HP98.1); clear HP98; have n0_ := Aside0.mk (hp_); have n1_ := Aside0.mk ((by rw [hw]; exact below_set (HB.out) GB30.out : Below w.heap.size w w99)); clear HO_10; clear HB; have HO_10 := n0_; have HB := n1_; clear n0_ n1_; clear hg hw hp_; have p260 : 0 ≤ ((ji70) : Int) := of_decide_eq_true (by first | (with_reducible assumption) | assumption); have q260 : (ji70) < (y249.length : Int) := (by have h_ : ((ji70) : Int) < ((t244.length : Int) : Int) := of_decide_eq_true (by first | (with_reducible assumption) | assumption); first | (have e_ := (Kd.R_reads' HO_10.out).1; omega) | simpa only [Ny249.out, List.length_set] using h_); have ql260 : (((ji70) : Int) < ((t244.length : Int) : Int)) = True := eq_true (of_decide_eq_true (by first | (with_reducible assumption) | assumption)); obtain ⟨ad260, e260, hx260_0⟩ := Kd.at_int (Kd.R_reads' HO_10.out).2.2 (ji70) p260 q260; obtain rfl : (⟨go30, 0, none⟩ : Addr) = ad260 := (by injection e260); (first | simp only [add_plain] at hx260_0 | simp only [add_at] at hx260_0 | simp only [Addr.add, Nat.zero_add] at hx260_0 | skip); replace p260 := eq_true p260; replace q260 := eq_true q260; have p76 : 0 ≤ ((ji70) : Int) := of_decide_eq_true (by first | (with_reducible assumption) | assumption); have q76 : ((ji70) : Int) < ((t244.length : Int) : Int) := of_decide_eq_true (by first | (with_reducible assumption) | assumption); obtain ⟨hx76_0, hf76_0⟩ := Kd.R_celln 0 HO_10.out ((ji70) : Int) p76 q76; replace p76 := eq_true p76; replace q76 := eq_true q76; obtain ⟨hy100_, hz100_⟩ := Kd.R_celln 0 HO_10.out ((ji70) : Int) (of_decide_eq_true (by first | (with_reducible assumption) | assumption)) (of_decide_eq_true (by first | (with_reducible assumption) | assumption)); have HP100 := Kd.R_putg HO_10.out ((ji70) : Int) (Go.bits .xor .u8 (rd y249 (ji70)) (ji75))) | ((with_reducible refine gate_store (t := 5) (p := 131) rfl ?_); refine store_event (t := 5) (p := 131) (v := ?vo_w101) (w1 := (w99.setCell ⟨go30, ((ji70) : Int).toNat, none⟩ (.int .u8 (Go.bits .xor .u8 (rd y249 (ji70)) (ji75))))) ?hg ?ho ?hn ?hr ?_; (case ho => rfl); (case hg => rfl); (case hn => rfl); (case hr => first | (go_simp; done) | (go_simp; rfl)); intro w101 hw; have hg : w99.grownBy w101 (some go30) := (by rw [hw]; exact HP100.2); have hp_ : Kd.R (Kd.int .u8) 5 w101 w.heap.size (fun _ => True) (.slice (some ⟨go30, 0, none⟩) t244.length co10) y261 := (by rw [hw, Ny261.out]; exact HP100.1); clear HP100; have n0_ := Aside0.mk (hp_); have n1_ := Aside0.mk ((by rw [hw]; exact below_set (HB.out) GB30.out : Below w.heap.size w w101)); clear HO_10; clear HB; have HO_10 := n0_; have HB := n1_; clear n0_ n1_; clear hg hw hp_) | ((with_reducible refine gate_callee (f := 11) rfl ?_); refine goesL_ (some 134) rfl rfl Try.func11 (by kernel_rfl) rfl #[.slice (some ⟨go30, 0, none⟩) y261.length co10] rfl (by (try simp only [List.map_toArray, List.map_cons, List.map_nil]); first | done | (rw [show y261.length = t244.length from (Kd.R_reads' HO_10.out).1.symm] <;> rfl) | rfl | (simp only [List.length_drop, List.length_take]; rfl)) ?_; (with_reducible refine (frame_Next.calls _ _ y261 t262 t263 t264 _ ?side1 ?side2 A77.out).mono ?_); (case side1 => repeat (first | exact (Kd.R_reads' HO_10.out).2.2 | (with_reducible refine Kd.C_alloc ?_ _) | (with_reducible refine Kd.C_drewN ?_ _) | (with_reducible refine Kd.C_drew ?_))); (case side2 => rw [show y261.length = t244.length from (Kd.R_reads' HO_10.out).1.symm]; exact (Kd.R_reads' HO_10.out).2.1); rintro e w102 ⟨v265, rfl, ho0, hb⟩; refine ⟨_, rfl, ?_⟩; have n0_ := Aside0.mk (Kd.R_elder' (by (with_reducible repeat (first | apply Kd.R_alloc | apply Kd.R_drewN | apply Kd.R_drew)); exact HO_10.out) (Kd.R_base ho0) hb); have n1_ := Aside0.mk (Kd.R_lower (Kd.R_new' ho0 (Kd.R_lt (by (with_reducible repeat (first | apply Kd.R_alloc | apply Kd.R_drewN | apply Kd.R_drew)); exact HO_10.out))) (below_size (by repeat (first | (with_reducible first | exact HB.out | apply below_alloc | apply pw_below_drewN | apply below_drew1) | exact HB.out)))); have n2_ := Aside0.mk (below_step (by repeat (first | (with_reducible first | exact HB.out | apply below_alloc | apply pw_below_drewN | apply below_drew1) | exact HB.out)) hb); clear HO_10; clear HB; have HO_10 := n0_; have HO266 := n1_; have HB := n2_; clear n0_ n1_ n2_; (try clear hb); (try clear hb2); (try clear hk); (try clear hi); (try clear ho0)))
                                  go_ret
                                  exact ⟨by first | rfl | (simp [errW_none, errW_some] <;> rfl) | (simp only [← hji24, ← hji27, ← hji29, ← hji70, ← hji73, ← hji75]; first | rfl | (simp [errW_none, errW_some] <;> rfl)) | (simp [*, errW_none, errW_some] <;> rfl), by repeat (first | (with_reducible first | exact HB.out | apply below_alloc | apply pw_below_drewN | apply below_drew1) | exact HB.out)⟩
                              · rw [if_neg c74] at H
                                exact absurd H (by simp)
                            · rw [if_neg c72] at H
                              exact absurd H (by simp)
                          · rw [if_neg c71] at H
                            exact absurd H (by simp)
                    · as_aux_lemma =>
                      rw [if_neg c31] at H
                      have c31b0 : (a2 == a1) = false := beq_eq_false_iff_ne.mpr c31
                      have c31b1 : (a2 != a1) = true := bne_iff_ne.mpr c31
                      obtain ⟨ji103, hji103⟩ : ∃ j_ : Int, (wrap64 (Int.tdiv a2 8)) = j_ := ⟨_, rfl⟩
                      replace H : (if 0 ≤ (ji103) then (if (ji103) < (t244.length : Int) then (if 0 ≤ (IntKind.u64.wrap (Int.tmod a2 8)) then ((some (y249.set ((ji103) : Int).toNat (Go.bits .xor .u8 (rd y249 (ji103)) (shl .u8 1 (IntKind.u64.wrap (Int.tmod a2 8)))) : List Int)).bind fun y268 => (if a3 = a1 then ((frame_Next.f y268).bind fun bt269 => (if t243 = true then (if bt269.2.2 = 6 then (if (bt269.1.length : Int) = 0 then (some (bt269.2.1 == 0)) else (some false)) else (some false)) else (some false))) else (if a3 = a2 then ((frame_Next.f y268).bind fun bt274 => (if t243 = true then (if bt274.2.2 = 6 then (if (bt274.1.length : Int) = 0 then (some (bt274.2.1 == 0)) else (some false)) else (some false)) else (some false))) else (if 0 ≤ (wrap64 (Int.tdiv a3 8)) then (if (wrap64 (Int.tdiv a3 8)) < (t244.length : Int) then (if 0 ≤ (IntKind.u64.wrap (Int.tmod a3 8)) then ((frame_Next.f (y268.set ((wrap64 (Int.tdiv a3 8)) : Int).toNat (Go.bits .xor .u8 (rd y268 (wrap64 (Int.tdiv a3 8))) (shl .u8 1 (IntKind.u64.wrap (Int.tmod a3 8)))))).bind fun bt281 => (if t243 = true then (if bt281.2.2 = 6 then (if (bt281.1.length : Int) = 0 then (some (bt281.2.1 == 0)) else (some false)) else (some false)) else (some false))) else (none)) else (none)) else (none))))) else (none)) else (none)) else (none)) = some r := by first | (rw [hji103] at H; exact H) | (simp only [hji103] at H ⊢; exact H)
                      have hji103w : (IntKind.i64.wrap (Int.tdiv a2 8)) = ji103 := (i64_w _).trans hji103
                      by_cases c104 : 0 ≤ (ji103)
                      · rw [if_pos c104] at H
                        have c104b0 : decide (0 ≤ (ji103)) = true := decide_eq_true c104
                        clear c104
                        by_cases c105 : (ji103) < (t244.length : Int)
                        · rw [if_pos c105] at H
                          have c105b0 : decide ((ji103) < (t244.length : Int)) = true := decide_eq_true c105
                          clear c105
                          obtain ⟨ji106, hji106⟩ : ∃ j_ : Int, (IntKind.u64.wrap (Int.tmod a2 8)) = j_ := ⟨_, rfl⟩
                          replace H : (if 0 ≤ (ji106) then ((some (y249.set ((ji103) : Int).toNat (Go.bits .xor .u8 (rd y249 (ji103)) (shl .u8 1 (ji106))) : List Int)).bind fun y268 => (if a3 = a1 then ((frame_Next.f y268).bind fun bt269 => (if t243 = true then (if bt269.2.2 = 6 then (if (bt269.1.length : Int) = 0 then (some (bt269.2.1 == 0)) else (some false)) else (some false)) else (some false))) else (if a3 = a2 then ((frame_Next.f y268).bind fun bt274 => (if t243 = true then (if bt274.2.2 = 6 then (if (bt274.1.length : Int) = 0 then (some (bt274.2.1 == 0)) else (some false)) else (some false)) else (some false))) else (if 0 ≤ (wrap64 (Int.tdiv a3 8)) then (if (wrap64 (Int.tdiv a3 8)) < (t244.length : Int) then (if 0 ≤ (IntKind.u64.wrap (Int.tmod a3 8)) then ((frame_Next.f (y268.set ((wrap64 (Int.tdiv a3 8)) : Int).toNat (Go.bits .xor .u8 (rd y268 (wrap64 (Int.tdiv a3 8))) (shl .u8 1 (IntKind.u64.wrap (Int.tmod a3 8)))))).bind fun bt281 => (if t243 = true then (if bt281.2.2 = 6 then (if (bt281.1.length : Int) = 0 then (some (bt281.2.1 == 0)) else (some false)) else (some false)) else (some false))) else (none)) else (none)) else (none))))) else (none)) = some r := by first | (rw [hji106] at H; exact H) | (simp only [hji106] at H ⊢; exact H)
                          by_cases c107 : 0 ≤ (ji106)
                          · rw [if_pos c107] at H
                            have c107b0 := eq_true c107
                            have c107b1 : decide (0 ≤ (ji106)) = true := decide_eq_true c107
                            clear c107
                            obtain ⟨ji108, hji108⟩ : ∃ j_ : Int, (shl .u8 1 (ji106)) = j_ := ⟨_, rfl⟩
                            replace H : ((some (y249.set ((ji103) : Int).toNat (Go.bits .xor .u8 (rd y249 (ji103)) (ji108)) : List Int)).bind fun y268 => (if a3 = a1 then ((frame_Next.f y268).bind fun bt269 => (if t243 = true then (if bt269.2.2 = 6 then (if (bt269.1.length : Int) = 0 then (some (bt269.2.1 == 0)) else (some false)) else (some false)) else (some false))) else (if a3 = a2 then ((frame_Next.f y268).bind fun bt274 => (if t243 = true then (if bt274.2.2 = 6 then (if (bt274.1.length : Int) = 0 then (some (bt274.2.1 == 0)) else (some false)) else (some false)) else (some false))) else (if 0 ≤ (wrap64 (Int.tdiv a3 8)) then (if (wrap64 (Int.tdiv a3 8)) < (t244.length : Int) then (if 0 ≤ (IntKind.u64.wrap (Int.tmod a3 8)) then ((frame_Next.f (y268.set ((wrap64 (Int.tdiv a3 8)) : Int).toNat (Go.bits .xor .u8 (rd y268 (wrap64 (Int.tdiv a3 8))) (shl .u8 1 (IntKind.u64.wrap (Int.tmod a3 8)))))).bind fun bt281 => (if t243 = true then (if bt281.2.2 = 6 then (if (bt281.1.length : Int) = 0 then (some (bt281.2.1 == 0)) else (some false)) else (some false)) else (some false))) else (none)) else (none)) else (none))))) = some r := by first | (rw [hji108] at H; exact H) | (simp only [hji108] at H ⊢; exact H)
                            have hji108_ : (IntKind.u8.wrap (1 * 2 ^ min (ji106).toNat 8)) = ji108 := hji108
                            have hji108z : (ji106) ≤ 8 → (IntKind.u8.wrap (1 * 2 ^ (ji106).toNat)) = ji108 := shl_small hji108
                            have hji108u : (IntKind.u8.wrap (2 ^ min (ji106).toNat 8)) = ji108 := by have h_ := hji108_; rw [Int.one_mul] at h_; exact h_
                            have hji108v : (ji106) ≤ 8 → (IntKind.u8.wrap (2 ^ (ji106).toNat)) = ji108 := fun hle_ => by have h_ := hji108z hle_; rw [Int.one_mul] at h_; exact h_
                            have hji108l : (2 ^ ((ji106)).toNat % 256) = ji108 := by have h_ := hji108u; rw [IntKind.wrap_u8, pow_min8] at h_; exact h_
                            obtain ⟨y268, hy268⟩ : ∃ y_ : List Int, y_ = (y249.set ((ji103) : Int).toNat (Go.bits .xor .u8 (rd y249 (ji103)) (ji108))) := ⟨_, rfl⟩
                            replace H : (if a3 = a1 then ((frame_Next.f y268).bind fun bt269 => (if t243 = true then (if bt269.2.2 = 6 then (if (bt269.1.length : Int) = 0 then (some (bt269.2.1 == 0)) else (some false)) else (some false)) else (some false))) else (if a3 = a2 then ((frame_Next.f y268).bind fun bt274 => (if t243 = true then (if bt274.2.2 = 6 then (if (bt274.1.length : Int) = 0 then (some (bt274.2.1 == 0)) else (some false)) else (some false)) else (some false))) else (if 0 ≤ (wrap64 (Int.tdiv a3 8)) then (if (wrap64 (Int.tdiv a3 8)) < (t244.length : Int) then (if 0 ≤ (IntKind.u64.wrap (Int.tmod a3 8)) then ((frame_Next.f (y268.set ((wrap64 (Int.tdiv a3 8)) : Int).toNat (Go.bits .xor .u8 (rd y268 (wrap64 (Int.tdiv a3 8))) (shl .u8 1 (IntKind.u64.wrap (Int.tmod a3 8)))))).bind fun bt281 => (if t243 = true then (if bt281.2.2 = 6 then (if (bt281.1.length : Int) = 0 then (some (bt281.2.1 == 0)) else (some false)) else (some false)) else (some false))) else (none)) else (none)) else (none)))) = some r := by first | (rw [hy268]; with_reducible exact H) | (have H2_ := (Option.bind_some _ _).symm.trans H; rw [hy268]; with_reducible exact H2_) | (have H2_ := (Option.bind_some _ _).symm.trans H; with_reducible exact H2_) | with_reducible exact H | (rw [hy268]; exact H) | exact H
                            have Ny268 := Aside0.mk hy268
                            clear hy268
                            by_cases c110 : a3 = a1
                            · as_aux_lemma =>
                              rw [if_pos c110] at H
                              have c110b0 : (a3 == a1) = true := beq_iff_eq.mpr c110
                              have c110b1 : (a3 != a1) = false := bne_eq_false_iff_eq.mpr c110
                              clear c110
                              replace H := Option.bind_eq_some_iff.mp H
                              obtain ⟨⟨t269, t270, t271⟩, A1110, H⟩ := H
                              replace H : (if t243 = true then (if t271 = 6 then (if (t269.length : Int) = 0 then (some (t270 == 0)) else (some false)) else (some false)) else (some false)) = some r := H
                              have A111 := Aside0.mk A1110
                              clear A1110
                              by_cases c112 : t243 = true
                              · subst c112
                                have H1 : (if t271 = 6 then (if (t269.length : Int) = 0 then (some (t270 == 0)) else (some false)) else (some false)) = some r := by rw [if_pos rfl] at H; exact H
                                clear H
                                have H := H1
                                clear H1
                                by_cases c113 : t271 = 6
                                · rw [if_pos c113] at H
                                  have c113b0 : (t271 == 6) = true := beq_iff_eq.mpr c113
                                  have c113b1 : (t271 != 6) = false := bne_eq_false_iff_eq.mpr c113
                                  clear c113
                                  by_cases c114 : (t269.length : Int) = 0
                                  · rw [if_pos c114] at H
                                    have c114b0 : ((t269.length : Int) == 0) = true := beq_iff_eq.mpr c114
                                    have c114b1 : ((t269.length : Int) != 0) = false := bne_eq_false_iff_eq.mpr c114
                                    clear c114
                                    obtain rfl := Option.some.inj H
                                    have p248 : 0 ≤ ((ji24) : Int) := of_decide_eq_true (by first | (with_reducible assumption) | assumption)
                                    have q248 : (ji24) < (t244.length : Int) := of_decide_eq_true (by first | (with_reducible assumption) | assumption)
                                    obtain ⟨ad248, e248, hx248_0⟩ := Kd.at_int (Kd.R_reads' HO_10.out).2.2 (ji24) p248 q248
                                    cases e248
                                    replace p248 := eq_true p248
                                    replace q248 := eq_true q248
                                    have p30 : 0 ≤ ((ji24) : Int) := of_decide_eq_true (by first | (with_reducible assumption) | assumption)
                                    have q30 : ((ji24) : Int) < ((t244.length : Int) : Int) := of_decide_eq_true (by first | (with_reducible assumption) | assumption)
                                    obtain ⟨go30, co30, eo30, gb30, gl30, cl30, HG30⟩ := Kd.R_form HO_10.out (by omega)
                                    (first | cases eo30 | (injection eo30 with ea_ en_ ec_; (first | subst ea_ | (injection ea_ with ea_; subst ea_)); subst ec_; clear en_))
                                    have GB30 := Aside0.mk gb30
                                    have GG30 := Aside0.mk HG30
                                    clear gb30 gl30 HG30
                                    (first | simp only [add_plain] at hx248_0 | skip)
                                    obtain ⟨hx30_0, hf30_0⟩ := Kd.R_celln 0 HO_10.out ((ji24) : Int) p30 q30
                                    replace p30 := eq_true p30
                                    replace q30 := eq_true q30
                                    have HP115 := Kd.R_putg HO_10.out ((ji24) : Int) (Go.bits .xor .u8 (rd t244 (ji24)) (ji29))
                                    go_wp2_with (first | ((with_reducible refine gate_store (t := 5) (p := 92) rfl ?_); refine store_event (t := 5) (p := 92) (v := ?vo_w116) (w1 := (wc.setCell ⟨go30, ((ji24) : Int).toNat, none⟩ (.int .u8 (Go.bits .xor .u8 (rd t244 (ji24)) (ji29))))) ?hg ?ho ?hn ?hr ?_; (case ho => rfl); (case hg => rfl); (case hn => rfl); (case hr => first | (go_simp; done) | (go_simp; rfl)); intro w116 hw; have hg : wc.grownBy w116 (some go30) := (by rw [hw]; exact HP115.2); have hp_ : Kd.R (Kd.int .u8) 5 w116 w.heap.size (fun _ => True) (.slice (some ⟨go30, 0, none⟩) t244.length co10) y249 := (by rw [hw, Ny249.out]; exact HP115.1); clear HP115; have n0_ := Aside0.mk (hp_); have n1_ := Aside0.mk ((by rw [hw]; exact below_set (HB.out) GB30.out : Below w.heap.size w w116)); clear HO_10; clear HB; have HO_10 := n0_; have HB := n1_; clear n0_ n1_; clear hg hw hp_; have p267 : 0 ≤ ((ji103) : Int) := of_decide_eq_true (by first | (with_reducible assumption) | assumption); have q267 : (ji103) < (y249.length : Int) := (by have h_ : ((ji103) : Int) < ((t244.length : Int) : Int) := of_decide_eq_true (by first | (with_reducible assumption) | assumption); first | (have e_ := (Kd.R_reads' HO_10.out).1; omega) | simpa only [Ny249.out, List.length_set] using h_); have ql267 : (((ji103) : Int) < ((t244.length : Int) : Int)) = True := eq_true (of_decide_eq_true (by first | (with_reducible assumption) | assumption)); obtain ⟨ad267, e267, hx267_0⟩ := Kd.at_int (Kd.R_reads' HO_10.out).2.2 (ji103) p267 q267; obtain rfl : (⟨go30, 0, none⟩ : Addr) = ad267 := (by injection e267); (first | simp only [add_plain] at hx267_0 | simp only [add_at] at hx267_0 | simp only [Addr.add, Nat.zero_add] at hx267_0 | skip); replace p267 := eq_true p267; replace q267 := eq_true q267; have p109 : 0 ≤ ((ji103) : Int) := of_decide_eq_true (by first | (with_reducible assumption) | assumption); have q109 : ((ji103) : Int) < ((t244.length : Int) : Int) := of_decide_eq_true (by first | (with_reducible assumption) | assumption); obtain ⟨hx109_0, hf109_0⟩ := Kd.R_celln 0 HO_10.out ((ji103) : Int) p109 q109; replace p109 := eq_true p109; replace q109 := eq_true q109; obtain ⟨hy117_, hz117_⟩ := Kd.R_celln 0 HO_10.out ((ji103) : Int) (of_decide_eq_true (by first | (with_reducible assumption) | assumption)) (of_decide_eq_true (by first | (with_reducible assumption) | assumption)); have HP117 := Kd.R_putg HO_10.out ((ji103) : Int) (Go.bits .xor .u8 (rd y249 (ji103)) (ji108))) | ((with_reducible refine gate_store (t := 5) (p := 109) rfl ?_); refine store_event (t := 5) (p := 109) (v := ?vo_w118) (w1 := (w116.setCell ⟨go30, ((ji103) : Int).toNat, none⟩ (.int .u8 (Go.bits .xor .u8 (rd y249 (ji103)) (ji108))))) ?hg ?ho ?hn ?hr ?_; (case ho => rfl); (case hg => rfl); (case hn => rfl); (case hr => first | (go_simp; done) | (go_simp; rfl)); intro w118 hw; have hg : w116.grownBy w118 (some go30) := (by rw [hw]; exact HP117.2); have hp_ : Kd.R (Kd.int .u8) 5 w118 w.heap.size (fun _ => True) (.slice (some ⟨go30, 0, none⟩) t244.length co10) y268 := (by rw [hw, Ny268.out]; exact HP117.1); clear HP117; have n0_ := Aside0.mk (hp_); have n1_ := Aside0.mk ((by rw [hw]; exact below_set (HB.out) GB30.out : Below w.heap.size w w118)); clear HO_10; clear HB; have HO_10 := n0_; have HB := n1_; clear n0_ n1_; clear hg hw hp_) | ((with_reducible refine gate_callee (f := 11) rfl ?_); refine goesL_ (some 134) rfl rfl Try.func11 (by kernel_rfl) rfl #[.slice (some ⟨go30, 0, none⟩) y268.length co10] rfl (by (try simp only [List.map_toArray, List.map_cons, List.map_nil]); first | done | (rw [show y268.length = t244.length from (Kd.R_reads' HO_10.out).1.symm] <;> rfl) | rfl | (simp only [List.length_drop, List.length_take]; rfl)) ?_; (with_reducible refine (frame_Next.calls _ _ y268 t269 t270 t271 _ ?side1 ?side2 A111.out).mono ?_); (case side1 => repeat (first | exact (Kd.R_reads' HO_10.out).2.2 | (with_reducible refine Kd.C_alloc ?_ _) | (with_reducible refine Kd.C_drewN ?_ _) | (with_reducible refine Kd.C_drew ?_))); (case side2 => rw [show y268.length = t244.length from (Kd.R_reads' HO_10.out).1.symm]; exact (Kd.R_reads' HO_10.out).2.1); rintro e w119 ⟨v272, rfl, ho0, hb⟩; refine ⟨_, rfl, ?_⟩; have n0_ := Aside0.mk (Kd.R_elder' (by (with_reducible repeat (first | apply Kd.R_alloc | apply Kd.R_drewN | apply Kd.R_drew)); exact HO_10.out) (Kd.R_base ho0) hb); have n1_ := Aside0.mk (Kd.R_lower (Kd.R_new' ho0 (Kd.R_lt (by (with_reducible repeat (first | apply Kd.R_alloc | apply Kd.R_drewN | apply Kd.R_drew)); exact HO_10.out))) (below_size (by repeat (first | (with_reducible first | exact HB.out | apply below_alloc | apply pw_below_drewN | apply below_drew1) | exact HB.out)))); have n2_ := Aside0.mk (below_step (by repeat (first | (with_reducible first | exact HB.out | apply below_alloc | apply pw_below_drewN | apply below_drew1) | exact HB.out)) hb); clear HO_10; clear HB; have HO_10 := n0_; have HO273 := n1_; have HB := n2_; clear n0_ n1_ n2_; (try clear hb); (try clear hb2); (try clear hk); (try clear hi); (try clear ho0); obtain ⟨Ao120, co120, eo120⟩ := Kd.R_slice HO273.out; subst eo120))
                                    go_ret
                                    exact ⟨by first | rfl | (simp [errW_none, errW_some] <;> rfl) | (simp only [← hji24, ← hji27, ← hji29, ← hji103, ← hji106, ← hji108]; first | rfl | (simp [errW_none, errW_some] <;> rfl)) | (simp [*, errW_none, errW_some] <;> rfl), by repeat (first | (with_reducible first | exact HB.out | apply below_alloc | apply pw_below_drewN | apply below_drew1) | exact HB.out)⟩
                                  · rw [if_neg c114] at H
                                    have c114b0 : ((t269.length : Int) == 0) = false := beq_eq_false_iff_ne.mpr c114
                                    have c114b1 : ((t269.length : Int) != 0) = true := bne_iff_ne.mpr c114
                                    have c114b2 : ¬ (t269 = []) := fun h_ => c114 (by rw [h_]; rfl)
                                    obtain rfl := Option.some.inj H
                                    have p248 : 0 ≤ ((ji24) : Int) := of_decide_eq_true (by first | (with_reducible assumption) | assumption)
                                    have q248 : (ji24) < (t244.length : Int) := of_decide_eq_true (by first | (with_reducible assumption) | assumption)
                                    obtain ⟨ad248, e248, hx248_0⟩ := Kd.at_int (Kd.R_reads' HO_10.out).2.2 (ji24) p248 q248
                                    cases e248
                                    replace p248 := eq_true p248
                                    replace q248 := eq_true q248
                                    have p30 : 0 ≤ ((ji24) : Int) := of_decide_eq_true (by first | (with_reducible assumption) | assumption)
                                    have q30 : ((ji24) : Int) < ((t244.length : Int) : Int) := of_decide_eq_true (by first | (with_reducible assumption) | assumption)
                                    obtain ⟨go30, co30, eo30, gb30, gl30, cl30, HG30⟩ := Kd.R_form HO_10.out (by omega)
                                    (first | cases eo30 | (injection eo30 with ea_ en_ ec_; (first | subst ea_ | (injection ea_ with ea_; subst ea_)); subst ec_; clear en_))
                                    have GB30 := Aside0.mk gb30
                                    have GG30 := Aside0.mk HG30
                                    clear gb30 gl30 HG30
                                    (first | simp only [add_plain] at hx248_0 | skip)
                                    obtain ⟨hx30_0, hf30_0⟩ := Kd.R_celln 0 HO_10.out ((ji24) : Int) p30 q30
                                    replace p30 := eq_true p30
                                    replace q30 := eq_true q30
                                    have HP121 := Kd.R_putg HO_10.out ((ji24) : Int) (Go.bits .xor .u8 (rd t244 (ji24)) (ji29))
                                    go_wp2_with (first | ((with_reducible refine gate_store (t := 5) (p := 92) rfl ?_); refine store_event (t := 5) (p := 92) (v := ?vo_w122) (w1 := (wc.setCell ⟨go30, ((ji24) : Int).toNat, none⟩ (.int .u8 (Go.bits .xor .u8 (rd t244 (ji24)) (ji29))))) ?hg ?ho ?hn ?hr ?_; (case ho => rfl); (case hg => rfl); (case hn => rfl); (case hr => first | (go_simp; done) | (go_simp; rfl)); intro w122 hw; have hg : wc.grownBy w122 (some go30) := (by rw [hw]; exact HP121.2); have hp_ : Kd.R (Kd.int .u8) 5 w122 w.heap.size (fun _ => True) (.slice (some ⟨go30, 0, none⟩) t244.length co10) y249 := (by rw [hw, Ny249.out]; exact HP121.1); clear HP121; have n0_ := Aside0.mk (hp_); have n1_ := Aside0.mk ((by rw [hw]; exact below_set (HB.out) GB30.out : Below w.heap.size w w122)); clear HO_10; clear HB; have HO_10 := n0_; have HB := n1_; clear n0_ n1_; clear hg hw hp_; have p267 : 0 ≤ ((ji103) : Int) := of_decide_eq_true (by first | (with_reducible assumption) | assumption); have q267 : (ji103) < (y249.length : Int) := (by have h_ : ((ji103) : Int) < ((t244.length : Int) : Int) := of_decide_eq_true (by first | (with_reducible assumption) | assumption); first | (have e_ := (Kd.R_reads' HO_10.out).1; omega) | simpa only [Ny249.out, List.length_set] using h_); have ql267 : (((ji103) : Int) < ((t244.length : Int) : Int)) = True := eq_true (of_decide_eq_true (by first | (with_reducible assumption) | assumption)); obtain ⟨ad267, e267, hx267_0⟩ := Kd.at_int (Kd.R_reads' HO_10.out).2.2 (ji103) p267 q267; obtain rfl : (⟨go30, 0, none⟩ : Addr) = ad267 := (by injection e267); (first | simp only [add_plain] at hx267_0 | simp only [add_at] at hx267_0 | simp only [Addr.add, Nat.zero_add] at hx267_0 | skip); replace p267 := eq_true p267; replace q267 := eq_true q267; have p109 : 0 ≤ ((ji103) : Int) := of_decide_eq_true (by first | (with_reducible assumption) | assumption); have q109 : ((ji103) : Int) < ((t244.length : Int) : Int) := of_decide_eq_true (by first | (with_reducible assumption) | assumption); obtain ⟨hx109_0, hf109_0⟩ := Kd.R_celln 0 HO_10.out ((ji103) : Int) p109 q109; replace p109 := eq_true p109; replace q109 := eq_true q109; obtain ⟨hy123_, hz123_⟩ := Kd.R_celln 0 HO_10.out ((ji103) : Int) (of_decide_eq_true (by first | (with_reducible assumption) | assumption)) (of_decide_eq_true (by first | (with_reducible assumption) | assumption)); have HP123 := Kd.R_putg HO_10.out ((ji103) : Int) (Go.bits .xor .u8 (rd y249 (ji103)) (ji108))) | ((with_reducible refine gate_store (t := 5) (p := 109) rfl ?_); refine store_event (t := 5) (p := 109) (v := ?vo_w124) (w1 := (w122.setCell ⟨go30, ((ji103) : Int).toNat, none⟩ (.int .u8 (Go.bits .xor .u8 (rd y249 (ji103)) (ji108))))) ?hg ?ho ?hn ?hr ?_; (case ho => rfl); (case hg => rfl); (case hn => rfl); (case hr => first | (go_simp; done) | (go_simp; rfl)); intro w124 hw; have hg : w122.grownBy w124 (some go30) := (by rw [hw]; exact HP123.2); have hp_ : Kd.R (Kd.int .u8) 5 w124 w.heap.size (fun _ => True) (.slice (some ⟨go30, 0, none⟩) t244.length co10) y268 := (by rw [hw, Ny268.out]; exact HP123.1); clear HP123; have n0_ := Aside0.mk (hp_); have n1_ := Aside0.mk ((by rw [hw]; exact below_set (HB.out) GB30.out : Below w.heap.size w w124)); clear HO_10; clear HB; have HO_10 := n0_; have HB := n1_; clear n0_ n1_; clear hg hw hp_) | ((with_reducible refine gate_callee (f := 11) rfl ?_); refine goesL_ (some 134) rfl rfl Try.func11 (by kernel_rfl) rfl #[.slice (some ⟨go30, 0, none⟩) y268.length co10] rfl (by (try simp only [List.map_toArray, List.map_cons, List.map_nil]); first | done | (rw [show y268.length = t244.length from (Kd.R_reads' HO_10.out).1.symm] <;> rfl) | rfl | (simp only [List.length_drop, List.length_take]; rfl)) ?_; (with_reducible refine (frame_Next.calls _ _ y268 t269 t270 t271 _ ?side1 ?side2 A111.out).mono ?_); (case side1 => repeat (first | exact (Kd.R_reads' HO_10.out).2.2 | (with_reducible refine Kd.C_alloc ?_ _) | (with_reducible refine Kd.C_drewN ?_ _) | (with_reducible refine Kd.C_drew ?_))); (case side2 => rw [show y268.length = t244.length from (Kd.R_reads' HO_10.out).1.symm]; exact (Kd.R_reads' HO_10.out).2.1); rintro e w125 ⟨v272, rfl, ho0, hb⟩; refine ⟨_, rfl, ?_⟩; have n0_ := Aside0.mk (Kd.R_elder' (by (with_reducible repeat (first | apply Kd.R_alloc | apply Kd.R_drewN | apply Kd.R_drew)); exact HO_10.out) (Kd.R_base ho0) hb); have n1_ := Aside0.mk (Kd.R_lower (Kd.R_new' ho0 (Kd.R_lt (by (with_reducible repeat (first | apply Kd.R_alloc | apply Kd.R_drewN | apply Kd.R_drew)); exact HO_10.out))) (below_size (by repeat (first | (with_reducible first | exact HB.out | apply below_alloc | apply pw_below_drewN | apply below_drew1) | exact HB.out)))); have n2_ := Aside0.mk (below_step (by repeat (first | (with_reducible first | exact HB.out | apply below_alloc | apply pw_below_drewN | apply below_drew1) | exact HB.out)) hb); clear HO_10; clear HB; have HO_10 := n0_; have HO273 := n1_; have HB := n2_; clear n0_ n1_ n2_; (try clear hb); (try clear hb2); (try clear hk); (try clear hi); (try clear ho0); obtain ⟨Ao126, co126, eo126⟩ := Kd.R_slice HO273.out; subst eo126))
                                    go_ret
                                    exact ⟨by first | rfl | (simp [errW_none, errW_some] <;> rfl) | (simp only [← hji24, ← hji27, ← hji29, ← hji103, ← hji106, ← hji108]; first | rfl | (simp [errW_none, errW_some] <;> rfl)) | (simp [*, errW_none, errW_some] <;> rfl), by repeat (first | (with_reducible first | exact HB.out | apply below_alloc | apply pw_below_drewN | apply below_drew1) | exact HB.out)⟩
                                · rw [if_neg c113] at H
                                  have c113b0 : (t271 == 6) = false := beq_eq_false_iff_ne.mpr c113
                                  have c113b1 : (t271 != 6) = true := bne_iff_ne.mpr c113
                                  obtain rfl := Option.some.inj H
                                  have p248 : 0 ≤ ((ji24) : Int) := of_decide_eq_true (by first | (with_reducible assumption) | assumption)
                                  have q248 : (ji24) < (t244.length : Int) := of_decide_eq_true (by first | (with_reducible assumption) | assumption)
                                  obtain ⟨ad248, e248, hx248_0⟩ := Kd.at_int (Kd.R_reads' HO_10.out).2.2 (ji24) p248 q248
                                  cases e248
                                  replace p248 := eq_true p248
                                  replace q248 := eq_true q248
                                  have p30 : 0 ≤ ((ji24) : Int) := of_decide_eq_true (by first | (with_reducible assumption) | assumption)
                                  have q30 : ((ji24) : Int) < ((t244.length : Int) : Int) := of_decide_eq_true (by first | (with_reducible assumption) | assumption)
                                  obtain ⟨go30, co30, eo30, gb30, gl30, cl30, HG30⟩ := Kd.R_form HO_10.out (by omega)
                                  (first | cases eo30 | (injection eo30 with ea_ en_ ec_; (first | subst ea_ | (injection ea_ with ea_; subst ea_)); subst ec_; clear en_))
                                  have GB30 := Aside0.mk gb30
                                  have GG30 := Aside0.mk HG30
                                  clear gb30 gl30 HG30
                                  (first | simp only [add_plain] at hx248_0 | skip)
                                  obtain ⟨hx30_0, hf30_0⟩ := Kd.R_celln 0 HO_10.out ((ji24) : Int) p30 q30
                                  replace p30 := eq_true p30
                                  replace q30 := eq_true q30
                                  have HP127 := Kd.R_putg HO_10.out ((ji24) : Int) (Go.bits .xor .u8 (rd t244 (ji24)) (ji29))
                                  go_wp2_with (first | ((with_reducible refine gate_store (t := 5) (p := 92) rfl ?_); refine store_event (t := 5) (p := 92) (v := ?vo_w128) (w1 := (wc.setCell ⟨go30, ((ji24) : Int).toNat, none⟩ (.int .u8 (Go.bits .xor .u8 (rd t244 (ji24)) (ji29))))) ?hg ?ho ?hn ?hr ?_; (case ho => rfl); (case hg => rfl); (case hn => rfl); (case hr => first | (go_simp; done) | (go_simp; rfl)); intro w128 hw; have hg : wc.grownBy w128 (some go30) := (by rw [hw]; exact HP127.2); have hp_ : Kd.R (Kd.int .u8) 5 w128 w.heap.size (fun _ => True) (.slice (some ⟨go30, 0, none⟩) t244.length co10) y249 := (by rw [hw, Ny249.out]; exact HP127.1); clear HP127; have n0_ := Aside0.mk (hp_); have n1_ := Aside0.mk ((by rw [hw]; exact below_set (HB.out) GB30.out : Below w.heap.size w w128)); clear HO_10; clear HB; have HO_10 := n0_; have HB := n1_; clear n0_ n1_; clear hg hw hp_; have p267 : 0 ≤ ((ji103) : Int) := of_decide_eq_true (by first | (with_reducible assumption) | assumption); have q267 : (ji103) < (y249.length : Int) := (by have h_ : ((ji103) : Int) < ((t244.length : Int) : Int) := of_decide_eq_true (by first | (with_reducible assumption) | assumption); first | (have e_ := (Kd.R_reads' HO_10.out).1; omega) | simpa only [Ny249.out, List.length_set] using h_); have ql267 : (((ji103) : Int) < ((t244.length : Int) : Int)) = True := eq_true (of_decide_eq_true (by first | (with_reducible assumption) | assumption)); obtain ⟨ad267, e267, hx267_0⟩ := Kd.at_int (Kd.R_reads' HO_10.out).2.2 (ji103) p267 q267; obtain rfl : (⟨go30, 0, none⟩ : Addr) = ad267 := (by injection e267); (first | simp only [add_plain] at hx267_0 | simp only [add_at] at hx267_0 | simp only [Addr.add, Nat.zero_add] at hx267_0 | skip); replace p267 := eq_true p267; replace q267 := eq_true q267; have p109 : 0 ≤ ((ji103) : Int) := of_decide_eq_true (by first | (with_reducible assumption) | assumption); have q109 : ((ji103) : Int) < ((t244.length : Int) : Int) := of_decide_eq_true (by first | (with_reducible assumption) | assumption); obtain ⟨hx109_0, hf109_0⟩ := Kd.R_celln 0 HO_10.out ((ji103) : Int) p109 q109; replace p109 := eq_true p109; replace q109 := eq_true q109; obtain ⟨hy129_, hz129_⟩ := Kd.R_celln 0 HO_10.out ((ji103) : Int) (of_decide_eq_true (by first | (with_reducible assumption) | assumption)) (of_decide_eq_true (by first | (with_reducible assumption) | assumption)); have HP129 := Kd.R_putg HO_10.out ((ji103) : Int) (Go.bits .xor .u8 (rd y249 (ji103)) (ji108))) | ((with_reducible refine gate_store (t := 5) (p := 109) rfl ?_); refine store_event (t := 5) (p := 109) (v := ?vo_w130) (w1 := (w128.setCell ⟨go30, ((ji103) : Int).toNat, none⟩ (.int .u8 (Go.bits .xor .u8 (rd y249 (ji103)) (ji108))))) ?hg ?ho ?hn ?hr ?_; (case ho => rfl); (case hg => rfl); (case hn => rfl); (case hr => first | (go_simp; done) | (go_simp; rfl)); intro w130 hw; have hg : w128.grownBy w130 (some go30) := (by rw [hw]; exact HP129.2); have hp_ : Kd.R (Kd.int .u8) 5 w130 w.heap.size (fun _ => True) (.slice (some ⟨go30, 0, none⟩) t244.length co10) y268 := (by rw [hw, Ny268.out]; exact HP129.1); clear HP129; have n0_ := Aside0.mk (hp_); have n1_ := Aside0.mk ((by rw [hw]; exact below_set (HB.out) GB30.out : Below w.heap.size w w130)); clear HO_10; clear HB; have HO_10 := n0_; have HB := n1_; clear n0_ n1_; clear hg hw hp_) | ((with_reducible refine gate_callee (f := 11) rfl ?_); refine goesL_ (some 134) rfl rfl Try.func11 (by kernel_rfl) rfl #[.slice (some ⟨go30, 0, none⟩) y268.length co10] rfl (by (try simp only [List.map_toArray, List.map_cons, List.map_nil]); first | done | (rw [show y268.length = t244.length from (Kd.R_reads' HO_10.out).1.symm] <;> rfl) | rfl | (simp only [List.length_drop, List.length_take]; rfl)) ?_; (with_reducible refine (frame_Next.calls _ _ y268 t269 t270 t271 _ ?side1 ?side2 A111.out).mono ?_); (case side1 => repeat (first | exact (Kd.R_reads' HO_10.out).2.2 | (with_reducible refine Kd.C_alloc ?_ _) | (with_reducible refine Kd.C_drewN ?_ _) | (with_reducible refine Kd.C_drew ?_))); (case side2 => rw [show y268.length = t244.length from (Kd.R_reads' HO_10.out).1.symm]; exact (Kd.R_reads' HO_10.out).2.1); rintro e w131 ⟨v272, rfl, ho0, hb⟩; refine ⟨_, rfl, ?_⟩; have n0_ := Aside0.mk (Kd.R_elder' (by (with_reducible repeat (first | apply Kd.R_alloc | apply Kd.R_drewN | apply Kd.R_drew)); exact HO_10.out) (Kd.R_base ho0) hb); have n1_ := Aside0.mk (Kd.R_lower (Kd.R_new' ho0 (Kd.R_lt (by (with_reducible repeat (first | apply Kd.R_alloc | apply Kd.R_drewN | apply Kd.R_drew)); exact HO_10.out))) (below_size (by repeat (first | (with_reducible first | exact HB.out | apply below_alloc | apply pw_below_drewN | apply below_drew1) | exact HB.out)))); have n2_ := Aside0.mk (below_step (by repeat (first | (with_reducible first | exact HB.out | apply below_alloc | apply pw_below_drewN | apply below_drew1) | exact HB.out)) hb); clear HO_10; clear HB; have HO_10 := n0_; have HO273 := n1_; have HB := n2_; clear n0_ n1_ n2_; (try clear hb); (try clear hb2); (try clear hk); (try clear hi); (try clear ho0)))
                                  go_ret
                                  exact ⟨by first | rfl | (simp [errW_none, errW_some] <;> rfl) | (simp only [← hji24, ← hji27, ← hji29, ← hji103, ← hji106, ← hji108]; first | rfl | (simp [errW_none, errW_some] <;> rfl)) | (simp [*, errW_none, errW_some] <;> rfl), by repeat (first | (with_reducible first | exact HB.out | apply below_alloc | apply pw_below_drewN | apply below_drew1) | exact HB.out)⟩
                              · replace c112 := Bool.eq_false_iff.mpr c112
                                subst c112
                                have H1 : (some false) = some r := by rw [if_neg (show ¬ (false = true) by decide)] at H; exact H
                                clear H
                                have H := H1
                                clear H1
                                obtain rfl := Option.some.inj H
                                have p248 : 0 ≤ ((ji24) : Int) := of_decide_eq_true (by first | (with_reducible assumption) | assumption)
                                have q248 : (ji24) < (t244.length : Int) := of_decide_eq_true (by first | (with_reducible assumption) | assumption)
                                obtain ⟨ad248, e248, hx248_0⟩ := Kd.at_int (Kd.R_reads' HO_10.out).2.2 (ji24) p248 q248
                                cases e248
                                replace p248 := eq_true p248
                                replace q248 := eq_true q248
                                have p30 : 0 ≤ ((ji24) : Int) := of_decide_eq_true (by first | (with_reducible assumption) | assumption)
                                have q30 : ((ji24) : Int) < ((t244.length : Int) : Int) := of_decide_eq_true (by first | (with_reducible assumption) | assumption)
                                obtain ⟨go30, co30, eo30, gb30, gl30, cl30, HG30⟩ := Kd.R_form HO_10.out (by omega)
                                (first | cases eo30 | (injection eo30 with ea_ en_ ec_; (first | subst ea_ | (injection ea_ with ea_; subst ea_)); subst ec_; clear en_))
                                have GB30 := Aside0.mk gb30
                                have GG30 := Aside0.mk HG30
                                clear gb30 gl30 HG30
                                (first | simp only [add_plain] at hx248_0 | skip)
                                obtain ⟨hx30_0, hf30_0⟩ := Kd.R_celln 0 HO_10.out ((ji24) : Int) p30 q30
                                replace p30 := eq_true p30
                                replace q30 := eq_true q30
                                have HP132 := Kd.R_putg HO_10.out ((ji24) : Int) (Go.bits .xor .u8 (rd t244 (ji24)) (ji29))
                                go_wp2_with (first | ((with_reducible refine gate_store (t := 5) (p := 92) rfl ?_); refine store_event (t := 5) (p := 92) (v := ?vo_w133) (w1 := (wc.setCell ⟨go30, ((ji24) : Int).toNat, none⟩ (.int .u8 (Go.bits .xor .u8 (rd t244 (ji24)) (ji29))))) ?hg ?ho ?hn ?hr ?_; (case ho => rfl); (case hg => rfl); (case hn => rfl); (case hr => first | (go_simp; done) | (go_simp; rfl)); intro w133 hw; have hg : wc.grownBy w133 (some go30) := (by rw [hw]; exact HP132.2); have hp_ : Kd.R (Kd.int .u8) 5 w133 w.heap.size (fun _ => True) (.slice (some ⟨go30, 0, none⟩) t244.length co10) y249 := (by rw [hw, Ny249.out]; exact HP132.1); clear HP132; have n0_ := Aside0.mk (hp_); have n1_ := Aside0.mk ((by rw [hw]; exact below_set (HB.out) GB30.out : Below w.heap.size w w133)); clear HO_10; clear HB; have HO_10 := n0_; have HB := n1_; clear n0_ n1_; clear hg hw hp_; have p267 : 0 ≤ ((ji103) : Int) := of_decide_eq_true (by first | (with_reducible assumption) | assumption); have q267 : (ji103) < (y249.length : Int) := (by have h_ : ((ji103) : Int) < ((t244.length : Int) : Int) := of_decide_eq_true (by first | (with_reducible assumption) | assumption); first | (have e_ := (Kd.R_reads' HO_10.out).1; omega) | simpa only [Ny249.out, List.length_set] using h_); have ql267 : (((ji103) : Int) < ((t244.length : Int) : Int)) = True := eq_true (of_decide_eq_true (by first | (with_reducible assumption) | assumption)); obtain ⟨ad267, e267, hx267_0⟩ := Kd.at_int (Kd.R_reads' HO_10.out).2.2 (ji103) p267 q267; obtain rfl : (⟨go30, 0, none⟩ : Addr) = ad267 := (by injection e267); (first | simp only [add_plain] at hx267_0 | simp only [add_at] at hx267_0 | simp only [Addr.add, Nat.zero_add] at hx267_0 | skip); replace p267 := eq_true p267; replace q267 := eq_true q267; have p109 : 0 ≤ ((ji103) : Int) := of_decide_eq_true (by first | (with_reducible assumption) | assumption); have q109 : ((ji103) : Int) < ((t244.length : Int) : Int) := of_decide_eq_true (by first | (with_reducible assumption) | assumption); obtain ⟨hx109_0, hf109_0⟩ := Kd.R_celln 0 HO_10.out ((ji103) : Int) p109 q109; replace p109 := eq_true p109; replace q109 := eq_true q109; obtain ⟨hy134_, hz134_⟩ := Kd.R_celln 0 HO_10.out ((ji103) : Int) (of_decide_eq_true (by first | (with_reducible assumption) | assumption)) (of_decide_eq_true (by first | (with_reducible assumption) | assumption)); have HP134 := Kd.R_putg HO_10.out ((ji103) : Int) (Go.bits .xor .u8 (rd y249 (ji103)) (ji108))) | ((with_reducible refine gate_store (t := 5) (p := 109) rfl ?_); refine store_event (t := 5) (p := 109) (v := ?vo_w135) (w1 := (w133.setCell ⟨go30, ((ji103) : Int).toNat, none⟩ (.int .u8 (Go.bits .xor .u8 (rd y249 (ji103)) (ji108))))) ?hg ?ho ?hn ?hr ?_; (case ho => rfl); (case hg => rfl); (case hn => rfl); (case hr => first | (go_simp; done) | (go_simp; rfl)); intro w135 hw; have hg : w133.grownBy w135 (some go30) := (by rw [hw]; exact HP134.2); have hp_ : Kd.R (Kd.int .u8) 5 w135 w.heap.size (fun _ => True) (.slice (some ⟨go30, 0, none⟩) t244.length co10) y268 := (by rw [hw, Ny268.out]; exact HP134.1); clear HP134; have n0_ := Aside0.mk (hp_); have n1_ := Aside0.mk ((by rw [hw]; exact below_set (HB.out) GB30.out : Below w.heap.size w w135)); clear HO_10; clear HB; have HO_10 := n0_; have HB := n1_; clear n0_ n1_; clear hg hw hp_) | ((with_reducible refine gate_callee (f := 11) rfl ?_); refine goesL_ (some 134) rfl rfl Try.func11 (by kernel_rfl) rfl #[.slice (some ⟨go30, 0, none⟩) y268.length co10] rfl (by (try simp only [List.map_toArray, List.map_cons, List.map_nil]); first | done | (rw [show y268.length = t244.length from (Kd.R_reads' HO_10.out).1.symm] <;> rfl) | rfl | (simp only [List.length_drop, List.length_take]; rfl)) ?_; (with_reducible refine (frame_Next.calls _ _ y268 t269 t270 t271 _ ?side1 ?side2 A111.out).mono ?_); (case side1 => repeat (first | exact (Kd.R_reads' HO_10.out).2.2 | (with_reducible refine Kd.C_alloc ?_ _) | (with_reducible refine Kd.C_drewN ?_ _) | (with_reducible refine Kd.C_drew ?_))); (case side2 => rw [show y268.length = t244.length from (Kd.R_reads' HO_10.out).1.symm]; exact (Kd.R_reads' HO_10.out).2.1); rintro e w136 ⟨v272, rfl, ho0, hb⟩; refine ⟨_, rfl, ?_⟩; have n0_ := Aside0.mk (Kd.R_elder' (by (with_reducible repeat (first | apply Kd.R_alloc | apply Kd.R_drewN | apply Kd.R_drew)); exact HO_10.out) (Kd.R_base ho0) hb); have n1_ := Aside0.mk (Kd.R_lower (Kd.R_new' ho0 (Kd.R_lt (by (with_reducible repeat (first | apply Kd.R_alloc | apply Kd.R_drewN | apply Kd.R_drew)); exact HO_10.out))) (below_size (by repeat (first | (with_reducible first | exact HB.out | apply below_alloc | apply pw_below_drewN | apply below_drew1) | exact HB.out)))); have n2_ := Aside0.mk (below_step (by repeat (first | (with_reducible first | exact HB.out | apply below_alloc | apply pw_below_drewN | apply below_drew1) | exact HB.out)) hb); clear HO_10; clear HB; have HO_10 := n0_; have HO273 := n1_; have HB := n2_; clear n0_ n1_ n2_; (try clear hb); (try clear hb2); (try clear hk); (try clear hi); (try clear ho0)))
                                go_ret
                                exact ⟨by first | rfl | (simp [errW_none, errW_some] <;> rfl) | (simp only [← hji24, ← hji27, ← hji29, ← hji103, ← hji106, ← hji108]; first | rfl | (simp [errW_none, errW_some] <;> rfl)) | (simp [*, errW_none, errW_some] <;> rfl), by repeat (first | (with_reducible first | exact HB.out | apply below_alloc | apply pw_below_drewN | apply below_drew1) | exact HB.out)⟩
                            · as_aux_lemma =>
                              rw [if_neg c110] at H
                              have c110b0 : (a3 == a1) = false := beq_eq_false_iff_ne.mpr c110
                              have c110b1 : (a3 != a1) = true := bne_iff_ne.mpr c110
                              by_cases c137 : a3 = a2
                              · as_aux_lemma =>
                                rw [if_pos c137] at H
                                have c137b0 : (a3 == a2) = true := beq_iff_eq.mpr c137
                                have c137b1 : (a3 != a2) = false := bne_eq_false_iff_eq.mpr c137
                                clear c137
                                replace H := Option.bind_eq_some_iff.mp H
                                obtain ⟨⟨t274, t275, t276⟩, A1380, H⟩ := H
                                replace H : (if t243 = true then (if t276 = 6 then (if (t274.length : Int) = 0 then (some (t275 == 0)) else (some false)) else (some false)) else (some false)) = some r := H
                                have A138 := Aside0.mk A1380
                                clear A1380
                                by_cases c139 : t243 = true
                                · subst c139
                                  have H1 : (if t276 = 6 then (if (t274.length : Int) = 0 then (some (t275 == 0)) else (some false)) else (some false)) = some r := by rw [if_pos rfl] at H; exact H
                                  clear H
                                  have H := H1
                                  clear H1
                                  by_cases c140 : t276 = 6
                                  · rw [if_pos c140] at H
                                    have c140b0 : (t276 == 6) = true := beq_iff_eq.mpr c140
                                    have c140b1 : (t276 != 6) = false := bne_eq_false_iff_eq.mpr c140
                                    clear c140
                                    by_cases c141 : (t274.length : Int) = 0
                                    · rw [if_pos c141] at H
                                      have c141b0 : ((t274.length : Int) == 0) = true := beq_iff_eq.mpr c141
                                      have c141b1 : ((t274.length : Int) != 0) = false := bne_eq_false_iff_eq.mpr c141
                                      clear c141
                                      obtain rfl := Option.some.inj H
                                      have p248 : 0 ≤ ((ji24) : Int) := of_decide_eq_true (by first | (with_reducible assumption) | assumption)
                                      have q248 : (ji24) < (t244.length : Int) := of_decide_eq_true (by first | (with_reducible assumption) | assumption)
                                      obtain ⟨ad248, e248, hx248_0⟩ := Kd.at_int (Kd.R_reads' HO_10.out).2.2 (ji24) p248 q248
                                      cases e248
                                      replace p248 := eq_true p248
                                      replace q248 := eq_true q248
                                      have p30 : 0 ≤ ((ji24) : Int) := of_decide_eq_true (by first | (with_reducible assumption) | assumption)
                                      have q30 : ((ji24) : Int) < ((t244.length : Int) : Int) := of_decide_eq_true (by first | (with_reducible assumption) | assumption)
                                      obtain ⟨go30, co30, eo30, gb30, gl30, cl30, HG30⟩ := Kd.R_form HO_10.out (by omega)
                                      (first | cases eo30 | (injection eo30 with ea_ en_ ec_; (first | subst ea_ | (injection ea_ with ea_; subst ea_)); subst ec_; clear en_))
                                      have GB30 := Aside0.mk gb30
                                      have GG30 := Aside0.mk HG30
                                      clear gb30 gl30 HG30
                                      (first | simp only [add_plain] at hx248_0 | skip)
                                      obtain ⟨hx30_0, hf30_0⟩ := Kd.R_celln 0 HO_10.out ((ji24) : Int) p30 q30
                                      replace p30 := eq_true p30
                                      replace q30 := eq_true q30
                                      have HP142 := Kd.R_putg HO_10.out ((ji24) : Int) (Go.bits .xor .u8 (rd t244 (ji24)) (ji29))
                                      go_wp2_with (first | ((with_reducible refine gate_store (t := 5) (p := 92) rfl ?_); refine store_event (t := 5) (p := 92) (v := ?vo_w143) (w1 := (wc.setCell ⟨go30, ((ji24) : Int).toNat, none⟩ (.int .u8 (Go.bits .xor .u8 (rd t244 (ji24)) (ji29))))) ?hg ?ho ?hn ?hr ?_; (case ho => rfl); (case hg => rfl); (case hn => rfl); (case hr => first | (go_simp; done) | (go_simp; rfl)); intro w143 hw; have hg : wc.grownBy w143 (some go30) := (by rw [hw]; exact HP142.2); have hp_ : Kd.R (Kd.int .u8) 5 w143 w.heap.size (fun _ => True) (.slice (some ⟨go30, 0, none⟩) t244.length co10) y249 := (by rw [hw, Ny249.out]; exact HP142.1); clear HP142; have n0_ := Aside0.mk (hp_); have n1_ := Aside0.mk ((by rw [hw]; exact below_set (HB.out) GB30.out : Below w.heap.size w w143)); clear HO_10; clear HB; have HO_10 := n0_; have HB := n1_; clear n0_ n1_; clear hg hw hp_; have p267 : 0 ≤ ((ji103) : Int) := of_decide_eq_true (by first | (with_reducible assumption) | assumption); have q267 : (ji103) < (y249.length : Int) := (by have h_ : ((ji103) : Int) < ((t244.length : Int) : Int) := of_decide_eq_true (by first | (with_reducible assumption) | assumption); first | (have e_ := (Kd.R_reads' HO_10.out).1; omega) | simpa only [Ny249.out, List.length_set] using h_); have ql267 : (((ji103) : Int) < ((t244.length : Int) : Int)) = True := eq_true (of_decide_eq_true (by first | (with_reducible assumption) | assumption)); obtain ⟨ad267, e267, hx267_0⟩ := Kd.at_int (Kd.R_reads' HO_10.out).2.2 (ji103) p267 q267; obtain rfl : (⟨go30, 0, none⟩ : Addr) = ad267 := (by injection e267); (first | simp only [add_plain] at hx267_0 | simp only [add_at] at hx267_0 | simp only [Addr.add, Nat.zero_add] at hx267_0 | skip); replace p267 := eq_true p267; replace q267 := eq_true q267; have p109 : 0 ≤ ((ji103) : Int) := of_decide_eq_true (by first | (with_reducible assumption) | assumption); have q109 : ((ji103) : Int) < ((t244.length : Int) : Int) := of_decide_eq_true (by first | (with_reducible assumption) | assumption); obtain ⟨hx109_0, hf109_0⟩ := Kd.R_celln 0 HO_10.out ((ji103) : Int) p109 q109; replace p109 := eq_true p109; replace q109 := eq_true q109; obtain ⟨hy144_, hz144_⟩ := Kd.R_celln 0 HO_10.out ((ji103) : Int) (of_decide_eq_true (by first | (with_reducible assumption) | assumption)) (of_decide_eq_true (by first | (with_reducible assumption) | assumption)); have HP144 := Kd.R_putg HO_10.out ((ji103) : Int) (Go.bits .xor .u8 (rd y249 (ji103)) (ji108))) | ((with_reducible refine gate_store (t := 5) (p := 109) rfl ?_); refine store_event (t := 5) (p := 109) (v := ?vo_w145) (w1 := (w143.setCell ⟨go30, ((ji103) : Int).toNat, none⟩ (.int .u8 (Go.bits .xor .u8 (rd y249 (ji103)) (ji108))))) ?hg ?ho ?hn ?hr ?_; (case ho => rfl); (case hg => rfl); (case hn => rfl); (case hr => first | (go_simp; done) | (go_simp; rfl)); intro w145 hw; have hg : w143.grownBy w145 (some go30) := (by rw [hw]; exact HP144.2); have hp_ : Kd.R (Kd.int .u8) 5 w145 w.heap.size (fun _ => True) (.slice (some ⟨go30, 0, none⟩) t244.length co10) y268 := (by rw [hw, Ny268.out]; exact HP144.1); clear HP144; have n0_ := Aside0.mk (hp_); have n1_ := Aside0.mk ((by rw [hw]; exact below_set (HB.out) GB30.out : Below w.heap.size w w145)); clear HO_10; clear HB; have HO_10 := n0_; have HB := n1_; clear n0_ n1_; clear hg hw hp_) | ((with_reducible refine gate_callee (f := 11) rfl ?_); refine goesL_ (some 134) rfl rfl Try.func11 (by kernel_rfl) rfl #[.slice (some ⟨go30, 0, none⟩) y268.length co10] rfl (by (try simp only [List.map_toArray, List.map_cons, List.map_nil]); first | done | (rw [show y268.length = t244.length from (Kd.R_reads' HO_10.out).1.symm] <;> rfl) | rfl | (simp only [List.length_drop, List.length_take]; rfl)) ?_; (with_reducible refine (frame_Next.calls _ _ y268 t274 t275 t276 _ ?side1 ?side2 A138.out).mono ?_); (case side1 => repeat (first | exact (Kd.R_reads' HO_10.out).2.2 | (with_reducible refine Kd.C_alloc ?_ _) | (with_reducible refine Kd.C_drewN ?_ _) | (with_reducible refine Kd.C_drew ?_))); (case side2 => rw [show y268.length = t244.length from (Kd.R_reads' HO_10.out).1.symm]; exact (Kd.R_reads' HO_10.out).2.1); rintro e w146 ⟨v277, rfl, ho0, hb⟩; refine ⟨_, rfl, ?_⟩; have n0_ := Aside0.mk (Kd.R_elder' (by (with_reducible repeat (first | apply Kd.R_alloc | apply Kd.R_drewN | apply Kd.R_drew)); exact HO_10.out) (Kd.R_base ho0) hb); have n1_ := Aside0.mk (Kd.R_lower (Kd.R_new' ho0 (Kd.R_lt (by (with_reducible repeat (first | apply Kd.R_alloc | apply Kd.R_drewN | apply Kd.R_drew)); exact HO_10.out))) (below_size (by repeat (first | (with_reducible first | exact HB.out | apply below_alloc | apply pw_below_drewN | apply below_drew1) | exact HB.out)))); have n2_ := Aside0.mk (below_step (by repeat (first | (with_reducible first | exact HB.out | apply below_alloc | apply pw_below_drewN | apply below_drew1) | exact HB.out)) hb); clear HO_10; clear HB; have HO_10 := n0_; have HO278 := n1_; have HB := n2_; clear n0_ n1_ n2_; (try clear hb); (try clear hb2); (try clear hk); (try clear hi); (try clear ho0); obtain ⟨Ao147, co147, eo147⟩ := Kd.R_slice HO278.out; subst eo147))
                                      go_ret
                                      exact ⟨by first | rfl | (simp [errW_none, errW_some] <;> rfl) | (simp only [← hji24, ← hji27, ← hji29, ← hji103, ← hji106, ← hji108]; first | rfl | (simp [errW_none, errW_some] <;> rfl)) | (simp [*, errW_none, errW_some] <;> rfl), by repeat (first | (with_reducible first | exact HB.out | apply below_alloc | apply pw_below_drewN | apply below_drew1) | exact HB.out)⟩
                                    · rw [if_neg c141] at H
                                      have c141b0 : ((t274.length : Int) == 0) = false := beq_eq_false_iff_ne.mpr c141
                                      have c141b1 : ((t274.length : Int) != 0) = true := bne_iff_ne.mpr c141
                                      have c141b2 : ¬ (t274 = []) := fun h_ => c141 (by rw [h_]; rfl)
                                      obtain rfl := Option.some.inj H
                                      have p248 : 0 ≤ ((ji24) : Int) := of_decide_eq_true (by first | (with_reducible assumption) | assumption)
                                      have q248 : (ji24) < (t244.length : Int) := of_decide_eq_true (by first | (with_reducible assumption) | assumption)
                                      obtain ⟨ad248, e248, hx248_0⟩ := Kd.at_int (Kd.R_reads' HO_10.out).2.2 (ji24) p248 q248
                                      cases e248
                                      replace p248 := eq_true p248
                                      replace q248 := eq_true q248
                                      have p30 : 0 ≤ ((ji24) : Int) := of_decide_eq_true (by first | (with_reducible assumption) | assumption)
                                      have q30 : ((ji24) : Int) < ((t244.length : Int) : Int) := of_decide_eq_true (by first | (with_reducible assumption) | assumption)
                                      obtain ⟨go30, co30, eo30, gb30, gl30, cl30, HG30⟩ := Kd.R_form HO_10.out (by omega)
                                      (first | cases eo30 | (injection eo30 with ea_ en_ ec_; (first | subst ea_ | (injection ea_ with ea_; subst ea_)); subst ec_; clear en_))
                                      have GB30 := Aside0.mk gb30
                                      have GG30 := Aside0.mk HG30
                                      clear gb30 gl30 HG30
                                      (first | simp only [add_plain] at hx248_0 | skip)
                                      obtain ⟨hx30_0, hf30_0⟩ := Kd.R_celln 0 HO_10.out ((ji24) : Int) p30 q30
                                      replace p30 := eq_true p30
                                      replace q30 := eq_true q30
                                      have HP148 := Kd.R_putg HO_10.out ((ji24) : Int) (Go.bits .xor .u8 (rd t244 (ji24)) (ji29))
                                      go_wp2_with (first | ((with_reducible refine gate_store (t := 5) (p := 92) rfl ?_); refine store_event (t := 5) (p := 92) (v := ?vo_w149) (w1 := (wc.setCell ⟨go30, ((ji24) : Int).toNat, none⟩ (.int .u8 (Go.bits .xor .u8 (rd t244 (ji24)) (ji29))))) ?hg ?ho ?hn ?hr ?_; (case ho => rfl); (case hg => rfl); (case hn => rfl); (case hr => first | (go_simp; done) | (go_simp; rfl)); intro w149 hw; have hg : wc.grownBy w149 (some go30) := (by rw [hw]; exact HP148.2); have hp_ : Kd.R (Kd.int .u8) 5 w149 w.heap.size (fun _ => True) (.slice (some ⟨go30, 0, none⟩) t244.length co10) y249 := (by rw [hw, Ny249.out]; exact HP148.1); clear HP148; have n0_ := Aside0.mk (hp_); have n1_ := Aside0.mk ((by rw [hw]; exact below_set (HB.out) GB30.out : Below w.heap.size w w149)); clear HO_10; clear HB; have HO_10 := n0_; have HB := n1_; clear n0_ n1_; clear hg hw hp_; have p267 : 0 ≤ ((ji103) : Int) := of_decide_eq_true (by first | (with_reducible assumption) | assumption); have q267 : (ji103) < (y249.length : Int) := (by have h_ : ((ji103) : Int) < ((t244.length : Int) : Int) := of_decide_eq_true (by first | (with_reducible assumption) | assumption); first | (have e_ := (Kd.R_reads' HO_10.out).1; omega) | simpa only [Ny249.out, List.length_set] using h_); have ql267 : (((ji103) : Int) < ((t244.length : Int) : Int)) = True := eq_true (of_decide_eq_true (by first | (with_reducible assumption) | assumption)); obtain ⟨ad267, e267, hx267_0⟩ := Kd.at_int (Kd.R_reads' HO_10.out).2.2 (ji103) p267 q267; obtain rfl : (⟨go30, 0, none⟩ : Addr) = ad267 := (by injection e267); (first | simp only [add_plain] at hx267_0 | simp only [add_at] at hx267_0 | simp only [Addr.add, Nat.zero_add] at hx267_0 | skip); replace p267 := eq_true p267; replace q267 := eq_true q267; have p109 : 0 ≤ ((ji103) : Int) := of_decide_eq_true (by first | (with_reducible assumption) | assumption); have q109 : ((ji103) : Int) < ((t244.length : Int) : Int) := of_decide_eq_true (by first | (with_reducible assumption) | assumption); obtain ⟨hx109_0, hf109_0⟩ := Kd.R_celln 0 HO_10.out ((ji103) : Int) p109 q109; replace p109 := eq_true p109; replace q109 := eq_true q109; obtain ⟨hy150_, hz150_⟩ := Kd.R_celln 0 HO_10.out ((ji103) : Int) (of_decide_eq_true (by first | (with_reducible assumption) | assumption)) (of_decide_eq_true (by first | (with_reducible assumption) | assumption)); have HP150 := Kd.R_putg HO_10.out ((ji103) : Int) (Go.bits .xor .u8 (rd y249 (ji103)) (ji108))) | ((with_reducible refine gate_store (t := 5) (p := 109) rfl ?_); refine store_event (t := 5) (p := 109) (v := ?vo_w151) (w1 := (w149.setCell ⟨go30, ((ji103) : Int).toNat, none⟩ (.int .u8 (Go.bits .xor .u8 (rd y249 (ji103)) (ji108))))) ?hg ?ho ?hn ?hr ?_; (case ho => rfl); (case hg => rfl); (case hn => rfl); (case hr => first | (go_simp; done) | (go_simp; rfl)); intro w151 hw; have hg : w149.grownBy w151 (some go30) := (by rw [hw]; exact HP150.2); have hp_ : Kd.R (Kd.int .u8) 5 w151 w.heap.size (fun _ => True) (.slice (some ⟨go30, 0, none⟩) t244.length co10) y268 := (by rw [hw, Ny268.out]; exact HP150.1); clear HP150; have n0_ := Aside0.mk (hp_); have n1_ := Aside0.mk ((by rw [hw]; exact below_set (HB.out) GB30.out : Below w.heap.size w w151)); clear HO_10; clear HB; have HO_10 := n0_; have HB := n1_; clear n0_ n1_; clear hg hw hp_) | ((with_reducible refine gate_callee (f := 11) rfl ?_); refine goesL_ (some 134) rfl rfl Try.func11 (by kernel_rfl) rfl #[.slice (some ⟨go30, 0, none⟩) y268.length co10] rfl (by (try simp only [List.map_toArray, List.map_cons, List.map_nil]); first | done | (rw [show y268.length = t244.length from (Kd.R_reads' HO_10.out).1.symm] <;> rfl) | rfl | (simp only [List.length_drop, List.length_take]; rfl)) ?_; (with_reducible refine (frame_Next.calls _ _ y268 t274 t275 t276 _ ?side1 ?side2 A138.out).mono ?_); (case side1 => repeat (first | exact (Kd.R_reads' HO_10.out).2.2 | (with_reducible refine Kd.C_alloc ?_ _) | (with_reducible refine Kd.C_drewN ?_ _) | (with_reducible refine Kd.C_drew ?_))); (case side2 => rw [show y268.length = t244.length from (Kd.R_reads' HO_10.out).1.symm]; exact (Kd.R_reads' HO_10.out).2.1); rintro e w152 ⟨v277, rfl, ho0, hb⟩; refine ⟨_, rfl, ?_⟩; have n0_ := Aside0.mk (Kd.R_elder' (by (with_reducible repeat (first | apply Kd.R_alloc | apply Kd.R_drewN | apply Kd.R_drew)); exact HO_10.out) (Kd.R_base ho0) hb); have n1_ := Aside0.mk (Kd.R_lower (Kd.R_new' ho0 (Kd.R_lt (by (with_reducible repeat (first | apply Kd.R_alloc | apply Kd.R_drewN | apply Kd.R_drew)); exact HO_10.out))) (below_size (by repeat (first | (with_reducible first | exact HB.out | apply below_alloc | apply pw_below_drewN | apply below_drew1) | exact HB.out)))); have n2_ := Aside0.mk (below_step (by repeat (first | (with_reducible first | exact HB.out | apply below_alloc | apply pw_below_drewN | apply below_drew1) | exact HB.out)) hb); clear HO_10; clear HB; have HO_10 := n0_; have HO278 := n1_; have HB := n2_; clear n0_ n1_ n2_; (try clear hb); (try clear hb2); (try clear hk); (try clear hi); (try clear ho0); obtain ⟨Ao153, co153, eo153⟩ := Kd.R_slice HO278.out; subst eo153))
                                      go_ret
                                      exact ⟨by first | rfl | (simp [errW_none, errW_some] <;> rfl) | (simp only [← hji24, ← hji27, ← hji29, ← hji103, ← hji106, ← hji108]; first | rfl | (simp [errW_none, errW_some] <;> rfl)) | (simp [*, errW_none, errW_some] <;> rfl), by repeat (first | (with_reducible first | exact HB.out | apply below_alloc | apply pw_below_drewN | apply below_drew1) | exact HB.out)⟩
                                  · rw [if_neg c140] at H
                                    have c140b0 : (t276 == 6) = false := beq_eq_false_iff_ne.mpr c140
                                    have c140b1 : (t276 != 6) = true := bne_iff_ne.mpr c140
                                    obtain rfl := Option.some.inj H
                                    have p248 : 0 ≤ ((ji24) : Int) := of_decide_eq_true (by first | (with_reducible assumption) | assumption)
                                    have q248 : (ji24) < (t244.length : Int) := of_decide_eq_true (by first | (with_reducible assumption) | assumption)
                                    obtain ⟨ad248, e248, hx248_0⟩ := Kd.at_int (Kd.R_reads' HO_10.out).2.2 (ji24) p248 q248
                                    cases e248
                                    replace p248 := eq_true p248
                                    replace q248 := eq_true q248
                                    have p30 : 0 ≤ ((ji24) : Int) := of_decide_eq_true (by first | (with_reducible assumption) | assumption)
                                    have q30 : ((ji24) : Int) < ((t244.length : Int) : Int) := of_decide_eq_true (by first | (with_reducible assumption) | assumption)
                                    obtain ⟨go30, co30, eo30, gb30, gl30, cl30, HG30⟩ := Kd.R_form HO_10.out (by omega)
                                    (first | cases eo30 | (injection eo30 with ea_ en_ ec_; (first | subst ea_ | (injection ea_ with ea_; subst ea_)); subst ec_; clear en_))
                                    have GB30 := Aside0.mk gb30
                                    have GG30 := Aside0.mk HG30
                                    clear gb30 gl30 HG30
                                    (first | simp only [add_plain] at hx248_0 | skip)
                                    obtain ⟨hx30_0, hf30_0⟩ := Kd.R_celln 0 HO_10.out ((ji24) : Int) p30 q30
                                    replace p30 := eq_true p30
                                    replace q30 := eq_true q30
                                    have HP154 := Kd.R_putg HO_10.out ((ji24) : Int) (Go.bits .xor .u8 (rd t244 (ji24)) (ji29))
                                    go_wp2_with (first | ((with_reducible refine gate_store (t := 5) (p := 92) rfl ?_); refine store_event (t := 5) (p := 92) (v := ?vo_w155) (w1 := (wc.setCell ⟨go30, ((ji24) : Int).toNat, none⟩ (.int .u8 (Go.bits .xor .u8 (rd t244 (ji24)) (ji29))))) ?hg ?ho ?hn ?hr ?_; (case ho => rfl); (case hg => rfl); (case hn => rfl); (case hr => first | (go_simp; done) | (go_simp; rfl)); intro w155 hw; have hg : wc.grownBy w155 (some go30) := (by rw [hw]; exact HP154.2); have hp_ : Kd.R (Kd.int .u8) 5 w155 w.heap.size (fun _ => True) (.slice (some ⟨go30, 0, none⟩) t244.length co10) y249 := (by rw [hw, Ny249.out]; exact HP154.1); clear HP154; have n0_ := Aside0.mk (hp_); have n1_ := Aside0.mk ((by rw [hw]; exact below_set (HB.out) GB30.out : Below w.heap.size w w155)); clear HO_10; clear HB; have HO_10 := n0_; have HB := n1_; clear n0_ n1_; clear hg hw hp_; have p267 : 0 ≤ ((ji103) : Int) := of_decide_eq_true (by first | (with_reducible assumption) | assumption); have q267 : (ji103) < (y249.length : Int) := (by have h_ : ((ji103) : Int) < ((t244.length : Int) : Int) := of_decide_eq_true (by first | (with_reducible assumption) | assumption); first | (have e_ := (Kd.R_reads' HO_10.out).1; omega) | simpa only [Ny249.out, List.length_set] using h_); have ql267 : (((ji103) : Int) < ((t244.length : Int) : Int)) = True := eq_true (of_decide_eq_true (by first | (with_reducible assumption) | assumption)); obtain ⟨ad267, e267, hx267_0⟩ := Kd.at_int (Kd.R_reads' HO_10.out).2.2 (ji103) p267 q267; obtain rfl : (⟨go30, 0, none⟩ : Addr) = ad267 := (by injection e267); (first | simp only [add_plain] at hx267_0 | simp only [add_at] at hx267_0 | simp only [Addr.add, Nat.zero_add] at hx267_0 | skip); replace p267 := eq_true p267; replace q267 := eq_true q267; have p109 : 0 ≤ ((ji103) : Int) := of_decide_eq_true (by first | (with_reducible assumption) | assumption); have q109 : ((ji103) : Int) < ((t244.length : Int) : Int) := of_decide_eq_true (by first | (with_reducible assumption) | assumption); obtain ⟨hx109_0, hf109_0⟩ := Kd.R_celln 0 HO_10.out ((ji103) : Int) p109 q109; replace p109 := eq_true p109; replace q109 := eq_true q109; obtain ⟨hy156_, hz156_⟩ := Kd.R_celln 0 HO_10.out ((ji103) : Int) (of_decide_eq_true (by first | (with_reducible assumption) | assumption)) (of_decide_eq_true (by first | (with_reducible assumption) | assumption)); have HP156 := Kd.R_putg HO_10.out ((ji103) : Int) (Go.bits .xor .u8 (rd y249 (ji103)) (ji108))) | ((with_reducible refine gate_store (t := 5) (p := 109) rfl ?_); refine store_event (t := 5) (p := 109) (v := ?vo_w157) (w1 := (w155.setCell ⟨go30, ((ji103) : Int).toNat, none⟩ (.int .u8 (Go.bits .xor .u8 (rd y249 (ji103)) (ji108))))) ?hg ?ho ?hn ?hr ?_; (case ho => rfl); (case hg => rfl); (case hn => rfl); (case hr => first | (go_simp; done) | (go_simp; rfl)); intro w157 hw; have hg : w155.grownBy w157 (some go30) := (by rw [hw]; exact HP156.2); have hp_ : Kd.R (Kd.int .u8) 5 w157 w.heap.size (fun _ => True) (.slice (some ⟨go30, 0, none⟩) t244.length co10) y268 := (by rw [hw, Ny268.out]; exact HP156.1); clear HP156; have n0_ := Aside0.mk (hp_); have n1_ := Aside0.mk ((by rw [hw]; exact below_set (HB.out) GB30.out : Below w.heap.size w w157)); clear HO_10; clear HB; have HO_10 := n0_; have HB := n1_; clear n0_ n1_; clear hg hw hp_) | ((with_reducible refine gate_callee (f := 11) rfl ?_); refine goesL_ (some 134) rfl rfl Try.func11 (by kernel_rfl) rfl #[.slice (some ⟨go30, 0, none⟩) y268.length co10] rfl (by (try simp only [List.map_toArray, List.map_cons, List.map_nil]); first | done | (rw [show y268.length = t244.length from (Kd.R_reads' HO_10.out).1.symm] <;> rfl) | rfl | (simp only [List.length_drop, List.length_take]; rfl)) ?_; (with_reducible refine (frame_Next.calls _ _ y268 t274 t275 t276 _ ?side1 ?side2 A138.out).mono ?_); (case side1 => repeat (first | exact (Kd.R_reads' HO_10.out).2.2 | (with_reducible refine Kd.C_alloc ?_ _) | (with_reducible refine Kd.C_drewN ?_ _) | (with_reducible refine Kd.C_drew ?_))); (case side2 => rw [show y268.length = t244.length from (Kd.R_reads' HO_10.out).1.symm]; exact (Kd.R_reads' HO_10.out).2.1); rintro e w158 ⟨v277, rfl, ho0, hb⟩; refine ⟨_, rfl, ?_⟩; have n0_ := Aside0.mk (Kd.R_elder' (by (with_reducible repeat (first | apply Kd.R_alloc | apply Kd.R_drewN | apply Kd.R_drew)); exact HO_10.out) (Kd.R_base ho0) hb); have n1_ := Aside0.mk (Kd.R_lower (Kd.R_new' ho0 (Kd.R_lt (by (with_reducible repeat (first | apply Kd.R_alloc | apply Kd.R_drewN | apply Kd.R_drew)); exact HO_10.out))) (below_size (by repeat (first | (with_reducible first | exact HB.out | apply below_alloc | apply pw_below_drewN | apply below_drew1) | exact HB.out)))); have n2_ := Aside0.mk (below_step (by repeat (first | (with_reducible first | exact HB.out | apply below_alloc | apply pw_below_drewN | apply below_drew1) | exact HB.out)) hb); clear HO_10; clear HB; have HO_10 := n0_; have HO278 := n1_; have HB := n2_; clear n0_ n1_ n2_; (try clear hb); (try clear hb2); (try clear hk); (try clear hi); (try clear ho0)))
                                    go_ret
                                    exact ⟨by first | rfl | (simp [errW_none, errW_some] <;> rfl) | (simp only [← hji24, ← hji27, ← hji29, ← hji103, ← hji106, ← hji108]; first | rfl | (simp [errW_none, errW_some] <;> rfl)) | (simp [*, errW_none, errW_some] <;> rfl), by repeat (first | (with_reducible first | exact HB.out | apply below_alloc | apply pw_below_drewN | apply below_drew1) | exact HB.out)⟩
                                · replace c139 := Bool.eq_false_iff.mpr c139
                                  subst c139
                                  have H1 : (some false) = some r := by rw [if_neg (show ¬ (false = true) by decide)] at H; exact H
                                  clear H
                                  have H := H1
                                  clear H1
                                  obtain rfl := Option.some.inj H
                                  have p248 : 0 ≤ ((ji24) : Int) := of_decide_eq_true (by first | (with_reducible assumption) | assumption)
                                  have q248 : (ji24) < (t244.length : Int) := of_decide_eq_true (by first | (with_reducible assumption) | assumption)
                                  obtain ⟨ad248, e248, hx248_0⟩ := Kd.at_int (Kd.R_reads' HO_10.out).2.2 (ji24) p248 q248
                                  cases e248
                                  replace p248 := eq_true p248
                                  replace q248 := eq_true q248
                                  have p30 : 0 ≤ ((ji24) : Int) := of_decide_eq_true (by first | (with_reducible assumption) | assumption)
                                  have q30 : ((ji24) : Int) < ((t244.length : Int) : Int) := of_decide_eq_true (by first | (with_reducible assumption) | assumption)
                                  obtain ⟨go30, co30, eo30, gb30, gl30, cl30, HG30⟩ := Kd.R_form HO_10.out (by omega)
                                  (first | cases eo30 | (injection eo30 with ea_ en_ ec_; (first | subst ea_ | (injection ea_ with ea_; subst ea_)); subst ec_; clear en_))
                                  have GB30 := Aside0.mk gb30
                                  have GG30 := Aside0.mk HG30
                                  clear gb30 gl30 HG30
                                  (first | simp only [add_plain] at hx248_0 | skip)
                                  obtain ⟨hx30_0, hf30_0⟩ := Kd.R_celln 0 HO_10.out ((ji24) : Int) p30 q30
                                  replace p30 := eq_true p30
                                  replace q30 := eq_true q30
                                  have HP159 := Kd.R_putg HO_10.out ((ji24) : Int) (Go.bits .xor .u8 (rd t244 (ji24)) (ji29))
                                  go_wp2_with (first | ((with_reducible refine gate_store (t := 5) (p := 92) rfl ?_); refine store_event (t := 5) (p := 92) (v := ?vo_w160) (w1 := (wc.setCell ⟨go30, ((ji24) : Int).toNat, none⟩ (.int .u8 (Go.bits .xor .u8 (rd t244 (ji24)) (ji29))))) ?hg ?ho ?hn ?hr ?_; (case ho => rfl); (case hg => rfl); (case hn => rfl); (case hr => first | (go_simp; done) | (go_simp; rfl)); intro w160 hw; have hg : wc.grownBy w160 (some go30) := (by rw [hw]; exact HP159.2); have hp_ : Kd.R (Kd.int .u8) 5 w160 w.heap.size (fun _ => True) (.slice (some ⟨go30, 0, none⟩) t244.length co10) y249 := (by rw [hw, Ny249.out]; exact HP159.1); clear HP159; have n0_ := Aside0.mk (hp_); have n1_ := Aside0.mk ((by rw [hw]; exact below_set (HB.out) GB30.out : Below w.heap.size w w160)); clear HO_10; clear HB; have HO_10 := n0_; have HB := n1_; clear n0_ n1_; clear hg hw hp_; have p267 : 0 ≤ ((ji103) : Int) := of_decide_eq_true (by first | (with_reducible assumption) | assumption); have q267 : (ji103) < (y249.length : Int) := (by have h_ : ((ji103) : Int) < ((t244.length : Int) : Int) := of_decide_eq_true (by first | (with_reducible assumption) | assumption); first | (have e_ := (Kd.R_reads' HO_10.out).1; omega) | simpa only [Ny249.out, List.length_set] using h_); have ql267 : (((ji103) : Int) < ((t244.length : Int) : Int)) = True := eq_true (of_decide_eq_true (by first | (with_reducible assumption) | assumption)); obtain ⟨ad267, e267, hx267_0⟩ := Kd.at_int (Kd.R_reads' HO_10.out).2.2 (ji103) p267 q267; obtain rfl : (⟨go30, 0, none⟩ : Addr) = ad267 := (by injection e267); (first | simp only [add_plain] at hx267_0 | simp only [add_at] at hx267_0 | simp only [Addr.add, Nat.zero_add] at hx267_0 | skip); replace p267 := eq_true p267; replace q267 := eq_true q267; have p109 : 0 ≤ ((ji103) : Int) := of_decide_eq_true (by first | (with_reducible assumption) | assumption); have q109 : ((ji103) : Int) < ((t244.length : Int) : Int) := of_decide_eq_true (by first | (with_reducible assumption) | assumption); obtain ⟨hx109_0, hf109_0⟩ := Kd.R_celln 0 HO_10.out ((ji103) : Int) p109 q109; replace p109 := eq_true p109; replace q109 := eq_true q109; obtain ⟨hy161_, hz161_⟩ := Kd.R_celln 0 HO_10.out ((ji103) : Int) (of_decide_eq_true (by first | (with_reducible assumption) | assumption)) (of_decide_eq_true (by first | (with_reducible assumption) | assumption)); have HP161 := Kd.R_putg HO_10.out ((ji103) : Int) (Go.bits .xor .u8 (rd y249 (ji103)) (ji108))) | ((with_reducible refine gate_store (t := 5) (p := 109) rfl ?_); refine store_event (t := 5) (p := 109) (v := ?vo_w162) (w1 := (w160.setCell ⟨go30, ((ji103) : Int).toNat, none⟩ (.int .u8 (Go.bits .xor .u8 (rd y249 (ji103)) (ji108))))) ?hg ?ho ?hn ?hr ?_; (case ho => rfl); (case hg => rfl); (case hn => rfl); (case hr => first | (go_simp; done) | (go_simp; rfl)); intro w162 hw; have hg : w160.grownBy w162 (some go30) := (by rw [hw]; exact HP161.2); have hp_ : Kd.R (Kd.int .u8) 5 w162 w.heap.size (fun _ => True) (.slice (some ⟨go30, 0, none⟩) t244.length co10) y268 := (by rw [hw, Ny268.out]; exact HP161.1); clear HP161; have n0_ := Aside0.mk (hp_); have n1_ := Aside0.mk ((by rw [hw]; exact below_set (HB.out) GB30.out : Below w.heap.size w w162)); clear HO_10; clear HB; have HO_10 := n0_; have HB := n1_; clear n0_ n1_; clear hg hw hp_) | ((with_reducible refine gate_callee (f := 11) rfl ?_); refine goesL_ (some 134) rfl rfl Try.func11 (by kernel_rfl) rfl #[.slice (some ⟨go30, 0, none⟩) y268.length co10] rfl (by (try simp only [List.map_toArray, List.map_cons, List.map_nil]); first | done | (rw [show y268.length = t244.length from (Kd.R_reads' HO_10.out).1.symm] <;> rfl) | rfl | (simp only [List.length_drop, List.length_take]; rfl)) ?_; (with_reducible refine (frame_Next.calls _ _ y268 t274 t275 t276 _ ?side1 ?side2 A138.out).mono ?_); (case side1 => repeat (first | exact (Kd.R_reads' HO_10.out).2.2 | (with_reducible refine Kd.C_alloc ?_ _) | (with_reducible refine Kd.C_drewN ?_ _) | (with_reducible refine Kd.C_drew ?_))); (case side2 => rw [show y268.length = t244.length from (Kd.R_reads' HO_10.out).1.symm]; exact (Kd.R_reads' HO_10.out).2.1); rintro e w163 ⟨v277, rfl, ho0, hb⟩; refine ⟨_, rfl, ?_⟩; have n0_ := Aside0.mk (Kd.R_elder' (by (with_reducible repeat (first | apply Kd.R_alloc | apply Kd.R_drewN | apply Kd.R_drew)); exact HO_10.out) (Kd.R_base ho0) hb); have n1_ := Aside0.mk (Kd.R_lower (Kd.R_new' ho0 (Kd.R_lt (by (with_reducible repeat (first | apply Kd.R_alloc | apply Kd.R_drewN | apply Kd.R_drew)); exact HO_10.out))) (below_size (by repeat (first | (with_reducible first | exact HB.out | apply below_alloc | apply pw_below_drewN | apply below_drew1) | exact HB.out)))); have n2_ := Aside0.mk (below_step (by repeat (first | (with_reducible first | exact HB.out | apply below_alloc | apply pw_below_drewN | apply below_drew1) | exact HB.out)) hb); clear HO_10; clear HB; have HO_10 := n0_; have HO278 := n1_; have HB := n2_; clear n0_ n1_ n2_; (try clear hb); (try clear hb2); (try clear hk); (try clear hi); (try clear ho0)))
                                  go_ret
                                  exact ⟨by first | rfl | (simp [errW_none, errW_some] <;> rfl) | (simp only [← hji24, ← hji27, ← hji29, ← hji103, ← hji106, ← hji108]; first | rfl | (simp [errW_none, errW_some] <;> rfl)) | (simp [*, errW_none, errW_some] <;> rfl), by repeat (first | (with_reducible first | exact HB.out | apply below_alloc | apply pw_below_drewN | apply below_drew1) | exact HB.out)⟩
                              · as_aux_lemma =>
                                rw [if_neg c137] at H
                                have c137b0 : (a3 == a2) = false := beq_eq_false_iff_ne.mpr c137
                                have c137b1 : (a3 != a2) = true := bne_iff_ne.mpr c137
                                obtain ⟨ji164, hji164⟩ : ∃ j_ : Int, (wrap64 (Int.tdiv a3 8)) = j_ := ⟨_, rfl⟩
                                replace H : (if 0 ≤ (ji164) then (if (ji164) < (t244.length : Int) then (if 0 ≤ (IntKind.u64.wrap (Int.tmod a3 8)) then ((frame_Next.f (y268.set ((ji164) : Int).toNat (Go.bits .xor .u8 (rd y268 (ji164)) (shl .u8 1 (IntKind.u64.wrap (Int.tmod a3 8)))))).bind fun bt281 => (if t243 = true then (if bt281.2.2 = 6 then (if (bt281.1.length : Int) = 0 then (some (bt281.2.1 == 0)) else (some false)) else (some false)) else (some false))) else (none)) else (none)) else (none)) = some r := by first | (rw [hji164] at H; exact H) | (simp only [hji164] at H ⊢; exact H)
                                have hji164w : (IntKind.i64.wrap (Int.tdiv a3 8)) = ji164 := (i64_w _).trans hji164
                                by_cases c165 : 0 ≤ (ji164)
                                · rw [if_pos c165] at H
                                  have c165b0 : decide (0 ≤ (ji164)) = true := decide_eq_true c165
                                  clear c165
                                  by_cases c166 : (ji164) < (t244.length : Int)
                                  · rw [if_pos c166] at H
                                    have c166b0 : decide ((ji164) < (t244.length : Int)) = true := decide_eq_true c166
                                    clear c166
                                    obtain ⟨ji167, hji167⟩ : ∃ j_ : Int, (IntKind.u64.wrap (Int.tmod a3 8)) = j_ := ⟨_, rfl⟩
                                    replace H : (if 0 ≤ (ji167) then ((frame_Next.f (y268.set ((ji164) : Int).toNat (Go.bits .xor .u8 (rd y268 (ji164)) (shl .u8 1 (ji167))))).bind fun bt281 => (if t243 = true then (if bt281.2.2 = 6 then (if (bt281.1.length : Int) = 0 then (some (bt281.2.1 == 0)) else (some false)) else (some false)) else (some false))) else (none)) = some r := by first | (rw [hji167] at H; exact H) | (simp only [hji167] at H ⊢; exact H)
                                    by_cases c168 : 0 ≤ (ji167)
                                    · rw [if_pos c168] at H
                                      have c168b0 := eq_true c168
                                      have c168b1 : decide (0 ≤ (ji167)) = true := decide_eq_true c168
                                      clear c168
                                      obtain ⟨ji169, hji169⟩ : ∃ j_ : Int, (shl .u8 1 (ji167)) = j_ := ⟨_, rfl⟩
                                      replace H : ((frame_Next.f (y268.set ((ji164) : Int).toNat (Go.bits .xor .u8 (rd y268 (ji164)) (ji169)))).bind fun bt281 => (if t243 = true then (if bt281.2.2 = 6 then (if (bt281.1.length : Int) = 0 then (some (bt281.2.1 == 0)) else (some false)) else (some false)) else (some false))) = some r := by first | (rw [hji169] at H; exact H) | (simp only [hji169] at H ⊢; exact H)
                                      have hji169_ : (IntKind.u8.wrap (1 * 2 ^ min (ji167).toNat 8)) = ji169 := hji169
                                      have hji169z : (ji167) ≤ 8 → (IntKind.u8.wrap (1 * 2 ^ (ji167).toNat)) = ji169 := shl_small hji169
                                      have hji169u : (IntKind.u8.wrap (2 ^ min (ji167).toNat 8)) = ji169 := by have h_ := hji169_; rw [Int.one_mul] at h_; exact h_
                                      have hji169v : (ji167) ≤ 8 → (IntKind.u8.wrap (2 ^ (ji167).toNat)) = ji169 := fun hle_ => by have h_ := hji169z hle_; rw [Int.one_mul] at h_; exact h_
                                      have hji169l : (2 ^ ((ji167)).toNat % 256) = ji169 := by have h_ := hji169u; rw [IntKind.wrap_u8, pow_min8] at h_; exact h_
                                      obtain ⟨y280, hy280⟩ : ∃ y_ : List Int, y_ = (y268.set ((ji164) : Int).toNat (Go.bits .xor .u8 (rd y268 (ji164)) (ji169))) := ⟨_, rfl⟩
                                      replace H : ((frame_Next.f y280).bind fun bt281 => (if t243 = true then (if bt281.2.2 = 6 then (if (bt281.1.length : Int) = 0 then (some (bt281.2.1 == 0)) else (some false)) else (some false)) else (some false))) = some r := by first | (rw [hy280]; with_reducible exact H) | (have H2_ := (Option.bind_some _ _).symm.trans H; rw [hy280]; with_reducible exact H2_) | (have H2_ := (Option.bind_some _ _).symm.trans H; with_reducible exact H2_) | with_reducible exact H | (rw [hy280]; exact H) | exact H
                                      have Ny280 := Aside0.mk hy280
                                      clear hy280
                                      replace H := Option.bind_eq_some_iff.mp H
                                      obtain ⟨⟨t281, t282, t283⟩, A1710, H⟩ := H
                                      replace H : (if t243 = true then (if t283 = 6 then (if (t281.length : Int) = 0 then (some (t282 == 0)) else (some false)) else (some false)) else (some false)) = some r := H
                                      have A171 := Aside0.mk A1710
                                      clear A1710
                                      by_cases c172 : t243 = true
                                      · subst c172
                                        have H1 : (if t283 = 6 then (if (t281.length : Int) = 0 then (some (t282 == 0)) else (some false)) else (some false)) = some r := by rw [if_pos rfl] at H; exact H
                                        clear H
                                        have H := H1
                                        clear H1
                                        by_cases c173 : t283 = 6
                                        · rw [if_pos c173] at H
                                          have c173b0 : (t283 == 6) = true := beq_iff_eq.mpr c173
                                          have c173b1 : (t283 != 6) = false := bne_eq_false_iff_eq.mpr c173
                                          clear c173
                                          by_cases c174 : (t281.length : Int) = 0
                                          · rw [if_pos c174] at H
                                            have c174b0 : ((t281.length : Int) == 0) = true := beq_iff_eq.mpr c174
                                            have c174b1 : ((t281.length : Int) != 0) = false := bne_eq_false_iff_eq.mpr c174
                                            clear c174
                                            obtain rfl := Option.some.inj H
                                            have p248 : 0 ≤ ((ji24) : Int) := of_decide_eq_true (by first | (with_reducible assumption) | assumption)
                                            have q248 : (ji24) < (t244.length : Int) := of_decide_eq_true (by first | (with_reducible assumption) | assumption)
                                            obtain ⟨ad248, e248, hx248_0⟩ := Kd.at_int (Kd.R_reads' HO_10.out).2.2 (ji24) p248 q248
                                            cases e248
                                            replace p248 := eq_true p248
                                            replace q248 := eq_true q248
                                            have p30 : 0 ≤ ((ji24) : Int) := of_decide_eq_true (by first | (with_reducible assumption) | assumption)
                                            have q30 : ((ji24) : Int) < ((t244.length : Int) : Int) := of_decide_eq_true (by first | (with_reducible assumption) | assumption)
                                            obtain ⟨go30, co30, eo30, gb30, gl30, cl30, HG30⟩ := Kd.R_form HO_10.out (by omega)
                                            (first | cases eo30 | (injection eo30 with ea_ en_ ec_; (first | subst ea_ | (injection ea_ with ea_; subst ea_)); subst ec_; clear en_))
                                            have GB30 := Aside0.mk gb30
                                            have GG30 := Aside0.mk HG30
                                            clear gb30 gl30 HG30
                                            (first | simp only [add_plain] at hx248_0 | skip)
                                            obtain ⟨hx30_0, hf30_0⟩ := Kd.R_celln 0 HO_10.out ((ji24) : Int) p30 q30
                                            replace p30 := eq_true p30
                                            replace q30 := eq_true q30
                                            have HP175 := Kd.R_putg HO_10.out ((ji24) : Int) (Go.bits .xor .u8 (rd t244 (ji24)) (ji29))
                                            go_wp2_with (first | ((with_reducible refine gate_store (t := 5) (p := 92) rfl ?_); refine store_event (t := 5) (p := 92) (v := ?vo_w176) (w1 := (wc.setCell ⟨go30, ((ji24) : Int).toNat, none⟩ (.int .u8 (Go.bits .xor .u8 (rd t244 (ji24)) (ji29))))) ?hg ?ho ?hn ?hr ?_; (case ho => rfl); (case hg => rfl); (case hn => rfl); (case hr => first | (go_simp; done) | (go_simp; rfl)); intro w176 hw; have hg : wc.grownBy w176 (some go30) := (by rw [hw]; exact HP175.2); have hp_ : Kd.R (Kd.int .u8) 5 w176 w.heap.size (fun _ => True) (.slice (some ⟨go30, 0, none⟩) t244.length co10) y249 := (by rw [hw, Ny249.out]; exact HP175.1); clear HP175; have n0_ := Aside0.mk (hp_); have n1_ := Aside0.mk ((by rw [hw]; exact below_set (HB.out) GB30.out : Below w.heap.size w w176)); clear HO_10; clear HB; have HO_10 := n0_; have HB := n1_; clear n0_ n1_; clear hg hw hp_; have p267 : 0 ≤ ((ji103) : Int) := of_decide_eq_true (by first | (with_reducible assumption) | assumption); have q267 : (ji103) < (y249.length : Int) := (by have h_ : ((ji103) : Int) < ((t244.length : Int) : Int) := of_decide_eq_true (by first | (with_reducible assumption) | assumption); first | (have e_ := (Kd.R_reads' HO_10.out).1; omega) | simpa only [Ny249.out, List.length_set] using h_); have ql267 : (((ji103) : Int) < ((t244.length : Int) : Int)) = True := eq_true (of_decide_eq_true (by first | (with_reducible assumption) | assumption)); obtain ⟨ad267, e267, hx267_0⟩ := Kd.at_int (Kd.R_reads' HO_10.out).2.2 (ji103) p267 q267; obtain rfl : (⟨go30, 0, none⟩ : Addr) = ad267 := (by injection e267); (first | simp only [add_plain] at hx267_0 | simp only [add_at] at hx267_0 | simp only [Addr.add, Nat.zero_add] at hx267_0 | skip); replace p267 := eq_true p267; replace q267 := eq_true q267; have p109 : 0 ≤ ((ji103) : Int) := of_decide_eq_true (by first | (with_reducible assumption) | assumption); have q109 : ((ji103) : Int) < ((t244.length : Int) : Int) := of_decide_eq_true (by first | (with_reducible assumption) | assumption); obtain ⟨hx109_0, hf109_0⟩ := Kd.R_celln 0 HO_10.out ((ji103) : Int) p109 q109; replace p109 := eq_true p109; replace q109 := eq_true q109; obtain ⟨hy177_, hz177_⟩ := Kd.R_celln 0 HO_10.out ((ji103) : Int) (of_decide_eq_true (by first | (with_reducible assumption) | assumption)) (of_decide_eq_true (by first | (with_reducible assumption) | assumption)); have HP177 := Kd.R_putg HO_10.out ((ji103) : Int) (Go.bits .xor .u8 (rd y249 (ji103)) (ji108))) | ((with_reducible refine gate_store (t := 5) (p := 109) rfl ?_); refine store_event (t := 5) (p := 109) (v := ?vo_w178) (w1 := (w176.setCell ⟨go30, ((ji103) : Int).toNat, none⟩ (.int .u8 (Go.bits .xor .u8 (rd y249 (ji103)) (ji108))))) ?hg ?ho ?hn ?hr ?_; (case ho => rfl); (case hg => rfl); (case hn => rfl); (case hr => first | (go_simp; done) | (go_simp; rfl)); intro w178 hw; have hg : w176.grownBy w178 (some go30) := (by rw [hw]; exact HP177.2); have hp_ : Kd.R (Kd.int .u8) 5 w178 w.heap.size (fun _ => True) (.slice (some ⟨go30, 0, none⟩) t244.length co10) y268 := (by rw [hw, Ny268.out]; exact HP177.1); clear HP177; have n0_ := Aside0.mk (hp_); have n1_ := Aside0.mk ((by rw [hw]; exact below_set (HB.out) GB30.out : Below w.heap.size w w178)); clear HO_10; clear HB; have HO_10 := n0_; have HB := n1_; clear n0_ n1_; clear hg hw hp_; have p279 : 0 ≤ ((ji164) : Int) := of_decide_eq_true (by first | (with_reducible assumption) | assumption); have q279 : (ji164) < (y268.length : Int) := (by have h_ : ((ji164) : Int) < ((t244.length : Int) : Int) := of_decide_eq_true (by first | (with_reducible assumption) | assumption); first | (have e_ := (Kd.R_reads' HO_10.out).1; omega) | simpa only [Ny249.out, Ny268.out, List.length_set] using h_); have ql279 : (((ji164) : Int) < ((t244.length : Int) : Int)) = True := eq_true (of_decide_eq_true (by first | (with_reducible assumption) | assumption)); obtain ⟨ad279, e279, hx279_0⟩ := Kd.at_int (Kd.R_reads' HO_10.out).2.2 (ji164) p279 q279; obtain rfl : (⟨go30, 0, none⟩ : Addr) = ad279 := (by injection e279); (first | simp only [add_plain] at hx279_0 | simp only [add_at] at hx279_0 | simp only [Addr.add, Nat.zero_add] at hx279_0 | skip); replace p279 := eq_true p279; replace q279 := eq_true q279; have p170 : 0 ≤ ((ji164) : Int) := of_decide_eq_true (by first | (with_reducible assumption) | assumption); have q170 : ((ji164) : Int) < ((t244.length : Int) : Int) := of_decide_eq_true (by first | (with_reducible assumption) | assumption); obtain ⟨hx170_0, hf170_0⟩ := Kd.R_celln 0 HO_10.out ((ji164) : Int) p170 q170; replace p170 := eq_true p170; replace q170 := eq_true q170; obtain ⟨hy179_, hz179_⟩ := Kd.R_celln 0 HO_10.out ((ji164) : Int) (of_decide_eq_true (by first | (with_reducible assumption) | assumption)) (of_decide_eq_true (by first | (with_reducible assumption) | assumption)); have HP179 := Kd.R_putg HO_10.out ((ji164) : Int) (Go.bits .xor .u8 (rd y268 (ji164)) (ji169))) | ((with_reducible refine gate_store (t := 5) (p := 131) rfl ?_); refine store_event (t := 5) (p := 131) (v := ?vo_w180) (w1 := (w178.setCell ⟨go30, ((ji164) : Int).toNat, none⟩ (.int .u8 (Go.bits .xor .u8 (rd y268 (ji164)) (ji169))))) ?hg ?ho ?hn ?hr ?_; (case ho => rfl); (case hg => rfl); (case hn => rfl); (case hr => first | (go_simp; done) | (go_simp; rfl)); intro w180 hw; have hg : w178.grownBy w180 (some go30) := (by rw [hw]; exact HP179.2); have hp_ : Kd.R (Kd.int .u8) 5 w180 w.heap.size (fun _ => True) (.slice (some ⟨go30, 0, none⟩) t244.length co10) y280 := (by rw [hw, Ny280.out]; exact HP179.1); clear HP179; have n0_ := Aside0.mk (hp_); have n1_ := Aside0.mk ((by rw [hw]; exact below_set (HB.out) GB30.out : Below w.heap.size w w180)); clear HO_10; clear HB; have HO_10 := n0_; have HB := n1_; clear n0_ n1_; clear hg hw hp_) | ((with_reducible refine gate_callee (f := 11) rfl ?_); refine goesL_ (some 134) rfl rfl Try.func11 (by kernel_rfl) rfl #[.slice (some ⟨go30, 0, none⟩) y280.length co10] rfl (by (try simp only [List.map_toArray, List.map_cons, List.map_nil]); first | done | (rw [show y280.length = t244.length from (Kd.R_reads' HO_10.out).1.symm] <;> rfl) | rfl | (simp only [List.length_drop, List.length_take]; rfl)) ?_; (with_reducible refine (frame_Next.calls _ _ y280 t281 t282 t283 _ ?side1 ?side2 A171.out).mono ?_); (case side1 => repeat (first | exact (Kd.R_reads' HO_10.out).2.2 | (with_reducible refine Kd.C_alloc ?_ _) | (with_reducible refine Kd.C_drewN ?_ _) | (with_reducible refine Kd.C_drew ?_))); (case side2 => rw [show y280.length = t244.length from (Kd.R_reads' HO_10.out).1.symm]; exact (Kd.R_reads' HO_10.out).2.1); rintro e w181 ⟨v284, rfl, ho0, hb⟩; refine ⟨_, rfl, ?_⟩; have n0_ := Aside0.mk (Kd.R_elder' (by (with_reducible repeat (first | apply Kd.R_alloc | apply Kd.R_drewN | apply Kd.R_drew)); exact HO_10.out) (Kd.R_base ho0) hb); have n1_ := Aside0.mk (Kd.R_lower (Kd.R_new' ho0 (Kd.R_lt (by (with_reducible repeat (first | apply Kd.R_alloc | apply Kd.R_drewN | apply Kd.R_drew)); exact HO_10.out))) (below_size (by repeat (first | (with_reducible first | exact HB.out | apply below_alloc | apply pw_below_drewN | apply below_drew1) | exact HB.out)))); have n2_ := Aside0.mk (below_step (by repeat (first | (with_reducible first | exact HB.out | apply below_alloc | apply pw_below_drewN | apply below_drew1) | exact HB.out)) hb); clear HO_10; clear HB; have HO_10 := n0_; have HO285 := n1_; have HB := n2_; clear n0_ n1_ n2_; (try clear hb); (try clear hb2); (try clear hk); (try clear hi); (try clear ho0); obtain ⟨Ao182, co182, eo182⟩ := Kd.R_slice HO285.out; subst eo182))
                                            go_ret
                                            exact ⟨by first | rfl | (simp [errW_none, errW_some] <;> rfl) | (simp only [← hji24, ← hji27, ← hji29, ← hji103, ← hji106, ← hji108, ← hji164, ← hji167, ← hji169]; first | rfl | (simp [errW_none, errW_some] <;> rfl)) | (simp [*, errW_none, errW_some] <;> rfl), by repeat (first | (with_reducible first | exact HB.out | apply below_alloc | apply pw_below_drewN | apply below_drew1) | exact HB.out)⟩
                                          · rw [if_neg c174] at H
                                            have c174b0 : ((t281.length : Int) == 0) = false := beq_eq_false_iff_ne.mpr c174
                                            have c174b1 : ((t281.length : Int) != 0) = true := bne_iff_ne.mpr c174
                                            have c174b2 : ¬ (t281 = []) := fun h_ => c174 (by rw [h_]; rfl)
                                            obtain rfl := Option.some.inj H
                                            have p248 : 0 ≤ ((ji24) : Int) := of_decide_eq_true (by first | (with_reducible assumption) | assumption)
                                            have q248 : (ji24) < (t244.length : Int) := of_decide_eq_true (by first | (with_reducible assumption) | assumption)
                                            obtain ⟨ad248, e248, hx248_0⟩ := Kd.at_int (Kd.R_reads' HO_10.out).2.2 (ji24) p248 q248
                                            cases e248
                                            replace p248 := eq_true p248
                                            replace q248 := eq_true q248
                                            have p30 : 0 ≤ ((ji24) : Int) := of_decide_eq_true (by first | (with_reducible assumption) | assumption)
                                            have q30 : ((ji24) : Int) < ((t244.length : Int) : Int) := of_decide_eq_true (by first | (with_reducible assumption) | assumption)
                                            obtain ⟨go30, co30, eo30, gb30, gl30, cl30, HG30⟩ := Kd.R_form HO_10.out (by omega)
                                            (first | cases eo30 | (injection eo30 with ea_ en_ ec_; (first | subst ea_ | (injection ea_ with ea_; subst ea_)); subst ec_; clear en_))
                                            have GB30 := Aside0.mk gb30
                                            have GG30 := Aside0.mk HG30
                                            clear gb30 gl30 HG30
                                            (first | simp only [add_plain] at hx248_0 | skip)
                                            obtain ⟨hx30_0, hf30_0⟩ := Kd.R_celln 0 HO_10.out ((ji24) : Int) p30 q30
                                            replace p30 := eq_true p30
                                            replace q30 := eq_true q30
                                            have HP183 := Kd.R_putg HO_10.out ((ji24) : Int) (Go.bits .xor .u8 (rd t244 (ji24)) (ji29))
                                            go_wp2_with (first | ((with_reducible refine gate_store (t := 5) (p := 92) rfl ?_); refine store_event (t := 5) (p := 92) (v := ?vo_w184) (w1 := (wc.setCell ⟨go30, ((ji24) : Int).toNat, none⟩ (.int .u8 (Go.bits .xor .u8 (rd t244 (ji24)) (ji29))))) ?hg ?ho ?hn ?hr ?_; (case ho => rfl); (case hg => rfl); (case hn => rfl); (case hr => first | (go_simp; done) | (go_simp; rfl)); intro w184 hw; have hg : wc.grownBy w184 (some go30) := (by rw [hw]; exact HP183.2); have hp_ : Kd.R (Kd.int .u8) 5 w184 w.heap.size (fun _ => True) (.slice (some ⟨go30, 0, none⟩) t244.length co10) y249 := (by rw [hw, Ny249.out]; exact HP183.1); clear HP183; have n0_ := Aside0.mk (hp_); have n1_ := Aside0.mk ((by rw [hw]; exact below_set (HB.out) GB30.out : Below w.heap.size w w184)); clear HO_10; clear HB; have HO_10 := n0_; have HB := n1_; clear n0_ n1_; clear hg hw hp_; have p267 : 0 ≤ ((ji103) : Int) := of_decide_eq_true (by first | (with_reducible assumption) | assumption); have q267 : (ji103) < (y249.length : Int) := (by have h_ : ((ji103) : Int) < ((t244.length : Int) : Int) := of_decide_eq_true (by first | (with_reducible assumption) | assumption); first | (have e_ := (Kd.R_reads' HO_10.out).1; omega) | simpa only [Ny249.out, List.length_set] using h_); have ql267 : (((ji103) : Int) < ((t244.length : Int) : Int)) = True := eq_true (of_decide_eq_true (by first | (with_reducible assumption) | assumption)); obtain ⟨ad267, e267, hx267_0⟩ := Kd.at_int (Kd.R_reads' HO_10.out).2.2 (ji103) p267 q267; obtain rfl : (⟨go30, 0, none⟩ : Addr) = ad267 := (by injection e267); (first | simp only [add_plain] at hx267_0 | simp only [add_at] at hx267_0 | simp only [Addr.add, Nat.zero_add] at hx267_0 | skip); replace p267 := eq_true p267; replace q267 := eq_true q267; have p109 : 0 ≤ ((ji103) : Int) := of_decide_eq_true (by first | (with_reducible assumption) | assumption); have q109 : ((ji103) : Int) < ((t244.length : Int) : Int) := of_decide_eq_true (by first | (with_reducible assumption) | assumption); obtain ⟨hx109_0, hf109_0⟩ := Kd.R_celln 0 HO_10.out ((ji103) : Int) p109 q109; replace p109 := eq_true p109; replace q109 := eq_true q109; obtain ⟨hy185_, hz185_⟩ := Kd.R_celln 0 HO_10.out ((ji103) : Int) (of_decide_eq_true (by first | (with_reducible assumption) | assumption)) (of_decide_eq_true (by first | (with_reducible assumption) | assumption)); have HP185 := Kd.R_putg HO_10.out ((ji103) : Int) (Go.bits .xor .u8 (rd y249 (ji103)) (ji108))) | ((with_reducible refine gate_store (t := 5) (p := 109) rfl ?_); refine store_event (t := 5) (p := 109) (v := ?vo_w186) (w1 := (w184.setCell ⟨go30, ((ji103) : Int).toNat, none⟩ (.int .u8 (Go.bits .xor .u8 (rd y249 (ji103)) (ji108))))) ?hg ?ho ?hn ?hr ?_; (case ho => rfl); (case hg => rfl); (case hn => rfl); (case hr => first | (go_simp; done) | (go_simp; rfl)); intro w186 hw; have hg : w184.grownBy w186 (some go30) := (by rw [hw]; exact HP185.2); have hp_ : Kd.R (Kd.int .u8) 5 w186 w.heap.size (fun _ => True) (.slice (some ⟨go30, 0, none⟩) t244.length co10) y268 := (by rw [hw, Ny268.out]; exact HP185.1); clear HP185; have n0_ := Aside0.mk (hp_); have n1_ := Aside0.mk ((by rw [hw]; exact below_set (HB.out) GB30.out : Below w.heap.size w w186)); clear HO_10; clear HB; have HO_10 := n0_; have HB := n1_; clear n0_ n1_; clear hg hw hp_; have p279 : 0 ≤ ((ji164) : Int) := of_decide_eq_true (by first | (with_reducible assumption) | assumption); have q279 : (ji164) < (y268.length : Int) := (by have h_ : ((ji164) : Int) < ((t244.length : Int) : Int) := of_decide_eq_true (by first | (with_reducible assumption) | assumption); first | (have e_ := (Kd.R_reads' HO_10.out).1; omega) | simpa only [Ny249.out, Ny268.out, List.length_set] using h_); have ql279 : (((ji164) : Int) < ((t244.length : Int) : Int)) = True := eq_true (of_decide_eq_true (by first | (with_reducible assumption) | assumption)); obtain ⟨ad279, e279, hx279_0⟩ := Kd.at_int (Kd.R_reads' HO_10.out).2.2 (ji164) p279 q279; obtain rfl : (⟨go30, 0, none⟩ : Addr) = ad279 := (by injection e279); (first | simp only [add_plain] at hx279_0 | simp only [add_at] at hx279_0 | simp only [Addr.add, Nat.zero_add] at hx279_0 | skip); replace p279 := eq_true p279; replace q279 := eq_true q279; have p170 : 0 ≤ ((ji164) : Int) := of_decide_eq_true (by first | (with_reducible assumption) | assumption); have q170 : ((ji164) : Int) < ((t244.length : Int) : Int) := of_decide_eq_true (by first | (with_reducible assumption) | assumption); obtain ⟨hx170_0, hf170_0⟩ := Kd.R_celln 0 HO_10.out ((ji164) : Int) p170 q170; replace p170 := eq_true p170; replace q170 := eq_true q170; obtain ⟨hy187_, hz187_⟩ := Kd.R_celln 0 HO_10.out ((ji164) : Int) (of_decide_eq_true (by first | (with_reducible assumption) | assumption)) (of_decide_eq_true (by first | (with_reducible assumption) | assumption)); have HP187 := Kd.R_putg HO_10.out ((ji164) : Int) (Go.bits .xor .u8 (rd y268 (ji164)) (ji169))) | ((with_reducible refine gate_store (t := 5) (p := 131) rfl ?_); refine store_event (t := 5) (p := 131) (v := ?vo_w188) (w1 := (w186.setCell ⟨go30, ((ji164) : Int).toNat, none⟩ (.int .u8 (Go.bits .xor .u8 (rd y268 (ji164)) (ji169))))) ?hg ?ho ?hn ?hr ?_; (case ho => rfl); (case hg => rfl); (case hn => rfl); (case hr => first | (go_simp; done) | (go_simp; rfl)); intro w188 hw; have hg : w186.grownBy w188 (some go30) := (by rw [hw]; exact HP187.2); have hp_ : Kd.R (Kd.int .u8) 5 w188 w.heap.size (fun _ => True) (.slice (some ⟨go30, 0, none⟩) t244.length co10) y280 := (by rw [hw, Ny280.out]; exact HP187.1); clear HP187; have n0_ := Aside0.mk (hp_); have n1_ := Aside0.mk ((by rw [hw]; exact below_set (HB.out) GB30.out : Below w.heap.size w w188)); clear HO_10; clear HB; have HO_10 := n0_; have HB := n1_; clear n0_ n1_; clear hg hw hp_) | ((with_reducible refine gate_callee (f := 11) rfl ?_); refine goesL_ (some 134) rfl rfl Try.func11 (by kernel_rfl) rfl #[.slice (some ⟨go30, 0, none⟩) y280.length co10] rfl (by (try simp only [List.map_toArray, List.map_cons, List.map_nil]); first | done | (rw [show y280.length = t244.length from (Kd.R_reads' HO_10.out).1.symm] <;> rfl) | rfl | (simp only [List.length_drop, List.length_take]; rfl)) ?_; (with_reducible refine (frame_Next.calls _ _ y280 t281 t282 t283 _ ?side1 ?side2 A171.out).mono ?_); (case side1 => repeat (first | exact (Kd.R_reads' HO_10.out).2.2 | (with_reducible refine Kd.C_alloc ?_ _) | (with_reducible refine Kd.C_drewN ?_ _) | (with_reducible refine Kd.C_drew ?_))); (case side2 => rw [show y280.length = t244.length from (Kd.R_reads' HO_10.out).1.symm]; exact (Kd.R_reads' HO_10.out).2.1); rintro e w189 ⟨v284, rfl, ho0, hb⟩; refine ⟨_, rfl, ?_⟩; have n0_ := Aside0.mk (Kd.R_elder' (by (with_reducible repeat (first | apply Kd.R_alloc | apply Kd.R_drewN | apply Kd.R_drew)); exact HO_10.out) (Kd.R_base ho0) hb); have n1_ := Aside0.mk (Kd.R_lower (Kd.R_new' ho0 (Kd.R_lt (by (with_reducible repeat (first | apply Kd.R_alloc | apply Kd.R_drewN | apply Kd.R_drew)); exact HO_10.out))) (below_size (by repeat (first | (with_reducible first | exact HB.out | apply below_alloc | apply pw_below_drewN | apply below_drew1) | exact HB.out)))); have n2_ := Aside0.mk (below_step (by repeat (first | (with_reducible first | exact HB.out | apply below_alloc | apply pw_below_drewN | apply below_drew1) | exact HB.out)) hb); clear HO_10; clear HB; have HO_10 := n0_; have HO285 := n1_; have HB := n2_; clear n0_ n1_ n2_; (try clear hb); (try clear hb2); (try clear hk); (try clear hi); (try clear ho0); obtain ⟨Ao190, co190, eo190⟩ := Kd.R_slice HO285.out; subst eo190))
                                            go_ret
                                            exact ⟨by first | rfl | (simp [errW_none, errW_some] <;> rfl) | (simp only [← hji24, ← hji27, ← hji29, ← hji103, ← hji106, ← hji108, ← hji164, ← hji167, ← hji169]; first | rfl | (simp [errW_none, errW_some] <;> rfl)) | (simp [*, errW_none, errW_some] <;> rfl), by repeat (first | (with_reducible first | exact HB.out | apply below_alloc | apply pw_below_drewN | apply below_drew1) | exact HB.out)⟩
                                        · rw [if_neg c173] at H
                                          have c173b0 : (t283 == 6) = false := beq_eq_false_iff_ne.mpr c173
                                          have c173b1 : (t283 != 6) = true := bne_iff_ne.mpr c173
                                          obtain rfl := Option.some.inj H
                                          have p248 : 0 ≤ ((ji24) : Int) := of_decide_eq_true (by first | (with_reducible assumption) | assumption)
                                          have q248 : (ji24) < (t244.length : Int) := of_decide_eq_true (by first | (with_reducible assumption) | assumption)
                                          obtain ⟨ad248, e248, hx248_0⟩ := Kd.at_int (Kd.R_reads' HO_10.out).2.2 (ji24) p248 q248
                                          cases e248
                                          replace p248 := eq_true p248
                                          replace q248 := eq_true q248
                                          have p30 : 0 ≤ ((ji24) : Int) := of_decide_eq_true (by first | (with_reducible assumption) | assumption)
                                          have q30 : ((ji24) : Int) < ((t244.length : Int) : Int) := of_decide_eq_true (by first | (with_reducible assumption) | assumption)
                                          obtain ⟨go30, co30, eo30, gb30, gl30, cl30, HG30⟩ := Kd.R_form HO_10.out (by omega)
                                          (first | cases eo30 | (injection eo30 with ea_ en_ ec_; (first | subst ea_ | (injection ea_ with ea_; subst ea_)); subst ec_; clear en_))
                                          have GB30 := Aside0.mk gb30
                                          have GG30 := Aside0.mk HG30
                                          clear gb30 gl30 HG30
                                          (first | simp only [add_plain] at hx248_0 | skip)
                                          obtain ⟨hx30_0, hf30_0⟩ := Kd.R_celln 0 HO_10.out ((ji24) : Int) p30 q30
                                          replace p30 := eq_true p30
                                          replace q30 := eq_true q30
                                          have HP191 := Kd.R_putg HO_10.out ((ji24) : Int) (Go.bits .xor .u8 (rd t244 (ji24)) (ji29))
                                          go_wp2_with (first | ((with_reducible refine gate_store (t := 5) (p := 92) rfl ?_); refine store_event (t := 5) (p := 92) (v := ?vo_w192) (w1 := (wc.setCell ⟨go30, ((ji24) : Int).toNat, none⟩ (.int .u8 (Go.bits .xor .u8 (rd t244 (ji24)) (ji29))))) ?hg ?ho ?hn ?hr ?_; (case ho => rfl); (case hg => rfl); (case hn => rfl); (case hr => first | (go_simp; done) | (go_simp; rfl)); intro w192 hw; have hg : wc.grownBy w192 (some go30) := (by rw [hw]; exact HP191.2); have hp_ : Kd.R (Kd.int .u8) 5 w192 w.heap.size (fun _ => True) (.slice (some ⟨go30, 0, none⟩) t244.length co10) y249 := (by rw [hw, Ny249.out]; exact HP191.1); clear HP191; have n0_ := Aside0.mk (hp_); have n1_ := Aside0.mk ((by rw [hw]; exact below_set (HB.out) GB30.out : Below w.heap.size w w192)); clear HO_10; clear HB; have HO_10 := n0_; have HB := n1_; clear n0_ n1_; clear hg hw hp_; have p267 : 0 ≤ ((ji103) : Int) := of_decide_eq_true (by first | (with_reducible assumption) | assumption); have q267 : (ji103) < (y249.length : Int) := (by have h_ : ((ji103) : Int) < ((t244.length : Int) : Int) := of_decide_eq_true (by first | (with_reducible assumption) | assumption); first | (have e_ := (Kd.R_reads' HO_10.out).1; omega) | simpa only [Ny249.out, List.length_set] using h_); have ql267 : (((ji103) : Int) < ((t244.length : Int) : Int)) = True := eq_true (of_decide_eq_true (by first | (with_reducible assumption) | assumption)); obtain ⟨ad267, e267, hx267_0⟩ := Kd.at_int (Kd.R_reads' HO_10.out).2.2 (ji103) p267 q267; obtain rfl : (⟨go30, 0, none⟩ : Addr) = ad267 := (by injection e267); (first | simp only [add_plain] at hx267_0 | simp only [add_at] at hx267_0 | simp only [Addr.add, Nat.zero_add] at hx267_0 | skip); replace p267 := eq_true p267; replace q267 := eq_true q267; have p109 : 0 ≤ ((ji103) : Int) := of_decide_eq_true (by first | (with_reducible assumption) | assumption); have q109 : ((ji103) : Int) < ((t244.length : Int) : Int) := of_decide_eq_true (by first | (with_reducible assumption) | assumption); obtain ⟨hx109_0, hf109_0⟩ := Kd.R_celln 0 HO_10.out ((ji103) : Int) p109 q109; replace p109 := eq_true p109; replace q109 := eq_true q109; obtain ⟨hy193_, hz193_⟩ := Kd.R_celln 0 HO_10.out ((ji103) : Int) (of_decide_eq_true (by first | (with_reducible assumption) | assumption)) (of_decide_eq_true (by first | (with_reducible assumption) | assumption)); have HP193 := Kd.R_putg HO_10.out ((ji103) : Int) (Go.bits .xor .u8 (rd y249 (ji103)) (ji108))) | ((with_reducible refine gate_store (t := 5) (p := 109) rfl ?_); refine store_event (t := 5) (p := 109) (v := ?vo_w194) (w1 := (w192.setCell ⟨go30, ((ji103) : Int).toNat, none⟩ (.int .u8 (Go.bits .xor .u8 (rd y249 (ji103)) (ji108))))) ?hg ?ho ?hn ?hr ?_; (case ho => rfl); (case hg => rfl); (case hn => rfl); (case hr => first | (go_simp; done) | (go_simp; rfl)); intro w194 hw; have hg : w192.grownBy w194 (some go30) := (by rw [hw]; exact HP193.2); have hp_ : Kd.R (Kd.int .u8) 5 w194 w.heap.size (fun _ => True) (.slice (some ⟨go30, 0, none⟩) t244.length co10) y268 := (by rw [hw, Ny268.out]; exact HP193.1); clear HP193; have n0_ := Aside0.mk (hp_); have n1_ := Aside0.mk ((by rw [hw]; exact below_set (HB.out) GB30.out : Below w.heap.size w w194)); clear HO_10; clear HB; have HO_10 := n0_; have HB := n1_; clear n0_ n1_; clear hg hw hp_; have p279 : 0 ≤ ((ji164) : Int) := of_decide_eq_true (by first | (with_reducible assumption) | assumption); have q279 : (ji164) < (y268.length : Int) := (by have h_ : ((ji164) : Int) < ((t244.length : Int) : Int) := of_decide_eq_true (by first | (with_reducible assumption) | assumption); first | (have e_ := (Kd.R_reads' HO_10.out).1; omega) | simpa only [Ny249.out, Ny268.out, List.length_set] using h_); have ql279 : (((ji164) : Int) < ((t244.length : Int) : Int)) = True := eq_true (of_decide_eq_true (by first | (with_reducible assumption) | assumption)); obtain ⟨ad279, e279, hx279_0⟩ := Kd.at_int (Kd.R_reads' HO_10.out).2.2 (ji164) p279 q279; obtain rfl : (⟨go30, 0, none⟩ : Addr) = ad279 := (by injection e279); (first | simp only [add_plain] at hx279_0 | simp only [add_at] at hx279_0 | simp only [Addr.add, Nat.zero_add] at hx279_0 | skip); replace p279 := eq_true p279; replace q279 := eq_true q279; have p170 : 0 ≤ ((ji164) : Int) := of_decide_eq_true (by first | (with_reducible assumption) | assumption); have q170 : ((ji164) : Int) < ((t244.length : Int) : Int) := of_decide_eq_true (by first | (with_reducible assumption) | assumption); obtain ⟨hx170_0, hf170_0⟩ := Kd.R_celln 0 HO_10.out ((ji164) : Int) p170 q170; replace p170 := eq_true p170; replace q170 := eq_true q170; obtain ⟨hy195_, hz195_⟩ := Kd.R_celln 0 HO_10.out ((ji164) : Int) (of_decide_eq_true (by first | (with_reducible assumption) | assumption)) (of_decide_eq_true (by first | (with_reducible assumption) | assumption)); have HP195 := Kd.R_putg HO_10.out ((ji164) : Int) (Go.bits .xor .u8 (rd y268 (ji164)) (ji169))) | ((with_reducible refine gate_store (t := 5) (p := 131) rfl ?_); refine store_event (t := 5) (p := 131) (v := ?vo_w196) (w1 := (w194.setCell ⟨go30, ((ji164) : Int).toNat, none⟩ (.int .u8 (Go.bits .xor .u8 (rd y268 (ji164)) (ji169))))) ?hg ?ho ?hn ?hr ?_; (case ho => rfl); (case hg => rfl); (case hn => rfl); (case hr => first | (go_simp; done) | (go_simp; rfl)); intro w196 hw; have hg : w194.grownBy w196 (some go30) := (by rw [hw]; exact HP195.2); have hp_ : Kd.R (Kd.int .u8) 5 w196 w.heap.size (fun _ => True) (.slice (some ⟨go30, 0, none⟩) t244.length co10) y280 := (by rw [hw, Ny280.out]; exact HP195.1); clear HP195; have n0_ := Aside0.mk (hp_); have n1_ := Aside0.mk ((by rw [hw]; exact below_set (HB.out) GB30.out : Below w.heap.size w w196)); clear HO_10; clear HB; have HO_10 := n0_; have HB := n1_; clear n0_ n1_; clear hg hw hp_) | ((with_reducible refine gate_callee (f := 11) rfl ?_); refine goesL_ (some 134) rfl rfl Try.func11 (by kernel_rfl) rfl #[.slice (some ⟨go30, 0, none⟩) y280.length co10] rfl (by (try simp only [List.map_toArray, List.map_cons, List.map_nil]); first | done | (rw [show y280.length = t244.length from (Kd.R_reads' HO_10.out).1.symm] <;> rfl) | rfl | (simp only [List.length_drop, List.length_take]; rfl)) ?_; (with_reducible refine (frame_Next.calls _ _ y280 t281 t282 t283 _ ?side1 ?side2 A171.out).mono ?_); (case side1 => repeat (first | exact (Kd.R_reads' HO_10.out).2.2 | (with_reducible refine Kd.C_alloc ?_ _) | (with_reducible refine Kd.C_drewN ?_ _) | (with_reducible refine Kd.C_drew ?_))); (case side2 => rw [show y280.length = t244.length from (Kd.R_reads' HO_10.out).1.symm]; exact (Kd.R_reads' HO_10.out).2.1); rintro e w197 ⟨v284, rfl, ho0, hb⟩; refine ⟨_, rfl, ?_⟩; have n0_ := Aside0.mk (Kd.R_elder' (by (with_reducible repeat (first | apply Kd.R_alloc | apply Kd.R_drewN | apply Kd.R_drew)); exact HO_10.out) (Kd.R_base ho0) hb); have n1_ := Aside0.mk (Kd.R_lower (Kd.R_new' ho0 (Kd.R_lt (by (with_reducible repeat (first | apply Kd.R_alloc | apply Kd.R_drewN | apply Kd.R_drew)); exact HO_10.out))) (below_size (by repeat (first | (with_reducible first | exact HB.out | apply below_alloc | apply pw_below_drewN | apply below_drew1) | exact HB.out)))); have n2_ := Aside0.mk (below_step (by repeat (first | (with_reducible first | exact HB.out | apply below_alloc | apply pw_below_drewN | apply below_drew1) | exact HB.out)) hb); clear HO_10; clear HB; have HO_10 := n0_; have HO285 := n1_; have HB := n2_; clear n0_ n1_ n2_; (try clear hb); (try clear hb2); (try clear hk); (try clear hi); (try clear ho0)))
                                          go_ret
                                          exact ⟨by first | rfl | (simp [errW_none, errW_some] <;> rfl) | (simp only [← hji24, ← hji27, ← hji29, ← hji103, ← hji106, ← hji108, ← hji164, ← hji167, ← hji169]; first | rfl | (simp [errW_none, errW_some] <;> rfl)) | (simp [*, errW_none, errW_some] <;> rfl), by repeat (first | (with_reducible first | exact HB.out | apply below_alloc | apply pw_below_drewN | apply below_drew1) | exact HB.out)⟩
                                      · replace c172 := Bool.eq_false_iff.mpr c172
                                        subst c172
                                        have H1 : (some false) = some r := by rw [if_neg (show ¬ (false = true) by decide)] at H; exact H
                                        clear H
                                        have H := H1
                                        clear H1
                                        obtain rfl := Option.some.inj H
                                        have p248 : 0 ≤ ((ji24) : Int) := of_decide_eq_true (by first | (with_reducible assumption) | assumption)
                                        have q248 : (ji24) < (t244.length : Int) := of_decide_eq_true (by first | (with_reducible assumption) | assumption)
                                        obtain ⟨ad248, e248, hx248_0⟩ := Kd.at_int (Kd.R_reads' HO_10.out).2.2 (ji24) p248 q248
                                        cases e248
                                        replace p248 := eq_true p248
                                        replace q248 := eq_true q248
                                        have p30 : 0 ≤ ((ji24) : Int) := of_decide_eq_true (by first | (with_reducible assumption) | assumption)
                                        have q30 : ((ji24) : Int) < ((t244.length : Int) : Int) := of_decide_eq_true (by first | (with_reducible assumption) | assumption)
                                        obtain ⟨go30, co30, eo30, gb30, gl30, cl30, HG30⟩ := Kd.R_form HO_10.out (by omega)
                                        (first | cases eo30 | (injection eo30 with ea_ en_ ec_; (first | subst ea_ | (injection ea_ with ea_; subst ea_)); subst ec_; clear en_))
                                        have GB30 := Aside0.mk gb30
                                        have GG30 := Aside0.mk HG30
                                        clear gb30 gl30 HG30
                                        (first | simp only [add_plain] at hx248_0 | skip)
                                        obtain ⟨hx30_0, hf30_0⟩ := Kd.R_celln 0 HO_10.out ((ji24) : Int) p30 q30
                                        replace p30 := eq_true p30
                                        replace q30 := eq_true q30
                                        have HP198 := Kd.R_putg HO_10.out ((ji24) : Int) (Go.bits .xor .u8 (rd t244 (ji24)) (ji29))
                                        go_wp2_with (first | ((with_reducible refine gate_store (t := 5) (p := 92) rfl ?_); refine store_event (t := 5) (p := 92) (v := ?vo_w199) (w1 := (wc.setCell ⟨go30, ((ji24) : Int).toNat, none⟩ (.int .u8 (Go.bits .xor .u8 (rd t244 (ji24)) (ji29))))) ?hg ?ho ?hn ?hr ?_; (case ho => rfl); (case hg => rfl); (case hn => rfl); (case hr => first | (go_simp; done) | (go_simp; rfl)); intro w199 hw; have hg : wc.grownBy w199 (some go30) := (by rw [hw]; exact HP198.2); have hp_ : Kd.R (Kd.int .u8) 5 w199 w.heap.size (fun _ => True) (.slice (some ⟨go30, 0, none⟩) t244.length co10) y249 := (by rw [hw, Ny249.out]; exact HP198.1); clear HP198; have n0_ := Aside0.mk (hp_); have n1_ := Aside0.mk ((by rw [hw]; exact below_set (HB.out) GB30.out : Below w.heap.size w w199)); clear HO_10; clear HB; have HO_10 := n0_; have HB := n1_; clear n0_ n1_; clear hg hw hp_; have p267 : 0 ≤ ((ji103) : Int) := of_decide_eq_true (by first | (with_reducible assumption) | assumption); have q267 : (ji103) < (y249.length : Int) := (by have h_ : ((ji103) : Int) < ((t244.length : Int) : Int) := of_decide_eq_true (by first | (with_reducible assumption) | assumption); first | (have e_ := (Kd.R_reads' HO_10.out).1; omega) | simpa only [Ny249.out, List.length_set] using h_); have ql267 : (((ji103) : Int) < ((t244.length : Int) : Int)) = True := eq_true (of_decide_eq_true (by first | (with_reducible assumption) | assumption)); obtain ⟨ad267, e267, hx267_0⟩ := Kd.at_int (Kd.R_reads' HO_10.out).2.2 (ji103) p267 q267; obtain rfl : (⟨go30, 0, none⟩ : Addr) = ad267 := (by injection e267); (first | simp only [add_plain] at hx267_0 | simp only [add_at] at hx267_0 | simp only [Addr.add, Nat.zero_add] at hx267_0 | skip); replace p267 := eq_true p267; replace q267 := eq_true q267; have p109 : 0 ≤ ((ji103) : Int) := of_decide_eq_true (by first | (with_reducible assumption) | assumption); have q109 : ((ji103) : Int) < ((t244.length : Int) : Int) := of_decide_eq_true (by first | (with_reducible assumption) | assumption); obtain ⟨hx109_0, hf109_0⟩ := Kd.R_celln 0 HO_10.out ((ji103) : Int) p109 q109; replace p109 := eq_true p109; replace q109 := eq_true q109; obtain ⟨hy200_, hz200_⟩ := Kd.R_celln 0 HO_10.out ((ji103) : Int) (of_decide_eq_true (by first | (with_reducible assumption) | assumption)) (of_decide_eq_true (by first | (with_reducible assumption) | assumption)); have HP200 := Kd.R_putg HO_10.out ((ji103) : Int) (Go.bits .xor .u8 (rd y249 (ji103)) (ji108))) | ((with_reducible refine gate_store (t := 5) (p := 109) rfl ?_); refine store_event (t := 5) (p := 109) (v := ?vo_w201) (w1 := (w199.setCell ⟨go30, ((ji103) : Int).toNat, none⟩ (.int .u8 (Go.bits .xor .u8 (rd y249 (ji103)) (ji108))))) ?hg ?ho ?hn ?hr ?_; (case ho => rfl); (case hg => rfl); (case hn => rfl); (case hr => first | (go_simp; done) | (go_simp; rfl)); intro w201 hw; have hg : w199.grownBy w201 (some go30) := (by rw [hw]; exact HP200.2); have hp_ : Kd.R (Kd.int .u8) 5 w201 w.heap.size (fun _ => True) (.slice (some ⟨go30, 0, none⟩) t244.length co10) y268 := (by rw [hw, Ny268.out]; exact HP200.1); clear HP200; have n0_ := Aside0.mk (hp_); have n1_ := Aside0.mk ((by rw [hw]; exact below_set (HB.out) GB30.out : Below w.heap.size w w201)); clear HO_10; clear HB; have HO_10 := n0_; have HB := n1_; clear n0_ n1_; clear hg hw hp_; have p279 : 0 ≤ ((ji164) : Int) := of_decide_eq_true (by first | (with_reducible assumption) | assumption); have q279 : (ji164) < (y268.length : Int) := (by have h_ : ((ji164) : Int) < ((t244.length : Int) : Int) := of_decide_eq_true (by first | (with_reducible assumption) | assumption); first | (have e_ := (Kd.R_reads' HO_10.out).1; omega) | simpa only [Ny249.out, Ny268.out, List.length_set] using h_); have ql279 : (((ji164) : Int) < ((t244.length : Int) : Int)) = True := eq_true (of_decide_eq_true (by first | (with_reducible assumption) | assumption)); obtain ⟨ad279, e279, hx279_0⟩ := Kd.at_int (Kd.R_reads' HO_10.out).2.2 (ji164) p279 q279; obtain rfl : (⟨go30, 0, none⟩ : Addr) = ad279 := (by injection e279); (first | simp only [add_plain] at hx279_0 | simp only [add_at] at hx279_0 | simp only [Addr.add, Nat.zero_add] at hx279_0 | skip); replace p279 := eq_true p279; replace q279 := eq_true q279; have p170 : 0 ≤ ((ji164) : Int) := of_decide_eq_true (by first | (with_reducible assumption) | assumption); have q170 : ((ji164) : Int) < ((t244.length : Int) : Int) := of_decide_eq_true (by first | (with_reducible assumption) | assumption); obtain ⟨hx170_0, hf170_0⟩ := Kd.R_celln 0 HO_10.out ((ji164) : Int) p170 q170; replace p170 := eq_true p170; replace q170 := eq_true q170; obtain ⟨hy202_, hz202_⟩ := Kd.R_celln 0 HO_10.out ((ji164) : Int) (of_decide_eq_true (by first | (with_reducible assumption) | assumption)) (of_decide_eq_true (by first | (with_reducible assumption) | assumption)); have HP202 := Kd.R_putg HO_10.out ((ji164) : Int) (Go.bits .xor .u8 (rd y268 (ji164)) (ji169))) | ((with_reducible refine gate_store (t := 5) (p := 131) rfl ?_); refine store_event (t := 5) (p := 131) (v := ?vo_w203) (w1 := (w201.setCell ⟨go30, ((ji164) : Int).toNat, none⟩ (.int .u8 (Go.bits .xor .u8 (rd y268 (ji164)) (ji169))))) ?hg ?ho ?hn ?hr ?_; (case ho => rfl); (case hg => rfl); (case hn => rfl); (case hr => first | (go_simp; done) | (go_simp; rfl)); intro w203 hw; have hg : w201.grownBy w203 (some go30) := (by rw [hw]; exact HP202.2); have hp_ : Kd.R (Kd.int .u8) 5 w203 w.heap.size (fun _ => True) (.slice (some ⟨go30, 0, none⟩) t244.length co10) y280 := (by rw [hw, Ny280.out]; exact HP202.1); clear HP202; have n0_ := Aside0.mk (hp_); have n1_ := Aside0.mk ((by rw [hw]; exact below_set (HB.out) GB30.out : Below w.heap.size w w203)); clear HO_10; clear HB; have HO_10 := n0_; have HB := n1_; clear n0_ n1_; clear hg hw hp_) | ((with_reducible refine gate_callee (f := 11) rfl ?_); refine goesL_ (some 134) rfl rfl Try.func11 (by kernel_rfl) rfl #[.slice (some ⟨go30, 0, none⟩) y280.length co10] rfl (by (try simp only [List.map_toArray, List.map_cons, List.map_nil]); first | done | (rw [show y280.length = t244.length from (Kd.R_reads' HO_10.out).1.symm] <;> rfl) | rfl | (simp only [List.length_drop, List.length_take]; rfl)) ?_; (with_reducible refine (frame_Next.calls _ _ y280 t281 t282 t283 _ ?side1 ?side2 A171.out).mono ?_); (case side1 => repeat (first | exact (Kd.R_reads' HO_10.out).2.2 | (with_reducible refine Kd.C_alloc ?_ _) | (with_reducible refine Kd.C_drewN ?_ _) | (with_reducible refine Kd.C_drew ?_))); (case side2 => rw [show y280.length = t244.length from (Kd.R_reads' HO_10.out).1.symm]; exact (Kd.R_reads' HO_10.out).2.1); rintro e w204 ⟨v284, rfl, ho0, hb⟩; refine ⟨_, rfl, ?_⟩; have n0_ := Aside0.mk (Kd.R_elder' (by (with_reducible repeat (first | apply Kd.R_alloc | apply Kd.R_drewN | apply Kd.R_drew)); exact HO_10.out) (Kd.R_base ho0) hb); have n1_ := Aside0.mk (Kd.R_lower (Kd.R_new' ho0 (Kd.R_lt (by (with_reducible repeat (first | apply Kd.R_alloc | apply Kd.R_drewN | apply Kd.R_drew)); exact HO_10.out))) (below_size (by repeat (first | (with_reducible first | exact HB.out | apply below_alloc | apply pw_below_drewN | apply below_drew1) | exact HB.out)))); have n2_ := Aside0.mk (below_step (by repeat (first | (with_reducible first | exact HB.out | apply below_alloc | apply pw_below_drewN | apply below_drew1) | exact HB.out)) hb); clear HO_10; clear HB; have HO_10 := n0_; have HO285 := n1_; have HB := n2_; clear n0_ n1_ n2_; (try clear hb); (try clear hb2); (try clear hk); (try clear hi); (try clear ho0)))
                                        go_ret
                                        exact ⟨by first | rfl | (simp [errW_none, errW_some] <;> rfl) | (simp only [← hji24, ← hji27, ← hji29, ← hji103, ← hji106, ← hji108, ← hji164, ← hji167, ← hji169]; first | rfl | (simp [errW_none, errW_some] <;> rfl)) | (simp [*, errW_none, errW_some] <;> rfl), by repeat (first | (with_reducible first | exact HB.out | apply below_alloc | apply pw_below_drewN | apply below_drew1) | exact HB.out)⟩
                                    · rw [if_neg c168] at H
                                      exact absurd H (by simp)
                                  · rw [if_neg c166] at H
                                    exact absurd H (by simp)
                                · rw [if_neg c165] at H
                                  exact absurd H (by simp)
                          · rw [if_neg c107] at H
                            exact absurd H (by simp)
                        · rw [if_neg c105] at H
                          exact absurd H (by simp)
                      · rw [if_neg c104] at H
                        exact absurd H (by simp)
                  · rw [if_neg c28] at H
                    exact absurd H (by simp)
                · rw [if_neg c26] at H
                  exact absurd H (by simp)
              · rw [if_neg c25] at H
                exact absurd H (by simp)

/-- THE ONE PURE STATEMENT of rosettelaw03_FrameTurned: yours. -/
def rosettelaw03_FrameTurned.Pure : Prop := ∀ (l0 : List Int) (a1 : Int) (a2 : Int) (a3 : Int), l0.length ≤ maxLen → l0.length * 1 ≤ 140737488351232 → (∀ x ∈ l0, (Lit.int .u8 x).wf = true) → (Lit.int .i64 a1).wf = true → (Lit.int .i64 a2).wf = true → (Lit.int .i64 a3).wf = true → ∃ k, rosettelaw03_FrameTurned.f k l0 a1 a2 a3 = some true
theorem rosettelaw03_FrameTurned.walk (P : rosettelaw03_FrameTurned.Pure) (a0 : Option Addr) (len0 cap0 : Nat) (z0 : List Int) (a1 : Int) (a2 : Int) (a3 : Int) (w : World) (w0 : (a0 = none ∧ len0 = 0 ∧ cap0 = 0 ∧ z0 = []) ∨ ∃ x, a0 = some x ∧ len0 ≤ cap0 ∧ cap0 ≤ maxLen ∧ z0.length = cap0 ∧ (∀ i, i < z0.length → w.cell? (x.add i) = some (.int .u8 (z0.getD i 0))) ∧ ∀ n ∈ z0, (Lit.int .u8 n).wf = true) (y0 : len0 * 1 ≤ 140737488351232) (w1 : (Lit.int .i64 a1).wf = true) (w2 : (Lit.int .i64 a2).wf = true) (w3 : (Lit.int .i64 a3).wf = true) :
    Calls Try.prog 5 #[.slice a0 len0 cap0, .int .i64 a1, .int .i64 a2, .int .i64 a3] w fun e w' => e = .returned (.bool true) ∧ Below w.heap.size w w' := by
  obtain ⟨l0, rfl, hr0, hm0, hw0, hc0⟩ := ReadsInt.ofRowC w0
  obtain ⟨k, h⟩ := P l0 a1 a2 a3 hm0 y0 hw0 w1 w2 w3
  refine (rosettelaw03_FrameTurned.calls k _ _ l0 a1 a2 a3 true w (Kd.C_of_reads (d := (0 : Int)) (h1 := fun _ => rfl) hr0) hc0 h).mono ?_
  rintro e w' ⟨rfl, hd⟩
  exact ⟨rfl, hd⟩

end Go.Proofs.Ytckjmbpagippkaa.G
