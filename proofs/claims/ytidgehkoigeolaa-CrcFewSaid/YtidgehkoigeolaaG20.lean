-- Written by a program of this session (wip/tools/myprint.py), over the kit's print.
import Derived.Test.YtidgehkoigeolaaG0
import Derived.Test.YtidgehkoigeolaaG4
import Derived.Test.YtidgehkoigeolaaG7
import Derived.Test.YtidgehkoigeolaaG8
namespace Go.Proofs.Ytidgehkoigeolaa.G
open Go.RowKit Go.Proofs.YtidgehkoigeolaaW.PrintWords Go.Proofs.YtidgehkoigeolaaW.PrintLast Go.Proofs.YtidgehkoigeolaaW.PrintMore
attribute [local go_sem] max2_int min2_int max_two min_two max_three min_three max_four min_four   -- for this text's walks alone
set_option linter.unusedVariables false
set_option linter.unusedSimpArgs false

/-! ### rosettelaw01_CrcFew: function 7 -/
def rosettelaw01_CrcFew.j0 : Nat → List Int → Int → Int → Int → Bool → List Int → Bool → Option (Bool)
  | 0, _, _, _, _, _, _, _ => none
  | k + 1, x0, x1, x2, x3, x9, x10, x49 => if x49 = true then (some x9) else (if (x10.length : Int) = (wrap64 ((x0.length : Int) + 4)) then (if 0 ≤ (wrap64 (Int.tdiv x1 8)) then (if (wrap64 (Int.tdiv x1 8)) < (x10.length : Int) then (if 0 ≤ (IntKind.u64.wrap (Int.tmod x1 8)) then ((some (x10.set ((wrap64 (Int.tdiv x1 8)) : Int).toNat (Go.bits .xor .u8 (rd x10 (wrap64 (Int.tdiv x1 8))) (shl .u8 1 (IntKind.u64.wrap (Int.tmod x1 8)))) : List Int)).bind fun y187 => (if x2 = x1 then (if x3 = x1 then ((crc_Open.f y187).bind fun bt188 => (if x9 = true then (some (!bt188.2)) else (some false))) else (if x3 = x2 then ((crc_Open.f y187).bind fun bt192 => (if x9 = true then (some (!bt192.2)) else (some false))) else (if 0 ≤ (wrap64 (Int.tdiv x3 8)) then (if (wrap64 (Int.tdiv x3 8)) < (x10.length : Int) then (if 0 ≤ (IntKind.u64.wrap (Int.tmod x3 8)) then ((crc_Open.f (y187.set ((wrap64 (Int.tdiv x3 8)) : Int).toNat (Go.bits .xor .u8 (rd y187 (wrap64 (Int.tdiv x3 8))) (shl .u8 1 (IntKind.u64.wrap (Int.tmod x3 8)))))).bind fun bt198 => (if x9 = true then (some (!bt198.2)) else (some false))) else (none)) else (none)) else (none)))) else (if 0 ≤ (wrap64 (Int.tdiv x2 8)) then (if (wrap64 (Int.tdiv x2 8)) < (x10.length : Int) then (if 0 ≤ (IntKind.u64.wrap (Int.tmod x2 8)) then ((some (y187.set ((wrap64 (Int.tdiv x2 8)) : Int).toNat (Go.bits .xor .u8 (rd y187 (wrap64 (Int.tdiv x2 8))) (shl .u8 1 (IntKind.u64.wrap (Int.tmod x2 8)))) : List Int)).bind fun y203 => (if x3 = x1 then ((crc_Open.f y203).bind fun bt204 => (if x9 = true then (some (!bt204.2)) else (some false))) else (if x3 = x2 then ((crc_Open.f y203).bind fun bt208 => (if x9 = true then (some (!bt208.2)) else (some false))) else (if 0 ≤ (wrap64 (Int.tdiv x3 8)) then (if (wrap64 (Int.tdiv x3 8)) < (x10.length : Int) then (if 0 ≤ (IntKind.u64.wrap (Int.tmod x3 8)) then ((crc_Open.f (y203.set ((wrap64 (Int.tdiv x3 8)) : Int).toNat (Go.bits .xor .u8 (rd y203 (wrap64 (Int.tdiv x3 8))) (shl .u8 1 (IntKind.u64.wrap (Int.tmod x3 8)))))).bind fun bt214 => (if x9 = true then (some (!bt214.2)) else (some false))) else (none)) else (none)) else (none))))) else (none)) else (none)) else (none)))) else (none)) else (none)) else (none)) else (some false))
def rosettelaw01_CrcFew.f (k : Nat) (l0 : List Int) (a1 : Int) (a2 : Int) (a3 : Int) : Option (Bool) := (rosettelaw01_small.f).bind fun t182 => ((crc_Seal.f l0).bind fun t183 => (if (l0.length : Int) > 1000 then (rosettelaw01_CrcFew.j0 k l0 a1 a2 a3 t182 t183 true) else (if a1 < 0 then (rosettelaw01_CrcFew.j0 k l0 a1 a2 a3 t182 t183 true) else (if a1 ≥ (wrap64 (8 * (t183.length : Int))) then (rosettelaw01_CrcFew.j0 k l0 a1 a2 a3 t182 t183 true) else (if a2 < 0 then (rosettelaw01_CrcFew.j0 k l0 a1 a2 a3 t182 t183 true) else (if a2 ≥ (wrap64 (8 * (t183.length : Int))) then (rosettelaw01_CrcFew.j0 k l0 a1 a2 a3 t182 t183 true) else (if a3 < 0 then (rosettelaw01_CrcFew.j0 k l0 a1 a2 a3 t182 t183 true) else (rosettelaw01_CrcFew.j0 k l0 a1 a2 a3 t182 t183 (decide (a3 ≥ (wrap64 (8 * (t183.length : Int)))))))))))))
theorem rosettelaw01_CrcFew.mono_l : ∀ k, (∀ y0 y1 y2 y3 y4 y5 y6, LeO (rosettelaw01_CrcFew.j0 k y0 y1 y2 y3 y4 y5 y6) (rosettelaw01_CrcFew.j0 (k + 1) y0 y1 y2 y3 y4 y5 y6))
  | 0 => fun _ _ _ _ _ _ _ r h => by simp [rosettelaw01_CrcFew.j0] at h
  | k + 1 => by
    have ih0 := rosettelaw01_CrcFew.mono_l k
    · intro y0 y1 y2 y3 y4 y5 y6
      unfold rosettelaw01_CrcFew.j0
      repeat' first
      | (with_reducible exact ih0 _ _ _ _ _ _ _)
      | (with_reducible exact LeO.refl _)
      | (with_reducible exact LeO.none _)
      | (with_reducible refine LeO.ite ?_ ?_)
      | (with_reducible refine LeO.bind ?_ (fun _ => ?_))
      | exact ih0 _ _ _ _ _ _ _
      | exact LeO.none _
      | refine LeO.ite ?_ ?_
      | refine LeO.bind ?_ (fun _ => ?_)
theorem rosettelaw01_CrcFew.mono : ∀ a0 a1 a2 a3 k, LeO (rosettelaw01_CrcFew.f k a0 a1 a2 a3) (rosettelaw01_CrcFew.f (k + 1) a0 a1 a2 a3) := by
  intro a0 a1 a2 a3 k
  have ih0 := rosettelaw01_CrcFew.mono_l k
  unfold rosettelaw01_CrcFew.f
  repeat' first
      | (with_reducible exact ih0 _ _ _ _ _ _ _)
      | (with_reducible exact LeO.refl _)
      | (with_reducible exact LeO.none _)
      | (with_reducible refine LeO.ite ?_ ?_)
      | (with_reducible refine LeO.bind ?_ (fun _ => ?_))
      | exact ih0 _ _ _ _ _ _ _
      | exact LeO.none _
      | refine LeO.ite ?_ ?_
      | refine LeO.bind ?_ (fun _ => ?_)
set_option maxHeartbeats 8000000 in
set_option maxRecDepth 100000 in
theorem rosettelaw01_CrcFew.calls (k : Nat) (A0 : Option Addr) (c0 : Nat) (l0 : List Int) (a1 : Int) (a2 : Int) (a3 : Int) (r : Bool) (w : World) (hr0 : Kd.C (Kd.int .u8) w A0 l0.length l0) (hc0 : l0.length ≤ c0) (h : rosettelaw01_CrcFew.f k l0 a1 a2 a3 = some r) :
    Calls Try.prog 7 #[.slice A0 l0.length c0, .int .i64 a1, .int .i64 a2, .int .i64 a3] w fun e w' => e = .returned (.bool r) ∧ Below w.heap.size w w' := by
  have HR0 := Aside0.mk hr0
  have HC0 := Aside0.mk hc0
  clear hr0 hc0
  have HB := Aside0.mk (Below.refl w.heap.size w)
  have H : ((rosettelaw01_small.f).bind fun t182 => ((crc_Seal.f l0).bind fun t183 => (if (l0.length : Int) > 1000 then (rosettelaw01_CrcFew.j0 k l0 a1 a2 a3 t182 t183 true) else (if a1 < 0 then (rosettelaw01_CrcFew.j0 k l0 a1 a2 a3 t182 t183 true) else (if a1 ≥ (wrap64 (8 * (t183.length : Int))) then (rosettelaw01_CrcFew.j0 k l0 a1 a2 a3 t182 t183 true) else (if a2 < 0 then (rosettelaw01_CrcFew.j0 k l0 a1 a2 a3 t182 t183 true) else (if a2 ≥ (wrap64 (8 * (t183.length : Int))) then (rosettelaw01_CrcFew.j0 k l0 a1 a2 a3 t182 t183 true) else (if a3 < 0 then (rosettelaw01_CrcFew.j0 k l0 a1 a2 a3 t182 t183 true) else (rosettelaw01_CrcFew.j0 k l0 a1 a2 a3 t182 t183 (decide (a3 ≥ (wrap64 (8 * (t183.length : Int)))))))))))))) = some r := h
  clear h
  replace H := Option.bind_eq_some_iff.mp H
  obtain ⟨t182, A50, H⟩ := H
  replace H : ((crc_Seal.f l0).bind fun t183 => (if (l0.length : Int) > 1000 then (rosettelaw01_CrcFew.j0 k l0 a1 a2 a3 t182 t183 true) else (if a1 < 0 then (rosettelaw01_CrcFew.j0 k l0 a1 a2 a3 t182 t183 true) else (if a1 ≥ (wrap64 (8 * (t183.length : Int))) then (rosettelaw01_CrcFew.j0 k l0 a1 a2 a3 t182 t183 true) else (if a2 < 0 then (rosettelaw01_CrcFew.j0 k l0 a1 a2 a3 t182 t183 true) else (if a2 ≥ (wrap64 (8 * (t183.length : Int))) then (rosettelaw01_CrcFew.j0 k l0 a1 a2 a3 t182 t183 true) else (if a3 < 0 then (rosettelaw01_CrcFew.j0 k l0 a1 a2 a3 t182 t183 true) else (rosettelaw01_CrcFew.j0 k l0 a1 a2 a3 t182 t183 (decide (a3 ≥ (wrap64 (8 * (t183.length : Int))))))))))))) = some r := H
  have A5 := Aside0.mk A50
  clear A50
  replace H := Option.bind_eq_some_iff.mp H
  obtain ⟨t183, A60, H⟩ := H
  replace H : (if (l0.length : Int) > 1000 then (rosettelaw01_CrcFew.j0 k l0 a1 a2 a3 t182 t183 true) else (if a1 < 0 then (rosettelaw01_CrcFew.j0 k l0 a1 a2 a3 t182 t183 true) else (if a1 ≥ (wrap64 (8 * (t183.length : Int))) then (rosettelaw01_CrcFew.j0 k l0 a1 a2 a3 t182 t183 true) else (if a2 < 0 then (rosettelaw01_CrcFew.j0 k l0 a1 a2 a3 t182 t183 true) else (if a2 ≥ (wrap64 (8 * (t183.length : Int))) then (rosettelaw01_CrcFew.j0 k l0 a1 a2 a3 t182 t183 true) else (if a3 < 0 then (rosettelaw01_CrcFew.j0 k l0 a1 a2 a3 t182 t183 true) else (rosettelaw01_CrcFew.j0 k l0 a1 a2 a3 t182 t183 (decide (a3 ≥ (wrap64 (8 * (t183.length : Int)))))))))))) = some r := H
  have A6 := Aside0.mk A60
  clear A60
  have HC7 := Aside0.mk H
  clear H
  go_enter Try.func7, Try.ntmps7
  go_upto_region 4 with (first | ((with_reducible refine gate_callee (f := 9) rfl ?_); refine goesL_ (some 14) rfl rfl Try.func9 (by kernel_rfl) rfl #[] rfl (by (try simp only [List.map_toArray, List.map_cons, List.map_nil]); first | done | rfl | (simp only [List.length_drop, List.length_take]; rfl)) ?_; (with_reducible refine (rosettelaw01_small.calls  t182 _ A5.out).mono ?_); rintro e w8 ⟨rfl, hb⟩; refine ⟨_, rfl, ?_⟩; have n0_ := Aside0.mk (below_step (by repeat (first | (with_reducible first | exact HB.out | apply below_alloc | apply pw_below_drewN | apply below_drew1) | exact HB.out)) hb); clear HB; have HB := n0_; clear n0_; (try clear hb); (try clear hb2); (try clear hk); (try clear hi)) | ((with_reducible refine gate_callee (f := 10) rfl ?_); refine goesL_ (some 16) rfl rfl Try.func10 (by kernel_rfl) rfl #[.slice A0 l0.length c0] rfl (by (try simp only [List.map_toArray, List.map_cons, List.map_nil]); first | done | rfl | (simp only [List.length_drop, List.length_take]; rfl)) ?_; (with_reducible refine (crc_Seal.calls _ _ l0 t183 _ ?side1 ?side2 A6.out).mono ?_); (case side1 => repeat (first | exact (Kd.C_below HR0.out HB.out) | (with_reducible refine Kd.C_alloc ?_ _) | (with_reducible refine Kd.C_drewN ?_ _) | (with_reducible refine Kd.C_drew ?_))); (case side2 => exact HC0.out); rintro e w9 ⟨v184, rfl, ho0, hb⟩; refine ⟨_, rfl, ?_⟩; have n0_ := Aside0.mk (Kd.R_lower ho0 (below_size (by repeat (first | (with_reducible first | exact HB.out | apply below_alloc | apply pw_below_drewN | apply below_drew1) | exact HB.out)))); have n1_ := Aside0.mk (below_step (by repeat (first | (with_reducible first | exact HB.out | apply below_alloc | apply pw_below_drewN | apply below_drew1) | exact HB.out)) hb); clear HB; have HO185 := n0_; have HB := n1_; clear n0_ n1_; (try clear hb); (try clear hb2); (try clear hk); (try clear hi); (try clear ho0); obtain ⟨Ao10, co10, eo10⟩ := Kd.R_slice HO185.out; subst eo10))
  (try simp only [Act.put, List.setIfInBounds_toArray, List.set_cons_zero, List.set_cons_succ])
  go_cut [49] (fun v49 wc => ∃ (kq : Nat) (x49_6 : Bool), v49 = .bool x49_6 ∧ Aside0 (rosettelaw01_CrcFew.j0 kq l0 a1 a2 a3 t182 t183 x49_6 = some r) ∧ Aside0 (kq ≤ k) ∧ Aside0 (Kd.R (Kd.int .u8) 5 wc w.heap.size (fun _ => True) (.slice Ao10 t183.length co10) t183) ∧ Aside0 (Below w.heap.size w wc))
  case first =>
    have H := HC7.out
    clear HC7
    by_cases c11 : (l0.length : Int) > 1000
    · rw [if_pos c11] at H
      have c11b0 : decide (1000 < (l0.length : Int)) = true := decide_eq_true c11
      have c11b1 : decide (1000 < l0.length) = true := decide_eq_true (by omega)
      clear c11
      (first | rw [c11b0] | (simp only [i64_w, i32_w]; rw [c11b0]) | skip)
      have H' := Aside0.mk H
      clear H
      go_wp2
      go_meet
      case rel => exact ⟨_, (true), (by first | rfl | (simp; done) | (simp [*]; done)), H', ⟨by first | omega | exact Nat.le_refl _⟩, ⟨by (with_reducible repeat (first | apply Kd.R_alloc | apply Kd.R_drewN | apply Kd.R_drew)); exact HO185.out⟩, ⟨by repeat (first | (with_reducible first | exact HB.out | apply below_alloc | apply pw_below_drewN | apply below_drew1) | exact HB.out)⟩⟩
    · rw [if_neg c11] at H
      have c11b0 : decide (1000 < (l0.length : Int)) = false := decide_eq_false c11
      have c11b1 : decide (1000 < l0.length) = false := decide_eq_false (by omega)
      clear c11
      (first | rw [c11b0] | (simp only [i64_w, i32_w]; rw [c11b0]) | skip)
      by_cases c12 : a1 < 0
      · rw [if_pos c12] at H
        have c12b0 : decide (a1 < 0) = true := decide_eq_true c12
        clear c12
        have H' := Aside0.mk H
        clear H
        go_wp2
        go_meet
        case rel => exact ⟨_, (true), (by first | rfl | (simp; done) | (simp [*]; done)), H', ⟨by first | omega | exact Nat.le_refl _⟩, ⟨by (with_reducible repeat (first | apply Kd.R_alloc | apply Kd.R_drewN | apply Kd.R_drew)); exact HO185.out⟩, ⟨by repeat (first | (with_reducible first | exact HB.out | apply below_alloc | apply pw_below_drewN | apply below_drew1) | exact HB.out)⟩⟩
      · rw [if_neg c12] at H
        have c12b0 : decide (a1 < 0) = false := decide_eq_false c12
        clear c12
        by_cases c13 : a1 ≥ (wrap64 (8 * (t183.length : Int)))
        · rw [if_pos c13] at H
          have c13b0 : decide ((wrap64 (8 * (t183.length : Int))) ≤ a1) = true := decide_eq_true c13
          clear c13
          have H' := Aside0.mk H
          clear H
          go_wp2
          go_meet
          case rel => exact ⟨_, (true), (by first | rfl | (simp; done) | (simp [*]; done)), H', ⟨by first | omega | exact Nat.le_refl _⟩, ⟨by (with_reducible repeat (first | apply Kd.R_alloc | apply Kd.R_drewN | apply Kd.R_drew)); exact HO185.out⟩, ⟨by repeat (first | (with_reducible first | exact HB.out | apply below_alloc | apply pw_below_drewN | apply below_drew1) | exact HB.out)⟩⟩
        · rw [if_neg c13] at H
          have c13b0 : decide ((wrap64 (8 * (t183.length : Int))) ≤ a1) = false := decide_eq_false c13
          clear c13
          by_cases c14 : a2 < 0
          · rw [if_pos c14] at H
            have c14b0 : decide (a2 < 0) = true := decide_eq_true c14
            clear c14
            have H' := Aside0.mk H
            clear H
            go_wp2
            go_meet
            case rel => exact ⟨_, (true), (by first | rfl | (simp; done) | (simp [*]; done)), H', ⟨by first | omega | exact Nat.le_refl _⟩, ⟨by (with_reducible repeat (first | apply Kd.R_alloc | apply Kd.R_drewN | apply Kd.R_drew)); exact HO185.out⟩, ⟨by repeat (first | (with_reducible first | exact HB.out | apply below_alloc | apply pw_below_drewN | apply below_drew1) | exact HB.out)⟩⟩
          · rw [if_neg c14] at H
            have c14b0 : decide (a2 < 0) = false := decide_eq_false c14
            clear c14
            by_cases c15 : a2 ≥ (wrap64 (8 * (t183.length : Int)))
            · rw [if_pos c15] at H
              have c15b0 : decide ((wrap64 (8 * (t183.length : Int))) ≤ a2) = true := decide_eq_true c15
              clear c15
              have H' := Aside0.mk H
              clear H
              go_wp2
              go_meet
              case rel => exact ⟨_, (true), (by first | rfl | (simp; done) | (simp [*]; done)), H', ⟨by first | omega | exact Nat.le_refl _⟩, ⟨by (with_reducible repeat (first | apply Kd.R_alloc | apply Kd.R_drewN | apply Kd.R_drew)); exact HO185.out⟩, ⟨by repeat (first | (with_reducible first | exact HB.out | apply below_alloc | apply pw_below_drewN | apply below_drew1) | exact HB.out)⟩⟩
            · rw [if_neg c15] at H
              have c15b0 : decide ((wrap64 (8 * (t183.length : Int))) ≤ a2) = false := decide_eq_false c15
              clear c15
              by_cases c16 : a3 < 0
              · rw [if_pos c16] at H
                have c16b0 : decide (a3 < 0) = true := decide_eq_true c16
                clear c16
                have H' := Aside0.mk H
                clear H
                go_wp2
                go_meet
                case rel => exact ⟨_, (true), (by first | rfl | (simp; done) | (simp [*]; done)), H', ⟨by first | omega | exact Nat.le_refl _⟩, ⟨by (with_reducible repeat (first | apply Kd.R_alloc | apply Kd.R_drewN | apply Kd.R_drew)); exact HO185.out⟩, ⟨by repeat (first | (with_reducible first | exact HB.out | apply below_alloc | apply pw_below_drewN | apply below_drew1) | exact HB.out)⟩⟩
              · rw [if_neg c16] at H
                have c16b0 : decide (a3 < 0) = false := decide_eq_false c16
                clear c16
                have H' := Aside0.mk H
                clear H
                go_wp2
                go_meet
                case rel => exact ⟨_, (decide (a3 ≥ (wrap64 (8 * (t183.length : Int))))), (by first | rfl | (simp; done) | (simp [*]; done)), H', ⟨by first | omega | exact Nat.le_refl _⟩, ⟨by (with_reducible repeat (first | apply Kd.R_alloc | apply Kd.R_drewN | apply Kd.R_drew)); exact HO185.out⟩, ⟨by repeat (first | (with_reducible first | exact HB.out | apply below_alloc | apply pw_below_drewN | apply below_drew1) | exact HB.out)⟩⟩
  case rest =>
    clear HC7
    try clear c1
    try clear p2
    try clear p6
    try clear c7
    try clear c9
    try clear c10
    try clear c11
    try clear c11b0
    try clear c11b1
    try clear c12
    try clear c12b0
    try clear c13
    try clear c13b0
    try clear c14
    try clear c14b0
    try clear c15
    try clear c15b0
    try clear c16
    try clear c16b0
    obtain ⟨kq, x49_6, rfl, HA, HJ6, HO_10, HB⟩ := hcut
    cases kq with
    | zero => exact absurd HA.out (by simp [rosettelaw01_CrcFew.j0])
    | succ kj6 =>
      have H := HA.out
      clear HA
      simp only [rosettelaw01_CrcFew.j0] at H
      by_cases c17 : x49_6 = true
      · subst c17
        have H1 : (some t182) = some r := by rw [if_pos rfl] at H; exact H
        clear H
        have H := H1
        clear H1
        obtain rfl := Option.some.inj H
        go_wp2
        go_ret
        exact ⟨by first | rfl | (simp [errW_none, errW_some] <;> rfl) | (simp [*, errW_none, errW_some] <;> rfl), by repeat (first | (with_reducible first | exact HB.out | apply below_alloc | apply pw_below_drewN | apply below_drew1) | exact HB.out)⟩
      · replace c17 := Bool.eq_false_iff.mpr c17
        subst c17
        have H1 : (if (t183.length : Int) = (wrap64 ((l0.length : Int) + 4)) then (if 0 ≤ (wrap64 (Int.tdiv a1 8)) then (if (wrap64 (Int.tdiv a1 8)) < (t183.length : Int) then (if 0 ≤ (IntKind.u64.wrap (Int.tmod a1 8)) then ((some (t183.set ((wrap64 (Int.tdiv a1 8)) : Int).toNat (Go.bits .xor .u8 (rd t183 (wrap64 (Int.tdiv a1 8))) (shl .u8 1 (IntKind.u64.wrap (Int.tmod a1 8)))) : List Int)).bind fun y187 => (if a2 = a1 then (if a3 = a1 then ((crc_Open.f y187).bind fun bt188 => (if t182 = true then (some (!bt188.2)) else (some false))) else (if a3 = a2 then ((crc_Open.f y187).bind fun bt192 => (if t182 = true then (some (!bt192.2)) else (some false))) else (if 0 ≤ (wrap64 (Int.tdiv a3 8)) then (if (wrap64 (Int.tdiv a3 8)) < (t183.length : Int) then (if 0 ≤ (IntKind.u64.wrap (Int.tmod a3 8)) then ((crc_Open.f (y187.set ((wrap64 (Int.tdiv a3 8)) : Int).toNat (Go.bits .xor .u8 (rd y187 (wrap64 (Int.tdiv a3 8))) (shl .u8 1 (IntKind.u64.wrap (Int.tmod a3 8)))))).bind fun bt198 => (if t182 = true then (some (!bt198.2)) else (some false))) else (none)) else (none)) else (none)))) else (if 0 ≤ (wrap64 (Int.tdiv a2 8)) then (if (wrap64 (Int.tdiv a2 8)) < (t183.length : Int) then (if 0 ≤ (IntKind.u64.wrap (Int.tmod a2 8)) then ((some (y187.set ((wrap64 (Int.tdiv a2 8)) : Int).toNat (Go.bits .xor .u8 (rd y187 (wrap64 (Int.tdiv a2 8))) (shl .u8 1 (IntKind.u64.wrap (Int.tmod a2 8)))) : List Int)).bind fun y203 => (if a3 = a1 then ((crc_Open.f y203).bind fun bt204 => (if t182 = true then (some (!bt204.2)) else (some false))) else (if a3 = a2 then ((crc_Open.f y203).bind fun bt208 => (if t182 = true then (some (!bt208.2)) else (some false))) else (if 0 ≤ (wrap64 (Int.tdiv a3 8)) then (if (wrap64 (Int.tdiv a3 8)) < (t183.length : Int) then (if 0 ≤ (IntKind.u64.wrap (Int.tmod a3 8)) then ((crc_Open.f (y203.set ((wrap64 (Int.tdiv a3 8)) : Int).toNat (Go.bits .xor .u8 (rd y203 (wrap64 (Int.tdiv a3 8))) (shl .u8 1 (IntKind.u64.wrap (Int.tmod a3 8)))))).bind fun bt214 => (if t182 = true then (some (!bt214.2)) else (some false))) else (none)) else (none)) else (none))))) else (none)) else (none)) else (none)))) else (none)) else (none)) else (none)) else (some false)) = some r := by rw [if_neg (show ¬ (false = true) by decide)] at H; exact H
        clear H
        have H := H1
        clear H1
        by_cases c18 : (t183.length : Int) = (wrap64 ((l0.length : Int) + 4))
        · rw [if_pos c18] at H
          have c18b0 : ((t183.length : Int) == (wrap64 ((l0.length : Int) + 4))) = true := beq_iff_eq.mpr c18
          have c18b1 : ((t183.length : Int) != (wrap64 ((l0.length : Int) + 4))) = false := bne_eq_false_iff_eq.mpr c18
          clear c18
          obtain ⟨ji19, hji19⟩ : ∃ j_ : Int, (wrap64 (Int.tdiv a1 8)) = j_ := ⟨_, rfl⟩
          replace H : (if 0 ≤ (ji19) then (if (ji19) < (t183.length : Int) then (if 0 ≤ (IntKind.u64.wrap (Int.tmod a1 8)) then ((some (t183.set ((ji19) : Int).toNat (Go.bits .xor .u8 (rd t183 (ji19)) (shl .u8 1 (IntKind.u64.wrap (Int.tmod a1 8)))) : List Int)).bind fun y187 => (if a2 = a1 then (if a3 = a1 then ((crc_Open.f y187).bind fun bt188 => (if t182 = true then (some (!bt188.2)) else (some false))) else (if a3 = a2 then ((crc_Open.f y187).bind fun bt192 => (if t182 = true then (some (!bt192.2)) else (some false))) else (if 0 ≤ (wrap64 (Int.tdiv a3 8)) then (if (wrap64 (Int.tdiv a3 8)) < (t183.length : Int) then (if 0 ≤ (IntKind.u64.wrap (Int.tmod a3 8)) then ((crc_Open.f (y187.set ((wrap64 (Int.tdiv a3 8)) : Int).toNat (Go.bits .xor .u8 (rd y187 (wrap64 (Int.tdiv a3 8))) (shl .u8 1 (IntKind.u64.wrap (Int.tmod a3 8)))))).bind fun bt198 => (if t182 = true then (some (!bt198.2)) else (some false))) else (none)) else (none)) else (none)))) else (if 0 ≤ (wrap64 (Int.tdiv a2 8)) then (if (wrap64 (Int.tdiv a2 8)) < (t183.length : Int) then (if 0 ≤ (IntKind.u64.wrap (Int.tmod a2 8)) then ((some (y187.set ((wrap64 (Int.tdiv a2 8)) : Int).toNat (Go.bits .xor .u8 (rd y187 (wrap64 (Int.tdiv a2 8))) (shl .u8 1 (IntKind.u64.wrap (Int.tmod a2 8)))) : List Int)).bind fun y203 => (if a3 = a1 then ((crc_Open.f y203).bind fun bt204 => (if t182 = true then (some (!bt204.2)) else (some false))) else (if a3 = a2 then ((crc_Open.f y203).bind fun bt208 => (if t182 = true then (some (!bt208.2)) else (some false))) else (if 0 ≤ (wrap64 (Int.tdiv a3 8)) then (if (wrap64 (Int.tdiv a3 8)) < (t183.length : Int) then (if 0 ≤ (IntKind.u64.wrap (Int.tmod a3 8)) then ((crc_Open.f (y203.set ((wrap64 (Int.tdiv a3 8)) : Int).toNat (Go.bits .xor .u8 (rd y203 (wrap64 (Int.tdiv a3 8))) (shl .u8 1 (IntKind.u64.wrap (Int.tmod a3 8)))))).bind fun bt214 => (if t182 = true then (some (!bt214.2)) else (some false))) else (none)) else (none)) else (none))))) else (none)) else (none)) else (none)))) else (none)) else (none)) else (none)) = some r := by first | (rw [hji19] at H; exact H) | (simp only [hji19] at H ⊢; exact H)
          have hji19w : (IntKind.i64.wrap (Int.tdiv a1 8)) = ji19 := (i64_w _).trans hji19
          by_cases c20 : 0 ≤ (ji19)
          · rw [if_pos c20] at H
            have c20b0 : decide (0 ≤ (ji19)) = true := decide_eq_true c20
            clear c20
            by_cases c21 : (ji19) < (t183.length : Int)
            · rw [if_pos c21] at H
              have c21b0 : decide ((ji19) < (t183.length : Int)) = true := decide_eq_true c21
              clear c21
              obtain ⟨ji22, hji22⟩ : ∃ j_ : Int, (IntKind.u64.wrap (Int.tmod a1 8)) = j_ := ⟨_, rfl⟩
              replace H : (if 0 ≤ (ji22) then ((some (t183.set ((ji19) : Int).toNat (Go.bits .xor .u8 (rd t183 (ji19)) (shl .u8 1 (ji22))) : List Int)).bind fun y187 => (if a2 = a1 then (if a3 = a1 then ((crc_Open.f y187).bind fun bt188 => (if t182 = true then (some (!bt188.2)) else (some false))) else (if a3 = a2 then ((crc_Open.f y187).bind fun bt192 => (if t182 = true then (some (!bt192.2)) else (some false))) else (if 0 ≤ (wrap64 (Int.tdiv a3 8)) then (if (wrap64 (Int.tdiv a3 8)) < (t183.length : Int) then (if 0 ≤ (IntKind.u64.wrap (Int.tmod a3 8)) then ((crc_Open.f (y187.set ((wrap64 (Int.tdiv a3 8)) : Int).toNat (Go.bits .xor .u8 (rd y187 (wrap64 (Int.tdiv a3 8))) (shl .u8 1 (IntKind.u64.wrap (Int.tmod a3 8)))))).bind fun bt198 => (if t182 = true then (some (!bt198.2)) else (some false))) else (none)) else (none)) else (none)))) else (if 0 ≤ (wrap64 (Int.tdiv a2 8)) then (if (wrap64 (Int.tdiv a2 8)) < (t183.length : Int) then (if 0 ≤ (IntKind.u64.wrap (Int.tmod a2 8)) then ((some (y187.set ((wrap64 (Int.tdiv a2 8)) : Int).toNat (Go.bits .xor .u8 (rd y187 (wrap64 (Int.tdiv a2 8))) (shl .u8 1 (IntKind.u64.wrap (Int.tmod a2 8)))) : List Int)).bind fun y203 => (if a3 = a1 then ((crc_Open.f y203).bind fun bt204 => (if t182 = true then (some (!bt204.2)) else (some false))) else (if a3 = a2 then ((crc_Open.f y203).bind fun bt208 => (if t182 = true then (some (!bt208.2)) else (some false))) else (if 0 ≤ (wrap64 (Int.tdiv a3 8)) then (if (wrap64 (Int.tdiv a3 8)) < (t183.length : Int) then (if 0 ≤ (IntKind.u64.wrap (Int.tmod a3 8)) then ((crc_Open.f (y203.set ((wrap64 (Int.tdiv a3 8)) : Int).toNat (Go.bits .xor .u8 (rd y203 (wrap64 (Int.tdiv a3 8))) (shl .u8 1 (IntKind.u64.wrap (Int.tmod a3 8)))))).bind fun bt214 => (if t182 = true then (some (!bt214.2)) else (some false))) else (none)) else (none)) else (none))))) else (none)) else (none)) else (none)))) else (none)) = some r := by first | (rw [hji22] at H; exact H) | (simp only [hji22] at H ⊢; exact H)
              by_cases c23 : 0 ≤ (ji22)
              · rw [if_pos c23] at H
                have c23b0 := eq_true c23
                have c23b1 : decide (0 ≤ (ji22)) = true := decide_eq_true c23
                clear c23
                obtain ⟨ji24, hji24⟩ : ∃ j_ : Int, (shl .u8 1 (ji22)) = j_ := ⟨_, rfl⟩
                replace H : ((some (t183.set ((ji19) : Int).toNat (Go.bits .xor .u8 (rd t183 (ji19)) (ji24)) : List Int)).bind fun y187 => (if a2 = a1 then (if a3 = a1 then ((crc_Open.f y187).bind fun bt188 => (if t182 = true then (some (!bt188.2)) else (some false))) else (if a3 = a2 then ((crc_Open.f y187).bind fun bt192 => (if t182 = true then (some (!bt192.2)) else (some false))) else (if 0 ≤ (wrap64 (Int.tdiv a3 8)) then (if (wrap64 (Int.tdiv a3 8)) < (t183.length : Int) then (if 0 ≤ (IntKind.u64.wrap (Int.tmod a3 8)) then ((crc_Open.f (y187.set ((wrap64 (Int.tdiv a3 8)) : Int).toNat (Go.bits .xor .u8 (rd y187 (wrap64 (Int.tdiv a3 8))) (shl .u8 1 (IntKind.u64.wrap (Int.tmod a3 8)))))).bind fun bt198 => (if t182 = true then (some (!bt198.2)) else (some false))) else (none)) else (none)) else (none)))) else (if 0 ≤ (wrap64 (Int.tdiv a2 8)) then (if (wrap64 (Int.tdiv a2 8)) < (t183.length : Int) then (if 0 ≤ (IntKind.u64.wrap (Int.tmod a2 8)) then ((some (y187.set ((wrap64 (Int.tdiv a2 8)) : Int).toNat (Go.bits .xor .u8 (rd y187 (wrap64 (Int.tdiv a2 8))) (shl .u8 1 (IntKind.u64.wrap (Int.tmod a2 8)))) : List Int)).bind fun y203 => (if a3 = a1 then ((crc_Open.f y203).bind fun bt204 => (if t182 = true then (some (!bt204.2)) else (some false))) else (if a3 = a2 then ((crc_Open.f y203).bind fun bt208 => (if t182 = true then (some (!bt208.2)) else (some false))) else (if 0 ≤ (wrap64 (Int.tdiv a3 8)) then (if (wrap64 (Int.tdiv a3 8)) < (t183.length : Int) then (if 0 ≤ (IntKind.u64.wrap (Int.tmod a3 8)) then ((crc_Open.f (y203.set ((wrap64 (Int.tdiv a3 8)) : Int).toNat (Go.bits .xor .u8 (rd y203 (wrap64 (Int.tdiv a3 8))) (shl .u8 1 (IntKind.u64.wrap (Int.tmod a3 8)))))).bind fun bt214 => (if t182 = true then (some (!bt214.2)) else (some false))) else (none)) else (none)) else (none))))) else (none)) else (none)) else (none)))) = some r := by first | (rw [hji24] at H; exact H) | (simp only [hji24] at H ⊢; exact H)
                have hji24_ : (IntKind.u8.wrap (1 * 2 ^ min (ji22).toNat 8)) = ji24 := hji24
                have hji24z : (ji22) ≤ 8 → (IntKind.u8.wrap (1 * 2 ^ (ji22).toNat)) = ji24 := shl_small hji24
                have hji24u : (IntKind.u8.wrap (2 ^ min (ji22).toNat 8)) = ji24 := by have h_ := hji24_; rw [Int.one_mul] at h_; exact h_
                have hji24v : (ji22) ≤ 8 → (IntKind.u8.wrap (2 ^ (ji22).toNat)) = ji24 := fun hle_ => by have h_ := hji24z hle_; rw [Int.one_mul] at h_; exact h_
                have hji24l : (2 ^ ((ji22)).toNat % 256) = ji24 := by have h_ := hji24u; rw [IntKind.wrap_u8, pow_min8] at h_; exact h_
                obtain ⟨y187, hy187⟩ : ∃ y_ : List Int, y_ = (t183.set ((ji19) : Int).toNat (Go.bits .xor .u8 (rd t183 (ji19)) (ji24))) := ⟨_, rfl⟩
                replace H : (if a2 = a1 then (if a3 = a1 then ((crc_Open.f y187).bind fun bt188 => (if t182 = true then (some (!bt188.2)) else (some false))) else (if a3 = a2 then ((crc_Open.f y187).bind fun bt192 => (if t182 = true then (some (!bt192.2)) else (some false))) else (if 0 ≤ (wrap64 (Int.tdiv a3 8)) then (if (wrap64 (Int.tdiv a3 8)) < (t183.length : Int) then (if 0 ≤ (IntKind.u64.wrap (Int.tmod a3 8)) then ((crc_Open.f (y187.set ((wrap64 (Int.tdiv a3 8)) : Int).toNat (Go.bits .xor .u8 (rd y187 (wrap64 (Int.tdiv a3 8))) (shl .u8 1 (IntKind.u64.wrap (Int.tmod a3 8)))))).bind fun bt198 => (if t182 = true then (some (!bt198.2)) else (some false))) else (none)) else (none)) else (none)))) else (if 0 ≤ (wrap64 (Int.tdiv a2 8)) then (if (wrap64 (Int.tdiv a2 8)) < (t183.length : Int) then (if 0 ≤ (IntKind.u64.wrap (Int.tmod a2 8)) then ((some (y187.set ((wrap64 (Int.tdiv a2 8)) : Int).toNat (Go.bits .xor .u8 (rd y187 (wrap64 (Int.tdiv a2 8))) (shl .u8 1 (IntKind.u64.wrap (Int.tmod a2 8)))) : List Int)).bind fun y203 => (if a3 = a1 then ((crc_Open.f y203).bind fun bt204 => (if t182 = true then (some (!bt204.2)) else (some false))) else (if a3 = a2 then ((crc_Open.f y203).bind fun bt208 => (if t182 = true then (some (!bt208.2)) else (some false))) else (if 0 ≤ (wrap64 (Int.tdiv a3 8)) then (if (wrap64 (Int.tdiv a3 8)) < (t183.length : Int) then (if 0 ≤ (IntKind.u64.wrap (Int.tmod a3 8)) then ((crc_Open.f (y203.set ((wrap64 (Int.tdiv a3 8)) : Int).toNat (Go.bits .xor .u8 (rd y203 (wrap64 (Int.tdiv a3 8))) (shl .u8 1 (IntKind.u64.wrap (Int.tmod a3 8)))))).bind fun bt214 => (if t182 = true then (some (!bt214.2)) else (some false))) else (none)) else (none)) else (none))))) else (none)) else (none)) else (none))) = some r := by first | (rw [hy187]; with_reducible exact H) | (have H2_ := (Option.bind_some _ _).symm.trans H; rw [hy187]; with_reducible exact H2_) | (have H2_ := (Option.bind_some _ _).symm.trans H; with_reducible exact H2_) | with_reducible exact H | (rw [hy187]; exact H) | exact H
                have Ny187 := Aside0.mk hy187
                clear hy187
                by_cases c26 : a2 = a1
                · rw [if_pos c26] at H
                  have c26b0 : (a2 == a1) = true := beq_iff_eq.mpr c26
                  have c26b1 : (a2 != a1) = false := bne_eq_false_iff_eq.mpr c26
                  clear c26
                  by_cases c27 : a3 = a1
                  · rw [if_pos c27] at H
                    have c27b0 : (a3 == a1) = true := beq_iff_eq.mpr c27
                    have c27b1 : (a3 != a1) = false := bne_eq_false_iff_eq.mpr c27
                    clear c27
                    replace H := Option.bind_eq_some_iff.mp H
                    obtain ⟨⟨t188, t189⟩, A280, H⟩ := H
                    replace H : (if t182 = true then (some (!t189)) else (some false)) = some r := H
                    have A28 := Aside0.mk A280
                    clear A280
                    by_cases c29 : t182 = true
                    · subst c29
                      have H1 : (some (!t189)) = some r := by rw [if_pos rfl] at H; exact H
                      clear H
                      have H := H1
                      clear H1
                      obtain rfl := Option.some.inj H
                      have p186 : 0 ≤ ((ji19) : Int) := of_decide_eq_true (by first | (with_reducible assumption) | assumption)
                      have q186 : (ji19) < (t183.length : Int) := of_decide_eq_true (by first | (with_reducible assumption) | assumption)
                      obtain ⟨ad186, e186, hx186_0⟩ := Kd.at_int (Kd.R_reads' HO_10.out).2.2 (ji19) p186 q186
                      cases e186
                      replace p186 := eq_true p186
                      replace q186 := eq_true q186
                      have p25 : 0 ≤ ((ji19) : Int) := of_decide_eq_true (by first | (with_reducible assumption) | assumption)
                      have q25 : ((ji19) : Int) < ((t183.length : Int) : Int) := of_decide_eq_true (by first | (with_reducible assumption) | assumption)
                      obtain ⟨go25, co25, eo25, gb25, gl25, cl25, HG25⟩ := Kd.R_form HO_10.out (by omega)
                      (first | cases eo25 | (injection eo25 with ea_ en_ ec_; (first | subst ea_ | (injection ea_ with ea_; subst ea_)); subst ec_; clear en_))
                      have GB25 := Aside0.mk gb25
                      have GG25 := Aside0.mk HG25
                      clear gb25 gl25 HG25
                      (first | simp only [add_plain] at hx186_0 | skip)
                      obtain ⟨hx25_0, hf25_0⟩ := Kd.R_celln 0 HO_10.out ((ji19) : Int) p25 q25
                      replace p25 := eq_true p25
                      replace q25 := eq_true q25
                      have HP30 := Kd.R_putg HO_10.out ((ji19) : Int) (Go.bits .xor .u8 (rd t183 (ji19)) (ji24))
                      go_wp2_with (first | ((with_reducible refine gate_store (t := 5) (p := 70) rfl ?_); refine store_event (t := 5) (p := 70) (v := ?vo_w31) (w1 := (wc.setCell ⟨go25, ((ji19) : Int).toNat, none⟩ (.int .u8 (Go.bits .xor .u8 (rd t183 (ji19)) (ji24))))) ?hg ?ho ?hn ?hr ?_; (case ho => rfl); (case hg => rfl); (case hn => rfl); (case hr => first | (go_simp; done) | (go_simp; rfl)); intro w31 hw; have hg : wc.grownBy w31 (some go25) := (by rw [hw]; exact HP30.2); have hp_ : Kd.R (Kd.int .u8) 5 w31 w.heap.size (fun _ => True) (.slice (some ⟨go25, 0, none⟩) t183.length co10) y187 := (by rw [hw, Ny187.out]; exact HP30.1); clear HP30; have n0_ := Aside0.mk (hp_); have n1_ := Aside0.mk ((by rw [hw]; exact below_set (HB.out) GB25.out : Below w.heap.size w w31)); clear HO_10; clear HB; have HO_10 := n0_; have HB := n1_; clear n0_ n1_; clear hg hw hp_) | ((with_reducible refine gate_callee (f := 12) rfl ?_); refine goesL_ (some 112) rfl rfl Try.func12 (by kernel_rfl) rfl #[.slice (some ⟨go25, 0, none⟩) y187.length co10] rfl (by (try simp only [List.map_toArray, List.map_cons, List.map_nil]); first | done | (rw [show y187.length = t183.length from (Kd.R_reads' HO_10.out).1.symm] <;> rfl) | rfl | (simp only [List.length_drop, List.length_take]; rfl)) ?_; (with_reducible refine (crc_Open.calls _ _ y187 t188 t189 _ ?side1 ?side2 A28.out).mono ?_); (case side1 => repeat (first | exact (Kd.R_reads' HO_10.out).2.2 | (with_reducible refine Kd.C_alloc ?_ _) | (with_reducible refine Kd.C_drewN ?_ _) | (with_reducible refine Kd.C_drew ?_))); (case side2 => rw [show y187.length = t183.length from (Kd.R_reads' HO_10.out).1.symm]; exact (Kd.R_reads' HO_10.out).2.1); rintro e w32 ⟨v190, rfl, ho0, hb⟩; refine ⟨_, rfl, ?_⟩; have n0_ := Aside0.mk (Kd.R_elder' (by (with_reducible repeat (first | apply Kd.R_alloc | apply Kd.R_drewN | apply Kd.R_drew)); exact HO_10.out) (Kd.R_base ho0) hb); have n1_ := Aside0.mk (Kd.R_lower (Kd.R_new' ho0 (Kd.R_lt (by (with_reducible repeat (first | apply Kd.R_alloc | apply Kd.R_drewN | apply Kd.R_drew)); exact HO_10.out))) (below_size (by repeat (first | (with_reducible first | exact HB.out | apply below_alloc | apply pw_below_drewN | apply below_drew1) | exact HB.out)))); have n2_ := Aside0.mk (below_step (by repeat (first | (with_reducible first | exact HB.out | apply below_alloc | apply pw_below_drewN | apply below_drew1) | exact HB.out)) hb); clear HO_10; clear HB; have HO_10 := n0_; have HO191 := n1_; have HB := n2_; clear n0_ n1_ n2_; (try clear hb); (try clear hb2); (try clear hk); (try clear hi); (try clear ho0)))
                      go_ret
                      exact ⟨by first | rfl | (simp [errW_none, errW_some] <;> rfl) | (simp only [← hji19, ← hji22, ← hji24]; first | rfl | (simp [errW_none, errW_some] <;> rfl)) | (simp [*, errW_none, errW_some] <;> rfl), by repeat (first | (with_reducible first | exact HB.out | apply below_alloc | apply pw_below_drewN | apply below_drew1) | exact HB.out)⟩
                    · replace c29 := Bool.eq_false_iff.mpr c29
                      subst c29
                      have H1 : (some false) = some r := by rw [if_neg (show ¬ (false = true) by decide)] at H; exact H
                      clear H
                      have H := H1
                      clear H1
                      obtain rfl := Option.some.inj H
                      have p186 : 0 ≤ ((ji19) : Int) := of_decide_eq_true (by first | (with_reducible assumption) | assumption)
                      have q186 : (ji19) < (t183.length : Int) := of_decide_eq_true (by first | (with_reducible assumption) | assumption)
                      obtain ⟨ad186, e186, hx186_0⟩ := Kd.at_int (Kd.R_reads' HO_10.out).2.2 (ji19) p186 q186
                      cases e186
                      replace p186 := eq_true p186
                      replace q186 := eq_true q186
                      have p25 : 0 ≤ ((ji19) : Int) := of_decide_eq_true (by first | (with_reducible assumption) | assumption)
                      have q25 : ((ji19) : Int) < ((t183.length : Int) : Int) := of_decide_eq_true (by first | (with_reducible assumption) | assumption)
                      obtain ⟨go25, co25, eo25, gb25, gl25, cl25, HG25⟩ := Kd.R_form HO_10.out (by omega)
                      (first | cases eo25 | (injection eo25 with ea_ en_ ec_; (first | subst ea_ | (injection ea_ with ea_; subst ea_)); subst ec_; clear en_))
                      have GB25 := Aside0.mk gb25
                      have GG25 := Aside0.mk HG25
                      clear gb25 gl25 HG25
                      (first | simp only [add_plain] at hx186_0 | skip)
                      obtain ⟨hx25_0, hf25_0⟩ := Kd.R_celln 0 HO_10.out ((ji19) : Int) p25 q25
                      replace p25 := eq_true p25
                      replace q25 := eq_true q25
                      have HP33 := Kd.R_putg HO_10.out ((ji19) : Int) (Go.bits .xor .u8 (rd t183 (ji19)) (ji24))
                      go_wp2_with (first | ((with_reducible refine gate_store (t := 5) (p := 70) rfl ?_); refine store_event (t := 5) (p := 70) (v := ?vo_w34) (w1 := (wc.setCell ⟨go25, ((ji19) : Int).toNat, none⟩ (.int .u8 (Go.bits .xor .u8 (rd t183 (ji19)) (ji24))))) ?hg ?ho ?hn ?hr ?_; (case ho => rfl); (case hg => rfl); (case hn => rfl); (case hr => first | (go_simp; done) | (go_simp; rfl)); intro w34 hw; have hg : wc.grownBy w34 (some go25) := (by rw [hw]; exact HP33.2); have hp_ : Kd.R (Kd.int .u8) 5 w34 w.heap.size (fun _ => True) (.slice (some ⟨go25, 0, none⟩) t183.length co10) y187 := (by rw [hw, Ny187.out]; exact HP33.1); clear HP33; have n0_ := Aside0.mk (hp_); have n1_ := Aside0.mk ((by rw [hw]; exact below_set (HB.out) GB25.out : Below w.heap.size w w34)); clear HO_10; clear HB; have HO_10 := n0_; have HB := n1_; clear n0_ n1_; clear hg hw hp_) | ((with_reducible refine gate_callee (f := 12) rfl ?_); refine goesL_ (some 112) rfl rfl Try.func12 (by kernel_rfl) rfl #[.slice (some ⟨go25, 0, none⟩) y187.length co10] rfl (by (try simp only [List.map_toArray, List.map_cons, List.map_nil]); first | done | (rw [show y187.length = t183.length from (Kd.R_reads' HO_10.out).1.symm] <;> rfl) | rfl | (simp only [List.length_drop, List.length_take]; rfl)) ?_; (with_reducible refine (crc_Open.calls _ _ y187 t188 t189 _ ?side1 ?side2 A28.out).mono ?_); (case side1 => repeat (first | exact (Kd.R_reads' HO_10.out).2.2 | (with_reducible refine Kd.C_alloc ?_ _) | (with_reducible refine Kd.C_drewN ?_ _) | (with_reducible refine Kd.C_drew ?_))); (case side2 => rw [show y187.length = t183.length from (Kd.R_reads' HO_10.out).1.symm]; exact (Kd.R_reads' HO_10.out).2.1); rintro e w35 ⟨v190, rfl, ho0, hb⟩; refine ⟨_, rfl, ?_⟩; have n0_ := Aside0.mk (Kd.R_elder' (by (with_reducible repeat (first | apply Kd.R_alloc | apply Kd.R_drewN | apply Kd.R_drew)); exact HO_10.out) (Kd.R_base ho0) hb); have n1_ := Aside0.mk (Kd.R_lower (Kd.R_new' ho0 (Kd.R_lt (by (with_reducible repeat (first | apply Kd.R_alloc | apply Kd.R_drewN | apply Kd.R_drew)); exact HO_10.out))) (below_size (by repeat (first | (with_reducible first | exact HB.out | apply below_alloc | apply pw_below_drewN | apply below_drew1) | exact HB.out)))); have n2_ := Aside0.mk (below_step (by repeat (first | (with_reducible first | exact HB.out | apply below_alloc | apply pw_below_drewN | apply below_drew1) | exact HB.out)) hb); clear HO_10; clear HB; have HO_10 := n0_; have HO191 := n1_; have HB := n2_; clear n0_ n1_ n2_; (try clear hb); (try clear hb2); (try clear hk); (try clear hi); (try clear ho0)))
                      go_ret
                      exact ⟨by first | rfl | (simp [errW_none, errW_some] <;> rfl) | (simp only [← hji19, ← hji22, ← hji24]; first | rfl | (simp [errW_none, errW_some] <;> rfl)) | (simp [*, errW_none, errW_some] <;> rfl), by repeat (first | (with_reducible first | exact HB.out | apply below_alloc | apply pw_below_drewN | apply below_drew1) | exact HB.out)⟩
                  · rw [if_neg c27] at H
                    have c27b0 : (a3 == a1) = false := beq_eq_false_iff_ne.mpr c27
                    have c27b1 : (a3 != a1) = true := bne_iff_ne.mpr c27
                    by_cases c36 : a3 = a2
                    · rw [if_pos c36] at H
                      have c36b0 : (a3 == a2) = true := beq_iff_eq.mpr c36
                      have c36b1 : (a3 != a2) = false := bne_eq_false_iff_eq.mpr c36
                      clear c36
                      replace H := Option.bind_eq_some_iff.mp H
                      obtain ⟨⟨t192, t193⟩, A370, H⟩ := H
                      replace H : (if t182 = true then (some (!t193)) else (some false)) = some r := H
                      have A37 := Aside0.mk A370
                      clear A370
                      by_cases c38 : t182 = true
                      · subst c38
                        have H1 : (some (!t193)) = some r := by rw [if_pos rfl] at H; exact H
                        clear H
                        have H := H1
                        clear H1
                        obtain rfl := Option.some.inj H
                        have p186 : 0 ≤ ((ji19) : Int) := of_decide_eq_true (by first | (with_reducible assumption) | assumption)
                        have q186 : (ji19) < (t183.length : Int) := of_decide_eq_true (by first | (with_reducible assumption) | assumption)
                        obtain ⟨ad186, e186, hx186_0⟩ := Kd.at_int (Kd.R_reads' HO_10.out).2.2 (ji19) p186 q186
                        cases e186
                        replace p186 := eq_true p186
                        replace q186 := eq_true q186
                        have p25 : 0 ≤ ((ji19) : Int) := of_decide_eq_true (by first | (with_reducible assumption) | assumption)
                        have q25 : ((ji19) : Int) < ((t183.length : Int) : Int) := of_decide_eq_true (by first | (with_reducible assumption) | assumption)
                        obtain ⟨go25, co25, eo25, gb25, gl25, cl25, HG25⟩ := Kd.R_form HO_10.out (by omega)
                        (first | cases eo25 | (injection eo25 with ea_ en_ ec_; (first | subst ea_ | (injection ea_ with ea_; subst ea_)); subst ec_; clear en_))
                        have GB25 := Aside0.mk gb25
                        have GG25 := Aside0.mk HG25
                        clear gb25 gl25 HG25
                        (first | simp only [add_plain] at hx186_0 | skip)
                        obtain ⟨hx25_0, hf25_0⟩ := Kd.R_celln 0 HO_10.out ((ji19) : Int) p25 q25
                        replace p25 := eq_true p25
                        replace q25 := eq_true q25
                        have HP39 := Kd.R_putg HO_10.out ((ji19) : Int) (Go.bits .xor .u8 (rd t183 (ji19)) (ji24))
                        go_wp2_with (first | ((with_reducible refine gate_store (t := 5) (p := 70) rfl ?_); refine store_event (t := 5) (p := 70) (v := ?vo_w40) (w1 := (wc.setCell ⟨go25, ((ji19) : Int).toNat, none⟩ (.int .u8 (Go.bits .xor .u8 (rd t183 (ji19)) (ji24))))) ?hg ?ho ?hn ?hr ?_; (case ho => rfl); (case hg => rfl); (case hn => rfl); (case hr => first | (go_simp; done) | (go_simp; rfl)); intro w40 hw; have hg : wc.grownBy w40 (some go25) := (by rw [hw]; exact HP39.2); have hp_ : Kd.R (Kd.int .u8) 5 w40 w.heap.size (fun _ => True) (.slice (some ⟨go25, 0, none⟩) t183.length co10) y187 := (by rw [hw, Ny187.out]; exact HP39.1); clear HP39; have n0_ := Aside0.mk (hp_); have n1_ := Aside0.mk ((by rw [hw]; exact below_set (HB.out) GB25.out : Below w.heap.size w w40)); clear HO_10; clear HB; have HO_10 := n0_; have HB := n1_; clear n0_ n1_; clear hg hw hp_) | ((with_reducible refine gate_callee (f := 12) rfl ?_); refine goesL_ (some 112) rfl rfl Try.func12 (by kernel_rfl) rfl #[.slice (some ⟨go25, 0, none⟩) y187.length co10] rfl (by (try simp only [List.map_toArray, List.map_cons, List.map_nil]); first | done | (rw [show y187.length = t183.length from (Kd.R_reads' HO_10.out).1.symm] <;> rfl) | rfl | (simp only [List.length_drop, List.length_take]; rfl)) ?_; (with_reducible refine (crc_Open.calls _ _ y187 t192 t193 _ ?side1 ?side2 A37.out).mono ?_); (case side1 => repeat (first | exact (Kd.R_reads' HO_10.out).2.2 | (with_reducible refine Kd.C_alloc ?_ _) | (with_reducible refine Kd.C_drewN ?_ _) | (with_reducible refine Kd.C_drew ?_))); (case side2 => rw [show y187.length = t183.length from (Kd.R_reads' HO_10.out).1.symm]; exact (Kd.R_reads' HO_10.out).2.1); rintro e w41 ⟨v194, rfl, ho0, hb⟩; refine ⟨_, rfl, ?_⟩; have n0_ := Aside0.mk (Kd.R_elder' (by (with_reducible repeat (first | apply Kd.R_alloc | apply Kd.R_drewN | apply Kd.R_drew)); exact HO_10.out) (Kd.R_base ho0) hb); have n1_ := Aside0.mk (Kd.R_lower (Kd.R_new' ho0 (Kd.R_lt (by (with_reducible repeat (first | apply Kd.R_alloc | apply Kd.R_drewN | apply Kd.R_drew)); exact HO_10.out))) (below_size (by repeat (first | (with_reducible first | exact HB.out | apply below_alloc | apply pw_below_drewN | apply below_drew1) | exact HB.out)))); have n2_ := Aside0.mk (below_step (by repeat (first | (with_reducible first | exact HB.out | apply below_alloc | apply pw_below_drewN | apply below_drew1) | exact HB.out)) hb); clear HO_10; clear HB; have HO_10 := n0_; have HO195 := n1_; have HB := n2_; clear n0_ n1_ n2_; (try clear hb); (try clear hb2); (try clear hk); (try clear hi); (try clear ho0)))
                        go_ret
                        exact ⟨by first | rfl | (simp [errW_none, errW_some] <;> rfl) | (simp only [← hji19, ← hji22, ← hji24]; first | rfl | (simp [errW_none, errW_some] <;> rfl)) | (simp [*, errW_none, errW_some] <;> rfl), by repeat (first | (with_reducible first | exact HB.out | apply below_alloc | apply pw_below_drewN | apply below_drew1) | exact HB.out)⟩
                      · replace c38 := Bool.eq_false_iff.mpr c38
                        subst c38
                        have H1 : (some false) = some r := by rw [if_neg (show ¬ (false = true) by decide)] at H; exact H
                        clear H
                        have H := H1
                        clear H1
                        obtain rfl := Option.some.inj H
                        have p186 : 0 ≤ ((ji19) : Int) := of_decide_eq_true (by first | (with_reducible assumption) | assumption)
                        have q186 : (ji19) < (t183.length : Int) := of_decide_eq_true (by first | (with_reducible assumption) | assumption)
                        obtain ⟨ad186, e186, hx186_0⟩ := Kd.at_int (Kd.R_reads' HO_10.out).2.2 (ji19) p186 q186
                        cases e186
                        replace p186 := eq_true p186
                        replace q186 := eq_true q186
                        have p25 : 0 ≤ ((ji19) : Int) := of_decide_eq_true (by first | (with_reducible assumption) | assumption)
                        have q25 : ((ji19) : Int) < ((t183.length : Int) : Int) := of_decide_eq_true (by first | (with_reducible assumption) | assumption)
                        obtain ⟨go25, co25, eo25, gb25, gl25, cl25, HG25⟩ := Kd.R_form HO_10.out (by omega)
                        (first | cases eo25 | (injection eo25 with ea_ en_ ec_; (first | subst ea_ | (injection ea_ with ea_; subst ea_)); subst ec_; clear en_))
                        have GB25 := Aside0.mk gb25
                        have GG25 := Aside0.mk HG25
                        clear gb25 gl25 HG25
                        (first | simp only [add_plain] at hx186_0 | skip)
                        obtain ⟨hx25_0, hf25_0⟩ := Kd.R_celln 0 HO_10.out ((ji19) : Int) p25 q25
                        replace p25 := eq_true p25
                        replace q25 := eq_true q25
                        have HP42 := Kd.R_putg HO_10.out ((ji19) : Int) (Go.bits .xor .u8 (rd t183 (ji19)) (ji24))
                        go_wp2_with (first | ((with_reducible refine gate_store (t := 5) (p := 70) rfl ?_); refine store_event (t := 5) (p := 70) (v := ?vo_w43) (w1 := (wc.setCell ⟨go25, ((ji19) : Int).toNat, none⟩ (.int .u8 (Go.bits .xor .u8 (rd t183 (ji19)) (ji24))))) ?hg ?ho ?hn ?hr ?_; (case ho => rfl); (case hg => rfl); (case hn => rfl); (case hr => first | (go_simp; done) | (go_simp; rfl)); intro w43 hw; have hg : wc.grownBy w43 (some go25) := (by rw [hw]; exact HP42.2); have hp_ : Kd.R (Kd.int .u8) 5 w43 w.heap.size (fun _ => True) (.slice (some ⟨go25, 0, none⟩) t183.length co10) y187 := (by rw [hw, Ny187.out]; exact HP42.1); clear HP42; have n0_ := Aside0.mk (hp_); have n1_ := Aside0.mk ((by rw [hw]; exact below_set (HB.out) GB25.out : Below w.heap.size w w43)); clear HO_10; clear HB; have HO_10 := n0_; have HB := n1_; clear n0_ n1_; clear hg hw hp_) | ((with_reducible refine gate_callee (f := 12) rfl ?_); refine goesL_ (some 112) rfl rfl Try.func12 (by kernel_rfl) rfl #[.slice (some ⟨go25, 0, none⟩) y187.length co10] rfl (by (try simp only [List.map_toArray, List.map_cons, List.map_nil]); first | done | (rw [show y187.length = t183.length from (Kd.R_reads' HO_10.out).1.symm] <;> rfl) | rfl | (simp only [List.length_drop, List.length_take]; rfl)) ?_; (with_reducible refine (crc_Open.calls _ _ y187 t192 t193 _ ?side1 ?side2 A37.out).mono ?_); (case side1 => repeat (first | exact (Kd.R_reads' HO_10.out).2.2 | (with_reducible refine Kd.C_alloc ?_ _) | (with_reducible refine Kd.C_drewN ?_ _) | (with_reducible refine Kd.C_drew ?_))); (case side2 => rw [show y187.length = t183.length from (Kd.R_reads' HO_10.out).1.symm]; exact (Kd.R_reads' HO_10.out).2.1); rintro e w44 ⟨v194, rfl, ho0, hb⟩; refine ⟨_, rfl, ?_⟩; have n0_ := Aside0.mk (Kd.R_elder' (by (with_reducible repeat (first | apply Kd.R_alloc | apply Kd.R_drewN | apply Kd.R_drew)); exact HO_10.out) (Kd.R_base ho0) hb); have n1_ := Aside0.mk (Kd.R_lower (Kd.R_new' ho0 (Kd.R_lt (by (with_reducible repeat (first | apply Kd.R_alloc | apply Kd.R_drewN | apply Kd.R_drew)); exact HO_10.out))) (below_size (by repeat (first | (with_reducible first | exact HB.out | apply below_alloc | apply pw_below_drewN | apply below_drew1) | exact HB.out)))); have n2_ := Aside0.mk (below_step (by repeat (first | (with_reducible first | exact HB.out | apply below_alloc | apply pw_below_drewN | apply below_drew1) | exact HB.out)) hb); clear HO_10; clear HB; have HO_10 := n0_; have HO195 := n1_; have HB := n2_; clear n0_ n1_ n2_; (try clear hb); (try clear hb2); (try clear hk); (try clear hi); (try clear ho0)))
                        go_ret
                        exact ⟨by first | rfl | (simp [errW_none, errW_some] <;> rfl) | (simp only [← hji19, ← hji22, ← hji24]; first | rfl | (simp [errW_none, errW_some] <;> rfl)) | (simp [*, errW_none, errW_some] <;> rfl), by repeat (first | (with_reducible first | exact HB.out | apply below_alloc | apply pw_below_drewN | apply below_drew1) | exact HB.out)⟩
                    · rw [if_neg c36] at H
                      have c36b0 : (a3 == a2) = false := beq_eq_false_iff_ne.mpr c36
                      have c36b1 : (a3 != a2) = true := bne_iff_ne.mpr c36
                      obtain ⟨ji45, hji45⟩ : ∃ j_ : Int, (wrap64 (Int.tdiv a3 8)) = j_ := ⟨_, rfl⟩
                      replace H : (if 0 ≤ (ji45) then (if (ji45) < (t183.length : Int) then (if 0 ≤ (IntKind.u64.wrap (Int.tmod a3 8)) then ((crc_Open.f (y187.set ((ji45) : Int).toNat (Go.bits .xor .u8 (rd y187 (ji45)) (shl .u8 1 (IntKind.u64.wrap (Int.tmod a3 8)))))).bind fun bt198 => (if t182 = true then (some (!bt198.2)) else (some false))) else (none)) else (none)) else (none)) = some r := by first | (rw [hji45] at H; exact H) | (simp only [hji45] at H ⊢; exact H)
                      have hji45w : (IntKind.i64.wrap (Int.tdiv a3 8)) = ji45 := (i64_w _).trans hji45
                      by_cases c46 : 0 ≤ (ji45)
                      · rw [if_pos c46] at H
                        have c46b0 : decide (0 ≤ (ji45)) = true := decide_eq_true c46
                        clear c46
                        by_cases c47 : (ji45) < (t183.length : Int)
                        · rw [if_pos c47] at H
                          have c47b0 : decide ((ji45) < (t183.length : Int)) = true := decide_eq_true c47
                          clear c47
                          obtain ⟨ji48, hji48⟩ : ∃ j_ : Int, (IntKind.u64.wrap (Int.tmod a3 8)) = j_ := ⟨_, rfl⟩
                          replace H : (if 0 ≤ (ji48) then ((crc_Open.f (y187.set ((ji45) : Int).toNat (Go.bits .xor .u8 (rd y187 (ji45)) (shl .u8 1 (ji48))))).bind fun bt198 => (if t182 = true then (some (!bt198.2)) else (some false))) else (none)) = some r := by first | (rw [hji48] at H; exact H) | (simp only [hji48] at H ⊢; exact H)
                          by_cases c49 : 0 ≤ (ji48)
                          · rw [if_pos c49] at H
                            have c49b0 := eq_true c49
                            have c49b1 : decide (0 ≤ (ji48)) = true := decide_eq_true c49
                            clear c49
                            obtain ⟨ji50, hji50⟩ : ∃ j_ : Int, (shl .u8 1 (ji48)) = j_ := ⟨_, rfl⟩
                            replace H : ((crc_Open.f (y187.set ((ji45) : Int).toNat (Go.bits .xor .u8 (rd y187 (ji45)) (ji50)))).bind fun bt198 => (if t182 = true then (some (!bt198.2)) else (some false))) = some r := by first | (rw [hji50] at H; exact H) | (simp only [hji50] at H ⊢; exact H)
                            have hji50_ : (IntKind.u8.wrap (1 * 2 ^ min (ji48).toNat 8)) = ji50 := hji50
                            have hji50z : (ji48) ≤ 8 → (IntKind.u8.wrap (1 * 2 ^ (ji48).toNat)) = ji50 := shl_small hji50
                            have hji50u : (IntKind.u8.wrap (2 ^ min (ji48).toNat 8)) = ji50 := by have h_ := hji50_; rw [Int.one_mul] at h_; exact h_
                            have hji50v : (ji48) ≤ 8 → (IntKind.u8.wrap (2 ^ (ji48).toNat)) = ji50 := fun hle_ => by have h_ := hji50z hle_; rw [Int.one_mul] at h_; exact h_
                            have hji50l : (2 ^ ((ji48)).toNat % 256) = ji50 := by have h_ := hji50u; rw [IntKind.wrap_u8, pow_min8] at h_; exact h_
                            obtain ⟨y197, hy197⟩ : ∃ y_ : List Int, y_ = (y187.set ((ji45) : Int).toNat (Go.bits .xor .u8 (rd y187 (ji45)) (ji50))) := ⟨_, rfl⟩
                            replace H : ((crc_Open.f y197).bind fun bt198 => (if t182 = true then (some (!bt198.2)) else (some false))) = some r := by first | (rw [hy197]; with_reducible exact H) | (have H2_ := (Option.bind_some _ _).symm.trans H; rw [hy197]; with_reducible exact H2_) | (have H2_ := (Option.bind_some _ _).symm.trans H; with_reducible exact H2_) | with_reducible exact H | (rw [hy197]; exact H) | exact H
                            have Ny197 := Aside0.mk hy197
                            clear hy197
                            replace H := Option.bind_eq_some_iff.mp H
                            obtain ⟨⟨t198, t199⟩, A520, H⟩ := H
                            replace H : (if t182 = true then (some (!t199)) else (some false)) = some r := H
                            have A52 := Aside0.mk A520
                            clear A520
                            by_cases c53 : t182 = true
                            · subst c53
                              have H1 : (some (!t199)) = some r := by rw [if_pos rfl] at H; exact H
                              clear H
                              have H := H1
                              clear H1
                              obtain rfl := Option.some.inj H
                              have p186 : 0 ≤ ((ji19) : Int) := of_decide_eq_true (by first | (with_reducible assumption) | assumption)
                              have q186 : (ji19) < (t183.length : Int) := of_decide_eq_true (by first | (with_reducible assumption) | assumption)
                              obtain ⟨ad186, e186, hx186_0⟩ := Kd.at_int (Kd.R_reads' HO_10.out).2.2 (ji19) p186 q186
                              cases e186
                              replace p186 := eq_true p186
                              replace q186 := eq_true q186
                              have p25 : 0 ≤ ((ji19) : Int) := of_decide_eq_true (by first | (with_reducible assumption) | assumption)
                              have q25 : ((ji19) : Int) < ((t183.length : Int) : Int) := of_decide_eq_true (by first | (with_reducible assumption) | assumption)
                              obtain ⟨go25, co25, eo25, gb25, gl25, cl25, HG25⟩ := Kd.R_form HO_10.out (by omega)
                              (first | cases eo25 | (injection eo25 with ea_ en_ ec_; (first | subst ea_ | (injection ea_ with ea_; subst ea_)); subst ec_; clear en_))
                              have GB25 := Aside0.mk gb25
                              have GG25 := Aside0.mk HG25
                              clear gb25 gl25 HG25
                              (first | simp only [add_plain] at hx186_0 | skip)
                              obtain ⟨hx25_0, hf25_0⟩ := Kd.R_celln 0 HO_10.out ((ji19) : Int) p25 q25
                              replace p25 := eq_true p25
                              replace q25 := eq_true q25
                              have HP54 := Kd.R_putg HO_10.out ((ji19) : Int) (Go.bits .xor .u8 (rd t183 (ji19)) (ji24))
                              go_wp2_with (first | ((with_reducible refine gate_store (t := 5) (p := 70) rfl ?_); refine store_event (t := 5) (p := 70) (v := ?vo_w55) (w1 := (wc.setCell ⟨go25, ((ji19) : Int).toNat, none⟩ (.int .u8 (Go.bits .xor .u8 (rd t183 (ji19)) (ji24))))) ?hg ?ho ?hn ?hr ?_; (case ho => rfl); (case hg => rfl); (case hn => rfl); (case hr => first | (go_simp; done) | (go_simp; rfl)); intro w55 hw; have hg : wc.grownBy w55 (some go25) := (by rw [hw]; exact HP54.2); have hp_ : Kd.R (Kd.int .u8) 5 w55 w.heap.size (fun _ => True) (.slice (some ⟨go25, 0, none⟩) t183.length co10) y187 := (by rw [hw, Ny187.out]; exact HP54.1); clear HP54; have n0_ := Aside0.mk (hp_); have n1_ := Aside0.mk ((by rw [hw]; exact below_set (HB.out) GB25.out : Below w.heap.size w w55)); clear HO_10; clear HB; have HO_10 := n0_; have HB := n1_; clear n0_ n1_; clear hg hw hp_; have p196 : 0 ≤ ((ji45) : Int) := of_decide_eq_true (by first | (with_reducible assumption) | assumption); have q196 : (ji45) < (y187.length : Int) := (by have h_ : ((ji45) : Int) < ((t183.length : Int) : Int) := of_decide_eq_true (by first | (with_reducible assumption) | assumption); first | (have e_ := (Kd.R_reads' HO_10.out).1; omega) | simpa only [Ny187.out, List.length_set] using h_); have ql196 : (((ji45) : Int) < ((t183.length : Int) : Int)) = True := eq_true (of_decide_eq_true (by first | (with_reducible assumption) | assumption)); obtain ⟨ad196, e196, hx196_0⟩ := Kd.at_int (Kd.R_reads' HO_10.out).2.2 (ji45) p196 q196; obtain rfl : (⟨go25, 0, none⟩ : Addr) = ad196 := (by injection e196); (first | simp only [add_plain] at hx196_0 | simp only [add_at] at hx196_0 | simp only [Addr.add, Nat.zero_add] at hx196_0 | skip); replace p196 := eq_true p196; replace q196 := eq_true q196; have p51 : 0 ≤ ((ji45) : Int) := of_decide_eq_true (by first | (with_reducible assumption) | assumption); have q51 : ((ji45) : Int) < ((t183.length : Int) : Int) := of_decide_eq_true (by first | (with_reducible assumption) | assumption); obtain ⟨hx51_0, hf51_0⟩ := Kd.R_celln 0 HO_10.out ((ji45) : Int) p51 q51; replace p51 := eq_true p51; replace q51 := eq_true q51; obtain ⟨hy56_, hz56_⟩ := Kd.R_celln 0 HO_10.out ((ji45) : Int) (of_decide_eq_true (by first | (with_reducible assumption) | assumption)) (of_decide_eq_true (by first | (with_reducible assumption) | assumption)); have HP56 := Kd.R_putg HO_10.out ((ji45) : Int) (Go.bits .xor .u8 (rd y187 (ji45)) (ji50))) | ((with_reducible refine gate_store (t := 5) (p := 109) rfl ?_); refine store_event (t := 5) (p := 109) (v := ?vo_w57) (w1 := (w55.setCell ⟨go25, ((ji45) : Int).toNat, none⟩ (.int .u8 (Go.bits .xor .u8 (rd y187 (ji45)) (ji50))))) ?hg ?ho ?hn ?hr ?_; (case ho => rfl); (case hg => rfl); (case hn => rfl); (case hr => first | (go_simp; done) | (go_simp; rfl)); intro w57 hw; have hg : w55.grownBy w57 (some go25) := (by rw [hw]; exact HP56.2); have hp_ : Kd.R (Kd.int .u8) 5 w57 w.heap.size (fun _ => True) (.slice (some ⟨go25, 0, none⟩) t183.length co10) y197 := (by rw [hw, Ny197.out]; exact HP56.1); clear HP56; have n0_ := Aside0.mk (hp_); have n1_ := Aside0.mk ((by rw [hw]; exact below_set (HB.out) GB25.out : Below w.heap.size w w57)); clear HO_10; clear HB; have HO_10 := n0_; have HB := n1_; clear n0_ n1_; clear hg hw hp_) | ((with_reducible refine gate_callee (f := 12) rfl ?_); refine goesL_ (some 112) rfl rfl Try.func12 (by kernel_rfl) rfl #[.slice (some ⟨go25, 0, none⟩) y197.length co10] rfl (by (try simp only [List.map_toArray, List.map_cons, List.map_nil]); first | done | (rw [show y197.length = t183.length from (Kd.R_reads' HO_10.out).1.symm] <;> rfl) | rfl | (simp only [List.length_drop, List.length_take]; rfl)) ?_; (with_reducible refine (crc_Open.calls _ _ y197 t198 t199 _ ?side1 ?side2 A52.out).mono ?_); (case side1 => repeat (first | exact (Kd.R_reads' HO_10.out).2.2 | (with_reducible refine Kd.C_alloc ?_ _) | (with_reducible refine Kd.C_drewN ?_ _) | (with_reducible refine Kd.C_drew ?_))); (case side2 => rw [show y197.length = t183.length from (Kd.R_reads' HO_10.out).1.symm]; exact (Kd.R_reads' HO_10.out).2.1); rintro e w58 ⟨v200, rfl, ho0, hb⟩; refine ⟨_, rfl, ?_⟩; have n0_ := Aside0.mk (Kd.R_elder' (by (with_reducible repeat (first | apply Kd.R_alloc | apply Kd.R_drewN | apply Kd.R_drew)); exact HO_10.out) (Kd.R_base ho0) hb); have n1_ := Aside0.mk (Kd.R_lower (Kd.R_new' ho0 (Kd.R_lt (by (with_reducible repeat (first | apply Kd.R_alloc | apply Kd.R_drewN | apply Kd.R_drew)); exact HO_10.out))) (below_size (by repeat (first | (with_reducible first | exact HB.out | apply below_alloc | apply pw_below_drewN | apply below_drew1) | exact HB.out)))); have n2_ := Aside0.mk (below_step (by repeat (first | (with_reducible first | exact HB.out | apply below_alloc | apply pw_below_drewN | apply below_drew1) | exact HB.out)) hb); clear HO_10; clear HB; have HO_10 := n0_; have HO201 := n1_; have HB := n2_; clear n0_ n1_ n2_; (try clear hb); (try clear hb2); (try clear hk); (try clear hi); (try clear ho0)))
                              go_ret
                              exact ⟨by first | rfl | (simp [errW_none, errW_some] <;> rfl) | (simp only [← hji19, ← hji22, ← hji24, ← hji45, ← hji48, ← hji50]; first | rfl | (simp [errW_none, errW_some] <;> rfl)) | (simp [*, errW_none, errW_some] <;> rfl), by repeat (first | (with_reducible first | exact HB.out | apply below_alloc | apply pw_below_drewN | apply below_drew1) | exact HB.out)⟩
                            · replace c53 := Bool.eq_false_iff.mpr c53
                              subst c53
                              have H1 : (some false) = some r := by rw [if_neg (show ¬ (false = true) by decide)] at H; exact H
                              clear H
                              have H := H1
                              clear H1
                              obtain rfl := Option.some.inj H
                              have p186 : 0 ≤ ((ji19) : Int) := of_decide_eq_true (by first | (with_reducible assumption) | assumption)
                              have q186 : (ji19) < (t183.length : Int) := of_decide_eq_true (by first | (with_reducible assumption) | assumption)
                              obtain ⟨ad186, e186, hx186_0⟩ := Kd.at_int (Kd.R_reads' HO_10.out).2.2 (ji19) p186 q186
                              cases e186
                              replace p186 := eq_true p186
                              replace q186 := eq_true q186
                              have p25 : 0 ≤ ((ji19) : Int) := of_decide_eq_true (by first | (with_reducible assumption) | assumption)
                              have q25 : ((ji19) : Int) < ((t183.length : Int) : Int) := of_decide_eq_true (by first | (with_reducible assumption) | assumption)
                              obtain ⟨go25, co25, eo25, gb25, gl25, cl25, HG25⟩ := Kd.R_form HO_10.out (by omega)
                              (first | cases eo25 | (injection eo25 with ea_ en_ ec_; (first | subst ea_ | (injection ea_ with ea_; subst ea_)); subst ec_; clear en_))
                              have GB25 := Aside0.mk gb25
                              have GG25 := Aside0.mk HG25
                              clear gb25 gl25 HG25
                              (first | simp only [add_plain] at hx186_0 | skip)
                              obtain ⟨hx25_0, hf25_0⟩ := Kd.R_celln 0 HO_10.out ((ji19) : Int) p25 q25
                              replace p25 := eq_true p25
                              replace q25 := eq_true q25
                              have HP59 := Kd.R_putg HO_10.out ((ji19) : Int) (Go.bits .xor .u8 (rd t183 (ji19)) (ji24))
                              go_wp2_with (first | ((with_reducible refine gate_store (t := 5) (p := 70) rfl ?_); refine store_event (t := 5) (p := 70) (v := ?vo_w60) (w1 := (wc.setCell ⟨go25, ((ji19) : Int).toNat, none⟩ (.int .u8 (Go.bits .xor .u8 (rd t183 (ji19)) (ji24))))) ?hg ?ho ?hn ?hr ?_; (case ho => rfl); (case hg => rfl); (case hn => rfl); (case hr => first | (go_simp; done) | (go_simp; rfl)); intro w60 hw; have hg : wc.grownBy w60 (some go25) := (by rw [hw]; exact HP59.2); have hp_ : Kd.R (Kd.int .u8) 5 w60 w.heap.size (fun _ => True) (.slice (some ⟨go25, 0, none⟩) t183.length co10) y187 := (by rw [hw, Ny187.out]; exact HP59.1); clear HP59; have n0_ := Aside0.mk (hp_); have n1_ := Aside0.mk ((by rw [hw]; exact below_set (HB.out) GB25.out : Below w.heap.size w w60)); clear HO_10; clear HB; have HO_10 := n0_; have HB := n1_; clear n0_ n1_; clear hg hw hp_; have p196 : 0 ≤ ((ji45) : Int) := of_decide_eq_true (by first | (with_reducible assumption) | assumption); have q196 : (ji45) < (y187.length : Int) := (by have h_ : ((ji45) : Int) < ((t183.length : Int) : Int) := of_decide_eq_true (by first | (with_reducible assumption) | assumption); first | (have e_ := (Kd.R_reads' HO_10.out).1; omega) | simpa only [Ny187.out, List.length_set] using h_); have ql196 : (((ji45) : Int) < ((t183.length : Int) : Int)) = True := eq_true (of_decide_eq_true (by first | (with_reducible assumption) | assumption)); obtain ⟨ad196, e196, hx196_0⟩ := Kd.at_int (Kd.R_reads' HO_10.out).2.2 (ji45) p196 q196; obtain rfl : (⟨go25, 0, none⟩ : Addr) = ad196 := (by injection e196); (first | simp only [add_plain] at hx196_0 | simp only [add_at] at hx196_0 | simp only [Addr.add, Nat.zero_add] at hx196_0 | skip); replace p196 := eq_true p196; replace q196 := eq_true q196; have p51 : 0 ≤ ((ji45) : Int) := of_decide_eq_true (by first | (with_reducible assumption) | assumption); have q51 : ((ji45) : Int) < ((t183.length : Int) : Int) := of_decide_eq_true (by first | (with_reducible assumption) | assumption); obtain ⟨hx51_0, hf51_0⟩ := Kd.R_celln 0 HO_10.out ((ji45) : Int) p51 q51; replace p51 := eq_true p51; replace q51 := eq_true q51; obtain ⟨hy61_, hz61_⟩ := Kd.R_celln 0 HO_10.out ((ji45) : Int) (of_decide_eq_true (by first | (with_reducible assumption) | assumption)) (of_decide_eq_true (by first | (with_reducible assumption) | assumption)); have HP61 := Kd.R_putg HO_10.out ((ji45) : Int) (Go.bits .xor .u8 (rd y187 (ji45)) (ji50))) | ((with_reducible refine gate_store (t := 5) (p := 109) rfl ?_); refine store_event (t := 5) (p := 109) (v := ?vo_w62) (w1 := (w60.setCell ⟨go25, ((ji45) : Int).toNat, none⟩ (.int .u8 (Go.bits .xor .u8 (rd y187 (ji45)) (ji50))))) ?hg ?ho ?hn ?hr ?_; (case ho => rfl); (case hg => rfl); (case hn => rfl); (case hr => first | (go_simp; done) | (go_simp; rfl)); intro w62 hw; have hg : w60.grownBy w62 (some go25) := (by rw [hw]; exact HP61.2); have hp_ : Kd.R (Kd.int .u8) 5 w62 w.heap.size (fun _ => True) (.slice (some ⟨go25, 0, none⟩) t183.length co10) y197 := (by rw [hw, Ny197.out]; exact HP61.1); clear HP61; have n0_ := Aside0.mk (hp_); have n1_ := Aside0.mk ((by rw [hw]; exact below_set (HB.out) GB25.out : Below w.heap.size w w62)); clear HO_10; clear HB; have HO_10 := n0_; have HB := n1_; clear n0_ n1_; clear hg hw hp_) | ((with_reducible refine gate_callee (f := 12) rfl ?_); refine goesL_ (some 112) rfl rfl Try.func12 (by kernel_rfl) rfl #[.slice (some ⟨go25, 0, none⟩) y197.length co10] rfl (by (try simp only [List.map_toArray, List.map_cons, List.map_nil]); first | done | (rw [show y197.length = t183.length from (Kd.R_reads' HO_10.out).1.symm] <;> rfl) | rfl | (simp only [List.length_drop, List.length_take]; rfl)) ?_; (with_reducible refine (crc_Open.calls _ _ y197 t198 t199 _ ?side1 ?side2 A52.out).mono ?_); (case side1 => repeat (first | exact (Kd.R_reads' HO_10.out).2.2 | (with_reducible refine Kd.C_alloc ?_ _) | (with_reducible refine Kd.C_drewN ?_ _) | (with_reducible refine Kd.C_drew ?_))); (case side2 => rw [show y197.length = t183.length from (Kd.R_reads' HO_10.out).1.symm]; exact (Kd.R_reads' HO_10.out).2.1); rintro e w63 ⟨v200, rfl, ho0, hb⟩; refine ⟨_, rfl, ?_⟩; have n0_ := Aside0.mk (Kd.R_elder' (by (with_reducible repeat (first | apply Kd.R_alloc | apply Kd.R_drewN | apply Kd.R_drew)); exact HO_10.out) (Kd.R_base ho0) hb); have n1_ := Aside0.mk (Kd.R_lower (Kd.R_new' ho0 (Kd.R_lt (by (with_reducible repeat (first | apply Kd.R_alloc | apply Kd.R_drewN | apply Kd.R_drew)); exact HO_10.out))) (below_size (by repeat (first | (with_reducible first | exact HB.out | apply below_alloc | apply pw_below_drewN | apply below_drew1) | exact HB.out)))); have n2_ := Aside0.mk (below_step (by repeat (first | (with_reducible first | exact HB.out | apply below_alloc | apply pw_below_drewN | apply below_drew1) | exact HB.out)) hb); clear HO_10; clear HB; have HO_10 := n0_; have HO201 := n1_; have HB := n2_; clear n0_ n1_ n2_; (try clear hb); (try clear hb2); (try clear hk); (try clear hi); (try clear ho0)))
                              go_ret
                              exact ⟨by first | rfl | (simp [errW_none, errW_some] <;> rfl) | (simp only [← hji19, ← hji22, ← hji24, ← hji45, ← hji48, ← hji50]; first | rfl | (simp [errW_none, errW_some] <;> rfl)) | (simp [*, errW_none, errW_some] <;> rfl), by repeat (first | (with_reducible first | exact HB.out | apply below_alloc | apply pw_below_drewN | apply below_drew1) | exact HB.out)⟩
                          · rw [if_neg c49] at H
                            exact absurd H (by simp)
                        · rw [if_neg c47] at H
                          exact absurd H (by simp)
                      · rw [if_neg c46] at H
                        exact absurd H (by simp)
                · rw [if_neg c26] at H
                  have c26b0 : (a2 == a1) = false := beq_eq_false_iff_ne.mpr c26
                  have c26b1 : (a2 != a1) = true := bne_iff_ne.mpr c26
                  obtain ⟨ji64, hji64⟩ : ∃ j_ : Int, (wrap64 (Int.tdiv a2 8)) = j_ := ⟨_, rfl⟩
                  replace H : (if 0 ≤ (ji64) then (if (ji64) < (t183.length : Int) then (if 0 ≤ (IntKind.u64.wrap (Int.tmod a2 8)) then ((some (y187.set ((ji64) : Int).toNat (Go.bits .xor .u8 (rd y187 (ji64)) (shl .u8 1 (IntKind.u64.wrap (Int.tmod a2 8)))) : List Int)).bind fun y203 => (if a3 = a1 then ((crc_Open.f y203).bind fun bt204 => (if t182 = true then (some (!bt204.2)) else (some false))) else (if a3 = a2 then ((crc_Open.f y203).bind fun bt208 => (if t182 = true then (some (!bt208.2)) else (some false))) else (if 0 ≤ (wrap64 (Int.tdiv a3 8)) then (if (wrap64 (Int.tdiv a3 8)) < (t183.length : Int) then (if 0 ≤ (IntKind.u64.wrap (Int.tmod a3 8)) then ((crc_Open.f (y203.set ((wrap64 (Int.tdiv a3 8)) : Int).toNat (Go.bits .xor .u8 (rd y203 (wrap64 (Int.tdiv a3 8))) (shl .u8 1 (IntKind.u64.wrap (Int.tmod a3 8)))))).bind fun bt214 => (if t182 = true then (some (!bt214.2)) else (some false))) else (none)) else (none)) else (none))))) else (none)) else (none)) else (none)) = some r := by first | (rw [hji64] at H; exact H) | (simp only [hji64] at H ⊢; exact H)
                  have hji64w : (IntKind.i64.wrap (Int.tdiv a2 8)) = ji64 := (i64_w _).trans hji64
                  by_cases c65 : 0 ≤ (ji64)
                  · rw [if_pos c65] at H
                    have c65b0 : decide (0 ≤ (ji64)) = true := decide_eq_true c65
                    clear c65
                    by_cases c66 : (ji64) < (t183.length : Int)
                    · rw [if_pos c66] at H
                      have c66b0 : decide ((ji64) < (t183.length : Int)) = true := decide_eq_true c66
                      clear c66
                      obtain ⟨ji67, hji67⟩ : ∃ j_ : Int, (IntKind.u64.wrap (Int.tmod a2 8)) = j_ := ⟨_, rfl⟩
                      replace H : (if 0 ≤ (ji67) then ((some (y187.set ((ji64) : Int).toNat (Go.bits .xor .u8 (rd y187 (ji64)) (shl .u8 1 (ji67))) : List Int)).bind fun y203 => (if a3 = a1 then ((crc_Open.f y203).bind fun bt204 => (if t182 = true then (some (!bt204.2)) else (some false))) else (if a3 = a2 then ((crc_Open.f y203).bind fun bt208 => (if t182 = true then (some (!bt208.2)) else (some false))) else (if 0 ≤ (wrap64 (Int.tdiv a3 8)) then (if (wrap64 (Int.tdiv a3 8)) < (t183.length : Int) then (if 0 ≤ (IntKind.u64.wrap (Int.tmod a3 8)) then ((crc_Open.f (y203.set ((wrap64 (Int.tdiv a3 8)) : Int).toNat (Go.bits .xor .u8 (rd y203 (wrap64 (Int.tdiv a3 8))) (shl .u8 1 (IntKind.u64.wrap (Int.tmod a3 8)))))).bind fun bt214 => (if t182 = true then (some (!bt214.2)) else (some false))) else (none)) else (none)) else (none))))) else (none)) = some r := by first | (rw [hji67] at H; exact H) | (simp only [hji67] at H ⊢; exact H)
                      by_cases c68 : 0 ≤ (ji67)
                      · rw [if_pos c68] at H
                        have c68b0 := eq_true c68
                        have c68b1 : decide (0 ≤ (ji67)) = true := decide_eq_true c68
                        clear c68
                        obtain ⟨ji69, hji69⟩ : ∃ j_ : Int, (shl .u8 1 (ji67)) = j_ := ⟨_, rfl⟩
                        replace H : ((some (y187.set ((ji64) : Int).toNat (Go.bits .xor .u8 (rd y187 (ji64)) (ji69)) : List Int)).bind fun y203 => (if a3 = a1 then ((crc_Open.f y203).bind fun bt204 => (if t182 = true then (some (!bt204.2)) else (some false))) else (if a3 = a2 then ((crc_Open.f y203).bind fun bt208 => (if t182 = true then (some (!bt208.2)) else (some false))) else (if 0 ≤ (wrap64 (Int.tdiv a3 8)) then (if (wrap64 (Int.tdiv a3 8)) < (t183.length : Int) then (if 0 ≤ (IntKind.u64.wrap (Int.tmod a3 8)) then ((crc_Open.f (y203.set ((wrap64 (Int.tdiv a3 8)) : Int).toNat (Go.bits .xor .u8 (rd y203 (wrap64 (Int.tdiv a3 8))) (shl .u8 1 (IntKind.u64.wrap (Int.tmod a3 8)))))).bind fun bt214 => (if t182 = true then (some (!bt214.2)) else (some false))) else (none)) else (none)) else (none))))) = some r := by first | (rw [hji69] at H; exact H) | (simp only [hji69] at H ⊢; exact H)
                        have hji69_ : (IntKind.u8.wrap (1 * 2 ^ min (ji67).toNat 8)) = ji69 := hji69
                        have hji69z : (ji67) ≤ 8 → (IntKind.u8.wrap (1 * 2 ^ (ji67).toNat)) = ji69 := shl_small hji69
                        have hji69u : (IntKind.u8.wrap (2 ^ min (ji67).toNat 8)) = ji69 := by have h_ := hji69_; rw [Int.one_mul] at h_; exact h_
                        have hji69v : (ji67) ≤ 8 → (IntKind.u8.wrap (2 ^ (ji67).toNat)) = ji69 := fun hle_ => by have h_ := hji69z hle_; rw [Int.one_mul] at h_; exact h_
                        have hji69l : (2 ^ ((ji67)).toNat % 256) = ji69 := by have h_ := hji69u; rw [IntKind.wrap_u8, pow_min8] at h_; exact h_
                        obtain ⟨y203, hy203⟩ : ∃ y_ : List Int, y_ = (y187.set ((ji64) : Int).toNat (Go.bits .xor .u8 (rd y187 (ji64)) (ji69))) := ⟨_, rfl⟩
                        replace H : (if a3 = a1 then ((crc_Open.f y203).bind fun bt204 => (if t182 = true then (some (!bt204.2)) else (some false))) else (if a3 = a2 then ((crc_Open.f y203).bind fun bt208 => (if t182 = true then (some (!bt208.2)) else (some false))) else (if 0 ≤ (wrap64 (Int.tdiv a3 8)) then (if (wrap64 (Int.tdiv a3 8)) < (t183.length : Int) then (if 0 ≤ (IntKind.u64.wrap (Int.tmod a3 8)) then ((crc_Open.f (y203.set ((wrap64 (Int.tdiv a3 8)) : Int).toNat (Go.bits .xor .u8 (rd y203 (wrap64 (Int.tdiv a3 8))) (shl .u8 1 (IntKind.u64.wrap (Int.tmod a3 8)))))).bind fun bt214 => (if t182 = true then (some (!bt214.2)) else (some false))) else (none)) else (none)) else (none)))) = some r := by first | (rw [hy203]; with_reducible exact H) | (have H2_ := (Option.bind_some _ _).symm.trans H; rw [hy203]; with_reducible exact H2_) | (have H2_ := (Option.bind_some _ _).symm.trans H; with_reducible exact H2_) | with_reducible exact H | (rw [hy203]; exact H) | exact H
                        have Ny203 := Aside0.mk hy203
                        clear hy203
                        by_cases c71 : a3 = a1
                        · rw [if_pos c71] at H
                          have c71b0 : (a3 == a1) = true := beq_iff_eq.mpr c71
                          have c71b1 : (a3 != a1) = false := bne_eq_false_iff_eq.mpr c71
                          clear c71
                          replace H := Option.bind_eq_some_iff.mp H
                          obtain ⟨⟨t204, t205⟩, A720, H⟩ := H
                          replace H : (if t182 = true then (some (!t205)) else (some false)) = some r := H
                          have A72 := Aside0.mk A720
                          clear A720
                          by_cases c73 : t182 = true
                          · subst c73
                            have H1 : (some (!t205)) = some r := by rw [if_pos rfl] at H; exact H
                            clear H
                            have H := H1
                            clear H1
                            obtain rfl := Option.some.inj H
                            have p186 : 0 ≤ ((ji19) : Int) := of_decide_eq_true (by first | (with_reducible assumption) | assumption)
                            have q186 : (ji19) < (t183.length : Int) := of_decide_eq_true (by first | (with_reducible assumption) | assumption)
                            obtain ⟨ad186, e186, hx186_0⟩ := Kd.at_int (Kd.R_reads' HO_10.out).2.2 (ji19) p186 q186
                            cases e186
                            replace p186 := eq_true p186
                            replace q186 := eq_true q186
                            have p25 : 0 ≤ ((ji19) : Int) := of_decide_eq_true (by first | (with_reducible assumption) | assumption)
                            have q25 : ((ji19) : Int) < ((t183.length : Int) : Int) := of_decide_eq_true (by first | (with_reducible assumption) | assumption)
                            obtain ⟨go25, co25, eo25, gb25, gl25, cl25, HG25⟩ := Kd.R_form HO_10.out (by omega)
                            (first | cases eo25 | (injection eo25 with ea_ en_ ec_; (first | subst ea_ | (injection ea_ with ea_; subst ea_)); subst ec_; clear en_))
                            have GB25 := Aside0.mk gb25
                            have GG25 := Aside0.mk HG25
                            clear gb25 gl25 HG25
                            (first | simp only [add_plain] at hx186_0 | skip)
                            obtain ⟨hx25_0, hf25_0⟩ := Kd.R_celln 0 HO_10.out ((ji19) : Int) p25 q25
                            replace p25 := eq_true p25
                            replace q25 := eq_true q25
                            have HP74 := Kd.R_putg HO_10.out ((ji19) : Int) (Go.bits .xor .u8 (rd t183 (ji19)) (ji24))
                            go_wp2_with (first | ((with_reducible refine gate_store (t := 5) (p := 70) rfl ?_); refine store_event (t := 5) (p := 70) (v := ?vo_w75) (w1 := (wc.setCell ⟨go25, ((ji19) : Int).toNat, none⟩ (.int .u8 (Go.bits .xor .u8 (rd t183 (ji19)) (ji24))))) ?hg ?ho ?hn ?hr ?_; (case ho => rfl); (case hg => rfl); (case hn => rfl); (case hr => first | (go_simp; done) | (go_simp; rfl)); intro w75 hw; have hg : wc.grownBy w75 (some go25) := (by rw [hw]; exact HP74.2); have hp_ : Kd.R (Kd.int .u8) 5 w75 w.heap.size (fun _ => True) (.slice (some ⟨go25, 0, none⟩) t183.length co10) y187 := (by rw [hw, Ny187.out]; exact HP74.1); clear HP74; have n0_ := Aside0.mk (hp_); have n1_ := Aside0.mk ((by rw [hw]; exact below_set (HB.out) GB25.out : Below w.heap.size w w75)); clear HO_10; clear HB; have HO_10 := n0_; have HB := n1_; clear n0_ n1_; clear hg hw hp_; have p202 : 0 ≤ ((ji64) : Int) := of_decide_eq_true (by first | (with_reducible assumption) | assumption); have q202 : (ji64) < (y187.length : Int) := (by have h_ : ((ji64) : Int) < ((t183.length : Int) : Int) := of_decide_eq_true (by first | (with_reducible assumption) | assumption); first | (have e_ := (Kd.R_reads' HO_10.out).1; omega) | simpa only [Ny187.out, List.length_set] using h_); have ql202 : (((ji64) : Int) < ((t183.length : Int) : Int)) = True := eq_true (of_decide_eq_true (by first | (with_reducible assumption) | assumption)); obtain ⟨ad202, e202, hx202_0⟩ := Kd.at_int (Kd.R_reads' HO_10.out).2.2 (ji64) p202 q202; obtain rfl : (⟨go25, 0, none⟩ : Addr) = ad202 := (by injection e202); (first | simp only [add_plain] at hx202_0 | simp only [add_at] at hx202_0 | simp only [Addr.add, Nat.zero_add] at hx202_0 | skip); replace p202 := eq_true p202; replace q202 := eq_true q202; have p70 : 0 ≤ ((ji64) : Int) := of_decide_eq_true (by first | (with_reducible assumption) | assumption); have q70 : ((ji64) : Int) < ((t183.length : Int) : Int) := of_decide_eq_true (by first | (with_reducible assumption) | assumption); obtain ⟨hx70_0, hf70_0⟩ := Kd.R_celln 0 HO_10.out ((ji64) : Int) p70 q70; replace p70 := eq_true p70; replace q70 := eq_true q70; obtain ⟨hy76_, hz76_⟩ := Kd.R_celln 0 HO_10.out ((ji64) : Int) (of_decide_eq_true (by first | (with_reducible assumption) | assumption)) (of_decide_eq_true (by first | (with_reducible assumption) | assumption)); have HP76 := Kd.R_putg HO_10.out ((ji64) : Int) (Go.bits .xor .u8 (rd y187 (ji64)) (ji69))) | ((with_reducible refine gate_store (t := 5) (p := 87) rfl ?_); refine store_event (t := 5) (p := 87) (v := ?vo_w77) (w1 := (w75.setCell ⟨go25, ((ji64) : Int).toNat, none⟩ (.int .u8 (Go.bits .xor .u8 (rd y187 (ji64)) (ji69))))) ?hg ?ho ?hn ?hr ?_; (case ho => rfl); (case hg => rfl); (case hn => rfl); (case hr => first | (go_simp; done) | (go_simp; rfl)); intro w77 hw; have hg : w75.grownBy w77 (some go25) := (by rw [hw]; exact HP76.2); have hp_ : Kd.R (Kd.int .u8) 5 w77 w.heap.size (fun _ => True) (.slice (some ⟨go25, 0, none⟩) t183.length co10) y203 := (by rw [hw, Ny203.out]; exact HP76.1); clear HP76; have n0_ := Aside0.mk (hp_); have n1_ := Aside0.mk ((by rw [hw]; exact below_set (HB.out) GB25.out : Below w.heap.size w w77)); clear HO_10; clear HB; have HO_10 := n0_; have HB := n1_; clear n0_ n1_; clear hg hw hp_) | ((with_reducible refine gate_callee (f := 12) rfl ?_); refine goesL_ (some 112) rfl rfl Try.func12 (by kernel_rfl) rfl #[.slice (some ⟨go25, 0, none⟩) y203.length co10] rfl (by (try simp only [List.map_toArray, List.map_cons, List.map_nil]); first | done | (rw [show y203.length = t183.length from (Kd.R_reads' HO_10.out).1.symm] <;> rfl) | rfl | (simp only [List.length_drop, List.length_take]; rfl)) ?_; (with_reducible refine (crc_Open.calls _ _ y203 t204 t205 _ ?side1 ?side2 A72.out).mono ?_); (case side1 => repeat (first | exact (Kd.R_reads' HO_10.out).2.2 | (with_reducible refine Kd.C_alloc ?_ _) | (with_reducible refine Kd.C_drewN ?_ _) | (with_reducible refine Kd.C_drew ?_))); (case side2 => rw [show y203.length = t183.length from (Kd.R_reads' HO_10.out).1.symm]; exact (Kd.R_reads' HO_10.out).2.1); rintro e w78 ⟨v206, rfl, ho0, hb⟩; refine ⟨_, rfl, ?_⟩; have n0_ := Aside0.mk (Kd.R_elder' (by (with_reducible repeat (first | apply Kd.R_alloc | apply Kd.R_drewN | apply Kd.R_drew)); exact HO_10.out) (Kd.R_base ho0) hb); have n1_ := Aside0.mk (Kd.R_lower (Kd.R_new' ho0 (Kd.R_lt (by (with_reducible repeat (first | apply Kd.R_alloc | apply Kd.R_drewN | apply Kd.R_drew)); exact HO_10.out))) (below_size (by repeat (first | (with_reducible first | exact HB.out | apply below_alloc | apply pw_below_drewN | apply below_drew1) | exact HB.out)))); have n2_ := Aside0.mk (below_step (by repeat (first | (with_reducible first | exact HB.out | apply below_alloc | apply pw_below_drewN | apply below_drew1) | exact HB.out)) hb); clear HO_10; clear HB; have HO_10 := n0_; have HO207 := n1_; have HB := n2_; clear n0_ n1_ n2_; (try clear hb); (try clear hb2); (try clear hk); (try clear hi); (try clear ho0)))
                            go_ret
                            exact ⟨by first | rfl | (simp [errW_none, errW_some] <;> rfl) | (simp only [← hji19, ← hji22, ← hji24, ← hji64, ← hji67, ← hji69]; first | rfl | (simp [errW_none, errW_some] <;> rfl)) | (simp [*, errW_none, errW_some] <;> rfl), by repeat (first | (with_reducible first | exact HB.out | apply below_alloc | apply pw_below_drewN | apply below_drew1) | exact HB.out)⟩
                          · replace c73 := Bool.eq_false_iff.mpr c73
                            subst c73
                            have H1 : (some false) = some r := by rw [if_neg (show ¬ (false = true) by decide)] at H; exact H
                            clear H
                            have H := H1
                            clear H1
                            obtain rfl := Option.some.inj H
                            have p186 : 0 ≤ ((ji19) : Int) := of_decide_eq_true (by first | (with_reducible assumption) | assumption)
                            have q186 : (ji19) < (t183.length : Int) := of_decide_eq_true (by first | (with_reducible assumption) | assumption)
                            obtain ⟨ad186, e186, hx186_0⟩ := Kd.at_int (Kd.R_reads' HO_10.out).2.2 (ji19) p186 q186
                            cases e186
                            replace p186 := eq_true p186
                            replace q186 := eq_true q186
                            have p25 : 0 ≤ ((ji19) : Int) := of_decide_eq_true (by first | (with_reducible assumption) | assumption)
                            have q25 : ((ji19) : Int) < ((t183.length : Int) : Int) := of_decide_eq_true (by first | (with_reducible assumption) | assumption)
                            obtain ⟨go25, co25, eo25, gb25, gl25, cl25, HG25⟩ := Kd.R_form HO_10.out (by omega)
                            (first | cases eo25 | (injection eo25 with ea_ en_ ec_; (first | subst ea_ | (injection ea_ with ea_; subst ea_)); subst ec_; clear en_))
                            have GB25 := Aside0.mk gb25
                            have GG25 := Aside0.mk HG25
                            clear gb25 gl25 HG25
                            (first | simp only [add_plain] at hx186_0 | skip)
                            obtain ⟨hx25_0, hf25_0⟩ := Kd.R_celln 0 HO_10.out ((ji19) : Int) p25 q25
                            replace p25 := eq_true p25
                            replace q25 := eq_true q25
                            have HP79 := Kd.R_putg HO_10.out ((ji19) : Int) (Go.bits .xor .u8 (rd t183 (ji19)) (ji24))
                            go_wp2_with (first | ((with_reducible refine gate_store (t := 5) (p := 70) rfl ?_); refine store_event (t := 5) (p := 70) (v := ?vo_w80) (w1 := (wc.setCell ⟨go25, ((ji19) : Int).toNat, none⟩ (.int .u8 (Go.bits .xor .u8 (rd t183 (ji19)) (ji24))))) ?hg ?ho ?hn ?hr ?_; (case ho => rfl); (case hg => rfl); (case hn => rfl); (case hr => first | (go_simp; done) | (go_simp; rfl)); intro w80 hw; have hg : wc.grownBy w80 (some go25) := (by rw [hw]; exact HP79.2); have hp_ : Kd.R (Kd.int .u8) 5 w80 w.heap.size (fun _ => True) (.slice (some ⟨go25, 0, none⟩) t183.length co10) y187 := (by rw [hw, Ny187.out]; exact HP79.1); clear HP79; have n0_ := Aside0.mk (hp_); have n1_ := Aside0.mk ((by rw [hw]; exact below_set (HB.out) GB25.out : Below w.heap.size w w80)); clear HO_10; clear HB; have HO_10 := n0_; have HB := n1_; clear n0_ n1_; clear hg hw hp_; have p202 : 0 ≤ ((ji64) : Int) := of_decide_eq_true (by first | (with_reducible assumption) | assumption); have q202 : (ji64) < (y187.length : Int) := (by have h_ : ((ji64) : Int) < ((t183.length : Int) : Int) := of_decide_eq_true (by first | (with_reducible assumption) | assumption); first | (have e_ := (Kd.R_reads' HO_10.out).1; omega) | simpa only [Ny187.out, List.length_set] using h_); have ql202 : (((ji64) : Int) < ((t183.length : Int) : Int)) = True := eq_true (of_decide_eq_true (by first | (with_reducible assumption) | assumption)); obtain ⟨ad202, e202, hx202_0⟩ := Kd.at_int (Kd.R_reads' HO_10.out).2.2 (ji64) p202 q202; obtain rfl : (⟨go25, 0, none⟩ : Addr) = ad202 := (by injection e202); (first | simp only [add_plain] at hx202_0 | simp only [add_at] at hx202_0 | simp only [Addr.add, Nat.zero_add] at hx202_0 | skip); replace p202 := eq_true p202; replace q202 := eq_true q202; have p70 : 0 ≤ ((ji64) : Int) := of_decide_eq_true (by first | (with_reducible assumption) | assumption); have q70 : ((ji64) : Int) < ((t183.length : Int) : Int) := of_decide_eq_true (by first | (with_reducible assumption) | assumption); obtain ⟨hx70_0, hf70_0⟩ := Kd.R_celln 0 HO_10.out ((ji64) : Int) p70 q70; replace p70 := eq_true p70; replace q70 := eq_true q70; obtain ⟨hy81_, hz81_⟩ := Kd.R_celln 0 HO_10.out ((ji64) : Int) (of_decide_eq_true (by first | (with_reducible assumption) | assumption)) (of_decide_eq_true (by first | (with_reducible assumption) | assumption)); have HP81 := Kd.R_putg HO_10.out ((ji64) : Int) (Go.bits .xor .u8 (rd y187 (ji64)) (ji69))) | ((with_reducible refine gate_store (t := 5) (p := 87) rfl ?_); refine store_event (t := 5) (p := 87) (v := ?vo_w82) (w1 := (w80.setCell ⟨go25, ((ji64) : Int).toNat, none⟩ (.int .u8 (Go.bits .xor .u8 (rd y187 (ji64)) (ji69))))) ?hg ?ho ?hn ?hr ?_; (case ho => rfl); (case hg => rfl); (case hn => rfl); (case hr => first | (go_simp; done) | (go_simp; rfl)); intro w82 hw; have hg : w80.grownBy w82 (some go25) := (by rw [hw]; exact HP81.2); have hp_ : Kd.R (Kd.int .u8) 5 w82 w.heap.size (fun _ => True) (.slice (some ⟨go25, 0, none⟩) t183.length co10) y203 := (by rw [hw, Ny203.out]; exact HP81.1); clear HP81; have n0_ := Aside0.mk (hp_); have n1_ := Aside0.mk ((by rw [hw]; exact below_set (HB.out) GB25.out : Below w.heap.size w w82)); clear HO_10; clear HB; have HO_10 := n0_; have HB := n1_; clear n0_ n1_; clear hg hw hp_) | ((with_reducible refine gate_callee (f := 12) rfl ?_); refine goesL_ (some 112) rfl rfl Try.func12 (by kernel_rfl) rfl #[.slice (some ⟨go25, 0, none⟩) y203.length co10] rfl (by (try simp only [List.map_toArray, List.map_cons, List.map_nil]); first | done | (rw [show y203.length = t183.length from (Kd.R_reads' HO_10.out).1.symm] <;> rfl) | rfl | (simp only [List.length_drop, List.length_take]; rfl)) ?_; (with_reducible refine (crc_Open.calls _ _ y203 t204 t205 _ ?side1 ?side2 A72.out).mono ?_); (case side1 => repeat (first | exact (Kd.R_reads' HO_10.out).2.2 | (with_reducible refine Kd.C_alloc ?_ _) | (with_reducible refine Kd.C_drewN ?_ _) | (with_reducible refine Kd.C_drew ?_))); (case side2 => rw [show y203.length = t183.length from (Kd.R_reads' HO_10.out).1.symm]; exact (Kd.R_reads' HO_10.out).2.1); rintro e w83 ⟨v206, rfl, ho0, hb⟩; refine ⟨_, rfl, ?_⟩; have n0_ := Aside0.mk (Kd.R_elder' (by (with_reducible repeat (first | apply Kd.R_alloc | apply Kd.R_drewN | apply Kd.R_drew)); exact HO_10.out) (Kd.R_base ho0) hb); have n1_ := Aside0.mk (Kd.R_lower (Kd.R_new' ho0 (Kd.R_lt (by (with_reducible repeat (first | apply Kd.R_alloc | apply Kd.R_drewN | apply Kd.R_drew)); exact HO_10.out))) (below_size (by repeat (first | (with_reducible first | exact HB.out | apply below_alloc | apply pw_below_drewN | apply below_drew1) | exact HB.out)))); have n2_ := Aside0.mk (below_step (by repeat (first | (with_reducible first | exact HB.out | apply below_alloc | apply pw_below_drewN | apply below_drew1) | exact HB.out)) hb); clear HO_10; clear HB; have HO_10 := n0_; have HO207 := n1_; have HB := n2_; clear n0_ n1_ n2_; (try clear hb); (try clear hb2); (try clear hk); (try clear hi); (try clear ho0)))
                            go_ret
                            exact ⟨by first | rfl | (simp [errW_none, errW_some] <;> rfl) | (simp only [← hji19, ← hji22, ← hji24, ← hji64, ← hji67, ← hji69]; first | rfl | (simp [errW_none, errW_some] <;> rfl)) | (simp [*, errW_none, errW_some] <;> rfl), by repeat (first | (with_reducible first | exact HB.out | apply below_alloc | apply pw_below_drewN | apply below_drew1) | exact HB.out)⟩
                        · rw [if_neg c71] at H
                          have c71b0 : (a3 == a1) = false := beq_eq_false_iff_ne.mpr c71
                          have c71b1 : (a3 != a1) = true := bne_iff_ne.mpr c71
                          by_cases c84 : a3 = a2
                          · rw [if_pos c84] at H
                            have c84b0 : (a3 == a2) = true := beq_iff_eq.mpr c84
                            have c84b1 : (a3 != a2) = false := bne_eq_false_iff_eq.mpr c84
                            clear c84
                            replace H := Option.bind_eq_some_iff.mp H
                            obtain ⟨⟨t208, t209⟩, A850, H⟩ := H
                            replace H : (if t182 = true then (some (!t209)) else (some false)) = some r := H
                            have A85 := Aside0.mk A850
                            clear A850
                            by_cases c86 : t182 = true
                            · subst c86
                              have H1 : (some (!t209)) = some r := by rw [if_pos rfl] at H; exact H
                              clear H
                              have H := H1
                              clear H1
                              obtain rfl := Option.some.inj H
                              have p186 : 0 ≤ ((ji19) : Int) := of_decide_eq_true (by first | (with_reducible assumption) | assumption)
                              have q186 : (ji19) < (t183.length : Int) := of_decide_eq_true (by first | (with_reducible assumption) | assumption)
                              obtain ⟨ad186, e186, hx186_0⟩ := Kd.at_int (Kd.R_reads' HO_10.out).2.2 (ji19) p186 q186
                              cases e186
                              replace p186 := eq_true p186
                              replace q186 := eq_true q186
                              have p25 : 0 ≤ ((ji19) : Int) := of_decide_eq_true (by first | (with_reducible assumption) | assumption)
                              have q25 : ((ji19) : Int) < ((t183.length : Int) : Int) := of_decide_eq_true (by first | (with_reducible assumption) | assumption)
                              obtain ⟨go25, co25, eo25, gb25, gl25, cl25, HG25⟩ := Kd.R_form HO_10.out (by omega)
                              (first | cases eo25 | (injection eo25 with ea_ en_ ec_; (first | subst ea_ | (injection ea_ with ea_; subst ea_)); subst ec_; clear en_))
                              have GB25 := Aside0.mk gb25
                              have GG25 := Aside0.mk HG25
                              clear gb25 gl25 HG25
                              (first | simp only [add_plain] at hx186_0 | skip)
                              obtain ⟨hx25_0, hf25_0⟩ := Kd.R_celln 0 HO_10.out ((ji19) : Int) p25 q25
                              replace p25 := eq_true p25
                              replace q25 := eq_true q25
                              have HP87 := Kd.R_putg HO_10.out ((ji19) : Int) (Go.bits .xor .u8 (rd t183 (ji19)) (ji24))
                              go_wp2_with (first | ((with_reducible refine gate_store (t := 5) (p := 70) rfl ?_); refine store_event (t := 5) (p := 70) (v := ?vo_w88) (w1 := (wc.setCell ⟨go25, ((ji19) : Int).toNat, none⟩ (.int .u8 (Go.bits .xor .u8 (rd t183 (ji19)) (ji24))))) ?hg ?ho ?hn ?hr ?_; (case ho => rfl); (case hg => rfl); (case hn => rfl); (case hr => first | (go_simp; done) | (go_simp; rfl)); intro w88 hw; have hg : wc.grownBy w88 (some go25) := (by rw [hw]; exact HP87.2); have hp_ : Kd.R (Kd.int .u8) 5 w88 w.heap.size (fun _ => True) (.slice (some ⟨go25, 0, none⟩) t183.length co10) y187 := (by rw [hw, Ny187.out]; exact HP87.1); clear HP87; have n0_ := Aside0.mk (hp_); have n1_ := Aside0.mk ((by rw [hw]; exact below_set (HB.out) GB25.out : Below w.heap.size w w88)); clear HO_10; clear HB; have HO_10 := n0_; have HB := n1_; clear n0_ n1_; clear hg hw hp_; have p202 : 0 ≤ ((ji64) : Int) := of_decide_eq_true (by first | (with_reducible assumption) | assumption); have q202 : (ji64) < (y187.length : Int) := (by have h_ : ((ji64) : Int) < ((t183.length : Int) : Int) := of_decide_eq_true (by first | (with_reducible assumption) | assumption); first | (have e_ := (Kd.R_reads' HO_10.out).1; omega) | simpa only [Ny187.out, List.length_set] using h_); have ql202 : (((ji64) : Int) < ((t183.length : Int) : Int)) = True := eq_true (of_decide_eq_true (by first | (with_reducible assumption) | assumption)); obtain ⟨ad202, e202, hx202_0⟩ := Kd.at_int (Kd.R_reads' HO_10.out).2.2 (ji64) p202 q202; obtain rfl : (⟨go25, 0, none⟩ : Addr) = ad202 := (by injection e202); (first | simp only [add_plain] at hx202_0 | simp only [add_at] at hx202_0 | simp only [Addr.add, Nat.zero_add] at hx202_0 | skip); replace p202 := eq_true p202; replace q202 := eq_true q202; have p70 : 0 ≤ ((ji64) : Int) := of_decide_eq_true (by first | (with_reducible assumption) | assumption); have q70 : ((ji64) : Int) < ((t183.length : Int) : Int) := of_decide_eq_true (by first | (with_reducible assumption) | assumption); obtain ⟨hx70_0, hf70_0⟩ := Kd.R_celln 0 HO_10.out ((ji64) : Int) p70 q70; replace p70 := eq_true p70; replace q70 := eq_true q70; obtain ⟨hy89_, hz89_⟩ := Kd.R_celln 0 HO_10.out ((ji64) : Int) (of_decide_eq_true (by first | (with_reducible assumption) | assumption)) (of_decide_eq_true (by first | (with_reducible assumption) | assumption)); have HP89 := Kd.R_putg HO_10.out ((ji64) : Int) (Go.bits .xor .u8 (rd y187 (ji64)) (ji69))) | ((with_reducible refine gate_store (t := 5) (p := 87) rfl ?_); refine store_event (t := 5) (p := 87) (v := ?vo_w90) (w1 := (w88.setCell ⟨go25, ((ji64) : Int).toNat, none⟩ (.int .u8 (Go.bits .xor .u8 (rd y187 (ji64)) (ji69))))) ?hg ?ho ?hn ?hr ?_; (case ho => rfl); (case hg => rfl); (case hn => rfl); (case hr => first | (go_simp; done) | (go_simp; rfl)); intro w90 hw; have hg : w88.grownBy w90 (some go25) := (by rw [hw]; exact HP89.2); have hp_ : Kd.R (Kd.int .u8) 5 w90 w.heap.size (fun _ => True) (.slice (some ⟨go25, 0, none⟩) t183.length co10) y203 := (by rw [hw, Ny203.out]; exact HP89.1); clear HP89; have n0_ := Aside0.mk (hp_); have n1_ := Aside0.mk ((by rw [hw]; exact below_set (HB.out) GB25.out : Below w.heap.size w w90)); clear HO_10; clear HB; have HO_10 := n0_; have HB := n1_; clear n0_ n1_; clear hg hw hp_) | ((with_reducible refine gate_callee (f := 12) rfl ?_); refine goesL_ (some 112) rfl rfl Try.func12 (by kernel_rfl) rfl #[.slice (some ⟨go25, 0, none⟩) y203.length co10] rfl (by (try simp only [List.map_toArray, List.map_cons, List.map_nil]); first | done | (rw [show y203.length = t183.length from (Kd.R_reads' HO_10.out).1.symm] <;> rfl) | rfl | (simp only [List.length_drop, List.length_take]; rfl)) ?_; (with_reducible refine (crc_Open.calls _ _ y203 t208 t209 _ ?side1 ?side2 A85.out).mono ?_); (case side1 => repeat (first | exact (Kd.R_reads' HO_10.out).2.2 | (with_reducible refine Kd.C_alloc ?_ _) | (with_reducible refine Kd.C_drewN ?_ _) | (with_reducible refine Kd.C_drew ?_))); (case side2 => rw [show y203.length = t183.length from (Kd.R_reads' HO_10.out).1.symm]; exact (Kd.R_reads' HO_10.out).2.1); rintro e w91 ⟨v210, rfl, ho0, hb⟩; refine ⟨_, rfl, ?_⟩; have n0_ := Aside0.mk (Kd.R_elder' (by (with_reducible repeat (first | apply Kd.R_alloc | apply Kd.R_drewN | apply Kd.R_drew)); exact HO_10.out) (Kd.R_base ho0) hb); have n1_ := Aside0.mk (Kd.R_lower (Kd.R_new' ho0 (Kd.R_lt (by (with_reducible repeat (first | apply Kd.R_alloc | apply Kd.R_drewN | apply Kd.R_drew)); exact HO_10.out))) (below_size (by repeat (first | (with_reducible first | exact HB.out | apply below_alloc | apply pw_below_drewN | apply below_drew1) | exact HB.out)))); have n2_ := Aside0.mk (below_step (by repeat (first | (with_reducible first | exact HB.out | apply below_alloc | apply pw_below_drewN | apply below_drew1) | exact HB.out)) hb); clear HO_10; clear HB; have HO_10 := n0_; have HO211 := n1_; have HB := n2_; clear n0_ n1_ n2_; (try clear hb); (try clear hb2); (try clear hk); (try clear hi); (try clear ho0)))
                              go_ret
                              exact ⟨by first | rfl | (simp [errW_none, errW_some] <;> rfl) | (simp only [← hji19, ← hji22, ← hji24, ← hji64, ← hji67, ← hji69]; first | rfl | (simp [errW_none, errW_some] <;> rfl)) | (simp [*, errW_none, errW_some] <;> rfl), by repeat (first | (with_reducible first | exact HB.out | apply below_alloc | apply pw_below_drewN | apply below_drew1) | exact HB.out)⟩
                            · replace c86 := Bool.eq_false_iff.mpr c86
                              subst c86
                              have H1 : (some false) = some r := by rw [if_neg (show ¬ (false = true) by decide)] at H; exact H
                              clear H
                              have H := H1
                              clear H1
                              obtain rfl := Option.some.inj H
                              have p186 : 0 ≤ ((ji19) : Int) := of_decide_eq_true (by first | (with_reducible assumption) | assumption)
                              have q186 : (ji19) < (t183.length : Int) := of_decide_eq_true (by first | (with_reducible assumption) | assumption)
                              obtain ⟨ad186, e186, hx186_0⟩ := Kd.at_int (Kd.R_reads' HO_10.out).2.2 (ji19) p186 q186
                              cases e186
                              replace p186 := eq_true p186
                              replace q186 := eq_true q186
                              have p25 : 0 ≤ ((ji19) : Int) := of_decide_eq_true (by first | (with_reducible assumption) | assumption)
                              have q25 : ((ji19) : Int) < ((t183.length : Int) : Int) := of_decide_eq_true (by first | (with_reducible assumption) | assumption)
                              obtain ⟨go25, co25, eo25, gb25, gl25, cl25, HG25⟩ := Kd.R_form HO_10.out (by omega)
                              (first | cases eo25 | (injection eo25 with ea_ en_ ec_; (first | subst ea_ | (injection ea_ with ea_; subst ea_)); subst ec_; clear en_))
                              have GB25 := Aside0.mk gb25
                              have GG25 := Aside0.mk HG25
                              clear gb25 gl25 HG25
                              (first | simp only [add_plain] at hx186_0 | skip)
                              obtain ⟨hx25_0, hf25_0⟩ := Kd.R_celln 0 HO_10.out ((ji19) : Int) p25 q25
                              replace p25 := eq_true p25
                              replace q25 := eq_true q25
                              have HP92 := Kd.R_putg HO_10.out ((ji19) : Int) (Go.bits .xor .u8 (rd t183 (ji19)) (ji24))
                              go_wp2_with (first | ((with_reducible refine gate_store (t := 5) (p := 70) rfl ?_); refine store_event (t := 5) (p := 70) (v := ?vo_w93) (w1 := (wc.setCell ⟨go25, ((ji19) : Int).toNat, none⟩ (.int .u8 (Go.bits .xor .u8 (rd t183 (ji19)) (ji24))))) ?hg ?ho ?hn ?hr ?_; (case ho => rfl); (case hg => rfl); (case hn => rfl); (case hr => first | (go_simp; done) | (go_simp; rfl)); intro w93 hw; have hg : wc.grownBy w93 (some go25) := (by rw [hw]; exact HP92.2); have hp_ : Kd.R (Kd.int .u8) 5 w93 w.heap.size (fun _ => True) (.slice (some ⟨go25, 0, none⟩) t183.length co10) y187 := (by rw [hw, Ny187.out]; exact HP92.1); clear HP92; have n0_ := Aside0.mk (hp_); have n1_ := Aside0.mk ((by rw [hw]; exact below_set (HB.out) GB25.out : Below w.heap.size w w93)); clear HO_10; clear HB; have HO_10 := n0_; have HB := n1_; clear n0_ n1_; clear hg hw hp_; have p202 : 0 ≤ ((ji64) : Int) := of_decide_eq_true (by first | (with_reducible assumption) | assumption); have q202 : (ji64) < (y187.length : Int) := (by have h_ : ((ji64) : Int) < ((t183.length : Int) : Int) := of_decide_eq_true (by first | (with_reducible assumption) | assumption); first | (have e_ := (Kd.R_reads' HO_10.out).1; omega) | simpa only [Ny187.out, List.length_set] using h_); have ql202 : (((ji64) : Int) < ((t183.length : Int) : Int)) = True := eq_true (of_decide_eq_true (by first | (with_reducible assumption) | assumption)); obtain ⟨ad202, e202, hx202_0⟩ := Kd.at_int (Kd.R_reads' HO_10.out).2.2 (ji64) p202 q202; obtain rfl : (⟨go25, 0, none⟩ : Addr) = ad202 := (by injection e202); (first | simp only [add_plain] at hx202_0 | simp only [add_at] at hx202_0 | simp only [Addr.add, Nat.zero_add] at hx202_0 | skip); replace p202 := eq_true p202; replace q202 := eq_true q202; have p70 : 0 ≤ ((ji64) : Int) := of_decide_eq_true (by first | (with_reducible assumption) | assumption); have q70 : ((ji64) : Int) < ((t183.length : Int) : Int) := of_decide_eq_true (by first | (with_reducible assumption) | assumption); obtain ⟨hx70_0, hf70_0⟩ := Kd.R_celln 0 HO_10.out ((ji64) : Int) p70 q70; replace p70 := eq_true p70; replace q70 := eq_true q70; obtain ⟨hy94_, hz94_⟩ := Kd.R_celln 0 HO_10.out ((ji64) : Int) (of_decide_eq_true (by first | (with_reducible assumption) | assumption)) (of_decide_eq_true (by first | (with_reducible assumption) | assumption)); have HP94 := Kd.R_putg HO_10.out ((ji64) : Int) (Go.bits .xor .u8 (rd y187 (ji64)) (ji69))) | ((with_reducible refine gate_store (t := 5) (p := 87) rfl ?_); refine store_event (t := 5) (p := 87) (v := ?vo_w95) (w1 := (w93.setCell ⟨go25, ((ji64) : Int).toNat, none⟩ (.int .u8 (Go.bits .xor .u8 (rd y187 (ji64)) (ji69))))) ?hg ?ho ?hn ?hr ?_; (case ho => rfl); (case hg => rfl); (case hn => rfl); (case hr => first | (go_simp; done) | (go_simp; rfl)); intro w95 hw; have hg : w93.grownBy w95 (some go25) := (by rw [hw]; exact HP94.2); have hp_ : Kd.R (Kd.int .u8) 5 w95 w.heap.size (fun _ => True) (.slice (some ⟨go25, 0, none⟩) t183.length co10) y203 := (by rw [hw, Ny203.out]; exact HP94.1); clear HP94; have n0_ := Aside0.mk (hp_); have n1_ := Aside0.mk ((by rw [hw]; exact below_set (HB.out) GB25.out : Below w.heap.size w w95)); clear HO_10; clear HB; have HO_10 := n0_; have HB := n1_; clear n0_ n1_; clear hg hw hp_) | ((with_reducible refine gate_callee (f := 12) rfl ?_); refine goesL_ (some 112) rfl rfl Try.func12 (by kernel_rfl) rfl #[.slice (some ⟨go25, 0, none⟩) y203.length co10] rfl (by (try simp only [List.map_toArray, List.map_cons, List.map_nil]); first | done | (rw [show y203.length = t183.length from (Kd.R_reads' HO_10.out).1.symm] <;> rfl) | rfl | (simp only [List.length_drop, List.length_take]; rfl)) ?_; (with_reducible refine (crc_Open.calls _ _ y203 t208 t209 _ ?side1 ?side2 A85.out).mono ?_); (case side1 => repeat (first | exact (Kd.R_reads' HO_10.out).2.2 | (with_reducible refine Kd.C_alloc ?_ _) | (with_reducible refine Kd.C_drewN ?_ _) | (with_reducible refine Kd.C_drew ?_))); (case side2 => rw [show y203.length = t183.length from (Kd.R_reads' HO_10.out).1.symm]; exact (Kd.R_reads' HO_10.out).2.1); rintro e w96 ⟨v210, rfl, ho0, hb⟩; refine ⟨_, rfl, ?_⟩; have n0_ := Aside0.mk (Kd.R_elder' (by (with_reducible repeat (first | apply Kd.R_alloc | apply Kd.R_drewN | apply Kd.R_drew)); exact HO_10.out) (Kd.R_base ho0) hb); have n1_ := Aside0.mk (Kd.R_lower (Kd.R_new' ho0 (Kd.R_lt (by (with_reducible repeat (first | apply Kd.R_alloc | apply Kd.R_drewN | apply Kd.R_drew)); exact HO_10.out))) (below_size (by repeat (first | (with_reducible first | exact HB.out | apply below_alloc | apply pw_below_drewN | apply below_drew1) | exact HB.out)))); have n2_ := Aside0.mk (below_step (by repeat (first | (with_reducible first | exact HB.out | apply below_alloc | apply pw_below_drewN | apply below_drew1) | exact HB.out)) hb); clear HO_10; clear HB; have HO_10 := n0_; have HO211 := n1_; have HB := n2_; clear n0_ n1_ n2_; (try clear hb); (try clear hb2); (try clear hk); (try clear hi); (try clear ho0)))
                              go_ret
                              exact ⟨by first | rfl | (simp [errW_none, errW_some] <;> rfl) | (simp only [← hji19, ← hji22, ← hji24, ← hji64, ← hji67, ← hji69]; first | rfl | (simp [errW_none, errW_some] <;> rfl)) | (simp [*, errW_none, errW_some] <;> rfl), by repeat (first | (with_reducible first | exact HB.out | apply below_alloc | apply pw_below_drewN | apply below_drew1) | exact HB.out)⟩
                          · rw [if_neg c84] at H
                            have c84b0 : (a3 == a2) = false := beq_eq_false_iff_ne.mpr c84
                            have c84b1 : (a3 != a2) = true := bne_iff_ne.mpr c84
                            obtain ⟨ji97, hji97⟩ : ∃ j_ : Int, (wrap64 (Int.tdiv a3 8)) = j_ := ⟨_, rfl⟩
                            replace H : (if 0 ≤ (ji97) then (if (ji97) < (t183.length : Int) then (if 0 ≤ (IntKind.u64.wrap (Int.tmod a3 8)) then ((crc_Open.f (y203.set ((ji97) : Int).toNat (Go.bits .xor .u8 (rd y203 (ji97)) (shl .u8 1 (IntKind.u64.wrap (Int.tmod a3 8)))))).bind fun bt214 => (if t182 = true then (some (!bt214.2)) else (some false))) else (none)) else (none)) else (none)) = some r := by first | (rw [hji97] at H; exact H) | (simp only [hji97] at H ⊢; exact H)
                            have hji97w : (IntKind.i64.wrap (Int.tdiv a3 8)) = ji97 := (i64_w _).trans hji97
                            by_cases c98 : 0 ≤ (ji97)
                            · rw [if_pos c98] at H
                              have c98b0 : decide (0 ≤ (ji97)) = true := decide_eq_true c98
                              clear c98
                              by_cases c99 : (ji97) < (t183.length : Int)
                              · rw [if_pos c99] at H
                                have c99b0 : decide ((ji97) < (t183.length : Int)) = true := decide_eq_true c99
                                clear c99
                                obtain ⟨ji100, hji100⟩ : ∃ j_ : Int, (IntKind.u64.wrap (Int.tmod a3 8)) = j_ := ⟨_, rfl⟩
                                replace H : (if 0 ≤ (ji100) then ((crc_Open.f (y203.set ((ji97) : Int).toNat (Go.bits .xor .u8 (rd y203 (ji97)) (shl .u8 1 (ji100))))).bind fun bt214 => (if t182 = true then (some (!bt214.2)) else (some false))) else (none)) = some r := by first | (rw [hji100] at H; exact H) | (simp only [hji100] at H ⊢; exact H)
                                by_cases c101 : 0 ≤ (ji100)
                                · rw [if_pos c101] at H
                                  have c101b0 := eq_true c101
                                  have c101b1 : decide (0 ≤ (ji100)) = true := decide_eq_true c101
                                  clear c101
                                  obtain ⟨ji102, hji102⟩ : ∃ j_ : Int, (shl .u8 1 (ji100)) = j_ := ⟨_, rfl⟩
                                  replace H : ((crc_Open.f (y203.set ((ji97) : Int).toNat (Go.bits .xor .u8 (rd y203 (ji97)) (ji102)))).bind fun bt214 => (if t182 = true then (some (!bt214.2)) else (some false))) = some r := by first | (rw [hji102] at H; exact H) | (simp only [hji102] at H ⊢; exact H)
                                  have hji102_ : (IntKind.u8.wrap (1 * 2 ^ min (ji100).toNat 8)) = ji102 := hji102
                                  have hji102z : (ji100) ≤ 8 → (IntKind.u8.wrap (1 * 2 ^ (ji100).toNat)) = ji102 := shl_small hji102
                                  have hji102u : (IntKind.u8.wrap (2 ^ min (ji100).toNat 8)) = ji102 := by have h_ := hji102_; rw [Int.one_mul] at h_; exact h_
                                  have hji102v : (ji100) ≤ 8 → (IntKind.u8.wrap (2 ^ (ji100).toNat)) = ji102 := fun hle_ => by have h_ := hji102z hle_; rw [Int.one_mul] at h_; exact h_
                                  have hji102l : (2 ^ ((ji100)).toNat % 256) = ji102 := by have h_ := hji102u; rw [IntKind.wrap_u8, pow_min8] at h_; exact h_
                                  obtain ⟨y213, hy213⟩ : ∃ y_ : List Int, y_ = (y203.set ((ji97) : Int).toNat (Go.bits .xor .u8 (rd y203 (ji97)) (ji102))) := ⟨_, rfl⟩
                                  replace H : ((crc_Open.f y213).bind fun bt214 => (if t182 = true then (some (!bt214.2)) else (some false))) = some r := by first | (rw [hy213]; with_reducible exact H) | (have H2_ := (Option.bind_some _ _).symm.trans H; rw [hy213]; with_reducible exact H2_) | (have H2_ := (Option.bind_some _ _).symm.trans H; with_reducible exact H2_) | with_reducible exact H | (rw [hy213]; exact H) | exact H
                                  have Ny213 := Aside0.mk hy213
                                  clear hy213
                                  replace H := Option.bind_eq_some_iff.mp H
                                  obtain ⟨⟨t214, t215⟩, A1040, H⟩ := H
                                  replace H : (if t182 = true then (some (!t215)) else (some false)) = some r := H
                                  have A104 := Aside0.mk A1040
                                  clear A1040
                                  by_cases c105 : t182 = true
                                  · subst c105
                                    have H1 : (some (!t215)) = some r := by rw [if_pos rfl] at H; exact H
                                    clear H
                                    have H := H1
                                    clear H1
                                    obtain rfl := Option.some.inj H
                                    have p186 : 0 ≤ ((ji19) : Int) := of_decide_eq_true (by first | (with_reducible assumption) | assumption)
                                    have q186 : (ji19) < (t183.length : Int) := of_decide_eq_true (by first | (with_reducible assumption) | assumption)
                                    obtain ⟨ad186, e186, hx186_0⟩ := Kd.at_int (Kd.R_reads' HO_10.out).2.2 (ji19) p186 q186
                                    cases e186
                                    replace p186 := eq_true p186
                                    replace q186 := eq_true q186
                                    have p25 : 0 ≤ ((ji19) : Int) := of_decide_eq_true (by first | (with_reducible assumption) | assumption)
                                    have q25 : ((ji19) : Int) < ((t183.length : Int) : Int) := of_decide_eq_true (by first | (with_reducible assumption) | assumption)
                                    obtain ⟨go25, co25, eo25, gb25, gl25, cl25, HG25⟩ := Kd.R_form HO_10.out (by omega)
                                    (first | cases eo25 | (injection eo25 with ea_ en_ ec_; (first | subst ea_ | (injection ea_ with ea_; subst ea_)); subst ec_; clear en_))
                                    have GB25 := Aside0.mk gb25
                                    have GG25 := Aside0.mk HG25
                                    clear gb25 gl25 HG25
                                    (first | simp only [add_plain] at hx186_0 | skip)
                                    obtain ⟨hx25_0, hf25_0⟩ := Kd.R_celln 0 HO_10.out ((ji19) : Int) p25 q25
                                    replace p25 := eq_true p25
                                    replace q25 := eq_true q25
                                    have HP106 := Kd.R_putg HO_10.out ((ji19) : Int) (Go.bits .xor .u8 (rd t183 (ji19)) (ji24))
                                    go_wp2_with (first | ((with_reducible refine gate_store (t := 5) (p := 70) rfl ?_); refine store_event (t := 5) (p := 70) (v := ?vo_w107) (w1 := (wc.setCell ⟨go25, ((ji19) : Int).toNat, none⟩ (.int .u8 (Go.bits .xor .u8 (rd t183 (ji19)) (ji24))))) ?hg ?ho ?hn ?hr ?_; (case ho => rfl); (case hg => rfl); (case hn => rfl); (case hr => first | (go_simp; done) | (go_simp; rfl)); intro w107 hw; have hg : wc.grownBy w107 (some go25) := (by rw [hw]; exact HP106.2); have hp_ : Kd.R (Kd.int .u8) 5 w107 w.heap.size (fun _ => True) (.slice (some ⟨go25, 0, none⟩) t183.length co10) y187 := (by rw [hw, Ny187.out]; exact HP106.1); clear HP106; have n0_ := Aside0.mk (hp_); have n1_ := Aside0.mk ((by rw [hw]; exact below_set (HB.out) GB25.out : Below w.heap.size w w107)); clear HO_10; clear HB; have HO_10 := n0_; have HB := n1_; clear n0_ n1_; clear hg hw hp_; have p202 : 0 ≤ ((ji64) : Int) := of_decide_eq_true (by first | (with_reducible assumption) | assumption); have q202 : (ji64) < (y187.length : Int) := (by have h_ : ((ji64) : Int) < ((t183.length : Int) : Int) := of_decide_eq_true (by first | (with_reducible assumption) | assumption); first | (have e_ := (Kd.R_reads' HO_10.out).1; omega) | simpa only [Ny187.out, List.length_set] using h_); have ql202 : (((ji64) : Int) < ((t183.length : Int) : Int)) = True := eq_true (of_decide_eq_true (by first | (with_reducible assumption) | assumption)); obtain ⟨ad202, e202, hx202_0⟩ := Kd.at_int (Kd.R_reads' HO_10.out).2.2 (ji64) p202 q202; obtain rfl : (⟨go25, 0, none⟩ : Addr) = ad202 := (by injection e202); (first | simp only [add_plain] at hx202_0 | simp only [add_at] at hx202_0 | simp only [Addr.add, Nat.zero_add] at hx202_0 | skip); replace p202 := eq_true p202; replace q202 := eq_true q202; have p70 : 0 ≤ ((ji64) : Int) := of_decide_eq_true (by first | (with_reducible assumption) | assumption); have q70 : ((ji64) : Int) < ((t183.length : Int) : Int) := of_decide_eq_true (by first | (with_reducible assumption) | assumption); obtain ⟨hx70_0, hf70_0⟩ := Kd.R_celln 0 HO_10.out ((ji64) : Int) p70 q70; replace p70 := eq_true p70; replace q70 := eq_true q70; obtain ⟨hy108_, hz108_⟩ := Kd.R_celln 0 HO_10.out ((ji64) : Int) (of_decide_eq_true (by first | (with_reducible assumption) | assumption)) (of_decide_eq_true (by first | (with_reducible assumption) | assumption)); have HP108 := Kd.R_putg HO_10.out ((ji64) : Int) (Go.bits .xor .u8 (rd y187 (ji64)) (ji69))) | ((with_reducible refine gate_store (t := 5) (p := 87) rfl ?_); refine store_event (t := 5) (p := 87) (v := ?vo_w109) (w1 := (w107.setCell ⟨go25, ((ji64) : Int).toNat, none⟩ (.int .u8 (Go.bits .xor .u8 (rd y187 (ji64)) (ji69))))) ?hg ?ho ?hn ?hr ?_; (case ho => rfl); (case hg => rfl); (case hn => rfl); (case hr => first | (go_simp; done) | (go_simp; rfl)); intro w109 hw; have hg : w107.grownBy w109 (some go25) := (by rw [hw]; exact HP108.2); have hp_ : Kd.R (Kd.int .u8) 5 w109 w.heap.size (fun _ => True) (.slice (some ⟨go25, 0, none⟩) t183.length co10) y203 := (by rw [hw, Ny203.out]; exact HP108.1); clear HP108; have n0_ := Aside0.mk (hp_); have n1_ := Aside0.mk ((by rw [hw]; exact below_set (HB.out) GB25.out : Below w.heap.size w w109)); clear HO_10; clear HB; have HO_10 := n0_; have HB := n1_; clear n0_ n1_; clear hg hw hp_; have p212 : 0 ≤ ((ji97) : Int) := of_decide_eq_true (by first | (with_reducible assumption) | assumption); have q212 : (ji97) < (y203.length : Int) := (by have h_ : ((ji97) : Int) < ((t183.length : Int) : Int) := of_decide_eq_true (by first | (with_reducible assumption) | assumption); first | (have e_ := (Kd.R_reads' HO_10.out).1; omega) | simpa only [Ny187.out, Ny203.out, List.length_set] using h_); have ql212 : (((ji97) : Int) < ((t183.length : Int) : Int)) = True := eq_true (of_decide_eq_true (by first | (with_reducible assumption) | assumption)); obtain ⟨ad212, e212, hx212_0⟩ := Kd.at_int (Kd.R_reads' HO_10.out).2.2 (ji97) p212 q212; obtain rfl : (⟨go25, 0, none⟩ : Addr) = ad212 := (by injection e212); (first | simp only [add_plain] at hx212_0 | simp only [add_at] at hx212_0 | simp only [Addr.add, Nat.zero_add] at hx212_0 | skip); replace p212 := eq_true p212; replace q212 := eq_true q212; have p103 : 0 ≤ ((ji97) : Int) := of_decide_eq_true (by first | (with_reducible assumption) | assumption); have q103 : ((ji97) : Int) < ((t183.length : Int) : Int) := of_decide_eq_true (by first | (with_reducible assumption) | assumption); obtain ⟨hx103_0, hf103_0⟩ := Kd.R_celln 0 HO_10.out ((ji97) : Int) p103 q103; replace p103 := eq_true p103; replace q103 := eq_true q103; obtain ⟨hy110_, hz110_⟩ := Kd.R_celln 0 HO_10.out ((ji97) : Int) (of_decide_eq_true (by first | (with_reducible assumption) | assumption)) (of_decide_eq_true (by first | (with_reducible assumption) | assumption)); have HP110 := Kd.R_putg HO_10.out ((ji97) : Int) (Go.bits .xor .u8 (rd y203 (ji97)) (ji102))) | ((with_reducible refine gate_store (t := 5) (p := 109) rfl ?_); refine store_event (t := 5) (p := 109) (v := ?vo_w111) (w1 := (w109.setCell ⟨go25, ((ji97) : Int).toNat, none⟩ (.int .u8 (Go.bits .xor .u8 (rd y203 (ji97)) (ji102))))) ?hg ?ho ?hn ?hr ?_; (case ho => rfl); (case hg => rfl); (case hn => rfl); (case hr => first | (go_simp; done) | (go_simp; rfl)); intro w111 hw; have hg : w109.grownBy w111 (some go25) := (by rw [hw]; exact HP110.2); have hp_ : Kd.R (Kd.int .u8) 5 w111 w.heap.size (fun _ => True) (.slice (some ⟨go25, 0, none⟩) t183.length co10) y213 := (by rw [hw, Ny213.out]; exact HP110.1); clear HP110; have n0_ := Aside0.mk (hp_); have n1_ := Aside0.mk ((by rw [hw]; exact below_set (HB.out) GB25.out : Below w.heap.size w w111)); clear HO_10; clear HB; have HO_10 := n0_; have HB := n1_; clear n0_ n1_; clear hg hw hp_) | ((with_reducible refine gate_callee (f := 12) rfl ?_); refine goesL_ (some 112) rfl rfl Try.func12 (by kernel_rfl) rfl #[.slice (some ⟨go25, 0, none⟩) y213.length co10] rfl (by (try simp only [List.map_toArray, List.map_cons, List.map_nil]); first | done | (rw [show y213.length = t183.length from (Kd.R_reads' HO_10.out).1.symm] <;> rfl) | rfl | (simp only [List.length_drop, List.length_take]; rfl)) ?_; (with_reducible refine (crc_Open.calls _ _ y213 t214 t215 _ ?side1 ?side2 A104.out).mono ?_); (case side1 => repeat (first | exact (Kd.R_reads' HO_10.out).2.2 | (with_reducible refine Kd.C_alloc ?_ _) | (with_reducible refine Kd.C_drewN ?_ _) | (with_reducible refine Kd.C_drew ?_))); (case side2 => rw [show y213.length = t183.length from (Kd.R_reads' HO_10.out).1.symm]; exact (Kd.R_reads' HO_10.out).2.1); rintro e w112 ⟨v216, rfl, ho0, hb⟩; refine ⟨_, rfl, ?_⟩; have n0_ := Aside0.mk (Kd.R_elder' (by (with_reducible repeat (first | apply Kd.R_alloc | apply Kd.R_drewN | apply Kd.R_drew)); exact HO_10.out) (Kd.R_base ho0) hb); have n1_ := Aside0.mk (Kd.R_lower (Kd.R_new' ho0 (Kd.R_lt (by (with_reducible repeat (first | apply Kd.R_alloc | apply Kd.R_drewN | apply Kd.R_drew)); exact HO_10.out))) (below_size (by repeat (first | (with_reducible first | exact HB.out | apply below_alloc | apply pw_below_drewN | apply below_drew1) | exact HB.out)))); have n2_ := Aside0.mk (below_step (by repeat (first | (with_reducible first | exact HB.out | apply below_alloc | apply pw_below_drewN | apply below_drew1) | exact HB.out)) hb); clear HO_10; clear HB; have HO_10 := n0_; have HO217 := n1_; have HB := n2_; clear n0_ n1_ n2_; (try clear hb); (try clear hb2); (try clear hk); (try clear hi); (try clear ho0)))
                                    go_ret
                                    exact ⟨by first | rfl | (simp [errW_none, errW_some] <;> rfl) | (simp only [← hji19, ← hji22, ← hji24, ← hji64, ← hji67, ← hji69, ← hji97, ← hji100, ← hji102]; first | rfl | (simp [errW_none, errW_some] <;> rfl)) | (simp [*, errW_none, errW_some] <;> rfl), by repeat (first | (with_reducible first | exact HB.out | apply below_alloc | apply pw_below_drewN | apply below_drew1) | exact HB.out)⟩
                                  · replace c105 := Bool.eq_false_iff.mpr c105
                                    subst c105
                                    have H1 : (some false) = some r := by rw [if_neg (show ¬ (false = true) by decide)] at H; exact H
                                    clear H
                                    have H := H1
                                    clear H1
                                    obtain rfl := Option.some.inj H
                                    have p186 : 0 ≤ ((ji19) : Int) := of_decide_eq_true (by first | (with_reducible assumption) | assumption)
                                    have q186 : (ji19) < (t183.length : Int) := of_decide_eq_true (by first | (with_reducible assumption) | assumption)
                                    obtain ⟨ad186, e186, hx186_0⟩ := Kd.at_int (Kd.R_reads' HO_10.out).2.2 (ji19) p186 q186
                                    cases e186
                                    replace p186 := eq_true p186
                                    replace q186 := eq_true q186
                                    have p25 : 0 ≤ ((ji19) : Int) := of_decide_eq_true (by first | (with_reducible assumption) | assumption)
                                    have q25 : ((ji19) : Int) < ((t183.length : Int) : Int) := of_decide_eq_true (by first | (with_reducible assumption) | assumption)
                                    obtain ⟨go25, co25, eo25, gb25, gl25, cl25, HG25⟩ := Kd.R_form HO_10.out (by omega)
                                    (first | cases eo25 | (injection eo25 with ea_ en_ ec_; (first | subst ea_ | (injection ea_ with ea_; subst ea_)); subst ec_; clear en_))
                                    have GB25 := Aside0.mk gb25
                                    have GG25 := Aside0.mk HG25
                                    clear gb25 gl25 HG25
                                    (first | simp only [add_plain] at hx186_0 | skip)
                                    obtain ⟨hx25_0, hf25_0⟩ := Kd.R_celln 0 HO_10.out ((ji19) : Int) p25 q25
                                    replace p25 := eq_true p25
                                    replace q25 := eq_true q25
                                    have HP113 := Kd.R_putg HO_10.out ((ji19) : Int) (Go.bits .xor .u8 (rd t183 (ji19)) (ji24))
                                    go_wp2_with (first | ((with_reducible refine gate_store (t := 5) (p := 70) rfl ?_); refine store_event (t := 5) (p := 70) (v := ?vo_w114) (w1 := (wc.setCell ⟨go25, ((ji19) : Int).toNat, none⟩ (.int .u8 (Go.bits .xor .u8 (rd t183 (ji19)) (ji24))))) ?hg ?ho ?hn ?hr ?_; (case ho => rfl); (case hg => rfl); (case hn => rfl); (case hr => first | (go_simp; done) | (go_simp; rfl)); intro w114 hw; have hg : wc.grownBy w114 (some go25) := (by rw [hw]; exact HP113.2); have hp_ : Kd.R (Kd.int .u8) 5 w114 w.heap.size (fun _ => True) (.slice (some ⟨go25, 0, none⟩) t183.length co10) y187 := (by rw [hw, Ny187.out]; exact HP113.1); clear HP113; have n0_ := Aside0.mk (hp_); have n1_ := Aside0.mk ((by rw [hw]; exact below_set (HB.out) GB25.out : Below w.heap.size w w114)); clear HO_10; clear HB; have HO_10 := n0_; have HB := n1_; clear n0_ n1_; clear hg hw hp_; have p202 : 0 ≤ ((ji64) : Int) := of_decide_eq_true (by first | (with_reducible assumption) | assumption); have q202 : (ji64) < (y187.length : Int) := (by have h_ : ((ji64) : Int) < ((t183.length : Int) : Int) := of_decide_eq_true (by first | (with_reducible assumption) | assumption); first | (have e_ := (Kd.R_reads' HO_10.out).1; omega) | simpa only [Ny187.out, List.length_set] using h_); have ql202 : (((ji64) : Int) < ((t183.length : Int) : Int)) = True := eq_true (of_decide_eq_true (by first | (with_reducible assumption) | assumption)); obtain ⟨ad202, e202, hx202_0⟩ := Kd.at_int (Kd.R_reads' HO_10.out).2.2 (ji64) p202 q202; obtain rfl : (⟨go25, 0, none⟩ : Addr) = ad202 := (by injection e202); (first | simp only [add_plain] at hx202_0 | simp only [add_at] at hx202_0 | simp only [Addr.add, Nat.zero_add] at hx202_0 | skip); replace p202 := eq_true p202; replace q202 := eq_true q202; have p70 : 0 ≤ ((ji64) : Int) := of_decide_eq_true (by first | (with_reducible assumption) | assumption); have q70 : ((ji64) : Int) < ((t183.length : Int) : Int) := of_decide_eq_true (by first | (with_reducible assumption) | assumption); obtain ⟨hx70_0, hf70_0⟩ := Kd.R_celln 0 HO_10.out ((ji64) : Int) p70 q70; replace p70 := eq_true p70; replace q70 := eq_true q70; obtain ⟨hy115_, hz115_⟩ := Kd.R_celln 0 HO_10.out ((ji64) : Int) (of_decide_eq_true (by first | (with_reducible assumption) | assumption)) (of_decide_eq_true (by first | (with_reducible assumption) | assumption)); have HP115 := Kd.R_putg HO_10.out ((ji64) : Int) (Go.bits .xor .u8 (rd y187 (ji64)) (ji69))) | ((with_reducible refine gate_store (t := 5) (p := 87) rfl ?_); refine store_event (t := 5) (p := 87) (v := ?vo_w116) (w1 := (w114.setCell ⟨go25, ((ji64) : Int).toNat, none⟩ (.int .u8 (Go.bits .xor .u8 (rd y187 (ji64)) (ji69))))) ?hg ?ho ?hn ?hr ?_; (case ho => rfl); (case hg => rfl); (case hn => rfl); (case hr => first | (go_simp; done) | (go_simp; rfl)); intro w116 hw; have hg : w114.grownBy w116 (some go25) := (by rw [hw]; exact HP115.2); have hp_ : Kd.R (Kd.int .u8) 5 w116 w.heap.size (fun _ => True) (.slice (some ⟨go25, 0, none⟩) t183.length co10) y203 := (by rw [hw, Ny203.out]; exact HP115.1); clear HP115; have n0_ := Aside0.mk (hp_); have n1_ := Aside0.mk ((by rw [hw]; exact below_set (HB.out) GB25.out : Below w.heap.size w w116)); clear HO_10; clear HB; have HO_10 := n0_; have HB := n1_; clear n0_ n1_; clear hg hw hp_; have p212 : 0 ≤ ((ji97) : Int) := of_decide_eq_true (by first | (with_reducible assumption) | assumption); have q212 : (ji97) < (y203.length : Int) := (by have h_ : ((ji97) : Int) < ((t183.length : Int) : Int) := of_decide_eq_true (by first | (with_reducible assumption) | assumption); first | (have e_ := (Kd.R_reads' HO_10.out).1; omega) | simpa only [Ny187.out, Ny203.out, List.length_set] using h_); have ql212 : (((ji97) : Int) < ((t183.length : Int) : Int)) = True := eq_true (of_decide_eq_true (by first | (with_reducible assumption) | assumption)); obtain ⟨ad212, e212, hx212_0⟩ := Kd.at_int (Kd.R_reads' HO_10.out).2.2 (ji97) p212 q212; obtain rfl : (⟨go25, 0, none⟩ : Addr) = ad212 := (by injection e212); (first | simp only [add_plain] at hx212_0 | simp only [add_at] at hx212_0 | simp only [Addr.add, Nat.zero_add] at hx212_0 | skip); replace p212 := eq_true p212; replace q212 := eq_true q212; have p103 : 0 ≤ ((ji97) : Int) := of_decide_eq_true (by first | (with_reducible assumption) | assumption); have q103 : ((ji97) : Int) < ((t183.length : Int) : Int) := of_decide_eq_true (by first | (with_reducible assumption) | assumption); obtain ⟨hx103_0, hf103_0⟩ := Kd.R_celln 0 HO_10.out ((ji97) : Int) p103 q103; replace p103 := eq_true p103; replace q103 := eq_true q103; obtain ⟨hy117_, hz117_⟩ := Kd.R_celln 0 HO_10.out ((ji97) : Int) (of_decide_eq_true (by first | (with_reducible assumption) | assumption)) (of_decide_eq_true (by first | (with_reducible assumption) | assumption)); have HP117 := Kd.R_putg HO_10.out ((ji97) : Int) (Go.bits .xor .u8 (rd y203 (ji97)) (ji102))) | ((with_reducible refine gate_store (t := 5) (p := 109) rfl ?_); refine store_event (t := 5) (p := 109) (v := ?vo_w118) (w1 := (w116.setCell ⟨go25, ((ji97) : Int).toNat, none⟩ (.int .u8 (Go.bits .xor .u8 (rd y203 (ji97)) (ji102))))) ?hg ?ho ?hn ?hr ?_; (case ho => rfl); (case hg => rfl); (case hn => rfl); (case hr => first | (go_simp; done) | (go_simp; rfl)); intro w118 hw; have hg : w116.grownBy w118 (some go25) := (by rw [hw]; exact HP117.2); have hp_ : Kd.R (Kd.int .u8) 5 w118 w.heap.size (fun _ => True) (.slice (some ⟨go25, 0, none⟩) t183.length co10) y213 := (by rw [hw, Ny213.out]; exact HP117.1); clear HP117; have n0_ := Aside0.mk (hp_); have n1_ := Aside0.mk ((by rw [hw]; exact below_set (HB.out) GB25.out : Below w.heap.size w w118)); clear HO_10; clear HB; have HO_10 := n0_; have HB := n1_; clear n0_ n1_; clear hg hw hp_) | ((with_reducible refine gate_callee (f := 12) rfl ?_); refine goesL_ (some 112) rfl rfl Try.func12 (by kernel_rfl) rfl #[.slice (some ⟨go25, 0, none⟩) y213.length co10] rfl (by (try simp only [List.map_toArray, List.map_cons, List.map_nil]); first | done | (rw [show y213.length = t183.length from (Kd.R_reads' HO_10.out).1.symm] <;> rfl) | rfl | (simp only [List.length_drop, List.length_take]; rfl)) ?_; (with_reducible refine (crc_Open.calls _ _ y213 t214 t215 _ ?side1 ?side2 A104.out).mono ?_); (case side1 => repeat (first | exact (Kd.R_reads' HO_10.out).2.2 | (with_reducible refine Kd.C_alloc ?_ _) | (with_reducible refine Kd.C_drewN ?_ _) | (with_reducible refine Kd.C_drew ?_))); (case side2 => rw [show y213.length = t183.length from (Kd.R_reads' HO_10.out).1.symm]; exact (Kd.R_reads' HO_10.out).2.1); rintro e w119 ⟨v216, rfl, ho0, hb⟩; refine ⟨_, rfl, ?_⟩; have n0_ := Aside0.mk (Kd.R_elder' (by (with_reducible repeat (first | apply Kd.R_alloc | apply Kd.R_drewN | apply Kd.R_drew)); exact HO_10.out) (Kd.R_base ho0) hb); have n1_ := Aside0.mk (Kd.R_lower (Kd.R_new' ho0 (Kd.R_lt (by (with_reducible repeat (first | apply Kd.R_alloc | apply Kd.R_drewN | apply Kd.R_drew)); exact HO_10.out))) (below_size (by repeat (first | (with_reducible first | exact HB.out | apply below_alloc | apply pw_below_drewN | apply below_drew1) | exact HB.out)))); have n2_ := Aside0.mk (below_step (by repeat (first | (with_reducible first | exact HB.out | apply below_alloc | apply pw_below_drewN | apply below_drew1) | exact HB.out)) hb); clear HO_10; clear HB; have HO_10 := n0_; have HO217 := n1_; have HB := n2_; clear n0_ n1_ n2_; (try clear hb); (try clear hb2); (try clear hk); (try clear hi); (try clear ho0)))
                                    go_ret
                                    exact ⟨by first | rfl | (simp [errW_none, errW_some] <;> rfl) | (simp only [← hji19, ← hji22, ← hji24, ← hji64, ← hji67, ← hji69, ← hji97, ← hji100, ← hji102]; first | rfl | (simp [errW_none, errW_some] <;> rfl)) | (simp [*, errW_none, errW_some] <;> rfl), by repeat (first | (with_reducible first | exact HB.out | apply below_alloc | apply pw_below_drewN | apply below_drew1) | exact HB.out)⟩
                                · rw [if_neg c101] at H
                                  exact absurd H (by simp)
                              · rw [if_neg c99] at H
                                exact absurd H (by simp)
                            · rw [if_neg c98] at H
                              exact absurd H (by simp)
                      · rw [if_neg c68] at H
                        exact absurd H (by simp)
                    · rw [if_neg c66] at H
                      exact absurd H (by simp)
                  · rw [if_neg c65] at H
                    exact absurd H (by simp)
              · rw [if_neg c23] at H
                exact absurd H (by simp)
            · rw [if_neg c21] at H
              exact absurd H (by simp)
          · rw [if_neg c20] at H
            exact absurd H (by simp)
        · rw [if_neg c18] at H
          have c18b0 : ((t183.length : Int) == (wrap64 ((l0.length : Int) + 4))) = false := beq_eq_false_iff_ne.mpr c18
          have c18b1 : ((t183.length : Int) != (wrap64 ((l0.length : Int) + 4))) = true := bne_iff_ne.mpr c18
          obtain rfl := Option.some.inj H
          go_wp2
          go_ret
          exact ⟨by first | rfl | (simp [errW_none, errW_some] <;> rfl) | (simp [*, errW_none, errW_some] <;> rfl), by repeat (first | (with_reducible first | exact HB.out | apply below_alloc | apply pw_below_drewN | apply below_drew1) | exact HB.out)⟩

/-- THE ONE PURE STATEMENT of rosettelaw01_CrcFew: yours. -/
def rosettelaw01_CrcFew.Pure : Prop := ∀ (l0 : List Int) (a1 : Int) (a2 : Int) (a3 : Int), l0.length ≤ maxLen → l0.length * 1 ≤ 140737488351232 → (∀ x ∈ l0, (Lit.int .u8 x).wf = true) → (Lit.int .i64 a1).wf = true → (Lit.int .i64 a2).wf = true → (Lit.int .i64 a3).wf = true → ∃ k, rosettelaw01_CrcFew.f k l0 a1 a2 a3 = some true
theorem rosettelaw01_CrcFew.walk (P : rosettelaw01_CrcFew.Pure) (a0 : Option Addr) (len0 cap0 : Nat) (z0 : List Int) (a1 : Int) (a2 : Int) (a3 : Int) (w : World) (w0 : (a0 = none ∧ len0 = 0 ∧ cap0 = 0 ∧ z0 = []) ∨ ∃ x, a0 = some x ∧ len0 ≤ cap0 ∧ cap0 ≤ maxLen ∧ z0.length = cap0 ∧ (∀ i, i < z0.length → w.cell? (x.add i) = some (.int .u8 (z0.getD i 0))) ∧ ∀ n ∈ z0, (Lit.int .u8 n).wf = true) (y0 : len0 * 1 ≤ 140737488351232) (w1 : (Lit.int .i64 a1).wf = true) (w2 : (Lit.int .i64 a2).wf = true) (w3 : (Lit.int .i64 a3).wf = true) :
    Calls Try.prog 7 #[.slice a0 len0 cap0, .int .i64 a1, .int .i64 a2, .int .i64 a3] w fun e w' => e = .returned (.bool true) ∧ Below w.heap.size w w' := by
  obtain ⟨l0, rfl, hr0, hm0, hw0, hc0⟩ := ReadsInt.ofRowC w0
  obtain ⟨k, h⟩ := P l0 a1 a2 a3 hm0 y0 hw0 w1 w2 w3
  refine (rosettelaw01_CrcFew.calls k _ _ l0 a1 a2 a3 true w (Kd.C_of_reads (d := (0 : Int)) (h1 := fun _ => rfl) hr0) hc0 h).mono ?_
  rintro e w' ⟨rfl, hd⟩
  exact ⟨rfl, hd⟩

end Go.Proofs.Ytidgehkoigeolaa.G
