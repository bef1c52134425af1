import Derived.Test.YticpcjjgdkbcjaaZPacketTurned0
import Derived.Test.YticpcjjgdkbcjaaZPacketTurned1
import Derived.BigQuiet
import Derived.Deep.QuietTactic
import Derived.Laws.BitsAllLaws
import Derived.Deep.CutRange
import Derived.Outline
section
-- Written by a program of this session (wip/tools/myprint.py), over the kit's print.
namespace Go.Proofs.Yticpcjjgdkbcjaa.G
open Go.RowKit Go.Proofs.YticpcjjgdkbcjaaW.PrintWords Go.Proofs.YticpcjjgdkbcjaaW.PrintLast Go.Proofs.YticpcjjgdkbcjaaW.PrintMore
attribute [local go_sem] max2_int min2_int max_two min_two max_three min_three max_four min_four   -- for this text's walks alone
set_option linter.unusedVariables false
set_option linter.unusedSimpArgs false

/-! ### rosetteref01_Low: function 46 -/
def rosetteref01_Low.f (a0 : Int) : Option (List Int) := some (([(a0) % 256, ((Int.tdiv a0 256) % 4294967296) % 256, ((Int.tdiv a0 65536) % 4294967296) % 256, ((Int.tdiv a0 16777216) % 4294967296) % 256] : List Int))
set_option maxHeartbeats 8000000 in
set_option maxRecDepth 100000 in
theorem rosetteref01_Low.calls (a0 : Int) (r : List Int) (w : World) (h : rosetteref01_Low.f a0 = some r) :
    Calls Try.prog 46 #[.int .u32 a0] w fun e w' => ∃ v0_ : Value, e = .returned (v0_) ∧ Kd.R (Kd.int .u8) 5 w' w.heap.size (fun _ => True) v0_ r ∧ Below w.heap.size w w' := by
  have HB := Aside0.mk (Below.refl w.heap.size w)
  have H : (some (([(a0) % 256, ((Int.tdiv a0 256) % 4294967296) % 256, ((Int.tdiv a0 65536) % 4294967296) % 256, ((Int.tdiv a0 16777216) % 4294967296) % 256] : List Int))) = some r := h
  clear h
  obtain ⟨y161, hy161⟩ : ∃ y_ : List Int, y_ = (([(a0) % 256, ((Int.tdiv a0 256) % 4294967296) % 256, ((Int.tdiv a0 65536) % 4294967296) % 256, ((Int.tdiv a0 16777216) % 4294967296) % 256] : List Int)) := ⟨_, rfl⟩
  replace H : (some y161) = some r := by first | (rw [hy161]; with_reducible exact H) | (have H2_ := (Option.bind_some _ _).symm.trans H; rw [hy161]; with_reducible exact H2_) | (have H2_ := (Option.bind_some _ _).symm.trans H; with_reducible exact H2_) | with_reducible exact H | (rw [hy161]; exact H) | exact H
  have Ny161 := Aside0.mk hy161
  clear hy161
  obtain rfl := Option.some.inj H
  go_enter Try.func46, Try.ntmps46
  go_wp2_with (first | ((with_reducible refine gate_dst (N := 14) rfl ?_); refine Kd.R_lit (Kd.int .u8) _ 5 ?hg (N := 14) ?hd (xs := ([(a0) % 256, ((Int.tdiv a0 256) % 4294967296) % 256, ((Int.tdiv a0 65536) % 4294967296) % 256, ((Int.tdiv a0 16777216) % 4294967296) % 256] : List Int)) (inner := [.int .u8 ((a0) % 256), .int .u8 (((Int.tdiv a0 256) % 4294967296) % 256), .int .u8 (((Int.tdiv a0 65536) % 4294967296) % 256), .int .u8 (((Int.tdiv a0 16777216) % 4294967296) % 256)]) (ok := fun _ => True) (okp := fun _ => True) ?hr ?hp (fun _ hk => hk) trivial (Below.refl _ _) (Nat.le_refl _) (by simp) ?_; (case hd => rfl); (case hg => rfl); (case hr => first | (go_simp; done) | (go_simp; rfl)); (case hp => exact (Reps.one (show Kd.M (Kd.int .u8) _ _ _ ((a0) % 256) [.int .u8 ((a0) % 256)] from rfl) (Reps.one (show Kd.M (Kd.int .u8) _ _ _ (((Int.tdiv a0 256) % 4294967296) % 256) [.int .u8 (((Int.tdiv a0 256) % 4294967296) % 256)] from rfl) (Reps.one (show Kd.M (Kd.int .u8) _ _ _ (((Int.tdiv a0 65536) % 4294967296) % 256) [.int .u8 (((Int.tdiv a0 65536) % 4294967296) % 256)] from rfl) (Reps.one (show Kd.M (Kd.int .u8) _ _ _ (((Int.tdiv a0 16777216) % 4294967296) % 256) [.int .u8 (((Int.tdiv a0 16777216) % 4294967296) % 256)] from rfl) (Reps.none _ _)))))); intro v162 w2 ho3 hb hg_ hnew_; clear hg_ hnew_; (first | rw [← Ny161.out] at ho3 | (simp only [Int.reduceToNat] at ho3; rw [← Ny161.out] at ho3)); have n0_ := Aside0.mk (Kd.R_lower ho3 (below_size (by repeat (first | (with_reducible first | exact HB.out | apply below_alloc | apply pw_below_drewN | apply below_drew1) | exact HB.out)))); have n1_ := Aside0.mk (below_step (by repeat (first | (with_reducible first | exact HB.out | apply below_alloc | apply pw_below_drewN | apply below_drew1) | exact HB.out)) hb); clear HB; have HO163 := n0_; have HB := n1_; clear n0_ n1_; clear hb ho3))
  go_ret
  exact ⟨_, by first | rfl | (simp [errW_none, errW_some] <;> rfl) | (simp [*, errW_none, errW_some] <;> rfl), by (with_reducible repeat (first | apply Kd.R_alloc | apply Kd.R_drewN | apply Kd.R_drew)); exact HO163.out, by repeat (first | (with_reducible first | exact HB.out | apply below_alloc | apply pw_below_drewN | apply below_drew1) | exact HB.out)⟩

end Go.Proofs.Yticpcjjgdkbcjaa.G
end

section
-- Written by a program of this session (wip/tools/myprint.py), over the kit's print.
namespace Go.Proofs.Yticpcjjgdkbcjaa.G
open Go.RowKit Go.Proofs.YticpcjjgdkbcjaaW.PrintWords Go.Proofs.YticpcjjgdkbcjaaW.PrintLast Go.Proofs.YticpcjjgdkbcjaaW.PrintMore
attribute [local go_sem] max2_int min2_int max_two min_two max_three min_three max_four min_four   -- for this text's walks alone
set_option linter.unusedVariables false
set_option linter.unusedSimpArgs false

/-! ### rosetteref01_turned: function 55 -/
def rosetteref01_turned.l0 : Nat → Int → Int → Option (Int)
  | 0, _, _ => none
  | k + 1, x0, x3 => if x3 < 8 then (if (Int.tmod x0 2) = 1 then (rosetteref01_turned.l0 k (Go.bits .xor .u32 ((Int.tdiv x0 2) % 4294967296) 3988292384) (wrap64 (x3 + 1))) else (rosetteref01_turned.l0 k ((Int.tdiv x0 2) % 4294967296) (wrap64 (x3 + 1)))) else (some x0)
def rosetteref01_turned.f (k : Nat) (a0 : Int) : Option (Int) := rosetteref01_turned.l0 k a0 0
theorem rosetteref01_turned.mono_l : ∀ k, (∀ y0 y1, LeO (rosetteref01_turned.l0 k y0 y1) (rosetteref01_turned.l0 (k + 1) y0 y1))
  | 0 => fun _ _ r h => by simp [rosetteref01_turned.l0] at h
  | k + 1 => by
    have ih0 := rosetteref01_turned.mono_l k
    · intro y0 y1
      unfold rosetteref01_turned.l0
      repeat' first
      | (with_reducible exact ih0 _ _)
      | (with_reducible exact LeO.refl _)
      | (with_reducible exact LeO.none _)
      | (with_reducible refine LeO.ite ?_ ?_)
      | (with_reducible refine LeO.bind ?_ (fun _ => ?_))
      | exact ih0 _ _
      | exact LeO.none _
      | refine LeO.ite ?_ ?_
      | refine LeO.bind ?_ (fun _ => ?_)
theorem rosetteref01_turned.mono : ∀ a0 k, LeO (rosetteref01_turned.f k a0) (rosetteref01_turned.f (k + 1) a0) := by
  intro a0 k
  have ih0 := rosetteref01_turned.mono_l k
  unfold rosetteref01_turned.f
  repeat' first
      | (with_reducible exact ih0 _ _)
      | (with_reducible exact LeO.refl _)
      | (with_reducible exact LeO.none _)
      | (with_reducible refine LeO.ite ?_ ?_)
      | (with_reducible refine LeO.bind ?_ (fun _ => ?_))
      | exact ih0 _ _
      | exact LeO.none _
      | refine LeO.ite ?_ ?_
      | refine LeO.bind ?_ (fun _ => ?_)
set_option maxHeartbeats 8000000 in
set_option maxRecDepth 100000 in
theorem rosetteref01_turned.calls (k : Nat) (a0 : Int) (r : Int) (w : World) (h : rosetteref01_turned.f k a0 = some r) :
    Calls Try.prog 55 #[.int .u32 a0] w fun e w' => e = .returned (.int .u32 r) ∧ Drawn0 w w' := by
  have H : (rosetteref01_turned.l0 k a0 0) = some r := h
  clear h
  have H' := Aside0.mk H
  clear H
  go_enter Try.func55, Try.ntmps55
  go_wp2
  go_loopg [0, 3] k (fun kq v0 v3 w' => ∃ (x0_1 : Int) (x3_1 : Int), v0 = .int .u32 x0_1 ∧ v3 = .int .i64 x3_1 ∧ Aside0 (rosetteref01_turned.l0 kq x0_1 x3_1 = some r) ∧ Aside0 (kq ≤ k) ∧ Drawn0 w w')
  case atStart => exact ⟨(a0), (0), (by first | rfl | (simp; done) | (simp [*]; done)), (by first | rfl | (simp; done) | (simp [*]; done)), H', ⟨Nat.le_refl _⟩, by repeat (first | exact Drawn0.refl _ | apply Drawn0.step)⟩
  case round =>
    clear H'
    obtain ⟨x0_1, x3_1, rfl, rfl, HA, HK1, ⟨m1, rfl⟩⟩ := hrel
    cases gk with
    | zero => exact absurd HA.out (by simp [rosetteref01_turned.l0])
    | succ k1 =>
      have H := HA.out
      clear HA
      simp only [rosetteref01_turned.l0] at H
      by_cases c2 : x3_1 < 8
      · rw [if_pos c2] at H
        have c2b0 : decide (x3_1 < 8) = true := decide_eq_true c2
        clear c2
        by_cases c3 : (Int.tmod x0_1 2) = 1
        · rw [if_pos c3] at H
          have c3b0 : ((Int.tmod x0_1 2) == 1) = true := beq_iff_eq.mpr c3
          have c3b1 : ((Int.tmod x0_1 2) != 1) = false := bne_eq_false_iff_eq.mpr c3
          clear c3
          have H' := Aside0.mk H
          clear H
          go_wp2
          go_roundg k1
          case measure => have := HK1.out; omega
          case rel => exact ⟨(Go.bits .xor .u32 ((Int.tdiv x0_1 2) % 4294967296) 3988292384), (wrap64 (x3_1 + 1)), (by first | rfl | (simp; done) | (simp [*]; done)), (by first | rfl | (simp; done) | (simp [*]; done)), H', ⟨by have := HK1.out; omega⟩, by repeat (first | exact Drawn0.refl _ | apply Drawn0.step)⟩
        · rw [if_neg c3] at H
          have c3b0 : ((Int.tmod x0_1 2) == 1) = false := beq_eq_false_iff_ne.mpr c3
          have c3b1 : ((Int.tmod x0_1 2) != 1) = true := bne_iff_ne.mpr c3
          have H' := Aside0.mk H
          clear H
          go_wp2
          go_roundg k1
          case measure => have := HK1.out; omega
          case rel => exact ⟨((Int.tdiv x0_1 2) % 4294967296), (wrap64 (x3_1 + 1)), (by first | rfl | (simp; done) | (simp [*]; done)), (by first | rfl | (simp; done) | (simp [*]; done)), H', ⟨by have := HK1.out; omega⟩, by repeat (first | exact Drawn0.refl _ | apply Drawn0.step)⟩
      · rw [if_neg c2] at H
        have c2b0 : decide (x3_1 < 8) = false := decide_eq_false c2
        clear c2
        obtain rfl := Option.some.inj H
        go_wp2
        go_ret
        exact ⟨by first | rfl | (simp; done) | (simp [*]; done), by repeat (first | exact Drawn0.refl _ | apply Drawn0.step)⟩

end Go.Proofs.Yticpcjjgdkbcjaa.G
end

section
-- Written by a program of this session (wip/tools/myprint.py), over the kit's print.
namespace Go.Proofs.Yticpcjjgdkbcjaa.G
open Go.RowKit Go.Proofs.YticpcjjgdkbcjaaW.PrintWords Go.Proofs.YticpcjjgdkbcjaaW.PrintLast Go.Proofs.YticpcjjgdkbcjaaW.PrintMore
attribute [local go_sem] max2_int min2_int max_two min_two max_three min_three max_four min_four   -- for this text's walks alone
set_option linter.unusedVariables false
set_option linter.unusedSimpArgs false

/-! ### rosetteref01_Add: function 53 -/
def rosetteref01_Add.l0 : Nat → List Int → Int → Int → Option (Int)
  | 0, _, _, _ => none
  | k + 1, x1, x5, x6 => if x6 < (x1.length : Int) then (if 0 ≤ x6 then ((rosetteref01_turned.f k (Go.bits .xor .u32 (Go.bits .and .u32 x5 255) ((rd x1 x6) % 4294967296))).bind fun t165 => (rosetteref01_Add.l0 k x1 (Go.bits .xor .u32 t165 ((Int.tdiv x5 256) % 4294967296)) (wrap64 (x6 + 1)))) else (none)) else (some (Go.bits .xor .u32 x5 4294967295))
def rosetteref01_Add.f (k : Nat) (a0 : Int) (l1 : List Int) : Option (Int) := rosetteref01_Add.l0 k l1 (Go.bits .xor .u32 a0 4294967295) 0
theorem rosetteref01_Add.mono_l : ∀ k, (∀ y0 y1 y2, LeO (rosetteref01_Add.l0 k y0 y1 y2) (rosetteref01_Add.l0 (k + 1) y0 y1 y2))
  | 0 => fun _ _ _ r h => by simp [rosetteref01_Add.l0] at h
  | k + 1 => by
    have ih0 := rosetteref01_Add.mono_l k
    · intro y0 y1 y2
      unfold rosetteref01_Add.l0
      repeat' first
      | (with_reducible exact ih0 _ _ _)
      | (with_reducible exact rosetteref01_turned.mono _ _)
      | (with_reducible exact LeO.refl _)
      | (with_reducible exact LeO.none _)
      | (with_reducible refine LeO.ite ?_ ?_)
      | (with_reducible refine LeO.bind ?_ (fun _ => ?_))
      | exact ih0 _ _ _
      | exact rosetteref01_turned.mono _ _
      | exact LeO.none _
      | refine LeO.ite ?_ ?_
      | refine LeO.bind ?_ (fun _ => ?_)
theorem rosetteref01_Add.mono : ∀ a0 a1 k, LeO (rosetteref01_Add.f k a0 a1) (rosetteref01_Add.f (k + 1) a0 a1) := by
  intro a0 a1 k
  have ih0 := rosetteref01_Add.mono_l k
  unfold rosetteref01_Add.f
  repeat' first
      | (with_reducible exact ih0 _ _ _)
      | (with_reducible exact rosetteref01_turned.mono _ _)
      | (with_reducible exact LeO.refl _)
      | (with_reducible exact LeO.none _)
      | (with_reducible refine LeO.ite ?_ ?_)
      | (with_reducible refine LeO.bind ?_ (fun _ => ?_))
      | exact ih0 _ _ _
      | exact rosetteref01_turned.mono _ _
      | exact LeO.none _
      | refine LeO.ite ?_ ?_
      | refine LeO.bind ?_ (fun _ => ?_)
set_option maxHeartbeats 8000000 in
set_option maxRecDepth 100000 in
theorem rosetteref01_Add.calls (k : Nat) (a0 : Int) (A1 : Option Addr) (c1 : Nat) (l1 : List Int) (r : Int) (w : World) (hr1 : Kd.C (Kd.int .u8) w A1 l1.length l1) (hc1 : l1.length ≤ c1) (h : rosetteref01_Add.f k a0 l1 = some r) :
    Calls Try.prog 53 #[.int .u32 a0, .slice A1 l1.length c1] w fun e w' => e = .returned (.int .u32 r) ∧ Drawn0 w w' := by
  have HR1 := Aside0.mk hr1
  have HC1 := Aside0.mk hc1
  clear hr1 hc1
  have H : (rosetteref01_Add.l0 k l1 (Go.bits .xor .u32 a0 4294967295) 0) = some r := h
  clear h
  have H' := Aside0.mk H
  clear H
  go_enter Try.func53, Try.ntmps53
  go_wp2
  go_loopg [5, 6] k (fun kq v5 v6 w' => ∃ (x5_1 : Int) (x6_1 : Int), v5 = .int .u32 x5_1 ∧ v6 = .int .i64 x6_1 ∧ Aside0 (rosetteref01_Add.l0 kq l1 x5_1 x6_1 = some r) ∧ Aside0 (kq ≤ k) ∧ Drawn0 w w')
  case atStart => exact ⟨(Go.bits .xor .u32 a0 4294967295), (0), (by first | rfl | (simp; done) | (simp [*]; done)), (by first | rfl | (simp; done) | (simp [*]; done)), H', ⟨Nat.le_refl _⟩, by repeat (first | exact Drawn0.refl _ | apply Drawn0.step)⟩
  case round =>
    clear H'
    try clear c1
    try clear p2
    obtain ⟨x5_1, x6_1, rfl, rfl, HA, HK1, ⟨m1, rfl⟩⟩ := hrel
    cases gk with
    | zero => exact absurd HA.out (by simp [rosetteref01_Add.l0])
    | succ k1 =>
      have H := HA.out
      clear HA
      simp only [rosetteref01_Add.l0] at H
      by_cases c3 : x6_1 < (l1.length : Int)
      · rw [if_pos c3] at H
        have c3b0 : decide (x6_1 < (l1.length : Int)) = true := decide_eq_true c3
        clear c3
        by_cases c4 : 0 ≤ x6_1
        · rw [if_pos c4] at H
          have c4b0 : decide (0 ≤ x6_1) = true := decide_eq_true c4
          clear c4
          replace H := Option.bind_eq_some_iff.mp H
          obtain ⟨t165, A50, H⟩ := H
          replace H : (rosetteref01_Add.l0 k1 l1 (Go.bits .xor .u32 t165 ((Int.tdiv x5_1 256) % 4294967296)) (wrap64 (x6_1 + 1))) = some r := H
          have A5 := Aside0.mk A50
          clear A50
          have H' := Aside0.mk H
          clear H
          have p164 : 0 ≤ (x6_1 : Int) := of_decide_eq_true (by first | (with_reducible assumption) | assumption)
          have q164 : x6_1 < (l1.length : Int) := of_decide_eq_true (by first | (with_reducible assumption) | assumption)
          obtain ⟨ad164, e164, hx164_0⟩ := Kd.at_int HR1.out x6_1 p164 q164
          cases e164
          replace p164 := eq_true p164
          replace q164 := eq_true q164
          go_wp2_with (first | ((with_reducible refine gate_callee (f := 55) rfl ?_); refine goesL_ (some 23) rfl rfl Try.func55 (by kernel_rfl) rfl #[.int .u32 (Go.bits .xor .u32 (Go.bits .and .u32 x5_1 255) ((rd l1 x6_1) % 4294967296))] rfl (by (try simp only [List.map_toArray, List.map_cons, List.map_nil]); first | done | rfl | (simp only [List.length_drop, List.length_take]; rfl)) ?_; (with_reducible refine (rosetteref01_turned.calls k1 (Go.bits .xor .u32 (Go.bits .and .u32 x5_1 255) ((rd l1 x6_1) % 4294967296)) t165 _ A5.out).mono ?_); rintro e w' ⟨rfl, ⟨nd, rfl⟩⟩; refine ⟨_, rfl, ?_⟩))
          go_roundg k1
          case measure => have := HK1.out; omega
          case rel => exact ⟨(Go.bits .xor .u32 t165 ((Int.tdiv x5_1 256) % 4294967296)), (wrap64 (x6_1 + 1)), (by first | rfl | (simp; done) | (simp [*]; done)), (by first | rfl | (simp; done) | (simp [*]; done)), H', ⟨by have := HK1.out; omega⟩, by repeat (first | exact Drawn0.refl _ | apply Drawn0.step)⟩
        · rw [if_neg c4] at H
          exact absurd H (by simp)
      · rw [if_neg c3] at H
        have c3b0 : decide (x6_1 < (l1.length : Int)) = false := decide_eq_false c3
        clear c3
        obtain rfl := Option.some.inj H
        go_wp2
        go_ret
        exact ⟨by first | rfl | (simp; done) | (simp [*]; done), by repeat (first | exact Drawn0.refl _ | apply Drawn0.step)⟩

end Go.Proofs.Yticpcjjgdkbcjaa.G
end

section
-- Written by a program of this session (wip/tools/myprint.py), over the kit's print.
namespace Go.Proofs.Yticpcjjgdkbcjaa.G
open Go.RowKit Go.Proofs.YticpcjjgdkbcjaaW.PrintWords Go.Proofs.YticpcjjgdkbcjaaW.PrintLast Go.Proofs.YticpcjjgdkbcjaaW.PrintMore
attribute [local go_sem] max2_int min2_int max_two min_two max_three min_three max_four min_four   -- for this text's walks alone
set_option linter.unusedVariables false
set_option linter.unusedSimpArgs false

/-! ### rosetteref01_Sum: function 47 -/
def rosetteref01_Sum.f (k : Nat) (l0 : List Int) : Option (Int) := (rosetteref01_Add.f k 0 l0).bind fun t166 => (some t166)
theorem rosetteref01_Sum.mono : ∀ a0 k, LeO (rosetteref01_Sum.f k a0) (rosetteref01_Sum.f (k + 1) a0) := by
  intro a0 k
  unfold rosetteref01_Sum.f
  repeat' first
      | (with_reducible exact rosetteref01_Add.mono _ _ _)
      | (with_reducible exact LeO.refl _)
      | (with_reducible exact LeO.none _)
      | (with_reducible refine LeO.ite ?_ ?_)
      | (with_reducible refine LeO.bind ?_ (fun _ => ?_))
      | exact rosetteref01_Add.mono _ _ _
      | exact LeO.none _
      | refine LeO.ite ?_ ?_
      | refine LeO.bind ?_ (fun _ => ?_)
set_option maxHeartbeats 8000000 in
set_option maxRecDepth 100000 in
theorem rosetteref01_Sum.calls (k : Nat) (A0 : Option Addr) (c0 : Nat) (l0 : List Int) (r : Int) (w : World) (hr0 : Kd.C (Kd.int .u8) w A0 l0.length l0) (hc0 : l0.length ≤ c0) (h : rosetteref01_Sum.f k l0 = some r) :
    Calls Try.prog 47 #[.slice A0 l0.length c0] w fun e w' => e = .returned (.int .u32 r) ∧ Drawn0 w w' := by
  have HR0 := Aside0.mk hr0
  have HC0 := Aside0.mk hc0
  clear hr0 hc0
  have H : ((rosetteref01_Add.f k 0 l0).bind fun t166 => (some t166)) = some r := h
  clear h
  replace H := Option.bind_eq_some_iff.mp H
  obtain ⟨t166, A20, H⟩ := H
  replace H : (some t166) = some r := H
  have A2 := Aside0.mk A20
  clear A20
  obtain rfl := Option.some.inj H
  go_enter Try.func47, Try.ntmps47
  go_wp2_with (first | ((with_reducible refine gate_callee (f := 53) rfl ?_); refine goesL_ (some 4) rfl rfl Try.func53 (by kernel_rfl) rfl #[.int .u32 0, .slice A0 l0.length c0] rfl (by (try simp only [List.map_toArray, List.map_cons, List.map_nil]); first | done | rfl | (simp only [List.length_drop, List.length_take]; rfl)) ?_; (with_reducible refine (rosetteref01_Add.calls k 0 _ _ l0 t166 _ ?side1 ?side2 A2.out).mono ?_); (case side1 => repeat (first | exact HR0.out | (with_reducible refine Kd.C_alloc ?_ _) | (with_reducible refine Kd.C_drewN ?_ _) | (with_reducible refine Kd.C_drew ?_))); (case side2 => exact HC0.out); rintro e w' ⟨rfl, ⟨nd, rfl⟩⟩; refine ⟨_, rfl, ?_⟩))
  go_ret
  exact ⟨by first | rfl | (simp; done) | (simp [*]; done), by repeat (first | exact Drawn0.refl _ | apply Drawn0.step)⟩

end Go.Proofs.Yticpcjjgdkbcjaa.G
end

section
-- Written by a program of this session (wip/tools/myprint.py), over the kit's print.
namespace Go.Proofs.Yticpcjjgdkbcjaa.G
open Go.RowKit Go.Proofs.YticpcjjgdkbcjaaW.PrintWords Go.Proofs.YticpcjjgdkbcjaaW.PrintLast Go.Proofs.YticpcjjgdkbcjaaW.PrintMore
attribute [local go_sem] max2_int min2_int max_two min_two max_three min_three max_four min_four   -- for this text's walks alone
set_option linter.unusedVariables false
set_option linter.unusedSimpArgs false

/-! ### rosetteref01_Open: function 44 -/
def rosetteref01_Open.f (k : Nat) (l0 : List Int) : Option (List Int × Bool) := if (wrap64 ((l0.length : Int) - 4)) < 0 then (some (([] : List Int), false)) else (if 0 ≤ (wrap64 ((l0.length : Int) - 4)) then (if (wrap64 ((l0.length : Int) - 4)) ≤ (l0.length : Int) then ((rosetteref01_Sum.f k (l0.take ((wrap64 ((l0.length : Int) - 4)) : Int).toNat)).bind fun t242 => ((rosetteref01_Low.f t242).bind fun t243 => (if (strOfNums t243).toList = (strOfNums (l0.drop ((wrap64 ((l0.length : Int) - 4)) : Int).toNat)).toList then ((some (([] : List Int) : List Int)).bind fun y247 => (if y247.length + (l0.take ((wrap64 ((l0.length : Int) - 4)) : Int).toNat).length < 140737488355328 then (some ((y247 ++ (l0.take ((wrap64 ((l0.length : Int) - 4)) : Int).toNat)), true)) else (none))) else (some (([] : List Int), false))))) else (none)) else (none))
theorem rosetteref01_Open.mono : ∀ a0 k, LeO (rosetteref01_Open.f k a0) (rosetteref01_Open.f (k + 1) a0) := by
  intro a0 k
  unfold rosetteref01_Open.f
  repeat' first
      | (with_reducible exact rosetteref01_Sum.mono _ _)
      | (with_reducible exact LeO.refl _)
      | (with_reducible exact LeO.none _)
      | (with_reducible refine LeO.ite ?_ ?_)
      | (with_reducible refine LeO.bind ?_ (fun _ => ?_))
      | exact rosetteref01_Sum.mono _ _
      | exact LeO.none _
      | refine LeO.ite ?_ ?_
      | refine LeO.bind ?_ (fun _ => ?_)
def rosetteref01_Open.T2 : Bool × List (List Nat × List Nat) := (true, [([], []), ([0], [0]), ([1], [1]), ([2], [2]), ([2], [2]), ([3, 4, 2], [2, 3, 4]), ([5, 2, 2], [2, 5]), ([6, 6, 2], [2, 6]), ([7, 2], [2, 7]), ([2], [2]), ([2], [2]), ([9, 10, 2], [2, 9, 10]), ([11, 2], [2, 11]), ([8, 12, 2], [2, 8, 12]), ([2, 13], [2, 13])])
def rosetteref01_Open.B2 : List Nat := [0, 1, 3, 7, 7, 31, 63, 127, 255, 7, 7, 1543, 3591, 8191, 16383]
theorem rosetteref01_Open.tab2 : rtab .any (opsOf Try.f44 2) = rosetteref01_Open.T2 := by kernel_rfl
theorem rosetteref01_Open.bits2 : waitsOk rosetteref01_Open.T2.2 rosetteref01_Open.B2 = true := by kernel_rfl
set_option maxHeartbeats 8000000 in
set_option maxRecDepth 100000 in
theorem rosetteref01_Open.calls (k : Nat) (A0 : Option Addr) (c0 : Nat) (l0 : List Int) (r1 : List Int) (r2 : Bool) (w : World) (hr0 : Kd.C (Kd.int .u8) w A0 l0.length l0) (hc0 : l0.length ≤ c0) (h : rosetteref01_Open.f k l0 = some (r1, r2)) :
    Calls Try.prog 44 #[.slice A0 l0.length c0] w fun e w' => ∃ v0_ : Value, e = .returned (.tuple #[v0_, .bool r2]) ∧ Kd.R (Kd.int .u8) 5 w' w.heap.size (fun _ => True) v0_ r1 ∧ Below w.heap.size w w' := by
  have HR0 := Aside0.mk hr0
  have HC0 := Aside0.mk hc0
  clear hr0 hc0
  have HB := Aside0.mk (Below.refl w.heap.size w)
  have H : (if (wrap64 ((l0.length : Int) - 4)) < 0 then (some (([] : List Int), false)) else (if 0 ≤ (wrap64 ((l0.length : Int) - 4)) then (if (wrap64 ((l0.length : Int) - 4)) ≤ (l0.length : Int) then ((rosetteref01_Sum.f k (l0.take ((wrap64 ((l0.length : Int) - 4)) : Int).toNat)).bind fun t242 => ((rosetteref01_Low.f t242).bind fun t243 => (if (strOfNums t243).toList = (strOfNums (l0.drop ((wrap64 ((l0.length : Int) - 4)) : Int).toNat)).toList then ((some (([] : List Int) : List Int)).bind fun y247 => (if y247.length + (l0.take ((wrap64 ((l0.length : Int) - 4)) : Int).toNat).length < 140737488355328 then (some ((y247 ++ (l0.take ((wrap64 ((l0.length : Int) - 4)) : Int).toNat)), true)) else (none))) else (some (([] : List Int), false))))) else (none)) else (none))) = some (r1, r2) := h
  clear h
  by_cases c2 : (wrap64 ((l0.length : Int) - 4)) < 0
  · rw [if_pos c2] at H
    have c2b0 : decide ((wrap64 ((l0.length : Int) - 4)) < 0) = true := decide_eq_true c2
    clear c2
    simp only [Option.some.injEq, Prod.mk.injEq] at H
    obtain ⟨rfl, rfl⟩ := H
    go_enter Try.func44, Try.ntmps44
    try go_wp2
    have n0_ := Aside0.mk (below_drew1 HB.out)
    clear HB
    have HB := n0_
    clear n0_
    refine start_ (n := 15) (S := fun w' => True) (ds := []) #[false, false, false, false, false, false, false, false, false, false, false, false, false, false, false] (by kernel_rfl) rfl rfl trivial (fun hHeld => ?_); refine with_tabW rosetteref01_Open.tab2 rosetteref01_Open.bits2 (fun HT_ HW_ => ?_)
    generalize w.drew = w3 at HB hHeld ⊢
    refine pure_ (i := 0) (N := some 8) (v := ?_) (a' := ?_) #[true, false, false, false, false, false, false, false, false, false, false, false, false, false, false] rfl rfl (any_of HT_.out (by kernel_rfl)) (fun _ _ _ h => h) (Or.inl ⟨by rfl, ?_⟩) ?_ ?_
    rotate_left
    · intro w'
      go_simp
      with_reducible rfl
    rotate_left
    · simp only [Act.put, List.setIfInBounds_toArray, List.set_cons_zero, List.set_cons_succ, i64_w, i32_w]
      rfl
    refine pure_ (i := 1) (N := some 9) (v := ?_) (a' := ?_) #[true, true, false, false, false, false, false, false, false, false, false, false, false, false, false] rfl rfl (any_of HT_.out (by kernel_rfl)) (fun _ _ _ h => h) (Or.inl ⟨by rfl, ?_⟩) ?_ ?_
    rotate_left
    · intro w'
      go_simp
      with_reducible rfl
    rotate_left
    · simp only [Act.put, List.setIfInBounds_toArray, List.set_cons_zero, List.set_cons_succ, i64_w, i32_w]
      rfl
    refine pure_ (i := 2) (N := some 10) (v := ?_) (a' := ?_) #[true, true, true, false, false, false, false, false, false, false, false, false, false, false, false] rfl rfl (any_of HT_.out (by kernel_rfl)) (fun _ _ _ h => h) (Or.inl ⟨by rfl, ?_⟩) ?_ ?_
    rotate_left
    · intro w'
      go_simp
      with_reducible rfl
    rotate_left
    · simp only [Act.put, List.setIfInBounds_toArray, List.set_cons_zero, List.set_cons_succ, i64_w, i32_w]
      rfl
    refine pure_ (i := 3) (N := some 11) (v := undef) (a' := ?_) #[true, true, true, true, false, false, false, false, false, false, false, false, false, false, false] rfl rfl (any_of HT_.out (by kernel_rfl)) (fun _ _ _ h => h) (Or.inr ⟨by rfl, rfl⟩) ?_ ?_
    rotate_left
    · simp only [Act.put, List.setIfInBounds_toArray, List.set_cons_zero, List.set_cons_succ, i64_w, i32_w]
      rfl
    refine pure_ (i := 4) (N := some 12) (v := undef) (a' := ?_) #[true, true, true, true, true, false, false, false, false, false, false, false, false, false, false] rfl rfl (any_of HT_.out (by kernel_rfl)) (fun _ _ _ h => h) (Or.inr ⟨by rfl, rfl⟩) ?_ ?_
    rotate_left
    · simp only [Act.put, List.setIfInBounds_toArray, List.set_cons_zero, List.set_cons_succ, i64_w, i32_w]
      rfl
    refine pure_ (i := 5) (N := some 13) (v := undef) (a' := ?_) #[true, true, true, true, true, true, false, false, false, false, false, false, false, false, false] rfl rfl (any_of HT_.out (by kernel_rfl)) (fun _ _ _ h => h) (Or.inr ⟨by rfl, rfl⟩) ?_ ?_
    rotate_left
    · simp only [Act.put, List.setIfInBounds_toArray, List.set_cons_zero, List.set_cons_succ, i64_w, i32_w]
      rfl
    refine pure_ (i := 6) (N := some 14) (v := undef) (a' := ?_) #[true, true, true, true, true, true, true, false, false, false, false, false, false, false, false] rfl rfl (any_of HT_.out (by kernel_rfl)) (fun _ _ _ h => h) (Or.inr ⟨by rfl, rfl⟩) ?_ ?_
    rotate_left
    · simp only [Act.put, List.setIfInBounds_toArray, List.set_cons_zero, List.set_cons_succ, i64_w, i32_w]
      rfl
    refine pure_ (i := 7) (N := some 15) (v := undef) (a' := ?_) #[true, true, true, true, true, true, true, true, false, false, false, false, false, false, false] rfl rfl (any_of HT_.out (by kernel_rfl)) (fun _ _ _ h => h) (Or.inr ⟨by rfl, rfl⟩) ?_ ?_
    rotate_left
    · simp only [Act.put, List.setIfInBounds_toArray, List.set_cons_zero, List.set_cons_succ, i64_w, i32_w]
      rfl
    refine pure_ (i := 8) (N := some 16) (v := undef) (a' := ?_) #[true, true, true, true, true, true, true, true, true, false, false, false, false, false, false] rfl rfl (any_of HT_.out (by kernel_rfl)) (fun _ _ _ h => h) (Or.inr ⟨by rfl, rfl⟩) ?_ ?_
    rotate_left
    · simp only [Act.put, List.setIfInBounds_toArray, List.set_cons_zero, List.set_cons_succ, i64_w, i32_w]
      rfl
    refine pure_ (i := 9) (N := some 17) (v := undef) (a' := ?_) #[true, true, true, true, true, true, true, true, true, true, false, false, false, false, false] rfl rfl (any_of HT_.out (by kernel_rfl)) (fun _ _ _ h => h) (Or.inr ⟨by rfl, rfl⟩) ?_ ?_
    rotate_left
    · simp only [Act.put, List.setIfInBounds_toArray, List.set_cons_zero, List.set_cons_succ, i64_w, i32_w]
      rfl
    refine pure_ (i := 10) (N := some 18) (v := undef) (a' := ?_) #[true, true, true, true, true, true, true, true, true, true, true, false, false, false, false] rfl rfl (any_of HT_.out (by kernel_rfl)) (fun _ _ _ h => h) (Or.inr ⟨by rfl, rfl⟩) ?_ ?_
    rotate_left
    · simp only [Act.put, List.setIfInBounds_toArray, List.set_cons_zero, List.set_cons_succ, i64_w, i32_w]
      rfl
    refine pure_ (i := 11) (N := some 19) (v := undef) (a' := ?_) #[true, true, true, true, true, true, true, true, true, true, true, true, false, false, false] rfl rfl (any_of HT_.out (by kernel_rfl)) (fun _ _ _ h => h) (Or.inr ⟨by rfl, rfl⟩) ?_ ?_
    rotate_left
    · simp only [Act.put, List.setIfInBounds_toArray, List.set_cons_zero, List.set_cons_succ, i64_w, i32_w]
      rfl
    refine pure_ (i := 12) (N := some 20) (v := undef) (a' := ?_) #[true, true, true, true, true, true, true, true, true, true, true, true, true, false, false] rfl rfl (any_of HT_.out (by kernel_rfl)) (fun _ _ _ h => h) (Or.inr ⟨by rfl, rfl⟩) ?_ ?_
    rotate_left
    · simp only [Act.put, List.setIfInBounds_toArray, List.set_cons_zero, List.set_cons_succ, i64_w, i32_w]
      rfl
    refine pure_ (i := 13) (N := some 21) (v := undef) (a' := ?_) #[true, true, true, true, true, true, true, true, true, true, true, true, true, true, false] rfl rfl (any_of HT_.out (by kernel_rfl)) (fun _ _ _ h => h) (Or.inr ⟨by rfl, rfl⟩) ?_ ?_
    rotate_left
    · simp only [Act.put, List.setIfInBounds_toArray, List.set_cons_zero, List.set_cons_succ, i64_w, i32_w]
      rfl
    refine pure_ (i := 14) (N := some 22) (v := ?_) (a' := ?_) #[true, true, true, true, true, true, true, true, true, true, true, true, true, true, true] rfl rfl (any_of HT_.out (by kernel_rfl)) (fun _ _ _ h => h) (Or.inl ⟨by rfl, ?_⟩) ?_ ?_
    rotate_left
    · intro w'
      go_simp
      with_reducible rfl
    rotate_left
    · simp only [Act.put, List.setIfInBounds_toArray, List.set_cons_zero, List.set_cons_succ, i64_w, i32_w]
      rfl
    refine done_ (done_of HT_.out (by kernel_rfl)) ?_
    try go_wp2
    go_ret2
    exact ⟨_, by first | rfl | (simp [errW_none, errW_some] <;> rfl) | (simp [*, errW_none, errW_some] <;> rfl), by first | exact Kd.R_nil _ _ _ _ _ | exact Kd.N_nil _ _ _ _ _ | exact Kd.V_nil _ _ _ _ _ | exact Kd.Q_nil _ _ _ _ _ | exact Kd.S_nil _ _ _ _ _, by repeat (first | (with_reducible first | exact HB.out | apply below_alloc | apply pw_below_drewN | apply below_drew1) | exact HB.out)⟩
  · rw [if_neg c2] at H
    have c2b0 : decide ((wrap64 ((l0.length : Int) - 4)) < 0) = false := decide_eq_false c2
    clear c2
    obtain ⟨ji4, hji4⟩ : ∃ j_ : Int, (wrap64 ((l0.length : Int) - 4)) = j_ := ⟨_, rfl⟩
    replace H : (if 0 ≤ (ji4) then (if (ji4) ≤ (l0.length : Int) then ((rosetteref01_Sum.f k (l0.take ((ji4) : Int).toNat)).bind fun t242 => ((rosetteref01_Low.f t242).bind fun t243 => (if (strOfNums t243).toList = (strOfNums (l0.drop ((ji4) : Int).toNat)).toList then ((some (([] : List Int) : List Int)).bind fun y247 => (if y247.length + (l0.take ((ji4) : Int).toNat).length < 140737488355328 then (some ((y247 ++ (l0.take ((ji4) : Int).toNat)), true)) else (none))) else (some (([] : List Int), false))))) else (none)) else (none)) = some (r1, r2) := by first | (rw [hji4] at H; exact H) | (simp only [hji4] at H ⊢; exact H)
    (try rw [hji4] at c2b0)
    have hji4w : (IntKind.i64.wrap ((l0.length : Int) - 4)) = ji4 := (i64_w _).trans hji4
    by_cases c5 : 0 ≤ (ji4)
    · rw [if_pos c5] at H
      have c5b0 := eq_true c5
      have c5b1 : decide (0 ≤ (ji4)) = true := decide_eq_true c5
      clear c5
      by_cases c6 : (ji4) ≤ (l0.length : Int)
      · rw [if_pos c6] at H
        have c6b0 := eq_true c6
        have c6b1 : decide ((ji4) ≤ (l0.length : Int)) = true := decide_eq_true c6
        clear c6
        replace H := Option.bind_eq_some_iff.mp H
        obtain ⟨t242, A70, H⟩ := H
        replace H : ((rosetteref01_Low.f t242).bind fun t243 => (if (strOfNums t243).toList = (strOfNums (l0.drop ((ji4) : Int).toNat)).toList then ((some (([] : List Int) : List Int)).bind fun y247 => (if y247.length + (l0.take ((ji4) : Int).toNat).length < 140737488355328 then (some ((y247 ++ (l0.take ((ji4) : Int).toNat)), true)) else (none))) else (some (([] : List Int), false)))) = some (r1, r2) := H
        have A7 := Aside0.mk A70
        clear A70
        replace H := Option.bind_eq_some_iff.mp H
        obtain ⟨t243, A80, H⟩ := H
        replace H : (if (strOfNums t243).toList = (strOfNums (l0.drop ((ji4) : Int).toNat)).toList then ((some (([] : List Int) : List Int)).bind fun y247 => (if y247.length + (l0.take ((ji4) : Int).toNat).length < 140737488355328 then (some ((y247 ++ (l0.take ((ji4) : Int).toNat)), true)) else (none))) else (some (([] : List Int), false))) = some (r1, r2) := H
        have A8 := Aside0.mk A80
        clear A80
        have c9b0 := eq_true (of_decide_eq_true (by first | (with_reducible assumption) | assumption) : 0 ≤ (ji4))
        have c10b0 := eq_true (of_decide_eq_true (by first | (with_reducible assumption) | assumption) : (ji4) ≤ (l0.length : Int))
        by_cases c11 : (strOfNums t243).toList = (strOfNums (l0.drop ((ji4) : Int).toNat)).toList
        · rw [if_pos c11] at H
          have c11b0 : ((strOfNums t243).toList == (strOfNums (l0.drop ((ji4) : Int).toNat)).toList) = true := beq_iff_eq.mpr c11
          have c11b1 : ((strOfNums t243).toList != (strOfNums (l0.drop ((ji4) : Int).toNat)).toList) = false := bne_eq_false_iff_eq.mpr c11
          clear c11
          obtain ⟨y247, hy247⟩ : ∃ y_ : List Int, y_ = (([] : List Int)) := ⟨_, rfl⟩
          replace H : (if y247.length + (l0.take ((ji4) : Int).toNat).length < 140737488355328 then (some ((y247 ++ (l0.take ((ji4) : Int).toNat)), true)) else (none)) = some (r1, r2) := by first | (rw [hy247]; with_reducible exact H) | (have H2_ := (Option.bind_some _ _).symm.trans H; rw [hy247]; with_reducible exact H2_) | (have H2_ := (Option.bind_some _ _).symm.trans H; with_reducible exact H2_) | with_reducible exact H | (rw [hy247]; exact H) | exact H
          have Ny247 := Aside0.mk hy247
          clear hy247
          have c12b0 := eq_true (of_decide_eq_true (by first | (with_reducible assumption) | assumption) : 0 ≤ (ji4))
          have c13b0 := eq_true (of_decide_eq_true (by first | (with_reducible assumption) | assumption) : (ji4) ≤ (l0.length : Int))
          by_cases c14 : y247.length + (l0.take ((ji4) : Int).toNat).length < 140737488355328
          · rw [if_pos c14] at H
            have LMc14 := Aside0.mk c14
            clear c14
            obtain ⟨y251, hy251⟩ : ∃ y_ : List Int, y_ = (y247 ++ (l0.take ((ji4) : Int).toNat)) := ⟨_, rfl⟩
            replace H : (some (y251, true)) = some (r1, r2) := by first | (rw [hy251]; with_reducible exact H) | (have H2_ := (Option.bind_some _ _).symm.trans H; rw [hy251]; with_reducible exact H2_) | (have H2_ := (Option.bind_some _ _).symm.trans H; with_reducible exact H2_) | with_reducible exact H | (rw [hy251]; exact H) | exact H
            have Ny251 := Aside0.mk hy251
            clear hy251
            simp only [Option.some.injEq, Prod.mk.injEq] at H
            obtain ⟨rfl, rfl⟩ := H
            go_enter Try.func44, Try.ntmps44
            try go_wp2
            have n0_ := Aside0.mk (below_drew1 HB.out)
            clear HB
            have HB := n0_
            clear n0_
            obtain ⟨i016, hi016, _, hsz16, _⟩ := info_parts info5
            obtain ⟨hcut16, hA16, hC16⟩ := print_take_of (P := Try.prog) (Value.int .u8) 0 23 5 .i64 Try.underlying23 hi016 hsz16 A0 c0 l0 (ji4) (of_decide_eq_true (by first | (with_reducible assumption) | assumption)) (of_decide_eq_true (by first | (with_reducible assumption) | assumption)) HC0.out
            have HR241 := Aside0.mk (Kd.C_of_reads (h1 := fun _ => rfl) (hA16 _ (Kd.reads_of_C HR0.out)))
            have HC241 := Aside0.mk hC16
            clear hA16 hC16 hi016 hsz16
            obtain ⟨i017, hi017, _, hsz17, _⟩ := info_parts info5
            obtain ⟨A17, hcut17, hA17, hC17⟩ := print_drop_of (P := Try.prog) (Value.int .u8) 0 23 5 .i64 Try.underlying23 hi017 hsz17 A0 c0 l0 (ji4) (of_decide_eq_true (by first | (with_reducible assumption) | assumption)) (of_decide_eq_true (by first | (with_reducible assumption) | assumption)) HC0.out
            have HR246 := Aside0.mk (Kd.C_of_reads (h1 := fun _ => rfl) (hA17 _ (Kd.reads_of_C HR0.out)))
            have HC246 := Aside0.mk hC17
            clear hA17 hC17 hi017 hsz17
            refine start_ (n := 15) (S := fun w' => (convert 23 9 (.slice A17 (l0.length - ji4.toNat) (c0 - (ji4).toNat))).run Try.prog w' = .ok (.string (strOfNums (l0.drop ((ji4) : Int).toNat))) w') (ds := []) #[false, false, false, false, false, false, false, false, false, false, false, false, false, false, false] (by kernel_rfl) rfl rfl ((by have key_ : ∀ W_ : World, Below w.heap.size w W_ → (convert 23 9 (.slice A17 (l0.length - ji4.toNat) (c0 - (ji4).toNat))).run Try.prog W_ = .ok (.string (strOfNums (l0.drop ((ji4) : Int).toNat))) W_ := (fun W_ hb_ => by have h_ := Kd.C_string (P := Try.prog) (A := A17) (c := (c0 - (ji4).toNat)) Try.underlying23 Try.underlying5 Try.underlying9 (Kd.C_below HR246.out hb_); first | exact h_ | (rw [List.length_drop] at h_; exact h_) | (rw [List.length_take, Nat.min_eq_left (by omega)] at h_; exact h_)); first | exact key_ _ HB.out | exact key_ _ (pw_below_drewN HB.out _) | exact key_ _ (below_drew HB.out) | exact key_ _ (pw_below_drewN (below_drew HB.out) _))) (fun hHeld => ?_); refine with_tabW rosetteref01_Open.tab2 rosetteref01_Open.bits2 (fun HT_ HW_ => ?_)
            generalize w.drew = w15 at HB HR241 HR246 hHeld ⊢
            refine pure_ (i := 0) (N := some 8) (v := ?_) (a' := ?_) #[true, false, false, false, false, false, false, false, false, false, false, false, false, false, false] rfl rfl (any_of HT_.out (by kernel_rfl)) (fun _ _ _ h => h) (Or.inl ⟨by rfl, ?_⟩) ?_ ?_
            rotate_left
            · intro w'
              go_simp
              with_reducible rfl
            rotate_left
            · simp only [Act.put, List.setIfInBounds_toArray, List.set_cons_zero, List.set_cons_succ, i64_w, i32_w]
              rfl
            refine pure_ (i := 1) (N := some 9) (v := ?_) (a' := ?_) #[true, true, false, false, false, false, false, false, false, false, false, false, false, false, false] rfl rfl (any_of HT_.out (by kernel_rfl)) (fun _ _ _ h => h) (Or.inl ⟨by rfl, ?_⟩) ?_ ?_
            rotate_left
            · intro w'
              go_simp
              with_reducible rfl
            rotate_left
            · simp only [Act.put, List.setIfInBounds_toArray, List.set_cons_zero, List.set_cons_succ, i64_w, i32_w]
              rfl
            refine pure_ (i := 2) (N := some 10) (v := ?_) (a' := ?_) #[true, true, true, false, false, false, false, false, false, false, false, false, false, false, false] rfl rfl (any_of HT_.out (by kernel_rfl)) (fun _ _ _ h => h) (Or.inl ⟨by rfl, ?_⟩) ?_ ?_
            rotate_left
            · intro w'
              go_simp
              with_reducible rfl
            rotate_left
            · simp only [Act.put, List.setIfInBounds_toArray, List.set_cons_zero, List.set_cons_succ, i64_w, i32_w]
              rfl
            refine pure_ (i := 3) (N := some 11) (v := ?_) (a' := ?_) #[true, true, true, true, false, false, false, false, false, false, false, false, false, false, false] rfl rfl (any_of HT_.out (by kernel_rfl)) (fun _ _ _ h => h) (Or.inl ⟨by rfl, ?_⟩) ?_ ?_
            rotate_left
            · intro w'
              go_simp
              with_reducible rfl
            rotate_left
            · simp only [Act.put, List.setIfInBounds_toArray, List.set_cons_zero, List.set_cons_succ, i64_w, i32_w]
              rfl
            refine pure_ (i := 4) (N := some 12) (v := ?_) (a' := ?_) #[true, true, true, true, true, false, false, false, false, false, false, false, false, false, false] rfl rfl (any_of HT_.out (by kernel_rfl)) (fun _ _ _ h => h) (Or.inl ⟨by rfl, ?_⟩) ?_ ?_
            rotate_left
            · intro w'
              go_simp
              with_reducible rfl
            rotate_left
            · simp only [Act.put, List.setIfInBounds_toArray, List.set_cons_zero, List.set_cons_succ, i64_w, i32_w]
              rfl
            refine pure_ (i := 5) (N := some 13) (v := ?_) (a' := ?_) #[true, true, true, true, true, true, false, false, false, false, false, false, false, false, false] rfl rfl (any_of HT_.out (by kernel_rfl)) (fun _ _ _ h => h) (Or.inl ⟨by rfl, ?_⟩) ?_ ?_
            rotate_left
            · intro w'
              go_simp
              with_reducible rfl
            rotate_left
            · simp only [Act.put, List.setIfInBounds_toArray, List.set_cons_zero, List.set_cons_succ, i64_w, i32_w]
              rfl
            refine pure_ (i := 9) (N := some 17) (v := ?_) (a' := ?_) #[true, true, true, true, true, true, false, false, false, true, false, false, false, false, false] rfl rfl (any_of HT_.out (by kernel_rfl)) (fun _ _ _ h => h) (Or.inl ⟨by rfl, ?_⟩) ?_ ?_
            rotate_left
            · intro w'
              go_simp
              with_reducible rfl
            rotate_left
            · simp only [Act.put, List.setIfInBounds_toArray, List.set_cons_zero, List.set_cons_succ, i64_w, i32_w]
              rfl
            refine pure_ (i := 10) (N := some 18) (v := ?_) (a' := ?_) #[true, true, true, true, true, true, false, false, false, true, true, false, false, false, false] rfl rfl (any_of HT_.out (by kernel_rfl)) (fun _ _ _ h => h) (Or.inl ⟨by rfl, ?_⟩) ?_ ?_
            rotate_left
            · intro w'
              go_simp
              with_reducible rfl
            rotate_left
            · simp only [Act.put, List.setIfInBounds_toArray, List.set_cons_zero, List.set_cons_succ, i64_w, i32_w]
              rfl
            refine pure_ (i := 11) (N := some 19) (v := ?_) (a' := ?_) #[true, true, true, true, true, true, false, false, false, true, true, true, false, false, false] rfl rfl (any_of HT_.out (by kernel_rfl)) (fun _ _ _ h => h) (Or.inl ⟨by rfl, ?_⟩) ?_ ?_
            rotate_left
            · intro w'
              go_simp
              with_reducible rfl
            rotate_left
            · simp only [Act.put, List.setIfInBounds_toArray, List.set_cons_zero, List.set_cons_succ, i64_w, i32_w]
              rfl
            refine take_ (i := 12) (N := some 20) (v := ?_) (a' := ?_) #[true, true, true, true, true, true, false, false, false, true, true, true, true, false, false] rfl rfl (take_ofW HT_.out HW_.out (by kernel_rfl)) (fun _ _ _ h => h) (Or.inl ⟨by rfl, ?_⟩) hHeld ?_ ?_
            rotate_left
            · intro w' s0
              go_simp
              with_reducible rfl
            rotate_left
            · simp only [Act.put, List.setIfInBounds_toArray, List.set_cons_zero, List.set_cons_succ, i64_w, i32_w]
              rfl
            refine one_ (i := 6) (N := some 14) #[true, true, true, true, true, true, true, false, false, true, true, true, true, false, false] rfl rfl (one_of HT_.out (by kernel_rfl)) (by decide) (fun K hK => ?_)
            refine goes_ Try.func47 (by kernel_rfl) rfl #[.slice A0 (l0.take ((ji4) : Int).toNat).length c0] (by rfl) rfl rfl (by (try simp only [List.map_toArray, List.map_cons, List.map_nil]); first | done | (rw [show (l0.take ((ji4) : Int).toNat).length = (ji4).toNat from (by rw [List.length_take]; have h_ : ((ji4) : Int) ≤ (l0.length : Int) := of_decide_eq_true (by first | (with_reducible assumption) | assumption); omega)] <;> rfl) | (simp only [hji4]; rfl) | rfl | (simp only [List.length_drop, List.length_take]; rfl)) ?_
            with_reducible refine (rosetteref01_Sum.calls k _ _ (l0.take ((ji4) : Int).toNat) t242 _ ?side1 ?side2 A7.out).mono ?_
            (case side1 => repeat (first | exact (Kd.C_below HR241.out HB.out) | (with_reducible refine Kd.C_alloc ?_ _) | (with_reducible refine Kd.C_drewN ?_ _) | (with_reducible refine Kd.C_drew ?_)))
            (case side2 => exact HC241.out)
            rintro e w' ⟨rfl, ⟨nd, rfl⟩⟩
            refine ⟨_, rfl, ?_⟩
            refine hK.out _ _ ((by have key_ : ∀ W_ : World, Below w.heap.size w W_ → (convert 23 9 (.slice A17 (l0.length - ji4.toNat) (c0 - (ji4).toNat))).run Try.prog W_ = .ok (.string (strOfNums (l0.drop ((ji4) : Int).toNat))) W_ := (fun W_ hb_ => by have h_ := Kd.C_string (P := Try.prog) (A := A17) (c := (c0 - (ji4).toNat)) Try.underlying23 Try.underlying5 Try.underlying9 (Kd.C_below HR246.out hb_); first | exact h_ | (rw [List.length_drop] at h_; exact h_) | (rw [List.length_take, Nat.min_eq_left (by omega)] at h_; exact h_)); first | exact key_ _ HB.out | exact key_ _ (pw_below_drewN HB.out _) | exact key_ _ (below_drew HB.out) | exact key_ _ (pw_below_drewN (below_drew HB.out) _))) (fun hHeld => ?_)
            clear hK K
            refine norm_ (a' := ?_) ?_ ?_
            rotate_left
            · show Act.put _ (some 14) _ = _
              simp only [Act.put, List.setIfInBounds_toArray, List.set_cons_zero, List.set_cons_succ, i64_w, i32_w]
              rfl
            refine one_ (i := 7) (N := some 15) #[true, true, true, true, true, true, true, true, false, true, true, true, true, false, false] rfl rfl (one_of HT_.out (by kernel_rfl)) (by decide) (fun K hK => ?_)
            refine goes_ Try.func46 (by kernel_rfl) rfl #[.int .u32 t242] (by rfl) rfl rfl (by (try simp only [List.map_toArray, List.map_cons, List.map_nil]); first | done | rfl | (simp only [List.length_drop, List.length_take]; rfl)) ?_
            with_reducible refine (rosetteref01_Low.calls t242 t243 _ A8.out).mono ?_
            rintro e w18 ⟨v244, rfl, ho0, hb⟩
            refine ⟨_, rfl, ?_⟩
            have n0_ := Aside0.mk (Kd.R_lower ho0 (below_size (by repeat (first | (with_reducible first | exact HB.out | apply below_alloc | apply pw_below_drewN | apply below_drew1) | exact HB.out))))
            have n1_ := Aside0.mk (below_step (by repeat (first | (with_reducible first | exact HB.out | apply below_alloc | apply pw_below_drewN | apply below_drew1) | exact HB.out)) hb)
            clear HB
            have HO245 := n0_
            have HB := n1_
            clear n0_ n1_
            (try clear hb)
            (try clear hb2)
            (try clear hk)
            (try clear hi)
            (try clear ho0)
            refine hK.out _ _ ((by have key_ : ∀ W_ : World, Below w.heap.size w W_ → (convert 23 9 (.slice A17 (l0.length - ji4.toNat) (c0 - (ji4).toNat))).run Try.prog W_ = .ok (.string (strOfNums (l0.drop ((ji4) : Int).toNat))) W_ := (fun W_ hb_ => by have h_ := Kd.C_string (P := Try.prog) (A := A17) (c := (c0 - (ji4).toNat)) Try.underlying23 Try.underlying5 Try.underlying9 (Kd.C_below HR246.out hb_); first | exact h_ | (rw [List.length_drop] at h_; exact h_) | (rw [List.length_take, Nat.min_eq_left (by omega)] at h_; exact h_)); first | exact key_ _ HB.out | exact key_ _ (pw_below_drewN HB.out _) | exact key_ _ (below_drew HB.out) | exact key_ _ (pw_below_drewN (below_drew HB.out) _))) (fun hHeld => ?_)
            clear hK K
            refine norm_ (a' := ?_) ?_ ?_
            rotate_left
            · show Act.put _ (some 15) _ = _
              simp only [Act.put, List.setIfInBounds_toArray, List.set_cons_zero, List.set_cons_succ, i64_w, i32_w]
              rfl
            refine one_ (i := 8) (N := some 16) #[true, true, true, true, true, true, true, true, true, true, true, true, true, false, false] rfl rfl (one_of HT_.out (by kernel_rfl)) (by decide) (fun K hK => ?_)
            have hcv19 := own_string (P := Try.prog) Try.underlying23 Try.underlying5 Try.underlying9 (Kd.own_of_R HO245.out)
            refine value_ (w1 := ?_) (v := ?_) (by rfl) rfl ?_ ?_
            rotate_left 2
            · go_simp
              constructor
              · rfl
              · rfl
            clear hcv19
            refine hK.out _ _ ((by have key_ : ∀ W_ : World, Below w.heap.size w W_ → (convert 23 9 (.slice A17 (l0.length - ji4.toNat) (c0 - (ji4).toNat))).run Try.prog W_ = .ok (.string (strOfNums (l0.drop ((ji4) : Int).toNat))) W_ := (fun W_ hb_ => by have h_ := Kd.C_string (P := Try.prog) (A := A17) (c := (c0 - (ji4).toNat)) Try.underlying23 Try.underlying5 Try.underlying9 (Kd.C_below HR246.out hb_); first | exact h_ | (rw [List.length_drop] at h_; exact h_) | (rw [List.length_take, Nat.min_eq_left (by omega)] at h_; exact h_)); first | exact key_ _ HB.out | exact key_ _ (pw_below_drewN HB.out _) | exact key_ _ (below_drew HB.out) | exact key_ _ (pw_below_drewN (below_drew HB.out) _))) (fun hHeld => ?_)
            clear hK K
            refine norm_ (a' := ?_) ?_ ?_
            rotate_left
            · show Act.put _ (some 16) _ = _
              simp only [Act.put, List.setIfInBounds_toArray, List.set_cons_zero, List.set_cons_succ, i64_w, i32_w]
              rfl
            refine pure_ (i := 13) (N := some 21) (v := ?_) (a' := ?_) #[true, true, true, true, true, true, true, true, true, true, true, true, true, true, false] rfl rfl (any_of HT_.out (by kernel_rfl)) (fun _ _ _ h => h) (Or.inl ⟨by rfl, ?_⟩) ?_ ?_
            rotate_left
            · intro w'
              go_simp
              with_reducible rfl
            rotate_left
            · simp only [Act.put, List.setIfInBounds_toArray, List.set_cons_zero, List.set_cons_succ, i64_w, i32_w]
              rfl
            refine pure_ (i := 14) (N := some 22) (v := ?_) (a' := ?_) #[true, true, true, true, true, true, true, true, true, true, true, true, true, true, true] rfl rfl (any_of HT_.out (by kernel_rfl)) (fun _ _ _ h => h) (Or.inl ⟨by rfl, ?_⟩) ?_ ?_
            rotate_left
            · intro w'
              go_simp
              with_reducible rfl
            rotate_left
            · simp only [Act.put, List.setIfInBounds_toArray, List.set_cons_zero, List.set_cons_succ, i64_w, i32_w]
              rfl
            refine done_ (done_of HT_.out (by kernel_rfl)) ?_
            try go_wp2_with (first | ((with_reducible refine gate_dst (N := 23) rfl ?_); refine Kd.R_lit (Kd.int .u8) _ 5 ?hg (N := 23) ?hd (xs := ([] : List Int)) (inner := []) (ok := fun _ => True) (okp := fun _ => True) ?hr ?hp (fun _ hk => hk) trivial (Below.refl _ _) (Nat.le_refl _) (by simp) ?_; (case hd => rfl); (case hg => rfl); (case hr => first | (go_simp; done) | (go_simp; rfl)); (case hp => exact (Reps.none _ _)); intro v248 w21 ho22 hb hg_ hnew_; clear hg_ hnew_; (first | rw [← Ny247.out] at ho22 | (simp only [Int.reduceToNat] at ho22; rw [← Ny247.out] at ho22)); have n0_ := Aside0.mk (Kd.R_elder' (by (with_reducible repeat (first | apply Kd.R_alloc | apply Kd.R_drewN | apply Kd.R_drew)); exact HO245.out) (Kd.R_base ho22) hb); have n1_ := Aside0.mk (Kd.R_lower (Kd.R_new' ho22 (Kd.R_lt (by (with_reducible repeat (first | apply Kd.R_alloc | apply Kd.R_drewN | apply Kd.R_drew)); exact HO245.out))) (below_size (by repeat (first | (with_reducible first | exact HB.out | apply below_alloc | apply pw_below_drewN | apply below_drew1) | exact HB.out)))); have n2_ := Aside0.mk (below_step (by repeat (first | (with_reducible first | exact HB.out | apply below_alloc | apply pw_below_drewN | apply below_drew1) | exact HB.out)) hb); clear HO245; clear HB; have HO245 := n0_; have HO249 := n1_; have HB := n2_; clear n0_ n1_ n2_; clear hb ho22; obtain ⟨i023, hi023, _, hsz23, _⟩ := info_parts info5; obtain ⟨hcut23, hA23, hC23⟩ := print_take_of (P := Try.prog) (Value.int .u8) 0 23 5 .i64 Try.underlying23 hi023 hsz23 A0 c0 l0 (ji4) (of_decide_eq_true (by first | (with_reducible assumption) | assumption)) (of_decide_eq_true (by first | (with_reducible assumption) | assumption)) HC0.out; have HR250 := Aside0.mk (Kd.C_of_reads (h1 := fun _ => rfl) (hA23 _ (Kd.reads_of_C HR0.out))); have HC250 := Aside0.mk hC23; clear hA23 hC23 hi023 hsz23) | ((with_reducible refine gate_builtin (b := .append) (xs := #[.tmp 23, .tmp 26]) rfl ?_); at_builtin; refine Kd.R_append_rows (Kd.int .u8) (w0 := w) w.heap.size rfl (.tmp 23) (.tmp 26) 23 5 (.int .u8 0) 1 rfl Try.underlying23 info5 rfl (by decide) (by decide) v248 y247 (l0.take ((ji4) : Int).toNat) _ _ _ (fun k_ => some k_ ≠ (v244 : Value).ownBlock) (fun _ => False) rfl rfl ?aO ?aR (fun _ _ h => h) (fun _ h => h.elim) ?aF ?aB ?aS ?aL ?_; (case aR => first | (have h_ := Kd.C_below HR250.out HB.out; rw [show (l0.take ((ji4) : Int).toNat).length = (ji4).toNat from (by rw [List.length_take]; have h_ : ((ji4) : Int) ≤ (l0.length : Int) := of_decide_eq_true (by first | (with_reducible assumption) | assumption); omega)] at h_; exact h_) | (rw [← show (l0.take ((ji4) : Int).toNat).length = (ji4).toNat from (by rw [List.length_take]; have h_ : ((ji4) : Int) ≤ (l0.length : Int) := of_decide_eq_true (by first | (with_reducible assumption) | assumption); omega)]; repeat (first | exact (Kd.C_below HR250.out HB.out) | (with_reducible refine Kd.C_alloc ?_ _) | (with_reducible refine Kd.C_drewN ?_ _) | (with_reducible refine Kd.C_drew ?_))) | (repeat (first | exact (Kd.C_below HR250.out HB.out) | (with_reducible refine Kd.C_alloc ?_ _) | (with_reducible refine Kd.C_drewN ?_ _) | (with_reducible refine Kd.C_drew ?_)))); (case aB => exact (by repeat (first | (with_reducible first | exact HB.out | apply below_alloc | apply pw_below_drewN | apply below_drew1) | exact HB.out))); (case aF => exact (fun k_ hk => Kd.fresh' (Kd.R_lt (by (with_reducible repeat (first | apply Kd.R_alloc | apply Kd.R_drewN | apply Kd.R_drew)); exact HO245.out)) k_ hk)); (case aO => exact (by (with_reducible repeat (first | apply Kd.R_alloc | apply Kd.R_drewN | apply Kd.R_drew)); exact Kd.R_mono HO249.out (fun _ hk => hk.2))); (case aS => exact (below_size (by repeat (first | (with_reducible first | exact HB.out | apply below_alloc | apply pw_below_drewN | apply below_drew1) | exact HB.out)))); (case aL => have := LMc14.out; have hlx_ := (show (l0.take ((ji4) : Int).toNat).length = (ji4).toNat from (by rw [List.length_take]; have h_ : ((ji4) : Int) ≤ (l0.length : Int) := of_decide_eq_true (by first | (with_reducible assumption) | assumption); omega)); omega); intro v252 w24 ho hb hg hat; rw [← Ny251.out] at ho; have n0_ := Aside0.mk (Kd.R_after (ok := (fun _ => True)) (by (with_reducible repeat (first | apply Kd.R_alloc | apply Kd.R_drewN | apply Kd.R_drew)); exact HO245.out) hg hat); have n1_ := Aside0.mk (hb); have n2_ := Aside0.mk (ho); clear HO245; clear HB; clear HO249; have HO245 := n0_; have HB := n1_; have HO253 := n2_; clear n0_ n1_ n2_; clear ho hb hg hat))
            go_ret2
            exact ⟨_, by first | rfl | (simp [errW_none, errW_some] <;> rfl) | (simp only [← hji4]; first | rfl | (simp [errW_none, errW_some] <;> rfl)) | (simp [*, errW_none, errW_some] <;> rfl), by (with_reducible repeat (first | apply Kd.R_alloc | apply Kd.R_drewN | apply Kd.R_drew)); exact Kd.R_mono HO253.out (fun _ hk => trivial), by repeat (first | (with_reducible first | exact HB.out | apply below_alloc | apply pw_below_drewN | apply below_drew1) | exact HB.out)⟩
          · rw [if_neg c14] at H
            exact absurd H (by simp)
        · rw [if_neg c11] at H
          have c11b0 : ((strOfNums t243).toList == (strOfNums (l0.drop ((ji4) : Int).toNat)).toList) = false := beq_eq_false_iff_ne.mpr c11
          have c11b1 : ((strOfNums t243).toList != (strOfNums (l0.drop ((ji4) : Int).toNat)).toList) = true := bne_iff_ne.mpr c11
          simp only [Option.some.injEq, Prod.mk.injEq] at H
          obtain ⟨rfl, rfl⟩ := H
          go_enter Try.func44, Try.ntmps44
          try go_wp2
          have n0_ := Aside0.mk (below_drew1 HB.out)
          clear HB
          have HB := n0_
          clear n0_
          obtain ⟨i026, hi026, _, hsz26, _⟩ := info_parts info5
          obtain ⟨hcut26, hA26, hC26⟩ := print_take_of (P := Try.prog) (Value.int .u8) 0 23 5 .i64 Try.underlying23 hi026 hsz26 A0 c0 l0 (ji4) (of_decide_eq_true (by first | (with_reducible assumption) | assumption)) (of_decide_eq_true (by first | (with_reducible assumption) | assumption)) HC0.out
          have HR241 := Aside0.mk (Kd.C_of_reads (h1 := fun _ => rfl) (hA26 _ (Kd.reads_of_C HR0.out)))
          have HC241 := Aside0.mk hC26
          clear hA26 hC26 hi026 hsz26
          obtain ⟨i027, hi027, _, hsz27, _⟩ := info_parts info5
          obtain ⟨A27, hcut27, hA27, hC27⟩ := print_drop_of (P := Try.prog) (Value.int .u8) 0 23 5 .i64 Try.underlying23 hi027 hsz27 A0 c0 l0 (ji4) (of_decide_eq_true (by first | (with_reducible assumption) | assumption)) (of_decide_eq_true (by first | (with_reducible assumption) | assumption)) HC0.out
          have HR246 := Aside0.mk (Kd.C_of_reads (h1 := fun _ => rfl) (hA27 _ (Kd.reads_of_C HR0.out)))
          have HC246 := Aside0.mk hC27
          clear hA27 hC27 hi027 hsz27
          refine start_ (n := 15) (S := fun w' => (convert 23 9 (.slice A27 (l0.length - ji4.toNat) (c0 - (ji4).toNat))).run Try.prog w' = .ok (.string (strOfNums (l0.drop ((ji4) : Int).toNat))) w') (ds := []) #[false, false, false, false, false, false, false, false, false, false, false, false, false, false, false] (by kernel_rfl) rfl rfl ((by have key_ : ∀ W_ : World, Below w.heap.size w W_ → (convert 23 9 (.slice A27 (l0.length - ji4.toNat) (c0 - (ji4).toNat))).run Try.prog W_ = .ok (.string (strOfNums (l0.drop ((ji4) : Int).toNat))) W_ := (fun W_ hb_ => by have h_ := Kd.C_string (P := Try.prog) (A := A27) (c := (c0 - (ji4).toNat)) Try.underlying23 Try.underlying5 Try.underlying9 (Kd.C_below HR246.out hb_); first | exact h_ | (rw [List.length_drop] at h_; exact h_) | (rw [List.length_take, Nat.min_eq_left (by omega)] at h_; exact h_)); first | exact key_ _ HB.out | exact key_ _ (pw_below_drewN HB.out _) | exact key_ _ (below_drew HB.out) | exact key_ _ (pw_below_drewN (below_drew HB.out) _))) (fun hHeld => ?_); refine with_tabW rosetteref01_Open.tab2 rosetteref01_Open.bits2 (fun HT_ HW_ => ?_)
          generalize w.drew = w25 at HB HR241 HR246 hHeld ⊢
          refine pure_ (i := 0) (N := some 8) (v := ?_) (a' := ?_) #[true, false, false, false, false, false, false, false, false, false, false, false, false, false, false] rfl rfl (any_of HT_.out (by kernel_rfl)) (fun _ _ _ h => h) (Or.inl ⟨by rfl, ?_⟩) ?_ ?_
          rotate_left
          · intro w'
            go_simp
            with_reducible rfl
          rotate_left
          · simp only [Act.put, List.setIfInBounds_toArray, List.set_cons_zero, List.set_cons_succ, i64_w, i32_w]
            rfl
          refine pure_ (i := 1) (N := some 9) (v := ?_) (a' := ?_) #[true, true, false, false, false, false, false, false, false, false, false, false, false, false, false] rfl rfl (any_of HT_.out (by kernel_rfl)) (fun _ _ _ h => h) (Or.inl ⟨by rfl, ?_⟩) ?_ ?_
          rotate_left
          · intro w'
            go_simp
            with_reducible rfl
          rotate_left
          · simp only [Act.put, List.setIfInBounds_toArray, List.set_cons_zero, List.set_cons_succ, i64_w, i32_w]
            rfl
          refine pure_ (i := 2) (N := some 10) (v := ?_) (a' := ?_) #[true, true, true, false, false, false, false, false, false, false, false, false, false, false, false] rfl rfl (any_of HT_.out (by kernel_rfl)) (fun _ _ _ h => h) (Or.inl ⟨by rfl, ?_⟩) ?_ ?_
          rotate_left
          · intro w'
            go_simp
            with_reducible rfl
          rotate_left
          · simp only [Act.put, List.setIfInBounds_toArray, List.set_cons_zero, List.set_cons_succ, i64_w, i32_w]
            rfl
          refine pure_ (i := 3) (N := some 11) (v := ?_) (a' := ?_) #[true, true, true, true, false, false, false, false, false, false, false, false, false, false, false] rfl rfl (any_of HT_.out (by kernel_rfl)) (fun _ _ _ h => h) (Or.inl ⟨by rfl, ?_⟩) ?_ ?_
          rotate_left
          · intro w'
            go_simp
            with_reducible rfl
          rotate_left
          · simp only [Act.put, List.setIfInBounds_toArray, List.set_cons_zero, List.set_cons_succ, i64_w, i32_w]
            rfl
          refine pure_ (i := 4) (N := some 12) (v := ?_) (a' := ?_) #[true, true, true, true, true, false, false, false, false, false, false, false, false, false, false] rfl rfl (any_of HT_.out (by kernel_rfl)) (fun _ _ _ h => h) (Or.inl ⟨by rfl, ?_⟩) ?_ ?_
          rotate_left
          · intro w'
            go_simp
            with_reducible rfl
          rotate_left
          · simp only [Act.put, List.setIfInBounds_toArray, List.set_cons_zero, List.set_cons_succ, i64_w, i32_w]
            rfl
          refine pure_ (i := 5) (N := some 13) (v := ?_) (a' := ?_) #[true, true, true, true, true, true, false, false, false, false, false, false, false, false, false] rfl rfl (any_of HT_.out (by kernel_rfl)) (fun _ _ _ h => h) (Or.inl ⟨by rfl, ?_⟩) ?_ ?_
          rotate_left
          · intro w'
            go_simp
            with_reducible rfl
          rotate_left
          · simp only [Act.put, List.setIfInBounds_toArray, List.set_cons_zero, List.set_cons_succ, i64_w, i32_w]
            rfl
          refine pure_ (i := 9) (N := some 17) (v := ?_) (a' := ?_) #[true, true, true, true, true, true, false, false, false, true, false, false, false, false, false] rfl rfl (any_of HT_.out (by kernel_rfl)) (fun _ _ _ h => h) (Or.inl ⟨by rfl, ?_⟩) ?_ ?_
          rotate_left
          · intro w'
            go_simp
            with_reducible rfl
          rotate_left
          · simp only [Act.put, List.setIfInBounds_toArray, List.set_cons_zero, List.set_cons_succ, i64_w, i32_w]
            rfl
          refine pure_ (i := 10) (N := some 18) (v := ?_) (a' := ?_) #[true, true, true, true, true, true, false, false, false, true, true, false, false, false, false] rfl rfl (any_of HT_.out (by kernel_rfl)) (fun _ _ _ h => h) (Or.inl ⟨by rfl, ?_⟩) ?_ ?_
          rotate_left
          · intro w'
            go_simp
            with_reducible rfl
          rotate_left
          · simp only [Act.put, List.setIfInBounds_toArray, List.set_cons_zero, List.set_cons_succ, i64_w, i32_w]
            rfl
          refine pure_ (i := 11) (N := some 19) (v := ?_) (a' := ?_) #[true, true, true, true, true, true, false, false, false, true, true, true, false, false, false] rfl rfl (any_of HT_.out (by kernel_rfl)) (fun _ _ _ h => h) (Or.inl ⟨by rfl, ?_⟩) ?_ ?_
          rotate_left
          · intro w'
            go_simp
            with_reducible rfl
          rotate_left
          · simp only [Act.put, List.setIfInBounds_toArray, List.set_cons_zero, List.set_cons_succ, i64_w, i32_w]
            rfl
          refine take_ (i := 12) (N := some 20) (v := ?_) (a' := ?_) #[true, true, true, true, true, true, false, false, false, true, true, true, true, false, false] rfl rfl (take_ofW HT_.out HW_.out (by kernel_rfl)) (fun _ _ _ h => h) (Or.inl ⟨by rfl, ?_⟩) hHeld ?_ ?_
          rotate_left
          · intro w' s0
            go_simp
            with_reducible rfl
          rotate_left
          · simp only [Act.put, List.setIfInBounds_toArray, List.set_cons_zero, List.set_cons_succ, i64_w, i32_w]
            rfl
          refine one_ (i := 6) (N := some 14) #[true, true, true, true, true, true, true, false, false, true, true, true, true, false, false] rfl rfl (one_of HT_.out (by kernel_rfl)) (by decide) (fun K hK => ?_)
          refine goes_ Try.func47 (by kernel_rfl) rfl #[.slice A0 (l0.take ((ji4) : Int).toNat).length c0] (by rfl) rfl rfl (by (try simp only [List.map_toArray, List.map_cons, List.map_nil]); first | done | (rw [show (l0.take ((ji4) : Int).toNat).length = (ji4).toNat from (by rw [List.length_take]; have h_ : ((ji4) : Int) ≤ (l0.length : Int) := of_decide_eq_true (by first | (with_reducible assumption) | assumption); omega)] <;> rfl) | (simp only [hji4]; rfl) | rfl | (simp only [List.length_drop, List.length_take]; rfl)) ?_
          with_reducible refine (rosetteref01_Sum.calls k _ _ (l0.take ((ji4) : Int).toNat) t242 _ ?side1 ?side2 A7.out).mono ?_
          (case side1 => repeat (first | exact (Kd.C_below HR241.out HB.out) | (with_reducible refine Kd.C_alloc ?_ _) | (with_reducible refine Kd.C_drewN ?_ _) | (with_reducible refine Kd.C_drew ?_)))
          (case side2 => exact HC241.out)
          rintro e w' ⟨rfl, ⟨nd, rfl⟩⟩
          refine ⟨_, rfl, ?_⟩
          refine hK.out _ _ ((by have key_ : ∀ W_ : World, Below w.heap.size w W_ → (convert 23 9 (.slice A27 (l0.length - ji4.toNat) (c0 - (ji4).toNat))).run Try.prog W_ = .ok (.string (strOfNums (l0.drop ((ji4) : Int).toNat))) W_ := (fun W_ hb_ => by have h_ := Kd.C_string (P := Try.prog) (A := A27) (c := (c0 - (ji4).toNat)) Try.underlying23 Try.underlying5 Try.underlying9 (Kd.C_below HR246.out hb_); first | exact h_ | (rw [List.length_drop] at h_; exact h_) | (rw [List.length_take, Nat.min_eq_left (by omega)] at h_; exact h_)); first | exact key_ _ HB.out | exact key_ _ (pw_below_drewN HB.out _) | exact key_ _ (below_drew HB.out) | exact key_ _ (pw_below_drewN (below_drew HB.out) _))) (fun hHeld => ?_)
          clear hK K
          refine norm_ (a' := ?_) ?_ ?_
          rotate_left
          · show Act.put _ (some 14) _ = _
            simp only [Act.put, List.setIfInBounds_toArray, List.set_cons_zero, List.set_cons_succ, i64_w, i32_w]
            rfl
          refine one_ (i := 7) (N := some 15) #[true, true, true, true, true, true, true, true, false, true, true, true, true, false, false] rfl rfl (one_of HT_.out (by kernel_rfl)) (by decide) (fun K hK => ?_)
          refine goes_ Try.func46 (by kernel_rfl) rfl #[.int .u32 t242] (by rfl) rfl rfl (by (try simp only [List.map_toArray, List.map_cons, List.map_nil]); first | done | rfl | (simp only [List.length_drop, List.length_take]; rfl)) ?_
          with_reducible refine (rosetteref01_Low.calls t242 t243 _ A8.out).mono ?_
          rintro e w28 ⟨v244, rfl, ho0, hb⟩
          refine ⟨_, rfl, ?_⟩
          have n0_ := Aside0.mk (Kd.R_lower ho0 (below_size (by repeat (first | (with_reducible first | exact HB.out | apply below_alloc | apply pw_below_drewN | apply below_drew1) | exact HB.out))))
          have n1_ := Aside0.mk (below_step (by repeat (first | (with_reducible first | exact HB.out | apply below_alloc | apply pw_below_drewN | apply below_drew1) | exact HB.out)) hb)
          clear HB
          have HO245 := n0_
          have HB := n1_
          clear n0_ n1_
          (try clear hb)
          (try clear hb2)
          (try clear hk)
          (try clear hi)
          (try clear ho0)
          refine hK.out _ _ ((by have key_ : ∀ W_ : World, Below w.heap.size w W_ → (convert 23 9 (.slice A27 (l0.length - ji4.toNat) (c0 - (ji4).toNat))).run Try.prog W_ = .ok (.string (strOfNums (l0.drop ((ji4) : Int).toNat))) W_ := (fun W_ hb_ => by have h_ := Kd.C_string (P := Try.prog) (A := A27) (c := (c0 - (ji4).toNat)) Try.underlying23 Try.underlying5 Try.underlying9 (Kd.C_below HR246.out hb_); first | exact h_ | (rw [List.length_drop] at h_; exact h_) | (rw [List.length_take, Nat.min_eq_left (by omega)] at h_; exact h_)); first | exact key_ _ HB.out | exact key_ _ (pw_below_drewN HB.out _) | exact key_ _ (below_drew HB.out) | exact key_ _ (pw_below_drewN (below_drew HB.out) _))) (fun hHeld => ?_)
          clear hK K
          refine norm_ (a' := ?_) ?_ ?_
          rotate_left
          · show Act.put _ (some 15) _ = _
            simp only [Act.put, List.setIfInBounds_toArray, List.set_cons_zero, List.set_cons_succ, i64_w, i32_w]
            rfl
          refine one_ (i := 8) (N := some 16) #[true, true, true, true, true, true, true, true, true, true, true, true, true, false, false] rfl rfl (one_of HT_.out (by kernel_rfl)) (by decide) (fun K hK => ?_)
          have hcv29 := own_string (P := Try.prog) Try.underlying23 Try.underlying5 Try.underlying9 (Kd.own_of_R HO245.out)
          refine value_ (w1 := ?_) (v := ?_) (by rfl) rfl ?_ ?_
          rotate_left 2
          · go_simp
            constructor
            · rfl
            · rfl
          clear hcv29
          refine hK.out _ _ ((by have key_ : ∀ W_ : World, Below w.heap.size w W_ → (convert 23 9 (.slice A27 (l0.length - ji4.toNat) (c0 - (ji4).toNat))).run Try.prog W_ = .ok (.string (strOfNums (l0.drop ((ji4) : Int).toNat))) W_ := (fun W_ hb_ => by have h_ := Kd.C_string (P := Try.prog) (A := A27) (c := (c0 - (ji4).toNat)) Try.underlying23 Try.underlying5 Try.underlying9 (Kd.C_below HR246.out hb_); first | exact h_ | (rw [List.length_drop] at h_; exact h_) | (rw [List.length_take, Nat.min_eq_left (by omega)] at h_; exact h_)); first | exact key_ _ HB.out | exact key_ _ (pw_below_drewN HB.out _) | exact key_ _ (below_drew HB.out) | exact key_ _ (pw_below_drewN (below_drew HB.out) _))) (fun hHeld => ?_)
          clear hK K
          refine norm_ (a' := ?_) ?_ ?_
          rotate_left
          · show Act.put _ (some 16) _ = _
            simp only [Act.put, List.setIfInBounds_toArray, List.set_cons_zero, List.set_cons_succ, i64_w, i32_w]
            rfl
          refine pure_ (i := 13) (N := some 21) (v := ?_) (a' := ?_) #[true, true, true, true, true, true, true, true, true, true, true, true, true, true, false] rfl rfl (any_of HT_.out (by kernel_rfl)) (fun _ _ _ h => h) (Or.inl ⟨by rfl, ?_⟩) ?_ ?_
          rotate_left
          · intro w'
            go_simp
            with_reducible rfl
          rotate_left
          · simp only [Act.put, List.setIfInBounds_toArray, List.set_cons_zero, List.set_cons_succ, i64_w, i32_w]
            rfl
          refine pure_ (i := 14) (N := some 22) (v := ?_) (a' := ?_) #[true, true, true, true, true, true, true, true, true, true, true, true, true, true, true] rfl rfl (any_of HT_.out (by kernel_rfl)) (fun _ _ _ h => h) (Or.inl ⟨by rfl, ?_⟩) ?_ ?_
          rotate_left
          · intro w'
            go_simp
            with_reducible rfl
          rotate_left
          · simp only [Act.put, List.setIfInBounds_toArray, List.set_cons_zero, List.set_cons_succ, i64_w, i32_w]
            rfl
          refine done_ (done_of HT_.out (by kernel_rfl)) ?_
          try go_wp2
          go_ret2
          exact ⟨_, by first | rfl | (simp [errW_none, errW_some] <;> rfl) | (simp only [← hji4]; first | rfl | (simp [errW_none, errW_some] <;> rfl)) | (simp [*, errW_none, errW_some] <;> rfl), by first | exact Kd.R_nil _ _ _ _ _ | exact Kd.N_nil _ _ _ _ _ | exact Kd.V_nil _ _ _ _ _ | exact Kd.Q_nil _ _ _ _ _ | exact Kd.S_nil _ _ _ _ _, by repeat (first | (with_reducible first | exact HB.out | apply below_alloc | apply pw_below_drewN | apply below_drew1) | exact HB.out)⟩
      · rw [if_neg c6] at H
        exact absurd H (by simp)
    · rw [if_neg c5] at H
      exact absurd H (by simp)

end Go.Proofs.Yticpcjjgdkbcjaa.G
end

section
-- Written by a program of this session (wip/tools/myprint.py), over the kit's print.
namespace Go.Proofs.Yticpcjjgdkbcjaa.G
open Go.RowKit Go.Proofs.YticpcjjgdkbcjaaW.PrintWords Go.Proofs.YticpcjjgdkbcjaaW.PrintLast Go.Proofs.YticpcjjgdkbcjaaW.PrintMore
attribute [local go_sem] max2_int min2_int max_two min_two max_three min_three max_four min_four   -- for this text's walks alone
set_option linter.unusedVariables false
set_option linter.unusedSimpArgs false

-- BY HAND
-- IMPORT YticpcjjgdkbcjaaConcat
-- over: frame_Next.f
-- LIB Derived.BigQuiet
-- LIB Derived.Deep.QuietTactic
-- LIB Derived.Laws.BitsAllLaws
-- over: rosetteref01_Open.f frame_Next.f
def rosetteref03_Next.f (k : Nat) (l0 : List Int) : Option (List Int × Int × Int) :=
  if l0.length < 6 then some ([], 0, 2) else (rosetteref01_Open.f k (l0.take 6)).bind fun p => if p.2 = false then some ([], 0, 6) else if p.1.length = 2 ∧ u8s p.1 then
    (if rd p.1 0 + 256 * rd p.1 1 > 8192 then some ([], 0, 4) else if (l0.length : Int) < rd p.1 0 + 256 * rd p.1 1 + 10 then some ([], 0, 2) else
      (rosetteref01_Open.f k ((l0.take (rd p.1 0 + 256 * rd p.1 1 + 10).toNat).drop 6)).bind fun q => if q.2 = false then some ([], 0, 6) else some (q.1, rd p.1 0 + 256 * rd p.1 1 + 10, 0)) else none
theorem rosetteref03_Next.mono : ∀ a0 k, LeO (rosetteref03_Next.f k a0) (rosetteref03_Next.f (k + 1) a0) := by
  intro a0 k
  unfold rosetteref03_Next.f
  repeat' first
      | (with_reducible exact LeO.refl _)
      | (with_reducible refine LeO.ite ?_ ?_)
      | (with_reducible refine LeO.bind ?_ (fun _ => ?_))
      | exact rosetteref01_Open.mono _ _
set_option maxRecDepth 100000 in
set_option maxHeartbeats 2000000 in
theorem rosetteref03_Next.calls (k : Nat) (A0 : Option Addr) (c0 : Nat) (l0 : List Int) (r1 : List Int) (r2 r3 : Int) (w : World) (hr0 : Kd.C (Kd.int .u8) w A0 l0.length l0) (hc0 : l0.length ≤ c0) (h : rosetteref03_Next.f k l0 = some (r1, r2, r3)) :
    Calls Try.prog 28 #[.slice A0 l0.length c0] w fun e w' => ∃ v0_ : Value, e = .returned (.tuple #[v0_, .int .i64 r2, .int .i64 r3]) ∧ Kd.R (Kd.int .u8) 5 w' w.heap.size (fun _ => True) v0_ r1 ∧ Below w.heap.size w w' := by
  unfold rosetteref03_Next.f at h
  by_cases hlt : l0.length < 6
  · rw [if_pos hlt] at h
    simp only [Option.some.injEq, Prod.mk.injEq] at h
    obtain ⟨rfl, rfl, rfl⟩ := h
    go_enter Try.func28, Try.ntmps28
    go_wp2
    go_ret3
    exact ⟨_, rfl, Kd.R_nil _ _ _ _ _, Below.refl _ _⟩
  · rw [if_neg hlt] at h
    obtain ⟨⟨hd, ok⟩, h1, h⟩ := Option.bind_eq_some_iff.mp h
    simp only at h
    obtain ⟨T6, hT⟩ : ∃ T, T = l0.take 6 := ⟨_, rfl⟩
    have hl6 : T6.length = 6 := by rw [hT, List.length_take]; omega
    have hsplit : l0 = T6 ++ l0.drop 6 := by rw [hT, List.take_append_drop]
    rw [← hT] at h1
    have HR := Aside0.mk (HeldB.low hr0)
    have hR6 : HeldB w (fun k => k < w.heap.size) A0 T6 := by
      have hh := HR.out
      rw [hsplit] at hh
      intro h0
      obtain ⟨ad, e1, e2, e3⟩ := hh (by rw [List.length_append]; omega)
      refine ⟨ad, e1, e2, fun j hj => ?_⟩
      rw [e3 j (by rw [List.length_append]; omega)]
      simp [rd, List.getD_eq_getElem?_getD, List.getElem?_append_left hj]
    have hop := rosetteref01_Open.calls k A0 c0 T6 hd ok w (hR6.C (by omega)) (by omega) h1
    rw [hl6] at hop
    have HOP := Aside0.mk hop
    have HH := Aside0.mk h
    have HS := Aside0.mk hsplit
    clear hop h h1 hR6 hsplit hT hr0
    go_enter Try.func28, Try.ntmps28
    go_wp2_with fail
    refine HOP.out.mono ?_
    rintro e w2 ⟨v2, rfl, hRr, hB⟩
    have HB2 := Aside0.mk hB
    have HR2 := Aside0.mk (HR.out.below hB)
    have HO2 := Aside0.mk hRr
    clear hRr hB HR HOP
    have h := HH.out
    cases ok with
    | false =>
      rw [if_pos rfl] at h
      simp only [Option.some.injEq, Prod.mk.injEq] at h
      obtain ⟨rfl, rfl, rfl⟩ := h
      go_wp2
      go_ret3
      exact ⟨_, rfl, Kd.R_nil _ _ _ _ _, HB2.out⟩
    | true =>
      rw [if_neg (by decide)] at h
      split at h
      · rename_i hcond
        obtain ⟨hl2, hu2⟩ := hcond
        clear HH
        obtain ⟨Ah, ch, rfl, hch, _, hH, _⟩ := held_own HO2.out
        obtain ⟨gh, rfl⟩ : ∃ g, Ah = some ⟨g, 0, none⟩ := by
          obtain ⟨_, ho⟩ := kd_own HO2.out
          rcases ho with ⟨h1, h2⟩ | ⟨g, cap, cur, h1, h2, h3, h4, h5, h6, h7⟩
          · omega
          · simp only [Value.slice.injEq] at h1
            exact ⟨g, h1.1⟩
        have hI := HO2.out
        obtain ⟨q0, _⟩ := Kd.R_cell (d := (0 : Int)) hI (0 : Int) (by omega) (by omega)
        obtain ⟨q1, _⟩ := Kd.R_cell (d := (0 : Int)) hI (1 : Int) (by omega) (by omega)
        have H := Aside0.mk h
        have HU := Aside0.mk hu2
        clear hI hH h hu2
        have u0 := rd_u8 HU.out 0 (by omega)
        have u1 := rd_u8 HU.out 1 (by omega)
        have q0' : w2.cell? ⟨gh, 0, none⟩ = some (.int .u8 (rd hd 0)) := q0
        have q1' : w2.cell? ⟨gh, 1, none⟩ = some (.int .u8 (rd hd 1)) := q1
        clear q0 q1 HU
        rw [show ((0 : Nat) : Int) = 0 from rfl] at u0
        rw [show ((1 : Nat) : Int) = 1 from rfl] at u1
        generalize rd hd 0 = x at *
        generalize rd hd 1 = y at *
        rw [hl2]
        go_wp2_with fail
        go_quiet (fail)
        have hn0 : 0 ≤ x + 256 * y := by omega
        generalize x + 256 * y = n at *
        obtain ⟨m, rfl⟩ := Int.eq_ofNat_of_zero_le hn0
        clear u0 u1 q0' q1' hn0
        have HB3 : Aside0 (Below w.heap.size w (w2.drewN nq)) := ⟨pw_below_drewN HB2.out _⟩
        have HR3 : Aside0 (HeldB (w2.drewN nq) (fun k => k < w.heap.size) A0 l0) := ⟨HR2.out.below (pw_below_drewN (Below.refl _ _) _)⟩
        clear HB2 HR2 HO2
        generalize w2.drewN nq = w3 at HB3 HR3 ⊢
        have h := H.out
        clear H
        by_cases hm : 8192 < m
        · rw [if_pos (by omega)] at h
          simp only [Option.some.injEq, Prod.mk.injEq] at h
          obtain ⟨rfl, rfl, rfl⟩ := h
          go_wp2
          go_ret3
          exact ⟨_, rfl, Kd.R_nil _ _ _ _ _, HB3.out⟩
        · rw [if_neg (by omega)] at h
          by_cases hs : l0.length < m + 10
          · rw [if_pos (by omega)] at h
            simp only [Option.some.injEq, Prod.mk.injEq] at h
            obtain ⟨rfl, rfl, rfl⟩ := h
            go_wp2
            go_ret3
            exact ⟨_, rfl, Kd.R_nil _ _ _ _ _, HB3.out⟩
          · rw [if_neg (by omega)] at h
            obtain ⟨⟨x2, ok2⟩, h2, h⟩ := Option.bind_eq_some_iff.mp h
            have H2 := Aside0.mk h2
            have H := Aside0.mk h
            clear h2 h
            obtain ⟨ad, rfl⟩ : ∃ ad, A0 = some ad := by
              obtain ⟨ad, e, _, _⟩ := HR3.out (by omega)
              exact ⟨ad, e⟩
            have hT := held_mid HR3.out 6 (m + 10) (by decide) (by omega)
            have hlT : ((l0.take (m + 10)).drop 6).length = 10 + m - 6 := by rw [List.length_drop, List.length_take]; omega
            have h2 := H2.out
            rw [show ((m : Int) + 10).toNat = m + 10 by omega] at h2
            have hop := rosetteref01_Open.calls k _ (c0 - 6) _ x2 ok2 w3 (hT.C (by rw [hlT]; omega)) (by rw [hlT]; omega) h2
            rw [hlT] at hop
            have HOP := Aside0.mk hop
            clear hop h2 hlT hT H2
            go_wp2_with fail
            refine HOP.out.mono ?_
            rintro e w4 ⟨v4, rfl, hRr, hB⟩
            have HB4 : Aside0 (Below w.heap.size w w4) := ⟨HB3.out.trans (hB.mono HB3.out.size)⟩
            have hRl := Kd.R_lower hRr (base' := w.heap.size) HB3.out.size
            have h := H.out
            clear H HOP HB3 hB hRr
            cases ok2 with
            | false =>
              rw [if_pos rfl] at h
              simp only [Option.some.injEq, Prod.mk.injEq] at h
              obtain ⟨rfl, rfl, rfl⟩ := h
              go_wp2
              go_ret3
              exact ⟨_, rfl, Kd.R_nil _ _ _ _ _, HB4.out⟩
            | true =>
              rw [if_neg (by decide)] at h
              simp only [Option.some.injEq, Prod.mk.injEq] at h
              obtain ⟨rfl, rfl, rfl⟩ := h
              have HRl := Aside0.mk hRl
              clear hRl
              go_wp2
              go_ret3
              exact ⟨v4, (by show Ending.returned (Value.tuple #[v4, .int .i64 (10 + (m : Int)), .int .i64 0]) = _; rw [show 10 + (m : Int) = (m : Int) + 10 by omega]), HRl.out, HB4.out⟩
      · cases h

end Go.Proofs.Yticpcjjgdkbcjaa.G
end

section
/- the document's packet.Decode, walked: it tells the same -/
set_option linter.unusedVariables false
set_option linter.unusedSimpArgs false
set_option autoImplicit false
namespace Go.Proofs.Yticpcjjgdkbcjaa
open Go.RowKit Go.Proofs.YticpcjjgdkbcjaaW.PrintWords Go.Proofs.YticpcjjgdkbcjaaW.PrintLast Go.Proofs.YticpcjjgdkbcjaaW.PrintMore Go.Proofs.Yticpcjjgdkbcjaa.G

theorem str_nil (d : List Int) : ((strOfNums d).toList == (strOfNums []).toList) = decide (d.length = 0) := by
  rw [Bool.eq_iff_iff, beq_iff_eq, decide_eq_true_iff, ByteArray.toList_eq, ByteArray.toList_eq]
  constructor
  · intro h
    have h2 := congrArg List.length h
    simpa [strOfNums] using h2
  · intro h
    have : d = [] := List.length_eq_zero_iff.1 h
    rw [this]
theorem rright_pk {K : Nat} (hK : 0 < K) (p : Pk) : rosetteref22_right.f K p.k p.e p.s p.t p.u p.d = some (pkright p) := by
  obtain ⟨K, rfl⟩ : ∃ m, K = m + 1 := ⟨K - 1, by omega⟩
  obtain ⟨k, e, s, t, u, d⟩ := p
  unfold rosetteref22_right.f pkright prB sameB inB
  simp only [rosetteref22_right.j0, str_nil]
  by_cases h0 : e < 0
  · simp [h0, show ¬ 0 ≤ e by omega]
  by_cases h1 : e > 1099511627776
  · simp [h0, h1, show ¬ e ≤ 1099511627776 by omega]
  have g0 : 0 ≤ e := by omega
  have g1 : e ≤ 1099511627776 := by omega
  by_cases k1 : k = 1
  · subst k1
    by_cases s0 : s = 0
    · by_cases d0 : d.length = 0
      · by_cases t1 : 1 ≤ t <;> simp [h0, h1, g0, g1, s0, d0, t1]
      · have d1 : 0 < d.length := by omega
        by_cases t1 : 1 ≤ t <;> simp [h0, h1, g0, g1, s0, d0, d1, t1]
    · simp [h0, h1, g0, g1, s0]
  by_cases k2 : k = 2
  · subst k2
    by_cases t0 : t = 0
    · by_cases u0 : u = 0
      · by_cases s0 : 0 ≤ s
        · by_cases s1 : s ≤ 1048576
          · by_cases d0 : 1 ≤ (d.length : Int) <;> simp [h0, h1, g0, g1, t0, u0, s0, s1, d0]
          · simp [h0, h1, g0, g1, t0, u0, s0, s1]
        · simp [h0, h1, g0, g1, t0, u0, s0]
      · simp [h0, h1, g0, g1, t0, u0]
    · simp [h0, h1, g0, g1, t0]
  by_cases k3 : k = 3
  · subst k3
    by_cases t0 : t = 0
    · by_cases u0 : u = 0
      · by_cases d0 : d.length = 0
        · by_cases s0 : 0 ≤ s <;> simp [h0, h1, g0, g1, t0, u0, s0, d0]
        · have d1 : 0 < d.length := by omega
          simp [h0, h1, g0, g1, t0, u0, d0, d1]
      · simp [h0, h1, g0, g1, t0, u0]
    · simp [h0, h1, g0, g1, t0]
  by_cases k4 : k = 4
  · subst k4
    by_cases t0 : t = 0
    · by_cases u0 : u = 0
      · by_cases s0 : s = 0
        · by_cases d0 : 1 ≤ (d.length : Int) <;> simp [h0, h1, g0, g1, t0, u0, s0, d0]
        · simp [h0, h1, g0, g1, t0, u0, s0]
      · simp [h0, h1, g0, g1, t0, u0]
    · simp [h0, h1, g0, g1, t0]
  simp only [if_neg k1, if_neg k2, if_neg k3, if_neg k4, if_neg h0, if_neg h1]
  by_cases t0 : t = 0 <;> by_cases u0 : u = 0 <;> by_cases s0 : s = 0 <;> by_cases d0 : (d.length : Int) > 0 <;> simp [t0, u0, s0, d0]
set_option maxRecDepth 100000 in
set_option maxHeartbeats 8000000 in
theorem rdecode (K : Nat) (A0 : Option Addr) (c0 : Nat) (l0 : List Int) (x : List Int) (n err : Int) (w : World) (hr0 : (Kd.int .u8).C w A0 l0.length l0) (hc0 : l0.length ≤ c0) (hl0 : l0.length ≤ 9223372036854775807) (hx : u8s x) (hxl : x.length ≤ 140737488355300) (hN : rosetteref03_Next.f K l0 = some (x, n, err)) :
    Calls Try.prog 12 #[.slice A0 l0.length c0] w fun e w' => ∃ A c, e = .returned (.tuple #[.agg ((dec l0.length x n err).1.c A c), .int .i64 (dec l0.length x n err).2]) ∧ HeldT w' (fun k => w.heap.size ≤ k) A (dec l0.length x n err).1.d ∧ (dec l0.length x n err).1.d.length ≤ c ∧ c ≤ 9223372036854775807 ∧ Below w.heap.size w w' := by
  have HR0 := Aside0.mk (HeldB.low hr0)
  have HN := Aside0.mk hN
  have HX := Aside0.mk hx
  have HL := Aside0.mk (And.intro hl0 hxl)
  clear hr0 hN hx hl0 hxl
  have HZ0 := Aside0.mk (heap_alloc_new w (.cells #[.int .i64 0, .int .i64 0, .int .i64 0, .int .i64 0, .int .u32 0, .slice none 0 0] 25 (0, 0)))
  have HB0 := Aside0.mk ((Below.refl w.heap.size w).alloc (Nat.le_refl _) (.cells #[.int .i64 0, .int .i64 0, .int .i64 0, .int .i64 0, .int .u32 0, .slice none 0 0] 25 (0, 0)))
  go_enter Try.func12, Try.ntmps12
  go_wp2_with fail
  generalize w.alloc (.cells #[.int .i64 0, .int .i64 0, .int .i64 0, .int .i64 0, .int .u32 0, .slice none 0 0] 25 (0, 0)) = wa at HZ0 HB0 ⊢
  refine (rosetteref03_Next.calls K A0 c0 l0 x n err _ ((HR0.out.below HB0.out).C HL.out.1) hc0 HN.out).mono ?_
  rintro e w1 ⟨v1, rfl, hR, hX⟩
  obtain ⟨A1, n1, rfl, hc1, hm1, hH1, hC1⟩ := held_own hR
  have HB1 := Aside0.mk (below_via4 HB0.out hX)
  have HZ1 := Aside0.mk (vkeepB HZ0.out hX)
  have HH1 := Aside0.mk hH1
  have HM1 := Aside0.mk hm1
  clear hR hX hH1 hC1 hm1 HR0 HB0 HZ0 HN
  obtain ⟨⟨p0, p1, p2, p3, p4, p5⟩, f0, f1, f2, f3, f4, f5⟩ := cells6 HZ1.out
  by_cases e0 : err = 0
  · subst e0
    by_cases hn : n < (l0.length : Int)
    · have HD : Aside0 (dec l0.length x n 0 = (pk0, 5)) := ⟨by unfold dec; rw [if_neg (by decide), if_pos hn]⟩
      go_wp2
      have hz := put6 HZ1.out HB1.out (Nat.le_refl _) (.int .i64 0) (.int .i64 0) (.int .i64 0) (.int .i64 0) (.int .u32 0) (.slice none 0 0)
      refine bodyPost_ret (results_ct rfl _ _ w.heap.size 25 _ (0, 0) _ rfl hz.1 Try.underlying25 rfl info_pack) rfl ?_
      exact ⟨none, 0, by rw [HD.out]; rfl, by rw [HD.out]; exact HeldT.nil, by rw [HD.out]; simp [pk0], by decide, hz.2.1⟩
    · obtain ⟨s, hs⟩ : ∃ s : Sc, s = ⟨x, 0⟩ := ⟨_, rfl⟩
      have hD : dec l0.length x n 0 = if s.pack.2.endE ≠ 0 then (pk0, s.pack.2.endE) else if pkright s.pack.1 = true then (s.pack.1, 0) else (pk0, 3) := by unfold dec; rw [if_neg (by decide), if_neg hn, hs]
      have HS2 : Aside0 (Scn 54 (fun k => wa.heap.size ≤ k ∧ k < w1.heap.size) (w1.alloc (.cells #[.slice A1 x.length n1, .int .i64 0] 54 (0, 0))) w1.heap.size s) := ⟨by rw [hs]; exact ⟨HX.out, fun h => absurd rfl h, fun h => by omega, by have := HL.out.2; simp only; omega, by simp, A1, n1, heap_alloc_new w1 _, hc1, HM1.out, HH1.out.below ((Below.refl _ _).alloc (Nat.le_refl _) _)⟩⟩
      have hb2 := (Below.refl w1.heap.size w1).alloc (Nat.le_refl _) (.cells #[.slice A1 x.length n1, .int .i64 0] 54 (0, 0))
      have HB2 := Aside0.mk (below_via4 HB1.out hb2)
      have HZ2 := Aside0.mk (vkeepB HZ1.out hb2)
      have LT := Aside0.mk (lt_of_heap HZ1.out)
      clear hb2 hs p0 p1 p2 p3 p4 p5 f0 f1 f2 f3 f4 f5
      go_upto_region 7 with fail
      generalize w1.alloc (.cells #[.slice A1 x.length n1, .int .i64 0] 54 (0, 0)) = w2 at HS2 HB2 HZ2 ⊢
      generalize hgs : w1.heap.size = gs at HS2 LT ⊢
      clear hgs HB1 HZ1 HH1
      go_wp2_with fail
      refine (rupto HS2.out 4 (by decide)).mono ?_
      rintro e wp ⟨rfl, hs, hg⟩
      have HB3 := Aside0.mk (below_of_grown HB2.out hg (Nat.le_of_lt LT.out))
      have HZ3 := Aside0.mk (vkeepG HZ2.out hg (Nat.ne_of_lt LT.out))
      have SZ := Aside0.mk (HB3.out.size)
      have hQ : s.k1 = ((s.upto 4).1, if (s.upto 4).1 = 0 then (s.upto 4).2.fail 3 else (s.upto 4).2) := rfl
      obtain ⟨o, ho⟩ : ∃ n, (s.upto 4).1 = n := ⟨_, rfl⟩
      obtain ⟨s2, hs2⟩ : ∃ q, (s.upto 4).2 = q := ⟨_, rfl⟩
      rw [hs2] at hs
      rw [ho, hs2] at hQ
      rw [ho]
      have HQ := Aside0.mk hQ
      have H2 := Aside0.mk (Own1.start (U := 25) hs #[.int .i64 o, .int .i64 0, .int .i64 0, .int .i64 0, .int .u32 0, .slice none 0 0])
      clear ho hs2 hQ hs hg HB2 HZ2 HS2
      go_upto_region 8 with fail
      go_upto_if 33 with fail
      go_cut [] (fun wx => Aside0 (Own1 54 25 (fun k => (wa.heap.size ≤ k ∧ k < gs) ∧ k < wp.heap.size) wp wx gs s.k1.2 #[.int .i64 s.k1.1, .int .i64 0, .int .i64 0, .int .i64 0, .int .u32 0, .slice none 0 0]))
      case first =>
        by_cases hn : o = 0
        · have b1 : (o == 0) = true := by simp [hn]
          have h1 : Aside0 (s.k1 = (o, s2.fail 3)) := ⟨by rw [HQ.out, if_pos hn]⟩
          clear hn
          go_wp2_with (go_at_call 30; refine (rfail H2.out.scn 3 (by decide)).mono ?_; rintro e w3 ⟨rfl, hs, hg⟩; have H3 := Aside0.mk (H2.out.call hs hg); clear hs hg)
          go_meet
          exact ⟨by rw [h1.out]; exact H3.out⟩
        · have b1 : (o == 0) = false := by simp [hn]
          have h1 : Aside0 (s.k1 = (o, s2)) := ⟨by rw [HQ.out, if_neg hn]⟩
          clear hn
          go_wp2
          go_meet
          exact ⟨by rw [h1.out]; exact H2.out⟩
      case rest =>
      have HN2 : Aside0 (s.k1 = (s.k1.1, s.k1.2)) := ⟨rfl⟩
      have H6 := hcut
      clear hcut HQ H2
      generalize hn1 : s.k1.1 = o at H6 HN2 ⊢
      generalize hs1 : s.k1.2 = s2 at H6 HN2 ⊢
      clear hn1 hs1
      obtain ⟨⟨c0, c1, c2, c3, c4, c5⟩, f0, f1, f2, f3, f4, f5⟩ := H6.out.cells6
      go_wp2_with fail
      refine (rupto H6.out.scn 1099511627776 (by decide)).mono ?_
      rintro e w4 ⟨rfl, hs, hg⟩
      have H4 := Aside0.mk (H6.out.call hs hg)
      clear hs hg H6 c0 c1 c2 c3 c4 c5 f0 f1 f2 f3 f4 f5
      have HPK : Aside0 (s.pack = Sc.k2 o (s2.upto 1099511627776).1 (s2.upto 1099511627776).2) := ⟨by unfold Sc.pack; rw [HN2.out]⟩
      generalize (s2.upto 1099511627776).1 = ep at HPK ⊢
      generalize (s2.upto 1099511627776).2 = s3 at HPK H4 ⊢
      obtain ⟨⟨c0, c1, c2, c3, c4, c5⟩, f0, f1, f2, f3, f4, f5⟩ := H4.out.cells6
      have H5 := Aside0.mk (H4.out.store 1 (.int .i64 ep))
      simp only [List.setIfInBounds_toArray, List.set_cons_zero, List.set_cons_succ] at H5
      clear H4
      by_cases k1 : o = 1
      · subst k1
        have HE : Aside0 (s.pack = (⟨1, ep, 0, (s3.upto 1048576).1, ((s3.upto 1048576).2.upto 4294967295).1 % 4294967296, []⟩, ((s3.upto 1048576).2.upto 4294967295).2)) := ⟨HPK.out⟩
        clear HPK
        go_wp2_with fail
        refine (rupto H5.out.scn 1048576 (by decide)).mono ?_
        rintro e w5 ⟨rfl, hs, hg⟩
        have H6a := Aside0.mk (H5.out.call hs hg)
        clear hs hg H5 c0 c1 c2 c3 c4 c5 f0 f1 f2 f3 f4 f5
        generalize (s3.upto 1048576).1 = q1 at HE ⊢
        generalize (s3.upto 1048576).2 = s4 at HE H6a
        obtain ⟨⟨c0, c1, c2, c3, c4, c5⟩, f0, f1, f2, f3, f4, f5⟩ := H6a.out.cells6
        have H6 := Aside0.mk (H6a.out.store 3 (.int .i64 q1))
        simp only [List.setIfInBounds_toArray, List.set_cons_zero, List.set_cons_succ] at H6
        clear H6a
        go_wp2_with fail
        refine (rupto H6.out.scn 4294967295 (by decide)).mono ?_
        rintro e w6 ⟨rfl, hs, hg⟩
        have H7a := Aside0.mk (H6.out.call hs hg)
        clear hs hg H6 c0 c1 c2 c3 c4 c5 f0 f1 f2 f3 f4 f5
        generalize (s4.upto 4294967295).1 = q2 at HE ⊢
        generalize (s4.upto 4294967295).2 = s5 at HE H7a
        obtain ⟨⟨c0, c1, c2, c3, c4, c5⟩, f0, f1, f2, f3, f4, f5⟩ := H7a.out.cells6
        have H7 := Aside0.mk (H7a.out.store 4 (.int .u32 (q2 % 4294967296)))
        simp only [List.setIfInBounds_toArray, List.set_cons_zero, List.set_cons_succ] at H7
        clear H7a
        go_upto_region 22 with fail
        have HHy : Aside0 (HeldT (w6.setCell ⟨wp.heap.size, 4, none⟩ (.int .u32 (q2 % 4294967296))) (fun k => wp.heap.size < k) none []) := ⟨HeldT.nil⟩
        have HC : Aside0 (([] : List Int).length ≤ 0 ∧ 0 ≤ 9223372036854775807) := ⟨by decide⟩
        generalize w6.setCell ⟨wp.heap.size, 4, none⟩ (.int .u32 (q2 % 4294967296)) = wy at H7 HHy ⊢
        clear c0 c1 c2 c3 c4 c5 f0 f1 f2 f3 f4 f5
        have HZ5 := Aside0.mk (vkeepG HZ3.out H7.out.grown (Nat.ne_of_lt LT.out))
        have HB5 := Aside0.mk (below_of_grown HB3.out H7.out.grown (Nat.le_of_lt LT.out))
        have HP5 := Aside0.mk H7.out.heap
        have HS5 := Aside0.mk H7.out.scn
        clear H7 HB3 HZ3
        rw [HE.out] at hD
        simp only at hD
        generalize wp.heap.size = gp at HP5 HHy SZ ⊢
        obtain ⟨⟨p0, p1, p2, p3, p4, p5⟩, f0, f1, f2, f3, f4, f5⟩ := cells6 HZ5.out
        obtain ⟨⟨q0', q1', q2', q3', q4', q5'⟩, g0, g1, g2, g3, g4, g5⟩ := cells6 HP5.out
        by_cases e1 : s5.endE = 0
        · have b1 : (s5.endE != 0) = false := by simp [e1]
          rw [if_neg (by simp [e1])] at hD
          clear e1
          go_wp2_with (go_at_call 32; have hop := rend HS5.out; refine hop.mono ?_; rintro e wq ⟨rfl, rfl⟩; clear hop)
          refine (rosetteref22_right.calls 3 1 ep 0 q1 (q2 % 4294967296) none 0 (([] : List Int)) (pkright ⟨1, ep, 0, q1, q2 % 4294967296, ([] : List Int)⟩) _ (HHy.out.C (by have := HC.out; omega)) HC.out.1 (rright_pk (by decide) ⟨1, ep, 0, q1, q2 % 4294967296, ([] : List Int)⟩)).mono ?_
          rintro e w8 ⟨rfl, hX⟩
          clear p0 p1 p2 p3 p4 p5 f0 f1 f2 f3 f4 f5 q0' q1' q2' q3' q4' q5' g0 g1 g2 g3 g4 g5
          have HB8 := Aside0.mk (below_via4 HB5.out hX)
          have HZ8 := Aside0.mk (vkeepB HZ5.out hX)
          have HP8 := Aside0.mk (vkeepB HP5.out hX)
          have HH8 := Aside0.mk (HHy.out.below hX)
          clear hX HB5 HZ5 HP5 HHy HS5
          obtain ⟨⟨p0, p1, p2, p3, p4, p5⟩, f0, f1, f2, f3, f4, f5⟩ := cells6 HZ8.out
          obtain ⟨⟨q0', q1', q2', q3', q4', q5'⟩, g0, g1, g2, g3, g4, g5⟩ := cells6 HP8.out
          by_cases r : pkright ⟨1, ep, 0, q1, q2 % 4294967296, ([] : List Int)⟩ = true
          · rw [if_pos r] at hD
            have HD := Aside0.mk hD
            rw [r]
            clear hD r
            go_wp2
            have hz := put6 HZ8.out HB8.out (Nat.le_refl _) (.int .i64 1) (.int .i64 ep) (.int .i64 0) (.int .i64 q1) (.int .u32 (q2 % 4294967296)) (.slice none 0 0)
            refine bodyPost_ret (results_ct rfl _ _ w.heap.size 25 _ (0, 0) _ rfl hz.1 Try.underlying25 rfl info_pack) rfl ?_
            exact ⟨none, 0, by rw [HD.out]; rfl, by rw [HD.out]; exact (hz.2.2 _ _ (fun k => gp < k) (by have := SZ.out; omega) HH8.out).mono (fun k hk => by have := SZ.out; omega), by rw [HD.out]; exact HC.out.1, HC.out.2, hz.2.1⟩
          · have r' : pkright ⟨1, ep, 0, q1, q2 % 4294967296, ([] : List Int)⟩ = false := by simpa using r
            rw [if_neg r] at hD
            have HD := Aside0.mk hD
            rw [r']
            clear hD r r'
            go_wp2
            have hz := put6 HZ8.out HB8.out (Nat.le_refl _) (.int .i64 0) (.int .i64 0) (.int .i64 0) (.int .i64 0) (.int .u32 0) (.slice none 0 0)
            refine bodyPost_ret (results_ct rfl _ _ w.heap.size 25 _ (0, 0) _ rfl hz.1 Try.underlying25 rfl info_pack) rfl ?_
            exact ⟨none, 0, by rw [HD.out]; rfl, by rw [HD.out]; exact HeldT.nil, by rw [HD.out]; simp [pk0], by decide, hz.2.1⟩
        · have b1 : (s5.endE != 0) = true := by simp [e1]
          rw [if_pos e1] at hD
          have HD := Aside0.mk hD
          clear e1 hD
          go_wp2_with (go_at_call 32; have hop := rend HS5.out; refine hop.mono ?_; rintro e wq ⟨rfl, rfl⟩; clear hop)
          have hz := put6 HZ5.out HB5.out (Nat.le_refl _) (.int .i64 0) (.int .i64 0) (.int .i64 0) (.int .i64 0) (.int .u32 0) (.slice none 0 0)
          refine bodyPost_ret (results_ct rfl _ _ w.heap.size 25 _ (0, 0) _ rfl hz.1 Try.underlying25 rfl info_pack) rfl ?_
          exact ⟨none, 0, by rw [HD.out]; rfl, by rw [HD.out]; exact HeldT.nil, by rw [HD.out]; simp [pk0], by decide, hz.2.1⟩
      · by_cases k2 : o = 2
        · subst k2
          have HE : Aside0 (s.pack = (⟨2, ep, (s3.upto 1048576).1, 0, 0, ((s3.upto 1048576).2.text 64).1⟩, ((s3.upto 1048576).2.text 64).2)) := ⟨HPK.out⟩
          clear HPK
          go_wp2_with fail
          refine (rupto H5.out.scn 1048576 (by decide)).mono ?_
          rintro e w5 ⟨rfl, hs, hg⟩
          have H6a := Aside0.mk (H5.out.call hs hg)
          clear hs hg H5 c0 c1 c2 c3 c4 c5 f0 f1 f2 f3 f4 f5
          generalize (s3.upto 1048576).1 = q1 at HE ⊢
          generalize (s3.upto 1048576).2 = s4 at HE H6a
          obtain ⟨⟨c0, c1, c2, c3, c4, c5⟩, f0, f1, f2, f3, f4, f5⟩ := H6a.out.cells6
          have H6 := Aside0.mk (H6a.out.store 2 (.int .i64 q1))
          simp only [List.setIfInBounds_toArray, List.set_cons_zero, List.set_cons_succ] at H6
          clear H6a
          go_wp2_with fail
          have hdu := text_u8s s4 64 H6.out.scn.u8
          have hdl := text_short s4 64 (by decide) (by decide) H6.out.scn.u8
          refine (rtext H6.out.scn 64 (by decide)).mono ?_
          rintro e w6 ⟨rfl, hs, hg⟩
          have H7a := Aside0.mk (H6.out.call hs hg)
          clear hs hg H6 c0 c1 c2 c3 c4 c5 f0 f1 f2 f3 f4 f5
          generalize (s4.text 64).1 = d at HE hdu hdl ⊢
          generalize (s4.text 64).2 = s5 at HE H7a
          obtain ⟨wb, cd, hconv, hc1, hc2, hB, hH, hsz⟩ := conv_freshT hdu (by rcases hdl with h | h; omega; rw [h]; simp) w6
          have H7b := Aside0.mk (H7a.out.below hB)
          have HH : Aside0 (HeldT wb (fun k => wp.heap.size < k) (some ⟨w6.heap.size, 0, none⟩) d) := ⟨hH.mono (fun k hk => by rw [hk]; exact lt_of_heap H7a.out.heap)⟩
          have HC := Aside0.mk (And.intro hc1 hc2)
          clear hc1 hc2 hB hH hsz hdu hdl H7a
          obtain ⟨⟨c0, c1, c2, c3, c4, c5⟩, f0, f1, f2, f3, f4, f5⟩ := H7b.out.cells6
          have H7 := Aside0.mk (H7b.out.store 5 (.slice (some ⟨w6.heap.size, 0, none⟩) d.length cd))
          simp only [List.setIfInBounds_toArray, List.set_cons_zero, List.set_cons_succ] at H7
          clear H7b
          go_upto_region 22 with fail
          have HHy := Aside0.mk (held_set HH.out (j := 5) (v := (.slice (some ⟨w6.heap.size, 0, none⟩) d.length cd)))
          generalize wb.setCell ⟨wp.heap.size, 5, none⟩ (.slice (some ⟨w6.heap.size, 0, none⟩) d.length cd) = wy at H7 HHy ⊢
          clear c0 c1 c2 c3 c4 c5 f0 f1 f2 f3 f4 f5 hconv HH
          have HZ5 := Aside0.mk (vkeepG HZ3.out H7.out.grown (Nat.ne_of_lt LT.out))
          have HB5 := Aside0.mk (below_of_grown HB3.out H7.out.grown (Nat.le_of_lt LT.out))
          have HP5 := Aside0.mk H7.out.heap
          have HS5 := Aside0.mk H7.out.scn
          clear H7 HB3 HZ3
          rw [HE.out] at hD
          simp only at hD
          generalize wp.heap.size = gp at HP5 HHy SZ ⊢
          obtain ⟨⟨p0, p1, p2, p3, p4, p5⟩, f0, f1, f2, f3, f4, f5⟩ := cells6 HZ5.out
          obtain ⟨⟨q0', q1', q2', q3', q4', q5'⟩, g0, g1, g2, g3, g4, g5⟩ := cells6 HP5.out
          by_cases e1 : s5.endE = 0
          · have b1 : (s5.endE != 0) = false := by simp [e1]
            rw [if_neg (by simp [e1])] at hD
            clear e1
            go_wp2_with (go_at_call 32; have hop := rend HS5.out; refine hop.mono ?_; rintro e wq ⟨rfl, rfl⟩; clear hop)
            refine (rosetteref22_right.calls 3 2 ep q1 0 0 (some ⟨w6.heap.size, 0, none⟩) cd (d) (pkright ⟨2, ep, q1, 0, 0, d⟩) _ (HHy.out.C (by have := HC.out; omega)) HC.out.1 (rright_pk (by decide) ⟨2, ep, q1, 0, 0, d⟩)).mono ?_
            rintro e w8 ⟨rfl, hX⟩
            clear p0 p1 p2 p3 p4 p5 f0 f1 f2 f3 f4 f5 q0' q1' q2' q3' q4' q5' g0 g1 g2 g3 g4 g5
            have HB8 := Aside0.mk (below_via4 HB5.out hX)
            have HZ8 := Aside0.mk (vkeepB HZ5.out hX)
            have HP8 := Aside0.mk (vkeepB HP5.out hX)
            have HH8 := Aside0.mk (HHy.out.below hX)
            clear hX HB5 HZ5 HP5 HHy HS5
            obtain ⟨⟨p0, p1, p2, p3, p4, p5⟩, f0, f1, f2, f3, f4, f5⟩ := cells6 HZ8.out
            obtain ⟨⟨q0', q1', q2', q3', q4', q5'⟩, g0, g1, g2, g3, g4, g5⟩ := cells6 HP8.out
            by_cases r : pkright ⟨2, ep, q1, 0, 0, d⟩ = true
            · rw [if_pos r] at hD
              have HD := Aside0.mk hD
              rw [r]
              clear hD r
              go_wp2
              have hz := put6 HZ8.out HB8.out (Nat.le_refl _) (.int .i64 2) (.int .i64 ep) (.int .i64 q1) (.int .i64 0) (.int .u32 0) (.slice (some ⟨w6.heap.size, 0, none⟩) d.length cd)
              refine bodyPost_ret (results_ct rfl _ _ w.heap.size 25 _ (0, 0) _ rfl hz.1 Try.underlying25 rfl info_pack) rfl ?_
              exact ⟨(some ⟨w6.heap.size, 0, none⟩), cd, by rw [HD.out]; rfl, by rw [HD.out]; exact (hz.2.2 _ _ (fun k => gp < k) (by have := SZ.out; omega) HH8.out).mono (fun k hk => by have := SZ.out; omega), by rw [HD.out]; exact HC.out.1, HC.out.2, hz.2.1⟩
            · have r' : pkright ⟨2, ep, q1, 0, 0, d⟩ = false := by simpa using r
              rw [if_neg r] at hD
              have HD := Aside0.mk hD
              rw [r']
              clear hD r r'
              go_wp2
              have hz := put6 HZ8.out HB8.out (Nat.le_refl _) (.int .i64 0) (.int .i64 0) (.int .i64 0) (.int .i64 0) (.int .u32 0) (.slice none 0 0)
              refine bodyPost_ret (results_ct rfl _ _ w.heap.size 25 _ (0, 0) _ rfl hz.1 Try.underlying25 rfl info_pack) rfl ?_
              exact ⟨none, 0, by rw [HD.out]; rfl, by rw [HD.out]; exact HeldT.nil, by rw [HD.out]; simp [pk0], by decide, hz.2.1⟩
          · have b1 : (s5.endE != 0) = true := by simp [e1]
            rw [if_pos e1] at hD
            have HD := Aside0.mk hD
            clear e1 hD
            go_wp2_with (go_at_call 32; have hop := rend HS5.out; refine hop.mono ?_; rintro e wq ⟨rfl, rfl⟩; clear hop)
            have hz := put6 HZ5.out HB5.out (Nat.le_refl _) (.int .i64 0) (.int .i64 0) (.int .i64 0) (.int .i64 0) (.int .u32 0) (.slice none 0 0)
            refine bodyPost_ret (results_ct rfl _ _ w.heap.size 25 _ (0, 0) _ rfl hz.1 Try.underlying25 rfl info_pack) rfl ?_
            exact ⟨none, 0, by rw [HD.out]; rfl, by rw [HD.out]; exact HeldT.nil, by rw [HD.out]; simp [pk0], by decide, hz.2.1⟩
        · by_cases k3 : o = 3
          · subst k3
            have HE : Aside0 (s.pack = (⟨3, ep, (s3.upto 1048576).1, 0, 0, []⟩, (s3.upto 1048576).2)) := ⟨HPK.out⟩
            clear HPK
            go_wp2_with fail
            refine (rupto H5.out.scn 1048576 (by decide)).mono ?_
            rintro e w5 ⟨rfl, hs, hg⟩
            have H6a := Aside0.mk (H5.out.call hs hg)
            clear hs hg H5 c0 c1 c2 c3 c4 c5 f0 f1 f2 f3 f4 f5
            generalize (s3.upto 1048576).1 = q1 at HE ⊢
            generalize (s3.upto 1048576).2 = s4 at HE H6a
            obtain ⟨⟨c0, c1, c2, c3, c4, c5⟩, f0, f1, f2, f3, f4, f5⟩ := H6a.out.cells6
            have H6 := Aside0.mk (H6a.out.store 2 (.int .i64 q1))
            simp only [List.setIfInBounds_toArray, List.set_cons_zero, List.set_cons_succ] at H6
            clear H6a
            go_upto_region 22 with fail
            have HHy : Aside0 (HeldT (w5.setCell ⟨wp.heap.size, 2, none⟩ (.int .i64 q1)) (fun k => wp.heap.size < k) none []) := ⟨HeldT.nil⟩
            have HC : Aside0 (([] : List Int).length ≤ 0 ∧ 0 ≤ 9223372036854775807) := ⟨by decide⟩
            generalize w5.setCell ⟨wp.heap.size, 2, none⟩ (.int .i64 q1) = wy at H6 HHy ⊢
            clear c0 c1 c2 c3 c4 c5 f0 f1 f2 f3 f4 f5
            have HZ5 := Aside0.mk (vkeepG HZ3.out H6.out.grown (Nat.ne_of_lt LT.out))
            have HB5 := Aside0.mk (below_of_grown HB3.out H6.out.grown (Nat.le_of_lt LT.out))
            have HP5 := Aside0.mk H6.out.heap
            have HS5 := Aside0.mk H6.out.scn
            clear H6 HB3 HZ3
            rw [HE.out] at hD
            simp only at hD
            generalize wp.heap.size = gp at HP5 HHy SZ ⊢
            obtain ⟨⟨p0, p1, p2, p3, p4, p5⟩, f0, f1, f2, f3, f4, f5⟩ := cells6 HZ5.out
            obtain ⟨⟨q0', q1', q2', q3', q4', q5'⟩, g0, g1, g2, g3, g4, g5⟩ := cells6 HP5.out
            by_cases e1 : s4.endE = 0
            · have b1 : (s4.endE != 0) = false := by simp [e1]
              rw [if_neg (by simp [e1])] at hD
              clear e1
              go_wp2_with (go_at_call 32; have hop := rend HS5.out; refine hop.mono ?_; rintro e wq ⟨rfl, rfl⟩; clear hop)
              refine (rosetteref22_right.calls 3 3 ep q1 0 0 none 0 (([] : List Int)) (pkright ⟨3, ep, q1, 0, 0, ([] : List Int)⟩) _ (HHy.out.C (by have := HC.out; omega)) HC.out.1 (rright_pk (by decide) ⟨3, ep, q1, 0, 0, ([] : List Int)⟩)).mono ?_
              rintro e w8 ⟨rfl, hX⟩
              clear p0 p1 p2 p3 p4 p5 f0 f1 f2 f3 f4 f5 q0' q1' q2' q3' q4' q5' g0 g1 g2 g3 g4 g5
              have HB8 := Aside0.mk (below_via4 HB5.out hX)
              have HZ8 := Aside0.mk (vkeepB HZ5.out hX)
              have HP8 := Aside0.mk (vkeepB HP5.out hX)
              have HH8 := Aside0.mk (HHy.out.below hX)
              clear hX HB5 HZ5 HP5 HHy HS5
              obtain ⟨⟨p0, p1, p2, p3, p4, p5⟩, f0, f1, f2, f3, f4, f5⟩ := cells6 HZ8.out
              obtain ⟨⟨q0', q1', q2', q3', q4', q5'⟩, g0, g1, g2, g3, g4, g5⟩ := cells6 HP8.out
              by_cases r : pkright ⟨3, ep, q1, 0, 0, ([] : List Int)⟩ = true
              · rw [if_pos r] at hD
                have HD := Aside0.mk hD
                rw [r]
                clear hD r
                go_wp2
                have hz := put6 HZ8.out HB8.out (Nat.le_refl _) (.int .i64 3) (.int .i64 ep) (.int .i64 q1) (.int .i64 0) (.int .u32 0) (.slice none 0 0)
                refine bodyPost_ret (results_ct rfl _ _ w.heap.size 25 _ (0, 0) _ rfl hz.1 Try.underlying25 rfl info_pack) rfl ?_
                exact ⟨none, 0, by rw [HD.out]; rfl, by rw [HD.out]; exact (hz.2.2 _ _ (fun k => gp < k) (by have := SZ.out; omega) HH8.out).mono (fun k hk => by have := SZ.out; omega), by rw [HD.out]; exact HC.out.1, HC.out.2, hz.2.1⟩
              · have r' : pkright ⟨3, ep, q1, 0, 0, ([] : List Int)⟩ = false := by simpa using r
                rw [if_neg r] at hD
                have HD := Aside0.mk hD
                rw [r']
                clear hD r r'
                go_wp2
                have hz := put6 HZ8.out HB8.out (Nat.le_refl _) (.int .i64 0) (.int .i64 0) (.int .i64 0) (.int .i64 0) (.int .u32 0) (.slice none 0 0)
                refine bodyPost_ret (results_ct rfl _ _ w.heap.size 25 _ (0, 0) _ rfl hz.1 Try.underlying25 rfl info_pack) rfl ?_
                exact ⟨none, 0, by rw [HD.out]; rfl, by rw [HD.out]; exact HeldT.nil, by rw [HD.out]; simp [pk0], by decide, hz.2.1⟩
            · have b1 : (s4.endE != 0) = true := by simp [e1]
              rw [if_pos e1] at hD
              have HD := Aside0.mk hD
              clear e1 hD
              go_wp2_with (go_at_call 32; have hop := rend HS5.out; refine hop.mono ?_; rintro e wq ⟨rfl, rfl⟩; clear hop)
              have hz := put6 HZ5.out HB5.out (Nat.le_refl _) (.int .i64 0) (.int .i64 0) (.int .i64 0) (.int .i64 0) (.int .u32 0) (.slice none 0 0)
              refine bodyPost_ret (results_ct rfl _ _ w.heap.size 25 _ (0, 0) _ rfl hz.1 Try.underlying25 rfl info_pack) rfl ?_
              exact ⟨none, 0, by rw [HD.out]; rfl, by rw [HD.out]; exact HeldT.nil, by rw [HD.out]; simp [pk0], by decide, hz.2.1⟩
          · by_cases k4 : o = 4
            · subst k4
              have HE : Aside0 (s.pack = (⟨4, ep, 0, 0, 0, (s3.text 4096).1⟩, (s3.text 4096).2)) := ⟨HPK.out⟩
              clear HPK
              go_wp2_with fail
              have hdu := text_u8s s3 4096 H5.out.scn.u8
              have hdl := text_short s3 4096 (by decide) (by decide) H5.out.scn.u8
              refine (rtext H5.out.scn 4096 (by decide)).mono ?_
              rintro e w6 ⟨rfl, hs, hg⟩
              have H6a := Aside0.mk (H5.out.call hs hg)
              clear hs hg H5 c0 c1 c2 c3 c4 c5 f0 f1 f2 f3 f4 f5
              generalize (s3.text 4096).1 = d at HE hdu hdl ⊢
              generalize (s3.text 4096).2 = s5 at HE H6a
              obtain ⟨wb, cd, hconv, hc1, hc2, hB, hH, hsz⟩ := conv_freshT hdu (by rcases hdl with h | h; omega; rw [h]; simp) w6
              have H6b := Aside0.mk (H6a.out.below hB)
              have HH : Aside0 (HeldT wb (fun k => wp.heap.size < k) (some ⟨w6.heap.size, 0, none⟩) d) := ⟨hH.mono (fun k hk => by rw [hk]; exact lt_of_heap H6a.out.heap)⟩
              have HC := Aside0.mk (And.intro hc1 hc2)
              clear hc1 hc2 hB hH hsz hdu hdl H6a
              obtain ⟨⟨c0, c1, c2, c3, c4, c5⟩, f0, f1, f2, f3, f4, f5⟩ := H6b.out.cells6
              have H6 := Aside0.mk (H6b.out.store 5 (.slice (some ⟨w6.heap.size, 0, none⟩) d.length cd))
              simp only [List.setIfInBounds_toArray, List.set_cons_zero, List.set_cons_succ] at H6
              clear H6b
              go_upto_region 22 with fail
              have HHy := Aside0.mk (held_set HH.out (j := 5) (v := (.slice (some ⟨w6.heap.size, 0, none⟩) d.length cd)))
              generalize wb.setCell ⟨wp.heap.size, 5, none⟩ (.slice (some ⟨w6.heap.size, 0, none⟩) d.length cd) = wy at H6 HHy ⊢
              clear c0 c1 c2 c3 c4 c5 f0 f1 f2 f3 f4 f5 hconv HH
              have HZ5 := Aside0.mk (vkeepG HZ3.out H6.out.grown (Nat.ne_of_lt LT.out))
              have HB5 := Aside0.mk (below_of_grown HB3.out H6.out.grown (Nat.le_of_lt LT.out))
              have HP5 := Aside0.mk H6.out.heap
              have HS5 := Aside0.mk H6.out.scn
              clear H6 HB3 HZ3
              rw [HE.out] at hD
              simp only at hD
              generalize wp.heap.size = gp at HP5 HHy SZ ⊢
              obtain ⟨⟨p0, p1, p2, p3, p4, p5⟩, f0, f1, f2, f3, f4, f5⟩ := cells6 HZ5.out
              obtain ⟨⟨q0', q1', q2', q3', q4', q5'⟩, g0, g1, g2, g3, g4, g5⟩ := cells6 HP5.out
              by_cases e1 : s5.endE = 0
              · have b1 : (s5.endE != 0) = false := by simp [e1]
                rw [if_neg (by simp [e1])] at hD
                clear e1
                go_wp2_with (go_at_call 32; have hop := rend HS5.out; refine hop.mono ?_; rintro e wq ⟨rfl, rfl⟩; clear hop)
                refine (rosetteref22_right.calls 3 4 ep 0 0 0 (some ⟨w6.heap.size, 0, none⟩) cd (d) (pkright ⟨4, ep, 0, 0, 0, d⟩) _ (HHy.out.C (by have := HC.out; omega)) HC.out.1 (rright_pk (by decide) ⟨4, ep, 0, 0, 0, d⟩)).mono ?_
                rintro e w8 ⟨rfl, hX⟩
                clear p0 p1 p2 p3 p4 p5 f0 f1 f2 f3 f4 f5 q0' q1' q2' q3' q4' q5' g0 g1 g2 g3 g4 g5
                have HB8 := Aside0.mk (below_via4 HB5.out hX)
                have HZ8 := Aside0.mk (vkeepB HZ5.out hX)
                have HP8 := Aside0.mk (vkeepB HP5.out hX)
                have HH8 := Aside0.mk (HHy.out.below hX)
                clear hX HB5 HZ5 HP5 HHy HS5
                obtain ⟨⟨p0, p1, p2, p3, p4, p5⟩, f0, f1, f2, f3, f4, f5⟩ := cells6 HZ8.out
                obtain ⟨⟨q0', q1', q2', q3', q4', q5'⟩, g0, g1, g2, g3, g4, g5⟩ := cells6 HP8.out
                by_cases r : pkright ⟨4, ep, 0, 0, 0, d⟩ = true
                · rw [if_pos r] at hD
                  have HD := Aside0.mk hD
                  rw [r]
                  clear hD r
                  go_wp2
                  have hz := put6 HZ8.out HB8.out (Nat.le_refl _) (.int .i64 4) (.int .i64 ep) (.int .i64 0) (.int .i64 0) (.int .u32 0) (.slice (some ⟨w6.heap.size, 0, none⟩) d.length cd)
                  refine bodyPost_ret (results_ct rfl _ _ w.heap.size 25 _ (0, 0) _ rfl hz.1 Try.underlying25 rfl info_pack) rfl ?_
                  exact ⟨(some ⟨w6.heap.size, 0, none⟩), cd, by rw [HD.out]; rfl, by rw [HD.out]; exact (hz.2.2 _ _ (fun k => gp < k) (by have := SZ.out; omega) HH8.out).mono (fun k hk => by have := SZ.out; omega), by rw [HD.out]; exact HC.out.1, HC.out.2, hz.2.1⟩
                · have r' : pkright ⟨4, ep, 0, 0, 0, d⟩ = false := by simpa using r
                  rw [if_neg r] at hD
                  have HD := Aside0.mk hD
                  rw [r']
                  clear hD r r'
                  go_wp2
                  have hz := put6 HZ8.out HB8.out (Nat.le_refl _) (.int .i64 0) (.int .i64 0) (.int .i64 0) (.int .i64 0) (.int .u32 0) (.slice none 0 0)
                  refine bodyPost_ret (results_ct rfl _ _ w.heap.size 25 _ (0, 0) _ rfl hz.1 Try.underlying25 rfl info_pack) rfl ?_
                  exact ⟨none, 0, by rw [HD.out]; rfl, by rw [HD.out]; exact HeldT.nil, by rw [HD.out]; simp [pk0], by decide, hz.2.1⟩
              · have b1 : (s5.endE != 0) = true := by simp [e1]
                rw [if_pos e1] at hD
                have HD := Aside0.mk hD
                clear e1 hD
                go_wp2_with (go_at_call 32; have hop := rend HS5.out; refine hop.mono ?_; rintro e wq ⟨rfl, rfl⟩; clear hop)
                have hz := put6 HZ5.out HB5.out (Nat.le_refl _) (.int .i64 0) (.int .i64 0) (.int .i64 0) (.int .i64 0) (.int .u32 0) (.slice none 0 0)
                refine bodyPost_ret (results_ct rfl _ _ w.heap.size 25 _ (0, 0) _ rfl hz.1 Try.underlying25 rfl info_pack) rfl ?_
                exact ⟨none, 0, by rw [HD.out]; rfl, by rw [HD.out]; exact HeldT.nil, by rw [HD.out]; simp [pk0], by decide, hz.2.1⟩
            · have HE : Aside0 (s.pack = (⟨o, ep, 0, 0, 0, []⟩, s3)) := ⟨by rw [HPK.out, Sc.k2, if_neg k1, if_neg k2, if_neg k3, if_neg k4]⟩
              clear HPK
              go_upto_region 22 with fail
              have HHy : Aside0 (HeldT (w4.setCell ⟨wp.heap.size, 1, none⟩ (.int .i64 ep)) (fun k => wp.heap.size < k) none []) := ⟨HeldT.nil⟩
              have HC : Aside0 (([] : List Int).length ≤ 0 ∧ 0 ≤ 9223372036854775807) := ⟨by decide⟩
              generalize w4.setCell ⟨wp.heap.size, 1, none⟩ (.int .i64 ep) = wy at H5 HHy ⊢
              clear c0 c1 c2 c3 c4 c5 f0 f1 f2 f3 f4 f5
              have HZ5 := Aside0.mk (vkeepG HZ3.out H5.out.grown (Nat.ne_of_lt LT.out))
              have HB5 := Aside0.mk (below_of_grown HB3.out H5.out.grown (Nat.le_of_lt LT.out))
              have HP5 := Aside0.mk H5.out.heap
              have HS5 := Aside0.mk H5.out.scn
              clear H5 HB3 HZ3
              rw [HE.out] at hD
              simp only at hD
              generalize wp.heap.size = gp at HP5 HHy SZ ⊢
              obtain ⟨⟨p0, p1, p2, p3, p4, p5⟩, f0, f1, f2, f3, f4, f5⟩ := cells6 HZ5.out
              obtain ⟨⟨q0', q1', q2', q3', q4', q5'⟩, g0, g1, g2, g3, g4, g5⟩ := cells6 HP5.out
              by_cases e1 : s3.endE = 0
              · have b1 : (s3.endE != 0) = false := by simp [e1]
                rw [if_neg (by simp [e1])] at hD
                clear e1
                go_wp2_with (go_at_call 32; have hop := rend HS5.out; refine hop.mono ?_; rintro e wq ⟨rfl, rfl⟩; clear hop)
                refine (rosetteref22_right.calls 3 o ep 0 0 0 none 0 (([] : List Int)) (pkright ⟨o, ep, 0, 0, 0, ([] : List Int)⟩) _ (HHy.out.C (by have := HC.out; omega)) HC.out.1 (rright_pk (by decide) ⟨o, ep, 0, 0, 0, ([] : List Int)⟩)).mono ?_
                rintro e w8 ⟨rfl, hX⟩
                clear p0 p1 p2 p3 p4 p5 f0 f1 f2 f3 f4 f5 q0' q1' q2' q3' q4' q5' g0 g1 g2 g3 g4 g5
                have HB8 := Aside0.mk (below_via4 HB5.out hX)
                have HZ8 := Aside0.mk (vkeepB HZ5.out hX)
                have HP8 := Aside0.mk (vkeepB HP5.out hX)
                have HH8 := Aside0.mk (HHy.out.below hX)
                clear hX HB5 HZ5 HP5 HHy HS5
                obtain ⟨⟨p0, p1, p2, p3, p4, p5⟩, f0, f1, f2, f3, f4, f5⟩ := cells6 HZ8.out
                obtain ⟨⟨q0', q1', q2', q3', q4', q5'⟩, g0, g1, g2, g3, g4, g5⟩ := cells6 HP8.out
                by_cases r : pkright ⟨o, ep, 0, 0, 0, ([] : List Int)⟩ = true
                · rw [if_pos r] at hD
                  have HD := Aside0.mk hD
                  rw [r]
                  clear hD r
                  go_wp2
                  have hz := put6 HZ8.out HB8.out (Nat.le_refl _) (.int .i64 o) (.int .i64 ep) (.int .i64 0) (.int .i64 0) (.int .u32 0) (.slice none 0 0)
                  refine bodyPost_ret (results_ct rfl _ _ w.heap.size 25 _ (0, 0) _ rfl hz.1 Try.underlying25 rfl info_pack) rfl ?_
                  exact ⟨none, 0, by rw [HD.out]; rfl, by rw [HD.out]; exact (hz.2.2 _ _ (fun k => gp < k) (by have := SZ.out; omega) HH8.out).mono (fun k hk => by have := SZ.out; omega), by rw [HD.out]; exact HC.out.1, HC.out.2, hz.2.1⟩
                · have r' : pkright ⟨o, ep, 0, 0, 0, ([] : List Int)⟩ = false := by simpa using r
                  rw [if_neg r] at hD
                  have HD := Aside0.mk hD
                  rw [r']
                  clear hD r r'
                  go_wp2
                  have hz := put6 HZ8.out HB8.out (Nat.le_refl _) (.int .i64 0) (.int .i64 0) (.int .i64 0) (.int .i64 0) (.int .u32 0) (.slice none 0 0)
                  refine bodyPost_ret (results_ct rfl _ _ w.heap.size 25 _ (0, 0) _ rfl hz.1 Try.underlying25 rfl info_pack) rfl ?_
                  exact ⟨none, 0, by rw [HD.out]; rfl, by rw [HD.out]; exact HeldT.nil, by rw [HD.out]; simp [pk0], by decide, hz.2.1⟩
              · have b1 : (s3.endE != 0) = true := by simp [e1]
                rw [if_pos e1] at hD
                have HD := Aside0.mk hD
                clear e1 hD
                go_wp2_with (go_at_call 32; have hop := rend HS5.out; refine hop.mono ?_; rintro e wq ⟨rfl, rfl⟩; clear hop)
                have hz := put6 HZ5.out HB5.out (Nat.le_refl _) (.int .i64 0) (.int .i64 0) (.int .i64 0) (.int .i64 0) (.int .u32 0) (.slice none 0 0)
                refine bodyPost_ret (results_ct rfl _ _ w.heap.size 25 _ (0, 0) _ rfl hz.1 Try.underlying25 rfl info_pack) rfl ?_
                exact ⟨none, 0, by rw [HD.out]; rfl, by rw [HD.out]; exact HeldT.nil, by rw [HD.out]; simp [pk0], by decide, hz.2.1⟩
  · have HD : Aside0 (dec l0.length x n err = (pk0, err)) := ⟨by unfold dec; rw [if_pos e0]⟩
    have b0 : (err != 0) = true := by simp [e0]
    go_wp2
    have hz := put6 HZ1.out HB1.out (Nat.le_refl _) (.int .i64 0) (.int .i64 0) (.int .i64 0) (.int .i64 0) (.int .u32 0) (.slice none 0 0)
    refine bodyPost_ret (results_ct rfl _ _ w.heap.size 25 _ (0, 0) _ rfl hz.1 Try.underlying25 rfl info_pack) rfl ?_
    exact ⟨none, 0, by rw [HD.out]; rfl, by rw [HD.out]; exact HeldT.nil, by rw [HD.out]; simp [pk0], by decide, hz.2.1⟩
end Go.Proofs.Yticpcjjgdkbcjaa
end

section
/- a row of bytes that was read out of a scan: it reads, its block is of bytes and none of the caller's (no row of the call's own: a conversion's block bears a mark) -/
set_option linter.unusedVariables false
set_option linter.unusedSimpArgs false
set_option autoImplicit false
namespace Go.Proofs.Yticpcjjgdkbcjaa
open Go.RowKit Go.Proofs.YticpcjjgdkbcjaaW.PrintWords Go.Proofs.YticpcjjgdkbcjaaW.PrintLast Go.Proofs.YticpcjjgdkbcjaaW.PrintMore Go.Proofs.Yticpcjjgdkbcjaa.G

def Rs (e : Nat) (w : World) (base : Nat) (ok : Nat → Prop) (v : Value) (xs : List Int) : Prop :=
  e = 5 ∧ ∃ A c, v = .slice A xs.length c ∧ xs.length ≤ c ∧ c ≤ 9223372036854775807 ∧ HeldT w (fun k => ok k ∧ base ≤ k) A xs
section
variable {e : Nat} {w w1 W : World} {base b : Nat} {ok ok' : Nat → Prop} {v u : Value} {xs : List Int}
theorem Rs.own (h : Rs e w base ok v xs) : ∀ k, v.ownBlock = some k → ok k ∧ base ≤ k ∧ k < w.heap.size ∧ ∃ cells fr, w.heap[k]? = some (.cells cells 5 fr) := by
  obtain ⟨_, A, c, rfl, _, _, hH⟩ := h
  intro k hk
  cases A with
  | none => simp [Value.ownBlock] at hk
  | some ad =>
    have hk' : ad.block = k := by simpa [Value.ownBlock] using hk
    subst hk'
    obtain ⟨h1, h2, _⟩ := hH.2 ad rfl
    obtain ⟨cs, fr, hh⟩ := h2
    exact ⟨h1.1, h1.2, (Array.getElem?_eq_some_iff.1 hh).1, cs, fr, hh⟩
theorem Rs_mono (h : Rs e w base ok v xs) (hok : ∀ k, ok k → ok' k) : Rs e w base ok' v xs := by
  obtain ⟨he, A, c, hv, h1, h2, hH⟩ := h
  exact ⟨he, A, c, hv, h1, h2, hH.mono fun k hk => ⟨hok k hk.1, hk.2⟩⟩
theorem Rs_lower {base' : Nat} (h : Rs e w base ok v xs) (hb : base' ≤ base) : Rs e w base' ok v xs := by
  obtain ⟨he, A, c, hv, h1, h2, hH⟩ := h
  exact ⟨he, A, c, hv, h1, h2, hH.mono fun k hk => ⟨hk.1, Nat.le_trans hb hk.2⟩⟩
theorem Rs_below (h : Rs e w base ok v xs) (hb : Below w.heap.size w w1) : Rs e w1 base ok v xs := by
  obtain ⟨he, A, c, hv, h1, h2, hH⟩ := h
  exact ⟨he, A, c, hv, h1, h2, hH.below hb⟩
theorem Rs_alloc (h : Rs e w base ok v xs) (o : Obj) : Rs e (w.alloc o) base ok v xs := Rs_below h (below_alloc (Below.refl _ _) o)
theorem Rs_drew (h : Rs e w base ok v xs) : Rs e w.drew base ok v xs := Rs_below h (below_drew (Below.refl _ _))
theorem Rs_drewN (h : Rs e w base ok v xs) (m : Nat) : Rs e (w.drewN m) base ok v xs := Rs_below h (pw_below_drewN (Below.refl _ _) m)
theorem Rs_far (h : Rs e w base ok v xs) {p : Addr} (hok : ∀ k, ok k → k ≠ p.block) (x : Value) : Rs e (w.setCell p x) base ok v xs := by
  obtain ⟨he, A, c, hv, h1, h2, hH⟩ := h
  exact ⟨he, A, c, hv, h1, h2, hH.set (fun k hk => hok k hk.1) x⟩
theorem Rs_grown (h : Rs e w base ok v xs) {row : Option Nat} (hg : w.grownBy w1 row) (hok : ∀ k, ok k → some k ≠ row) : Rs e w1 base ok v xs := by
  obtain ⟨he, A, c, hv, h1, h2, hH⟩ := h
  exact ⟨he, A, c, hv, h1, h2, hH.keep fun k hl hk => hg.block k hl (hok k hk.1)⟩
theorem Rs_types (h : Rs e w base ok v xs) {g t : Nat} {cells : Array Value} (hb : w.heap[g]? = some (.cells cells t (0, 0))) (ht : ∀ q, q ∈ e :: (Kd.int .u8).E → q ≠ t) : Rs e w base (fun k => ok k ∧ k ≠ g) v xs := by
  obtain ⟨he, A, c, hv, h1, h2, hH⟩ := h
  refine ⟨he, A, c, hv, h1, h2, hH.bound.mono fun k hk => ⟨⟨hk.1.1, ?_⟩, hk.1.2⟩⟩
  obtain ⟨_, _, cs, fr, hc⟩ := hk
  rintro rfl
  rw [hc] at hb
  injection hb with hb
  injection hb with _ hb
  exact ht e List.mem_cons_self (he.trans hb)
theorem Rs_lt (h : Rs e w base ok v xs) : ∀ k, v.ownBlock = some k → k < w.heap.size := fun k hk => (h.own k hk).2.2.1
theorem Rs_base (h : Rs e w base ok v xs) : ∀ k, v.ownBlock = some k → base ≤ k := fun k hk => (h.own k hk).2.1
theorem Rs_new' (h : Rs e w1 W.heap.size ok v xs) (hu : ∀ k, u.ownBlock = some k → k < W.heap.size) : Rs e w1 W.heap.size (fun k => ok k ∧ some k ≠ u.ownBlock) v xs := by
  obtain ⟨he, A, c, hv, h1, h2, hH⟩ := h
  exact ⟨he, A, c, hv, h1, h2, hH.mono fun k hk => ⟨⟨hk.1, fun e => by have := hu k e.symm; omega⟩, hk.2⟩⟩
theorem Rs_elder' (hu : Rs e W b ok u xs) (h : ∀ k, v.ownBlock = some k → W.heap.size ≤ k) (hb : Below W.heap.size W w1) : Rs e w1 b (fun k => ok k ∧ some k ≠ v.ownBlock) u xs := by
  obtain ⟨he, A, c, hv, h1, h2, hH⟩ := hu
  exact ⟨he, A, c, hv, h1, h2, (hH.bound.keep fun k hl hk => hb.block k hl).mono fun k hk => ⟨⟨hk.1.1, fun e => by have := h k e.symm; have := hk.2.1; omega⟩, hk.1.2⟩⟩
theorem Rs_slice (h : Rs e w base ok v xs) : ∃ A c, v = .slice A xs.length c := by
  obtain ⟨_, A, c, hv, _⟩ := h
  exact ⟨A, c, hv⟩
theorem Rs_reads' {A : Option Addr} {n c : Nat} (h : Rs e w base ok (.slice A n c) xs) : n = xs.length ∧ n ≤ c ∧ (Kd.int .u8).C w A xs.length xs := by
  obtain ⟨_, A', c', he, h1, h2, hH⟩ := h
  injection he with q1 q2 q3
  subst q1
  exact ⟨q2, by omega, hH.C (by omega)⟩
theorem Rs_of {A : Option Addr} {c : Nat} (h : HeldT w (fun k => base ≤ k) A xs) (h1 : xs.length ≤ c) (h2 : c ≤ 9223372036854775807) : Rs 5 w base (fun _ => True) (.slice A xs.length c) xs :=
  ⟨rfl, A, c, rfl, h1, h2, h.mono fun k hk => ⟨trivial, hk⟩⟩
end
/-- what is decoded, as the print takes results -/
def Pk.r (p : Pk) (e : Int) : Int × Int × Int × Int × Int × List Int × Int := (p.k, p.e, p.s, p.t, p.u, p.d, e)
end Go.Proofs.Yticpcjjgdkbcjaa
end

section
-- Written by a program of this session (wip/tools/myprint.py), over the kit's print.
namespace Go.Proofs.Yticpcjjgdkbcjaa.G
open Go.RowKit Go.Proofs.YticpcjjgdkbcjaaW.PrintWords Go.Proofs.YticpcjjgdkbcjaaW.PrintLast Go.Proofs.YticpcjjgdkbcjaaW.PrintMore
attribute [local go_sem] max2_int min2_int max_two min_two max_three min_three max_four min_four   -- for this text's walks alone
set_option linter.unusedVariables false
set_option linter.unusedSimpArgs false

-- BY HAND
-- IMPORT YticpcjjgdkbcjaaPackRs
def packet_Decode.f (l0 : List Int) : Option (Int × Int × Int × Int × Int × List Int × Int) :=
  (frame_Next.f l0).bind fun r => if u8s r.1 ∧ r.1.length ≤ 140737488355300 then some ((dec l0.length r.1 r.2.1 r.2.2).1.r (dec l0.length r.1 r.2.1 r.2.2).2) else none
theorem packet_Decode.calls (A0 : Option Addr) (c0 : Nat) (l0 : List Int) (r1 r2 r3 r4 r5 : Int) (r6 : List Int) (r7 : Int) (w : World) (hr0 : Kd.C (Kd.int .u8) w A0 l0.length l0) (hc0 : l0.length ≤ c0) (h : packet_Decode.f l0 = some (r1, r2, r3, r4, r5, r6, r7)) :
    Calls Try.prog 11 #[.slice A0 l0.length c0] w fun e w' => ∃ v1_ : Value, e = .returned (.tuple #[.agg #[.int .i64 r1, .int .i64 r2, .int .i64 r3, .int .i64 r4, .int .u32 r5, v1_], .int .i64 r7]) ∧ Rs 5 w' w.heap.size (fun _ => True) v1_ r6 ∧ Below w.heap.size w w' := by
  unfold packet_Decode.f at h
  obtain ⟨⟨x, n, er⟩, hN, h⟩ := Option.bind_eq_some_iff.mp h
  simp only at h
  split at h
  case isFalse => cases h
  case isTrue hu =>
    have h := Option.some.inj h
    refine (wdecode A0 c0 l0 x n er w hr0 hc0 hr0.2.1 hu.1 hu.2 hN).mono ?_
    rintro e w' ⟨A, c, rfl, hH, h1, h2, hB⟩
    generalize dec l0.length x n er = q at h hH h1 ⊢
    obtain ⟨p, er'⟩ := q
    simp only [Pk.r, Prod.mk.injEq] at h
    obtain ⟨rfl, rfl, rfl, rfl, rfl, rfl, rfl⟩ := h
    exact ⟨_, rfl, Rs_of hH h1 h2, hB⟩

end Go.Proofs.Yticpcjjgdkbcjaa.G
end

section
-- Written by a program of this session (wip/tools/myprint.py), over the kit's print.
namespace Go.Proofs.Yticpcjjgdkbcjaa.G
open Go.RowKit Go.Proofs.YticpcjjgdkbcjaaW.PrintWords Go.Proofs.YticpcjjgdkbcjaaW.PrintLast Go.Proofs.YticpcjjgdkbcjaaW.PrintMore
attribute [local go_sem] max2_int min2_int max_two min_two max_three min_three max_four min_four   -- for this text's walks alone
set_option linter.unusedVariables false
set_option linter.unusedSimpArgs false

/-! ### rosetteref22_Same: function 13 -/
def rosetteref22_Same.f (a0_0 : Int) (a0_1 : Int) (a0_2 : Int) (a0_3 : Int) (a0_4 : Int) (l0_5 : List Int) (a1_0 : Int) (a1_1 : Int) (a1_2 : Int) (a1_3 : Int) (a1_4 : Int) (l1_5 : List Int) : Option (Bool) := if a0_0 = a1_0 then (if a0_1 = a1_1 then (if a0_2 = a1_2 then (if a0_3 = a1_3 then (if a0_4 = a1_4 then (some ((strOfNums l0_5).toList == (strOfNums l1_5).toList)) else (some false)) else (some false)) else (some false)) else (some false)) else (some false)
set_option maxHeartbeats 8000000 in
set_option maxRecDepth 100000 in
theorem rosetteref22_Same.calls (a0_0 : Int) (a0_1 : Int) (a0_2 : Int) (a0_3 : Int) (a0_4 : Int) (A0_5 : Option Addr) (c0_5 : Nat) (l0_5 : List Int) (a1_0 : Int) (a1_1 : Int) (a1_2 : Int) (a1_3 : Int) (a1_4 : Int) (A1_5 : Option Addr) (c1_5 : Nat) (l1_5 : List Int) (r : Bool) (w : World) (hr0_5 : Kd.C (Kd.int .u8) w A0_5 l0_5.length l0_5) (hc0_5 : l0_5.length ≤ c0_5) (hr1_5 : Kd.C (Kd.int .u8) w A1_5 l1_5.length l1_5) (hc1_5 : l1_5.length ≤ c1_5) (h : rosetteref22_Same.f a0_0 a0_1 a0_2 a0_3 a0_4 l0_5 a1_0 a1_1 a1_2 a1_3 a1_4 l1_5 = some r) :
    Calls Try.prog 13 #[.agg #[.int .i64 a0_0, .int .i64 a0_1, .int .i64 a0_2, .int .i64 a0_3, .int .u32 a0_4, .slice A0_5 l0_5.length c0_5], .agg #[.int .i64 a1_0, .int .i64 a1_1, .int .i64 a1_2, .int .i64 a1_3, .int .u32 a1_4, .slice A1_5 l1_5.length c1_5]] w fun e w' => e = .returned (.bool r) ∧ Below w.heap.size w w' := by
  have hu25 := Try.underlying25
  have HR0_5 := Aside0.mk hr0_5
  have HC0_5 := Aside0.mk hc0_5
  clear hr0_5 hc0_5
  have HR1_5 := Aside0.mk hr1_5
  have HC1_5 := Aside0.mk hc1_5
  clear hr1_5 hc1_5
  have HB := Aside0.mk (Below.refl w.heap.size w)
  have H : (if a0_0 = a1_0 then (if a0_1 = a1_1 then (if a0_2 = a1_2 then (if a0_3 = a1_3 then (if a0_4 = a1_4 then (some ((strOfNums l0_5).toList == (strOfNums l1_5).toList)) else (some false)) else (some false)) else (some false)) else (some false)) else (some false)) = some r := h
  clear h
  by_cases c3 : a0_0 = a1_0
  · rw [if_pos c3] at H
    have c3b0 : (a0_0 == a1_0) = true := beq_iff_eq.mpr c3
    have c3b1 : (a0_0 != a1_0) = false := bne_eq_false_iff_eq.mpr c3
    clear c3
    by_cases c4 : a0_1 = a1_1
    · rw [if_pos c4] at H
      have c4b0 : (a0_1 == a1_1) = true := beq_iff_eq.mpr c4
      have c4b1 : (a0_1 != a1_1) = false := bne_eq_false_iff_eq.mpr c4
      clear c4
      by_cases c5 : a0_2 = a1_2
      · rw [if_pos c5] at H
        have c5b0 : (a0_2 == a1_2) = true := beq_iff_eq.mpr c5
        have c5b1 : (a0_2 != a1_2) = false := bne_eq_false_iff_eq.mpr c5
        clear c5
        by_cases c6 : a0_3 = a1_3
        · rw [if_pos c6] at H
          have c6b0 : (a0_3 == a1_3) = true := beq_iff_eq.mpr c6
          have c6b1 : (a0_3 != a1_3) = false := bne_eq_false_iff_eq.mpr c6
          clear c6
          by_cases c7 : a0_4 = a1_4
          · rw [if_pos c7] at H
            have c7b0 : (a0_4 == a1_4) = true := beq_iff_eq.mpr c7
            have c7b1 : (a0_4 != a1_4) = false := bne_eq_false_iff_eq.mpr c7
            clear c7
            obtain rfl := Option.some.inj H
            go_enter Try.func13, Try.ntmps13
            go_wp2_with (first | ((with_reducible refine gate_dst (N := 2) rfl ?_); refine box_event ?hg (N := 2) ?hd (cs := #[.int .i64 a0_0, .int .i64 a0_1, .int .i64 a0_2, .int .i64 a0_3, .int .u32 a0_4, .slice A0_5 l0_5.length c0_5]) (t := 25) ?hr ?_; (case hd => rfl); (case hg => rfl); (case hr => first | (go_simp; done) | (go_simp; rfl)); intro gb159 hg w8 hbox hb; have n0_ := Aside0.mk (below_step (by repeat (first | (with_reducible first | exact HB.out | apply below_alloc | apply pw_below_drewN | apply below_drew1) | exact HB.out)) hb); have n1_ := Aside0.mk (hbox); have n2_ := Aside0.mk ((by rw [hg]; exact (below_size (by repeat (first | (with_reducible first | exact HB.out | apply below_alloc | apply pw_below_drewN | apply below_drew1) | exact HB.out))) : w.heap.size ≤ gb159)); have n3_ := Aside0.mk ((by rw [hg]; exact (below_size (by repeat (first | (with_reducible first | exact HB.out | apply below_alloc | apply pw_below_drewN | apply below_drew1) | exact HB.out))) : w.heap.size ≤ gb159)); clear HB; have HB := n0_; have BK159 := n1_; have GW159 := n2_; have GE159 := n3_; clear n0_ n1_ n2_ n3_; clear hb hbox hg) | ((with_reducible refine gate_dst (N := 3) rfl ?_); refine box_event ?hg (N := 3) ?hd (cs := #[.int .i64 a1_0, .int .i64 a1_1, .int .i64 a1_2, .int .i64 a1_3, .int .u32 a1_4, .slice A1_5 l1_5.length c1_5]) (t := 25) ?hr ?_; (case hd => rfl); (case hg => rfl); (case hr => first | (go_simp; done) | (go_simp; rfl)); intro gb160 hg w9 hbox hb; have n0_ := Aside0.mk (blk_below (g := gb159) (o := .cells #[.int .i64 a0_0, .int .i64 a0_1, .int .i64 a0_2, .int .i64 a0_3, .int .u32 a0_4, .slice A0_5 l0_5.length c0_5] 25 (0, 0)) (by (with_reducible repeat (first | refine blk_drewN ?_ _ | refine blk_drew ?_ | refine blk_alloc ?_ _)); exact BK159.out) hb); have n1_ := Aside0.mk (below_step (by repeat (first | (with_reducible first | exact HB.out | apply below_alloc | apply pw_below_drewN | apply below_drew1 | refine below_set ?_ GE159.out) | exact HB.out)) hb); have n2_ := Aside0.mk (hbox); have n3_ := Aside0.mk ((by rw [hg]; exact (below_size (by repeat (first | (with_reducible first | exact HB.out | apply below_alloc | apply pw_below_drewN | apply below_drew1 | refine below_set ?_ GE159.out) | exact HB.out))) : w.heap.size ≤ gb160)); have n4_ := Aside0.mk ((by rw [hg]; exact (below_size (by repeat (first | (with_reducible first | exact HB.out | apply below_alloc | apply pw_below_drewN | apply below_drew1 | refine below_set ?_ GE159.out) | exact HB.out))) : w.heap.size ≤ gb160)); have n5_ := Aside0.mk ((by rw [hg]; exact Nat.ne_of_lt (blk_lt (g := gb159) (o := .cells #[.int .i64 a0_0, .int .i64 a0_1, .int .i64 a0_2, .int .i64 a0_3, .int .u32 a0_4, .slice A0_5 l0_5.length c0_5] 25 (0, 0)) (by (with_reducible repeat (first | refine blk_drewN ?_ _ | refine blk_drew ?_ | refine blk_alloc ?_ _)); exact BK159.out)) : gb159 ≠ gb160)); have n6_ := Aside0.mk ((by rw [hg]; exact Nat.ne_of_gt (blk_lt (g := gb159) (o := .cells #[.int .i64 a0_0, .int .i64 a0_1, .int .i64 a0_2, .int .i64 a0_3, .int .u32 a0_4, .slice A0_5 l0_5.length c0_5] 25 (0, 0)) (by (with_reducible repeat (first | refine blk_drewN ?_ _ | refine blk_drew ?_ | refine blk_alloc ?_ _)); exact BK159.out)) : gb160 ≠ gb159)); clear BK159; clear HB; have BK159 := n0_; have HB := n1_; have BK160 := n2_; have GW160 := n3_; have GE160 := n4_; have NB159_160 := n5_; have NB160_159 := n6_; clear n0_ n1_ n2_ n3_ n4_ n5_ n6_; clear hb hbox hg; have hnb10 := NB159_160.out; have hnc10 := NB160_159.out; have hcz11_0 : w9.cell? ⟨gb159, 0, none⟩ = some (.int .i64 a0_0) := (blk_cell BK159.out 0).trans rfl; have hcz11_1 : w9.cell? ⟨gb159, 1, none⟩ = some (.int .i64 a0_1) := (blk_cell BK159.out 1).trans rfl; have hcz11_2 : w9.cell? ⟨gb159, 2, none⟩ = some (.int .i64 a0_2) := (blk_cell BK159.out 2).trans rfl; have hcz11_3 : w9.cell? ⟨gb159, 3, none⟩ = some (.int .i64 a0_3) := (blk_cell BK159.out 3).trans rfl; have hcz11_4 : w9.cell? ⟨gb159, 4, none⟩ = some (.int .u32 a0_4) := (blk_cell BK159.out 4).trans rfl; have hcz11_5 : w9.cell? ⟨gb159, 5, none⟩ = some (.slice A0_5 l0_5.length c0_5) := (blk_cell BK159.out 5).trans rfl; have hfz11_0 := blk_frozen BK159.out 0; have hfz11_1 := blk_frozen BK159.out 1; have hfz11_2 := blk_frozen BK159.out 2; have hfz11_3 := blk_frozen BK159.out 3; have hfz11_4 := blk_frozen BK159.out 4; have hfz11_5 := blk_frozen BK159.out 5; have hcz12_0 : w9.cell? ⟨gb160, 0, none⟩ = some (.int .i64 a1_0) := (blk_cell BK160.out 0).trans rfl; have hcz12_1 : w9.cell? ⟨gb160, 1, none⟩ = some (.int .i64 a1_1) := (blk_cell BK160.out 1).trans rfl; have hcz12_2 : w9.cell? ⟨gb160, 2, none⟩ = some (.int .i64 a1_2) := (blk_cell BK160.out 2).trans rfl; have hcz12_3 : w9.cell? ⟨gb160, 3, none⟩ = some (.int .i64 a1_3) := (blk_cell BK160.out 3).trans rfl; have hcz12_4 : w9.cell? ⟨gb160, 4, none⟩ = some (.int .u32 a1_4) := (blk_cell BK160.out 4).trans rfl; have hcz12_5 : w9.cell? ⟨gb160, 5, none⟩ = some (.slice A1_5 l1_5.length c1_5) := (blk_cell BK160.out 5).trans rfl; have hfz12_0 := blk_frozen BK160.out 0; have hfz12_1 := blk_frozen BK160.out 1; have hfz12_2 := blk_frozen BK160.out 2; have hfz12_3 := blk_frozen BK160.out 3; have hfz12_4 := blk_frozen BK160.out 4; have hfz12_5 := blk_frozen BK160.out 5; have hcv13 := Kd.C_string (P := Try.prog) (A := A0_5) (c := c0_5) Try.underlying23 Try.underlying5 Try.underlying9 (Kd.C_below HR0_5.out HB.out); have hcv14 := Kd.C_string (P := Try.prog) (A := A1_5) (c := c1_5) Try.underlying23 Try.underlying5 Try.underlying9 (Kd.C_below HR1_5.out HB.out)))
            go_ret
            exact ⟨by first | rfl | (simp [errW_none, errW_some] <;> rfl) | (simp [*, errW_none, errW_some] <;> rfl), by repeat (first | (with_reducible first | exact HB.out | apply below_alloc | apply pw_below_drewN | apply below_drew1 | refine below_set ?_ GE159.out | refine below_set ?_ GE160.out) | exact HB.out)⟩
          · rw [if_neg c7] at H
            have c7b0 : (a0_4 == a1_4) = false := beq_eq_false_iff_ne.mpr c7
            have c7b1 : (a0_4 != a1_4) = true := bne_iff_ne.mpr c7
            obtain rfl := Option.some.inj H
            go_enter Try.func13, Try.ntmps13
            go_wp2_with (first | ((with_reducible refine gate_dst (N := 2) rfl ?_); refine box_event ?hg (N := 2) ?hd (cs := #[.int .i64 a0_0, .int .i64 a0_1, .int .i64 a0_2, .int .i64 a0_3, .int .u32 a0_4, .slice A0_5 l0_5.length c0_5]) (t := 25) ?hr ?_; (case hd => rfl); (case hg => rfl); (case hr => first | (go_simp; done) | (go_simp; rfl)); intro gb159 hg w15 hbox hb; have n0_ := Aside0.mk (below_step (by repeat (first | (with_reducible first | exact HB.out | apply below_alloc | apply pw_below_drewN | apply below_drew1) | exact HB.out)) hb); have n1_ := Aside0.mk (hbox); have n2_ := Aside0.mk ((by rw [hg]; exact (below_size (by repeat (first | (with_reducible first | exact HB.out | apply below_alloc | apply pw_below_drewN | apply below_drew1) | exact HB.out))) : w.heap.size ≤ gb159)); have n3_ := Aside0.mk ((by rw [hg]; exact (below_size (by repeat (first | (with_reducible first | exact HB.out | apply below_alloc | apply pw_below_drewN | apply below_drew1) | exact HB.out))) : w.heap.size ≤ gb159)); clear HB; have HB := n0_; have BK159 := n1_; have GW159 := n2_; have GE159 := n3_; clear n0_ n1_ n2_ n3_; clear hb hbox hg) | ((with_reducible refine gate_dst (N := 3) rfl ?_); refine box_event ?hg (N := 3) ?hd (cs := #[.int .i64 a1_0, .int .i64 a1_1, .int .i64 a1_2, .int .i64 a1_3, .int .u32 a1_4, .slice A1_5 l1_5.length c1_5]) (t := 25) ?hr ?_; (case hd => rfl); (case hg => rfl); (case hr => first | (go_simp; done) | (go_simp; rfl)); intro gb160 hg w16 hbox hb; have n0_ := Aside0.mk (blk_below (g := gb159) (o := .cells #[.int .i64 a0_0, .int .i64 a0_1, .int .i64 a0_2, .int .i64 a0_3, .int .u32 a0_4, .slice A0_5 l0_5.length c0_5] 25 (0, 0)) (by (with_reducible repeat (first | refine blk_drewN ?_ _ | refine blk_drew ?_ | refine blk_alloc ?_ _)); exact BK159.out) hb); have n1_ := Aside0.mk (below_step (by repeat (first | (with_reducible first | exact HB.out | apply below_alloc | apply pw_below_drewN | apply below_drew1 | refine below_set ?_ GE159.out) | exact HB.out)) hb); have n2_ := Aside0.mk (hbox); have n3_ := Aside0.mk ((by rw [hg]; exact (below_size (by repeat (first | (with_reducible first | exact HB.out | apply below_alloc | apply pw_below_drewN | apply below_drew1 | refine below_set ?_ GE159.out) | exact HB.out))) : w.heap.size ≤ gb160)); have n4_ := Aside0.mk ((by rw [hg]; exact (below_size (by repeat (first | (with_reducible first | exact HB.out | apply below_alloc | apply pw_below_drewN | apply below_drew1 | refine below_set ?_ GE159.out) | exact HB.out))) : w.heap.size ≤ gb160)); have n5_ := Aside0.mk ((by rw [hg]; exact Nat.ne_of_lt (blk_lt (g := gb159) (o := .cells #[.int .i64 a0_0, .int .i64 a0_1, .int .i64 a0_2, .int .i64 a0_3, .int .u32 a0_4, .slice A0_5 l0_5.length c0_5] 25 (0, 0)) (by (with_reducible repeat (first | refine blk_drewN ?_ _ | refine blk_drew ?_ | refine blk_alloc ?_ _)); exact BK159.out)) : gb159 ≠ gb160)); have n6_ := Aside0.mk ((by rw [hg]; exact Nat.ne_of_gt (blk_lt (g := gb159) (o := .cells #[.int .i64 a0_0, .int .i64 a0_1, .int .i64 a0_2, .int .i64 a0_3, .int .u32 a0_4, .slice A0_5 l0_5.length c0_5] 25 (0, 0)) (by (with_reducible repeat (first | refine blk_drewN ?_ _ | refine blk_drew ?_ | refine blk_alloc ?_ _)); exact BK159.out)) : gb160 ≠ gb159)); clear BK159; clear HB; have BK159 := n0_; have HB := n1_; have BK160 := n2_; have GW160 := n3_; have GE160 := n4_; have NB159_160 := n5_; have NB160_159 := n6_; clear n0_ n1_ n2_ n3_ n4_ n5_ n6_; clear hb hbox hg; have hnb17 := NB159_160.out; have hnc17 := NB160_159.out; have hcz18_0 : w16.cell? ⟨gb159, 0, none⟩ = some (.int .i64 a0_0) := (blk_cell BK159.out 0).trans rfl; have hcz18_1 : w16.cell? ⟨gb159, 1, none⟩ = some (.int .i64 a0_1) := (blk_cell BK159.out 1).trans rfl; have hcz18_2 : w16.cell? ⟨gb159, 2, none⟩ = some (.int .i64 a0_2) := (blk_cell BK159.out 2).trans rfl; have hcz18_3 : w16.cell? ⟨gb159, 3, none⟩ = some (.int .i64 a0_3) := (blk_cell BK159.out 3).trans rfl; have hcz18_4 : w16.cell? ⟨gb159, 4, none⟩ = some (.int .u32 a0_4) := (blk_cell BK159.out 4).trans rfl; have hcz18_5 : w16.cell? ⟨gb159, 5, none⟩ = some (.slice A0_5 l0_5.length c0_5) := (blk_cell BK159.out 5).trans rfl; have hfz18_0 := blk_frozen BK159.out 0; have hfz18_1 := blk_frozen BK159.out 1; have hfz18_2 := blk_frozen BK159.out 2; have hfz18_3 := blk_frozen BK159.out 3; have hfz18_4 := blk_frozen BK159.out 4; have hfz18_5 := blk_frozen BK159.out 5; have hcz19_0 : w16.cell? ⟨gb160, 0, none⟩ = some (.int .i64 a1_0) := (blk_cell BK160.out 0).trans rfl; have hcz19_1 : w16.cell? ⟨gb160, 1, none⟩ = some (.int .i64 a1_1) := (blk_cell BK160.out 1).trans rfl; have hcz19_2 : w16.cell? ⟨gb160, 2, none⟩ = some (.int .i64 a1_2) := (blk_cell BK160.out 2).trans rfl; have hcz19_3 : w16.cell? ⟨gb160, 3, none⟩ = some (.int .i64 a1_3) := (blk_cell BK160.out 3).trans rfl; have hcz19_4 : w16.cell? ⟨gb160, 4, none⟩ = some (.int .u32 a1_4) := (blk_cell BK160.out 4).trans rfl; have hcz19_5 : w16.cell? ⟨gb160, 5, none⟩ = some (.slice A1_5 l1_5.length c1_5) := (blk_cell BK160.out 5).trans rfl; have hfz19_0 := blk_frozen BK160.out 0; have hfz19_1 := blk_frozen BK160.out 1; have hfz19_2 := blk_frozen BK160.out 2; have hfz19_3 := blk_frozen BK160.out 3; have hfz19_4 := blk_frozen BK160.out 4; have hfz19_5 := blk_frozen BK160.out 5))
            go_ret
            exact ⟨by first | rfl | (simp [errW_none, errW_some] <;> rfl) | (simp [*, errW_none, errW_some] <;> rfl), by repeat (first | (with_reducible first | exact HB.out | apply below_alloc | apply pw_below_drewN | apply below_drew1 | refine below_set ?_ GE159.out | refine below_set ?_ GE160.out) | exact HB.out)⟩
        · rw [if_neg c6] at H
          have c6b0 : (a0_3 == a1_3) = false := beq_eq_false_iff_ne.mpr c6
          have c6b1 : (a0_3 != a1_3) = true := bne_iff_ne.mpr c6
          obtain rfl := Option.some.inj H
          go_enter Try.func13, Try.ntmps13
          go_wp2_with (first | ((with_reducible refine gate_dst (N := 2) rfl ?_); refine box_event ?hg (N := 2) ?hd (cs := #[.int .i64 a0_0, .int .i64 a0_1, .int .i64 a0_2, .int .i64 a0_3, .int .u32 a0_4, .slice A0_5 l0_5.length c0_5]) (t := 25) ?hr ?_; (case hd => rfl); (case hg => rfl); (case hr => first | (go_simp; done) | (go_simp; rfl)); intro gb159 hg w20 hbox hb; have n0_ := Aside0.mk (below_step (by repeat (first | (with_reducible first | exact HB.out | apply below_alloc | apply pw_below_drewN | apply below_drew1) | exact HB.out)) hb); have n1_ := Aside0.mk (hbox); have n2_ := Aside0.mk ((by rw [hg]; exact (below_size (by repeat (first | (with_reducible first | exact HB.out | apply below_alloc | apply pw_below_drewN | apply below_drew1) | exact HB.out))) : w.heap.size ≤ gb159)); have n3_ := Aside0.mk ((by rw [hg]; exact (below_size (by repeat (first | (with_reducible first | exact HB.out | apply below_alloc | apply pw_below_drewN | apply below_drew1) | exact HB.out))) : w.heap.size ≤ gb159)); clear HB; have HB := n0_; have BK159 := n1_; have GW159 := n2_; have GE159 := n3_; clear n0_ n1_ n2_ n3_; clear hb hbox hg) | ((with_reducible refine gate_dst (N := 3) rfl ?_); refine box_event ?hg (N := 3) ?hd (cs := #[.int .i64 a1_0, .int .i64 a1_1, .int .i64 a1_2, .int .i64 a1_3, .int .u32 a1_4, .slice A1_5 l1_5.length c1_5]) (t := 25) ?hr ?_; (case hd => rfl); (case hg => rfl); (case hr => first | (go_simp; done) | (go_simp; rfl)); intro gb160 hg w21 hbox hb; have n0_ := Aside0.mk (blk_below (g := gb159) (o := .cells #[.int .i64 a0_0, .int .i64 a0_1, .int .i64 a0_2, .int .i64 a0_3, .int .u32 a0_4, .slice A0_5 l0_5.length c0_5] 25 (0, 0)) (by (with_reducible repeat (first | refine blk_drewN ?_ _ | refine blk_drew ?_ | refine blk_alloc ?_ _)); exact BK159.out) hb); have n1_ := Aside0.mk (below_step (by repeat (first | (with_reducible first | exact HB.out | apply below_alloc | apply pw_below_drewN | apply below_drew1 | refine below_set ?_ GE159.out) | exact HB.out)) hb); have n2_ := Aside0.mk (hbox); have n3_ := Aside0.mk ((by rw [hg]; exact (below_size (by repeat (first | (with_reducible first | exact HB.out | apply below_alloc | apply pw_below_drewN | apply below_drew1 | refine below_set ?_ GE159.out) | exact HB.out))) : w.heap.size ≤ gb160)); have n4_ := Aside0.mk ((by rw [hg]; exact (below_size (by repeat (first | (with_reducible first | exact HB.out | apply below_alloc | apply pw_below_drewN | apply below_drew1 | refine below_set ?_ GE159.out) | exact HB.out))) : w.heap.size ≤ gb160)); have n5_ := Aside0.mk ((by rw [hg]; exact Nat.ne_of_lt (blk_lt (g := gb159) (o := .cells #[.int .i64 a0_0, .int .i64 a0_1, .int .i64 a0_2, .int .i64 a0_3, .int .u32 a0_4, .slice A0_5 l0_5.length c0_5] 25 (0, 0)) (by (with_reducible repeat (first | refine blk_drewN ?_ _ | refine blk_drew ?_ | refine blk_alloc ?_ _)); exact BK159.out)) : gb159 ≠ gb160)); have n6_ := Aside0.mk ((by rw [hg]; exact Nat.ne_of_gt (blk_lt (g := gb159) (o := .cells #[.int .i64 a0_0, .int .i64 a0_1, .int .i64 a0_2, .int .i64 a0_3, .int .u32 a0_4, .slice A0_5 l0_5.length c0_5] 25 (0, 0)) (by (with_reducible repeat (first | refine blk_drewN ?_ _ | refine blk_drew ?_ | refine blk_alloc ?_ _)); exact BK159.out)) : gb160 ≠ gb159)); clear BK159; clear HB; have BK159 := n0_; have HB := n1_; have BK160 := n2_; have GW160 := n3_; have GE160 := n4_; have NB159_160 := n5_; have NB160_159 := n6_; clear n0_ n1_ n2_ n3_ n4_ n5_ n6_; clear hb hbox hg; have hnb22 := NB159_160.out; have hnc22 := NB160_159.out; have hcz23_0 : w21.cell? ⟨gb159, 0, none⟩ = some (.int .i64 a0_0) := (blk_cell BK159.out 0).trans rfl; have hcz23_1 : w21.cell? ⟨gb159, 1, none⟩ = some (.int .i64 a0_1) := (blk_cell BK159.out 1).trans rfl; have hcz23_2 : w21.cell? ⟨gb159, 2, none⟩ = some (.int .i64 a0_2) := (blk_cell BK159.out 2).trans rfl; have hcz23_3 : w21.cell? ⟨gb159, 3, none⟩ = some (.int .i64 a0_3) := (blk_cell BK159.out 3).trans rfl; have hcz23_4 : w21.cell? ⟨gb159, 4, none⟩ = some (.int .u32 a0_4) := (blk_cell BK159.out 4).trans rfl; have hcz23_5 : w21.cell? ⟨gb159, 5, none⟩ = some (.slice A0_5 l0_5.length c0_5) := (blk_cell BK159.out 5).trans rfl; have hfz23_0 := blk_frozen BK159.out 0; have hfz23_1 := blk_frozen BK159.out 1; have hfz23_2 := blk_frozen BK159.out 2; have hfz23_3 := blk_frozen BK159.out 3; have hfz23_4 := blk_frozen BK159.out 4; have hfz23_5 := blk_frozen BK159.out 5; have hcz24_0 : w21.cell? ⟨gb160, 0, none⟩ = some (.int .i64 a1_0) := (blk_cell BK160.out 0).trans rfl; have hcz24_1 : w21.cell? ⟨gb160, 1, none⟩ = some (.int .i64 a1_1) := (blk_cell BK160.out 1).trans rfl; have hcz24_2 : w21.cell? ⟨gb160, 2, none⟩ = some (.int .i64 a1_2) := (blk_cell BK160.out 2).trans rfl; have hcz24_3 : w21.cell? ⟨gb160, 3, none⟩ = some (.int .i64 a1_3) := (blk_cell BK160.out 3).trans rfl; have hcz24_4 : w21.cell? ⟨gb160, 4, none⟩ = some (.int .u32 a1_4) := (blk_cell BK160.out 4).trans rfl; have hcz24_5 : w21.cell? ⟨gb160, 5, none⟩ = some (.slice A1_5 l1_5.length c1_5) := (blk_cell BK160.out 5).trans rfl; have hfz24_0 := blk_frozen BK160.out 0; have hfz24_1 := blk_frozen BK160.out 1; have hfz24_2 := blk_frozen BK160.out 2; have hfz24_3 := blk_frozen BK160.out 3; have hfz24_4 := blk_frozen BK160.out 4; have hfz24_5 := blk_frozen BK160.out 5))
          go_ret
          exact ⟨by first | rfl | (simp [errW_none, errW_some] <;> rfl) | (simp [*, errW_none, errW_some] <;> rfl), by repeat (first | (with_reducible first | exact HB.out | apply below_alloc | apply pw_below_drewN | apply below_drew1 | refine below_set ?_ GE159.out | refine below_set ?_ GE160.out) | exact HB.out)⟩
      · rw [if_neg c5] at H
        have c5b0 : (a0_2 == a1_2) = false := beq_eq_false_iff_ne.mpr c5
        have c5b1 : (a0_2 != a1_2) = true := bne_iff_ne.mpr c5
        obtain rfl := Option.some.inj H
        go_enter Try.func13, Try.ntmps13
        go_wp2_with (first | ((with_reducible refine gate_dst (N := 2) rfl ?_); refine box_event ?hg (N := 2) ?hd (cs := #[.int .i64 a0_0, .int .i64 a0_1, .int .i64 a0_2, .int .i64 a0_3, .int .u32 a0_4, .slice A0_5 l0_5.length c0_5]) (t := 25) ?hr ?_; (case hd => rfl); (case hg => rfl); (case hr => first | (go_simp; done) | (go_simp; rfl)); intro gb159 hg w25 hbox hb; have n0_ := Aside0.mk (below_step (by repeat (first | (with_reducible first | exact HB.out | apply below_alloc | apply pw_below_drewN | apply below_drew1) | exact HB.out)) hb); have n1_ := Aside0.mk (hbox); have n2_ := Aside0.mk ((by rw [hg]; exact (below_size (by repeat (first | (with_reducible first | exact HB.out | apply below_alloc | apply pw_below_drewN | apply below_drew1) | exact HB.out))) : w.heap.size ≤ gb159)); have n3_ := Aside0.mk ((by rw [hg]; exact (below_size (by repeat (first | (with_reducible first | exact HB.out | apply below_alloc | apply pw_below_drewN | apply below_drew1) | exact HB.out))) : w.heap.size ≤ gb159)); clear HB; have HB := n0_; have BK159 := n1_; have GW159 := n2_; have GE159 := n3_; clear n0_ n1_ n2_ n3_; clear hb hbox hg) | ((with_reducible refine gate_dst (N := 3) rfl ?_); refine box_event ?hg (N := 3) ?hd (cs := #[.int .i64 a1_0, .int .i64 a1_1, .int .i64 a1_2, .int .i64 a1_3, .int .u32 a1_4, .slice A1_5 l1_5.length c1_5]) (t := 25) ?hr ?_; (case hd => rfl); (case hg => rfl); (case hr => first | (go_simp; done) | (go_simp; rfl)); intro gb160 hg w26 hbox hb; have n0_ := Aside0.mk (blk_below (g := gb159) (o := .cells #[.int .i64 a0_0, .int .i64 a0_1, .int .i64 a0_2, .int .i64 a0_3, .int .u32 a0_4, .slice A0_5 l0_5.length c0_5] 25 (0, 0)) (by (with_reducible repeat (first | refine blk_drewN ?_ _ | refine blk_drew ?_ | refine blk_alloc ?_ _)); exact BK159.out) hb); have n1_ := Aside0.mk (below_step (by repeat (first | (with_reducible first | exact HB.out | apply below_alloc | apply pw_below_drewN | apply below_drew1 | refine below_set ?_ GE159.out) | exact HB.out)) hb); have n2_ := Aside0.mk (hbox); have n3_ := Aside0.mk ((by rw [hg]; exact (below_size (by repeat (first | (with_reducible first | exact HB.out | apply below_alloc | apply pw_below_drewN | apply below_drew1 | refine below_set ?_ GE159.out) | exact HB.out))) : w.heap.size ≤ gb160)); have n4_ := Aside0.mk ((by rw [hg]; exact (below_size (by repeat (first | (with_reducible first | exact HB.out | apply below_alloc | apply pw_below_drewN | apply below_drew1 | refine below_set ?_ GE159.out) | exact HB.out))) : w.heap.size ≤ gb160)); have n5_ := Aside0.mk ((by rw [hg]; exact Nat.ne_of_lt (blk_lt (g := gb159) (o := .cells #[.int .i64 a0_0, .int .i64 a0_1, .int .i64 a0_2, .int .i64 a0_3, .int .u32 a0_4, .slice A0_5 l0_5.length c0_5] 25 (0, 0)) (by (with_reducible repeat (first | refine blk_drewN ?_ _ | refine blk_drew ?_ | refine blk_alloc ?_ _)); exact BK159.out)) : gb159 ≠ gb160)); have n6_ := Aside0.mk ((by rw [hg]; exact Nat.ne_of_gt (blk_lt (g := gb159) (o := .cells #[.int .i64 a0_0, .int .i64 a0_1, .int .i64 a0_2, .int .i64 a0_3, .int .u32 a0_4, .slice A0_5 l0_5.length c0_5] 25 (0, 0)) (by (with_reducible repeat (first | refine blk_drewN ?_ _ | refine blk_drew ?_ | refine blk_alloc ?_ _)); exact BK159.out)) : gb160 ≠ gb159)); clear BK159; clear HB; have BK159 := n0_; have HB := n1_; have BK160 := n2_; have GW160 := n3_; have GE160 := n4_; have NB159_160 := n5_; have NB160_159 := n6_; clear n0_ n1_ n2_ n3_ n4_ n5_ n6_; clear hb hbox hg; have hnb27 := NB159_160.out; have hnc27 := NB160_159.out; have hcz28_0 : w26.cell? ⟨gb159, 0, none⟩ = some (.int .i64 a0_0) := (blk_cell BK159.out 0).trans rfl; have hcz28_1 : w26.cell? ⟨gb159, 1, none⟩ = some (.int .i64 a0_1) := (blk_cell BK159.out 1).trans rfl; have hcz28_2 : w26.cell? ⟨gb159, 2, none⟩ = some (.int .i64 a0_2) := (blk_cell BK159.out 2).trans rfl; have hcz28_3 : w26.cell? ⟨gb159, 3, none⟩ = some (.int .i64 a0_3) := (blk_cell BK159.out 3).trans rfl; have hcz28_4 : w26.cell? ⟨gb159, 4, none⟩ = some (.int .u32 a0_4) := (blk_cell BK159.out 4).trans rfl; have hcz28_5 : w26.cell? ⟨gb159, 5, none⟩ = some (.slice A0_5 l0_5.length c0_5) := (blk_cell BK159.out 5).trans rfl; have hfz28_0 := blk_frozen BK159.out 0; have hfz28_1 := blk_frozen BK159.out 1; have hfz28_2 := blk_frozen BK159.out 2; have hfz28_3 := blk_frozen BK159.out 3; have hfz28_4 := blk_frozen BK159.out 4; have hfz28_5 := blk_frozen BK159.out 5; have hcz29_0 : w26.cell? ⟨gb160, 0, none⟩ = some (.int .i64 a1_0) := (blk_cell BK160.out 0).trans rfl; have hcz29_1 : w26.cell? ⟨gb160, 1, none⟩ = some (.int .i64 a1_1) := (blk_cell BK160.out 1).trans rfl; have hcz29_2 : w26.cell? ⟨gb160, 2, none⟩ = some (.int .i64 a1_2) := (blk_cell BK160.out 2).trans rfl; have hcz29_3 : w26.cell? ⟨gb160, 3, none⟩ = some (.int .i64 a1_3) := (blk_cell BK160.out 3).trans rfl; have hcz29_4 : w26.cell? ⟨gb160, 4, none⟩ = some (.int .u32 a1_4) := (blk_cell BK160.out 4).trans rfl; have hcz29_5 : w26.cell? ⟨gb160, 5, none⟩ = some (.slice A1_5 l1_5.length c1_5) := (blk_cell BK160.out 5).trans rfl; have hfz29_0 := blk_frozen BK160.out 0; have hfz29_1 := blk_frozen BK160.out 1; have hfz29_2 := blk_frozen BK160.out 2; have hfz29_3 := blk_frozen BK160.out 3; have hfz29_4 := blk_frozen BK160.out 4; have hfz29_5 := blk_frozen BK160.out 5))
        go_ret
        exact ⟨by first | rfl | (simp [errW_none, errW_some] <;> rfl) | (simp [*, errW_none, errW_some] <;> rfl), by repeat (first | (with_reducible first | exact HB.out | apply below_alloc | apply pw_below_drewN | apply below_drew1 | refine below_set ?_ GE159.out | refine below_set ?_ GE160.out) | exact HB.out)⟩
    · rw [if_neg c4] at H
      have c4b0 : (a0_1 == a1_1) = false := beq_eq_false_iff_ne.mpr c4
      have c4b1 : (a0_1 != a1_1) = true := bne_iff_ne.mpr c4
      obtain rfl := Option.some.inj H
      go_enter Try.func13, Try.ntmps13
      go_wp2_with (first | ((with_reducible refine gate_dst (N := 2) rfl ?_); refine box_event ?hg (N := 2) ?hd (cs := #[.int .i64 a0_0, .int .i64 a0_1, .int .i64 a0_2, .int .i64 a0_3, .int .u32 a0_4, .slice A0_5 l0_5.length c0_5]) (t := 25) ?hr ?_; (case hd => rfl); (case hg => rfl); (case hr => first | (go_simp; done) | (go_simp; rfl)); intro gb159 hg w30 hbox hb; have n0_ := Aside0.mk (below_step (by repeat (first | (with_reducible first | exact HB.out | apply below_alloc | apply pw_below_drewN | apply below_drew1) | exact HB.out)) hb); have n1_ := Aside0.mk (hbox); have n2_ := Aside0.mk ((by rw [hg]; exact (below_size (by repeat (first | (with_reducible first | exact HB.out | apply below_alloc | apply pw_below_drewN | apply below_drew1) | exact HB.out))) : w.heap.size ≤ gb159)); have n3_ := Aside0.mk ((by rw [hg]; exact (below_size (by repeat (first | (with_reducible first | exact HB.out | apply below_alloc | apply pw_below_drewN | apply below_drew1) | exact HB.out))) : w.heap.size ≤ gb159)); clear HB; have HB := n0_; have BK159 := n1_; have GW159 := n2_; have GE159 := n3_; clear n0_ n1_ n2_ n3_; clear hb hbox hg) | ((with_reducible refine gate_dst (N := 3) rfl ?_); refine box_event ?hg (N := 3) ?hd (cs := #[.int .i64 a1_0, .int .i64 a1_1, .int .i64 a1_2, .int .i64 a1_3, .int .u32 a1_4, .slice A1_5 l1_5.length c1_5]) (t := 25) ?hr ?_; (case hd => rfl); (case hg => rfl); (case hr => first | (go_simp; done) | (go_simp; rfl)); intro gb160 hg w31 hbox hb; have n0_ := Aside0.mk (blk_below (g := gb159) (o := .cells #[.int .i64 a0_0, .int .i64 a0_1, .int .i64 a0_2, .int .i64 a0_3, .int .u32 a0_4, .slice A0_5 l0_5.length c0_5] 25 (0, 0)) (by (with_reducible repeat (first | refine blk_drewN ?_ _ | refine blk_drew ?_ | refine blk_alloc ?_ _)); exact BK159.out) hb); have n1_ := Aside0.mk (below_step (by repeat (first | (with_reducible first | exact HB.out | apply below_alloc | apply pw_below_drewN | apply below_drew1 | refine below_set ?_ GE159.out) | exact HB.out)) hb); have n2_ := Aside0.mk (hbox); have n3_ := Aside0.mk ((by rw [hg]; exact (below_size (by repeat (first | (with_reducible first | exact HB.out | apply below_alloc | apply pw_below_drewN | apply below_drew1 | refine below_set ?_ GE159.out) | exact HB.out))) : w.heap.size ≤ gb160)); have n4_ := Aside0.mk ((by rw [hg]; exact (below_size (by repeat (first | (with_reducible first | exact HB.out | apply below_alloc | apply pw_below_drewN | apply below_drew1 | refine below_set ?_ GE159.out) | exact HB.out))) : w.heap.size ≤ gb160)); have n5_ := Aside0.mk ((by rw [hg]; exact Nat.ne_of_lt (blk_lt (g := gb159) (o := .cells #[.int .i64 a0_0, .int .i64 a0_1, .int .i64 a0_2, .int .i64 a0_3, .int .u32 a0_4, .slice A0_5 l0_5.length c0_5] 25 (0, 0)) (by (with_reducible repeat (first | refine blk_drewN ?_ _ | refine blk_drew ?_ | refine blk_alloc ?_ _)); exact BK159.out)) : gb159 ≠ gb160)); have n6_ := Aside0.mk ((by rw [hg]; exact Nat.ne_of_gt (blk_lt (g := gb159) (o := .cells #[.int .i64 a0_0, .int .i64 a0_1, .int .i64 a0_2, .int .i64 a0_3, .int .u32 a0_4, .slice A0_5 l0_5.length c0_5] 25 (0, 0)) (by (with_reducible repeat (first | refine blk_drewN ?_ _ | refine blk_drew ?_ | refine blk_alloc ?_ _)); exact BK159.out)) : gb160 ≠ gb159)); clear BK159; clear HB; have BK159 := n0_; have HB := n1_; have BK160 := n2_; have GW160 := n3_; have GE160 := n4_; have NB159_160 := n5_; have NB160_159 := n6_; clear n0_ n1_ n2_ n3_ n4_ n5_ n6_; clear hb hbox hg; have hnb32 := NB159_160.out; have hnc32 := NB160_159.out; have hcz33_0 : w31.cell? ⟨gb159, 0, none⟩ = some (.int .i64 a0_0) := (blk_cell BK159.out 0).trans rfl; have hcz33_1 : w31.cell? ⟨gb159, 1, none⟩ = some (.int .i64 a0_1) := (blk_cell BK159.out 1).trans rfl; have hcz33_2 : w31.cell? ⟨gb159, 2, none⟩ = some (.int .i64 a0_2) := (blk_cell BK159.out 2).trans rfl; have hcz33_3 : w31.cell? ⟨gb159, 3, none⟩ = some (.int .i64 a0_3) := (blk_cell BK159.out 3).trans rfl; have hcz33_4 : w31.cell? ⟨gb159, 4, none⟩ = some (.int .u32 a0_4) := (blk_cell BK159.out 4).trans rfl; have hcz33_5 : w31.cell? ⟨gb159, 5, none⟩ = some (.slice A0_5 l0_5.length c0_5) := (blk_cell BK159.out 5).trans rfl; have hfz33_0 := blk_frozen BK159.out 0; have hfz33_1 := blk_frozen BK159.out 1; have hfz33_2 := blk_frozen BK159.out 2; have hfz33_3 := blk_frozen BK159.out 3; have hfz33_4 := blk_frozen BK159.out 4; have hfz33_5 := blk_frozen BK159.out 5; have hcz34_0 : w31.cell? ⟨gb160, 0, none⟩ = some (.int .i64 a1_0) := (blk_cell BK160.out 0).trans rfl; have hcz34_1 : w31.cell? ⟨gb160, 1, none⟩ = some (.int .i64 a1_1) := (blk_cell BK160.out 1).trans rfl; have hcz34_2 : w31.cell? ⟨gb160, 2, none⟩ = some (.int .i64 a1_2) := (blk_cell BK160.out 2).trans rfl; have hcz34_3 : w31.cell? ⟨gb160, 3, none⟩ = some (.int .i64 a1_3) := (blk_cell BK160.out 3).trans rfl; have hcz34_4 : w31.cell? ⟨gb160, 4, none⟩ = some (.int .u32 a1_4) := (blk_cell BK160.out 4).trans rfl; have hcz34_5 : w31.cell? ⟨gb160, 5, none⟩ = some (.slice A1_5 l1_5.length c1_5) := (blk_cell BK160.out 5).trans rfl; have hfz34_0 := blk_frozen BK160.out 0; have hfz34_1 := blk_frozen BK160.out 1; have hfz34_2 := blk_frozen BK160.out 2; have hfz34_3 := blk_frozen BK160.out 3; have hfz34_4 := blk_frozen BK160.out 4; have hfz34_5 := blk_frozen BK160.out 5))
      go_ret
      exact ⟨by first | rfl | (simp [errW_none, errW_some] <;> rfl) | (simp [*, errW_none, errW_some] <;> rfl), by repeat (first | (with_reducible first | exact HB.out | apply below_alloc | apply pw_below_drewN | apply below_drew1 | refine below_set ?_ GE159.out | refine below_set ?_ GE160.out) | exact HB.out)⟩
  · rw [if_neg c3] at H
    have c3b0 : (a0_0 == a1_0) = false := beq_eq_false_iff_ne.mpr c3
    have c3b1 : (a0_0 != a1_0) = true := bne_iff_ne.mpr c3
    obtain rfl := Option.some.inj H
    go_enter Try.func13, Try.ntmps13
    go_wp2_with (first | ((with_reducible refine gate_dst (N := 2) rfl ?_); refine box_event ?hg (N := 2) ?hd (cs := #[.int .i64 a0_0, .int .i64 a0_1, .int .i64 a0_2, .int .i64 a0_3, .int .u32 a0_4, .slice A0_5 l0_5.length c0_5]) (t := 25) ?hr ?_; (case hd => rfl); (case hg => rfl); (case hr => first | (go_simp; done) | (go_simp; rfl)); intro gb159 hg w35 hbox hb; have n0_ := Aside0.mk (below_step (by repeat (first | (with_reducible first | exact HB.out | apply below_alloc | apply pw_below_drewN | apply below_drew1) | exact HB.out)) hb); have n1_ := Aside0.mk (hbox); have n2_ := Aside0.mk ((by rw [hg]; exact (below_size (by repeat (first | (with_reducible first | exact HB.out | apply below_alloc | apply pw_below_drewN | apply below_drew1) | exact HB.out))) : w.heap.size ≤ gb159)); have n3_ := Aside0.mk ((by rw [hg]; exact (below_size (by repeat (first | (with_reducible first | exact HB.out | apply below_alloc | apply pw_below_drewN | apply below_drew1) | exact HB.out))) : w.heap.size ≤ gb159)); clear HB; have HB := n0_; have BK159 := n1_; have GW159 := n2_; have GE159 := n3_; clear n0_ n1_ n2_ n3_; clear hb hbox hg) | ((with_reducible refine gate_dst (N := 3) rfl ?_); refine box_event ?hg (N := 3) ?hd (cs := #[.int .i64 a1_0, .int .i64 a1_1, .int .i64 a1_2, .int .i64 a1_3, .int .u32 a1_4, .slice A1_5 l1_5.length c1_5]) (t := 25) ?hr ?_; (case hd => rfl); (case hg => rfl); (case hr => first | (go_simp; done) | (go_simp; rfl)); intro gb160 hg w36 hbox hb; have n0_ := Aside0.mk (blk_below (g := gb159) (o := .cells #[.int .i64 a0_0, .int .i64 a0_1, .int .i64 a0_2, .int .i64 a0_3, .int .u32 a0_4, .slice A0_5 l0_5.length c0_5] 25 (0, 0)) (by (with_reducible repeat (first | refine blk_drewN ?_ _ | refine blk_drew ?_ | refine blk_alloc ?_ _)); exact BK159.out) hb); have n1_ := Aside0.mk (below_step (by repeat (first | (with_reducible first | exact HB.out | apply below_alloc | apply pw_below_drewN | apply below_drew1 | refine below_set ?_ GE159.out) | exact HB.out)) hb); have n2_ := Aside0.mk (hbox); have n3_ := Aside0.mk ((by rw [hg]; exact (below_size (by repeat (first | (with_reducible first | exact HB.out | apply below_alloc | apply pw_below_drewN | apply below_drew1 | refine below_set ?_ GE159.out) | exact HB.out))) : w.heap.size ≤ gb160)); have n4_ := Aside0.mk ((by rw [hg]; exact (below_size (by repeat (first | (with_reducible first | exact HB.out | apply below_alloc | apply pw_below_drewN | apply below_drew1 | refine below_set ?_ GE159.out) | exact HB.out))) : w.heap.size ≤ gb160)); have n5_ := Aside0.mk ((by rw [hg]; exact Nat.ne_of_lt (blk_lt (g := gb159) (o := .cells #[.int .i64 a0_0, .int .i64 a0_1, .int .i64 a0_2, .int .i64 a0_3, .int .u32 a0_4, .slice A0_5 l0_5.length c0_5] 25 (0, 0)) (by (with_reducible repeat (first | refine blk_drewN ?_ _ | refine blk_drew ?_ | refine blk_alloc ?_ _)); exact BK159.out)) : gb159 ≠ gb160)); have n6_ := Aside0.mk ((by rw [hg]; exact Nat.ne_of_gt (blk_lt (g := gb159) (o := .cells #[.int .i64 a0_0, .int .i64 a0_1, .int .i64 a0_2, .int .i64 a0_3, .int .u32 a0_4, .slice A0_5 l0_5.length c0_5] 25 (0, 0)) (by (with_reducible repeat (first | refine blk_drewN ?_ _ | refine blk_drew ?_ | refine blk_alloc ?_ _)); exact BK159.out)) : gb160 ≠ gb159)); clear BK159; clear HB; have BK159 := n0_; have HB := n1_; have BK160 := n2_; have GW160 := n3_; have GE160 := n4_; have NB159_160 := n5_; have NB160_159 := n6_; clear n0_ n1_ n2_ n3_ n4_ n5_ n6_; clear hb hbox hg; have hnb37 := NB159_160.out; have hnc37 := NB160_159.out; have hcz38_0 : w36.cell? ⟨gb159, 0, none⟩ = some (.int .i64 a0_0) := (blk_cell BK159.out 0).trans rfl; have hcz38_1 : w36.cell? ⟨gb159, 1, none⟩ = some (.int .i64 a0_1) := (blk_cell BK159.out 1).trans rfl; have hcz38_2 : w36.cell? ⟨gb159, 2, none⟩ = some (.int .i64 a0_2) := (blk_cell BK159.out 2).trans rfl; have hcz38_3 : w36.cell? ⟨gb159, 3, none⟩ = some (.int .i64 a0_3) := (blk_cell BK159.out 3).trans rfl; have hcz38_4 : w36.cell? ⟨gb159, 4, none⟩ = some (.int .u32 a0_4) := (blk_cell BK159.out 4).trans rfl; have hcz38_5 : w36.cell? ⟨gb159, 5, none⟩ = some (.slice A0_5 l0_5.length c0_5) := (blk_cell BK159.out 5).trans rfl; have hfz38_0 := blk_frozen BK159.out 0; have hfz38_1 := blk_frozen BK159.out 1; have hfz38_2 := blk_frozen BK159.out 2; have hfz38_3 := blk_frozen BK159.out 3; have hfz38_4 := blk_frozen BK159.out 4; have hfz38_5 := blk_frozen BK159.out 5; have hcz39_0 : w36.cell? ⟨gb160, 0, none⟩ = some (.int .i64 a1_0) := (blk_cell BK160.out 0).trans rfl; have hcz39_1 : w36.cell? ⟨gb160, 1, none⟩ = some (.int .i64 a1_1) := (blk_cell BK160.out 1).trans rfl; have hcz39_2 : w36.cell? ⟨gb160, 2, none⟩ = some (.int .i64 a1_2) := (blk_cell BK160.out 2).trans rfl; have hcz39_3 : w36.cell? ⟨gb160, 3, none⟩ = some (.int .i64 a1_3) := (blk_cell BK160.out 3).trans rfl; have hcz39_4 : w36.cell? ⟨gb160, 4, none⟩ = some (.int .u32 a1_4) := (blk_cell BK160.out 4).trans rfl; have hcz39_5 : w36.cell? ⟨gb160, 5, none⟩ = some (.slice A1_5 l1_5.length c1_5) := (blk_cell BK160.out 5).trans rfl; have hfz39_0 := blk_frozen BK160.out 0; have hfz39_1 := blk_frozen BK160.out 1; have hfz39_2 := blk_frozen BK160.out 2; have hfz39_3 := blk_frozen BK160.out 3; have hfz39_4 := blk_frozen BK160.out 4; have hfz39_5 := blk_frozen BK160.out 5))
    go_ret
    exact ⟨by first | rfl | (simp [errW_none, errW_some] <;> rfl) | (simp [*, errW_none, errW_some] <;> rfl), by repeat (first | (with_reducible first | exact HB.out | apply below_alloc | apply pw_below_drewN | apply below_drew1 | refine below_set ?_ GE159.out | refine below_set ?_ GE160.out) | exact HB.out)⟩

end Go.Proofs.Yticpcjjgdkbcjaa.G
end

section
-- Written by a program of this session (wip/tools/myprint.py), over the kit's print.
namespace Go.Proofs.Yticpcjjgdkbcjaa.G
open Go.RowKit Go.Proofs.YticpcjjgdkbcjaaW.PrintWords Go.Proofs.YticpcjjgdkbcjaaW.PrintLast Go.Proofs.YticpcjjgdkbcjaaW.PrintMore
attribute [local go_sem] max2_int min2_int max_two min_two max_three min_three max_four min_four   -- for this text's walks alone
set_option linter.unusedVariables false
set_option linter.unusedSimpArgs false

/-! ### packet_Pieces: function 14 -/
def packet_Pieces.f (a0 : Int) : Option (Int) := if a0 < 1 then (some 0) else (some (wrap64 ((wrap64 (Int.tdiv (wrap64 (a0 - 1)) 64)) + 1)))
set_option maxHeartbeats 8000000 in
set_option maxRecDepth 100000 in
theorem packet_Pieces.calls (a0 : Int) (r : Int) (w : World) (h : packet_Pieces.f a0 = some r) :
    Calls Try.prog 14 #[.int .i64 a0] w fun e w' => e = .returned (.int .i64 r) ∧ Drawn0 w w' := by
  have H : (if a0 < 1 then (some 0) else (some (wrap64 ((wrap64 (Int.tdiv (wrap64 (a0 - 1)) 64)) + 1)))) = some r := h
  clear h
  by_cases c2 : a0 < 1
  · rw [if_pos c2] at H
    have c2b0 : decide (a0 < 1) = true := decide_eq_true c2
    clear c2
    obtain rfl := Option.some.inj H
    go_enter Try.func14, Try.ntmps14
    go_wp2
    go_ret
    exact ⟨by first | rfl | (simp; done) | (simp [*]; done), by repeat (first | exact Drawn0.refl _ | apply Drawn0.step)⟩
  · rw [if_neg c2] at H
    have c2b0 : decide (a0 < 1) = false := decide_eq_false c2
    clear c2
    obtain rfl := Option.some.inj H
    go_enter Try.func14, Try.ntmps14
    go_wp2
    go_ret
    exact ⟨by first | rfl | (simp; done) | (simp [*]; done), by repeat (first | exact Drawn0.refl _ | apply Drawn0.step)⟩

end Go.Proofs.Yticpcjjgdkbcjaa.G
end

section
-- Written by a program of this session (wip/tools/myprint.py), over the kit's print.
namespace Go.Proofs.Yticpcjjgdkbcjaa.G
open Go.RowKit Go.Proofs.YticpcjjgdkbcjaaW.PrintWords Go.Proofs.YticpcjjgdkbcjaaW.PrintLast Go.Proofs.YticpcjjgdkbcjaaW.PrintMore
attribute [local go_sem] max2_int min2_int max_two min_two max_three min_three max_four min_four   -- for this text's walks alone
set_option linter.unusedVariables false
set_option linter.unusedSimpArgs false

/-! ### rosetteref01_Seal: function 33 -/
def rosetteref01_Seal.f (k : Nat) (l0 : List Int) : Option (List Int) := (some (([] : List Int) : List Int)).bind fun y167 => (if y167.length + l0.length < 140737488355328 then ((some (y167 ++ l0 : List Int)).bind fun y170 => ((rosetteref01_Sum.f k l0).bind fun t173 => ((rosetteref01_Low.f t173).bind fun t174 => (if y170.length + t174.length < 140737488355328 then (some (y170 ++ t174)) else (none))))) else (none))
theorem rosetteref01_Seal.mono : ∀ a0 k, LeO (rosetteref01_Seal.f k a0) (rosetteref01_Seal.f (k + 1) a0) := by
  intro a0 k
  unfold rosetteref01_Seal.f
  repeat' first
      | (with_reducible exact rosetteref01_Sum.mono _ _)
      | (with_reducible exact LeO.refl _)
      | (with_reducible exact LeO.none _)
      | (with_reducible refine LeO.ite ?_ ?_)
      | (with_reducible refine LeO.bind ?_ (fun _ => ?_))
      | exact rosetteref01_Sum.mono _ _
      | exact LeO.none _
      | refine LeO.ite ?_ ?_
      | refine LeO.bind ?_ (fun _ => ?_)
set_option maxHeartbeats 8000000 in
set_option maxRecDepth 100000 in
theorem rosetteref01_Seal.calls (k : Nat) (A0 : Option Addr) (c0 : Nat) (l0 : List Int) (r : List Int) (w : World) (hr0 : Kd.C (Kd.int .u8) w A0 l0.length l0) (hc0 : l0.length ≤ c0) (h : rosetteref01_Seal.f k l0 = some r) :
    Calls Try.prog 33 #[.slice A0 l0.length c0] w fun e w' => ∃ v0_ : Value, e = .returned (v0_) ∧ Kd.R (Kd.int .u8) 5 w' w.heap.size (fun _ => True) v0_ r ∧ Below w.heap.size w w' := by
  have HR0 := Aside0.mk hr0
  have HC0 := Aside0.mk hc0
  clear hr0 hc0
  have HB := Aside0.mk (Below.refl w.heap.size w)
  have H : ((some (([] : List Int) : List Int)).bind fun y167 => (if y167.length + l0.length < 140737488355328 then ((some (y167 ++ l0 : List Int)).bind fun y170 => ((rosetteref01_Sum.f k l0).bind fun t173 => ((rosetteref01_Low.f t173).bind fun t174 => (if y170.length + t174.length < 140737488355328 then (some (y170 ++ t174)) else (none))))) else (none))) = some r := h
  clear h
  obtain ⟨y167, hy167⟩ : ∃ y_ : List Int, y_ = (([] : List Int)) := ⟨_, rfl⟩
  replace H : (if y167.length + l0.length < 140737488355328 then ((some (y167 ++ l0 : List Int)).bind fun y170 => ((rosetteref01_Sum.f k l0).bind fun t173 => ((rosetteref01_Low.f t173).bind fun t174 => (if y170.length + t174.length < 140737488355328 then (some (y170 ++ t174)) else (none))))) else (none)) = some r := by first | (rw [hy167]; with_reducible exact H) | (have H2_ := (Option.bind_some _ _).symm.trans H; rw [hy167]; with_reducible exact H2_) | (have H2_ := (Option.bind_some _ _).symm.trans H; with_reducible exact H2_) | with_reducible exact H | (rw [hy167]; exact H) | exact H
  have Ny167 := Aside0.mk hy167
  clear hy167
  by_cases c2 : y167.length + l0.length < 140737488355328
  · rw [if_pos c2] at H
    have LMc2 := Aside0.mk c2
    clear c2
    obtain ⟨y170, hy170⟩ : ∃ y_ : List Int, y_ = (y167 ++ l0) := ⟨_, rfl⟩
    replace H : ((rosetteref01_Sum.f k l0).bind fun t173 => ((rosetteref01_Low.f t173).bind fun t174 => (if y170.length + t174.length < 140737488355328 then (some (y170 ++ t174)) else (none)))) = some r := by first | (rw [hy170]; with_reducible exact H) | (have H2_ := (Option.bind_some _ _).symm.trans H; rw [hy170]; with_reducible exact H2_) | (have H2_ := (Option.bind_some _ _).symm.trans H; with_reducible exact H2_) | with_reducible exact H | (rw [hy170]; exact H) | exact H
    have Ny170 := Aside0.mk hy170
    clear hy170
    replace H := Option.bind_eq_some_iff.mp H
    obtain ⟨t173, A30, H⟩ := H
    replace H : ((rosetteref01_Low.f t173).bind fun t174 => (if y170.length + t174.length < 140737488355328 then (some (y170 ++ t174)) else (none))) = some r := H
    have A3 := Aside0.mk A30
    clear A30
    replace H := Option.bind_eq_some_iff.mp H
    obtain ⟨t174, A40, H⟩ := H
    replace H : (if y170.length + t174.length < 140737488355328 then (some (y170 ++ t174)) else (none)) = some r := H
    have A4 := Aside0.mk A40
    clear A40
    by_cases c5 : y170.length + t174.length < 140737488355328
    · rw [if_pos c5] at H
      have LMc5 := Aside0.mk c5
      clear c5
      obtain ⟨y177, hy177⟩ : ∃ y_ : List Int, y_ = (y170 ++ t174) := ⟨_, rfl⟩
      replace H : (some y177) = some r := by first | (rw [hy177]; with_reducible exact H) | (have H2_ := (Option.bind_some _ _).symm.trans H; rw [hy177]; with_reducible exact H2_) | (have H2_ := (Option.bind_some _ _).symm.trans H; with_reducible exact H2_) | with_reducible exact H | (rw [hy177]; exact H) | exact H
      have Ny177 := Aside0.mk hy177
      clear hy177
      obtain rfl := Option.some.inj H
      go_enter Try.func33, Try.ntmps33
      go_wp2_with (first | ((with_reducible refine gate_dst (N := 3) rfl ?_); refine Kd.R_lit (Kd.int .u8) _ 5 ?hg (N := 3) ?hd (xs := ([] : List Int)) (inner := []) (ok := fun _ => True) (okp := fun _ => True) ?hr ?hp (fun _ hk => hk) trivial (Below.refl _ _) (Nat.le_refl _) (by simp) ?_; (case hd => rfl); (case hg => rfl); (case hr => first | (go_simp; done) | (go_simp; rfl)); (case hp => exact (Reps.none _ _)); intro v168 w6 ho7 hb hg_ hnew_; clear hg_ hnew_; (first | rw [← Ny167.out] at ho7 | (simp only [Int.reduceToNat] at ho7; rw [← Ny167.out] at ho7)); have n0_ := Aside0.mk (Kd.R_lower ho7 (below_size (by repeat (first | (with_reducible first | exact HB.out | apply below_alloc | apply pw_below_drewN | apply below_drew1) | exact HB.out)))); have n1_ := Aside0.mk (below_step (by repeat (first | (with_reducible first | exact HB.out | apply below_alloc | apply pw_below_drewN | apply below_drew1) | exact HB.out)) hb); clear HB; have HO169 := n0_; have HB := n1_; clear n0_ n1_; clear hb ho7) | ((with_reducible refine gate_builtin (b := .append) (xs := #[.tmp 3, .tmp 4]) rfl ?_); at_builtin; refine Kd.R_append_rows (Kd.int .u8) (w0 := w) w.heap.size rfl (.tmp 3) (.tmp 4) 23 5 (.int .u8 0) 1 rfl Try.underlying23 info5 rfl (by decide) (by decide) v168 y167 l0 _ _ _ (fun _ => True) (fun _ => False) rfl rfl ?aO ?aR (fun _ _ h => h) (fun _ h => h.elim) ?aF ?aB ?aS ?aL ?_; (case aR => repeat (first | exact (Kd.C_below HR0.out HB.out) | (with_reducible refine Kd.C_alloc ?_ _) | (with_reducible refine Kd.C_drewN ?_ _) | (with_reducible refine Kd.C_drew ?_))); (case aB => exact (by repeat (first | (with_reducible first | exact HB.out | apply below_alloc | apply pw_below_drewN | apply below_drew1) | exact HB.out))); (case aF => exact (fun _ _ => trivial)); (case aO => exact (by (with_reducible repeat (first | apply Kd.R_alloc | apply Kd.R_drewN | apply Kd.R_drew)); exact HO169.out)); (case aS => exact (below_size (by repeat (first | (with_reducible first | exact HB.out | apply below_alloc | apply pw_below_drewN | apply below_drew1) | exact HB.out)))); (case aL => have := LMc2.out; omega); intro v171 w8 ho hb hg hat; rw [← Ny170.out] at ho; have n0_ := Aside0.mk (hb); have n1_ := Aside0.mk (ho); clear HB; clear HO169; have HB := n0_; have HO172 := n1_; clear n0_ n1_; clear ho hb hg hat) | ((with_reducible refine gate_callee (f := 47) rfl ?_); refine goesL_ (some 7) rfl rfl Try.func47 (by kernel_rfl) rfl #[.slice A0 l0.length c0] rfl (by (try simp only [List.map_toArray, List.map_cons, List.map_nil]); first | done | rfl | (simp only [List.length_drop, List.length_take]; rfl)) ?_; (with_reducible refine (rosetteref01_Sum.calls k _ _ l0 t173 _ ?side1 ?side2 A3.out).mono ?_); (case side1 => repeat (first | exact (Kd.C_below HR0.out HB.out) | (with_reducible refine Kd.C_alloc ?_ _) | (with_reducible refine Kd.C_drewN ?_ _) | (with_reducible refine Kd.C_drew ?_))); (case side2 => exact HC0.out); rintro e w' ⟨rfl, ⟨nd, rfl⟩⟩; refine ⟨_, rfl, ?_⟩) | ((with_reducible refine gate_callee (f := 46) rfl ?_); refine goesL_ (some 8) rfl rfl Try.func46 (by kernel_rfl) rfl #[.int .u32 t173] rfl (by (try simp only [List.map_toArray, List.map_cons, List.map_nil]); first | done | rfl | (simp only [List.length_drop, List.length_take]; rfl)) ?_; (with_reducible refine (rosetteref01_Low.calls t173 t174 _ A4.out).mono ?_); rintro e w9 ⟨v175, rfl, ho0, hb⟩; refine ⟨_, rfl, ?_⟩; have n0_ := Aside0.mk (Kd.R_elder' (by (with_reducible repeat (first | apply Kd.R_alloc | apply Kd.R_drewN | apply Kd.R_drew)); exact HO172.out) (Kd.R_base ho0) hb); have n1_ := Aside0.mk (Kd.R_lower (Kd.R_new' ho0 (Kd.R_lt (by (with_reducible repeat (first | apply Kd.R_alloc | apply Kd.R_drewN | apply Kd.R_drew)); exact HO172.out))) (below_size (by repeat (first | (with_reducible first | exact HB.out | apply below_alloc | apply pw_below_drewN | apply below_drew1) | exact HB.out)))); have n2_ := Aside0.mk (below_step (by repeat (first | (with_reducible first | exact HB.out | apply below_alloc | apply pw_below_drewN | apply below_drew1) | exact HB.out)) hb); clear HO172; clear HB; have HO172 := n0_; have HO176 := n1_; have HB := n2_; clear n0_ n1_ n2_; (try clear hb); (try clear hb2); (try clear hk); (try clear hi); (try clear ho0); obtain ⟨Ao11, co11, eo11⟩ := Kd.R_slice HO176.out; subst eo11) | ((with_reducible refine gate_builtin (b := .append) (xs := #[.tmp 5, .tmp 8]) rfl ?_); at_builtin; refine Kd.R_append_rows (Kd.int .u8) (w0 := w) w.heap.size rfl (.tmp 5) (.tmp 8) 23 5 (.int .u8 0) 1 rfl Try.underlying23 info5 rfl (by decide) (by decide) v171 y170 t174 _ _ _ (fun k_ => some k_ ≠ (.slice Ao11 t174.length co11 : Value).ownBlock) (fun _ => False) rfl rfl ?aO ?aR (fun _ _ h => h) (fun _ h => h.elim) ?aF ?aB ?aS ?aL ?_; (case aR => repeat (first | exact (Kd.R_reads' HO176.out).2.2 | (with_reducible refine Kd.C_alloc ?_ _) | (with_reducible refine Kd.C_drewN ?_ _) | (with_reducible refine Kd.C_drew ?_))); (case aB => exact (by repeat (first | (with_reducible first | exact HB.out | apply below_alloc | apply pw_below_drewN | apply below_drew1) | exact HB.out))); (case aF => exact (fun k_ hk => Kd.fresh' (Kd.R_lt (by (with_reducible repeat (first | apply Kd.R_alloc | apply Kd.R_drewN | apply Kd.R_drew)); exact HO176.out)) k_ hk)); (case aO => exact (by (with_reducible repeat (first | apply Kd.R_alloc | apply Kd.R_drewN | apply Kd.R_drew)); exact Kd.R_mono HO172.out (fun _ hk => hk.2))); (case aS => exact (below_size (by repeat (first | (with_reducible first | exact HB.out | apply below_alloc | apply pw_below_drewN | apply below_drew1) | exact HB.out)))); (case aL => have := LMc5.out; omega); intro v178 w10 ho hb hg hat; rw [← Ny177.out] at ho; have n0_ := Aside0.mk (Kd.R_after (ok := (fun _ => True)) (by (with_reducible repeat (first | apply Kd.R_alloc | apply Kd.R_drewN | apply Kd.R_drew)); exact HO176.out) hg hat); have n1_ := Aside0.mk (hb); have n2_ := Aside0.mk (ho); clear HO176; clear HB; clear HO172; have HO176 := n0_; have HB := n1_; have HO179 := n2_; clear n0_ n1_ n2_; clear ho hb hg hat))
      go_ret
      exact ⟨_, by first | rfl | (simp [errW_none, errW_some] <;> rfl) | (simp [*, errW_none, errW_some] <;> rfl), by (with_reducible repeat (first | apply Kd.R_alloc | apply Kd.R_drewN | apply Kd.R_drew)); exact Kd.R_mono HO179.out (fun _ hk => trivial), by repeat (first | (with_reducible first | exact HB.out | apply below_alloc | apply pw_below_drewN | apply below_drew1) | exact HB.out)⟩
    · rw [if_neg c5] at H
      exact absurd H (by simp)
  · rw [if_neg c2] at H
    exact absurd H (by simp)

end Go.Proofs.Yticpcjjgdkbcjaa.G
end

section
-- Written by a program of this session (wip/tools/myprint.py), over the kit's print.
namespace Go.Proofs.Yticpcjjgdkbcjaa.G
open Go.RowKit Go.Proofs.YticpcjjgdkbcjaaW.PrintWords Go.Proofs.YticpcjjgdkbcjaaW.PrintLast Go.Proofs.YticpcjjgdkbcjaaW.PrintMore
attribute [local go_sem] max2_int min2_int max_two min_two max_three min_three max_four min_four   -- for this text's walks alone
set_option linter.unusedVariables false
set_option linter.unusedSimpArgs false

/-! ### rosetteref03_Make: function 16 -/
def rosetteref03_Make.f (k : Nat) (l0 : List Int) : Option (List Int × Int) := if (l0.length : Int) > 8192 then (some (([] : List Int), 4)) else ((rosetteref01_Seal.f k (([(l0.length : Int) % 256, (wrap64 ((l0.length : Int) / 256)) % 256] : List Int))).bind fun t183 => ((rosetteref01_Seal.f k l0).bind fun t186 => (if t183.length + t186.length < 140737488355328 then (some ((t183 ++ t186), 0)) else (none))))
theorem rosetteref03_Make.mono : ∀ a0 k, LeO (rosetteref03_Make.f k a0) (rosetteref03_Make.f (k + 1) a0) := by
  intro a0 k
  unfold rosetteref03_Make.f
  repeat' first
      | (with_reducible exact rosetteref01_Seal.mono _ _)
      | (with_reducible exact LeO.refl _)
      | (with_reducible exact LeO.none _)
      | (with_reducible refine LeO.ite ?_ ?_)
      | (with_reducible refine LeO.bind ?_ (fun _ => ?_))
      | exact rosetteref01_Seal.mono _ _
      | exact LeO.none _
      | refine LeO.ite ?_ ?_
      | refine LeO.bind ?_ (fun _ => ?_)
set_option maxHeartbeats 8000000 in
set_option maxRecDepth 100000 in
theorem rosetteref03_Make.calls (k : Nat) (A0 : Option Addr) (c0 : Nat) (l0 : List Int) (r1 : List Int) (r2 : Int) (w : World) (hr0 : Kd.C (Kd.int .u8) w A0 l0.length l0) (hc0 : l0.length ≤ c0) (h : rosetteref03_Make.f k l0 = some (r1, r2)) :
    Calls Try.prog 16 #[.slice A0 l0.length c0] w fun e w' => ∃ v0_ : Value, e = .returned (.tuple #[v0_, .int .i64 r2]) ∧ Kd.R (Kd.int .u8) 5 w' w.heap.size (fun _ => True) v0_ r1 ∧ Below w.heap.size w w' := by
  have HR0 := Aside0.mk hr0
  have HC0 := Aside0.mk hc0
  clear hr0 hc0
  have HB := Aside0.mk (Below.refl w.heap.size w)
  have H : (if (l0.length : Int) > 8192 then (some (([] : List Int), 4)) else ((rosetteref01_Seal.f k (([(l0.length : Int) % 256, (wrap64 ((l0.length : Int) / 256)) % 256] : List Int))).bind fun t183 => ((rosetteref01_Seal.f k l0).bind fun t186 => (if t183.length + t186.length < 140737488355328 then (some ((t183 ++ t186), 0)) else (none))))) = some (r1, r2) := h
  clear h
  by_cases c2 : (l0.length : Int) > 8192
  · rw [if_pos c2] at H
    have c2b0 : decide (8192 < (l0.length : Int)) = true := decide_eq_true c2
    have c2b1 : decide (8192 < l0.length) = true := decide_eq_true (by omega)
    clear c2
    simp only [Option.some.injEq, Prod.mk.injEq] at H
    obtain ⟨rfl, rfl⟩ := H
    go_enter Try.func16, Try.ntmps16
    go_wp2
    go_ret2
    exact ⟨_, by first | rfl | (simp [errW_none, errW_some] <;> rfl) | (simp [*, errW_none, errW_some] <;> rfl), by first | exact Kd.R_nil _ _ _ _ _ | exact Kd.N_nil _ _ _ _ _ | exact Kd.V_nil _ _ _ _ _ | exact Kd.Q_nil _ _ _ _ _ | exact Kd.S_nil _ _ _ _ _, by repeat (first | (with_reducible first | exact HB.out | apply below_alloc | apply pw_below_drewN | apply below_drew1) | exact HB.out)⟩
  · rw [if_neg c2] at H
    have c2b0 : decide (8192 < (l0.length : Int)) = false := decide_eq_false c2
    have c2b1 : decide (8192 < l0.length) = false := decide_eq_false (by omega)
    clear c2
    obtain ⟨y180, hy180⟩ : ∃ y_ : List Int, y_ = (([(l0.length : Int) % 256, (wrap64 ((l0.length : Int) / 256)) % 256] : List Int)) := ⟨_, rfl⟩
    replace H : ((rosetteref01_Seal.f k y180).bind fun t183 => ((rosetteref01_Seal.f k l0).bind fun t186 => (if t183.length + t186.length < 140737488355328 then (some ((t183 ++ t186), 0)) else (none)))) = some (r1, r2) := by first | (rw [hy180]; with_reducible exact H) | (have H2_ := (Option.bind_some _ _).symm.trans H; rw [hy180]; with_reducible exact H2_) | (have H2_ := (Option.bind_some _ _).symm.trans H; with_reducible exact H2_) | with_reducible exact H | (rw [hy180]; exact H) | exact H
    have Ny180 := Aside0.mk hy180
    clear hy180
    replace H := Option.bind_eq_some_iff.mp H
    obtain ⟨t183, A30, H⟩ := H
    replace H : ((rosetteref01_Seal.f k l0).bind fun t186 => (if t183.length + t186.length < 140737488355328 then (some ((t183 ++ t186), 0)) else (none))) = some (r1, r2) := H
    have A3 := Aside0.mk A30
    clear A30
    replace H := Option.bind_eq_some_iff.mp H
    obtain ⟨t186, A40, H⟩ := H
    replace H : (if t183.length + t186.length < 140737488355328 then (some ((t183 ++ t186), 0)) else (none)) = some (r1, r2) := H
    have A4 := Aside0.mk A40
    clear A40
    by_cases c5 : t183.length + t186.length < 140737488355328
    · rw [if_pos c5] at H
      have LMc5 := Aside0.mk c5
      clear c5
      obtain ⟨y189, hy189⟩ : ∃ y_ : List Int, y_ = (t183 ++ t186) := ⟨_, rfl⟩
      replace H : (some (y189, 0)) = some (r1, r2) := by first | (rw [hy189]; with_reducible exact H) | (have H2_ := (Option.bind_some _ _).symm.trans H; rw [hy189]; with_reducible exact H2_) | (have H2_ := (Option.bind_some _ _).symm.trans H; with_reducible exact H2_) | with_reducible exact H | (rw [hy189]; exact H) | exact H
      have Ny189 := Aside0.mk hy189
      clear hy189
      simp only [Option.some.injEq, Prod.mk.injEq] at H
      obtain ⟨rfl, rfl⟩ := H
      go_enter Try.func16, Try.ntmps16
      go_wp2_with (first | ((with_reducible refine gate_dst (N := 16) rfl ?_); refine Kd.R_lit (Kd.int .u8) _ 5 ?hg (N := 16) ?hd (xs := ([(l0.length : Int) % 256, (wrap64 ((l0.length : Int) / 256)) % 256] : List Int)) (inner := [.int .u8 ((l0.length : Int) % 256), .int .u8 ((wrap64 ((l0.length : Int) / 256)) % 256)]) (ok := fun _ => True) (okp := fun _ => True) ?hr ?hp (fun _ hk => hk) trivial (Below.refl _ _) (Nat.le_refl _) (by simp) ?_; (case hd => rfl); (case hg => rfl); (case hr => first | (go_simp; done) | (go_simp; rfl)); (case hp => exact (Reps.one (show Kd.M (Kd.int .u8) _ _ _ ((l0.length : Int) % 256) [.int .u8 ((l0.length : Int) % 256)] from rfl) (Reps.one (show Kd.M (Kd.int .u8) _ _ _ ((wrap64 ((l0.length : Int) / 256)) % 256) [.int .u8 ((wrap64 ((l0.length : Int) / 256)) % 256)] from rfl) (Reps.none _ _)))); intro v181 w6 ho7 hb hg_ hnew_; clear hg_ hnew_; (first | rw [← Ny180.out] at ho7 | (simp only [Int.reduceToNat] at ho7; rw [← Ny180.out] at ho7)); have n0_ := Aside0.mk (Kd.R_lower ho7 (below_size (by repeat (first | (with_reducible first | exact HB.out | apply below_alloc | apply pw_below_drewN | apply below_drew1) | exact HB.out)))); have n1_ := Aside0.mk (below_step (by repeat (first | (with_reducible first | exact HB.out | apply below_alloc | apply pw_below_drewN | apply below_drew1) | exact HB.out)) hb); clear HB; have HO182 := n0_; have HB := n1_; clear n0_ n1_; clear hb ho7; obtain ⟨Ao8, co8, eo8⟩ := Kd.R_slice HO182.out; subst eo8) | ((with_reducible refine gate_callee (f := 33) rfl ?_); refine goesL_ (some 17) rfl rfl Try.func33 (by kernel_rfl) rfl #[.slice Ao8 y180.length co8] rfl (by (try simp only [List.map_toArray, List.map_cons, List.map_nil]); first | done | rfl | (simp only [List.length_drop, List.length_take]; rfl)) ?_; (with_reducible refine (rosetteref01_Seal.calls k _ _ y180 t183 _ ?side1 ?side2 A3.out).mono ?_); (case side1 => repeat (first | exact (Kd.R_reads' HO182.out).2.2 | (with_reducible refine Kd.C_alloc ?_ _) | (with_reducible refine Kd.C_drewN ?_ _) | (with_reducible refine Kd.C_drew ?_))); (case side2 => exact (Kd.R_reads' HO182.out).2.1); rintro e w9 ⟨v184, rfl, ho0, hb⟩; refine ⟨_, rfl, ?_⟩; have n0_ := Aside0.mk (Kd.R_elder' (by (with_reducible repeat (first | apply Kd.R_alloc | apply Kd.R_drewN | apply Kd.R_drew)); exact HO182.out) (Kd.R_base ho0) hb); have n1_ := Aside0.mk (Kd.R_lower (Kd.R_new' ho0 (Kd.R_lt (by (with_reducible repeat (first | apply Kd.R_alloc | apply Kd.R_drewN | apply Kd.R_drew)); exact HO182.out))) (below_size (by repeat (first | (with_reducible first | exact HB.out | apply below_alloc | apply pw_below_drewN | apply below_drew1) | exact HB.out)))); have n2_ := Aside0.mk (below_step (by repeat (first | (with_reducible first | exact HB.out | apply below_alloc | apply pw_below_drewN | apply below_drew1) | exact HB.out)) hb); clear HO182; clear HB; have HO182 := n0_; have HO185 := n1_; have HB := n2_; clear n0_ n1_ n2_; (try clear hb); (try clear hb2); (try clear hk); (try clear hi); (try clear ho0)) | ((with_reducible refine gate_callee (f := 33) rfl ?_); refine goesL_ (some 20) rfl rfl Try.func33 (by kernel_rfl) rfl #[.slice A0 l0.length c0] rfl (by (try simp only [List.map_toArray, List.map_cons, List.map_nil]); first | done | rfl | (simp only [List.length_drop, List.length_take]; rfl)) ?_; (with_reducible refine (rosetteref01_Seal.calls k _ _ l0 t186 _ ?side1 ?side2 A4.out).mono ?_); (case side1 => repeat (first | exact (Kd.C_below HR0.out HB.out) | (with_reducible refine Kd.C_alloc ?_ _) | (with_reducible refine Kd.C_drewN ?_ _) | (with_reducible refine Kd.C_drew ?_))); (case side2 => exact HC0.out); rintro e w10 ⟨v187, rfl, ho0, hb⟩; refine ⟨_, rfl, ?_⟩; have n0_ := Aside0.mk (Kd.R_elder' (by (with_reducible repeat (first | apply Kd.R_alloc | apply Kd.R_drewN | apply Kd.R_drew)); exact HO182.out) (Kd.R_base ho0) hb); have n1_ := Aside0.mk (Kd.R_elder' (by (with_reducible repeat (first | apply Kd.R_alloc | apply Kd.R_drewN | apply Kd.R_drew)); exact HO185.out) (Kd.R_base ho0) hb); have n2_ := Aside0.mk (Kd.R_lower (Kd.R_new' (Kd.R_new' ho0 (Kd.R_lt (by (with_reducible repeat (first | apply Kd.R_alloc | apply Kd.R_drewN | apply Kd.R_drew)); exact HO182.out))) (Kd.R_lt (by (with_reducible repeat (first | apply Kd.R_alloc | apply Kd.R_drewN | apply Kd.R_drew)); exact HO185.out))) (below_size (by repeat (first | (with_reducible first | exact HB.out | apply below_alloc | apply pw_below_drewN | apply below_drew1) | exact HB.out)))); have n3_ := Aside0.mk (below_step (by repeat (first | (with_reducible first | exact HB.out | apply below_alloc | apply pw_below_drewN | apply below_drew1) | exact HB.out)) hb); clear HO182; clear HO185; clear HB; have HO182 := n0_; have HO185 := n1_; have HO188 := n2_; have HB := n3_; clear n0_ n1_ n2_ n3_; (try clear hb); (try clear hb2); (try clear hk); (try clear hi); (try clear ho0); obtain ⟨Ao12, co12, eo12⟩ := Kd.R_slice HO188.out; subst eo12) | ((with_reducible refine gate_builtin (b := .append) (xs := #[.tmp 18, .tmp 20]) rfl ?_); at_builtin; refine Kd.R_append_rows (Kd.int .u8) (w0 := w) w.heap.size rfl (.tmp 18) (.tmp 20) 23 5 (.int .u8 0) 1 rfl Try.underlying23 info5 rfl (by decide) (by decide) v184 t183 t186 _ _ _ (fun k_ => some k_ ≠ (.slice Ao8 y180.length co8 : Value).ownBlock ∧ some k_ ≠ (.slice Ao12 t186.length co12 : Value).ownBlock) (fun _ => False) rfl rfl ?aO ?aR (fun _ _ h => h) (fun _ h => h.elim) ?aF ?aB ?aS ?aL ?_; (case aR => repeat (first | exact (Kd.R_reads' HO188.out).2.2 | (with_reducible refine Kd.C_alloc ?_ _) | (with_reducible refine Kd.C_drewN ?_ _) | (with_reducible refine Kd.C_drew ?_))); (case aB => exact (by repeat (first | (with_reducible first | exact HB.out | apply below_alloc | apply pw_below_drewN | apply below_drew1) | exact HB.out))); (case aF => exact (fun k_ hk => ⟨Kd.fresh' (Kd.R_lt (by (with_reducible repeat (first | apply Kd.R_alloc | apply Kd.R_drewN | apply Kd.R_drew)); exact HO182.out)) k_ hk, Kd.fresh' (Kd.R_lt (by (with_reducible repeat (first | apply Kd.R_alloc | apply Kd.R_drewN | apply Kd.R_drew)); exact HO188.out)) k_ hk⟩)); (case aO => exact (by (with_reducible repeat (first | apply Kd.R_alloc | apply Kd.R_drewN | apply Kd.R_drew)); exact Kd.R_mono HO185.out (fun _ hk => ⟨hk.1.2, hk.2⟩))); (case aS => exact (below_size (by repeat (first | (with_reducible first | exact HB.out | apply below_alloc | apply pw_below_drewN | apply below_drew1) | exact HB.out)))); (case aL => have := LMc5.out; omega); intro v190 w11 ho hb hg hat; rw [← Ny189.out] at ho; have n0_ := Aside0.mk (Kd.R_after (ok := (fun k_ => some k_ ≠ (.slice Ao12 t186.length co12 : Value).ownBlock)) (by (with_reducible repeat (first | apply Kd.R_alloc | apply Kd.R_drewN | apply Kd.R_drew)); exact Kd.R_mono HO182.out (fun _ hk => ⟨hk.2, hk.1.2⟩)) hg hat); have n1_ := Aside0.mk (Kd.R_after (ok := (fun k_ => some k_ ≠ (.slice Ao8 y180.length co8 : Value).ownBlock)) (by (with_reducible repeat (first | apply Kd.R_alloc | apply Kd.R_drewN | apply Kd.R_drew)); exact Kd.R_mono HO188.out (fun _ hk => ⟨hk.1.2, hk.2⟩)) hg hat); have n2_ := Aside0.mk (hb); have n3_ := Aside0.mk (ho); clear HO182; clear HO188; clear HB; clear HO185; have HO182 := n0_; have HO188 := n1_; have HB := n2_; have HO191 := n3_; clear n0_ n1_ n2_ n3_; clear ho hb hg hat))
      go_ret2
      exact ⟨_, by first | rfl | (simp [errW_none, errW_some] <;> rfl) | (simp [*, errW_none, errW_some] <;> rfl), by (with_reducible repeat (first | apply Kd.R_alloc | apply Kd.R_drewN | apply Kd.R_drew)); exact Kd.R_mono HO191.out (fun _ hk => trivial), by repeat (first | (with_reducible first | exact HB.out | apply below_alloc | apply pw_below_drewN | apply below_drew1) | exact HB.out)⟩
    · rw [if_neg c5] at H
      exact absurd H (by simp)

end Go.Proofs.Yticpcjjgdkbcjaa.G
end

section
/- the small case of the packets' laws, walked -/
set_option linter.unusedVariables false
set_option linter.unusedSimpArgs false
set_option autoImplicit false
namespace Go.Proofs.Yticpcjjgdkbcjaa
open Go.RowKit Go.Proofs.YticpcjjgdkbcjaaW.PrintWords Go.Proofs.YticpcjjgdkbcjaaW.PrintLast Go.Proofs.YticpcjjgdkbcjaaW.PrintMore Go.Proofs.Yticpcjjgdkbcjaa.G

instance d7 : DecidableEq (Int × Int × Int × Int × Int × List Int × Int) := fun a b => if h : a.1 = b.1 ∧ a.2.1 = b.2.1 ∧ a.2.2.1 = b.2.2.1 ∧ a.2.2.2.1 = b.2.2.2.1 ∧ a.2.2.2.2.1 = b.2.2.2.2.1 ∧ a.2.2.2.2.2.1 = b.2.2.2.2.2.1 ∧ a.2.2.2.2.2.2 = b.2.2.2.2.2.2 then .isTrue (by obtain ⟨a1, a2, a3, a4, a5, a6, a7⟩ := a; obtain ⟨b1, b2, b3, b4, b5, b6, b7⟩ := b; simp only at h; obtain ⟨rfl, rfl, rfl, rfl, rfl, rfl, rfl⟩ := h; rfl) else .isFalse (fun e => h (by subst e; exact ⟨rfl, rfl, rfl, rfl, rfl, rfl, rfl⟩))
def FP : List Int := [7, 0, 56, 132, 152, 14, 2, 172, 2, 2, 2, 97, 98, 213, 10, 58, 104]
theorem sm1 : packet_Encode.f 20 2 300 2 0 0 [97, 98] = some (FP, true) := by decide +kernel
theorem sm2 : packet_Decode.f FP = some (2, 300, 2, 0, 0, [97, 98], 0) := by decide +kernel
theorem sm3 : rosetteref03_Make.f 20 [2, 172, 2, 2, 2, 97, 98] = some (FP, 0) := by decide +kernel
theorem sm4 : packet_Encode.f 20 3 0 0 1 0 [] = some ([], false) := by decide +kernel
theorem sm5 : packet_Decode.f (FP ++ [0]) = some (0, 0, 0, 0, 0, [], 5) := by decide +kernel
theorem sm6 : packet_Decode.f [] = some (0, 0, 0, 0, 0, [], 2) := by decide +kernel
theorem sm7 : rosetteref22_Same.f 2 300 2 0 0 [97, 98] 2 300 2 0 0 [97, 98] = some true := by decide +kernel
theorem sm8 : packet_Pieces.f 65 = some 2 := by decide +kernel
theorem sm9 : packet_Pieces.f 64 = some 1 := by decide +kernel
theorem sm10 : packet_Pieces.f 0 = some 0 := by decide +kernel
theorem conv_b (W : World) (C : Array Value) (n c : Nat) : (convert 23 23 (.slice (some ⟨W.heap.size, 0, none⟩) n c)).run Try.prog (W.alloc (.cells C 5)) = .ok (.slice (some ⟨W.heap.size, 0, none⟩) n c) (W.alloc (.cells C 5 (C.size, C.size + 1))) := Lib.run_convert_bytes_const W 23 5 C n c Try.underlying23 Try.underlying5
theorem own_empty (W : World) : (W.alloc (.cells #[] 5)).ownsRow W.heap.size 5 1 (.slice (some ⟨W.heap.size, 0, none⟩) 0 0) ([] : List Int).length (nums .u8 []) :=
  ⟨by simp [nums], .inr ⟨W.heap.size, 0, #[], rfl, Nat.le_refl _, heap_alloc_new W _, by simp, by simp [maxLen], by simp, by simp [nums]⟩⟩
theorem ldec {l : List Int} {n : Nat} (hn : l.length = n) (A0 : Option Addr) (c0 : Nat) (r1 r2 r3 r4 r5 : Int) (r6 : List Int) (r7 : Int) (w : World) (hr0 : Kd.C (Kd.int .u8) w A0 l.length l) (hc0 : n ≤ c0) (h : packet_Decode.f l = some (r1, r2, r3, r4, r5, r6, r7)) :
    Calls Try.prog 11 #[.slice A0 n c0] w fun e w' => ∃ v1_ : Value, e = .returned (.tuple #[.agg #[.int .i64 r1, .int .i64 r2, .int .i64 r3, .int .i64 r4, .int .u32 r5, v1_], .int .i64 r7]) ∧ Rs 5 w' w.heap.size (fun _ => True) v1_ r6 ∧ Below w.heap.size w w' := by
  subst hn
  exact packet_Decode.calls A0 c0 l r1 r2 r3 r4 r5 r6 r7 w hr0 hc0 h
set_option maxRecDepth 100000 in
set_option maxHeartbeats 8000000 in
theorem small_any (w : World) : Calls Try.prog 8 #[] w fun e w' => e = .returned (.bool true) ∧ Below w.heap.size w w' := by
  have hcv := conv_b
  obtain ⟨F, hF⟩ : ∃ F, F = FP := ⟨_, rfl⟩
  have hFl : F.length = 17 := by rw [hF]; rfl
  have EF := Aside0.mk hF
  have LF := Aside0.mk hFl
  clear hF hFl
  have HC1 := Aside0.mk (Kd.C_alloc (lit_C w 5 .u8 [97, 98] (by decide) (2, 3)) (.cells #[.int .i64 2, .int .i64 300, .int .i64 2, .int .i64 0, .int .u32 0, .slice (some ⟨w.heap.size, 0, none⟩) 2 2] 25 (0, 0)))
  have hP := heap_alloc_new (w.alloc (.cells #[.int .u8 97, .int .u8 98] 5 (2, 3))) (.cells #[.int .i64 2, .int .i64 300, .int .i64 2, .int .i64 0, .int .u32 0, .slice (some ⟨w.heap.size, 0, none⟩) 2 2] 25 (0, 0))
  rw [World.size_alloc] at hP
  have KP1 := Aside0.mk hP
  have HB1 := Aside0.mk (((Below.refl w.heap.size w).alloc (Nat.le_refl _) (.cells #[.int .u8 97, .int .u8 98] 5 (2, 3))).alloc (by simp) (.cells #[.int .i64 2, .int .i64 300, .int .i64 2, .int .i64 0, .int .u32 0, .slice (some ⟨w.heap.size, 0, none⟩) 2 2] 25 (0, 0)))
  clear hP
  go_enter Try.func8, Try.ntmps8
  go_upto_region 2 with fail
  change Aside0 (Kd.C (Kd.int .u8) ((w.alloc (.cells #[.int .u8 97, .int .u8 98] 5 (2, 3))).alloc (.cells #[.int .i64 2, .int .i64 300, .int .i64 2, .int .i64 0, .int .u32 0, .slice (some ⟨w.heap.size, 0, none⟩) 2 2] 25 (0, 0))) (some ⟨w.heap.size, 0, none⟩) 2 [97, 98]) at HC1
  generalize (w.alloc (.cells #[.int .u8 97, .int .u8 98] 5 (2, 3))).alloc (.cells #[.int .i64 2, .int .i64 300, .int .i64 2, .int .i64 0, .int .u32 0, .slice (some ⟨w.heap.size, 0, none⟩) 2 2] 25 (0, 0)) = w1 at HC1 KP1 HB1 ⊢
  obtain ⟨⟨p0, p1, p2, p3, p4, p5⟩, gp0, gp1, gp2, gp3, gp4, gp5⟩ := cells6 KP1.out
  go_wp2_with fail
  refine (packet_Encode.calls 20 2 300 2 0 0 (some ⟨w.heap.size, 0, none⟩) 2 [97, 98] F true w1 HC1.out (Nat.le_refl _) (by rw [EF.out]; exact sm1)).mono ?_
  rintro e w2 ⟨v1, rfl, hR, hX⟩
  obtain ⟨Aa, na, rfl, hna, _, hH, _⟩ := held_own hR
  clear p0 p1 p2 p3 p4 p5 gp0 gp1 gp2 gp3 gp4 gp5
  have KP2 := Aside0.mk (vkeepB KP1.out hX)
  have HC2 := Aside0.mk (Kd.C_below HC1.out hX)
  have HB2 := Aside0.mk (HB1.out.trans ((hX).mono HB1.out.size))
  clear KP1 HC1 HB1
  have HA2 := Aside0.mk (hH.mono (S' := fun _ => True) (fun _ _ => trivial))
  clear hR hX hH
  go_wp2_with fail
  refine (packet_Decode.calls Aa na F 2 300 2 0 0 [97, 98] 0 w2 (HA2.out.C (by have := LF.out; omega)) hna (by rw [EF.out]; exact sm2)).mono ?_
  rintro e w3 ⟨v2, rfl, ⟨_, Aq, cq, rfl, hq1, hq2, hHq⟩, hX⟩
  have KP3 := Aside0.mk (vkeepB KP2.out hX)
  have HC3 := Aside0.mk (Kd.C_below HC2.out hX)
  have HB3 := Aside0.mk (HB2.out.trans ((hX).mono HB2.out.size))
  have HA3 := Aside0.mk (HeldB.below HA2.out hX)
  clear KP2 HC2 HB2 HA2
  have HQ3 := Aside0.mk hHq
  clear hX hHq
  have HQL := Aside0.mk hq1
  clear hq1 hq2
  have hb := (Below.refl w3.heap.size w3).alloc (Nat.le_refl _) (.cells #[.int .i64 2, .int .i64 300, .int .i64 2, .int .i64 0, .int .u32 0, .slice Aq 2 cq] 25 (0, 0))
  have hN := heap_alloc_new w3 (.cells #[.int .i64 2, .int .i64 300, .int .i64 2, .int .i64 0, .int .u32 0, .slice Aq 2 cq] 25 (0, 0))
  go_upto_region 4 with fail
  have KP4 := Aside0.mk (vkeepB KP3.out hb)
  have HC4 := Aside0.mk (Kd.C_below HC3.out hb)
  have HB4 := Aside0.mk (HB3.out.trans ((hb).mono HB3.out.size))
  have HA4 := Aside0.mk (HeldB.below HA3.out hb)
  have HQ4 := Aside0.mk (HeldT.below HQ3.out hb)
  clear KP3 HC3 HB3 HA3 HQ3
  have KQ4 := Aside0.mk hN
  clear hb hN
  generalize w3.alloc (.cells #[.int .i64 2, .int .i64 300, .int .i64 2, .int .i64 0, .int .u32 0, .slice Aq 2 cq] 25 (0, 0)) = w4 at KP4 HC4 HB4 HA4 HQ4 KQ4 ⊢
  generalize w3.heap.size = bKQ at KQ4 ⊢
  go_wp2_with fail
  refine (rosetteref03_Make.calls 20 _ _ [2, 172, 2, 2, 2, 97, 98] F 0 _ (lit_C w4 5 .u8 [2, 172, 2, 2, 2, 97, 98] (by decide) _) (Nat.le_refl _) (by rw [EF.out]; exact sm3)).mono ?_
  rintro e w5 ⟨v3, rfl, hR, hX0⟩
  obtain ⟨Ax, nx, rfl, hnx, _, hH, _⟩ := held_own hR
  have hX : Below w4.heap.size w4 w5 := ((Below.refl _ _).alloc (Nat.le_refl _) _).trans (hX0.mono (by simp))
  have KP5 := Aside0.mk (vkeepB KP4.out hX)
  have HC5 := Aside0.mk (Kd.C_below HC4.out hX)
  have HB5 := Aside0.mk (HB4.out.trans ((hX).mono HB4.out.size))
  have HA5 := Aside0.mk (HeldB.below HA4.out hX)
  have HQ5 := Aside0.mk (HeldT.below HQ4.out hX)
  have KQ5 := Aside0.mk (vkeepB KQ4.out hX)
  clear KP4 HC4 HB4 HA4 HQ4 KQ4
  have HX5 := Aside0.mk (hH.mono (S' := fun _ => True) (fun _ _ => trivial))
  clear hR hX hX0 hH
  go_wp2_with fail
  refine (packet_Encode.calls 20 3 0 0 1 0 none 0 [] [] false _ (nil_C _ .u8) (Nat.le_refl _) sm4).mono ?_
  rintro e w6 ⟨v4, rfl, hR, hX⟩
  have KP6 := Aside0.mk (vkeepB KP5.out hX)
  have HC6 := Aside0.mk (Kd.C_below HC5.out hX)
  have HB6 := Aside0.mk (HB5.out.trans ((hX).mono HB5.out.size))
  have HA6 := Aside0.mk (HeldB.below HA5.out hX)
  have HQ6 := Aside0.mk (HeldT.below HQ5.out hX)
  have KQ6 := Aside0.mk (vkeepB KQ5.out hX)
  have HX6 := Aside0.mk (HeldB.below HX5.out hX)
  clear KP5 HC5 HB5 HA5 HQ5 KQ5 HX5
  clear hR hX
  have b6 := Aside0.mk ((Below.refl w6.heap.size w6).alloc (Nat.le_refl _) (.cells #[] 5))
  go_wp2_with (first
    | (at_builtin; refine print_append_row (w0 := w6) w6.heap.size rfl (.tmp 38) (.tmp 39) 23 5 .u8 1 rfl Try.underlying23 info_b8 (by decide) (.slice (some ⟨w6.heap.size, 0, none⟩) 0 0) [] F Aa F.length na rfl rfl (own_empty w6) (Kd.reads_of_C (d := (0 : Int)) ((HA6.out.below b6.out).C (by have := LF.out; omega))) b6.out (by simp) (by have := LF.out; simp; omega) ?_; intro va wa hoa hBa _ _; rw [List.nil_append] at hoa; obtain ⟨A3, n3, rfl, _, _⟩ := own_C (kd_R hoa))
    | (at_builtin; refine print_append_num (w0 := w6) w6.heap.size rfl (.tmp 40) (.tmp 41) 23 5 .u8 1 rfl Try.underlying23 info_b8 (by decide) (.slice A3 F.length n3) F 0 rfl rfl hoa hBa (by have := hBa.size; omega) (by have := LF.out; omega) ?_; intro vb w7 hob hX _ _; obtain ⟨A4, n4, rfl, hn4, _, hH4, hC4⟩ := held_own (kd_R hob)))
  have KP7 := Aside0.mk (vkeepB KP6.out hX)
  have HC7 := Aside0.mk (Kd.C_below HC6.out hX)
  have HB7 := Aside0.mk (HB6.out.trans ((hX).mono HB6.out.size))
  have HA7 := Aside0.mk (HeldB.below HA6.out hX)
  have HQ7 := Aside0.mk (HeldT.below HQ6.out hX)
  have KQ7 := Aside0.mk (vkeepB KQ6.out hX)
  have HX7 := Aside0.mk (HeldB.below HX6.out hX)
  clear KP6 HC6 HB6 HA6 HQ6 KQ6 HX6
  have hC4' := hC4
  clear hX hoa hBa hob hC4 b6
  refine (ldec (l := F ++ [0]) (n := F.length + 1) (by simp) A4 n4 0 0 0 0 0 [] 5 w7 hC4' (by simpa using hn4) (by rw [EF.out]; exact sm5)).mono ?_
  rintro e w8 ⟨v5, rfl, ⟨_, Ar, cr, rfl, _, _, _⟩, hX⟩
  have KP8 := Aside0.mk (vkeepB KP7.out hX)
  have HC8 := Aside0.mk (Kd.C_below HC7.out hX)
  have HB8 := Aside0.mk (HB7.out.trans ((hX).mono HB7.out.size))
  have HA8 := Aside0.mk (HeldB.below HA7.out hX)
  have HQ8 := Aside0.mk (HeldT.below HQ7.out hX)
  have KQ8 := Aside0.mk (vkeepB KQ7.out hX)
  have HX8 := Aside0.mk (HeldB.below HX7.out hX)
  clear KP7 HC7 HB7 HA7 HQ7 KQ7 HX7
  clear hX hH4 hC4'
  have hb := (Below.refl w8.heap.size w8).alloc (Nat.le_refl _) (.cells #[.int .i64 0, .int .i64 0, .int .i64 0, .int .i64 0, .int .u32 0, .slice Ar 0 cr] 25 (0, 0))
  have hN := heap_alloc_new w8 (.cells #[.int .i64 0, .int .i64 0, .int .i64 0, .int .i64 0, .int .u32 0, .slice Ar 0 cr] 25 (0, 0))
  go_upto_region 7 with fail
  have KP9 := Aside0.mk (vkeepB KP8.out hb)
  have HC9 := Aside0.mk (Kd.C_below HC8.out hb)
  have HB9 := Aside0.mk (HB8.out.trans ((hb).mono HB8.out.size))
  have HA9 := Aside0.mk (HeldB.below HA8.out hb)
  have HQ9 := Aside0.mk (HeldT.below HQ8.out hb)
  have KQ9 := Aside0.mk (vkeepB KQ8.out hb)
  have HX9 := Aside0.mk (HeldB.below HX8.out hb)
  clear KP8 HC8 HB8 HA8 HQ8 KQ8 HX8
  clear hb hN
  generalize w8.alloc (.cells #[.int .i64 0, .int .i64 0, .int .i64 0, .int .i64 0, .int .u32 0, .slice Ar 0 cr] 25 (0, 0)) = w9 at KP9 HC9 HB9 HA9 HQ9 KQ9 HX9 ⊢
  go_wp2_with fail
  refine (packet_Decode.calls none 0 [] 0 0 0 0 0 [] 2 w9 (nil_C _ .u8) (Nat.le_refl _) sm6).mono ?_
  rintro e w10 ⟨v6, rfl, ⟨_, As, cs, rfl, _, _, _⟩, hX⟩
  have KP10 := Aside0.mk (vkeepB KP9.out hX)
  have HC10 := Aside0.mk (Kd.C_below HC9.out hX)
  have HB10 := Aside0.mk (HB9.out.trans ((hX).mono HB9.out.size))
  have HA10 := Aside0.mk (HeldB.below HA9.out hX)
  have HQ10 := Aside0.mk (HeldT.below HQ9.out hX)
  have KQ10 := Aside0.mk (vkeepB KQ9.out hX)
  have HX10 := Aside0.mk (HeldB.below HX9.out hX)
  clear KP9 HC9 HB9 HA9 HQ9 KQ9 HX9
  clear hX
  have hb := (Below.refl w10.heap.size w10).alloc (Nat.le_refl _) (.cells #[.int .i64 0, .int .i64 0, .int .i64 0, .int .i64 0, .int .u32 0, .slice As 0 cs] 25 (0, 0))
  have hN := heap_alloc_new w10 (.cells #[.int .i64 0, .int .i64 0, .int .i64 0, .int .i64 0, .int .u32 0, .slice As 0 cs] 25 (0, 0))
  go_upto_region 8 with fail
  have KP11 := Aside0.mk (vkeepB KP10.out hb)
  have HC11 := Aside0.mk (Kd.C_below HC10.out hb)
  have HB11 := Aside0.mk (HB10.out.trans ((hb).mono HB10.out.size))
  have HA11 := Aside0.mk (HeldB.below HA10.out hb)
  have HQ11 := Aside0.mk (HeldT.below HQ10.out hb)
  have KQ11 := Aside0.mk (vkeepB KQ10.out hb)
  have HX11 := Aside0.mk (HeldB.below HX10.out hb)
  clear KP10 HC10 HB10 HA10 HQ10 KQ10 HX10
  clear hb hN
  generalize w10.alloc (.cells #[.int .i64 0, .int .i64 0, .int .i64 0, .int .i64 0, .int .u32 0, .slice As 0 cs] 25 (0, 0)) = w11 at KP11 HC11 HB11 HA11 HQ11 KQ11 HX11 ⊢
  have hs1 : (convert 23 9 (.slice Aa F.length na)).run Try.prog w11 = .ok (.string (strOfNums F)) w11 := Kd.C_string (P := Try.prog) (A := Aa) (c := na) Try.underlying23 Try.underlying5 Try.underlying9 (HA11.out.C (by have := LF.out; omega))
  have hs2 : (convert 23 9 (.slice Ax F.length nx)).run Try.prog w11 = .ok (.string (strOfNums F)) w11 := Kd.C_string (P := Try.prog) (A := Ax) (c := nx) Try.underlying23 Try.underlying5 Try.underlying9 (HX11.out.C (by have := LF.out; omega))
  obtain ⟨⟨p0, p1, p2, p3, p4, p5⟩, gp0, gp1, gp2, gp3, gp4, gp5⟩ := cells6 KP11.out
  obtain ⟨⟨q0, q1, q2, q3, q4, q5⟩, gq0, gq1, gq2, gq3, gq4, gq5⟩ := cells6 KQ11.out
  go_wp2_with fail
  refine (rosetteref22_Same.calls 2 300 2 0 0 (some ⟨w.heap.size, 0, none⟩) 2 [97, 98] 2 300 2 0 0 Aq cq [97, 98] true w11 HC11.out (Nat.le_refl _) (HQ11.out.C (by decide)) HQL.out sm7).mono ?_
  rintro e w12 ⟨rfl, hX⟩
  clear p0 p1 p2 p3 p4 p5 gp0 gp1 gp2 gp3 gp4 gp5 q0 q1 q2 q3 q4 q5 gq0 gq1 gq2 gq3 gq4 gq5
  clear hs1 hs2
  have KP12 := Aside0.mk (vkeepB KP11.out hX)
  have HC12 := Aside0.mk (Kd.C_below HC11.out hX)
  have HB12 := Aside0.mk (HB11.out.trans ((hX).mono HB11.out.size))
  have HA12 := Aside0.mk (HeldB.below HA11.out hX)
  have HQ12 := Aside0.mk (HeldT.below HQ11.out hX)
  have KQ12 := Aside0.mk (vkeepB KQ11.out hX)
  have HX12 := Aside0.mk (HeldB.below HX11.out hX)
  clear KP11 HC11 HB11 HA11 HQ11 KQ11 HX11
  clear hX
  go_wp2_with fail
  refine (packet_Pieces.calls 65 2 _ sm8).mono ?_
  rintro e w' ⟨rfl, ⟨nd, rfl⟩⟩
  go_wp2_with fail
  refine (packet_Pieces.calls 64 1 _ sm9).mono ?_
  rintro e w' ⟨rfl, ⟨nd, rfl⟩⟩
  go_wp2_with fail
  refine (packet_Pieces.calls 0 0 _ sm10).mono ?_
  rintro e w' ⟨rfl, ⟨nd, rfl⟩⟩
  go_wp2_with fail
  go_ret
  exact ⟨rfl, by repeat (first | exact HB12.out | apply pw_below_drewN | apply below_drew1)⟩
end Go.Proofs.Yticpcjjgdkbcjaa
end

section
-- Written by a program of this session (wip/tools/myprint.py), over the kit's print.
namespace Go.Proofs.Yticpcjjgdkbcjaa.G
open Go.RowKit Go.Proofs.YticpcjjgdkbcjaaW.PrintWords Go.Proofs.YticpcjjgdkbcjaaW.PrintLast Go.Proofs.YticpcjjgdkbcjaaW.PrintMore
attribute [local go_sem] max2_int min2_int max_two min_two max_three min_three max_four min_four   -- for this text's walks alone
set_option linter.unusedVariables false
set_option linter.unusedSimpArgs false

-- BY HAND
-- IMPORT YticpcjjgdkbcjaaSmall22
def rosettelaw22_small.f : Option Bool := some true
theorem rosettelaw22_small.calls (r : Bool) (w : World) (h : rosettelaw22_small.f = some r) :
    Calls Try.prog 8 #[] w fun e w' => e = .returned (.bool r) ∧ Below w.heap.size w w' := by
  obtain rfl : true = r := Option.some.inj h
  exact small_any w

end Go.Proofs.Yticpcjjgdkbcjaa.G
end
