import Derived.Test.YtckjmbpagippkaaZFrameBack0
section
-- Written by a program of this session (wip/tools/myprint.py), over the kit's print.
namespace Go.Proofs.Ytckjmbpagippkaa.G
open Go.RowKit Go.Proofs.YtckjmbpagippkaaW.PrintWords Go.Proofs.YtckjmbpagippkaaW.PrintLast Go.Proofs.YtckjmbpagippkaaW.PrintMore
attribute [local go_sem] max2_int min2_int max_two min_two max_three min_three max_four min_four   -- for this text's walks alone
set_option linter.unusedVariables false
set_option linter.unusedSimpArgs false

/-! ### rosetteref03_Same: function 15 -/
def rosetteref03_Same.l0 : Nat → List (List Int) → List (List Int) → Int → Option (Bool)
  | 0, _, _, _ => none
  | k + 1, x0, x1, x5 => if x5 < (x0.length : Int) then (if 0 ≤ x5 then (if x5 < (x1.length : Int) then (if (strOfNums (rd_L1 x0 x5)).toList = (strOfNums (rd_L1 x1 x5)).toList then (rosetteref03_Same.l0 k x0 x1 (wrap64 (x5 + 1))) else (some false)) else (none)) else (none)) else (some true)
def rosetteref03_Same.f (k : Nat) (l0 : List (List Int)) (l1 : List (List Int)) : Option (Bool) := if (l0.length : Int) = (l1.length : Int) then (rosetteref03_Same.l0 k l0 l1 0) else (some false)
theorem rosetteref03_Same.mono_l : ∀ k, (∀ y0 y1 y2, LeO (rosetteref03_Same.l0 k y0 y1 y2) (rosetteref03_Same.l0 (k + 1) y0 y1 y2))
  | 0 => fun _ _ _ r h => by simp [rosetteref03_Same.l0] at h
  | k + 1 => by
    have ih0 := rosetteref03_Same.mono_l k
    · intro y0 y1 y2
      unfold rosetteref03_Same.l0
      repeat' first
      | (with_reducible exact ih0 _ _ _)
      | (with_reducible exact LeO.refl _)
      | (with_reducible exact LeO.none _)
      | (with_reducible refine LeO.ite ?_ ?_)
      | (with_reducible refine LeO.bind ?_ (fun _ => ?_))
      | exact ih0 _ _ _
      | exact LeO.none _
      | refine LeO.ite ?_ ?_
      | refine LeO.bind ?_ (fun _ => ?_)
theorem rosetteref03_Same.mono : ∀ a0 a1 k, LeO (rosetteref03_Same.f k a0 a1) (rosetteref03_Same.f (k + 1) a0 a1) := by
  intro a0 a1 k
  have ih0 := rosetteref03_Same.mono_l k
  unfold rosetteref03_Same.f
  repeat' first
      | (with_reducible exact ih0 _ _ _)
      | (with_reducible exact LeO.refl _)
      | (with_reducible exact LeO.none _)
      | (with_reducible refine LeO.ite ?_ ?_)
      | (with_reducible refine LeO.bind ?_ (fun _ => ?_))
      | exact ih0 _ _ _
      | exact LeO.none _
      | refine LeO.ite ?_ ?_
      | refine LeO.bind ?_ (fun _ => ?_)
set_option maxHeartbeats 8000000 in
set_option maxRecDepth 100000 in
theorem rosetteref03_Same.calls (k : Nat) (A0 : Option Addr) (c0 : Nat) (l0 : List (List Int)) (A1 : Option Addr) (c1 : Nat) (l1 : List (List Int)) (r : Bool) (w : World) (hr0 : Kd.C (Kd.slice 5 (Kd.int .u8)) w A0 l0.length l0) (hc0 : l0.length ≤ c0) (hr1 : Kd.C (Kd.slice 5 (Kd.int .u8)) w A1 l1.length l1) (hc1 : l1.length ≤ c1) (h : rosetteref03_Same.f k l0 l1 = some r) :
    Calls Try.prog 15 #[.slice A0 l0.length c0, .slice A1 l1.length c1] w fun e w' => e = .returned (.bool r) ∧ Drawn0 w w' := by
  have HR0 := Aside0.mk hr0
  have HC0 := Aside0.mk hc0
  clear hr0 hc0
  have HR1 := Aside0.mk hr1
  have HC1 := Aside0.mk hc1
  clear hr1 hc1
  have H : (if (l0.length : Int) = (l1.length : Int) then (rosetteref03_Same.l0 k l0 l1 0) else (some false)) = some r := h
  clear h
  by_cases c3 : (l0.length : Int) = (l1.length : Int)
  · rw [if_pos c3] at H
    have c3b0 : ((l0.length : Int) == (l1.length : Int)) = true := beq_iff_eq.mpr c3
    have c3b1 : ((l0.length : Int) != (l1.length : Int)) = false := bne_eq_false_iff_eq.mpr c3
    have c3b2 : (l0.length == l1.length) = true := by first | simpa using c3 | (simp at c3 ⊢; omega)
    clear c3
    have H' := Aside0.mk H
    clear H
    go_enter Try.func15, Try.ntmps15
    go_wp2
    repeat (go_quiet (fail); try go_wp2)
    go_loopg [5] k (fun kq v5 w' => ∃ (x5_1 : Int), v5 = .int .i64 x5_1 ∧ Aside0 (rosetteref03_Same.l0 kq l0 l1 x5_1 = some r) ∧ Aside0 (kq ≤ k) ∧ Drawn0 w w')
    case atStart => exact ⟨(0), (by first | rfl | (simp; done) | (simp [*]; done)), H', ⟨Nat.le_refl _⟩, by repeat (first | exact Drawn0.refl _ | apply Drawn0.step)⟩
    case round =>
      clear H'
      try clear c1
      try clear p2
      try clear c3
      try clear c3b0
      try clear c3b1
      try clear c3b2
      obtain ⟨x5_1, rfl, HA, HK1, ⟨m1, rfl⟩⟩ := hrel
      cases gk with
      | zero => exact absurd HA.out (by simp [rosetteref03_Same.l0])
      | succ k1 =>
        have H := HA.out
        clear HA
        simp only [rosetteref03_Same.l0] at H
        by_cases c4 : x5_1 < (l0.length : Int)
        · rw [if_pos c4] at H
          have c4b0 : decide (x5_1 < (l0.length : Int)) = true := decide_eq_true c4
          clear c4
          by_cases c5 : 0 ≤ x5_1
          · rw [if_pos c5] at H
            have c5b0 : decide (0 ≤ x5_1) = true := decide_eq_true c5
            clear c5
            by_cases c6 : x5_1 < (l1.length : Int)
            · rw [if_pos c6] at H
              have c6b0 : decide (x5_1 < (l1.length : Int)) = true := decide_eq_true c6
              clear c6
              by_cases c7 : (strOfNums (rd_L1 l0 x5_1)).toList = (strOfNums (rd_L1 l1 x5_1)).toList
              · rw [if_pos c7] at H
                have c7b0 : ((strOfNums (rd_L1 l0 x5_1)).toList == (strOfNums (rd_L1 l1 x5_1)).toList) = true := beq_iff_eq.mpr c7
                have c7b1 : ((strOfNums (rd_L1 l0 x5_1)).toList != (strOfNums (rd_L1 l1 x5_1)).toList) = false := bne_eq_false_iff_eq.mpr c7
                clear c7
                have H' := Aside0.mk H
                clear H
                have p117 : 0 ≤ (x5_1 : Int) := of_decide_eq_true (by first | (with_reducible assumption) | assumption)
                have q117 : x5_1 < (l0.length : Int) := of_decide_eq_true (by first | (with_reducible assumption) | assumption)
                obtain ⟨ad117, A117_0, c117_0, e117, hx117_0, hl117_0, hi117_0⟩ := at_L1 HR0.out x5_1 p117 q117
                cases e117
                have HR117_0 := Aside0.mk hi117_0
                have HC117_0 := Aside0.mk hl117_0
                clear hi117_0 hl117_0
                replace p117 := eq_true p117
                replace q117 := eq_true q117
                have hcv8 := Kd.C_string (P := Try.prog) (A := A117_0) (c := c117_0) Try.underlying22 Try.underlying5 Try.underlying9 HR117_0.out
                have hcw9 := fun (m_ : Nat) => Kd.C_string (P := Try.prog) (A := A117_0) (c := c117_0) Try.underlying22 Try.underlying5 Try.underlying9 (Kd.C_drewN HR117_0.out m_)
                have p118 : 0 ≤ (x5_1 : Int) := of_decide_eq_true (by first | (with_reducible assumption) | assumption)
                have q118 : x5_1 < (l1.length : Int) := of_decide_eq_true (by first | (with_reducible assumption) | assumption)
                obtain ⟨ad118, A118_0, c118_0, e118, hx118_0, hl118_0, hi118_0⟩ := at_L1 HR1.out x5_1 p118 q118
                cases e118
                have HR118_0 := Aside0.mk hi118_0
                have HC118_0 := Aside0.mk hl118_0
                clear hi118_0 hl118_0
                replace p118 := eq_true p118
                replace q118 := eq_true q118
                have hcv10 := Kd.C_string (P := Try.prog) (A := A118_0) (c := c118_0) Try.underlying22 Try.underlying5 Try.underlying9 HR118_0.out
                have hcw11 := fun (m_ : Nat) => Kd.C_string (P := Try.prog) (A := A118_0) (c := c118_0) Try.underlying22 Try.underlying5 Try.underlying9 (Kd.C_drewN HR118_0.out m_)
                go_wp2
                repeat (go_quiet (fail); try go_wp2)
                go_roundg k1
                case measure => have := HK1.out; omega
                case rel => exact ⟨(wrap64 (x5_1 + 1)), (by first | rfl | (simp; done) | (simp [*]; done)), H', ⟨by have := HK1.out; omega⟩, by repeat (first | exact Drawn0.refl _ | apply Drawn0.step)⟩
              · rw [if_neg c7] at H
                have c7b0 : ((strOfNums (rd_L1 l0 x5_1)).toList == (strOfNums (rd_L1 l1 x5_1)).toList) = false := beq_eq_false_iff_ne.mpr c7
                have c7b1 : ((strOfNums (rd_L1 l0 x5_1)).toList != (strOfNums (rd_L1 l1 x5_1)).toList) = true := bne_iff_ne.mpr c7
                obtain rfl := Option.some.inj H
                have p117 : 0 ≤ (x5_1 : Int) := of_decide_eq_true (by first | (with_reducible assumption) | assumption)
                have q117 : x5_1 < (l0.length : Int) := of_decide_eq_true (by first | (with_reducible assumption) | assumption)
                obtain ⟨ad117, A117_0, c117_0, e117, hx117_0, hl117_0, hi117_0⟩ := at_L1 HR0.out x5_1 p117 q117
                cases e117
                have HR117_0 := Aside0.mk hi117_0
                have HC117_0 := Aside0.mk hl117_0
                clear hi117_0 hl117_0
                replace p117 := eq_true p117
                replace q117 := eq_true q117
                have hcv12 := Kd.C_string (P := Try.prog) (A := A117_0) (c := c117_0) Try.underlying22 Try.underlying5 Try.underlying9 HR117_0.out
                have hcw13 := fun (m_ : Nat) => Kd.C_string (P := Try.prog) (A := A117_0) (c := c117_0) Try.underlying22 Try.underlying5 Try.underlying9 (Kd.C_drewN HR117_0.out m_)
                have p118 : 0 ≤ (x5_1 : Int) := of_decide_eq_true (by first | (with_reducible assumption) | assumption)
                have q118 : x5_1 < (l1.length : Int) := of_decide_eq_true (by first | (with_reducible assumption) | assumption)
                obtain ⟨ad118, A118_0, c118_0, e118, hx118_0, hl118_0, hi118_0⟩ := at_L1 HR1.out x5_1 p118 q118
                cases e118
                have HR118_0 := Aside0.mk hi118_0
                have HC118_0 := Aside0.mk hl118_0
                clear hi118_0 hl118_0
                replace p118 := eq_true p118
                replace q118 := eq_true q118
                have hcv14 := Kd.C_string (P := Try.prog) (A := A118_0) (c := c118_0) Try.underlying22 Try.underlying5 Try.underlying9 HR118_0.out
                have hcw15 := fun (m_ : Nat) => Kd.C_string (P := Try.prog) (A := A118_0) (c := c118_0) Try.underlying22 Try.underlying5 Try.underlying9 (Kd.C_drewN HR118_0.out m_)
                go_wp2
                repeat (go_quiet (fail); try go_wp2)
                go_ret
                exact ⟨by first | rfl | (simp; done) | (simp [*]; done), by repeat (first | exact Drawn0.refl _ | apply Drawn0.step)⟩
            · rw [if_neg c6] at H
              exact absurd H (by simp)
          · rw [if_neg c5] at H
            exact absurd H (by simp)
        · rw [if_neg c4] at H
          have c4b0 : decide (x5_1 < (l0.length : Int)) = false := decide_eq_false c4
          clear c4
          obtain rfl := Option.some.inj H
          go_wp2
          repeat (go_quiet (fail); try go_wp2)
          go_ret
          exact ⟨by first | rfl | (simp; done) | (simp [*]; done), by repeat (first | exact Drawn0.refl _ | apply Drawn0.step)⟩
  · rw [if_neg c3] at H
    have c3b0 : ((l0.length : Int) == (l1.length : Int)) = false := beq_eq_false_iff_ne.mpr c3
    have c3b1 : ((l0.length : Int) != (l1.length : Int)) = true := bne_iff_ne.mpr c3
    have c3b2 : (l0.length == l1.length) = false := by first | simpa using c3 | (simp at c3 ⊢; omega)
    obtain rfl := Option.some.inj H
    go_enter Try.func15, Try.ntmps15
    go_wp2
    repeat (go_quiet (fail); try go_wp2)
    go_ret
    exact ⟨by first | rfl | (simp; done) | (simp [*]; done), by repeat (first | exact Drawn0.refl _ | apply Drawn0.step)⟩

end Go.Proofs.Ytckjmbpagippkaa.G
end

section
-- Written by a program of this session (wip/tools/myprint.py), over the kit's print.
namespace Go.Proofs.Ytckjmbpagippkaa.G
open Go.RowKit Go.Proofs.YtckjmbpagippkaaW.PrintWords Go.Proofs.YtckjmbpagippkaaW.PrintLast Go.Proofs.YtckjmbpagippkaaW.PrintMore
attribute [local go_sem] max2_int min2_int max_two min_two max_three min_three max_four min_four   -- for this text's walks alone
set_option linter.unusedVariables false
set_option linter.unusedSimpArgs false

/-! ### rosetteref01_Low: function 16 -/
def rosetteref01_Low.f (a0 : Int) : Option (List Int) := some (([(a0) % 256, ((Int.tdiv a0 256) % 4294967296) % 256, ((Int.tdiv a0 65536) % 4294967296) % 256, ((Int.tdiv a0 16777216) % 4294967296) % 256] : List Int))
set_option maxHeartbeats 8000000 in
set_option maxRecDepth 100000 in
theorem rosetteref01_Low.calls (a0 : Int) (r : List Int) (w : World) (h : rosetteref01_Low.f a0 = some r) :
    Calls Try.prog 16 #[.int .u32 a0] w fun e w' => ∃ v0_ : Value, e = .returned (v0_) ∧ Kd.R (Kd.int .u8) 5 w' w.heap.size (fun _ => True) v0_ r ∧ Below w.heap.size w w' := by
  have HB := Aside0.mk (Below.refl w.heap.size w)
  have H : (some (([(a0) % 256, ((Int.tdiv a0 256) % 4294967296) % 256, ((Int.tdiv a0 65536) % 4294967296) % 256, ((Int.tdiv a0 16777216) % 4294967296) % 256] : List Int))) = some r := h
  clear h
  obtain ⟨y119, hy119⟩ : ∃ y_ : List Int, y_ = (([(a0) % 256, ((Int.tdiv a0 256) % 4294967296) % 256, ((Int.tdiv a0 65536) % 4294967296) % 256, ((Int.tdiv a0 16777216) % 4294967296) % 256] : List Int)) := ⟨_, rfl⟩
  replace H : (some y119) = some r := by first | (rw [hy119]; with_reducible exact H) | (have H2_ := (Option.bind_some _ _).symm.trans H; rw [hy119]; with_reducible exact H2_) | (have H2_ := (Option.bind_some _ _).symm.trans H; with_reducible exact H2_) | with_reducible exact H | (rw [hy119]; exact H) | exact H
  have Ny119 := Aside0.mk hy119
  clear hy119
  obtain rfl := Option.some.inj H
  go_enter Try.func16, Try.ntmps16
  go_wp2_with (first | ((with_reducible refine gate_dst (N := 14) rfl ?_); refine Kd.R_lit (Kd.int .u8) _ 5 ?hg (N := 14) ?hd (xs := ([(a0) % 256, ((Int.tdiv a0 256) % 4294967296) % 256, ((Int.tdiv a0 65536) % 4294967296) % 256, ((Int.tdiv a0 16777216) % 4294967296) % 256] : List Int)) (inner := [.int .u8 ((a0) % 256), .int .u8 (((Int.tdiv a0 256) % 4294967296) % 256), .int .u8 (((Int.tdiv a0 65536) % 4294967296) % 256), .int .u8 (((Int.tdiv a0 16777216) % 4294967296) % 256)]) (ok := fun _ => True) (okp := fun _ => True) ?hr ?hp (fun _ hk => hk) trivial (Below.refl _ _) (Nat.le_refl _) (by simp) ?_; (case hd => rfl); (case hg => rfl); (case hr => first | (go_simp; done) | (go_simp; rfl)); (case hp => exact (Reps.one (show Kd.M (Kd.int .u8) _ _ _ ((a0) % 256) [.int .u8 ((a0) % 256)] from rfl) (Reps.one (show Kd.M (Kd.int .u8) _ _ _ (((Int.tdiv a0 256) % 4294967296) % 256) [.int .u8 (((Int.tdiv a0 256) % 4294967296) % 256)] from rfl) (Reps.one (show Kd.M (Kd.int .u8) _ _ _ (((Int.tdiv a0 65536) % 4294967296) % 256) [.int .u8 (((Int.tdiv a0 65536) % 4294967296) % 256)] from rfl) (Reps.one (show Kd.M (Kd.int .u8) _ _ _ (((Int.tdiv a0 16777216) % 4294967296) % 256) [.int .u8 (((Int.tdiv a0 16777216) % 4294967296) % 256)] from rfl) (Reps.none _ _)))))); intro v120 w2 ho3 hb hg_ hnew_; clear hg_ hnew_; (first | rw [← Ny119.out] at ho3 | (simp only [Int.reduceToNat] at ho3; rw [← Ny119.out] at ho3)); have n0_ := Aside0.mk (Kd.R_lower ho3 (below_size (by repeat (first | (with_reducible first | exact HB.out | apply below_alloc | apply pw_below_drewN | apply below_drew1) | exact HB.out)))); have n1_ := Aside0.mk (below_step (by repeat (first | (with_reducible first | exact HB.out | apply below_alloc | apply pw_below_drewN | apply below_drew1) | exact HB.out)) hb); clear HB; have HO121 := n0_; have HB := n1_; clear n0_ n1_; clear hb ho3))
  go_ret
  exact ⟨_, by first | rfl | (simp [errW_none, errW_some] <;> rfl) | (simp [*, errW_none, errW_some] <;> rfl), by (with_reducible repeat (first | apply Kd.R_alloc | apply Kd.R_drewN | apply Kd.R_drew)); exact HO121.out, by repeat (first | (with_reducible first | exact HB.out | apply below_alloc | apply pw_below_drewN | apply below_drew1) | exact HB.out)⟩

end Go.Proofs.Ytckjmbpagippkaa.G
end

section
-- Written by a program of this session (wip/tools/myprint.py), over the kit's print.
namespace Go.Proofs.Ytckjmbpagippkaa.G
open Go.RowKit Go.Proofs.YtckjmbpagippkaaW.PrintWords Go.Proofs.YtckjmbpagippkaaW.PrintLast Go.Proofs.YtckjmbpagippkaaW.PrintMore
attribute [local go_sem] max2_int min2_int max_two min_two max_three min_three max_four min_four   -- for this text's walks alone
set_option linter.unusedVariables false
set_option linter.unusedSimpArgs false

/-! ### rosetteref01_turned: function 30 -/
def rosetteref01_turned.l0 : Nat → Int → Int → Option (Int)
  | 0, _, _ => none
  | k + 1, x0, x3 => if x3 < 8 then (if (Int.tmod x0 2) = 1 then (rosetteref01_turned.l0 k (Go.bits .xor .u32 ((Int.tdiv x0 2) % 4294967296) 3988292384) (wrap64 (x3 + 1))) else (rosetteref01_turned.l0 k ((Int.tdiv x0 2) % 4294967296) (wrap64 (x3 + 1)))) else (some x0)
def rosetteref01_turned.f (k : Nat) (a0 : Int) : Option (Int) := rosetteref01_turned.l0 k a0 0
theorem rosetteref01_turned.mono_l : ∀ k, (∀ y0 y1, LeO (rosetteref01_turned.l0 k y0 y1) (rosetteref01_turned.l0 (k + 1) y0 y1))
  | 0 => fun _ _ r h => by simp [rosetteref01_turned.l0] at h
  | k + 1 => by
    have ih0 := rosetteref01_turned.mono_l k
    · intro y0 y1
      unfold rosetteref01_turned.l0
      repeat' first
      | (with_reducible exact ih0 _ _)
      | (with_reducible exact LeO.refl _)
      | (with_reducible exact LeO.none _)
      | (with_reducible refine LeO.ite ?_ ?_)
      | (with_reducible refine LeO.bind ?_ (fun _ => ?_))
      | exact ih0 _ _
      | exact LeO.none _
      | refine LeO.ite ?_ ?_
      | refine LeO.bind ?_ (fun _ => ?_)
theorem rosetteref01_turned.mono : ∀ a0 k, LeO (rosetteref01_turned.f k a0) (rosetteref01_turned.f (k + 1) a0) := by
  intro a0 k
  have ih0 := rosetteref01_turned.mono_l k
  unfold rosetteref01_turned.f
  repeat' first
      | (with_reducible exact ih0 _ _)
      | (with_reducible exact LeO.refl _)
      | (with_reducible exact LeO.none _)
      | (with_reducible refine LeO.ite ?_ ?_)
      | (with_reducible refine LeO.bind ?_ (fun _ => ?_))
      | exact ih0 _ _
      | exact LeO.none _
      | refine LeO.ite ?_ ?_
      | refine LeO.bind ?_ (fun _ => ?_)
set_option maxHeartbeats 8000000 in
set_option maxRecDepth 100000 in
theorem rosetteref01_turned.calls (k : Nat) (a0 : Int) (r : Int) (w : World) (h : rosetteref01_turned.f k a0 = some r) :
    Calls Try.prog 30 #[.int .u32 a0] w fun e w' => e = .returned (.int .u32 r) ∧ Drawn0 w w' := by
  have H : (rosetteref01_turned.l0 k a0 0) = some r := h
  clear h
  have H' := Aside0.mk H
  clear H
  go_enter Try.func30, Try.ntmps30
  go_wp2
  go_loopg [0, 3] k (fun kq v0 v3 w' => ∃ (x0_1 : Int) (x3_1 : Int), v0 = .int .u32 x0_1 ∧ v3 = .int .i64 x3_1 ∧ Aside0 (rosetteref01_turned.l0 kq x0_1 x3_1 = some r) ∧ Aside0 (kq ≤ k) ∧ Drawn0 w w')
  case atStart => exact ⟨(a0), (0), (by first | rfl | (simp; done) | (simp [*]; done)), (by first | rfl | (simp; done) | (simp [*]; done)), H', ⟨Nat.le_refl _⟩, by repeat (first | exact Drawn0.refl _ | apply Drawn0.step)⟩
  case round =>
    clear H'
    obtain ⟨x0_1, x3_1, rfl, rfl, HA, HK1, ⟨m1, rfl⟩⟩ := hrel
    cases gk with
    | zero => exact absurd HA.out (by simp [rosetteref01_turned.l0])
    | succ k1 =>
      have H := HA.out
      clear HA
      simp only [rosetteref01_turned.l0] at H
      by_cases c2 : x3_1 < 8
      · rw [if_pos c2] at H
        have c2b0 : decide (x3_1 < 8) = true := decide_eq_true c2
        clear c2
        by_cases c3 : (Int.tmod x0_1 2) = 1
        · rw [if_pos c3] at H
          have c3b0 : ((Int.tmod x0_1 2) == 1) = true := beq_iff_eq.mpr c3
          have c3b1 : ((Int.tmod x0_1 2) != 1) = false := bne_eq_false_iff_eq.mpr c3
          clear c3
          have H' := Aside0.mk H
          clear H
          go_wp2
          go_roundg k1
          case measure => have := HK1.out; omega
          case rel => exact ⟨(Go.bits .xor .u32 ((Int.tdiv x0_1 2) % 4294967296) 3988292384), (wrap64 (x3_1 + 1)), (by first | rfl | (simp; done) | (simp [*]; done)), (by first | rfl | (simp; done) | (simp [*]; done)), H', ⟨by have := HK1.out; omega⟩, by repeat (first | exact Drawn0.refl _ | apply Drawn0.step)⟩
        · rw [if_neg c3] at H
          have c3b0 : ((Int.tmod x0_1 2) == 1) = false := beq_eq_false_iff_ne.mpr c3
          have c3b1 : ((Int.tmod x0_1 2) != 1) = true := bne_iff_ne.mpr c3
          have H' := Aside0.mk H
          clear H
          go_wp2
          go_roundg k1
          case measure => have := HK1.out; omega
          case rel => exact ⟨((Int.tdiv x0_1 2) % 4294967296), (wrap64 (x3_1 + 1)), (by first | rfl | (simp; done) | (simp [*]; done)), (by first | rfl | (simp; done) | (simp [*]; done)), H', ⟨by have := HK1.out; omega⟩, by repeat (first | exact Drawn0.refl _ | apply Drawn0.step)⟩
      · rw [if_neg c2] at H
        have c2b0 : decide (x3_1 < 8) = false := decide_eq_false c2
        clear c2
        obtain rfl := Option.some.inj H
        go_wp2
        go_ret
        exact ⟨by first | rfl | (simp; done) | (simp [*]; done), by repeat (first | exact Drawn0.refl _ | apply Drawn0.step)⟩

end Go.Proofs.Ytckjmbpagippkaa.G
end

section
-- Written by a program of this session (wip/tools/myprint.py), over the kit's print.
namespace Go.Proofs.Ytckjmbpagippkaa.G
open Go.RowKit Go.Proofs.YtckjmbpagippkaaW.PrintWords Go.Proofs.YtckjmbpagippkaaW.PrintLast Go.Proofs.YtckjmbpagippkaaW.PrintMore
attribute [local go_sem] max2_int min2_int max_two min_two max_three min_three max_four min_four   -- for this text's walks alone
set_option linter.unusedVariables false
set_option linter.unusedSimpArgs false

/-! ### rosetteref01_Add: function 24 -/
def rosetteref01_Add.l0 : Nat → List Int → Int → Int → Option (Int)
  | 0, _, _, _ => none
  | k + 1, x1, x5, x6 => if x6 < (x1.length : Int) then (if 0 ≤ x6 then ((rosetteref01_turned.f k (Go.bits .xor .u32 (Go.bits .and .u32 x5 255) ((rd x1 x6) % 4294967296))).bind fun t123 => (rosetteref01_Add.l0 k x1 (Go.bits .xor .u32 t123 ((Int.tdiv x5 256) % 4294967296)) (wrap64 (x6 + 1)))) else (none)) else (some (Go.bits .xor .u32 x5 4294967295))
def rosetteref01_Add.f (k : Nat) (a0 : Int) (l1 : List Int) : Option (Int) := rosetteref01_Add.l0 k l1 (Go.bits .xor .u32 a0 4294967295) 0
theorem rosetteref01_Add.mono_l : ∀ k, (∀ y0 y1 y2, LeO (rosetteref01_Add.l0 k y0 y1 y2) (rosetteref01_Add.l0 (k + 1) y0 y1 y2))
  | 0 => fun _ _ _ r h => by simp [rosetteref01_Add.l0] at h
  | k + 1 => by
    have ih0 := rosetteref01_Add.mono_l k
    · intro y0 y1 y2
      unfold rosetteref01_Add.l0
      repeat' first
      | (with_reducible exact ih0 _ _ _)
      | (with_reducible exact rosetteref01_turned.mono _ _)
      | (with_reducible exact LeO.refl _)
      | (with_reducible exact LeO.none _)
      | (with_reducible refine LeO.ite ?_ ?_)
      | (with_reducible refine LeO.bind ?_ (fun _ => ?_))
      | exact ih0 _ _ _
      | exact rosetteref01_turned.mono _ _
      | exact LeO.none _
      | refine LeO.ite ?_ ?_
      | refine LeO.bind ?_ (fun _ => ?_)
theorem rosetteref01_Add.mono : ∀ a0 a1 k, LeO (rosetteref01_Add.f k a0 a1) (rosetteref01_Add.f (k + 1) a0 a1) := by
  intro a0 a1 k
  have ih0 := rosetteref01_Add.mono_l k
  unfold rosetteref01_Add.f
  repeat' first
      | (with_reducible exact ih0 _ _ _)
      | (with_reducible exact rosetteref01_turned.mono _ _)
      | (with_reducible exact LeO.refl _)
      | (with_reducible exact LeO.none _)
      | (with_reducible refine LeO.ite ?_ ?_)
      | (with_reducible refine LeO.bind ?_ (fun _ => ?_))
      | exact ih0 _ _ _
      | exact rosetteref01_turned.mono _ _
      | exact LeO.none _
      | refine LeO.ite ?_ ?_
      | refine LeO.bind ?_ (fun _ => ?_)
set_option maxHeartbeats 8000000 in
set_option maxRecDepth 100000 in
theorem rosetteref01_Add.calls (k : Nat) (a0 : Int) (A1 : Option Addr) (c1 : Nat) (l1 : List Int) (r : Int) (w : World) (hr1 : Kd.C (Kd.int .u8) w A1 l1.length l1) (hc1 : l1.length ≤ c1) (h : rosetteref01_Add.f k a0 l1 = some r) :
    Calls Try.prog 24 #[.int .u32 a0, .slice A1 l1.length c1] w fun e w' => e = .returned (.int .u32 r) ∧ Drawn0 w w' := by
  have HR1 := Aside0.mk hr1
  have HC1 := Aside0.mk hc1
  clear hr1 hc1
  have H : (rosetteref01_Add.l0 k l1 (Go.bits .xor .u32 a0 4294967295) 0) = some r := h
  clear h
  have H' := Aside0.mk H
  clear H
  go_enter Try.func24, Try.ntmps24
  go_wp2
  go_loopg [5, 6] k (fun kq v5 v6 w' => ∃ (x5_1 : Int) (x6_1 : Int), v5 = .int .u32 x5_1 ∧ v6 = .int .i64 x6_1 ∧ Aside0 (rosetteref01_Add.l0 kq l1 x5_1 x6_1 = some r) ∧ Aside0 (kq ≤ k) ∧ Drawn0 w w')
  case atStart => exact ⟨(Go.bits .xor .u32 a0 4294967295), (0), (by first | rfl | (simp; done) | (simp [*]; done)), (by first | rfl | (simp; done) | (simp [*]; done)), H', ⟨Nat.le_refl _⟩, by repeat (first | exact Drawn0.refl _ | apply Drawn0.step)⟩
  case round =>
    clear H'
    try clear c1
    try clear c2
    try clear p2
    obtain ⟨x5_1, x6_1, rfl, rfl, HA, HK1, ⟨m1, rfl⟩⟩ := hrel
    cases gk with
    | zero => exact absurd HA.out (by simp [rosetteref01_Add.l0])
    | succ k1 =>
      have H := HA.out
      clear HA
      simp only [rosetteref01_Add.l0] at H
      by_cases c3 : x6_1 < (l1.length : Int)
      · rw [if_pos c3] at H
        have c3b0 : decide (x6_1 < (l1.length : Int)) = true := decide_eq_true c3
        clear c3
        by_cases c4 : 0 ≤ x6_1
        · rw [if_pos c4] at H
          have c4b0 : decide (0 ≤ x6_1) = true := decide_eq_true c4
          clear c4
          replace H := Option.bind_eq_some_iff.mp H
          obtain ⟨t123, A50, H⟩ := H
          replace H : (rosetteref01_Add.l0 k1 l1 (Go.bits .xor .u32 t123 ((Int.tdiv x5_1 256) % 4294967296)) (wrap64 (x6_1 + 1))) = some r := H
          have A5 := Aside0.mk A50
          clear A50
          have H' := Aside0.mk H
          clear H
          have p122 : 0 ≤ (x6_1 : Int) := of_decide_eq_true (by first | (with_reducible assumption) | assumption)
          have q122 : x6_1 < (l1.length : Int) := of_decide_eq_true (by first | (with_reducible assumption) | assumption)
          obtain ⟨ad122, e122, hx122_0⟩ := Kd.at_int HR1.out x6_1 p122 q122
          cases e122
          replace p122 := eq_true p122
          replace q122 := eq_true q122
          go_wp2_with (first | ((with_reducible refine gate_callee (f := 30) rfl ?_); refine goesL_ (some 23) rfl rfl Try.func30 (by kernel_rfl) rfl #[.int .u32 (Go.bits .xor .u32 (Go.bits .and .u32 x5_1 255) ((rd l1 x6_1) % 4294967296))] rfl (by (try simp only [List.map_toArray, List.map_cons, List.map_nil]); first | done | rfl | (simp only [List.length_drop, List.length_take]; rfl)) ?_; (with_reducible refine (rosetteref01_turned.calls k1 (Go.bits .xor .u32 (Go.bits .and .u32 x5_1 255) ((rd l1 x6_1) % 4294967296)) t123 _ A5.out).mono ?_); rintro e w' ⟨rfl, ⟨nd, rfl⟩⟩; refine ⟨_, rfl, ?_⟩))
          go_roundg k1
          case measure => have := HK1.out; omega
          case rel => exact ⟨(Go.bits .xor .u32 t123 ((Int.tdiv x5_1 256) % 4294967296)), (wrap64 (x6_1 + 1)), (by first | rfl | (simp; done) | (simp [*]; done)), (by first | rfl | (simp; done) | (simp [*]; done)), H', ⟨by have := HK1.out; omega⟩, by repeat (first | exact Drawn0.refl _ | apply Drawn0.step)⟩
        · rw [if_neg c4] at H
          exact absurd H (by simp)
      · rw [if_neg c3] at H
        have c3b0 : decide (x6_1 < (l1.length : Int)) = false := decide_eq_false c3
        clear c3
        obtain rfl := Option.some.inj H
        go_wp2
        go_ret
        exact ⟨by first | rfl | (simp; done) | (simp [*]; done), by repeat (first | exact Drawn0.refl _ | apply Drawn0.step)⟩

end Go.Proofs.Ytckjmbpagippkaa.G
end

section
-- Written by a program of this session (wip/tools/myprint.py), over the kit's print.
namespace Go.Proofs.Ytckjmbpagippkaa.G
open Go.RowKit Go.Proofs.YtckjmbpagippkaaW.PrintWords Go.Proofs.YtckjmbpagippkaaW.PrintLast Go.Proofs.YtckjmbpagippkaaW.PrintMore
attribute [local go_sem] max2_int min2_int max_two min_two max_three min_three max_four min_four   -- for this text's walks alone
set_option linter.unusedVariables false
set_option linter.unusedSimpArgs false

/-! ### rosetteref01_Sum: function 17 -/
def rosetteref01_Sum.f (k : Nat) (l0 : List Int) : Option (Int) := (rosetteref01_Add.f k 0 l0).bind fun t124 => (some t124)
theorem rosetteref01_Sum.mono : ∀ a0 k, LeO (rosetteref01_Sum.f k a0) (rosetteref01_Sum.f (k + 1) a0) := by
  intro a0 k
  unfold rosetteref01_Sum.f
  repeat' first
      | (with_reducible exact rosetteref01_Add.mono _ _ _)
      | (with_reducible exact LeO.refl _)
      | (with_reducible exact LeO.none _)
      | (with_reducible refine LeO.ite ?_ ?_)
      | (with_reducible refine LeO.bind ?_ (fun _ => ?_))
      | exact rosetteref01_Add.mono _ _ _
      | exact LeO.none _
      | refine LeO.ite ?_ ?_
      | refine LeO.bind ?_ (fun _ => ?_)
set_option maxHeartbeats 8000000 in
set_option maxRecDepth 100000 in
theorem rosetteref01_Sum.calls (k : Nat) (A0 : Option Addr) (c0 : Nat) (l0 : List Int) (r : Int) (w : World) (hr0 : Kd.C (Kd.int .u8) w A0 l0.length l0) (hc0 : l0.length ≤ c0) (h : rosetteref01_Sum.f k l0 = some r) :
    Calls Try.prog 17 #[.slice A0 l0.length c0] w fun e w' => e = .returned (.int .u32 r) ∧ Drawn0 w w' := by
  have HR0 := Aside0.mk hr0
  have HC0 := Aside0.mk hc0
  clear hr0 hc0
  have H : ((rosetteref01_Add.f k 0 l0).bind fun t124 => (some t124)) = some r := h
  clear h
  replace H := Option.bind_eq_some_iff.mp H
  obtain ⟨t124, A20, H⟩ := H
  replace H : (some t124) = some r := H
  have A2 := Aside0.mk A20
  clear A20
  obtain rfl := Option.some.inj H
  go_enter Try.func17, Try.ntmps17
  go_wp2_with (first | ((with_reducible refine gate_callee (f := 24) rfl ?_); refine goesL_ (some 4) rfl rfl Try.func24 (by kernel_rfl) rfl #[.int .u32 0, .slice A0 l0.length c0] rfl (by (try simp only [List.map_toArray, List.map_cons, List.map_nil]); first | done | rfl | (simp only [List.length_drop, List.length_take]; rfl)) ?_; (with_reducible refine (rosetteref01_Add.calls k 0 _ _ l0 t124 _ ?side1 ?side2 A2.out).mono ?_); (case side1 => repeat (first | exact HR0.out | (with_reducible refine Kd.C_alloc ?_ _) | (with_reducible refine Kd.C_drewN ?_ _) | (with_reducible refine Kd.C_drew ?_))); (case side2 => exact HC0.out); rintro e w' ⟨rfl, ⟨nd, rfl⟩⟩; refine ⟨_, rfl, ?_⟩))
  go_ret
  exact ⟨by first | rfl | (simp; done) | (simp [*]; done), by repeat (first | exact Drawn0.refl _ | apply Drawn0.step)⟩

end Go.Proofs.Ytckjmbpagippkaa.G
end

section
/- the small case of the frame's laws, walked -/
set_option linter.unusedVariables false
set_option linter.unusedSimpArgs false
set_option autoImplicit false
namespace Go.Proofs.Ytckjmbpagippkaa
open Go.RowKit Go.Proofs.YtckjmbpagippkaaW.PrintWords Go.Proofs.YtckjmbpagippkaaW.PrintLast Go.Proofs.YtckjmbpagippkaaW.PrintMore Go.Proofs.Ytckjmbpagippkaa.G Go.Proofs.Ytckjmbpagippkaa.Pure

def FA : List Int := [2, 0, 125, 112, 239, 115, 97, 98, 109, 72, 131, 158]
def FZ : List Int := [0, 0, 255, 18, 217, 65, 0, 0, 0, 0]
theorem sm1 : frame_Make.f [97, 98] = some (FA, 0) := by decide +kernel
theorem sm2 : frame_Make.f [] = some (FZ, 0) := by decide +kernel
theorem sm3 : frame_Next.f (FA ++ [9]) = some ([97, 98], 12, 0) := by decide +kernel
theorem sm4 : frame_Next.f (FA.take 11) = some ([], 0, 2) := by decide +kernel
theorem sm5 : frame_Next.f ((FA ++ FZ).drop 0) = some ([97, 98], 12, 0) := by decide +kernel
theorem sm6 : frame_Next.f ((FA ++ FZ).drop 12) = some ([], 10, 0) := by decide +kernel
theorem sm7 : frame_Next.f ((FA ++ [9]).drop 0) = some ([97, 98], 12, 0) := by decide +kernel
theorem sm8 : frame_Next.f ((FA ++ [9]).drop 12) = some ([], 0, 2) := by decide +kernel
theorem sm9 : rosetteref01_Sum.f 20 [0, 0] = some 1104745215 := by decide +kernel
theorem sm10 : rosetteref01_Low.f 1104745215 = some [255, 18, 217, 65] := by decide +kernel
theorem sm11 : strOfNums FZ = (⟨#[0, 0]⟩ ++ strOfNums [255, 18, 217, 65]) ++ ⟨#[0, 0, 0, 0]⟩ := by decide +kernel
theorem run_one {xs : List It} {er : Int} (h : Runs (FA ++ FZ) 0 xs er) : ∃ v1 v2, xs = [⟨12, v1, [97, 98]⟩, ⟨22, v2, []⟩] ∧ er = 0 := by
  cases h with
  | stop h => exact absurd h (by decide)
  | fail h1 h2 h3 => rw [sm5] at h2; cases h2; exact absurd rfl h3
  | step h1 h2 h3 =>
    rw [sm5] at h2
    simp only [Option.some.injEq, Prod.mk.injEq] at h2
    obtain ⟨rfl, rfl, _⟩ := h2
    cases h3 with
    | stop h => exact absurd h (by decide)
    | fail g1 g2 g3 => rw [show 0 + (12 : Int).toNat = 12 from rfl, sm6] at g2; cases g2; exact absurd rfl g3
    | step g1 g2 g3 =>
      rw [show 0 + (12 : Int).toNat = 12 from rfl, sm6] at g2
      simp only [Option.some.injEq, Prod.mk.injEq] at g2
      obtain ⟨rfl, rfl, _⟩ := g2
      cases g3 with
      | stop h => exact ⟨_, _, rfl, rfl⟩
      | fail k1 k2 k3 => exact absurd k1 (by decide)
      | step k1 k2 k3 => exact absurd k1 (by decide)
theorem run_two {xs : List It} {er : Int} (h : Runs (FA ++ [9]) 0 xs er) : ∃ v1, xs = [⟨12, v1, [97, 98]⟩] ∧ er = 2 := by
  cases h with
  | stop h => exact absurd h (by decide)
  | fail h1 h2 h3 => rw [sm7] at h2; cases h2; exact absurd rfl h3
  | step h1 h2 h3 =>
    rw [sm7] at h2
    simp only [Option.some.injEq, Prod.mk.injEq] at h2
    obtain ⟨rfl, rfl, _⟩ := h2
    cases h3 with
    | stop h => exact absurd h (by decide)
    | fail g1 g2 g3 =>
      rw [show 0 + (12 : Int).toNat = 12 from rfl, sm8] at g2
      simp only [Option.some.injEq, Prod.mk.injEq] at g2
      exact ⟨_, rfl, g2.2.2.symm⟩
    | step g1 g2 g3 =>
      rw [show 0 + (12 : Int).toNat = 12 from rfl, sm8] at g2
      cases g2
theorem conv_b (W : World) (C : Array Value) (n c : Nat) : (convert 22 22 (.slice (some ⟨W.heap.size, 0, none⟩) n c)).run Try.prog (W.alloc (.cells C 5)) = .ok (.slice (some ⟨W.heap.size, 0, none⟩) n c) (W.alloc (.cells C 5 (C.size, C.size + 1))) := Lib.run_convert_bytes_const W 22 5 C n c Try.underlying22 Try.underlying5
theorem own_empty (W : World) : (W.alloc (.cells #[] 5)).ownsRow W.heap.size 5 1 (.slice (some ⟨W.heap.size, 0, none⟩) 0 0) ([] : List Int).length (nums .u8 []) :=
  ⟨by simp [nums], .inr ⟨W.heap.size, 0, #[], rfl, Nat.le_refl _, heap_alloc_new W _, by simp, by simp [maxLen], by simp, by simp [nums]⟩⟩
theorem below_via2 {w W W' : World} (h0 : Below w.heap.size w W) (h : Below W.heap.size W W') : Below w.heap.size w W' := h0.trans (h.mono h0.size)
theorem low_conv {W : World} {base : Nat} {v : Value} {sl : ByteArray} (h : (Kd.int .u8).R 5 W base (fun _ => True) v [255, 18, 217, 65]) (hs : sl = strOfNums [255, 18, 217, 65]) : ∃ A c, v = .slice A 4 c ∧ (convert 22 9 (.slice A 4 c)).run Try.prog W = .ok (.string sl) W := by
  obtain ⟨A, c, rfl, _, hC⟩ := own_C h
  rw [hs]
  exact ⟨A, c, rfl, Kd.C_string (P := Try.prog) (A := A) (c := c) Try.underlying22 Try.underlying5 Try.underlying9 hC⟩
theorem row_lit (W : World) : RowS ((W.alloc (.cells #[.int .u8 97, .int .u8 98] 5 (2, 3))).alloc (.cells #[.slice (some ⟨W.heap.size, 0, none⟩) 2 2, .slice none 0 0] 22)) (some ⟨W.heap.size + 1, 0, none⟩) 2 (fun i => [[97, 98], []].getD i []) := by
  have h1 : (W.alloc (.cells #[.int .u8 97, .int .u8 98] 5 (2, 3))).heap.size = W.heap.size + 1 := by simp
  have h2 := heap_alloc_new (W.alloc (.cells #[.int .u8 97, .int .u8 98] 5 (2, 3))) (.cells #[.slice (some ⟨W.heap.size, 0, none⟩) 2 2, .slice none 0 0] 22)
  rw [h1] at h2
  intro i hi
  have hadd : (⟨W.heap.size + 1, 0, none⟩ : Addr).add i = ⟨W.heap.size + 1, i, none⟩ := add_plain _ _
  match i, hi with
  | 0, _ => exact ⟨_, some ⟨W.heap.size, 0, none⟩, 2, rfl, by rw [hadd, cell_of_row _ _ _ _ _ _ h2]; rfl, Kd.C_alloc (lit_C W 5 .u8 [97, 98] (by decide) (2, 3)) _⟩
  | 1, _ => exact ⟨_, none, 0, rfl, by rw [hadd, cell_of_row _ _ _ _ _ _ h2]; rfl, nil_C _ .u8⟩
theorem held_take {w : World} {S : Nat → Prop} {A : Option Addr} {l : List Int} (h : HeldB w S A l) (k : Nat) : HeldB w S A (l.take k) := by
  intro h0
  rw [List.length_take] at h0
  obtain ⟨ad', e1, e2, e3⟩ := h (by omega)
  refine ⟨ad', e1, e2, fun j hj => ?_⟩
  rw [List.length_take] at hj
  have e4 := e3 j (by omega)
  rw [e4]
  congr 2
  have e7 : ((j : Nat) : Int).toNat = j := by omega
  simp only [rd, List.getD_eq_getElem?_getD, e7, List.getElem?_take, show j < k by omega, if_true]
set_option maxRecDepth 100000 in
set_option maxHeartbeats 4000000 in
theorem small_any (w : World) : Calls Try.prog 8 #[] w fun e w' => e = .returned (.bool true) ∧ Below w.heap.size w w' := by
  have hcv := conv_b
  obtain ⟨F, hF⟩ : ∃ F, F = FA := ⟨_, rfl⟩
  obtain ⟨Z, hZ⟩ : ∃ Z, Z = FZ := ⟨_, rfl⟩
  have hFl : F.length = 12 := by rw [hF]; rfl
  have hZl : Z.length = 10 := by rw [hZ]; rfl
  have EF := Aside0.mk hF
  have EZ := Aside0.mk hZ
  have LF := Aside0.mk hFl
  have LZ := Aside0.mk hZl
  obtain ⟨sl, hsl⟩ : ∃ s, s = strOfNums [255, 18, 217, 65] := ⟨_, rfl⟩
  have SL := Aside0.mk hsl
  have hsz : sl.size = 4 := by rw [hsl]; rfl
  clear hsl
  clear hF hZ hFl hZl
  go_enter Try.func8, Try.ntmps8
  go_wp2_with fail
  refine (frame_Make.calls _ _ [97, 98] F 0 _ (lit_C w 5 .u8 [97, 98] (by decide) _) (Nat.le_refl _) (by rw [EF.out]; exact sm1)).mono ?_
  rintro e w1 ⟨v1, rfl, hR, hX⟩
  obtain ⟨Aa, na, rfl, hna, _, hH, _⟩ := held_own hR
  have HB1 : Aside0 (Below w.heap.size w w1) := ⟨((Below.refl _ _).alloc (Nat.le_refl _) _).trans (hX.mono (by simp))⟩
  have HA1 := Aside0.mk (hH.mono (S' := fun _ => True) (fun _ _ => trivial))
  clear hR hX hH
  go_wp2_with fail
  refine (frame_Make.calls none 0 [] Z 0 _ (nil_C _ .u8) (Nat.le_refl _) (by rw [EZ.out]; exact sm2)).mono ?_
  rintro e w2 ⟨v2, rfl, hR, hX⟩
  obtain ⟨Az, nz, rfl, hnz, _, hH, _⟩ := held_own hR
  have HB2 := Aside0.mk (below_via hX HB1.out)
  have HA2 := Aside0.mk (HA1.out.below hX)
  have HZ2 := Aside0.mk (hH.mono (S' := fun _ => True) (fun _ _ => trivial))
  clear hR hX hH HB1 HA1
  have b2 := Aside0.mk ((Below.refl w2.heap.size w2).alloc (Nat.le_refl _) (.cells #[] 5))
  go_wp2_with (first
    | (at_builtin; refine print_append_row (w0 := w2) w2.heap.size rfl (.tmp 28) (.tmp 29) 22 5 .u8 1 rfl Try.underlying22 info_b8 (by decide) (.slice (some ⟨w2.heap.size, 0, none⟩) 0 0) [] F Aa F.length na rfl rfl (own_empty w2) (Kd.reads_of_C (d := (0 : Int)) ((HA2.out.below b2.out).C (by have := LF.out; omega))) b2.out (by simp) (by have := LF.out; simp; omega) ?_; intro v3 w3 ho3 hB3 _ _; rw [List.nil_append] at ho3; obtain ⟨A3, n3, rfl, _, _⟩ := own_C (kd_R ho3))
    | (at_builtin; refine print_append_num (w0 := w2) w2.heap.size rfl (.tmp 30) (.tmp 31) 22 5 .u8 1 rfl Try.underlying22 info_b8 (by decide) (.slice A3 F.length n3) F 9 rfl rfl ho3 hB3 (by have := hB3.size; omega) (by have := LF.out; omega) ?_; intro v4 w4 ho4 hB4 _ _; obtain ⟨A4, n4, rfl, hn4, _, hH4, hC4⟩ := held_own (kd_R ho4)))
  refine (next_n A4 (F.length + 1) n4 (F ++ [9]) [97, 98] 12 0 w4 (by simp) (hH4.mono (fun _ _ => trivial)) (by have := LF.out; simp; omega) (by simpa using hn4) (by rw [EF.out]; exact sm3)).mono ?_
  rintro e w5 ⟨Ax, nx, rfl, hnx, hnx', hX, hB⟩
  have HB5 := Aside0.mk (below_via (hB4.trans (hB.mono hB4.size)) HB2.out)
  have HA5 := Aside0.mk ((HA2.out.below hB4).below hB)
  have HZ5 := Aside0.mk ((HZ2.out.below hB4).below hB)
  have HX5 := Aside0.mk (hX.mono (S' := fun _ => True) (fun _ _ => trivial))
  have b5 := Aside0.mk ((Below.refl w5.heap.size w5).alloc (Nat.le_refl _) (.cells #[] 5))
  clear hB hX hB4 ho4 hB3 ho3 hH4 hC4 b2 HB2 HA2 HZ2
  go_wp2_with (first
    | (at_builtin; refine print_append_row (w0 := w5) w5.heap.size rfl (.tmp 38) (.tmp 39) 22 5 .u8 1 rfl Try.underlying22 info_b8 (by decide) (.slice (some ⟨w5.heap.size, 0, none⟩) 0 0) [] F Aa F.length na rfl rfl (own_empty w5) (Kd.reads_of_C (d := (0 : Int)) ((HA5.out.below b5.out).C (by have := LF.out; omega))) b5.out (by simp) (by have := LF.out; simp; omega) ?_; intro v6 w6 ho6 hB6 _ _; rw [List.nil_append] at ho6; have HZ6 := HZ5.out.below hB6; obtain ⟨A6, n6, rfl, _, _⟩ := own_C (kd_R ho6))
    | (at_builtin; refine print_append_row (w0 := w5) w5.heap.size rfl (.tmp 40) (.tmp 41) 22 5 .u8 1 rfl Try.underlying22 info_b8 (by decide) (.slice A6 F.length n6) F Z Az Z.length nz rfl rfl ho6 (Kd.reads_of_C (d := (0 : Int)) (HZ6.C (by have := LZ.out; omega))) hB6 hB6.size (by have := LF.out; have := LZ.out; omega) ?_; intro v7 w7 ho7 hB7 _ _; obtain ⟨A7, n7, rfl, hn7, _, hH7, hC7⟩ := held_own (kd_R ho7)))
  refine (all_n A7 (F.length + Z.length) n7 (F ++ Z) w7 (by simp) (by rw [EF.out, EZ.out]; decide) (hH7.mono (fun _ _ => trivial)) (by simpa using hn7) (by have := LF.out; have := LZ.out; simp; omega)).mono ?_
  rintro e w8 ⟨xs, er, Al, nl, rfl, hrun, hnl, hnl', hL, hB⟩
  obtain ⟨u1, u2, rfl, rfl⟩ := run_one (by rw [EF.out, EZ.out] at hrun; exact hrun)
  simp only [List.getLast?_cons_cons, List.getLast?_singleton, Option.map_some, Option.getD_some]
  have HB8 := Aside0.mk (below_via (hB7.trans (hB.mono hB7.size)) HB5.out)
  have HA8 := Aside0.mk ((HA5.out.below hB7).below hB)
  have HZ8 := Aside0.mk ((HZ5.out.below hB7).below hB)
  have HX8 := Aside0.mk ((HX5.out.below hB7).below hB)
  have HL8 := Aside0.mk (hL.mono (S' := fun _ => True) (fun _ _ => trivial))
  have b8 := Aside0.mk ((Below.refl w8.heap.size w8).alloc (Nat.le_refl _) (.cells #[] 5))
  clear hB hL hB7 ho7 hB6 ho6 hH7 hC7 b5 HB5 HA5 HZ5 HX5 HZ6 hrun
  go_wp2_with (first
    | (at_builtin; refine print_append_row (w0 := w8) w8.heap.size rfl (.tmp 48) (.tmp 49) 22 5 .u8 1 rfl Try.underlying22 info_b8 (by decide) (.slice (some ⟨w8.heap.size, 0, none⟩) 0 0) [] F Aa F.length na rfl rfl (own_empty w8) (Kd.reads_of_C (d := (0 : Int)) ((HA8.out.below b8.out).C (by have := LF.out; omega))) b8.out (by simp) (by have := LF.out; simp; omega) ?_; intro v9 w9 ho9 hB9 _ _; rw [List.nil_append] at ho9; obtain ⟨A9, n9, rfl, _, _⟩ := own_C (kd_R ho9))
    | (at_builtin; refine print_append_num (w0 := w8) w8.heap.size rfl (.tmp 50) (.tmp 51) 22 5 .u8 1 rfl Try.underlying22 info_b8 (by decide) (.slice A9 F.length n9) F 9 rfl rfl ho9 hB9 (by have := hB9.size; omega) (by have := LF.out; omega) ?_; intro v10 w10 ho10 hB10 _ _; obtain ⟨A10, n10, rfl, hn10, _, hH10, hC10⟩ := held_own (kd_R ho10)))
  refine (all_n A10 (F.length + 1) n10 (F ++ [9]) w10 (by simp) (by rw [EF.out]; decide) (hH10.mono (fun _ _ => trivial)) (by simpa using hn10) (by have := LF.out; simp; omega)).mono ?_
  rintro e w11 ⟨xs, er, Am, nm, rfl, hrun, hnm, hnm', hL, hB⟩
  obtain ⟨u3, rfl, rfl⟩ := run_two (by rw [EF.out] at hrun; exact hrun)
  simp only [List.getLast?_singleton, Option.map_some, Option.getD_some]
  have HB11 := Aside0.mk (below_via (hB10.trans (hB.mono hB10.size)) HB8.out)
  have HA11 := Aside0.mk ((HA8.out.below hB10).below hB)
  have HZ11 := Aside0.mk ((HZ8.out.below hB10).below hB)
  have HX11 := Aside0.mk ((HX8.out.below hB10).below hB)
  have HL11 := Aside0.mk ((HL8.out.below hB10).below hB)
  clear hB hL hB10 ho10 hB9 ho9 hH10 hC10 b8 HB8 HA8 HZ8 HX8 HL8 hrun
  go_wp2_with fail
  case inr h => exact absurd LF.out (by omega)
  refine (next_n Aa 11 na (F.take 11) [] 0 2 w11 (by have := LF.out; simp; omega) (held_take HA11.out 11) (by have := LF.out; simp; omega) (by have := LF.out; simp; omega) (by rw [EF.out]; exact sm4)).mono ?_
  rintro e w12 ⟨Ai, ni, rfl, hni, hni', hI, hB⟩
  have HB12 := Aside0.mk (below_via hB HB11.out)
  have HZ12 := Aside0.mk (HZ11.out.below hB)
  have HX12 := Aside0.mk (HX11.out.below hB)
  have HL12 := Aside0.mk (HL11.out.below hB)
  clear hB hI HB11 HA11 HZ11 HX11 HL11
  have hcz : ∀ W, Below w12.heap.size w12 W → Below w12.heap.size w12 W ∧ (convert 22 9 (.slice Az 10 nz)).run Try.prog W = .ok (.string ((⟨#[0, 0]⟩ ++ sl) ++ ⟨#[0, 0, 0, 0]⟩)) W ∧ (convert 22 9 (.slice Ax 2 nx)).run Try.prog W = .ok (.string ⟨#[97, 98]⟩) W := by
    intro W hW
    refine ⟨hW, ?_, ?_⟩
    · rw [SL.out, ← sm11, ← EZ.out, ← LZ.out]
      exact Kd.C_string (P := Try.prog) (A := Az) (c := nz) Try.underlying22 Try.underlying5 Try.underlying9 ((HZ12.out.below hW).C (by have := LZ.out; omega))
    · exact Kd.C_string (P := Try.prog) (A := Ax) (c := nx) (xs := [97, 98]) Try.underlying22 Try.underlying5 Try.underlying9 ((HX12.out.below hW).C (by decide))
  have SZ := Aside0.mk hcz
  clear hcz
  have HLn := HL12
  rw [LF.out, LZ.out]
  go_upto_region 7 with fail
  refine wp_region_held_drew (S := (fun W => Below w12.heap.size w12 W ∧ (convert 22 9 (.slice Az 10 nz)).run Try.prog W = .ok (.string ((⟨#[0, 0]⟩ ++ sl) ++ ⟨#[0, 0, 0, 0]⟩)) W ∧ (convert 22 9 (.slice Ax 2 nx)).run Try.prog W = .ok (.string ⟨#[97, 98]⟩) W)) (by kernel_rfl) (SZ.out _ (below_drew (Below.refl _ _))) (fun hHeld => ?_)
  refine wpAnyH_take (i := 0) (oi := { dst := some 67, op := Op.move (Operand.tmp 2), type := 24, pos := "law.go:19", after := #[], guard := none }) (v := ?_) rfl (by kernel_rfl) (by kernel_rfl) (by kernel_rfl) (fun _ _ _ h => h) (Or.inl ⟨by rfl, ?_⟩) (by assumption) ?_
  rotate_left
  · intro w hSw
    try dsimp only at hSw
    go_simp
    all_goals with_reducible rfl
  try simp only [Act.put, List.setIfInBounds_toArray, List.set_cons_zero, List.set_cons_succ]
  refine wpAnyH_take (i := 1) (oi := { dst := some 68, op := Op.binOp BinOp.eql 24 (Operand.tmp 67) (Operand.const (Value.int IntKind.i64 0)) 24, type := 4, pos := "law.go:19", after := #[{ on := 0, ground := Ground.data }], guard := none }) (v := ?_) rfl (by kernel_rfl) (by kernel_rfl) (by kernel_rfl) (fun _ _ _ h => h) (Or.inl ⟨by rfl, ?_⟩) (by assumption) ?_
  rotate_left
  · intro w hSw
    try dsimp only at hSw
    go_simp
    all_goals with_reducible rfl
  try simp only [Act.put, List.setIfInBounds_toArray, List.set_cons_zero, List.set_cons_succ]
  refine wpAnyH_take (i := 2) (oi := { dst := some 69, op := Op.move (Operand.tmp 68), type := 4, pos := "law.go:19", after := #[{ on := 1, ground := Ground.data }], guard := none }) (v := ?_) rfl (by kernel_rfl) (by kernel_rfl) (by kernel_rfl) (fun _ _ _ h => h) (Or.inl ⟨by rfl, ?_⟩) (by assumption) ?_
  rotate_left
  · intro w hSw
    try dsimp only at hSw
    go_simp
    all_goals with_reducible rfl
  try simp only [Act.put, List.setIfInBounds_toArray, List.set_cons_zero, List.set_cons_succ]
  refine wpAnyH_take (i := 3) (oi := { dst := some 70, op := Op.move (Operand.tmp 1), type := 22, pos := "law.go:19", after := #[{ on := 2, ground := Ground.guard }], guard := some (2, true) }) (v := ?_) rfl (by kernel_rfl) (by kernel_rfl) (by kernel_rfl) (fun _ _ _ h => h) (Or.inl ⟨by rfl, ?_⟩) (by assumption) ?_
  rotate_left
  · intro w hSw
    try dsimp only at hSw
    go_simp
    all_goals with_reducible rfl
  try simp only [Act.put, List.setIfInBounds_toArray, List.set_cons_zero, List.set_cons_succ]
  refine wpAnyH_take (i := 4) (oi := { dst := some 71, op := Op.call { callee := Callee.builtin Builtin.len, args := #[Operand.tmp 70], argTypes := #[22] }, type := 3, pos := "law.go:19", after := #[{ on := 3, ground := Ground.data }, { on := 2, ground := Ground.guard }], guard := some (2, true) }) (v := ?_) rfl (by kernel_rfl) (by kernel_rfl) (by kernel_rfl) (fun _ _ _ h => h) (Or.inl ⟨by rfl, ?_⟩) (by assumption) ?_
  rotate_left
  · intro w hSw
    try dsimp only at hSw
    go_simp
    all_goals with_reducible rfl
  try simp only [Act.put, List.setIfInBounds_toArray, List.set_cons_zero, List.set_cons_succ]
  refine wpAnyH_take (i := 5) (oi := { dst := some 72, op := Op.binOp BinOp.eql 3 (Operand.tmp 71) (Operand.const (Value.int IntKind.i64 12)) 3, type := 4, pos := "law.go:19", after := #[{ on := 4, ground := Ground.data }, { on := 2, ground := Ground.guard }], guard := some (2, true) }) (v := ?_) rfl (by kernel_rfl) (by kernel_rfl) (by kernel_rfl) (fun _ _ _ h => h) (Or.inl ⟨by rfl, ?_⟩) (by assumption) ?_
  rotate_left
  · intro w hSw
    try dsimp only at hSw
    go_simp
    all_goals with_reducible rfl
  try simp only [Act.put, List.setIfInBounds_toArray, List.set_cons_zero, List.set_cons_succ]
  refine wpAnyH_take (i := 6) (oi := { dst := some 73, op := Op.pick (Operand.tmp 69) (Operand.tmp 72) (Operand.const (Value.bool false)), type := 4, pos := "law.go:19", after := #[{ on := 2, ground := Ground.data }, { on := 5, ground := Ground.data }], guard := none }) (v := ?_) rfl (by kernel_rfl) (by kernel_rfl) (by kernel_rfl) (fun _ _ _ h => h) (Or.inl ⟨by rfl, ?_⟩) (by assumption) ?_
  rotate_left
  · intro w hSw
    try dsimp only at hSw
    go_simp
    all_goals with_reducible rfl
  try simp only [Act.put, List.setIfInBounds_toArray, List.set_cons_zero, List.set_cons_succ]
  refine wpAnyH_take (i := 7) (oi := { dst := some 74, op := Op.move (Operand.tmp 73), type := 4, pos := "law.go:19", after := #[{ on := 6, ground := Ground.data }, { on := 2, ground := Ground.chain }], guard := none }) (v := ?_) rfl (by kernel_rfl) (by kernel_rfl) (by kernel_rfl) (fun _ _ _ h => h) (Or.inl ⟨by rfl, ?_⟩) (by assumption) ?_
  rotate_left
  · intro w hSw
    try dsimp only at hSw
    go_simp
    all_goals with_reducible rfl
  try simp only [Act.put, List.setIfInBounds_toArray, List.set_cons_zero, List.set_cons_succ]
  refine wpAnyH_take (i := 8) (oi := { dst := some 75, op := Op.move (Operand.tmp 3), type := 22, pos := "law.go:19", after := #[{ on := 7, ground := Ground.guard }], guard := some (7, true) }) (v := ?_) rfl (by kernel_rfl) (by kernel_rfl) (by kernel_rfl) (fun _ _ _ h => h) (Or.inl ⟨by rfl, ?_⟩) (by assumption) ?_
  rotate_left
  · intro w hSw
    try dsimp only at hSw
    go_simp
    all_goals with_reducible rfl
  try simp only [Act.put, List.setIfInBounds_toArray, List.set_cons_zero, List.set_cons_succ]
  refine wpAnyH_take (i := 9) (oi := { dst := some 76, op := Op.convert 22 9 (Operand.tmp 75), type := 9, pos := "law.go:19", after := #[{ on := 8, ground := Ground.data }, { on := 7, ground := Ground.guard }], guard := some (7, true) }) (v := ?_) rfl (by kernel_rfl) (by kernel_rfl) (by kernel_rfl) (fun _ _ _ h => h) (Or.inl ⟨by rfl, ?_⟩) (by assumption) ?_
  rotate_left
  · intro w hSw
    try dsimp only at hSw
    go_simp
    all_goals with_reducible rfl
  try simp only [Act.put, List.setIfInBounds_toArray, List.set_cons_zero, List.set_cons_succ]
  refine wpAnyH_ready (rs := [10]) (by kernel_rfl) (by simp) ?_
  refine AllReadyH.cons (o := { dst := some 77, op := Op.buildSlice 22 2 #[(0, Operand.const (Value.int IntKind.u8 0)), (1, Operand.const (Value.int IntKind.u8 0))], type := 22, pos := "law.go:19", after := #[{ on := 7, ground := Ground.guard }], guard := some (7, true) }) rfl (fun K hK => ?_) AllReadyH.nil
  go_simp
  refine hK.out _ _ (SZ.out _ (by first | assumption | exact hHeld.1 | exact hHeld.1.alloc hHeld.1.size _ | exact hbq.alloc hbq.size _)) (fun hHeld => ?_)
  clear hK K
  try simp only [Act.put, List.setIfInBounds_toArray, List.set_cons_zero, List.set_cons_succ]
  refine wpAnyH_ready (rs := [11]) (by kernel_rfl) (by simp) ?_
  refine AllReadyH.cons (o := { dst := some 78, op := Op.call { callee := Callee.value (Operand.func 17), args := #[Operand.tmp 77], argTypes := #[22] }, type := 37, pos := "law.go:19", after := #[{ on := 10, ground := Ground.data }, { on := 7, ground := Ground.chain }, { on := 7, ground := Ground.guard }], guard := some (7, true) }) rfl (fun K hK => ?_) AllReadyH.nil
  go_simp
  (go_at_call 17; refine Calls.mono (rosetteref01_Sum.calls 20 _ 2 [0, 0] 1104745215 _ (lit_C _ 5 .u8 [0, 0] (by decide)) (Nat.le_refl _) sm9) ?_; rintro e wn ⟨rfl, hX⟩; have hbn := below_via2 hHeld.1 hX.below; clear hX hHeld)
  go_wp2_with fail
  refine hK.out _ _ (SZ.out _ (by first | assumption | exact hHeld.1 | exact hHeld.1.alloc hHeld.1.size _ | exact hbq.alloc hbq.size _)) (fun hHeld => ?_)
  clear hK K
  try simp only [Act.put, List.setIfInBounds_toArray, List.set_cons_zero, List.set_cons_succ]
  refine wpAnyH_ready (rs := [12]) (by kernel_rfl) (by simp) ?_
  refine AllReadyH.cons (o := { dst := some 79, op := Op.call { callee := Callee.value (Operand.func 16), args := #[Operand.tmp 78], argTypes := #[37] }, type := 22, pos := "law.go:19", after := #[{ on := 11, ground := Ground.data }, { on := 11, ground := Ground.chain }, { on := 7, ground := Ground.guard }], guard := some (7, true) }) rfl (fun K hK => ?_) AllReadyH.nil
  go_simp
  (go_at_call 16; refine Calls.mono (rosetteref01_Low.calls 1104745215 _ _ sm10) ?_; rintro e wm ⟨vl, rfl, hR, hX⟩; have hbm := below_via2 hHeld.1 hX; clear hX hHeld; obtain ⟨Pl, cl, rfl, hc4⟩ := low_conv hR SL.out; clear hR)
  go_wp2_with fail
  refine hK.out _ _ (SZ.out _ (by first | assumption | exact hHeld.1 | exact hHeld.1.alloc hHeld.1.size _ | exact hbq.alloc hbq.size _)) (fun hHeld => ?_)
  clear hK K
  try simp only [Act.put, List.setIfInBounds_toArray, List.set_cons_zero, List.set_cons_succ]
  refine wpAnyH_ready (rs := [13]) (by kernel_rfl) (by simp) ?_
  refine AllReadyH.cons (o := { dst := some 80, op := Op.convert 22 9 (Operand.tmp 79), type := 9, pos := "law.go:19", after := #[{ on := 12, ground := Ground.data }, { on := 7, ground := Ground.guard }], guard := some (7, true) }) rfl (fun K hK => ?_) AllReadyH.nil
  go_simp
  refine hK.out _ _ (SZ.out _ (by first | assumption | exact hHeld.1 | exact hHeld.1.alloc hHeld.1.size _ | exact hbq.alloc hbq.size _)) (fun hHeld => ?_)
  clear hK K
  try simp only [Act.put, List.setIfInBounds_toArray, List.set_cons_zero, List.set_cons_succ]
  refine wpAnyH_take (i := 14) (oi := { dst := some 81, op := Op.binOp BinOp.add 9 (Operand.const (Value.string { data := #[0, 0] })) (Operand.tmp 80) 9, type := 9, pos := "law.go:19", after := #[{ on := 13, ground := Ground.data }, { on := 7, ground := Ground.guard }], guard := some (7, true) }) (v := ?_) rfl (by kernel_rfl) (by kernel_rfl) (by kernel_rfl) (fun _ _ _ h => h) (Or.inl ⟨by rfl, ?_⟩) (by assumption) ?_
  rotate_left
  · intro w hSw
    try dsimp only at hSw
    go_simp
    all_goals with_reducible rfl
  try simp only [Act.put, List.setIfInBounds_toArray, List.set_cons_zero, List.set_cons_succ]
  refine wpAnyH_take (i := 15) (oi := { dst := some 82, op := Op.binOp BinOp.add 9 (Operand.tmp 81) (Operand.const (Value.string { data := #[0, 0, 0, 0] })) 9, type := 9, pos := "law.go:19", after := #[{ on := 14, ground := Ground.data }, { on := 7, ground := Ground.guard }], guard := some (7, true) }) (v := ?_) rfl (by kernel_rfl) (by kernel_rfl) (by kernel_rfl) (fun _ _ _ h => h) (Or.inl ⟨by rfl, ?_⟩) (by assumption) ?_
  rotate_left
  · intro w hSw
    try dsimp only at hSw
    go_simp
    all_goals with_reducible rfl
  try simp only [Act.put, List.setIfInBounds_toArray, List.set_cons_zero, List.set_cons_succ]
  refine wpAnyH_take (i := 16) (oi := { dst := some 83, op := Op.binOp BinOp.eql 9 (Operand.tmp 76) (Operand.tmp 82) 9, type := 4, pos := "law.go:19", after := #[{ on := 9, ground := Ground.data }, { on := 15, ground := Ground.data }, { on := 7, ground := Ground.guard }], guard := some (7, true) }) (v := ?_) rfl (by kernel_rfl) (by kernel_rfl) (by kernel_rfl) (fun _ _ _ h => h) (Or.inl ⟨by rfl, ?_⟩) (by assumption) ?_
  rotate_left
  · intro w hSw
    try dsimp only at hSw
    go_simp
    all_goals with_reducible rfl
  try simp only [Act.put, List.setIfInBounds_toArray, List.set_cons_zero, List.set_cons_succ]
  refine wpAnyH_take (i := 17) (oi := { dst := some 84, op := Op.pick (Operand.tmp 74) (Operand.tmp 83) (Operand.const (Value.bool false)), type := 4, pos := "law.go:19", after := #[{ on := 7, ground := Ground.data }, { on := 16, ground := Ground.data }], guard := none }) (v := ?_) rfl (by kernel_rfl) (by kernel_rfl) (by kernel_rfl) (fun _ _ _ h => h) (Or.inl ⟨by rfl, ?_⟩) (by assumption) ?_
  rotate_left
  · intro w hSw
    try dsimp only at hSw
    go_simp
    all_goals with_reducible rfl
  try simp only [Act.put, List.setIfInBounds_toArray, List.set_cons_zero, List.set_cons_succ]
  refine wpAnyH_take (i := 18) (oi := { dst := some 85, op := Op.move (Operand.tmp 84), type := 4, pos := "law.go:19", after := #[{ on := 17, ground := Ground.data }, { on := 12, ground := Ground.chain }], guard := none }) (v := ?_) rfl (by kernel_rfl) (by kernel_rfl) (by kernel_rfl) (fun _ _ _ h => h) (Or.inl ⟨by rfl, ?_⟩) (by assumption) ?_
  rotate_left
  · intro w hSw
    try dsimp only at hSw
    go_simp
    all_goals with_reducible rfl
  try simp only [Act.put, List.setIfInBounds_toArray, List.set_cons_zero, List.set_cons_succ]
  refine wpAnyH_take (i := 19) (oi := { dst := some 86, op := Op.move (Operand.tmp 5), type := 22, pos := "law.go:19", after := #[{ on := 18, ground := Ground.guard }], guard := some (18, true) }) (v := ?_) rfl (by kernel_rfl) (by kernel_rfl) (by kernel_rfl) (fun _ _ _ h => h) (Or.inl ⟨by rfl, ?_⟩) (by assumption) ?_
  rotate_left
  · intro w hSw
    try dsimp only at hSw
    go_simp
    all_goals with_reducible rfl
  try simp only [Act.put, List.setIfInBounds_toArray, List.set_cons_zero, List.set_cons_succ]
  refine wpAnyH_take (i := 20) (oi := { dst := some 87, op := Op.convert 22 9 (Operand.tmp 86), type := 9, pos := "law.go:19", after := #[{ on := 19, ground := Ground.data }, { on := 18, ground := Ground.guard }], guard := some (18, true) }) (v := ?_) rfl (by kernel_rfl) (by kernel_rfl) (by kernel_rfl) (fun _ _ _ h => h) (Or.inl ⟨by rfl, ?_⟩) (by assumption) ?_
  rotate_left
  · intro w hSw
    try dsimp only at hSw
    go_simp
    all_goals with_reducible rfl
  try simp only [Act.put, List.setIfInBounds_toArray, List.set_cons_zero, List.set_cons_succ]
  refine wpAnyH_take (i := 21) (oi := { dst := some 88, op := Op.binOp BinOp.eql 9 (Operand.tmp 87) (Operand.const (Value.string { data := #[97, 98] })) 9, type := 4, pos := "law.go:19", after := #[{ on := 20, ground := Ground.data }, { on := 18, ground := Ground.guard }], guard := some (18, true) }) (v := ?_) rfl (by kernel_rfl) (by kernel_rfl) (by kernel_rfl) (fun _ _ _ h => h) (Or.inl ⟨by rfl, ?_⟩) (by assumption) ?_
  rotate_left
  · intro w hSw
    try dsimp only at hSw
    go_simp
    all_goals with_reducible rfl
  try simp only [Act.put, List.setIfInBounds_toArray, List.set_cons_zero, List.set_cons_succ]
  refine wpAnyH_take (i := 22) (oi := { dst := some 89, op := Op.pick (Operand.tmp 85) (Operand.tmp 88) (Operand.const (Value.bool false)), type := 4, pos := "law.go:19", after := #[{ on := 18, ground := Ground.data }, { on := 21, ground := Ground.data }], guard := none }) (v := ?_) rfl (by kernel_rfl) (by kernel_rfl) (by kernel_rfl) (fun _ _ _ h => h) (Or.inl ⟨by rfl, ?_⟩) (by assumption) ?_
  rotate_left
  · intro w hSw
    try dsimp only at hSw
    go_simp
    all_goals with_reducible rfl
  try simp only [Act.put, List.setIfInBounds_toArray, List.set_cons_zero, List.set_cons_succ]
  refine wpAnyH_take (i := 23) (oi := { dst := some 90, op := Op.move (Operand.tmp 89), type := 4, pos := "law.go:19", after := #[{ on := 22, ground := Ground.data }, { on := 18, ground := Ground.chain }], guard := none }) (v := ?_) rfl (by kernel_rfl) (by kernel_rfl) (by kernel_rfl) (fun _ _ _ h => h) (Or.inl ⟨by rfl, ?_⟩) (by assumption) ?_
  rotate_left
  · intro w hSw
    try dsimp only at hSw
    go_simp
    all_goals with_reducible rfl
  try simp only [Act.put, List.setIfInBounds_toArray, List.set_cons_zero, List.set_cons_succ]
  refine wpAnyH_take (i := 24) (oi := { dst := some 91, op := Op.move (Operand.tmp 6), type := 3, pos := "law.go:19", after := #[{ on := 23, ground := Ground.guard }], guard := some (23, true) }) (v := ?_) rfl (by kernel_rfl) (by kernel_rfl) (by kernel_rfl) (fun _ _ _ h => h) (Or.inl ⟨by rfl, ?_⟩) (by assumption) ?_
  rotate_left
  · intro w hSw
    try dsimp only at hSw
    go_simp
    all_goals with_reducible rfl
  try simp only [Act.put, List.setIfInBounds_toArray, List.set_cons_zero, List.set_cons_succ]
  refine wpAnyH_take (i := 25) (oi := { dst := some 92, op := Op.binOp BinOp.eql 3 (Operand.tmp 91) (Operand.const (Value.int IntKind.i64 12)) 3, type := 4, pos := "law.go:19", after := #[{ on := 24, ground := Ground.data }, { on := 23, ground := Ground.guard }], guard := some (23, true) }) (v := ?_) rfl (by kernel_rfl) (by kernel_rfl) (by kernel_rfl) (fun _ _ _ h => h) (Or.inl ⟨by rfl, ?_⟩) (by assumption) ?_
  rotate_left
  · intro w hSw
    try dsimp only at hSw
    go_simp
    all_goals with_reducible rfl
  try simp only [Act.put, List.setIfInBounds_toArray, List.set_cons_zero, List.set_cons_succ]
  refine wpAnyH_take (i := 26) (oi := { dst := some 93, op := Op.pick (Operand.tmp 90) (Operand.tmp 92) (Operand.const (Value.bool false)), type := 4, pos := "law.go:19", after := #[{ on := 23, ground := Ground.data }, { on := 25, ground := Ground.data }], guard := none }) (v := ?_) rfl (by kernel_rfl) (by kernel_rfl) (by kernel_rfl) (fun _ _ _ h => h) (Or.inl ⟨by rfl, ?_⟩) (by assumption) ?_
  rotate_left
  · intro w hSw
    try dsimp only at hSw
    go_simp
    all_goals with_reducible rfl
  try simp only [Act.put, List.setIfInBounds_toArray, List.set_cons_zero, List.set_cons_succ]
  refine wpAnyH_take (i := 27) (oi := { dst := some 94, op := Op.move (Operand.tmp 93), type := 4, pos := "law.go:19", after := #[{ on := 26, ground := Ground.data }, { on := 23, ground := Ground.chain }], guard := none }) (v := ?_) rfl (by kernel_rfl) (by kernel_rfl) (by kernel_rfl) (fun _ _ _ h => h) (Or.inl ⟨by rfl, ?_⟩) (by assumption) ?_
  rotate_left
  · intro w hSw
    try dsimp only at hSw
    go_simp
    all_goals with_reducible rfl
  try simp only [Act.put, List.setIfInBounds_toArray, List.set_cons_zero, List.set_cons_succ]
  refine wpAnyH_take (i := 28) (oi := { dst := some 95, op := Op.move (Operand.tmp 7), type := 24, pos := "law.go:19", after := #[{ on := 27, ground := Ground.guard }], guard := some (27, true) }) (v := ?_) rfl (by kernel_rfl) (by kernel_rfl) (by kernel_rfl) (fun _ _ _ h => h) (Or.inl ⟨by rfl, ?_⟩) (by assumption) ?_
  rotate_left
  · intro w hSw
    try dsimp only at hSw
    go_simp
    all_goals with_reducible rfl
  try simp only [Act.put, List.setIfInBounds_toArray, List.set_cons_zero, List.set_cons_succ]
  refine wpAnyH_take (i := 29) (oi := { dst := some 96, op := Op.binOp BinOp.eql 24 (Operand.tmp 95) (Operand.const (Value.int IntKind.i64 0)) 24, type := 4, pos := "law.go:19", after := #[{ on := 28, ground := Ground.data }, { on := 27, ground := Ground.guard }], guard := some (27, true) }) (v := ?_) rfl (by kernel_rfl) (by kernel_rfl) (by kernel_rfl) (fun _ _ _ h => h) (Or.inl ⟨by rfl, ?_⟩) (by assumption) ?_
  rotate_left
  · intro w hSw
    try dsimp only at hSw
    go_simp
    all_goals with_reducible rfl
  try simp only [Act.put, List.setIfInBounds_toArray, List.set_cons_zero, List.set_cons_succ]
  refine wpAnyH_take (i := 30) (oi := { dst := some 97, op := Op.pick (Operand.tmp 94) (Operand.tmp 96) (Operand.const (Value.bool false)), type := 4, pos := "law.go:19", after := #[{ on := 27, ground := Ground.data }, { on := 29, ground := Ground.data }], guard := none }) (v := ?_) rfl (by kernel_rfl) (by kernel_rfl) (by kernel_rfl) (fun _ _ _ h => h) (Or.inl ⟨by rfl, ?_⟩) (by assumption) ?_
  rotate_left
  · intro w hSw
    try dsimp only at hSw
    go_simp
    all_goals with_reducible rfl
  try simp only [Act.put, List.setIfInBounds_toArray, List.set_cons_zero, List.set_cons_succ]
  refine wpAnyH_take (i := 31) (oi := { dst := some 98, op := Op.move (Operand.tmp 97), type := 4, pos := "law.go:19", after := #[{ on := 30, ground := Ground.data }, { on := 27, ground := Ground.chain }], guard := none }) (v := ?_) rfl (by kernel_rfl) (by kernel_rfl) (by kernel_rfl) (fun _ _ _ h => h) (Or.inl ⟨by rfl, ?_⟩) (by assumption) ?_
  rotate_left
  · intro w hSw
    try dsimp only at hSw
    go_simp
    all_goals with_reducible rfl
  try simp only [Act.put, List.setIfInBounds_toArray, List.set_cons_zero, List.set_cons_succ]
  refine wpAnyH_take (i := 32) (oi := { dst := some 99, op := Op.move (Operand.tmp 8), type := 29, pos := "law.go:19", after := #[{ on := 31, ground := Ground.guard }], guard := some (31, true) }) (v := ?_) rfl (by kernel_rfl) (by kernel_rfl) (by kernel_rfl) (fun _ _ _ h => h) (Or.inl ⟨by rfl, ?_⟩) (by assumption) ?_
  rotate_left
  · intro w hSw
    try dsimp only at hSw
    go_simp
    all_goals with_reducible rfl
  try simp only [Act.put, List.setIfInBounds_toArray, List.set_cons_zero, List.set_cons_succ]
  have hbq := hHeld.1
  refine wpAnyH_ready (rs := [33]) (by kernel_rfl) (by simp) ?_
  refine AllReadyH.cons (o := { dst := some 100, op := Op.buildSlice 22 2 #[(0, Operand.const (Value.int IntKind.u8 97)), (1, Operand.const (Value.int IntKind.u8 98))], type := 22, pos := "law.go:19", after := #[{ on := 31, ground := Ground.guard }], guard := some (31, true) }) rfl (fun K hK => ?_) AllReadyH.nil
  go_simp
  refine hK.out _ _ (SZ.out _ (by first | assumption | exact hHeld.1 | exact hHeld.1.alloc hHeld.1.size _ | exact hbq.alloc hbq.size _)) (fun hHeld => ?_)
  clear hK K
  try simp only [Act.put, List.setIfInBounds_toArray, List.set_cons_zero, List.set_cons_succ]
  refine wpAnyH_ready (rs := [34]) (by kernel_rfl) (by simp) ?_
  refine AllReadyH.cons (o := { dst := some 101, op := Op.convert 22 22 (Operand.tmp 100), type := 22, pos := "law.go:19", after := #[{ on := 33, ground := Ground.data }, { on := 31, ground := Ground.guard }], guard := some (31, true) }) rfl (fun K hK => ?_) AllReadyH.nil
  go_simp
  refine hK.out _ _ (SZ.out _ (by first | assumption | exact hHeld.1 | exact hHeld.1.alloc hHeld.1.size _ | exact hbq.alloc hbq.size _)) (fun hHeld => ?_)
  clear hK K
  try simp only [Act.put, List.setIfInBounds_toArray, List.set_cons_zero, List.set_cons_succ]
  refine wpAnyH_ready (rs := [35]) (by kernel_rfl) (by simp) ?_
  refine AllReadyH.cons (o := { dst := some 102, op := Op.buildSlice 29 2 #[(0, Operand.tmp 101), (1, Operand.const (Value.slice none 0 0))], type := 29, pos := "law.go:19", after := #[{ on := 34, ground := Ground.data }, { on := 31, ground := Ground.guard }], guard := some (31, true) }) rfl (fun K hK => ?_) AllReadyH.nil
  go_simp
  refine hK.out _ _ (SZ.out _ (by first | assumption | exact hHeld.1 | exact hHeld.1.alloc hHeld.1.size _ | exact hbq.alloc hbq.size _)) (fun hHeld => ?_)
  clear hK K
  try simp only [Act.put, List.setIfInBounds_toArray, List.set_cons_zero, List.set_cons_succ]
  refine wpAnyH_ready (rs := [36]) (by kernel_rfl) (by simp) ?_
  refine AllReadyH.cons (o := { dst := some 103, op := Op.call { callee := Callee.value (Operand.func 15), args := #[Operand.tmp 99, Operand.tmp 102], argTypes := #[29, 29] }, type := 4, pos := "law.go:19", after := #[{ on := 32, ground := Ground.data }, { on := 35, ground := Ground.data }, { on := 31, ground := Ground.chain }, { on := 31, ground := Ground.guard }], guard := some (31, true) }) rfl (fun K hK => ?_) AllReadyH.nil
  go_simp
  (go_at_call 15; refine Calls.mono (same_true Al 2 nl _ 2 _ _ (by decide) ((HLn.out.below hHeld.1).rowS) (row_lit _)) ?_; rintro e wr ⟨rfl, hX⟩; have hbr := below_via2 hHeld.1 hX; clear hX hHeld)
  go_wp2_with fail
  refine hK.out _ _ (SZ.out _ (by first | assumption | exact hHeld.1 | exact hHeld.1.alloc hHeld.1.size _ | exact hbq.alloc hbq.size _)) (fun hHeld => ?_)
  clear hK K
  try simp only [Act.put, List.setIfInBounds_toArray, List.set_cons_zero, List.set_cons_succ]
  refine wpAnyH_take (i := 37) (oi := { dst := some 104, op := Op.pick (Operand.tmp 98) (Operand.tmp 103) (Operand.const (Value.bool false)), type := 4, pos := "law.go:19", after := #[{ on := 31, ground := Ground.data }, { on := 36, ground := Ground.data }], guard := none }) (v := ?_) rfl (by kernel_rfl) (by kernel_rfl) (by kernel_rfl) (fun _ _ _ h => h) (Or.inl ⟨by rfl, ?_⟩) (by assumption) ?_
  rotate_left
  · intro w hSw
    try dsimp only at hSw
    go_simp
    all_goals with_reducible rfl
  try simp only [Act.put, List.setIfInBounds_toArray, List.set_cons_zero, List.set_cons_succ]
  refine wpAnyH_take (i := 38) (oi := { dst := some 105, op := Op.move (Operand.tmp 104), type := 4, pos := "law.go:19", after := #[{ on := 37, ground := Ground.data }, { on := 36, ground := Ground.chain }], guard := none }) (v := ?_) rfl (by kernel_rfl) (by kernel_rfl) (by kernel_rfl) (fun _ _ _ h => h) (Or.inl ⟨by rfl, ?_⟩) (by assumption) ?_
  rotate_left
  · intro w hSw
    try dsimp only at hSw
    go_simp
    all_goals with_reducible rfl
  try simp only [Act.put, List.setIfInBounds_toArray, List.set_cons_zero, List.set_cons_succ]
  refine wpAnyH_take (i := 39) (oi := { dst := some 106, op := Op.move (Operand.tmp 9), type := 3, pos := "law.go:19", after := #[{ on := 38, ground := Ground.guard }], guard := some (38, true) }) (v := ?_) rfl (by kernel_rfl) (by kernel_rfl) (by kernel_rfl) (fun _ _ _ h => h) (Or.inl ⟨by rfl, ?_⟩) (by assumption) ?_
  rotate_left
  · intro w hSw
    try dsimp only at hSw
    go_simp
    all_goals with_reducible rfl
  try simp only [Act.put, List.setIfInBounds_toArray, List.set_cons_zero, List.set_cons_succ]
  refine wpAnyH_take (i := 40) (oi := { dst := some 107, op := Op.binOp BinOp.eql 3 (Operand.tmp 106) (Operand.const (Value.int IntKind.i64 22)) 3, type := 4, pos := "law.go:19", after := #[{ on := 39, ground := Ground.data }, { on := 38, ground := Ground.guard }], guard := some (38, true) }) (v := ?_) rfl (by kernel_rfl) (by kernel_rfl) (by kernel_rfl) (fun _ _ _ h => h) (Or.inl ⟨by rfl, ?_⟩) (by assumption) ?_
  rotate_left
  · intro w hSw
    try dsimp only at hSw
    go_simp
    all_goals with_reducible rfl
  try simp only [Act.put, List.setIfInBounds_toArray, List.set_cons_zero, List.set_cons_succ]
  refine wpAnyH_take (i := 41) (oi := { dst := some 108, op := Op.pick (Operand.tmp 105) (Operand.tmp 107) (Operand.const (Value.bool false)), type := 4, pos := "law.go:19", after := #[{ on := 38, ground := Ground.data }, { on := 40, ground := Ground.data }], guard := none }) (v := ?_) rfl (by kernel_rfl) (by kernel_rfl) (by kernel_rfl) (fun _ _ _ h => h) (Or.inl ⟨by rfl, ?_⟩) (by assumption) ?_
  rotate_left
  · intro w hSw
    try dsimp only at hSw
    go_simp
    all_goals with_reducible rfl
  try simp only [Act.put, List.setIfInBounds_toArray, List.set_cons_zero, List.set_cons_succ]
  refine wpAnyH_take (i := 42) (oi := { dst := some 109, op := Op.move (Operand.tmp 108), type := 4, pos := "law.go:19", after := #[{ on := 41, ground := Ground.data }, { on := 38, ground := Ground.chain }], guard := none }) (v := ?_) rfl (by kernel_rfl) (by kernel_rfl) (by kernel_rfl) (fun _ _ _ h => h) (Or.inl ⟨by rfl, ?_⟩) (by assumption) ?_
  rotate_left
  · intro w hSw
    try dsimp only at hSw
    go_simp
    all_goals with_reducible rfl
  try simp only [Act.put, List.setIfInBounds_toArray, List.set_cons_zero, List.set_cons_succ]
  refine wpAnyH_take (i := 43) (oi := { dst := some 110, op := Op.move (Operand.tmp 10), type := 24, pos := "law.go:19", after := #[{ on := 42, ground := Ground.guard }], guard := some (42, true) }) (v := ?_) rfl (by kernel_rfl) (by kernel_rfl) (by kernel_rfl) (fun _ _ _ h => h) (Or.inl ⟨by rfl, ?_⟩) (by assumption) ?_
  rotate_left
  · intro w hSw
    try dsimp only at hSw
    go_simp
    all_goals with_reducible rfl
  try simp only [Act.put, List.setIfInBounds_toArray, List.set_cons_zero, List.set_cons_succ]
  refine wpAnyH_take (i := 44) (oi := { dst := some 111, op := Op.binOp BinOp.eql 24 (Operand.tmp 110) (Operand.const (Value.int IntKind.i64 0)) 24, type := 4, pos := "law.go:19", after := #[{ on := 43, ground := Ground.data }, { on := 42, ground := Ground.guard }], guard := some (42, true) }) (v := ?_) rfl (by kernel_rfl) (by kernel_rfl) (by kernel_rfl) (fun _ _ _ h => h) (Or.inl ⟨by rfl, ?_⟩) (by assumption) ?_
  rotate_left
  · intro w hSw
    try dsimp only at hSw
    go_simp
    all_goals with_reducible rfl
  try simp only [Act.put, List.setIfInBounds_toArray, List.set_cons_zero, List.set_cons_succ]
  refine wpAnyH_take (i := 45) (oi := { dst := some 112, op := Op.pick (Operand.tmp 109) (Operand.tmp 111) (Operand.const (Value.bool false)), type := 4, pos := "law.go:19", after := #[{ on := 42, ground := Ground.data }, { on := 44, ground := Ground.data }], guard := none }) (v := ?_) rfl (by kernel_rfl) (by kernel_rfl) (by kernel_rfl) (fun _ _ _ h => h) (Or.inl ⟨by rfl, ?_⟩) (by assumption) ?_
  rotate_left
  · intro w hSw
    try dsimp only at hSw
    go_simp
    all_goals with_reducible rfl
  try simp only [Act.put, List.setIfInBounds_toArray, List.set_cons_zero, List.set_cons_succ]
  refine wpAnyH_take (i := 46) (oi := { dst := some 113, op := Op.move (Operand.tmp 112), type := 4, pos := "law.go:19", after := #[{ on := 45, ground := Ground.data }, { on := 42, ground := Ground.chain }], guard := none }) (v := ?_) rfl (by kernel_rfl) (by kernel_rfl) (by kernel_rfl) (fun _ _ _ h => h) (Or.inl ⟨by rfl, ?_⟩) (by assumption) ?_
  rotate_left
  · intro w hSw
    try dsimp only at hSw
    go_simp
    all_goals with_reducible rfl
  try simp only [Act.put, List.setIfInBounds_toArray, List.set_cons_zero, List.set_cons_succ]
  refine wpAnyH_take (i := 47) (oi := { dst := some 114, op := Op.move (Operand.tmp 11), type := 29, pos := "law.go:19", after := #[{ on := 46, ground := Ground.guard }], guard := some (46, true) }) (v := ?_) rfl (by kernel_rfl) (by kernel_rfl) (by kernel_rfl) (fun _ _ _ h => h) (Or.inl ⟨by rfl, ?_⟩) (by assumption) ?_
  rotate_left
  · intro w hSw
    try dsimp only at hSw
    go_simp
    all_goals with_reducible rfl
  try simp only [Act.put, List.setIfInBounds_toArray, List.set_cons_zero, List.set_cons_succ]
  refine wpAnyH_take (i := 48) (oi := { dst := some 115, op := Op.call { callee := Callee.builtin Builtin.len, args := #[Operand.tmp 114], argTypes := #[29] }, type := 3, pos := "law.go:19", after := #[{ on := 47, ground := Ground.data }, { on := 46, ground := Ground.guard }], guard := some (46, true) }) (v := ?_) rfl (by kernel_rfl) (by kernel_rfl) (by kernel_rfl) (fun _ _ _ h => h) (Or.inl ⟨by rfl, ?_⟩) (by assumption) ?_
  rotate_left
  · intro w hSw
    try dsimp only at hSw
    go_simp
    all_goals with_reducible rfl
  try simp only [Act.put, List.setIfInBounds_toArray, List.set_cons_zero, List.set_cons_succ]
  refine wpAnyH_take (i := 49) (oi := { dst := some 116, op := Op.binOp BinOp.eql 3 (Operand.tmp 115) (Operand.const (Value.int IntKind.i64 1)) 3, type := 4, pos := "law.go:19", after := #[{ on := 48, ground := Ground.data }, { on := 46, ground := Ground.guard }], guard := some (46, true) }) (v := ?_) rfl (by kernel_rfl) (by kernel_rfl) (by kernel_rfl) (fun _ _ _ h => h) (Or.inl ⟨by rfl, ?_⟩) (by assumption) ?_
  rotate_left
  · intro w hSw
    try dsimp only at hSw
    go_simp
    all_goals with_reducible rfl
  try simp only [Act.put, List.setIfInBounds_toArray, List.set_cons_zero, List.set_cons_succ]
  refine wpAnyH_take (i := 50) (oi := { dst := some 117, op := Op.pick (Operand.tmp 113) (Operand.tmp 116) (Operand.const (Value.bool false)), type := 4, pos := "law.go:19", after := #[{ on := 46, ground := Ground.data }, { on := 49, ground := Ground.data }], guard := none }) (v := ?_) rfl (by kernel_rfl) (by kernel_rfl) (by kernel_rfl) (fun _ _ _ h => h) (Or.inl ⟨by rfl, ?_⟩) (by assumption) ?_
  rotate_left
  · intro w hSw
    try dsimp only at hSw
    go_simp
    all_goals with_reducible rfl
  try simp only [Act.put, List.setIfInBounds_toArray, List.set_cons_zero, List.set_cons_succ]
  refine wpAnyH_take (i := 51) (oi := { dst := some 118, op := Op.move (Operand.tmp 117), type := 4, pos := "law.go:19", after := #[{ on := 50, ground := Ground.data }, { on := 46, ground := Ground.chain }], guard := none }) (v := ?_) rfl (by kernel_rfl) (by kernel_rfl) (by kernel_rfl) (fun _ _ _ h => h) (Or.inl ⟨by rfl, ?_⟩) (by assumption) ?_
  rotate_left
  · intro w hSw
    try dsimp only at hSw
    go_simp
    all_goals with_reducible rfl
  try simp only [Act.put, List.setIfInBounds_toArray, List.set_cons_zero, List.set_cons_succ]
  refine wpAnyH_take (i := 52) (oi := { dst := some 119, op := Op.move (Operand.tmp 12), type := 3, pos := "law.go:19", after := #[{ on := 51, ground := Ground.guard }], guard := some (51, true) }) (v := ?_) rfl (by kernel_rfl) (by kernel_rfl) (by kernel_rfl) (fun _ _ _ h => h) (Or.inl ⟨by rfl, ?_⟩) (by assumption) ?_
  rotate_left
  · intro w hSw
    try dsimp only at hSw
    go_simp
    all_goals with_reducible rfl
  try simp only [Act.put, List.setIfInBounds_toArray, List.set_cons_zero, List.set_cons_succ]
  refine wpAnyH_take (i := 53) (oi := { dst := some 120, op := Op.binOp BinOp.eql 3 (Operand.tmp 119) (Operand.const (Value.int IntKind.i64 12)) 3, type := 4, pos := "law.go:19", after := #[{ on := 52, ground := Ground.data }, { on := 51, ground := Ground.guard }], guard := some (51, true) }) (v := ?_) rfl (by kernel_rfl) (by kernel_rfl) (by kernel_rfl) (fun _ _ _ h => h) (Or.inl ⟨by rfl, ?_⟩) (by assumption) ?_
  rotate_left
  · intro w hSw
    try dsimp only at hSw
    go_simp
    all_goals with_reducible rfl
  try simp only [Act.put, List.setIfInBounds_toArray, List.set_cons_zero, List.set_cons_succ]
  refine wpAnyH_take (i := 54) (oi := { dst := some 121, op := Op.pick (Operand.tmp 118) (Operand.tmp 120) (Operand.const (Value.bool false)), type := 4, pos := "law.go:19", after := #[{ on := 51, ground := Ground.data }, { on := 53, ground := Ground.data }], guard := none }) (v := ?_) rfl (by kernel_rfl) (by kernel_rfl) (by kernel_rfl) (fun _ _ _ h => h) (Or.inl ⟨by rfl, ?_⟩) (by assumption) ?_
  rotate_left
  · intro w hSw
    try dsimp only at hSw
    go_simp
    all_goals with_reducible rfl
  try simp only [Act.put, List.setIfInBounds_toArray, List.set_cons_zero, List.set_cons_succ]
  refine wpAnyH_take (i := 55) (oi := { dst := some 122, op := Op.move (Operand.tmp 121), type := 4, pos := "law.go:19", after := #[{ on := 54, ground := Ground.data }, { on := 51, ground := Ground.chain }], guard := none }) (v := ?_) rfl (by kernel_rfl) (by kernel_rfl) (by kernel_rfl) (fun _ _ _ h => h) (Or.inl ⟨by rfl, ?_⟩) (by assumption) ?_
  rotate_left
  · intro w hSw
    try dsimp only at hSw
    go_simp
    all_goals with_reducible rfl
  try simp only [Act.put, List.setIfInBounds_toArray, List.set_cons_zero, List.set_cons_succ]
  refine wpAnyH_take (i := 56) (oi := { dst := some 123, op := Op.move (Operand.tmp 13), type := 24, pos := "law.go:19", after := #[{ on := 55, ground := Ground.guard }], guard := some (55, true) }) (v := ?_) rfl (by kernel_rfl) (by kernel_rfl) (by kernel_rfl) (fun _ _ _ h => h) (Or.inl ⟨by rfl, ?_⟩) (by assumption) ?_
  rotate_left
  · intro w hSw
    try dsimp only at hSw
    go_simp
    all_goals with_reducible rfl
  try simp only [Act.put, List.setIfInBounds_toArray, List.set_cons_zero, List.set_cons_succ]
  refine wpAnyH_take (i := 57) (oi := { dst := some 124, op := Op.binOp BinOp.eql 24 (Operand.tmp 123) (Operand.const (Value.int IntKind.i64 2)) 24, type := 4, pos := "law.go:19", after := #[{ on := 56, ground := Ground.data }, { on := 55, ground := Ground.guard }], guard := some (55, true) }) (v := ?_) rfl (by kernel_rfl) (by kernel_rfl) (by kernel_rfl) (fun _ _ _ h => h) (Or.inl ⟨by rfl, ?_⟩) (by assumption) ?_
  rotate_left
  · intro w hSw
    try dsimp only at hSw
    go_simp
    all_goals with_reducible rfl
  try simp only [Act.put, List.setIfInBounds_toArray, List.set_cons_zero, List.set_cons_succ]
  refine wpAnyH_take (i := 58) (oi := { dst := some 125, op := Op.pick (Operand.tmp 122) (Operand.tmp 124) (Operand.const (Value.bool false)), type := 4, pos := "law.go:19", after := #[{ on := 55, ground := Ground.data }, { on := 57, ground := Ground.data }], guard := none }) (v := ?_) rfl (by kernel_rfl) (by kernel_rfl) (by kernel_rfl) (fun _ _ _ h => h) (Or.inl ⟨by rfl, ?_⟩) (by assumption) ?_
  rotate_left
  · intro w hSw
    try dsimp only at hSw
    go_simp
    all_goals with_reducible rfl
  try simp only [Act.put, List.setIfInBounds_toArray, List.set_cons_zero, List.set_cons_succ]
  refine wpAnyH_take (i := 59) (oi := { dst := some 126, op := Op.move (Operand.tmp 125), type := 4, pos := "law.go:19", after := #[{ on := 58, ground := Ground.data }, { on := 55, ground := Ground.chain }], guard := none }) (v := ?_) rfl (by kernel_rfl) (by kernel_rfl) (by kernel_rfl) (fun _ _ _ h => h) (Or.inl ⟨by rfl, ?_⟩) (by assumption) ?_
  rotate_left
  · intro w hSw
    try dsimp only at hSw
    go_simp
    all_goals with_reducible rfl
  try simp only [Act.put, List.setIfInBounds_toArray, List.set_cons_zero, List.set_cons_succ]
  refine wpAnyH_take (i := 60) (oi := { dst := some 127, op := Op.move (Operand.tmp 16), type := 24, pos := "law.go:19", after := #[{ on := 59, ground := Ground.guard }], guard := some (59, true) }) (v := ?_) rfl (by kernel_rfl) (by kernel_rfl) (by kernel_rfl) (fun _ _ _ h => h) (Or.inl ⟨by rfl, ?_⟩) (by assumption) ?_
  rotate_left
  · intro w hSw
    try dsimp only at hSw
    go_simp
    all_goals with_reducible rfl
  try simp only [Act.put, List.setIfInBounds_toArray, List.set_cons_zero, List.set_cons_succ]
  refine wpAnyH_take (i := 61) (oi := { dst := some 128, op := Op.binOp BinOp.eql 24 (Operand.tmp 127) (Operand.const (Value.int IntKind.i64 2)) 24, type := 4, pos := "law.go:19", after := #[{ on := 60, ground := Ground.data }, { on := 59, ground := Ground.guard }], guard := some (59, true) }) (v := ?_) rfl (by kernel_rfl) (by kernel_rfl) (by kernel_rfl) (fun _ _ _ h => h) (Or.inl ⟨by rfl, ?_⟩) (by assumption) ?_
  rotate_left
  · intro w hSw
    try dsimp only at hSw
    go_simp
    all_goals with_reducible rfl
  try simp only [Act.put, List.setIfInBounds_toArray, List.set_cons_zero, List.set_cons_succ]
  refine wpAnyH_take (i := 62) (oi := { dst := some 129, op := Op.pick (Operand.tmp 126) (Operand.tmp 128) (Operand.const (Value.bool false)), type := 4, pos := "law.go:19", after := #[{ on := 59, ground := Ground.data }, { on := 61, ground := Ground.data }], guard := none }) (v := ?_) rfl (by kernel_rfl) (by kernel_rfl) (by kernel_rfl) (fun _ _ _ h => h) (Or.inl ⟨by rfl, ?_⟩) (by assumption) ?_
  rotate_left
  · intro w hSw
    try dsimp only at hSw
    go_simp
    all_goals with_reducible rfl
  try simp only [Act.put, List.setIfInBounds_toArray, List.set_cons_zero, List.set_cons_succ]
  refine wpAnyH_take (i := 63) (oi := { dst := some 0, op := Op.assign (Operand.tmp 129), type := 4, pos := "law.go:19", after := ([{ on := 62, ground := Ground.data }, { on := 59, ground := Ground.chain }, { on := 0, ground := Ground.phase }, { on := 1, ground := Ground.phase }, { on := 2, ground := Ground.phase }, { on := 3, ground := Ground.phase }, { on := 4, ground := Ground.phase }, { on := 5, ground := Ground.phase }, { on := 6, ground := Ground.phase }, { on := 7, ground := Ground.phase }, { on := 8, ground := Ground.phase }, { on := 9, ground := Ground.phase }, { on := 10, ground := Ground.phase }, { on := 11, ground := Ground.phase }, { on := 12, ground := Ground.phase }, { on := 13, ground := Ground.phase }, { on := 14, ground := Ground.phase }, { on := 15, ground := Ground.phase }, { on := 16, ground := Ground.phase }, { on := 17, ground := Ground.phase }, { on := 18, ground := Ground.phase }, { on := 19, ground := Ground.phase }, { on := 20, ground := Ground.phase }, { on := 21, ground := Ground.phase }, { on := 22, ground := Ground.phase }, { on := 23, ground := Ground.phase }, { on := 24, ground := Ground.phase }, { on := 25, ground := Ground.phase }, { on := 26, ground := Ground.phase }, { on := 27, ground := Ground.phase }, { on := 28, ground := Ground.phase }, { on := 29, ground := Ground.phase }].append [{ on := 30, ground := Ground.phase }, { on := 31, ground := Ground.phase }, { on := 32, ground := Ground.phase }, { on := 33, ground := Ground.phase }, { on := 34, ground := Ground.phase }, { on := 35, ground := Ground.phase }, { on := 36, ground := Ground.phase }, { on := 37, ground := Ground.phase }, { on := 38, ground := Ground.phase }, { on := 39, ground := Ground.phase }, { on := 40, ground := Ground.phase }, { on := 41, ground := Ground.phase }, { on := 42, ground := Ground.phase }, { on := 43, ground := Ground.phase }, { on := 44, ground := Ground.phase }, { on := 45, ground := Ground.phase }, { on := 46, ground := Ground.phase }, { on := 47, ground := Ground.phase }, { on := 48, ground := Ground.phase }, { on := 49, ground := Ground.phase }, { on := 50, ground := Ground.phase }, { on := 51, ground := Ground.phase }, { on := 52, ground := Ground.phase }, { on := 53, ground := Ground.phase }, { on := 54, ground := Ground.phase }, { on := 55, ground := Ground.phase }, { on := 56, ground := Ground.phase }, { on := 57, ground := Ground.phase }, { on := 58, ground := Ground.phase }, { on := 59, ground := Ground.phase }, { on := 60, ground := Ground.phase }, { on := 61, ground := Ground.phase }, { on := 62, ground := Ground.phase }]).toArray, guard := none }) (v := ?_) rfl (by kernel_rfl) (by kernel_rfl) (by kernel_rfl) (fun _ _ _ h => h) (Or.inl ⟨by rfl, ?_⟩) (by assumption) ?_
  rotate_left
  · intro w hSw
    try dsimp only at hSw
    go_simp
    all_goals with_reducible rfl
  try simp only [Act.put, List.setIfInBounds_toArray, List.set_cons_zero, List.set_cons_succ]
  refine wpAnyH_done (by kernel_rfl) ?_ _
  go_wp2_with fail
  go_ret
  exact ⟨rfl, below_via2 HB12.out hHeld.1⟩
end Go.Proofs.Ytckjmbpagippkaa
end

section
-- Written by a program of this session (wip/tools/myprint.py), over the kit's print.
namespace Go.Proofs.Ytckjmbpagippkaa.G
open Go.RowKit Go.Proofs.YtckjmbpagippkaaW.PrintWords Go.Proofs.YtckjmbpagippkaaW.PrintLast Go.Proofs.YtckjmbpagippkaaW.PrintMore
attribute [local go_sem] max2_int min2_int max_two min_two max_three min_three max_four min_four   -- for this text's walks alone
set_option linter.unusedVariables false
set_option linter.unusedSimpArgs false

-- BY HAND
-- IMPORT YtckjmbpagippkaaSmall03
def rosettelaw03_small.f : Option Bool := some true
theorem rosettelaw03_small.calls (r : Bool) (w : World) (h : rosettelaw03_small.f = some r) :
    Calls Try.prog 8 #[] w fun e w' => e = .returned (.bool r) ∧ Below w.heap.size w w' := by
  obtain rfl : true = r := Option.some.inj h
  exact small_any w

end Go.Proofs.Ytckjmbpagippkaa.G
end

section
-- Written by a program of this session (wip/tools/myprint.py), over the kit's print.
namespace Go.Proofs.Ytckjmbpagippkaa.G
open Go.RowKit Go.Proofs.YtckjmbpagippkaaW.PrintWords Go.Proofs.YtckjmbpagippkaaW.PrintLast Go.Proofs.YtckjmbpagippkaaW.PrintMore
attribute [local go_sem] max2_int min2_int max_two min_two max_three min_three max_four min_four   -- for this text's walks alone
set_option linter.unusedVariables false
set_option linter.unusedSimpArgs false

/-! ### rosetteref01_Open: function 22 -/
def rosetteref01_Open.f (k : Nat) (l0 : List Int) : Option (List Int × Bool) := if (wrap64 ((l0.length : Int) - 4)) < 0 then (some (([] : List Int), false)) else (if 0 ≤ (wrap64 ((l0.length : Int) - 4)) then (if (wrap64 ((l0.length : Int) - 4)) ≤ (l0.length : Int) then ((rosetteref01_Sum.f k (l0.take ((wrap64 ((l0.length : Int) - 4)) : Int).toNat)).bind fun t151 => ((rosetteref01_Low.f t151).bind fun t152 => (if (strOfNums t152).toList = (strOfNums (l0.drop ((wrap64 ((l0.length : Int) - 4)) : Int).toNat)).toList then ((some (([] : List Int) : List Int)).bind fun y156 => (if y156.length + (l0.take ((wrap64 ((l0.length : Int) - 4)) : Int).toNat).length < 140737488355328 then (some ((y156 ++ (l0.take ((wrap64 ((l0.length : Int) - 4)) : Int).toNat)), true)) else (none))) else (some (([] : List Int), false))))) else (none)) else (none))
theorem rosetteref01_Open.mono : ∀ a0 k, LeO (rosetteref01_Open.f k a0) (rosetteref01_Open.f (k + 1) a0) := by
  intro a0 k
  unfold rosetteref01_Open.f
  repeat' first
      | (with_reducible exact rosetteref01_Sum.mono _ _)
      | (with_reducible exact LeO.refl _)
      | (with_reducible exact LeO.none _)
      | (with_reducible refine LeO.ite ?_ ?_)
      | (with_reducible refine LeO.bind ?_ (fun _ => ?_))
      | exact rosetteref01_Sum.mono _ _
      | exact LeO.none _
      | refine LeO.ite ?_ ?_
      | refine LeO.bind ?_ (fun _ => ?_)
def rosetteref01_Open.T2 : Bool × List (List Nat × List Nat) := (true, [([], []), ([0], [0]), ([1], [1]), ([2], [2]), ([2], [2]), ([3, 4, 2], [2, 3, 4]), ([5, 2, 2], [2, 5]), ([6, 6, 2], [2, 6]), ([7, 2], [2, 7]), ([2], [2]), ([2], [2]), ([9, 10, 2], [2, 9, 10]), ([11, 2], [2, 11]), ([8, 12, 2], [2, 8, 12]), ([2, 13], [2, 13])])
def rosetteref01_Open.B2 : List Nat := [0, 1, 3, 7, 7, 31, 63, 127, 255, 7, 7, 1543, 3591, 8191, 16383]
theorem rosetteref01_Open.tab2 : rtab .any (opsOf Try.f22 2) = rosetteref01_Open.T2 := by kernel_rfl
theorem rosetteref01_Open.bits2 : waitsOk rosetteref01_Open.T2.2 rosetteref01_Open.B2 = true := by kernel_rfl
set_option maxHeartbeats 8000000 in
set_option maxRecDepth 100000 in
theorem rosetteref01_Open.calls (k : Nat) (A0 : Option Addr) (c0 : Nat) (l0 : List Int) (r1 : List Int) (r2 : Bool) (w : World) (hr0 : Kd.C (Kd.int .u8) w A0 l0.length l0) (hc0 : l0.length ≤ c0) (h : rosetteref01_Open.f k l0 = some (r1, r2)) :
    Calls Try.prog 22 #[.slice A0 l0.length c0] w fun e w' => ∃ v0_ : Value, e = .returned (.tuple #[v0_, .bool r2]) ∧ Kd.R (Kd.int .u8) 5 w' w.heap.size (fun _ => True) v0_ r1 ∧ Below w.heap.size w w' := by
  have HR0 := Aside0.mk hr0
  have HC0 := Aside0.mk hc0
  clear hr0 hc0
  have HB := Aside0.mk (Below.refl w.heap.size w)
  have H : (if (wrap64 ((l0.length : Int) - 4)) < 0 then (some (([] : List Int), false)) else (if 0 ≤ (wrap64 ((l0.length : Int) - 4)) then (if (wrap64 ((l0.length : Int) - 4)) ≤ (l0.length : Int) then ((rosetteref01_Sum.f k (l0.take ((wrap64 ((l0.length : Int) - 4)) : Int).toNat)).bind fun t151 => ((rosetteref01_Low.f t151).bind fun t152 => (if (strOfNums t152).toList = (strOfNums (l0.drop ((wrap64 ((l0.length : Int) - 4)) : Int).toNat)).toList then ((some (([] : List Int) : List Int)).bind fun y156 => (if y156.length + (l0.take ((wrap64 ((l0.length : Int) - 4)) : Int).toNat).length < 140737488355328 then (some ((y156 ++ (l0.take ((wrap64 ((l0.length : Int) - 4)) : Int).toNat)), true)) else (none))) else (some (([] : List Int), false))))) else (none)) else (none))) = some (r1, r2) := h
  clear h
  by_cases c2 : (wrap64 ((l0.length : Int) - 4)) < 0
  · rw [if_pos c2] at H
    have c2b0 : decide ((wrap64 ((l0.length : Int) - 4)) < 0) = true := decide_eq_true c2
    clear c2
    simp only [Option.some.injEq, Prod.mk.injEq] at H
    obtain ⟨rfl, rfl⟩ := H
    go_enter Try.func22, Try.ntmps22
    try go_wp2
    have n0_ := Aside0.mk (below_drew1 HB.out)
    clear HB
    have HB := n0_
    clear n0_
    refine start_ (n := 15) (S := fun w' => True) (ds := []) #[false, false, false, false, false, false, false, false, false, false, false, false, false, false, false] (by kernel_rfl) rfl rfl trivial (fun hHeld => ?_); refine with_tabW rosetteref01_Open.tab2 rosetteref01_Open.bits2 (fun HT_ HW_ => ?_)
    generalize w.drew = w3 at HB hHeld ⊢
    refine pure_ (i := 0) (N := some 8) (v := ?_) (a' := ?_) #[true, false, false, false, false, false, false, false, false, false, false, false, false, false, false] rfl rfl (any_of HT_.out (by kernel_rfl)) (fun _ _ _ h => h) (Or.inl ⟨by rfl, ?_⟩) ?_ ?_
    rotate_left
    · intro w'
      go_simp
      with_reducible rfl
    rotate_left
    · simp only [Act.put, List.setIfInBounds_toArray, List.set_cons_zero, List.set_cons_succ, i64_w, i32_w]
      rfl
    refine pure_ (i := 1) (N := some 9) (v := ?_) (a' := ?_) #[true, true, false, false, false, false, false, false, false, false, false, false, false, false, false] rfl rfl (any_of HT_.out (by kernel_rfl)) (fun _ _ _ h => h) (Or.inl ⟨by rfl, ?_⟩) ?_ ?_
    rotate_left
    · intro w'
      go_simp
      with_reducible rfl
    rotate_left
    · simp only [Act.put, List.setIfInBounds_toArray, List.set_cons_zero, List.set_cons_succ, i64_w, i32_w]
      rfl
    refine pure_ (i := 2) (N := some 10) (v := ?_) (a' := ?_) #[true, true, true, false, false, false, false, false, false, false, false, false, false, false, false] rfl rfl (any_of HT_.out (by kernel_rfl)) (fun _ _ _ h => h) (Or.inl ⟨by rfl, ?_⟩) ?_ ?_
    rotate_left
    · intro w'
      go_simp
      with_reducible rfl
    rotate_left
    · simp only [Act.put, List.setIfInBounds_toArray, List.set_cons_zero, List.set_cons_succ, i64_w, i32_w]
      rfl
    refine pure_ (i := 3) (N := some 11) (v := undef) (a' := ?_) #[true, true, true, true, false, false, false, false, false, false, false, false, false, false, false] rfl rfl (any_of HT_.out (by kernel_rfl)) (fun _ _ _ h => h) (Or.inr ⟨by rfl, rfl⟩) ?_ ?_
    rotate_left
    · simp only [Act.put, List.setIfInBounds_toArray, List.set_cons_zero, List.set_cons_succ, i64_w, i32_w]
      rfl
    refine pure_ (i := 4) (N := some 12) (v := undef) (a' := ?_) #[true, true, true, true, true, false, false, false, false, false, false, false, false, false, false] rfl rfl (any_of HT_.out (by kernel_rfl)) (fun _ _ _ h => h) (Or.inr ⟨by rfl, rfl⟩) ?_ ?_
    rotate_left
    · simp only [Act.put, List.setIfInBounds_toArray, List.set_cons_zero, List.set_cons_succ, i64_w, i32_w]
      rfl
    refine pure_ (i := 5) (N := some 13) (v := undef) (a' := ?_) #[true, true, true, true, true, true, false, false, false, false, false, false, false, false, false] rfl rfl (any_of HT_.out (by kernel_rfl)) (fun _ _ _ h => h) (Or.inr ⟨by rfl, rfl⟩) ?_ ?_
    rotate_left
    · simp only [Act.put, List.setIfInBounds_toArray, List.set_cons_zero, List.set_cons_succ, i64_w, i32_w]
      rfl
    refine pure_ (i := 6) (N := some 14) (v := undef) (a' := ?_) #[true, true, true, true, true, true, true, false, false, false, false, false, false, false, false] rfl rfl (any_of HT_.out (by kernel_rfl)) (fun _ _ _ h => h) (Or.inr ⟨by rfl, rfl⟩) ?_ ?_
    rotate_left
    · simp only [Act.put, List.setIfInBounds_toArray, List.set_cons_zero, List.set_cons_succ, i64_w, i32_w]
      rfl
    refine pure_ (i := 7) (N := some 15) (v := undef) (a' := ?_) #[true, true, true, true, true, true, true, true, false, false, false, false, false, false, false] rfl rfl (any_of HT_.out (by kernel_rfl)) (fun _ _ _ h => h) (Or.inr ⟨by rfl, rfl⟩) ?_ ?_
    rotate_left
    · simp only [Act.put, List.setIfInBounds_toArray, List.set_cons_zero, List.set_cons_succ, i64_w, i32_w]
      rfl
    refine pure_ (i := 8) (N := some 16) (v := undef) (a' := ?_) #[true, true, true, true, true, true, true, true, true, false, false, false, false, false, false] rfl rfl (any_of HT_.out (by kernel_rfl)) (fun _ _ _ h => h) (Or.inr ⟨by rfl, rfl⟩) ?_ ?_
    rotate_left
    · simp only [Act.put, List.setIfInBounds_toArray, List.set_cons_zero, List.set_cons_succ, i64_w, i32_w]
      rfl
    refine pure_ (i := 9) (N := some 17) (v := undef) (a' := ?_) #[true, true, true, true, true, true, true, true, true, true, false, false, false, false, false] rfl rfl (any_of HT_.out (by kernel_rfl)) (fun _ _ _ h => h) (Or.inr ⟨by rfl, rfl⟩) ?_ ?_
    rotate_left
    · simp only [Act.put, List.setIfInBounds_toArray, List.set_cons_zero, List.set_cons_succ, i64_w, i32_w]
      rfl
    refine pure_ (i := 10) (N := some 18) (v := undef) (a' := ?_) #[true, true, true, true, true, true, true, true, true, true, true, false, false, false, false] rfl rfl (any_of HT_.out (by kernel_rfl)) (fun _ _ _ h => h) (Or.inr ⟨by rfl, rfl⟩) ?_ ?_
    rotate_left
    · simp only [Act.put, List.setIfInBounds_toArray, List.set_cons_zero, List.set_cons_succ, i64_w, i32_w]
      rfl
    refine pure_ (i := 11) (N := some 19) (v := undef) (a' := ?_) #[true, true, true, true, true, true, true, true, true, true, true, true, false, false, false] rfl rfl (any_of HT_.out (by kernel_rfl)) (fun _ _ _ h => h) (Or.inr ⟨by rfl, rfl⟩) ?_ ?_
    rotate_left
    · simp only [Act.put, List.setIfInBounds_toArray, List.set_cons_zero, List.set_cons_succ, i64_w, i32_w]
      rfl
    refine pure_ (i := 12) (N := some 20) (v := undef) (a' := ?_) #[true, true, true, true, true, true, true, true, true, true, true, true, true, false, false] rfl rfl (any_of HT_.out (by kernel_rfl)) (fun _ _ _ h => h) (Or.inr ⟨by rfl, rfl⟩) ?_ ?_
    rotate_left
    · simp only [Act.put, List.setIfInBounds_toArray, List.set_cons_zero, List.set_cons_succ, i64_w, i32_w]
      rfl
    refine pure_ (i := 13) (N := some 21) (v := undef) (a' := ?_) #[true, true, true, true, true, true, true, true, true, true, true, true, true, true, false] rfl rfl (any_of HT_.out (by kernel_rfl)) (fun _ _ _ h => h) (Or.inr ⟨by rfl, rfl⟩) ?_ ?_
    rotate_left
    · simp only [Act.put, List.setIfInBounds_toArray, List.set_cons_zero, List.set_cons_succ, i64_w, i32_w]
      rfl
    refine pure_ (i := 14) (N := some 22) (v := ?_) (a' := ?_) #[true, true, true, true, true, true, true, true, true, true, true, true, true, true, true] rfl rfl (any_of HT_.out (by kernel_rfl)) (fun _ _ _ h => h) (Or.inl ⟨by rfl, ?_⟩) ?_ ?_
    rotate_left
    · intro w'
      go_simp
      with_reducible rfl
    rotate_left
    · simp only [Act.put, List.setIfInBounds_toArray, List.set_cons_zero, List.set_cons_succ, i64_w, i32_w]
      rfl
    refine done_ (done_of HT_.out (by kernel_rfl)) ?_
    try go_wp2
    go_ret2
    exact ⟨_, by first | rfl | (simp [errW_none, errW_some] <;> rfl) | (simp [*, errW_none, errW_some] <;> rfl), by first | exact Kd.R_nil _ _ _ _ _ | exact Kd.N_nil _ _ _ _ _ | exact Kd.V_nil _ _ _ _ _ | exact Kd.Q_nil _ _ _ _ _ | exact Kd.S_nil _ _ _ _ _, by repeat (first | (with_reducible first | exact HB.out | apply below_alloc | apply pw_below_drewN | apply below_drew1) | exact HB.out)⟩
  · rw [if_neg c2] at H
    have c2b0 : decide ((wrap64 ((l0.length : Int) - 4)) < 0) = false := decide_eq_false c2
    clear c2
    obtain ⟨ji4, hji4⟩ : ∃ j_ : Int, (wrap64 ((l0.length : Int) - 4)) = j_ := ⟨_, rfl⟩
    replace H : (if 0 ≤ (ji4) then (if (ji4) ≤ (l0.length : Int) then ((rosetteref01_Sum.f k (l0.take ((ji4) : Int).toNat)).bind fun t151 => ((rosetteref01_Low.f t151).bind fun t152 => (if (strOfNums t152).toList = (strOfNums (l0.drop ((ji4) : Int).toNat)).toList then ((some (([] : List Int) : List Int)).bind fun y156 => (if y156.length + (l0.take ((ji4) : Int).toNat).length < 140737488355328 then (some ((y156 ++ (l0.take ((ji4) : Int).toNat)), true)) else (none))) else (some (([] : List Int), false))))) else (none)) else (none)) = some (r1, r2) := by first | (rw [hji4] at H; exact H) | (simp only [hji4] at H ⊢; exact H)
    (try rw [hji4] at c2b0)
    have hji4w : (IntKind.i64.wrap ((l0.length : Int) - 4)) = ji4 := (i64_w _).trans hji4
    by_cases c5 : 0 ≤ (ji4)
    · rw [if_pos c5] at H
      have c5b0 := eq_true c5
      have c5b1 : decide (0 ≤ (ji4)) = true := decide_eq_true c5
      clear c5
      by_cases c6 : (ji4) ≤ (l0.length : Int)
      · rw [if_pos c6] at H
        have c6b0 := eq_true c6
        have c6b1 : decide ((ji4) ≤ (l0.length : Int)) = true := decide_eq_true c6
        clear c6
        replace H := Option.bind_eq_some_iff.mp H
        obtain ⟨t151, A70, H⟩ := H
        replace H : ((rosetteref01_Low.f t151).bind fun t152 => (if (strOfNums t152).toList = (strOfNums (l0.drop ((ji4) : Int).toNat)).toList then ((some (([] : List Int) : List Int)).bind fun y156 => (if y156.length + (l0.take ((ji4) : Int).toNat).length < 140737488355328 then (some ((y156 ++ (l0.take ((ji4) : Int).toNat)), true)) else (none))) else (some (([] : List Int), false)))) = some (r1, r2) := H
        have A7 := Aside0.mk A70
        clear A70
        replace H := Option.bind_eq_some_iff.mp H
        obtain ⟨t152, A80, H⟩ := H
        replace H : (if (strOfNums t152).toList = (strOfNums (l0.drop ((ji4) : Int).toNat)).toList then ((some (([] : List Int) : List Int)).bind fun y156 => (if y156.length + (l0.take ((ji4) : Int).toNat).length < 140737488355328 then (some ((y156 ++ (l0.take ((ji4) : Int).toNat)), true)) else (none))) else (some (([] : List Int), false))) = some (r1, r2) := H
        have A8 := Aside0.mk A80
        clear A80
        have c9b0 := eq_true (of_decide_eq_true (by first | (with_reducible assumption) | assumption) : 0 ≤ (ji4))
        have c10b0 := eq_true (of_decide_eq_true (by first | (with_reducible assumption) | assumption) : (ji4) ≤ (l0.length : Int))
        by_cases c11 : (strOfNums t152).toList = (strOfNums (l0.drop ((ji4) : Int).toNat)).toList
        · rw [if_pos c11] at H
          have c11b0 : ((strOfNums t152).toList == (strOfNums (l0.drop ((ji4) : Int).toNat)).toList) = true := beq_iff_eq.mpr c11
          have c11b1 : ((strOfNums t152).toList != (strOfNums (l0.drop ((ji4) : Int).toNat)).toList) = false := bne_eq_false_iff_eq.mpr c11
          clear c11
          obtain ⟨y156, hy156⟩ : ∃ y_ : List Int, y_ = (([] : List Int)) := ⟨_, rfl⟩
          replace H : (if y156.length + (l0.take ((ji4) : Int).toNat).length < 140737488355328 then (some ((y156 ++ (l0.take ((ji4) : Int).toNat)), true)) else (none)) = some (r1, r2) := by first | (rw [hy156]; with_reducible exact H) | (have H2_ := (Option.bind_some _ _).symm.trans H; rw [hy156]; with_reducible exact H2_) | (have H2_ := (Option.bind_some _ _).symm.trans H; with_reducible exact H2_) | with_reducible exact H | (rw [hy156]; exact H) | exact H
          have Ny156 := Aside0.mk hy156
          clear hy156
          have c12b0 := eq_true (of_decide_eq_true (by first | (with_reducible assumption) | assumption) : 0 ≤ (ji4))
          have c13b0 := eq_true (of_decide_eq_true (by first | (with_reducible assumption) | assumption) : (ji4) ≤ (l0.length : Int))
          by_cases c14 : y156.length + (l0.take ((ji4) : Int).toNat).length < 140737488355328
          · rw [if_pos c14] at H
            have LMc14 := Aside0.mk c14
            clear c14
            obtain ⟨y160, hy160⟩ : ∃ y_ : List Int, y_ = (y156 ++ (l0.take ((ji4) : Int).toNat)) := ⟨_, rfl⟩
            replace H : (some (y160, true)) = some (r1, r2) := by first | (rw [hy160]; with_reducible exact H) | (have H2_ := (Option.bind_some _ _).symm.trans H; rw [hy160]; with_reducible exact H2_) | (have H2_ := (Option.bind_some _ _).symm.trans H; with_reducible exact H2_) | with_reducible exact H | (rw [hy160]; exact H) | exact H
            have Ny160 := Aside0.mk hy160
            clear hy160
            simp only [Option.some.injEq, Prod.mk.injEq] at H
            obtain ⟨rfl, rfl⟩ := H
            go_enter Try.func22, Try.ntmps22
            try go_wp2
            have n0_ := Aside0.mk (below_drew1 HB.out)
            clear HB
            have HB := n0_
            clear n0_
            obtain ⟨i016, hi016, _, hsz16, _⟩ := info_parts info5
            obtain ⟨hcut16, hA16, hC16⟩ := print_take_of (P := Try.prog) (Value.int .u8) 0 22 5 .i64 Try.underlying22 hi016 hsz16 A0 c0 l0 (ji4) (of_decide_eq_true (by first | (with_reducible assumption) | assumption)) (of_decide_eq_true (by first | (with_reducible assumption) | assumption)) HC0.out
            have HR150 := Aside0.mk (Kd.C_of_reads (h1 := fun _ => rfl) (hA16 _ (Kd.reads_of_C HR0.out)))
            have HC150 := Aside0.mk hC16
            clear hA16 hC16 hi016 hsz16
            obtain ⟨i017, hi017, _, hsz17, _⟩ := info_parts info5
            obtain ⟨A17, hcut17, hA17, hC17⟩ := print_drop_of (P := Try.prog) (Value.int .u8) 0 22 5 .i64 Try.underlying22 hi017 hsz17 A0 c0 l0 (ji4) (of_decide_eq_true (by first | (with_reducible assumption) | assumption)) (of_decide_eq_true (by first | (with_reducible assumption) | assumption)) HC0.out
            have HR155 := Aside0.mk (Kd.C_of_reads (h1 := fun _ => rfl) (hA17 _ (Kd.reads_of_C HR0.out)))
            have HC155 := Aside0.mk hC17
            clear hA17 hC17 hi017 hsz17
            refine start_ (n := 15) (S := fun w' => (convert 22 9 (.slice A17 (l0.length - ji4.toNat) (c0 - (ji4).toNat))).run Try.prog w' = .ok (.string (strOfNums (l0.drop ((ji4) : Int).toNat))) w') (ds := []) #[false, false, false, false, false, false, false, false, false, false, false, false, false, false, false] (by kernel_rfl) rfl rfl ((by have key_ : ∀ W_ : World, Below w.heap.size w W_ → (convert 22 9 (.slice A17 (l0.length - ji4.toNat) (c0 - (ji4).toNat))).run Try.prog W_ = .ok (.string (strOfNums (l0.drop ((ji4) : Int).toNat))) W_ := (fun W_ hb_ => by have h_ := Kd.C_string (P := Try.prog) (A := A17) (c := (c0 - (ji4).toNat)) Try.underlying22 Try.underlying5 Try.underlying9 (Kd.C_below HR155.out hb_); first | exact h_ | (rw [List.length_drop] at h_; exact h_) | (rw [List.length_take, Nat.min_eq_left (by omega)] at h_; exact h_)); first | exact key_ _ HB.out | exact key_ _ (pw_below_drewN HB.out _) | exact key_ _ (below_drew HB.out) | exact key_ _ (pw_below_drewN (below_drew HB.out) _))) (fun hHeld => ?_); refine with_tabW rosetteref01_Open.tab2 rosetteref01_Open.bits2 (fun HT_ HW_ => ?_)
            generalize w.drew = w15 at HB HR150 HR155 hHeld ⊢
            refine pure_ (i := 0) (N := some 8) (v := ?_) (a' := ?_) #[true, false, false, false, false, false, false, false, false, false, false, false, false, false, false] rfl rfl (any_of HT_.out (by kernel_rfl)) (fun _ _ _ h => h) (Or.inl ⟨by rfl, ?_⟩) ?_ ?_
            rotate_left
            · intro w'
              go_simp
              with_reducible rfl
            rotate_left
            · simp only [Act.put, List.setIfInBounds_toArray, List.set_cons_zero, List.set_cons_succ, i64_w, i32_w]
              rfl
            refine pure_ (i := 1) (N := some 9) (v := ?_) (a' := ?_) #[true, true, false, false, false, false, false, false, false, false, false, false, false, false, false] rfl rfl (any_of HT_.out (by kernel_rfl)) (fun _ _ _ h => h) (Or.inl ⟨by rfl, ?_⟩) ?_ ?_
            rotate_left
            · intro w'
              go_simp
              with_reducible rfl
            rotate_left
            · simp only [Act.put, List.setIfInBounds_toArray, List.set_cons_zero, List.set_cons_succ, i64_w, i32_w]
              rfl
            refine pure_ (i := 2) (N := some 10) (v := ?_) (a' := ?_) #[true, true, true, false, false, false, false, false, false, false, false, false, false, false, false] rfl rfl (any_of HT_.out (by kernel_rfl)) (fun _ _ _ h => h) (Or.inl ⟨by rfl, ?_⟩) ?_ ?_
            rotate_left
            · intro w'
              go_simp
              with_reducible rfl
            rotate_left
            · simp only [Act.put, List.setIfInBounds_toArray, List.set_cons_zero, List.set_cons_succ, i64_w, i32_w]
              rfl
            refine pure_ (i := 3) (N := some 11) (v := ?_) (a' := ?_) #[true, true, true, true, false, false, false, false, false, false, false, false, false, false, false] rfl rfl (any_of HT_.out (by kernel_rfl)) (fun _ _ _ h => h) (Or.inl ⟨by rfl, ?_⟩) ?_ ?_
            rotate_left
            · intro w'
              go_simp
              with_reducible rfl
            rotate_left
            · simp only [Act.put, List.setIfInBounds_toArray, List.set_cons_zero, List.set_cons_succ, i64_w, i32_w]
              rfl
            refine pure_ (i := 4) (N := some 12) (v := ?_) (a' := ?_) #[true, true, true, true, true, false, false, false, false, false, false, false, false, false, false] rfl rfl (any_of HT_.out (by kernel_rfl)) (fun _ _ _ h => h) (Or.inl ⟨by rfl, ?_⟩) ?_ ?_
            rotate_left
            · intro w'
              go_simp
              with_reducible rfl
            rotate_left
            · simp only [Act.put, List.setIfInBounds_toArray, List.set_cons_zero, List.set_cons_succ, i64_w, i32_w]
              rfl
            refine pure_ (i := 5) (N := some 13) (v := ?_) (a' := ?_) #[true, true, true, true, true, true, false, false, false, false, false, false, false, false, false] rfl rfl (any_of HT_.out (by kernel_rfl)) (fun _ _ _ h => h) (Or.inl ⟨by rfl, ?_⟩) ?_ ?_
            rotate_left
            · intro w'
              go_simp
              with_reducible rfl
            rotate_left
            · simp only [Act.put, List.setIfInBounds_toArray, List.set_cons_zero, List.set_cons_succ, i64_w, i32_w]
              rfl
            refine pure_ (i := 9) (N := some 17) (v := ?_) (a' := ?_) #[true, true, true, true, true, true, false, false, false, true, false, false, false, false, false] rfl rfl (any_of HT_.out (by kernel_rfl)) (fun _ _ _ h => h) (Or.inl ⟨by rfl, ?_⟩) ?_ ?_
            rotate_left
            · intro w'
              go_simp
              with_reducible rfl
            rotate_left
            · simp only [Act.put, List.setIfInBounds_toArray, List.set_cons_zero, List.set_cons_succ, i64_w, i32_w]
              rfl
            refine pure_ (i := 10) (N := some 18) (v := ?_) (a' := ?_) #[true, true, true, true, true, true, false, false, false, true, true, false, false, false, false] rfl rfl (any_of HT_.out (by kernel_rfl)) (fun _ _ _ h => h) (Or.inl ⟨by rfl, ?_⟩) ?_ ?_
            rotate_left
            · intro w'
              go_simp
              with_reducible rfl
            rotate_left
            · simp only [Act.put, List.setIfInBounds_toArray, List.set_cons_zero, List.set_cons_succ, i64_w, i32_w]
              rfl
            refine pure_ (i := 11) (N := some 19) (v := ?_) (a' := ?_) #[true, true, true, true, true, true, false, false, false, true, true, true, false, false, false] rfl rfl (any_of HT_.out (by kernel_rfl)) (fun _ _ _ h => h) (Or.inl ⟨by rfl, ?_⟩) ?_ ?_
            rotate_left
            · intro w'
              go_simp
              with_reducible rfl
            rotate_left
            · simp only [Act.put, List.setIfInBounds_toArray, List.set_cons_zero, List.set_cons_succ, i64_w, i32_w]
              rfl
            refine take_ (i := 12) (N := some 20) (v := ?_) (a' := ?_) #[true, true, true, true, true, true, false, false, false, true, true, true, true, false, false] rfl rfl (take_ofW HT_.out HW_.out (by kernel_rfl)) (fun _ _ _ h => h) (Or.inl ⟨by rfl, ?_⟩) hHeld ?_ ?_
            rotate_left
            · intro w' s0
              go_simp
              with_reducible rfl
            rotate_left
            · simp only [Act.put, List.setIfInBounds_toArray, List.set_cons_zero, List.set_cons_succ, i64_w, i32_w]
              rfl
            refine one_ (i := 6) (N := some 14) #[true, true, true, true, true, true, true, false, false, true, true, true, true, false, false] rfl rfl (one_of HT_.out (by kernel_rfl)) (by decide) (fun K hK => ?_)
            refine goes_ Try.func17 (by kernel_rfl) rfl #[.slice A0 (l0.take ((ji4) : Int).toNat).length c0] (by rfl) rfl rfl (by (try simp only [List.map_toArray, List.map_cons, List.map_nil]); first | done | (rw [show (l0.take ((ji4) : Int).toNat).length = (ji4).toNat from (by rw [List.length_take]; have h_ : ((ji4) : Int) ≤ (l0.length : Int) := of_decide_eq_true (by first | (with_reducible assumption) | assumption); omega)] <;> rfl) | (simp only [hji4]; rfl) | rfl | (simp only [List.length_drop, List.length_take]; rfl)) ?_
            with_reducible refine (rosetteref01_Sum.calls k _ _ (l0.take ((ji4) : Int).toNat) t151 _ ?side1 ?side2 A7.out).mono ?_
            (case side1 => repeat (first | exact (Kd.C_below HR150.out HB.out) | (with_reducible refine Kd.C_alloc ?_ _) | (with_reducible refine Kd.C_drewN ?_ _) | (with_reducible refine Kd.C_drew ?_)))
            (case side2 => exact HC150.out)
            rintro e w' ⟨rfl, ⟨nd, rfl⟩⟩
            refine ⟨_, rfl, ?_⟩
            refine hK.out _ _ ((by have key_ : ∀ W_ : World, Below w.heap.size w W_ → (convert 22 9 (.slice A17 (l0.length - ji4.toNat) (c0 - (ji4).toNat))).run Try.prog W_ = .ok (.string (strOfNums (l0.drop ((ji4) : Int).toNat))) W_ := (fun W_ hb_ => by have h_ := Kd.C_string (P := Try.prog) (A := A17) (c := (c0 - (ji4).toNat)) Try.underlying22 Try.underlying5 Try.underlying9 (Kd.C_below HR155.out hb_); first | exact h_ | (rw [List.length_drop] at h_; exact h_) | (rw [List.length_take, Nat.min_eq_left (by omega)] at h_; exact h_)); first | exact key_ _ HB.out | exact key_ _ (pw_below_drewN HB.out _) | exact key_ _ (below_drew HB.out) | exact key_ _ (pw_below_drewN (below_drew HB.out) _))) (fun hHeld => ?_)
            clear hK K
            refine norm_ (a' := ?_) ?_ ?_
            rotate_left
            · show Act.put _ (some 14) _ = _
              simp only [Act.put, List.setIfInBounds_toArray, List.set_cons_zero, List.set_cons_succ, i64_w, i32_w]
              rfl
            refine one_ (i := 7) (N := some 15) #[true, true, true, true, true, true, true, true, false, true, true, true, true, false, false] rfl rfl (one_of HT_.out (by kernel_rfl)) (by decide) (fun K hK => ?_)
            refine goes_ Try.func16 (by kernel_rfl) rfl #[.int .u32 t151] (by rfl) rfl rfl (by (try simp only [List.map_toArray, List.map_cons, List.map_nil]); first | done | rfl | (simp only [List.length_drop, List.length_take]; rfl)) ?_
            with_reducible refine (rosetteref01_Low.calls t151 t152 _ A8.out).mono ?_
            rintro e w18 ⟨v153, rfl, ho0, hb⟩
            refine ⟨_, rfl, ?_⟩
            have n0_ := Aside0.mk (Kd.R_lower ho0 (below_size (by repeat (first | (with_reducible first | exact HB.out | apply below_alloc | apply pw_below_drewN | apply below_drew1) | exact HB.out))))
            have n1_ := Aside0.mk (below_step (by repeat (first | (with_reducible first | exact HB.out | apply below_alloc | apply pw_below_drewN | apply below_drew1) | exact HB.out)) hb)
            clear HB
            have HO154 := n0_
            have HB := n1_
            clear n0_ n1_
            (try clear hb)
            (try clear hb2)
            (try clear hk)
            (try clear hi)
            (try clear ho0)
            refine hK.out _ _ ((by have key_ : ∀ W_ : World, Below w.heap.size w W_ → (convert 22 9 (.slice A17 (l0.length - ji4.toNat) (c0 - (ji4).toNat))).run Try.prog W_ = .ok (.string (strOfNums (l0.drop ((ji4) : Int).toNat))) W_ := (fun W_ hb_ => by have h_ := Kd.C_string (P := Try.prog) (A := A17) (c := (c0 - (ji4).toNat)) Try.underlying22 Try.underlying5 Try.underlying9 (Kd.C_below HR155.out hb_); first | exact h_ | (rw [List.length_drop] at h_; exact h_) | (rw [List.length_take, Nat.min_eq_left (by omega)] at h_; exact h_)); first | exact key_ _ HB.out | exact key_ _ (pw_below_drewN HB.out _) | exact key_ _ (below_drew HB.out) | exact key_ _ (pw_below_drewN (below_drew HB.out) _))) (fun hHeld => ?_)
            clear hK K
            refine norm_ (a' := ?_) ?_ ?_
            rotate_left
            · show Act.put _ (some 15) _ = _
              simp only [Act.put, List.setIfInBounds_toArray, List.set_cons_zero, List.set_cons_succ, i64_w, i32_w]
              rfl
            refine one_ (i := 8) (N := some 16) #[true, true, true, true, true, true, true, true, true, true, true, true, true, false, false] rfl rfl (one_of HT_.out (by kernel_rfl)) (by decide) (fun K hK => ?_)
            have hcv19 := own_string (P := Try.prog) Try.underlying22 Try.underlying5 Try.underlying9 (Kd.own_of_R HO154.out)
            refine value_ (w1 := ?_) (v := ?_) (by rfl) rfl ?_ ?_
            rotate_left 2
            · go_simp
              constructor
              · rfl
              · rfl
            clear hcv19
            refine hK.out _ _ ((by have key_ : ∀ W_ : World, Below w.heap.size w W_ → (convert 22 9 (.slice A17 (l0.length - ji4.toNat) (c0 - (ji4).toNat))).run Try.prog W_ = .ok (.string (strOfNums (l0.drop ((ji4) : Int).toNat))) W_ := (fun W_ hb_ => by have h_ := Kd.C_string (P := Try.prog) (A := A17) (c := (c0 - (ji4).toNat)) Try.underlying22 Try.underlying5 Try.underlying9 (Kd.C_below HR155.out hb_); first | exact h_ | (rw [List.length_drop] at h_; exact h_) | (rw [List.length_take, Nat.min_eq_left (by omega)] at h_; exact h_)); first | exact key_ _ HB.out | exact key_ _ (pw_below_drewN HB.out _) | exact key_ _ (below_drew HB.out) | exact key_ _ (pw_below_drewN (below_drew HB.out) _))) (fun hHeld => ?_)
            clear hK K
            refine norm_ (a' := ?_) ?_ ?_
            rotate_left
            · show Act.put _ (some 16) _ = _
              simp only [Act.put, List.setIfInBounds_toArray, List.set_cons_zero, List.set_cons_succ, i64_w, i32_w]
              rfl
            refine pure_ (i := 13) (N := some 21) (v := ?_) (a' := ?_) #[true, true, true, true, true, true, true, true, true, true, true, true, true, true, false] rfl rfl (any_of HT_.out (by kernel_rfl)) (fun _ _ _ h => h) (Or.inl ⟨by rfl, ?_⟩) ?_ ?_
            rotate_left
            · intro w'
              go_simp
              with_reducible rfl
            rotate_left
            · simp only [Act.put, List.setIfInBounds_toArray, List.set_cons_zero, List.set_cons_succ, i64_w, i32_w]
              rfl
            refine pure_ (i := 14) (N := some 22) (v := ?_) (a' := ?_) #[true, true, true, true, true, true, true, true, true, true, true, true, true, true, true] rfl rfl (any_of HT_.out (by kernel_rfl)) (fun _ _ _ h => h) (Or.inl ⟨by rfl, ?_⟩) ?_ ?_
            rotate_left
            · intro w'
              go_simp
              with_reducible rfl
            rotate_left
            · simp only [Act.put, List.setIfInBounds_toArray, List.set_cons_zero, List.set_cons_succ, i64_w, i32_w]
              rfl
            refine done_ (done_of HT_.out (by kernel_rfl)) ?_
            try go_wp2_with (first | ((with_reducible refine gate_dst (N := 23) rfl ?_); refine Kd.R_lit (Kd.int .u8) _ 5 ?hg (N := 23) ?hd (xs := ([] : List Int)) (inner := []) (ok := fun _ => True) (okp := fun _ => True) ?hr ?hp (fun _ hk => hk) trivial (Below.refl _ _) (Nat.le_refl _) (by simp) ?_; (case hd => rfl); (case hg => rfl); (case hr => first | (go_simp; done) | (go_simp; rfl)); (case hp => exact (Reps.none _ _)); intro v157 w21 ho22 hb hg_ hnew_; clear hg_ hnew_; (first | rw [← Ny156.out] at ho22 | (simp only [Int.reduceToNat] at ho22; rw [← Ny156.out] at ho22)); have n0_ := Aside0.mk (Kd.R_elder' (by (with_reducible repeat (first | apply Kd.R_alloc | apply Kd.R_drewN | apply Kd.R_drew)); exact HO154.out) (Kd.R_base ho22) hb); have n1_ := Aside0.mk (Kd.R_lower (Kd.R_new' ho22 (Kd.R_lt (by (with_reducible repeat (first | apply Kd.R_alloc | apply Kd.R_drewN | apply Kd.R_drew)); exact HO154.out))) (below_size (by repeat (first | (with_reducible first | exact HB.out | apply below_alloc | apply pw_below_drewN | apply below_drew1) | exact HB.out)))); have n2_ := Aside0.mk (below_step (by repeat (first | (with_reducible first | exact HB.out | apply below_alloc | apply pw_below_drewN | apply below_drew1) | exact HB.out)) hb); clear HO154; clear HB; have HO154 := n0_; have HO158 := n1_; have HB := n2_; clear n0_ n1_ n2_; clear hb ho22; obtain ⟨i023, hi023, _, hsz23, _⟩ := info_parts info5; obtain ⟨hcut23, hA23, hC23⟩ := print_take_of (P := Try.prog) (Value.int .u8) 0 22 5 .i64 Try.underlying22 hi023 hsz23 A0 c0 l0 (ji4) (of_decide_eq_true (by first | (with_reducible assumption) | assumption)) (of_decide_eq_true (by first | (with_reducible assumption) | assumption)) HC0.out; have HR159 := Aside0.mk (Kd.C_of_reads (h1 := fun _ => rfl) (hA23 _ (Kd.reads_of_C HR0.out))); have HC159 := Aside0.mk hC23; clear hA23 hC23 hi023 hsz23) | ((with_reducible refine gate_builtin (b := .append) (xs := #[.tmp 23, .tmp 26]) rfl ?_); at_builtin; refine Kd.R_append_rows (Kd.int .u8) (w0 := w) w.heap.size rfl (.tmp 23) (.tmp 26) 22 5 (.int .u8 0) 1 rfl Try.underlying22 info5 rfl (by decide) (by decide) v157 y156 (l0.take ((ji4) : Int).toNat) _ _ _ (fun k_ => some k_ ≠ (v153 : Value).ownBlock) (fun _ => False) rfl rfl ?aO ?aR (fun _ _ h => h) (fun _ h => h.elim) ?aF ?aB ?aS ?aL ?_; (case aR => first | (have h_ := Kd.C_below HR159.out HB.out; rw [show (l0.take ((ji4) : Int).toNat).length = (ji4).toNat from (by rw [List.length_take]; have h_ : ((ji4) : Int) ≤ (l0.length : Int) := of_decide_eq_true (by first | (with_reducible assumption) | assumption); omega)] at h_; exact h_) | (rw [← show (l0.take ((ji4) : Int).toNat).length = (ji4).toNat from (by rw [List.length_take]; have h_ : ((ji4) : Int) ≤ (l0.length : Int) := of_decide_eq_true (by first | (with_reducible assumption) | assumption); omega)]; repeat (first | exact (Kd.C_below HR159.out HB.out) | (with_reducible refine Kd.C_alloc ?_ _) | (with_reducible refine Kd.C_drewN ?_ _) | (with_reducible refine Kd.C_drew ?_))) | (repeat (first | exact (Kd.C_below HR159.out HB.out) | (with_reducible refine Kd.C_alloc ?_ _) | (with_reducible refine Kd.C_drewN ?_ _) | (with_reducible refine Kd.C_drew ?_)))); (case aB => exact (by repeat (first | (with_reducible first | exact HB.out | apply below_alloc | apply pw_below_drewN | apply below_drew1) | exact HB.out))); (case aF => exact (fun k_ hk => Kd.fresh' (Kd.R_lt (by (with_reducible repeat (first | apply Kd.R_alloc | apply Kd.R_drewN | apply Kd.R_drew)); exact HO154.out)) k_ hk)); (case aO => exact (by (with_reducible repeat (first | apply Kd.R_alloc | apply Kd.R_drewN | apply Kd.R_drew)); exact Kd.R_mono HO158.out (fun _ hk => hk.2))); (case aS => exact (below_size (by repeat (first | (with_reducible first | exact HB.out | apply below_alloc | apply pw_below_drewN | apply below_drew1) | exact HB.out)))); (case aL => have := LMc14.out; have hlx_ := (show (l0.take ((ji4) : Int).toNat).length = (ji4).toNat from (by rw [List.length_take]; have h_ : ((ji4) : Int) ≤ (l0.length : Int) := of_decide_eq_true (by first | (with_reducible assumption) | assumption); omega)); omega); intro v161 w24 ho hb hg hat; rw [← Ny160.out] at ho; have n0_ := Aside0.mk (Kd.R_after (ok := (fun _ => True)) (by (with_reducible repeat (first | apply Kd.R_alloc | apply Kd.R_drewN | apply Kd.R_drew)); exact HO154.out) hg hat); have n1_ := Aside0.mk (hb); have n2_ := Aside0.mk (ho); clear HO154; clear HB; clear HO158; have HO154 := n0_; have HB := n1_; have HO162 := n2_; clear n0_ n1_ n2_; clear ho hb hg hat))
            go_ret2
            exact ⟨_, by first | rfl | (simp [errW_none, errW_some] <;> rfl) | (simp only [← hji4]; first | rfl | (simp [errW_none, errW_some] <;> rfl)) | (simp [*, errW_none, errW_some] <;> rfl), by (with_reducible repeat (first | apply Kd.R_alloc | apply Kd.R_drewN | apply Kd.R_drew)); exact Kd.R_mono HO162.out (fun _ hk => trivial), by repeat (first | (with_reducible first | exact HB.out | apply below_alloc | apply pw_below_drewN | apply below_drew1) | exact HB.out)⟩
          · rw [if_neg c14] at H
            exact absurd H (by simp)
        · rw [if_neg c11] at H
          have c11b0 : ((strOfNums t152).toList == (strOfNums (l0.drop ((ji4) : Int).toNat)).toList) = false := beq_eq_false_iff_ne.mpr c11
          have c11b1 : ((strOfNums t152).toList != (strOfNums (l0.drop ((ji4) : Int).toNat)).toList) = true := bne_iff_ne.mpr c11
          simp only [Option.some.injEq, Prod.mk.injEq] at H
          obtain ⟨rfl, rfl⟩ := H
          go_enter Try.func22, Try.ntmps22
          try go_wp2
          have n0_ := Aside0.mk (below_drew1 HB.out)
          clear HB
          have HB := n0_
          clear n0_
          obtain ⟨i026, hi026, _, hsz26, _⟩ := info_parts info5
          obtain ⟨hcut26, hA26, hC26⟩ := print_take_of (P := Try.prog) (Value.int .u8) 0 22 5 .i64 Try.underlying22 hi026 hsz26 A0 c0 l0 (ji4) (of_decide_eq_true (by first | (with_reducible assumption) | assumption)) (of_decide_eq_true (by first | (with_reducible assumption) | assumption)) HC0.out
          have HR150 := Aside0.mk (Kd.C_of_reads (h1 := fun _ => rfl) (hA26 _ (Kd.reads_of_C HR0.out)))
          have HC150 := Aside0.mk hC26
          clear hA26 hC26 hi026 hsz26
          obtain ⟨i027, hi027, _, hsz27, _⟩ := info_parts info5
          obtain ⟨A27, hcut27, hA27, hC27⟩ := print_drop_of (P := Try.prog) (Value.int .u8) 0 22 5 .i64 Try.underlying22 hi027 hsz27 A0 c0 l0 (ji4) (of_decide_eq_true (by first | (with_reducible assumption) | assumption)) (of_decide_eq_true (by first | (with_reducible assumption) | assumption)) HC0.out
          have HR155 := Aside0.mk (Kd.C_of_reads (h1 := fun _ => rfl) (hA27 _ (Kd.reads_of_C HR0.out)))
          have HC155 := Aside0.mk hC27
          clear hA27 hC27 hi027 hsz27
          refine start_ (n := 15) (S := fun w' => (convert 22 9 (.slice A27 (l0.length - ji4.toNat) (c0 - (ji4).toNat))).run Try.prog w' = .ok (.string (strOfNums (l0.drop ((ji4) : Int).toNat))) w') (ds := []) #[false, false, false, false, false, false, false, false, false, false, false, false, false, false, false] (by kernel_rfl) rfl rfl ((by have key_ : ∀ W_ : World, Below w.heap.size w W_ → (convert 22 9 (.slice A27 (l0.length - ji4.toNat) (c0 - (ji4).toNat))).run Try.prog W_ = .ok (.string (strOfNums (l0.drop ((ji4) : Int).toNat))) W_ := (fun W_ hb_ => by have h_ := Kd.C_string (P := Try.prog) (A := A27) (c := (c0 - (ji4).toNat)) Try.underlying22 Try.underlying5 Try.underlying9 (Kd.C_below HR155.out hb_); first | exact h_ | (rw [List.length_drop] at h_; exact h_) | (rw [List.length_take, Nat.min_eq_left (by omega)] at h_; exact h_)); first | exact key_ _ HB.out | exact key_ _ (pw_below_drewN HB.out _) | exact key_ _ (below_drew HB.out) | exact key_ _ (pw_below_drewN (below_drew HB.out) _))) (fun hHeld => ?_); refine with_tabW rosetteref01_Open.tab2 rosetteref01_Open.bits2 (fun HT_ HW_ => ?_)
          generalize w.drew = w25 at HB HR150 HR155 hHeld ⊢
          refine pure_ (i := 0) (N := some 8) (v := ?_) (a' := ?_) #[true, false, false, false, false, false, false, false, false, false, false, false, false, false, false] rfl rfl (any_of HT_.out (by kernel_rfl)) (fun _ _ _ h => h) (Or.inl ⟨by rfl, ?_⟩) ?_ ?_
          rotate_left
          · intro w'
            go_simp
            with_reducible rfl
          rotate_left
          · simp only [Act.put, List.setIfInBounds_toArray, List.set_cons_zero, List.set_cons_succ, i64_w, i32_w]
            rfl
          refine pure_ (i := 1) (N := some 9) (v := ?_) (a' := ?_) #[true, true, false, false, false, false, false, false, false, false, false, false, false, false, false] rfl rfl (any_of HT_.out (by kernel_rfl)) (fun _ _ _ h => h) (Or.inl ⟨by rfl, ?_⟩) ?_ ?_
          rotate_left
          · intro w'
            go_simp
            with_reducible rfl
          rotate_left
          · simp only [Act.put, List.setIfInBounds_toArray, List.set_cons_zero, List.set_cons_succ, i64_w, i32_w]
            rfl
          refine pure_ (i := 2) (N := some 10) (v := ?_) (a' := ?_) #[true, true, true, false, false, false, false, false, false, false, false, false, false, false, false] rfl rfl (any_of HT_.out (by kernel_rfl)) (fun _ _ _ h => h) (Or.inl ⟨by rfl, ?_⟩) ?_ ?_
          rotate_left
          · intro w'
            go_simp
            with_reducible rfl
          rotate_left
          · simp only [Act.put, List.setIfInBounds_toArray, List.set_cons_zero, List.set_cons_succ, i64_w, i32_w]
            rfl
          refine pure_ (i := 3) (N := some 11) (v := ?_) (a' := ?_) #[true, true, true, true, false, false, false, false, false, false, false, false, false, false, false] rfl rfl (any_of HT_.out (by kernel_rfl)) (fun _ _ _ h => h) (Or.inl ⟨by rfl, ?_⟩) ?_ ?_
          rotate_left
          · intro w'
            go_simp
            with_reducible rfl
          rotate_left
          · simp only [Act.put, List.setIfInBounds_toArray, List.set_cons_zero, List.set_cons_succ, i64_w, i32_w]
            rfl
          refine pure_ (i := 4) (N := some 12) (v := ?_) (a' := ?_) #[true, true, true, true, true, false, false, false, false, false, false, false, false, false, false] rfl rfl (any_of HT_.out (by kernel_rfl)) (fun _ _ _ h => h) (Or.inl ⟨by rfl, ?_⟩) ?_ ?_
          rotate_left
          · intro w'
            go_simp
            with_reducible rfl
          rotate_left
          · simp only [Act.put, List.setIfInBounds_toArray, List.set_cons_zero, List.set_cons_succ, i64_w, i32_w]
            rfl
          refine pure_ (i := 5) (N := some 13) (v := ?_) (a' := ?_) #[true, true, true, true, true, true, false, false, false, false, false, false, false, false, false] rfl rfl (any_of HT_.out (by kernel_rfl)) (fun _ _ _ h => h) (Or.inl ⟨by rfl, ?_⟩) ?_ ?_
          rotate_left
          · intro w'
            go_simp
            with_reducible rfl
          rotate_left
          · simp only [Act.put, List.setIfInBounds_toArray, List.set_cons_zero, List.set_cons_succ, i64_w, i32_w]
            rfl
          refine pure_ (i := 9) (N := some 17) (v := ?_) (a' := ?_) #[true, true, true, true, true, true, false, false, false, true, false, false, false, false, false] rfl rfl (any_of HT_.out (by kernel_rfl)) (fun _ _ _ h => h) (Or.inl ⟨by rfl, ?_⟩) ?_ ?_
          rotate_left
          · intro w'
            go_simp
            with_reducible rfl
          rotate_left
          · simp only [Act.put, List.setIfInBounds_toArray, List.set_cons_zero, List.set_cons_succ, i64_w, i32_w]
            rfl
          refine pure_ (i := 10) (N := some 18) (v := ?_) (a' := ?_) #[true, true, true, true, true, true, false, false, false, true, true, false, false, false, false] rfl rfl (any_of HT_.out (by kernel_rfl)) (fun _ _ _ h => h) (Or.inl ⟨by rfl, ?_⟩) ?_ ?_
          rotate_left
          · intro w'
            go_simp
            with_reducible rfl
          rotate_left
          · simp only [Act.put, List.setIfInBounds_toArray, List.set_cons_zero, List.set_cons_succ, i64_w, i32_w]
            rfl
          refine pure_ (i := 11) (N := some 19) (v := ?_) (a' := ?_) #[true, true, true, true, true, true, false, false, false, true, true, true, false, false, false] rfl rfl (any_of HT_.out (by kernel_rfl)) (fun _ _ _ h => h) (Or.inl ⟨by rfl, ?_⟩) ?_ ?_
          rotate_left
          · intro w'
            go_simp
            with_reducible rfl
          rotate_left
          · simp only [Act.put, List.setIfInBounds_toArray, List.set_cons_zero, List.set_cons_succ, i64_w, i32_w]
            rfl
          refine take_ (i := 12) (N := some 20) (v := ?_) (a' := ?_) #[true, true, true, true, true, true, false, false, false, true, true, true, true, false, false] rfl rfl (take_ofW HT_.out HW_.out (by kernel_rfl)) (fun _ _ _ h => h) (Or.inl ⟨by rfl, ?_⟩) hHeld ?_ ?_
          rotate_left
          · intro w' s0
            go_simp
            with_reducible rfl
          rotate_left
          · simp only [Act.put, List.setIfInBounds_toArray, List.set_cons_zero, List.set_cons_succ, i64_w, i32_w]
            rfl
          refine one_ (i := 6) (N := some 14) #[true, true, true, true, true, true, true, false, false, true, true, true, true, false, false] rfl rfl (one_of HT_.out (by kernel_rfl)) (by decide) (fun K hK => ?_)
          refine goes_ Try.func17 (by kernel_rfl) rfl #[.slice A0 (l0.take ((ji4) : Int).toNat).length c0] (by rfl) rfl rfl (by (try simp only [List.map_toArray, List.map_cons, List.map_nil]); first | done | (rw [show (l0.take ((ji4) : Int).toNat).length = (ji4).toNat from (by rw [List.length_take]; have h_ : ((ji4) : Int) ≤ (l0.length : Int) := of_decide_eq_true (by first | (with_reducible assumption) | assumption); omega)] <;> rfl) | (simp only [hji4]; rfl) | rfl | (simp only [List.length_drop, List.length_take]; rfl)) ?_
          with_reducible refine (rosetteref01_Sum.calls k _ _ (l0.take ((ji4) : Int).toNat) t151 _ ?side1 ?side2 A7.out).mono ?_
          (case side1 => repeat (first | exact (Kd.C_below HR150.out HB.out) | (with_reducible refine Kd.C_alloc ?_ _) | (with_reducible refine Kd.C_drewN ?_ _) | (with_reducible refine Kd.C_drew ?_)))
          (case side2 => exact HC150.out)
          rintro e w' ⟨rfl, ⟨nd, rfl⟩⟩
          refine ⟨_, rfl, ?_⟩
          refine hK.out _ _ ((by have key_ : ∀ W_ : World, Below w.heap.size w W_ → (convert 22 9 (.slice A27 (l0.length - ji4.toNat) (c0 - (ji4).toNat))).run Try.prog W_ = .ok (.string (strOfNums (l0.drop ((ji4) : Int).toNat))) W_ := (fun W_ hb_ => by have h_ := Kd.C_string (P := Try.prog) (A := A27) (c := (c0 - (ji4).toNat)) Try.underlying22 Try.underlying5 Try.underlying9 (Kd.C_below HR155.out hb_); first | exact h_ | (rw [List.length_drop] at h_; exact h_) | (rw [List.length_take, Nat.min_eq_left (by omega)] at h_; exact h_)); first | exact key_ _ HB.out | exact key_ _ (pw_below_drewN HB.out _) | exact key_ _ (below_drew HB.out) | exact key_ _ (pw_below_drewN (below_drew HB.out) _))) (fun hHeld => ?_)
          clear hK K
          refine norm_ (a' := ?_) ?_ ?_
          rotate_left
          · show Act.put _ (some 14) _ = _
            simp only [Act.put, List.setIfInBounds_toArray, List.set_cons_zero, List.set_cons_succ, i64_w, i32_w]
            rfl
          refine one_ (i := 7) (N := some 15) #[true, true, true, true, true, true, true, true, false, true, true, true, true, false, false] rfl rfl (one_of HT_.out (by kernel_rfl)) (by decide) (fun K hK => ?_)
          refine goes_ Try.func16 (by kernel_rfl) rfl #[.int .u32 t151] (by rfl) rfl rfl (by (try simp only [List.map_toArray, List.map_cons, List.map_nil]); first | done | rfl | (simp only [List.length_drop, List.length_take]; rfl)) ?_
          with_reducible refine (rosetteref01_Low.calls t151 t152 _ A8.out).mono ?_
          rintro e w28 ⟨v153, rfl, ho0, hb⟩
          refine ⟨_, rfl, ?_⟩
          have n0_ := Aside0.mk (Kd.R_lower ho0 (below_size (by repeat (first | (with_reducible first | exact HB.out | apply below_alloc | apply pw_below_drewN | apply below_drew1) | exact HB.out))))
          have n1_ := Aside0.mk (below_step (by repeat (first | (with_reducible first | exact HB.out | apply below_alloc | apply pw_below_drewN | apply below_drew1) | exact HB.out)) hb)
          clear HB
          have HO154 := n0_
          have HB := n1_
          clear n0_ n1_
          (try clear hb)
          (try clear hb2)
          (try clear hk)
          (try clear hi)
          (try clear ho0)
          refine hK.out _ _ ((by have key_ : ∀ W_ : World, Below w.heap.size w W_ → (convert 22 9 (.slice A27 (l0.length - ji4.toNat) (c0 - (ji4).toNat))).run Try.prog W_ = .ok (.string (strOfNums (l0.drop ((ji4) : Int).toNat))) W_ := (fun W_ hb_ => by have h_ := Kd.C_string (P := Try.prog) (A := A27) (c := (c0 - (ji4).toNat)) Try.underlying22 Try.underlying5 Try.underlying9 (Kd.C_below HR155.out hb_); first | exact h_ | (rw [List.length_drop] at h_; exact h_) | (rw [List.length_take, Nat.min_eq_left (by omega)] at h_; exact h_)); first | exact key_ _ HB.out | exact key_ _ (pw_below_drewN HB.out _) | exact key_ _ (below_drew HB.out) | exact key_ _ (pw_below_drewN (below_drew HB.out) _))) (fun hHeld => ?_)
          clear hK K
          refine norm_ (a' := ?_) ?_ ?_
          rotate_left
          · show Act.put _ (some 15) _ = _
            simp only [Act.put, List.setIfInBounds_toArray, List.set_cons_zero, List.set_cons_succ, i64_w, i32_w]
            rfl
          refine one_ (i := 8) (N := some 16) #[true, true, true, true, true, true, true, true, true, true, true, true, true, false, false] rfl rfl (one_of HT_.out (by kernel_rfl)) (by decide) (fun K hK => ?_)
          have hcv29 := own_string (P := Try.prog) Try.underlying22 Try.underlying5 Try.underlying9 (Kd.own_of_R HO154.out)
          refine value_ (w1 := ?_) (v := ?_) (by rfl) rfl ?_ ?_
          rotate_left 2
          · go_simp
            constructor
            · rfl
            · rfl
          clear hcv29
          refine hK.out _ _ ((by have key_ : ∀ W_ : World, Below w.heap.size w W_ → (convert 22 9 (.slice A27 (l0.length - ji4.toNat) (c0 - (ji4).toNat))).run Try.prog W_ = .ok (.string (strOfNums (l0.drop ((ji4) : Int).toNat))) W_ := (fun W_ hb_ => by have h_ := Kd.C_string (P := Try.prog) (A := A27) (c := (c0 - (ji4).toNat)) Try.underlying22 Try.underlying5 Try.underlying9 (Kd.C_below HR155.out hb_); first | exact h_ | (rw [List.length_drop] at h_; exact h_) | (rw [List.length_take, Nat.min_eq_left (by omega)] at h_; exact h_)); first | exact key_ _ HB.out | exact key_ _ (pw_below_drewN HB.out _) | exact key_ _ (below_drew HB.out) | exact key_ _ (pw_below_drewN (below_drew HB.out) _))) (fun hHeld => ?_)
          clear hK K
          refine norm_ (a' := ?_) ?_ ?_
          rotate_left
          · show Act.put _ (some 16) _ = _
            simp only [Act.put, List.setIfInBounds_toArray, List.set_cons_zero, List.set_cons_succ, i64_w, i32_w]
            rfl
          refine pure_ (i := 13) (N := some 21) (v := ?_) (a' := ?_) #[true, true, true, true, true, true, true, true, true, true, true, true, true, true, false] rfl rfl (any_of HT_.out (by kernel_rfl)) (fun _ _ _ h => h) (Or.inl ⟨by rfl, ?_⟩) ?_ ?_
          rotate_left
          · intro w'
            go_simp
            with_reducible rfl
          rotate_left
          · simp only [Act.put, List.setIfInBounds_toArray, List.set_cons_zero, List.set_cons_succ, i64_w, i32_w]
            rfl
          refine pure_ (i := 14) (N := some 22) (v := ?_) (a' := ?_) #[true, true, true, true, true, true, true, true, true, true, true, true, true, true, true] rfl rfl (any_of HT_.out (by kernel_rfl)) (fun _ _ _ h => h) (Or.inl ⟨by rfl, ?_⟩) ?_ ?_
          rotate_left
          · intro w'
            go_simp
            with_reducible rfl
          rotate_left
          · simp only [Act.put, List.setIfInBounds_toArray, List.set_cons_zero, List.set_cons_succ, i64_w, i32_w]
            rfl
          refine done_ (done_of HT_.out (by kernel_rfl)) ?_
          try go_wp2
          go_ret2
          exact ⟨_, by first | rfl | (simp [errW_none, errW_some] <;> rfl) | (simp only [← hji4]; first | rfl | (simp [errW_none, errW_some] <;> rfl)) | (simp [*, errW_none, errW_some] <;> rfl), by first | exact Kd.R_nil _ _ _ _ _ | exact Kd.N_nil _ _ _ _ _ | exact Kd.V_nil _ _ _ _ _ | exact Kd.Q_nil _ _ _ _ _ | exact Kd.S_nil _ _ _ _ _, by repeat (first | (with_reducible first | exact HB.out | apply below_alloc | apply pw_below_drewN | apply below_drew1) | exact HB.out)⟩
      · rw [if_neg c6] at H
        exact absurd H (by simp)
    · rw [if_neg c5] at H
      exact absurd H (by simp)

end Go.Proofs.Ytckjmbpagippkaa.G
end

section
-- Written by a program of this session (wip/tools/myprint.py), over the kit's print.
namespace Go.Proofs.Ytckjmbpagippkaa.G
open Go.RowKit Go.Proofs.YtckjmbpagippkaaW.PrintWords Go.Proofs.YtckjmbpagippkaaW.PrintLast Go.Proofs.YtckjmbpagippkaaW.PrintMore
attribute [local go_sem] max2_int min2_int max_two min_two max_three min_three max_four min_four   -- for this text's walks alone
set_option linter.unusedVariables false
set_option linter.unusedSimpArgs false

/-! ### rosetteref01_Seal: function 20 -/
def rosetteref01_Seal.f (k : Nat) (l0 : List Int) : Option (List Int) := (some (([] : List Int) : List Int)).bind fun y125 => (if y125.length + l0.length < 140737488355328 then ((some (y125 ++ l0 : List Int)).bind fun y128 => ((rosetteref01_Sum.f k l0).bind fun t131 => ((rosetteref01_Low.f t131).bind fun t132 => (if y128.length + t132.length < 140737488355328 then (some (y128 ++ t132)) else (none))))) else (none))
theorem rosetteref01_Seal.mono : ∀ a0 k, LeO (rosetteref01_Seal.f k a0) (rosetteref01_Seal.f (k + 1) a0) := by
  intro a0 k
  unfold rosetteref01_Seal.f
  repeat' first
      | (with_reducible exact rosetteref01_Sum.mono _ _)
      | (with_reducible exact LeO.refl _)
      | (with_reducible exact LeO.none _)
      | (with_reducible refine LeO.ite ?_ ?_)
      | (with_reducible refine LeO.bind ?_ (fun _ => ?_))
      | exact rosetteref01_Sum.mono _ _
      | exact LeO.none _
      | refine LeO.ite ?_ ?_
      | refine LeO.bind ?_ (fun _ => ?_)
set_option maxHeartbeats 8000000 in
set_option maxRecDepth 100000 in
theorem rosetteref01_Seal.calls (k : Nat) (A0 : Option Addr) (c0 : Nat) (l0 : List Int) (r : List Int) (w : World) (hr0 : Kd.C (Kd.int .u8) w A0 l0.length l0) (hc0 : l0.length ≤ c0) (h : rosetteref01_Seal.f k l0 = some r) :
    Calls Try.prog 20 #[.slice A0 l0.length c0] w fun e w' => ∃ v0_ : Value, e = .returned (v0_) ∧ Kd.R (Kd.int .u8) 5 w' w.heap.size (fun _ => True) v0_ r ∧ Below w.heap.size w w' := by
  have HR0 := Aside0.mk hr0
  have HC0 := Aside0.mk hc0
  clear hr0 hc0
  have HB := Aside0.mk (Below.refl w.heap.size w)
  have H : ((some (([] : List Int) : List Int)).bind fun y125 => (if y125.length + l0.length < 140737488355328 then ((some (y125 ++ l0 : List Int)).bind fun y128 => ((rosetteref01_Sum.f k l0).bind fun t131 => ((rosetteref01_Low.f t131).bind fun t132 => (if y128.length + t132.length < 140737488355328 then (some (y128 ++ t132)) else (none))))) else (none))) = some r := h
  clear h
  obtain ⟨y125, hy125⟩ : ∃ y_ : List Int, y_ = (([] : List Int)) := ⟨_, rfl⟩
  replace H : (if y125.length + l0.length < 140737488355328 then ((some (y125 ++ l0 : List Int)).bind fun y128 => ((rosetteref01_Sum.f k l0).bind fun t131 => ((rosetteref01_Low.f t131).bind fun t132 => (if y128.length + t132.length < 140737488355328 then (some (y128 ++ t132)) else (none))))) else (none)) = some r := by first | (rw [hy125]; with_reducible exact H) | (have H2_ := (Option.bind_some _ _).symm.trans H; rw [hy125]; with_reducible exact H2_) | (have H2_ := (Option.bind_some _ _).symm.trans H; with_reducible exact H2_) | with_reducible exact H | (rw [hy125]; exact H) | exact H
  have Ny125 := Aside0.mk hy125
  clear hy125
  by_cases c2 : y125.length + l0.length < 140737488355328
  · rw [if_pos c2] at H
    have LMc2 := Aside0.mk c2
    clear c2
    obtain ⟨y128, hy128⟩ : ∃ y_ : List Int, y_ = (y125 ++ l0) := ⟨_, rfl⟩
    replace H : ((rosetteref01_Sum.f k l0).bind fun t131 => ((rosetteref01_Low.f t131).bind fun t132 => (if y128.length + t132.length < 140737488355328 then (some (y128 ++ t132)) else (none)))) = some r := by first | (rw [hy128]; with_reducible exact H) | (have H2_ := (Option.bind_some _ _).symm.trans H; rw [hy128]; with_reducible exact H2_) | (have H2_ := (Option.bind_some _ _).symm.trans H; with_reducible exact H2_) | with_reducible exact H | (rw [hy128]; exact H) | exact H
    have Ny128 := Aside0.mk hy128
    clear hy128
    replace H := Option.bind_eq_some_iff.mp H
    obtain ⟨t131, A30, H⟩ := H
    replace H : ((rosetteref01_Low.f t131).bind fun t132 => (if y128.length + t132.length < 140737488355328 then (some (y128 ++ t132)) else (none))) = some r := H
    have A3 := Aside0.mk A30
    clear A30
    replace H := Option.bind_eq_some_iff.mp H
    obtain ⟨t132, A40, H⟩ := H
    replace H : (if y128.length + t132.length < 140737488355328 then (some (y128 ++ t132)) else (none)) = some r := H
    have A4 := Aside0.mk A40
    clear A40
    by_cases c5 : y128.length + t132.length < 140737488355328
    · rw [if_pos c5] at H
      have LMc5 := Aside0.mk c5
      clear c5
      obtain ⟨y135, hy135⟩ : ∃ y_ : List Int, y_ = (y128 ++ t132) := ⟨_, rfl⟩
      replace H : (some y135) = some r := by first | (rw [hy135]; with_reducible exact H) | (have H2_ := (Option.bind_some _ _).symm.trans H; rw [hy135]; with_reducible exact H2_) | (have H2_ := (Option.bind_some _ _).symm.trans H; with_reducible exact H2_) | with_reducible exact H | (rw [hy135]; exact H) | exact H
      have Ny135 := Aside0.mk hy135
      clear hy135
      obtain rfl := Option.some.inj H
      go_enter Try.func20, Try.ntmps20
      go_wp2_with (first | ((with_reducible refine gate_dst (N := 3) rfl ?_); refine Kd.R_lit (Kd.int .u8) _ 5 ?hg (N := 3) ?hd (xs := ([] : List Int)) (inner := []) (ok := fun _ => True) (okp := fun _ => True) ?hr ?hp (fun _ hk => hk) trivial (Below.refl _ _) (Nat.le_refl _) (by simp) ?_; (case hd => rfl); (case hg => rfl); (case hr => first | (go_simp; done) | (go_simp; rfl)); (case hp => exact (Reps.none _ _)); intro v126 w6 ho7 hb hg_ hnew_; clear hg_ hnew_; (first | rw [← Ny125.out] at ho7 | (simp only [Int.reduceToNat] at ho7; rw [← Ny125.out] at ho7)); have n0_ := Aside0.mk (Kd.R_lower ho7 (below_size (by repeat (first | (with_reducible first | exact HB.out | apply below_alloc | apply pw_below_drewN | apply below_drew1) | exact HB.out)))); have n1_ := Aside0.mk (below_step (by repeat (first | (with_reducible first | exact HB.out | apply below_alloc | apply pw_below_drewN | apply below_drew1) | exact HB.out)) hb); clear HB; have HO127 := n0_; have HB := n1_; clear n0_ n1_; clear hb ho7) | ((with_reducible refine gate_builtin (b := .append) (xs := #[.tmp 3, .tmp 4]) rfl ?_); at_builtin; refine Kd.R_append_rows (Kd.int .u8) (w0 := w) w.heap.size rfl (.tmp 3) (.tmp 4) 22 5 (.int .u8 0) 1 rfl Try.underlying22 info5 rfl (by decide) (by decide) v126 y125 l0 _ _ _ (fun _ => True) (fun _ => False) rfl rfl ?aO ?aR (fun _ _ h => h) (fun _ h => h.elim) ?aF ?aB ?aS ?aL ?_; (case aR => repeat (first | exact (Kd.C_below HR0.out HB.out) | (with_reducible refine Kd.C_alloc ?_ _) | (with_reducible refine Kd.C_drewN ?_ _) | (with_reducible refine Kd.C_drew ?_))); (case aB => exact (by repeat (first | (with_reducible first | exact HB.out | apply below_alloc | apply pw_below_drewN | apply below_drew1) | exact HB.out))); (case aF => exact (fun _ _ => trivial)); (case aO => exact (by (with_reducible repeat (first | apply Kd.R_alloc | apply Kd.R_drewN | apply Kd.R_drew)); exact HO127.out)); (case aS => exact (below_size (by repeat (first | (with_reducible first | exact HB.out | apply below_alloc | apply pw_below_drewN | apply below_drew1) | exact HB.out)))); (case aL => have := LMc2.out; omega); intro v129 w8 ho hb hg hat; rw [← Ny128.out] at ho; have n0_ := Aside0.mk (hb); have n1_ := Aside0.mk (ho); clear HB; clear HO127; have HB := n0_; have HO130 := n1_; clear n0_ n1_; clear ho hb hg hat) | ((with_reducible refine gate_callee (f := 17) rfl ?_); refine goesL_ (some 7) rfl rfl Try.func17 (by kernel_rfl) rfl #[.slice A0 l0.length c0] rfl (by (try simp only [List.map_toArray, List.map_cons, List.map_nil]); first | done | rfl | (simp only [List.length_drop, List.length_take]; rfl)) ?_; (with_reducible refine (rosetteref01_Sum.calls k _ _ l0 t131 _ ?side1 ?side2 A3.out).mono ?_); (case side1 => repeat (first | exact (Kd.C_below HR0.out HB.out) | (with_reducible refine Kd.C_alloc ?_ _) | (with_reducible refine Kd.C_drewN ?_ _) | (with_reducible refine Kd.C_drew ?_))); (case side2 => exact HC0.out); rintro e w' ⟨rfl, ⟨nd, rfl⟩⟩; refine ⟨_, rfl, ?_⟩) | ((with_reducible refine gate_callee (f := 16) rfl ?_); refine goesL_ (some 8) rfl rfl Try.func16 (by kernel_rfl) rfl #[.int .u32 t131] rfl (by (try simp only [List.map_toArray, List.map_cons, List.map_nil]); first | done | rfl | (simp only [List.length_drop, List.length_take]; rfl)) ?_; (with_reducible refine (rosetteref01_Low.calls t131 t132 _ A4.out).mono ?_); rintro e w9 ⟨v133, rfl, ho0, hb⟩; refine ⟨_, rfl, ?_⟩; have n0_ := Aside0.mk (Kd.R_elder' (by (with_reducible repeat (first | apply Kd.R_alloc | apply Kd.R_drewN | apply Kd.R_drew)); exact HO130.out) (Kd.R_base ho0) hb); have n1_ := Aside0.mk (Kd.R_lower (Kd.R_new' ho0 (Kd.R_lt (by (with_reducible repeat (first | apply Kd.R_alloc | apply Kd.R_drewN | apply Kd.R_drew)); exact HO130.out))) (below_size (by repeat (first | (with_reducible first | exact HB.out | apply below_alloc | apply pw_below_drewN | apply below_drew1) | exact HB.out)))); have n2_ := Aside0.mk (below_step (by repeat (first | (with_reducible first | exact HB.out | apply below_alloc | apply pw_below_drewN | apply below_drew1) | exact HB.out)) hb); clear HO130; clear HB; have HO130 := n0_; have HO134 := n1_; have HB := n2_; clear n0_ n1_ n2_; (try clear hb); (try clear hb2); (try clear hk); (try clear hi); (try clear ho0); obtain ⟨Ao11, co11, eo11⟩ := Kd.R_slice HO134.out; subst eo11) | ((with_reducible refine gate_builtin (b := .append) (xs := #[.tmp 5, .tmp 8]) rfl ?_); at_builtin; refine Kd.R_append_rows (Kd.int .u8) (w0 := w) w.heap.size rfl (.tmp 5) (.tmp 8) 22 5 (.int .u8 0) 1 rfl Try.underlying22 info5 rfl (by decide) (by decide) v129 y128 t132 _ _ _ (fun k_ => some k_ ≠ (.slice Ao11 t132.length co11 : Value).ownBlock) (fun _ => False) rfl rfl ?aO ?aR (fun _ _ h => h) (fun _ h => h.elim) ?aF ?aB ?aS ?aL ?_; (case aR => repeat (first | exact (Kd.R_reads' HO134.out).2.2 | (with_reducible refine Kd.C_alloc ?_ _) | (with_reducible refine Kd.C_drewN ?_ _) | (with_reducible refine Kd.C_drew ?_))); (case aB => exact (by repeat (first | (with_reducible first | exact HB.out | apply below_alloc | apply pw_below_drewN | apply below_drew1) | exact HB.out))); (case aF => exact (fun k_ hk => Kd.fresh' (Kd.R_lt (by (with_reducible repeat (first | apply Kd.R_alloc | apply Kd.R_drewN | apply Kd.R_drew)); exact HO134.out)) k_ hk)); (case aO => exact (by (with_reducible repeat (first | apply Kd.R_alloc | apply Kd.R_drewN | apply Kd.R_drew)); exact Kd.R_mono HO130.out (fun _ hk => hk.2))); (case aS => exact (below_size (by repeat (first | (with_reducible first | exact HB.out | apply below_alloc | apply pw_below_drewN | apply below_drew1) | exact HB.out)))); (case aL => have := LMc5.out; omega); intro v136 w10 ho hb hg hat; rw [← Ny135.out] at ho; have n0_ := Aside0.mk (Kd.R_after (ok := (fun _ => True)) (by (with_reducible repeat (first | apply Kd.R_alloc | apply Kd.R_drewN | apply Kd.R_drew)); exact HO134.out) hg hat); have n1_ := Aside0.mk (hb); have n2_ := Aside0.mk (ho); clear HO134; clear HB; clear HO130; have HO134 := n0_; have HB := n1_; have HO137 := n2_; clear n0_ n1_ n2_; clear ho hb hg hat))
      go_ret
      exact ⟨_, by first | rfl | (simp [errW_none, errW_some] <;> rfl) | (simp [*, errW_none, errW_some] <;> rfl), by (with_reducible repeat (first | apply Kd.R_alloc | apply Kd.R_drewN | apply Kd.R_drew)); exact Kd.R_mono HO137.out (fun _ hk => trivial), by repeat (first | (with_reducible first | exact HB.out | apply below_alloc | apply pw_below_drewN | apply below_drew1) | exact HB.out)⟩
    · rw [if_neg c5] at H
      exact absurd H (by simp)
  · rw [if_neg c2] at H
    exact absurd H (by simp)

end Go.Proofs.Ytckjmbpagippkaa.G
end

section
/- The document's own sums are the sums: pure laws. -/
set_option linter.unusedVariables false
set_option linter.unusedSimpArgs false
namespace Go.Proofs.Ytckjmbpagippkaa.Pure
open Go.RowKit Go.Proofs.Ytckjmbpagippkaa.G Go.Proofs.YtckjmbpagippkaaW.PrintWords Go.Proofs.YtckjmbpagippkaaW.PrintLast

theorem turned_go : ∀ (f e : Nat) (j : Nat) (n : Nat), n < 4294967296 → j + f = 8 → rosetteref01_turned.l0 (f + 1 + e) (n : Int) (j : Int) = some ((CrcM.tk f n : Nat) : Int) := by
  intro f
  induction f with
  | zero =>
    intro e j n _ h
    rw [show 0 + 1 + e = e + 1 by omega, rosetteref01_turned.l0, if_neg (by omega)]
    rfl
  | succ f ih =>
    intro e j n hn h
    have h1 : CrcM.tk (f + 1) n = CrcM.tk f (CrcM.t1 n) := rfl
    have hj : wrap64 ((j : Int) + 1) = ((j + 1 : Nat) : Int) := by rw [wrap_small _ (by omega) (by omega)]; omega
    have hd : (Int.tdiv (n : Int) 2) % 4294967296 = ((n / 2 : Nat) : Int) := by rw [Int.tdiv_eq_ediv_of_nonneg (by omega)]; omega
    have hm : Int.tmod (n : Int) 2 = ((n % 2 : Nat) : Int) := by rw [Int.tmod_eq_emod_of_nonneg (by omega)]; omega
    rw [show f + 1 + 1 + e = (f + 1 + e) + 1 by omega, rosetteref01_turned.l0, if_pos (by omega), hj, hd, hm, h1]
    have ht : CrcM.t1 n < 4294967296 := CrcM.t1_lt n hn
    rcases Nat.mod_two_eq_zero_or_one n with e2 | e2
    · rw [if_neg (by omega)]
      have : CrcM.t1 n = n / 2 := by unfold CrcM.t1; rw [if_neg (by omega)]
      rw [this]
      exact ih e (j + 1) _ (by omega) (by omega)
    · rw [if_pos (by omega)]
      have : CrcM.t1 n = (n / 2) ^^^ 3988292384 := by unfold CrcM.t1; rw [if_pos e2]
      rw [show (3988292384 : Int) = ((3988292384 : Nat) : Int) from rfl, u32_xor_nat _ _ (by omega) (by decide), ← this]
      exact ih e (j + 1) _ ht (by omega)
theorem turned_some (k n : Nat) (hn : n < 4294967296) (hk : 9 ≤ k) : rosetteref01_turned.f k (n : Int) = some ((CrcM.tk 8 n : Nat) : Int) := by
  have := turned_go 8 (k - 9) 0 n hn rfl
  rw [show 8 + 1 + (k - 9) = k by omega] at this
  exact this

theorem add_go (l : List Int) (hu : u8s l) (hl : l.length ≤ 140737488351232) : ∀ (f e i s : Nat), s < 4294967296 → i + f = l.length → rosetteref01_Add.l0 (f + 10 + e) l (s : Int) (i : Int) = some ((CrcM.run s (nats (l.drop i)) ^^^ CrcM.M : Nat) : Int) := by
  intro f
  induction f with
  | zero =>
    intro e i s hs h
    rw [show 0 + 10 + e = (9 + e) + 1 by omega, rosetteref01_Add.l0, if_neg (by omega), List.drop_of_length_le (by omega)]
    rw [show (4294967295 : Int) = ((CrcM.M : Nat) : Int) from rfl, u32_xor_nat _ _ hs (by decide)]
    rfl
  | succ f ih =>
    intro e i s hs h
    have hlt : i < l.length := by omega
    obtain ⟨c0, c1⟩ := rd_u8 hu i hlt
    obtain ⟨c, hc⟩ := Int.eq_ofNat_of_zero_le c0
    have hc256 : c < 256 := by omega
    have hj : wrap64 ((i : Int) + 1) = ((i + 1 : Nat) : Int) := by rw [wrap_small _ (by omega) (by omega)]; omega
    have hd : (Int.tdiv (s : Int) 256) % 4294967296 = ((s / 256 : Nat) : Int) := by rw [Int.tdiv_eq_ediv_of_nonneg (by omega)]; omega
    have ha : Go.bits .and .u32 (s : Int) 255 = ((s % 256 : Nat) : Int) := by
      rw [show (255 : Int) = ((255 : Nat) : Int) from rfl, u32_and_nat _ _ hs (by decide)]
      exact congrArg _ (Nat.and_two_pow_sub_one_eq_mod s 8)
    rw [show f + 1 + 10 + e = (f + 10 + e) + 1 by omega, rosetteref01_Add.l0, if_pos (by omega), if_pos (by omega), hj, hd, ha, hc]
    rw [show (c : Int) % 4294967296 = (c : Int) by omega, u32_xor_nat _ _ (by omega) (by omega)]
    have hx : (s % 256) ^^^ c < 256 := Nat.xor_lt_two_pow (n := 8) (by omega) (by omega)
    rw [turned_some _ _ (by omega) (by omega)]
    simp only [Option.bind_some]
    rw [u32_xor_nat _ _ (CrcM.tk_lt _ _ (by omega)) (by omega)]
    have hup : CrcM.tk 8 ((s % 256) ^^^ c) ^^^ s / 256 = CrcM.upd s c := by
      unfold CrcM.upd
      have e := CrcM.xor_mod s c 8
      simp only [show (2 : Nat) ^ 8 = 256 from rfl, Nat.mod_eq_of_lt (show c < 256 by omega)] at e
      rw [e]
    rw [hup, ih e (i + 1) _ (CrcM.upd_lt s c hs hc256) (by omega)]
    have hcons : nats (l.drop i) = c :: nats (l.drop (i + 1)) := by
      have hg : l[i] = (c : Int) := by rw [← hc]; simp [rd, List.getD_eq_getElem?_getD, hlt]
      rw [List.drop_eq_getElem_cons hlt, nats, List.map_cons, hg]
      rfl
    rw [hcons]
    rfl
theorem refadd_some {l : List Int} (hu : u8s l) (hl : l.length ≤ 140737488351232) (k n : Nat) (hn : n < 4294967296) (hk : l.length + 10 ≤ k) : rosetteref01_Add.f k (n : Int) l = some ((CrcM.add n (nats l) : Nat) : Int) := by
  unfold rosetteref01_Add.f
  rw [show (4294967295 : Int) = ((CrcM.M : Nat) : Int) from rfl, u32_xor_nat _ _ hn (by decide)]
  have := add_go l hu hl l.length (k - (l.length + 10)) 0 (n ^^^ CrcM.M) (Nat.xor_lt_two_pow (n := 32) hn CrcM.M_lt) (by omega)
  rw [show l.length + 10 + (k - (l.length + 10)) = k by omega] at this
  rw [show ((0 : Nat) : Int) = 0 from rfl] at this
  rw [this, List.drop_zero]
  rfl
theorem refsum_some {l : List Int} (hu : u8s l) (hl : l.length ≤ 140737488351232) (k : Nat) (hk : l.length + 10 ≤ k) : rosetteref01_Sum.f k l = some ((CrcM.sum (nats l) : Nat) : Int) := by
  unfold rosetteref01_Sum.f
  have := refadd_some hu hl k 0 (by decide) hk
  rw [show ((0 : Nat) : Int) = 0 from rfl] at this
  rw [this]
  rfl
theorem reflow_some (n : Nat) (hn : n < 4294967296) : rosetteref01_Low.f (n : Int) = some (zof (CrcM.low n)) := by
  unfold rosetteref01_Low.f
  rw [Int.tdiv_eq_ediv_of_nonneg (by omega), Int.tdiv_eq_ediv_of_nonneg (by omega), Int.tdiv_eq_ediv_of_nonneg (by omega)]
  simp only [zof, CrcM.low, List.map_cons, List.map_nil, Option.some.injEq, List.cons.injEq, and_true]
  refine ⟨?_, ?_, ?_, ?_⟩ <;> omega
theorem refseal_some {l : List Int} (hu : u8s l) (hl : l.length ≤ 140737488351232) (k : Nat) (hk : l.length + 10 ≤ k) : rosetteref01_Seal.f k l = some (zof (CrcM.sealB (nats l))) := by
  unfold rosetteref01_Seal.f
  simp only [Option.bind_some, List.nil_append]
  rw [if_pos (by simp; omega)]
  rw [refsum_some hu hl k hk]
  simp only [Option.bind_some]
  rw [reflow_some _ (CrcM.sum_lt _ (u8s_nats hu))]
  simp only [Option.bind_some]
  rw [if_pos (by rw [zof_length]; simp [CrcM.low]; omega), CrcM.sealB, zof_append, zof_nats hu]
theorem refopen_some {l : List Int} (h : u8s l) (hl : l.length ≤ 140737488351232) (k : Nat) (hk : l.length + 10 ≤ k) : rosetteref01_Open.f k l = some (opened (CrcM.openB (nats l))) := by
  unfold rosetteref01_Open.f CrcM.openB
  rw [nats_length, wrap_small _ (by omega) (by omega)]
  by_cases h4 : l.length < 4
  · rw [if_pos (by omega), if_pos h4]; rfl
  · rw [if_neg (by omega), if_pos (by omega), if_pos (by omega), if_neg h4]
    rw [show ((l.length : Int) - 4).toNat = l.length - 4 by omega]
    have ht := u8s_take h (l.length - 4)
    rw [refsum_some ht (by simp; omega) k (by simp; omega)]
    simp only [Option.bind_some]
    rw [reflow_some _ (CrcM.sum_lt _ (u8s_nats ht))]
    simp only [Option.bind_some]
    rw [← nats_take, ← nats_drop]
    have hiff : (zof (CrcM.low (CrcM.sum (nats (l.take (l.length - 4))))) = l.drop (l.length - 4)) ↔ (CrcM.low (CrcM.sum (nats (l.take (l.length - 4)))) = nats (l.drop (l.length - 4))) := by
      constructor
      · intro hh; rw [← hh, nats_zof]
      · intro hh; rw [hh, zof_nats (u8s_drop h _)]
    have hs := str_eq (u8s_zof (CrcM.low_bytes (CrcM.sum (nats (l.take (l.length - 4)))))) (u8s_drop h (l.length - 4))
    by_cases he : CrcM.low (CrcM.sum (nats (l.take (l.length - 4)))) = nats (l.drop (l.length - 4))
    · rw [if_pos he, if_pos (hs.2 (hiff.2 he))]
      rw [if_pos (by simp; omega)]
      simp [opened, zof_nats ht]
    · rw [if_neg he, if_neg (fun hh => he (hiff.1 (hs.1 hh)))]
      rfl
end Go.Proofs.Ytckjmbpagippkaa.Pure
end

section
namespace CrcM
def hA (x : Nat) : Nat := x % 65536
def hB (x : Nat) : Nat := x / 2048
def hD (x : Nat) : Nat := x * 40503 / 4096 % 65536
/-- the values behind the first bit, of one class, told apart by three rows of bits -/
def ck (m c : Nat) : Nat → Nat → Nat → Nat → Nat → Bool
  | 0, _, _, _, _ => true
  | k + 1, v, A, B, D =>
    bif Nat.beq (v / 2 % m) c then
      bif (A.testBit (hA (v / 2 / m)) && (B.testBit (hB (v / 2 / m)) && D.testBit (hD (v / 2 / m)))) then false
      else ck m c k (t1 v) (A ||| 1 <<< hA (v / 2 / m)) (B ||| 1 <<< hB (v / 2 / m)) (D ||| 1 <<< hD (v / 2 / m))
    else ck m c k (t1 v) A B D
def cks (m n : Nat) : Nat → Bool
  | 0 => true
  | c + 1 => ck m c n 1 0 0 0 && cks m n c

theorem tk_succ (s n : Nat) : tk (s + 1) n = t1 (tk s n) := by rw [tk_add]; rfl

theorem put_bit (A h i : Nat) : (A ||| 1 <<< h).testBit i = (A.testBit i || decide (h = i)) := by
  rw [Nat.testBit_or, Nat.one_shiftLeft, Nat.testBit_two_pow]

theorem ck_sound (m c k : Nat) : ∀ (s A B D : Nat), ck m c k (tk s 1) A B D = true →
    (∀ i, i < s → tk i 1 / 2 % m = c → A.testBit (hA (tk i 1 / 2 / m)) = true ∧ B.testBit (hB (tk i 1 / 2 / m)) = true ∧ D.testBit (hD (tk i 1 / 2 / m)) = true) →
    ∀ j, s ≤ j → j < s + k → tk j 1 / 2 % m = c → ∀ i, i < j → tk i 1 / 2 ≠ tk j 1 / 2 := by
  induction k with
  | zero => intro s A B D _ _ j h1 h2; omega
  | succ k ih =>
    intro s A B D h hP j h1 h2 hjc i hij
    rw [ck] at h
    by_cases hc : tk s 1 / 2 % m = c
    · rw [show Nat.beq (tk s 1 / 2 % m) c = true from by rw [hc]; exact Nat.beq_refl c, cond_true] at h
      by_cases hb : (A.testBit (hA (tk s 1 / 2 / m)) && (B.testBit (hB (tk s 1 / 2 / m)) && D.testBit (hD (tk s 1 / 2 / m)))) = true
      · rw [hb, cond_true] at h; cases h
      · rw [Bool.not_eq_true] at hb
        rw [hb, cond_false, ← tk_succ] at h
        by_cases hj : j = s
        · subst hj
          intro e
          have hi := hP i hij (by rw [e]; exact hc)
          rw [e] at hi
          rw [hi.1, hi.2.1, hi.2.2] at hb
          cases hb
        · refine ih (s + 1) _ _ _ h ?_ j (by omega) (by omega) hjc i hij
          intro i' hi' hic
          simp only [put_bit]
          by_cases e : i' = s
          · subst e; simp
          · obtain ⟨p, q, r⟩ := hP i' (by omega) hic
            rw [p, q, r]; simp
    · have hbq : Nat.beq (tk s 1 / 2 % m) c = false := by
        cases hq : Nat.beq (tk s 1 / 2 % m) c
        · rfl
        · exact absurd (Nat.eq_of_beq_eq_true hq) hc
      rw [hbq, cond_false, ← tk_succ] at h
      have hjs : j ≠ s := fun e => hc (e ▸ hjc)
      refine ih (s + 1) _ _ _ h ?_ j (by omega) (by omega) hjc i hij
      intro i' hi' hic
      have : i' ≠ s := fun e => hc (e ▸ hic)
      exact hP i' (by omega) hic

theorem cks_class (m n : Nat) : ∀ c, cks m n c = true → ∀ d, d < c → ck m d n 1 0 0 0 = true := by
  intro c
  induction c with
  | zero => intro _ d hd; omega
  | succ c ih =>
    intro h d hd
    rw [cks, Bool.and_eq_true] at h
    by_cases e : d = c
    · subst e; exact h.1
    · exact ih h.2 d (by omega)

theorem dist (m n : Nat) (hm : 0 < m) (h : cks m n m = true) : ∀ i j, i < j → j < n → tk i 1 / 2 ≠ tk j 1 / 2 := by
  intro i j hij hj
  exact ck_sound m (tk j 1 / 2 % m) n 0 0 0 0 (cks_class m n m h _ (Nat.mod_lt _ hm)) (fun i hi => by omega) j (Nat.zero_le _) (by omega) rfl i hij

set_option maxRecDepth 1000000
theorem cks_8032 : cks 2 8032 2 = true := by decide +kernel

/-- one, two or three places, each told once -/
def places (p q r : Nat) : List Nat := p :: ((if q ≠ p then [q] else []) ++ (if r ≠ p ∧ r ≠ q then [r] else []))

theorem wt_one (n p : Nat) : wt n [p] = tk (n - p) 1 := by simp [wt]
theorem wt_two (n p q : Nat) : wt n [p, q] = tk (n - p) 1 ^^^ tk (n - q) 1 := by simp [wt]
theorem wt_three (n p q r : Nat) : wt n [p, q, r] = tk (n - p) 1 ^^^ tk (n - q) 1 ^^^ tk (n - r) 1 := by simp [wt]

theorem one_ne' (n p : Nat) : tk (n - p) 1 ≠ 0 := tk_ne_zero _ _ (by omega) (by omega)

section
variable {N : Nat} (hd : ∀ i j, i < j → j < N → tk i 1 / 2 ≠ tk j 1 / 2)
include hd
theorem two_ne' (n p q : Nat) (hn : n ≤ N) (hp : p < n) (hq : q < n) (h : p ≠ q) : tk (n - p) 1 ^^^ tk (n - q) 1 ≠ 0 := by
  have hz : ∀ i, 0 < i → i < n → tk i 1 / 2 ≠ 0 := fun i hi h2 => by
    have := hd 0 i hi (by omega)
    rw [show tk 0 1 / 2 = 0 from rfl] at this
    exact fun e => this e.symm
  rcases Nat.lt_or_gt_of_ne h with h | h
  · exact two_ne n p q hz h hq
  · rw [Nat.xor_comm]; exact two_ne n q p hz h hp

theorem three_ne' (n p q r : Nat) (hn : n ≤ N) (hp : p < n) (hq : q < n) (hr : r < n) (h1 : p ≠ q) (h2 : p ≠ r) (h3 : q ≠ r) :
    tk (n - p) 1 ^^^ tk (n - q) 1 ^^^ tk (n - r) 1 ≠ 0 := by
  have hz : ∀ i j, i < j → j < n → tk i 1 / 2 ≠ tk j 1 / 2 := fun i j hi hj => hd i j hi (by omega)
  have X : ∀ a b c : Nat, a ^^^ b ^^^ c = a ^^^ c ^^^ b := fun a b c => by rw [Nat.xor_assoc, Nat.xor_comm b, ← Nat.xor_assoc]
  rcases Nat.lt_or_gt_of_ne h1 with h1 | h1 <;> rcases Nat.lt_or_gt_of_ne h2 with h2 | h2 <;> rcases Nat.lt_or_gt_of_ne h3 with h3 | h3
  · exact three_ne n p q r hz h1 h3 hr
  · rw [X]; exact three_ne n p r q hz h2 h3 hq
  · omega
  · rw [Nat.xor_comm, ← Nat.xor_assoc]; exact three_ne n r p q hz h2 h1 hq
  · rw [Nat.xor_comm (tk (n - p) 1)]; exact three_ne n q p r hz h1 h2 hr
  · omega
  · rw [Nat.xor_comm (tk (n - p) 1), X]; exact three_ne n q r p hz h3 h2 hp
  · rw [Nat.xor_comm, Nat.xor_comm (tk (n - p) 1), ← Nat.xor_assoc]; exact three_ne n r q p hz h3 h1 hp

theorem few_ne (n p q r : Nat) (hn : n ≤ N) (hp : p < n) (hq : q < n) (hr : r < n) : wt n (places p q r) ≠ 0 := by
  unfold places
  by_cases h1 : q ≠ p
  · by_cases h2 : r ≠ p ∧ r ≠ q
    · rw [if_pos h1, if_pos h2]
      show wt n [p, q, r] ≠ 0
      rw [wt_three]; exact three_ne' hd n p q r hn hp hq hr (Ne.symm h1) (Ne.symm h2.1) (Ne.symm h2.2)
    · rw [if_pos h1, if_neg h2]
      show wt n [p, q] ≠ 0
      rw [wt_two]; exact two_ne' hd n p q hn hp hq (Ne.symm h1)
  · by_cases h2 : r ≠ p ∧ r ≠ q
    · rw [if_neg h1, if_pos h2]
      show wt n [p, r] ≠ 0
      rw [wt_two]; exact two_ne' hd n p r hn hp hr (Ne.symm h2.1)
    · rw [if_neg h1, if_neg h2]
      show wt n [p] ≠ 0
      rw [wt_one]; exact one_ne' n p
end

theorem dist_8032 : ∀ i j, i < j → j < 8032 → tk i 1 / 2 ≠ tk j 1 / 2 := dist 2 8032 (by decide) cks_8032
end CrcM
end

section
/- bytes laid behind a sealed length: bits turned in them -/
set_option autoImplicit false
namespace CrcM

/-- a frame -/
def fr (b : List Nat) : List Nat := sealB [b.length % 256, b.length / 256] ++ sealB b
theorem fr_length (b : List Nat) : (fr b).length = b.length + 10 := by
  unfold fr; rw [List.length_append, sealB_length, sealB_length]; simp; omega
theorem fr_bytes (b : List Nat) (hb : Bytes b) (hl : b.length < 65536) : Bytes (fr b) := by
  intro c hc
  rcases List.mem_append.1 hc with h | h
  · refine sealB_bytes _ ?_ c h
    intro d hd
    simp only [List.mem_cons, List.not_mem_nil, or_false] at hd
    rcases hd with rfl | rfl <;> omega
  · exact sealB_bytes _ hb c h

theorem flip_left (A B : List Nat) (p : Nat) (hp : p < 8 * A.length) : flip (A ++ B) p = flip A p ++ B := by
  unfold flip
  have h : p / 8 < A.length := by omega
  rw [List.set_append_left _ _ h, List.getD_eq_getElem?_getD, List.getD_eq_getElem?_getD, List.getElem?_append_left h]
theorem flip_right (A B : List Nat) (p : Nat) (hp : 8 * A.length ≤ p) : flip (A ++ B) p = A ++ flip B (p - 8 * A.length) := by
  unfold flip
  have h : A.length ≤ p / 8 := by omega
  have e1 : (p - 8 * A.length) / 8 = p / 8 - A.length := by omega
  have e2 : (p - 8 * A.length) % 8 = p % 8 := by omega
  rw [List.set_append_right _ _ h, List.getD_eq_getElem?_getD, List.getD_eq_getElem?_getD, List.getElem?_append_right h, e1, e2]
def lows (n : Nat) (ps : List Nat) : List Nat := ps.filter fun p => decide (p < n)
def highs (n : Nat) (ps : List Nat) : List Nat := (ps.filter fun p => !decide (p < n)).map (· - n)
theorem flips_append (ps A B : List Nat) : flips (A ++ B) ps = flips A (lows (8 * A.length) ps) ++ flips B (highs (8 * A.length) ps) := by
  induction ps generalizing A B with
  | nil => rfl
  | cons p ps ih =>
    show flips (flip (A ++ B) p) ps = _
    unfold lows highs
    by_cases hp : p < 8 * A.length
    · rw [flip_left A B p hp, ih, flip_length, List.filter_cons_of_pos (by simpa using hp), List.filter_cons_of_neg (by simpa using hp)]
      rfl
    · rw [flip_right A B p (by omega), ih, List.filter_cons_of_neg (by simpa using hp), List.filter_cons_of_pos (by simpa using hp)]
      rfl
theorem lows_lt (n : Nat) (ps : List Nat) : ∀ p ∈ lows n ps, p < n := fun p hp => by simpa using (List.mem_filter.1 hp).2
theorem highs_lt (n m : Nat) (ps : List Nat) (h : ∀ p ∈ ps, p < n + m) : ∀ p ∈ highs n ps, p < m := by
  intro p hp
  obtain ⟨q, hq, rfl⟩ := List.mem_map.1 hp
  obtain ⟨h1, h2⟩ := List.mem_filter.1 hq
  have := h q h1
  simp at h2
  omega
def Tells (n : Nat) (ps : List Nat) : Prop := ps = [] ∨ wt n ps ≠ 0

theorem nodup_tells {N : Nat} (hd : ∀ i j, i < j → j < N → tk i 1 / 2 ≠ tk j 1 / 2) (n : Nat) (hn : n ≤ N) (ps : List Nat) (hnd : ps.Nodup) (hl : ps.length ≤ 3) (hp : ∀ p ∈ ps, p < n) : Tells n ps := by
  match ps, hnd, hl, hp with
  | [], _, _, _ => exact .inl rfl
  | [a], _, _, _ => exact .inr (by rw [wt_one]; exact one_ne' n a)
  | [a, b], h, _, hp => exact .inr (by rw [wt_two]; exact two_ne' hd n a b hn (hp a (by simp)) (hp b (by simp)) (by simpa using h))
  | [a, b, c], h, _, hp =>
    simp at h
    exact .inr (by rw [wt_three]; exact three_ne' hd n a b c hn (hp a (by simp)) (hp b (by simp)) (hp c (by simp)) h.1.1 h.1.2 h.2)
  | _ :: _ :: _ :: _ :: _, _, hl, _ => simp at hl
theorem lows_nodup (n : Nat) (ps : List Nat) (h : ps.Nodup) : (lows n ps).Nodup := h.filter _
theorem highs_nodup (n : Nat) (ps : List Nat) (h : ps.Nodup) : (highs n ps).Nodup := by
  have h2 := h.filter (fun p => !decide (p < n))
  unfold highs
  have h3 : ∀ p ∈ ps.filter (fun p => !decide (p < n)), n ≤ p := fun p hp => by simpa using (List.mem_filter.1 hp).2
  generalize ps.filter (fun p => !decide (p < n)) = qs at h2 h3
  show List.Pairwise _ _
  rw [List.pairwise_map]
  exact List.Pairwise.imp_of_mem (fun ha hb hne => by have := h3 _ ha; have := h3 _ hb; omega) h2
theorem places_nodup (p q r : Nat) : (places p q r).Nodup := by
  unfold places
  by_cases h1 : q ≠ p
  · by_cases h2 : r ≠ p ∧ r ≠ q
    · rw [if_pos h1, if_pos h2]; simp; exact ⟨⟨Ne.symm h1, Ne.symm h2.1⟩, Ne.symm h2.2⟩
    · rw [if_pos h1, if_neg h2]; simp; exact Ne.symm h1
  · by_cases h2 : r ≠ p ∧ r ≠ q
    · rw [if_neg h1, if_pos h2]; simp; exact Ne.symm h2.1
    · rw [if_neg h1, if_neg h2]; simp
theorem places_length (p q r : Nat) : (places p q r).length ≤ 3 := by
  unfold places
  split <;> split <;> simp
theorem places_in (n p q r : Nat) (hp : p < n) (hq : q < n) (hr : r < n) : ∀ z ∈ places p q r, z < n := by
  intro z hz
  unfold places at hz
  rcases List.mem_cons.1 hz with rfl | hz
  · exact hp
  · rcases List.mem_append.1 hz with hz | hz
    · split at hz
      · simp at hz; omega
      · simp at hz
    · split at hz
      · simp at hz; omega
      · simp at hz
theorem lows_few (n : Nat) (ps : List Nat) : (lows n ps).length ≤ ps.length := List.length_filter_le _ _
theorem highs_few (n : Nat) (ps : List Nat) : (highs n ps).length ≤ ps.length := by unfold highs; rw [List.length_map]; exact List.length_filter_le _ _
theorem split_ne (n : Nat) (ps : List Nat) (h : ps ≠ []) (h1 : lows n ps = []) : highs n ps ≠ [] := by
  intro h2
  apply h
  match ps, h1, h2 with
  | [], _, _ => rfl
  | p :: ps, h1, h2 =>
    unfold lows at h1; unfold highs at h2
    have h2' := List.map_eq_nil_iff.1 h2
    by_cases hp : p < n
    · rw [List.filter_cons_of_pos (by simpa using hp)] at h1; cases h1
    · rw [List.filter_cons_of_pos (by simpa using hp)] at h2'; cases h2'

/-- a burst, cut at a place -/
theorem burst_succ' (i at_ mask : Nat) : burst (i + 1) at_ mask = burst i at_ mask ++ (if mask / 2 ^ i % 2 = 1 then [at_ + i] else []) := by
  unfold burst
  rw [List.range_succ, List.filter_append, List.map_append]
  congr 1
  by_cases hb : mask / 2 ^ i % 2 = 1 <;> simp [hb]
theorem burst_lows (n at_ mask i : Nat) : lows n (burst i at_ mask) = burst (min i (n - at_)) at_ mask := by
  induction i with
  | zero => rw [Nat.zero_min]; rfl
  | succ i ih =>
    rw [burst_succ']
    unfold lows at ih ⊢
    rw [List.filter_append, ih]
    by_cases h : at_ + i < n
    · rw [show min (i + 1) (n - at_) = min i (n - at_) + 1 by omega, burst_succ', show min i (n - at_) = i by omega]
      by_cases hb : mask / 2 ^ i % 2 = 1 <;> simp [hb, h]
    · rw [show min (i + 1) (n - at_) = min i (n - at_) by omega]
      by_cases hb : mask / 2 ^ i % 2 = 1 <;> simp [hb, h]
theorem burst_highs (n at_ mask i : Nat) : highs n (burst i at_ mask) = burst (i - (n - at_)) (at_ - n) (mask / 2 ^ (n - at_)) := by
  induction i with
  | zero => rw [Nat.zero_sub]; rfl
  | succ i ih =>
    rw [burst_succ']
    unfold highs at ih ⊢
    rw [List.filter_append, List.map_append, ih]
    by_cases h : at_ + i < n
    · rw [show i + 1 - (n - at_) = i - (n - at_) by omega]
      by_cases hb : mask / 2 ^ i % 2 = 1 <;> simp [hb, h]
    · rw [show i + 1 - (n - at_) = i - (n - at_) + 1 by omega, burst_succ', Nat.div_div_eq_div_mul, ← Nat.pow_add, show n - at_ + (i - (n - at_)) = i by omega]
      by_cases hb : mask / 2 ^ i % 2 = 1
      · simp [hb, h]; omega
      · simp [hb]
theorem burst_none (i at_ mask : Nat) (h : mask % 2 ^ i = 0) : burst i at_ mask = [] := by
  induction i with
  | zero => rfl
  | succ i ih =>
    have h1 : mask % 2 ^ i = 0 := by
      have := Nat.mod_mod_of_dvd mask (Nat.pow_dvd_pow 2 (Nat.le_succ i))
      rw [h, Nat.zero_mod] at this
      exact this.symm
    rw [burst_succ', ih h1]
    have h2 := Nat.mod_pow_succ (x := mask) (b := 2) (k := i)
    rw [h, h1] at h2
    have h3 : mask / 2 ^ i % 2 = 0 := by
      rcases Nat.eq_zero_or_pos (mask / 2 ^ i % 2) with h | h
      · exact h
      · have : 0 < 2 ^ i * (mask / 2 ^ i % 2) := Nat.mul_pos (Nat.pow_pos (by decide)) h
        omega
    rw [if_neg (by omega)]; rfl
theorem burst_tells (n i at_ mask : Nat) (h : at_ + i ≤ n) (hi : i ≤ 32) : Tells n (burst i at_ mask) := by
  by_cases h0 : mask % 2 ^ i = 0
  · exact .inl (burst_none i at_ mask h0)
  · refine .inr ?_
    rw [wt_burst n at_ mask i h]
    refine tk_ne_zero _ _ ?_ h0
    have h1 : mask % 2 ^ i < 2 ^ i := Nat.mod_lt _ (Nat.pow_pos (by decide))
    have h2 : (2 : Nat) ^ i ≤ 2 ^ 32 := Nat.pow_le_pow_right (by decide) hi
    have h3 : (2 : Nat) ^ 32 = 4294967296 := by decide
    omega
theorem burst_some (at_ mask : Nat) (hm : mask < 4294967296) (h0 : mask ≠ 0) : burst 32 at_ mask ≠ [] := by
  intro h
  have := wt_burst (at_ + 32) at_ mask 32 (Nat.le_refl _)
  rw [h, Nat.mod_eq_of_lt hm] at this
  exact tk_ne_zero _ _ hm h0 this.symm
theorem burst_in' (at_ mask i p : Nat) (h : p ∈ burst i at_ mask) : p < at_ + i := by
  unfold burst at h
  obtain ⟨j, hj, rfl⟩ := List.mem_map.1 h
  have := List.mem_range.1 (List.mem_filter.1 hj).1
  omega
end CrcM
end

section
/- a frame over lists: what is made; what is found when bits are turned; when it is cut; when bytes follow -/
set_option linter.unusedVariables false
set_option linter.unusedSimpArgs false
set_option autoImplicit false
namespace Go.Proofs.Ytckjmbpagippkaa.Pure
open Go.RowKit Go.Proofs.Ytckjmbpagippkaa.G Go.Proofs.YtckjmbpagippkaaW.PrintWords Go.Proofs.YtckjmbpagippkaaW.PrintLast

def frz (l : List Int) : List Int := zof (CrcM.fr (nats l))
theorem frz_length (l : List Int) : (frz l).length = l.length + 10 := by unfold frz; rw [zof_length, CrcM.fr_length, nats_length]
theorem frz_u8s {l : List Int} (hu : u8s l) (hl : l.length ≤ 8192) : u8s (frz l) := u8s_zof (CrcM.fr_bytes _ (u8s_nats hu) (by rw [nats_length]; omega))
theorem zof_append (a b : List Nat) : zof (a ++ b) = zof a ++ zof b := by simp [zof]
theorem zof_nats {l : List Int} (h : u8s l) : zof (nats l) = l := by
  induction l with
  | nil => rfl
  | cons x l ih =>
    have := h x List.mem_cons_self
    show ((x.toNat : Nat) : Int) :: zof (nats l) = _
    rw [ih (fun y hy => h y (List.mem_cons_of_mem _ hy))]
    congr 1
    omega
def head_ (n : Nat) : List Nat := [n % 256, n / 256]
theorem head_bytes (n : Nat) (hn : n < 65536) : CrcM.Bytes (head_ n) := by
  intro d hd
  simp only [head_, List.mem_cons, List.not_mem_nil, or_false] at hd
  rcases hd with rfl | rfl <;> omega
theorem make_some {l : List Int} (hu : u8s l) (hl : l.length ≤ 8192) : frame_Make.f l = some (frz l, 0) := by
  unfold frame_Make.f
  rw [if_neg (by omega)]
  have e : ([(l.length : Int) % 256, (l.length : Int) / 256] : List Int) = zof (head_ l.length) := by
    simp [zof, head_]
  rw [e, seal_some (u8s_zof (head_bytes _ (by omega))) (by simp [zof, head_]), seal_some hu (by omega)]
  simp only [Option.bind_some]
  rw [if_pos ⟨by rw [zof_length, CrcM.sealB_length, nats_length, zof_length]; simp [head_], by rw [zof_length, CrcM.sealB_length, nats_length]; omega⟩, nats_zof]
  unfold frz CrcM.fr
  rw [zof_append, nats_length]
  rfl
theorem make_big {l : List Int} (hl : 8192 < l.length) : frame_Make.f l = some ([], 4) := by
  unfold frame_Make.f
  rw [if_pos hl]

/-- what is found in six bytes and more bytes -/
theorem next_head {A B : List Int} (hA : u8s A) (hl : A.length = 6) : frame_Next.f (A ++ B) = (some (opened (CrcM.openB (nats A)))).bind fun p => if p.2 = false then some ([], 0, 6) else if p.1.length = 2 ∧ u8s p.1 then
    (if rd p.1 0 + 256 * rd p.1 1 > 8192 then some ([], 0, 4) else if ((A ++ B).length : Int) < rd p.1 0 + 256 * rd p.1 1 + 10 then some ([], 0, 2) else
      (crc_Open.f (((A ++ B).take (rd p.1 0 + 256 * rd p.1 1 + 10).toNat).drop 6)).bind fun q => if q.2 = false then some ([], 0, 6) else some (q.1, rd p.1 0 + 256 * rd p.1 1 + 10, 0)) else none := by
  unfold frame_Next.f
  rw [if_neg (by rw [List.length_append]; omega), show (A ++ B).take 6 = A by rw [← hl]; exact List.take_left, open_some' hA (by omega)]
theorem next_head_bad {A B : List Int} (hA : u8s A) (hl : A.length = 6) (h : CrcM.openB (nats A) = none) : frame_Next.f (A ++ B) = some ([], 0, 6) := by
  rw [next_head hA hl, h]; rfl
theorem next_head_good {n : Nat} {B : List Int} (hn : n ≤ 8192) : frame_Next.f (zof (CrcM.sealB (head_ n)) ++ B) = if (6 + B.length : Nat) < n + 10 then some ([], 0, 2) else (crc_Open.f (B.take (n + 4))).bind fun q => if q.2 = false then some ([], 0, 6) else some (q.1, ((n + 10 : Nat) : Int), 0) := by
  have hA : u8s (zof (CrcM.sealB (head_ n))) := u8s_zof (CrcM.sealB_bytes _ (head_bytes _ (by omega)))
  have hl : (zof (CrcM.sealB (head_ n))).length = 6 := by rw [zof_length, CrcM.sealB_length]; rfl
  rw [next_head hA hl, nats_zof, CrcM.open_sealB]
  simp only [opened, Option.bind_some]
  have e0 : rd (zof (head_ n)) 0 = ((n % 256 : Nat) : Int) := rfl
  have e1 : rd (zof (head_ n)) 1 = ((n / 256 : Nat) : Int) := rfl
  have e2 : rd (zof (head_ n)) 0 + 256 * rd (zof (head_ n)) 1 = (n : Int) := by rw [e0, e1]; omega
  rw [if_neg (by decide), if_pos ⟨rfl, u8s_zof (head_bytes _ (by omega))⟩, e2, if_neg (by omega), List.length_append, hl]
  by_cases h : 6 + B.length < n + 10
  · rw [if_pos (by omega), if_pos h]
  · rw [if_neg (by omega), if_neg h, show ((n : Int) + 10).toNat = 6 + (n + 4) by omega]
    congr 2
    rw [← hl, List.take_length_add_append, List.drop_left]
theorem next_frame {l : List Int} (hu : u8s l) (hl : l.length ≤ 8192) (B : List Int) : frame_Next.f (frz l ++ B) = some (l, ((l.length + 10 : Nat) : Int), 0) := by
  unfold frz CrcM.fr
  rw [zof_append, List.append_assoc, nats_length]
  show frame_Next.f (zof (CrcM.sealB (head_ l.length)) ++ _) = _
  rw [next_head_good hl, if_neg (by rw [List.length_append, zof_length, CrcM.sealB_length, nats_length]; omega)]
  have e : (zof (CrcM.sealB (nats l)) ++ B).take (l.length + 4) = zof (CrcM.sealB (nats l)) := by
    have h : (zof (CrcM.sealB (nats l))).length = l.length + 4 := by rw [zof_length, CrcM.sealB_length, nats_length]
    rw [← h, List.take_left]
  rw [e, open_some' (u8s_zof (CrcM.sealB_bytes _ (u8s_nats hu))) (by rw [zof_length, CrcM.sealB_length, nats_length]; omega), nats_zof, CrcM.open_sealB]
  simp only [opened, Option.bind_some]
  rw [if_neg (by decide), zof_nats hu]
theorem next_cut {l : List Int} (hl : l.length ≤ 8192) (cut : Nat) (hc : cut < l.length + 10) : frame_Next.f ((frz l).take cut) = some ([], 0, 2) := by
  by_cases h6 : cut < 6
  · unfold frame_Next.f
    rw [if_pos (by rw [List.length_take]; omega)]
  unfold frz CrcM.fr
  rw [zof_append, nats_length]
  have hh : (zof (CrcM.sealB (head_ l.length))).length = 6 := by rw [zof_length, CrcM.sealB_length]; rfl
  obtain ⟨k, rfl⟩ : ∃ k, cut = 6 + k := ⟨cut - 6, by omega⟩
  have e : (zof (CrcM.sealB [l.length % 256, l.length / 256]) ++ zof (CrcM.sealB (nats l))).take (6 + k) = zof (CrcM.sealB (head_ l.length)) ++ (zof (CrcM.sealB (nats l))).take k := by
    rw [← hh]; exact List.take_length_add_append k
  rw [e, next_head_good hl, if_pos (by rw [List.length_take]; omega)]
/-- bits turned: an error -/
theorem next_turned {l : List Int} (hu : u8s l) (hl : l.length ≤ 8192) (ps : List Nat) (hp : ∀ p ∈ ps, p < 8 * (l.length + 10)) (h0 : ps ≠ [])
    (h1 : CrcM.Tells 48 (CrcM.lows 48 ps)) (h2 : CrcM.Tells (8 * (l.length + 4)) (CrcM.highs 48 ps)) : frame_Next.f (zof (CrcM.flips (nats (frz l)) ps)) = some ([], 0, 6) := by
  have hh : (CrcM.sealB (head_ l.length)).length = 6 := by rw [CrcM.sealB_length]; rfl
  unfold frz CrcM.fr
  rw [nats_zof, nats_length]
  show frame_Next.f (zof (CrcM.flips (CrcM.sealB (head_ l.length) ++ CrcM.sealB (nats l)) ps)) = _
  rw [CrcM.flips_append, hh, show 8 * 6 = 48 from rfl, zof_append]
  rcases h1 with h1 | h1
  · have h3 := CrcM.split_ne 48 ps h0 h1
    rcases h2 with h2 | h2
    · exact absurd h2 h3
    rw [h1]
    show frame_Next.f (zof (CrcM.sealB (head_ l.length)) ++ _) = _
    have hlen : (zof (CrcM.flips (CrcM.sealB (nats l)) (CrcM.highs 48 ps))).length = l.length + 4 := by rw [zof_length, CrcM.flips_length, CrcM.sealB_length, nats_length]
    rw [next_head_good hl, if_neg (by rw [hlen]; omega), List.take_of_length_le (by rw [hlen]; exact Nat.le_refl _),
      open_some' (u8s_zof (CrcM.flips_bytes _ _ (CrcM.sealB_bytes _ (u8s_nats hu)))) (by rw [hlen]; omega), nats_zof,
      CrcM.refused _ _ (u8s_nats hu) (by rw [nats_length]; exact CrcM.highs_lt 48 _ ps (fun p h => by have := hp p h; omega)) (by rw [nats_length]; exact h2)]
    rfl
  · refine next_head_bad (u8s_zof (CrcM.flips_bytes _ _ (CrcM.sealB_bytes _ (head_bytes _ (by omega))))) (by rw [zof_length, CrcM.flips_length, hh]) ?_
    rw [nats_zof]
    exact CrcM.refused _ _ (head_bytes _ (by omega)) (CrcM.lows_lt 48 ps) h1
theorem next_few {l : List Int} (hu : u8s l) (hl : l.length ≤ 1000) (p q r : Nat) (hp : p < 8 * (l.length + 10)) (hq : q < 8 * (l.length + 10)) (hr : r < 8 * (l.length + 10)) :
    frame_Next.f (zof (CrcM.flips (nats (frz l)) (CrcM.places p q r))) = some ([], 0, 6) := by
  have hin := CrcM.places_in _ p q r hp hq hr
  have hnd := CrcM.places_nodup p q r
  have hln := CrcM.places_length p q r
  refine next_turned hu (by omega) _ hin (by unfold CrcM.places; simp) ?_ ?_
  · exact CrcM.nodup_tells CrcM.dist_8032 48 (by decide) _ (CrcM.lows_nodup _ _ hnd) (Nat.le_trans (CrcM.lows_few _ _) hln) (CrcM.lows_lt _ _)
  · exact CrcM.nodup_tells CrcM.dist_8032 _ (by omega) _ (CrcM.highs_nodup _ _ hnd) (Nat.le_trans (CrcM.highs_few _ _) hln) (CrcM.highs_lt 48 _ _ (fun z hz => by have := hin z hz; omega))
theorem next_burst {l : List Int} (hu : u8s l) (hl : l.length ≤ 8192) (at_ mask : Nat) (ha : at_ + 32 ≤ 8 * (l.length + 10)) (hm : mask < 4294967296) (h0 : mask ≠ 0) :
    frame_Next.f (zof (CrcM.flips (nats (frz l)) (CrcM.burst 32 at_ mask))) = some ([], 0, 6) := by
  refine next_turned hu hl _ (fun p h => by have := CrcM.burst_in' _ _ _ _ h; omega) (CrcM.burst_some at_ mask hm h0) ?_ ?_
  · rw [CrcM.burst_lows]
    by_cases h : at_ ≤ 48
    · exact CrcM.burst_tells _ _ _ _ (by omega) (by omega)
    · rw [show min 32 (48 - at_) = 0 by omega]; exact .inl rfl
  · rw [CrcM.burst_highs]
    exact CrcM.burst_tells _ _ _ _ (by omega) (by omega)
end Go.Proofs.Ytckjmbpagippkaa.Pure
end

section
-- Written by a program of this session (wip/tools/myprint.py), over the kit's print.
namespace Go.Proofs.Ytckjmbpagippkaa.G
open Go.RowKit Go.Proofs.YtckjmbpagippkaaW.PrintWords Go.Proofs.YtckjmbpagippkaaW.PrintLast Go.Proofs.YtckjmbpagippkaaW.PrintMore
attribute [local go_sem] max2_int min2_int max_two min_two max_three min_three max_four min_four   -- for this text's walks alone
set_option linter.unusedVariables false
set_option linter.unusedSimpArgs false

/-! ### rosetteref03_Make: function 10 -/
def rosetteref03_Make.f (k : Nat) (l0 : List Int) : Option (List Int × Int) := if (l0.length : Int) > 8192 then (some (([] : List Int), 4)) else ((rosetteref01_Seal.f k (([(l0.length : Int) % 256, (wrap64 ((l0.length : Int) / 256)) % 256] : List Int))).bind fun t141 => ((rosetteref01_Seal.f k l0).bind fun t144 => (if t141.length + t144.length < 140737488355328 then (some ((t141 ++ t144), 0)) else (none))))
theorem rosetteref03_Make.mono : ∀ a0 k, LeO (rosetteref03_Make.f k a0) (rosetteref03_Make.f (k + 1) a0) := by
  intro a0 k
  unfold rosetteref03_Make.f
  repeat' first
      | (with_reducible exact rosetteref01_Seal.mono _ _)
      | (with_reducible exact LeO.refl _)
      | (with_reducible exact LeO.none _)
      | (with_reducible refine LeO.ite ?_ ?_)
      | (with_reducible refine LeO.bind ?_ (fun _ => ?_))
      | exact rosetteref01_Seal.mono _ _
      | exact LeO.none _
      | refine LeO.ite ?_ ?_
      | refine LeO.bind ?_ (fun _ => ?_)
set_option maxHeartbeats 8000000 in
set_option maxRecDepth 100000 in
theorem rosetteref03_Make.calls (k : Nat) (A0 : Option Addr) (c0 : Nat) (l0 : List Int) (r1 : List Int) (r2 : Int) (w : World) (hr0 : Kd.C (Kd.int .u8) w A0 l0.length l0) (hc0 : l0.length ≤ c0) (h : rosetteref03_Make.f k l0 = some (r1, r2)) :
    Calls Try.prog 10 #[.slice A0 l0.length c0] w fun e w' => ∃ v0_ : Value, e = .returned (.tuple #[v0_, .int .i64 r2]) ∧ Kd.R (Kd.int .u8) 5 w' w.heap.size (fun _ => True) v0_ r1 ∧ Below w.heap.size w w' := by
  have HR0 := Aside0.mk hr0
  have HC0 := Aside0.mk hc0
  clear hr0 hc0
  have HB := Aside0.mk (Below.refl w.heap.size w)
  have H : (if (l0.length : Int) > 8192 then (some (([] : List Int), 4)) else ((rosetteref01_Seal.f k (([(l0.length : Int) % 256, (wrap64 ((l0.length : Int) / 256)) % 256] : List Int))).bind fun t141 => ((rosetteref01_Seal.f k l0).bind fun t144 => (if t141.length + t144.length < 140737488355328 then (some ((t141 ++ t144), 0)) else (none))))) = some (r1, r2) := h
  clear h
  by_cases c2 : (l0.length : Int) > 8192
  · rw [if_pos c2] at H
    have c2b0 : decide (8192 < (l0.length : Int)) = true := decide_eq_true c2
    have c2b1 : decide (8192 < l0.length) = true := decide_eq_true (by omega)
    clear c2
    simp only [Option.some.injEq, Prod.mk.injEq] at H
    obtain ⟨rfl, rfl⟩ := H
    go_enter Try.func10, Try.ntmps10
    go_wp2
    go_ret2
    exact ⟨_, by first | rfl | (simp [errW_none, errW_some] <;> rfl) | (simp [*, errW_none, errW_some] <;> rfl), by first | exact Kd.R_nil _ _ _ _ _ | exact Kd.N_nil _ _ _ _ _ | exact Kd.V_nil _ _ _ _ _ | exact Kd.Q_nil _ _ _ _ _ | exact Kd.S_nil _ _ _ _ _, by repeat (first | (with_reducible first | exact HB.out | apply below_alloc | apply pw_below_drewN | apply below_drew1) | exact HB.out)⟩
  · rw [if_neg c2] at H
    have c2b0 : decide (8192 < (l0.length : Int)) = false := decide_eq_false c2
    have c2b1 : decide (8192 < l0.length) = false := decide_eq_false (by omega)
    clear c2
    obtain ⟨y138, hy138⟩ : ∃ y_ : List Int, y_ = (([(l0.length : Int) % 256, (wrap64 ((l0.length : Int) / 256)) % 256] : List Int)) := ⟨_, rfl⟩
    replace H : ((rosetteref01_Seal.f k y138).bind fun t141 => ((rosetteref01_Seal.f k l0).bind fun t144 => (if t141.length + t144.length < 140737488355328 then (some ((t141 ++ t144), 0)) else (none)))) = some (r1, r2) := by first | (rw [hy138]; with_reducible exact H) | (have H2_ := (Option.bind_some _ _).symm.trans H; rw [hy138]; with_reducible exact H2_) | (have H2_ := (Option.bind_some _ _).symm.trans H; with_reducible exact H2_) | with_reducible exact H | (rw [hy138]; exact H) | exact H
    have Ny138 := Aside0.mk hy138
    clear hy138
    replace H := Option.bind_eq_some_iff.mp H
    obtain ⟨t141, A30, H⟩ := H
    replace H : ((rosetteref01_Seal.f k l0).bind fun t144 => (if t141.length + t144.length < 140737488355328 then (some ((t141 ++ t144), 0)) else (none))) = some (r1, r2) := H
    have A3 := Aside0.mk A30
    clear A30
    replace H := Option.bind_eq_some_iff.mp H
    obtain ⟨t144, A40, H⟩ := H
    replace H : (if t141.length + t144.length < 140737488355328 then (some ((t141 ++ t144), 0)) else (none)) = some (r1, r2) := H
    have A4 := Aside0.mk A40
    clear A40
    by_cases c5 : t141.length + t144.length < 140737488355328
    · rw [if_pos c5] at H
      have LMc5 := Aside0.mk c5
      clear c5
      obtain ⟨y147, hy147⟩ : ∃ y_ : List Int, y_ = (t141 ++ t144) := ⟨_, rfl⟩
      replace H : (some (y147, 0)) = some (r1, r2) := by first | (rw [hy147]; with_reducible exact H) | (have H2_ := (Option.bind_some _ _).symm.trans H; rw [hy147]; with_reducible exact H2_) | (have H2_ := (Option.bind_some _ _).symm.trans H; with_reducible exact H2_) | with_reducible exact H | (rw [hy147]; exact H) | exact H
      have Ny147 := Aside0.mk hy147
      clear hy147
      simp only [Option.some.injEq, Prod.mk.injEq] at H
      obtain ⟨rfl, rfl⟩ := H
      go_enter Try.func10, Try.ntmps10
      go_wp2_with (first | ((with_reducible refine gate_dst (N := 16) rfl ?_); refine Kd.R_lit (Kd.int .u8) _ 5 ?hg (N := 16) ?hd (xs := ([(l0.length : Int) % 256, (wrap64 ((l0.length : Int) / 256)) % 256] : List Int)) (inner := [.int .u8 ((l0.length : Int) % 256), .int .u8 ((wrap64 ((l0.length : Int) / 256)) % 256)]) (ok := fun _ => True) (okp := fun _ => True) ?hr ?hp (fun _ hk => hk) trivial (Below.refl _ _) (Nat.le_refl _) (by simp) ?_; (case hd => rfl); (case hg => rfl); (case hr => first | (go_simp; done) | (go_simp; rfl)); (case hp => exact (Reps.one (show Kd.M (Kd.int .u8) _ _ _ ((l0.length : Int) % 256) [.int .u8 ((l0.length : Int) % 256)] from rfl) (Reps.one (show Kd.M (Kd.int .u8) _ _ _ ((wrap64 ((l0.length : Int) / 256)) % 256) [.int .u8 ((wrap64 ((l0.length : Int) / 256)) % 256)] from rfl) (Reps.none _ _)))); intro v139 w6 ho7 hb hg_ hnew_; clear hg_ hnew_; (first | rw [← Ny138.out] at ho7 | (simp only [Int.reduceToNat] at ho7; rw [← Ny138.out] at ho7)); have n0_ := Aside0.mk (Kd.R_lower ho7 (below_size (by repeat (first | (with_reducible first | exact HB.out | apply below_alloc | apply pw_below_drewN | apply below_drew1) | exact HB.out)))); have n1_ := Aside0.mk (below_step (by repeat (first | (with_reducible first | exact HB.out | apply below_alloc | apply pw_below_drewN | apply below_drew1) | exact HB.out)) hb); clear HB; have HO140 := n0_; have HB := n1_; clear n0_ n1_; clear hb ho7; obtain ⟨Ao8, co8, eo8⟩ := Kd.R_slice HO140.out; subst eo8) | ((with_reducible refine gate_callee (f := 20) rfl ?_); refine goesL_ (some 17) rfl rfl Try.func20 (by kernel_rfl) rfl #[.slice Ao8 y138.length co8] rfl (by (try simp only [List.map_toArray, List.map_cons, List.map_nil]); first | done | rfl | (simp only [List.length_drop, List.length_take]; rfl)) ?_; (with_reducible refine (rosetteref01_Seal.calls k _ _ y138 t141 _ ?side1 ?side2 A3.out).mono ?_); (case side1 => repeat (first | exact (Kd.R_reads' HO140.out).2.2 | (with_reducible refine Kd.C_alloc ?_ _) | (with_reducible refine Kd.C_drewN ?_ _) | (with_reducible refine Kd.C_drew ?_))); (case side2 => exact (Kd.R_reads' HO140.out).2.1); rintro e w9 ⟨v142, rfl, ho0, hb⟩; refine ⟨_, rfl, ?_⟩; have n0_ := Aside0.mk (Kd.R_elder' (by (with_reducible repeat (first | apply Kd.R_alloc | apply Kd.R_drewN | apply Kd.R_drew)); exact HO140.out) (Kd.R_base ho0) hb); have n1_ := Aside0.mk (Kd.R_lower (Kd.R_new' ho0 (Kd.R_lt (by (with_reducible repeat (first | apply Kd.R_alloc | apply Kd.R_drewN | apply Kd.R_drew)); exact HO140.out))) (below_size (by repeat (first | (with_reducible first | exact HB.out | apply below_alloc | apply pw_below_drewN | apply below_drew1) | exact HB.out)))); have n2_ := Aside0.mk (below_step (by repeat (first | (with_reducible first | exact HB.out | apply below_alloc | apply pw_below_drewN | apply below_drew1) | exact HB.out)) hb); clear HO140; clear HB; have HO140 := n0_; have HO143 := n1_; have HB := n2_; clear n0_ n1_ n2_; (try clear hb); (try clear hb2); (try clear hk); (try clear hi); (try clear ho0)) | ((with_reducible refine gate_callee (f := 20) rfl ?_); refine goesL_ (some 20) rfl rfl Try.func20 (by kernel_rfl) rfl #[.slice A0 l0.length c0] rfl (by (try simp only [List.map_toArray, List.map_cons, List.map_nil]); first | done | rfl | (simp only [List.length_drop, List.length_take]; rfl)) ?_; (with_reducible refine (rosetteref01_Seal.calls k _ _ l0 t144 _ ?side1 ?side2 A4.out).mono ?_); (case side1 => repeat (first | exact (Kd.C_below HR0.out HB.out) | (with_reducible refine Kd.C_alloc ?_ _) | (with_reducible refine Kd.C_drewN ?_ _) | (with_reducible refine Kd.C_drew ?_))); (case side2 => exact HC0.out); rintro e w10 ⟨v145, rfl, ho0, hb⟩; refine ⟨_, rfl, ?_⟩; have n0_ := Aside0.mk (Kd.R_elder' (by (with_reducible repeat (first | apply Kd.R_alloc | apply Kd.R_drewN | apply Kd.R_drew)); exact HO140.out) (Kd.R_base ho0) hb); have n1_ := Aside0.mk (Kd.R_elder' (by (with_reducible repeat (first | apply Kd.R_alloc | apply Kd.R_drewN | apply Kd.R_drew)); exact HO143.out) (Kd.R_base ho0) hb); have n2_ := Aside0.mk (Kd.R_lower (Kd.R_new' (Kd.R_new' ho0 (Kd.R_lt (by (with_reducible repeat (first | apply Kd.R_alloc | apply Kd.R_drewN | apply Kd.R_drew)); exact HO140.out))) (Kd.R_lt (by (with_reducible repeat (first | apply Kd.R_alloc | apply Kd.R_drewN | apply Kd.R_drew)); exact HO143.out))) (below_size (by repeat (first | (with_reducible first | exact HB.out | apply below_alloc | apply pw_below_drewN | apply below_drew1) | exact HB.out)))); have n3_ := Aside0.mk (below_step (by repeat (first | (with_reducible first | exact HB.out | apply below_alloc | apply pw_below_drewN | apply below_drew1) | exact HB.out)) hb); clear HO140; clear HO143; clear HB; have HO140 := n0_; have HO143 := n1_; have HO146 := n2_; have HB := n3_; clear n0_ n1_ n2_ n3_; (try clear hb); (try clear hb2); (try clear hk); (try clear hi); (try clear ho0); obtain ⟨Ao12, co12, eo12⟩ := Kd.R_slice HO146.out; subst eo12) | ((with_reducible refine gate_builtin (b := .append) (xs := #[.tmp 18, .tmp 20]) rfl ?_); at_builtin; refine Kd.R_append_rows (Kd.int .u8) (w0 := w) w.heap.size rfl (.tmp 18) (.tmp 20) 22 5 (.int .u8 0) 1 rfl Try.underlying22 info5 rfl (by decide) (by decide) v142 t141 t144 _ _ _ (fun k_ => some k_ ≠ (.slice Ao8 y138.length co8 : Value).ownBlock ∧ some k_ ≠ (.slice Ao12 t144.length co12 : Value).ownBlock) (fun _ => False) rfl rfl ?aO ?aR (fun _ _ h => h) (fun _ h => h.elim) ?aF ?aB ?aS ?aL ?_; (case aR => repeat (first | exact (Kd.R_reads' HO146.out).2.2 | (with_reducible refine Kd.C_alloc ?_ _) | (with_reducible refine Kd.C_drewN ?_ _) | (with_reducible refine Kd.C_drew ?_))); (case aB => exact (by repeat (first | (with_reducible first | exact HB.out | apply below_alloc | apply pw_below_drewN | apply below_drew1) | exact HB.out))); (case aF => exact (fun k_ hk => ⟨Kd.fresh' (Kd.R_lt (by (with_reducible repeat (first | apply Kd.R_alloc | apply Kd.R_drewN | apply Kd.R_drew)); exact HO140.out)) k_ hk, Kd.fresh' (Kd.R_lt (by (with_reducible repeat (first | apply Kd.R_alloc | apply Kd.R_drewN | apply Kd.R_drew)); exact HO146.out)) k_ hk⟩)); (case aO => exact (by (with_reducible repeat (first | apply Kd.R_alloc | apply Kd.R_drewN | apply Kd.R_drew)); exact Kd.R_mono HO143.out (fun _ hk => ⟨hk.1.2, hk.2⟩))); (case aS => exact (below_size (by repeat (first | (with_reducible first | exact HB.out | apply below_alloc | apply pw_below_drewN | apply below_drew1) | exact HB.out)))); (case aL => have := LMc5.out; omega); intro v148 w11 ho hb hg hat; rw [← Ny147.out] at ho; have n0_ := Aside0.mk (Kd.R_after (ok := (fun k_ => some k_ ≠ (.slice Ao12 t144.length co12 : Value).ownBlock)) (by (with_reducible repeat (first | apply Kd.R_alloc | apply Kd.R_drewN | apply Kd.R_drew)); exact Kd.R_mono HO140.out (fun _ hk => ⟨hk.2, hk.1.2⟩)) hg hat); have n1_ := Aside0.mk (Kd.R_after (ok := (fun k_ => some k_ ≠ (.slice Ao8 y138.length co8 : Value).ownBlock)) (by (with_reducible repeat (first | apply Kd.R_alloc | apply Kd.R_drewN | apply Kd.R_drew)); exact Kd.R_mono HO146.out (fun _ hk => ⟨hk.1.2, hk.2⟩)) hg hat); have n2_ := Aside0.mk (hb); have n3_ := Aside0.mk (ho); clear HO140; clear HO146; clear HB; clear HO143; have HO140 := n0_; have HO146 := n1_; have HB := n2_; have HO149 := n3_; clear n0_ n1_ n2_ n3_; clear ho hb hg hat))
      go_ret2
      exact ⟨_, by first | rfl | (simp [errW_none, errW_some] <;> rfl) | (simp [*, errW_none, errW_some] <;> rfl), by (with_reducible repeat (first | apply Kd.R_alloc | apply Kd.R_drewN | apply Kd.R_drew)); exact Kd.R_mono HO149.out (fun _ hk => trivial), by repeat (first | (with_reducible first | exact HB.out | apply below_alloc | apply pw_below_drewN | apply below_drew1) | exact HB.out)⟩
    · rw [if_neg c5] at H
      exact absurd H (by simp)

end Go.Proofs.Ytckjmbpagippkaa.G
end
