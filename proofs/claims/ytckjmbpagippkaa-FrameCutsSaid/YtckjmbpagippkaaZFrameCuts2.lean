/- The statement FrameCuts over numbers and lists: a frame of which some of its last bytes are missing tells that it is short, and frames ahead of it are found. -/
import Derived.Test.YtckjmbpagippkaaZFrameCuts0
import Derived.Test.YtckjmbpagippkaaZFrameCuts1
import Derived.BigQuiet
import Derived.Deep.QuietTactic
import Derived.Test.YtckjmbpagippkaaRows
import Derived.WalkKit
import Derived.ProofKit
import Derived.OpenShut
import Derived.ShutString
import Derived.ChangeOld
import Derived.Below
import Derived.SizedLaws
import Derived.Test.YtckjmbpagippkaaWSized
section
-- Written by a program of this session (wip/tools/myprint.py), over the kit's print.
namespace Go.Proofs.Ytckjmbpagippkaa.G
open Go.RowKit Go.Proofs.YtckjmbpagippkaaW.PrintWords Go.Proofs.YtckjmbpagippkaaW.PrintLast Go.Proofs.YtckjmbpagippkaaW.PrintMore
attribute [local go_sem] max2_int min2_int max_two min_two max_three min_three max_four min_four   -- for this text's walks alone
set_option linter.unusedVariables false
set_option linter.unusedSimpArgs false

/-! ### rosetteref03_All: function 14 -/
def rosetteref03_All.l0 : Nat → List Int → List (List Int) → Int → Option ((List (List Int)) × Int × Int)
  | 0, _, _, _ => none
  | k + 1, x0, x5, x6 => if x6 < (x0.length : Int) then (if 0 ≤ x6 then (if x6 ≤ (x0.length : Int) then ((rosetteref03_Next.f k (x0.drop (x6 : Int).toNat)).bind fun bt164 => (if bt164.2.2 = 0 then (if x5.length < 5864062014805 then (rosetteref03_All.l0 k x0 (x5 ++ [bt164.1]) (wrap64 (x6 + bt164.2.1))) else (none)) else (some (x5, x6, bt164.2.2)))) else (none)) else (none)) else (some (x5, x6, 0))
def rosetteref03_All.f (k : Nat) (l0 : List Int) : Option ((List (List Int)) × Int × Int) := rosetteref03_All.l0 k l0 ([] : List (List Int)) 0
theorem rosetteref03_All.mono_l : ∀ k, (∀ y0 y1 y2, LeO (rosetteref03_All.l0 k y0 y1 y2) (rosetteref03_All.l0 (k + 1) y0 y1 y2))
  | 0 => fun _ _ _ r h => by simp [rosetteref03_All.l0] at h
  | k + 1 => by
    have ih0 := rosetteref03_All.mono_l k
    · intro y0 y1 y2
      unfold rosetteref03_All.l0
      repeat' first
      | (with_reducible exact ih0 _ _ _)
      | (with_reducible exact rosetteref03_Next.mono _ _)
      | (with_reducible exact LeO.refl _)
      | (with_reducible exact LeO.none _)
      | (with_reducible refine LeO.ite ?_ ?_)
      | (with_reducible refine LeO.bind ?_ (fun _ => ?_))
      | exact ih0 _ _ _
      | exact rosetteref03_Next.mono _ _
      | exact LeO.none _
      | refine LeO.ite ?_ ?_
      | refine LeO.bind ?_ (fun _ => ?_)
theorem rosetteref03_All.mono : ∀ a0 k, LeO (rosetteref03_All.f k a0) (rosetteref03_All.f (k + 1) a0) := by
  intro a0 k
  have ih0 := rosetteref03_All.mono_l k
  unfold rosetteref03_All.f
  repeat' first
      | (with_reducible exact ih0 _ _ _)
      | (with_reducible exact rosetteref03_Next.mono _ _)
      | (with_reducible exact LeO.refl _)
      | (with_reducible exact LeO.none _)
      | (with_reducible refine LeO.ite ?_ ?_)
      | (with_reducible refine LeO.bind ?_ (fun _ => ?_))
      | exact ih0 _ _ _
      | exact rosetteref03_Next.mono _ _
      | exact LeO.none _
      | refine LeO.ite ?_ ?_
      | refine LeO.bind ?_ (fun _ => ?_)
set_option maxHeartbeats 8000000 in
set_option maxRecDepth 100000 in
theorem rosetteref03_All.calls (k : Nat) (A0 : Option Addr) (c0 : Nat) (l0 : List Int) (r1 : List (List Int)) (r2 : Int) (r3 : Int) (w : World) (hr0 : Kd.C (Kd.int .u8) w A0 l0.length l0) (hc0 : l0.length ≤ c0) (h : rosetteref03_All.f k l0 = some (r1, r2, r3)) :
    Calls Try.prog 14 #[.slice A0 l0.length c0] w fun e w' => ∃ v0_ : Value, e = .returned (.tuple #[v0_, .int .i64 r2, .int .i64 r3]) ∧ Kd.S (Kd.slice 5 (Kd.int .u8)) 22 w' w.heap.size (fun _ => True) v0_ r1 ∧ Below w.heap.size w w' := by
  have HR0 := Aside0.mk hr0
  have HC0 := Aside0.mk hc0
  clear hr0 hc0
  have HB := Aside0.mk (Below.refl w.heap.size w)
  have H : (rosetteref03_All.l0 k l0 ([] : List (List Int)) 0) = some (r1, r2, r3) := h
  clear h
  have H' := Aside0.mk H
  clear H
  go_enter Try.func14, Try.ntmps14
  go_wp2
  go_loopg [5, 6] k (fun kq v5 v6 w' => ∃ (x5_1 : List (List Int)) (x6_1 : Int), v6 = .int .i64 x6_1 ∧ Aside0 (rosetteref03_All.l0 kq l0 x5_1 x6_1 = some (r1, r2, r3)) ∧ Aside0 (kq ≤ k) ∧ Aside0 (Kd.S (Kd.slice 5 (Kd.int .u8)) 22 w' w.heap.size (fun _ => True) v5 x5_1) ∧ Aside0 (Below w.heap.size w w'))
  case atStart => exact ⟨(([] : List (List Int))), (0), (by first | rfl | (simp; done) | (simp [*]; done)), H', ⟨Nat.le_refl _⟩, ⟨by first | exact Kd.S_nil _ _ _ _ _ | exact Kd.N_nil _ _ _ _ _ | exact Kd.V_nil _ _ _ _ _ | exact Kd.Q_nil _ _ _ _ _ | exact Kd.R_nil _ _ _ _ _⟩, ⟨by repeat (first | (with_reducible first | exact HB.out | apply below_alloc | apply pw_below_drewN | apply below_drew1) | exact HB.out)⟩⟩
  case round =>
    clear H'
    try clear c1
    obtain ⟨x5_1, x6_1, rfl, HA, HK1, HO_5, HB⟩ := hrel
    cases gk with
    | zero => exact absurd HA.out (by simp [rosetteref03_All.l0])
    | succ k1 =>
      have H := HA.out
      clear HA
      simp only [rosetteref03_All.l0] at H
      by_cases c2 : x6_1 < (l0.length : Int)
      · rw [if_pos c2] at H
        have c2b0 : decide (x6_1 < (l0.length : Int)) = true := decide_eq_true c2
        clear c2
        by_cases c3 : 0 ≤ x6_1
        · rw [if_pos c3] at H
          have c3b0 := eq_true c3
          have c3b1 : decide (0 ≤ x6_1) = true := decide_eq_true c3
          clear c3
          by_cases c4 : x6_1 ≤ (l0.length : Int)
          · rw [if_pos c4] at H
            have c4b0 := eq_true c4
            have c4b1 : decide (x6_1 ≤ (l0.length : Int)) = true := decide_eq_true c4
            clear c4
            replace H := Option.bind_eq_some_iff.mp H
            obtain ⟨⟨t164, t165, t166⟩, A50, H⟩ := H
            replace H : (if t166 = 0 then (if x5_1.length < 5864062014805 then (rosetteref03_All.l0 k1 l0 (x5_1 ++ [t164]) (wrap64 (x6_1 + t165))) else (none)) else (some (x5_1, x6_1, t166))) = some (r1, r2, r3) := H
            have A5 := Aside0.mk A50
            clear A50
            by_cases c6 : t166 = 0
            · rw [if_pos c6] at H
              have c6b0 : (t166 == 0) = true := beq_iff_eq.mpr c6
              have c6b1 : (t166 != 0) = false := bne_eq_false_iff_eq.mpr c6
              clear c6
              by_cases c7 : x5_1.length < 5864062014805
              · rw [if_pos c7] at H
                have LMc7 := Aside0.mk c7
                clear c7
                obtain ⟨y169, hy169⟩ : ∃ y_ : List (List Int), y_ = (x5_1 ++ [t164]) := ⟨_, rfl⟩
                replace H : (rosetteref03_All.l0 k1 l0 y169 (wrap64 (x6_1 + t165))) = some (r1, r2, r3) := by first | (rw [hy169]; with_reducible exact H) | (have H2_ := (Option.bind_some _ _).symm.trans H; rw [hy169]; with_reducible exact H2_) | (have H2_ := (Option.bind_some _ _).symm.trans H; with_reducible exact H2_) | with_reducible exact H | (rw [hy169]; exact H) | exact H
                have Ny169 := Aside0.mk hy169
                clear hy169
                have H' := Aside0.mk H
                clear H
                obtain ⟨i08, hi08, _, hsz8, _⟩ := info_parts info5
                obtain ⟨A8, hcut8, hA8, hC8⟩ := print_drop_of (P := Try.prog) (Value.int .u8) 0 22 5 .i64 Try.underlying22 hi08 hsz8 A0 c0 l0 x6_1 (of_decide_eq_true (by first | (with_reducible assumption) | assumption)) (of_decide_eq_true (by first | (with_reducible assumption) | assumption)) HC0.out
                have HR163 := Aside0.mk (Kd.C_of_reads (h1 := fun _ => rfl) (hA8 _ (Kd.reads_of_C HR0.out)))
                have HC163 := Aside0.mk hC8
                clear hA8 hC8 hi08 hsz8
                go_wp2_with (first | ((with_reducible refine gate_callee (f := 12) rfl ?_); refine goesL_ (some 18) rfl rfl Try.func12 (by kernel_rfl) rfl #[.slice A8 (l0.drop (x6_1 : Int).toNat).length (c0 - x6_1.toNat)] rfl (by (try simp only [List.map_toArray, List.map_cons, List.map_nil]); first | done | (rw [show (l0.drop (x6_1 : Int).toNat).length = (l0.length - x6_1.toNat) from List.length_drop] <;> rfl) | rfl | (simp only [List.length_drop, List.length_take]; rfl)) ?_; (with_reducible refine (rosetteref03_Next.calls k1 _ _ (l0.drop (x6_1 : Int).toNat) t164 t165 t166 _ ?side1 ?side2 A5.out).mono ?_); (case side1 => repeat (first | exact (Kd.C_below HR163.out HB.out) | (with_reducible refine Kd.C_alloc ?_ _) | (with_reducible refine Kd.C_drewN ?_ _) | (with_reducible refine Kd.C_drew ?_))); (case side2 => exact HC163.out); rintro e w9 ⟨v167, rfl, ho0, hb⟩; refine ⟨_, rfl, ?_⟩; have n0_ := Aside0.mk (Kd.S_elder' (by (with_reducible repeat (first | apply Kd.S_alloc | apply Kd.S_drewN | apply Kd.S_drew)); exact HO_5.out) (Kd.R_base ho0) hb); have n1_ := Aside0.mk (Kd.R_lower ho0 (below_size (by repeat (first | (with_reducible first | exact HB.out | apply below_alloc | apply pw_below_drewN | apply below_drew1) | exact HB.out)))); have n2_ := Aside0.mk (below_step (by repeat (first | (with_reducible first | exact HB.out | apply below_alloc | apply pw_below_drewN | apply below_drew1) | exact HB.out)) hb); clear HO_5; clear HB; have HO_5 := n0_; have HO168 := n1_; have HB := n2_; clear n0_ n1_ n2_; (try clear hb); (try clear hb2); (try clear hk); (try clear hi); (try clear ho0); obtain ⟨Ao11, co11, eo11⟩ := Kd.R_slice HO168.out; subst eo11) | ((with_reducible refine gate_builtin (b := .append) (xs := #[.tmp 27, .tmp 29]) rfl ?_); at_builtin; refine Kd.S_append (Kd.slice 5 (Kd.int .u8)) (w0 := w) w.heap.size rfl (.tmp 27) (.tmp 29) 29 22 (.slice none 0 0) 24 rfl Try.underlying29 info22 rfl (by decide) (by decide) u5 x5_1 t164 [.slice Ao11 t164.length co11] (fun _ => True) (fun k_ => some k_ = (.slice Ao11 t164.length co11 : Value).ownBlock) rfl rfl ?aP (fun k_ hk_ => ((Kd.R_mono (ok' := fun k_ => ((fun _ => True)) k_ ∧ some k_ ≠ (u5 : Value).ownBlock) (Kd.R_apart' (HO168.out) (Kd.S_typed HO_5.out) (by decide)) (fun k_ hk => ⟨trivial, hk.2⟩))).1 k_ hk_.symm) ?aF ?aO ?aB ?aS ?aL ?_; (case aP => exact Kd.M_row (Kd.R_mono (Kd.R_tight rfl (Kd.R_mono (ok' := fun k_ => ((fun _ => True)) k_ ∧ some k_ ≠ (u5 : Value).ownBlock) (Kd.R_apart' (HO168.out) (Kd.S_typed HO_5.out) (by decide)) (fun k_ hk => ⟨trivial, hk.2⟩))) (fun _ h_ => h_))); (case aB => exact (by repeat (first | (with_reducible first | exact HB.out | apply below_alloc | apply pw_below_drewN | apply below_drew1) | exact HB.out))); (case aF => exact (fun _ _ => trivial)); (case aO => exact (by (with_reducible repeat (first | apply Kd.S_alloc | apply Kd.S_drewN | apply Kd.S_drew)); exact Kd.S_mono HO_5.out (fun k_ hk => ⟨trivial, fun e_ => hk.2 e_⟩))); (case aS => exact (below_size (by repeat (first | (with_reducible first | exact HB.out | apply below_alloc | apply pw_below_drewN | apply below_drew1) | exact HB.out)))); (case aL => have := LMc7.out; omega); intro v170 w10 ho hb hg hat; rw [← Ny169.out] at ho; have n0_ := Aside0.mk (hb); have n1_ := Aside0.mk (ho); clear HB; clear HO_5; clear HO168; have HB := n0_; have HO171 := n1_; clear n0_ n1_; clear ho hb hg hat))
                go_roundg k1
                case measure => have := HK1.out; omega
                case rel => exact ⟨(y169), (wrap64 (x6_1 + t165)), (by first | rfl | (simp; done) | (simp [*]; done)), H', ⟨by have := HK1.out; omega⟩, ⟨by (with_reducible repeat (first | apply Kd.S_alloc | apply Kd.S_drewN | apply Kd.S_drew)); exact HO171.out⟩, ⟨by repeat (first | (with_reducible first | exact HB.out | apply below_alloc | apply pw_below_drewN | apply below_drew1) | exact HB.out)⟩⟩
              · rw [if_neg c7] at H
                exact absurd H (by simp)
            · rw [if_neg c6] at H
              have c6b0 : (t166 == 0) = false := beq_eq_false_iff_ne.mpr c6
              have c6b1 : (t166 != 0) = true := bne_iff_ne.mpr c6
              simp only [Option.some.injEq, Prod.mk.injEq] at H
              obtain ⟨rfl, rfl, rfl⟩ := H
              obtain ⟨i012, hi012, _, hsz12, _⟩ := info_parts info5
              obtain ⟨A12, hcut12, hA12, hC12⟩ := print_drop_of (P := Try.prog) (Value.int .u8) 0 22 5 .i64 Try.underlying22 hi012 hsz12 A0 c0 l0 x6_1 (of_decide_eq_true (by first | (with_reducible assumption) | assumption)) (of_decide_eq_true (by first | (with_reducible assumption) | assumption)) HC0.out
              have HR163 := Aside0.mk (Kd.C_of_reads (h1 := fun _ => rfl) (hA12 _ (Kd.reads_of_C HR0.out)))
              have HC163 := Aside0.mk hC12
              clear hA12 hC12 hi012 hsz12
              go_wp2_with (first | ((with_reducible refine gate_callee (f := 12) rfl ?_); refine goesL_ (some 18) rfl rfl Try.func12 (by kernel_rfl) rfl #[.slice A12 (l0.drop (x6_1 : Int).toNat).length (c0 - x6_1.toNat)] rfl (by (try simp only [List.map_toArray, List.map_cons, List.map_nil]); first | done | (rw [show (l0.drop (x6_1 : Int).toNat).length = (l0.length - x6_1.toNat) from List.length_drop] <;> rfl) | rfl | (simp only [List.length_drop, List.length_take]; rfl)) ?_; (with_reducible refine (rosetteref03_Next.calls k1 _ _ (l0.drop (x6_1 : Int).toNat) t164 t165 t166 _ ?side1 ?side2 A5.out).mono ?_); (case side1 => repeat (first | exact (Kd.C_below HR163.out HB.out) | (with_reducible refine Kd.C_alloc ?_ _) | (with_reducible refine Kd.C_drewN ?_ _) | (with_reducible refine Kd.C_drew ?_))); (case side2 => exact HC163.out); rintro e w13 ⟨v167, rfl, ho0, hb⟩; refine ⟨_, rfl, ?_⟩; have n0_ := Aside0.mk (Kd.S_elder' (by (with_reducible repeat (first | apply Kd.S_alloc | apply Kd.S_drewN | apply Kd.S_drew)); exact HO_5.out) (Kd.R_base ho0) hb); have n1_ := Aside0.mk (Kd.R_lower ho0 (below_size (by repeat (first | (with_reducible first | exact HB.out | apply below_alloc | apply pw_below_drewN | apply below_drew1) | exact HB.out)))); have n2_ := Aside0.mk (below_step (by repeat (first | (with_reducible first | exact HB.out | apply below_alloc | apply pw_below_drewN | apply below_drew1) | exact HB.out)) hb); clear HO_5; clear HB; have HO_5 := n0_; have HO168 := n1_; have HB := n2_; clear n0_ n1_ n2_; (try clear hb); (try clear hb2); (try clear hk); (try clear hi); (try clear ho0)))
              go_ret3
              exact ⟨_, by first | rfl | (simp [errW_none, errW_some] <;> rfl) | (simp [*, errW_none, errW_some] <;> rfl), by (with_reducible repeat (first | apply Kd.S_alloc | apply Kd.S_drewN | apply Kd.S_drew)); exact Kd.S_mono HO_5.out (fun _ hk => trivial), by repeat (first | (with_reducible first | exact HB.out | apply below_alloc | apply pw_below_drewN | apply below_drew1) | exact HB.out)⟩
          · rw [if_neg c4] at H
            exact absurd H (by simp)
        · rw [if_neg c3] at H
          exact absurd H (by simp)
      · rw [if_neg c2] at H
        have c2b0 : decide (x6_1 < (l0.length : Int)) = false := decide_eq_false c2
        clear c2
        simp only [Option.some.injEq, Prod.mk.injEq] at H
        obtain ⟨rfl, rfl, rfl⟩ := H
        go_wp2
        go_ret3
        exact ⟨_, by first | rfl | (simp [errW_none, errW_some] <;> rfl) | (simp [*, errW_none, errW_some] <;> rfl), by (with_reducible repeat (first | apply Kd.S_alloc | apply Kd.S_drewN | apply Kd.S_drew)); exact HO_5.out, by repeat (first | (with_reducible first | exact HB.out | apply below_alloc | apply pw_below_drewN | apply below_drew1) | exact HB.out)⟩

end Go.Proofs.Ytckjmbpagippkaa.G
end

section
-- Written by a program of this session (wip/tools/myprint.py), over the kit's print.
namespace Go.Proofs.Ytckjmbpagippkaa.G
open Go.RowKit Go.Proofs.YtckjmbpagippkaaW.PrintWords Go.Proofs.YtckjmbpagippkaaW.PrintLast Go.Proofs.YtckjmbpagippkaaW.PrintMore
attribute [local go_sem] max2_int min2_int max_two min_two max_three min_three max_four min_four   -- for this text's walks alone
set_option linter.unusedVariables false
set_option linter.unusedSimpArgs false

/-! ### rosetteref03_Same: function 15 -/
def rosetteref03_Same.l0 : Nat → List (List Int) → List (List Int) → Int → Option (Bool)
  | 0, _, _, _ => none
  | k + 1, x0, x1, x5 => if x5 < (x0.length : Int) then (if 0 ≤ x5 then (if x5 < (x1.length : Int) then (if (strOfNums (rd_L1 x0 x5)).toList = (strOfNums (rd_L1 x1 x5)).toList then (rosetteref03_Same.l0 k x0 x1 (wrap64 (x5 + 1))) else (some false)) else (none)) else (none)) else (some true)
def rosetteref03_Same.f (k : Nat) (l0 : List (List Int)) (l1 : List (List Int)) : Option (Bool) := if (l0.length : Int) = (l1.length : Int) then (rosetteref03_Same.l0 k l0 l1 0) else (some false)
theorem rosetteref03_Same.mono_l : ∀ k, (∀ y0 y1 y2, LeO (rosetteref03_Same.l0 k y0 y1 y2) (rosetteref03_Same.l0 (k + 1) y0 y1 y2))
  | 0 => fun _ _ _ r h => by simp [rosetteref03_Same.l0] at h
  | k + 1 => by
    have ih0 := rosetteref03_Same.mono_l k
    · intro y0 y1 y2
      unfold rosetteref03_Same.l0
      repeat' first
      | (with_reducible exact ih0 _ _ _)
      | (with_reducible exact LeO.refl _)
      | (with_reducible exact LeO.none _)
      | (with_reducible refine LeO.ite ?_ ?_)
      | (with_reducible refine LeO.bind ?_ (fun _ => ?_))
      | exact ih0 _ _ _
      | exact LeO.none _
      | refine LeO.ite ?_ ?_
      | refine LeO.bind ?_ (fun _ => ?_)
theorem rosetteref03_Same.mono : ∀ a0 a1 k, LeO (rosetteref03_Same.f k a0 a1) (rosetteref03_Same.f (k + 1) a0 a1) := by
  intro a0 a1 k
  have ih0 := rosetteref03_Same.mono_l k
  unfold rosetteref03_Same.f
  repeat' first
      | (with_reducible exact ih0 _ _ _)
      | (with_reducible exact LeO.refl _)
      | (with_reducible exact LeO.none _)
      | (with_reducible refine LeO.ite ?_ ?_)
      | (with_reducible refine LeO.bind ?_ (fun _ => ?_))
      | exact ih0 _ _ _
      | exact LeO.none _
      | refine LeO.ite ?_ ?_
      | refine LeO.bind ?_ (fun _ => ?_)
set_option maxHeartbeats 8000000 in
set_option maxRecDepth 100000 in
theorem rosetteref03_Same.calls (k : Nat) (A0 : Option Addr) (c0 : Nat) (l0 : List (List Int)) (A1 : Option Addr) (c1 : Nat) (l1 : List (List Int)) (r : Bool) (w : World) (hr0 : Kd.C (Kd.slice 5 (Kd.int .u8)) w A0 l0.length l0) (hc0 : l0.length ≤ c0) (hr1 : Kd.C (Kd.slice 5 (Kd.int .u8)) w A1 l1.length l1) (hc1 : l1.length ≤ c1) (h : rosetteref03_Same.f k l0 l1 = some r) :
    Calls Try.prog 15 #[.slice A0 l0.length c0, .slice A1 l1.length c1] w fun e w' => e = .returned (.bool r) ∧ Drawn0 w w' := by
  have HR0 := Aside0.mk hr0
  have HC0 := Aside0.mk hc0
  clear hr0 hc0
  have HR1 := Aside0.mk hr1
  have HC1 := Aside0.mk hc1
  clear hr1 hc1
  have H : (if (l0.length : Int) = (l1.length : Int) then (rosetteref03_Same.l0 k l0 l1 0) else (some false)) = some r := h
  clear h
  by_cases c3 : (l0.length : Int) = (l1.length : Int)
  · rw [if_pos c3] at H
    have c3b0 : ((l0.length : Int) == (l1.length : Int)) = true := beq_iff_eq.mpr c3
    have c3b1 : ((l0.length : Int) != (l1.length : Int)) = false := bne_eq_false_iff_eq.mpr c3
    have c3b2 : (l0.length == l1.length) = true := by first | simpa using c3 | (simp at c3 ⊢; omega)
    clear c3
    have H' := Aside0.mk H
    clear H
    go_enter Try.func15, Try.ntmps15
    go_wp2
    repeat (go_quiet (fail); try go_wp2)
    go_loopg [5] k (fun kq v5 w' => ∃ (x5_1 : Int), v5 = .int .i64 x5_1 ∧ Aside0 (rosetteref03_Same.l0 kq l0 l1 x5_1 = some r) ∧ Aside0 (kq ≤ k) ∧ Drawn0 w w')
    case atStart => exact ⟨(0), (by first | rfl | (simp; done) | (simp [*]; done)), H', ⟨Nat.le_refl _⟩, by repeat (first | exact Drawn0.refl _ | apply Drawn0.step)⟩
    case round =>
      clear H'
      try clear c1
      try clear p2
      try clear c3
      try clear c3b0
      try clear c3b1
      try clear c3b2
      obtain ⟨x5_1, rfl, HA, HK1, ⟨m1, rfl⟩⟩ := hrel
      cases gk with
      | zero => exact absurd HA.out (by simp [rosetteref03_Same.l0])
      | succ k1 =>
        have H := HA.out
        clear HA
        simp only [rosetteref03_Same.l0] at H
        by_cases c4 : x5_1 < (l0.length : Int)
        · rw [if_pos c4] at H
          have c4b0 : decide (x5_1 < (l0.length : Int)) = true := decide_eq_true c4
          clear c4
          by_cases c5 : 0 ≤ x5_1
          · rw [if_pos c5] at H
            have c5b0 : decide (0 ≤ x5_1) = true := decide_eq_true c5
            clear c5
            by_cases c6 : x5_1 < (l1.length : Int)
            · rw [if_pos c6] at H
              have c6b0 : decide (x5_1 < (l1.length : Int)) = true := decide_eq_true c6
              clear c6
              by_cases c7 : (strOfNums (rd_L1 l0 x5_1)).toList = (strOfNums (rd_L1 l1 x5_1)).toList
              · rw [if_pos c7] at H
                have c7b0 : ((strOfNums (rd_L1 l0 x5_1)).toList == (strOfNums (rd_L1 l1 x5_1)).toList) = true := beq_iff_eq.mpr c7
                have c7b1 : ((strOfNums (rd_L1 l0 x5_1)).toList != (strOfNums (rd_L1 l1 x5_1)).toList) = false := bne_eq_false_iff_eq.mpr c7
                clear c7
                have H' := Aside0.mk H
                clear H
                have p117 : 0 ≤ (x5_1 : Int) := of_decide_eq_true (by first | (with_reducible assumption) | assumption)
                have q117 : x5_1 < (l0.length : Int) := of_decide_eq_true (by first | (with_reducible assumption) | assumption)
                obtain ⟨ad117, A117_0, c117_0, e117, hx117_0, hl117_0, hi117_0⟩ := at_L1 HR0.out x5_1 p117 q117
                cases e117
                have HR117_0 := Aside0.mk hi117_0
                have HC117_0 := Aside0.mk hl117_0
                clear hi117_0 hl117_0
                replace p117 := eq_true p117
                replace q117 := eq_true q117
                have hcv8 := Kd.C_string (P := Try.prog) (A := A117_0) (c := c117_0) Try.underlying22 Try.underlying5 Try.underlying9 HR117_0.out
                have hcw9 := fun (m_ : Nat) => Kd.C_string (P := Try.prog) (A := A117_0) (c := c117_0) Try.underlying22 Try.underlying5 Try.underlying9 (Kd.C_drewN HR117_0.out m_)
                have p118 : 0 ≤ (x5_1 : Int) := of_decide_eq_true (by first | (with_reducible assumption) | assumption)
                have q118 : x5_1 < (l1.length : Int) := of_decide_eq_true (by first | (with_reducible assumption) | assumption)
                obtain ⟨ad118, A118_0, c118_0, e118, hx118_0, hl118_0, hi118_0⟩ := at_L1 HR1.out x5_1 p118 q118
                cases e118
                have HR118_0 := Aside0.mk hi118_0
                have HC118_0 := Aside0.mk hl118_0
                clear hi118_0 hl118_0
                replace p118 := eq_true p118
                replace q118 := eq_true q118
                have hcv10 := Kd.C_string (P := Try.prog) (A := A118_0) (c := c118_0) Try.underlying22 Try.underlying5 Try.underlying9 HR118_0.out
                have hcw11 := fun (m_ : Nat) => Kd.C_string (P := Try.prog) (A := A118_0) (c := c118_0) Try.underlying22 Try.underlying5 Try.underlying9 (Kd.C_drewN HR118_0.out m_)
                go_wp2
                repeat (go_quiet (fail); try go_wp2)
                go_roundg k1
                case measure => have := HK1.out; omega
                case rel => exact ⟨(wrap64 (x5_1 + 1)), (by first | rfl | (simp; done) | (simp [*]; done)), H', ⟨by have := HK1.out; omega⟩, by repeat (first | exact Drawn0.refl _ | apply Drawn0.step)⟩
              · rw [if_neg c7] at H
                have c7b0 : ((strOfNums (rd_L1 l0 x5_1)).toList == (strOfNums (rd_L1 l1 x5_1)).toList) = false := beq_eq_false_iff_ne.mpr c7
                have c7b1 : ((strOfNums (rd_L1 l0 x5_1)).toList != (strOfNums (rd_L1 l1 x5_1)).toList) = true := bne_iff_ne.mpr c7
                obtain rfl := Option.some.inj H
                have p117 : 0 ≤ (x5_1 : Int) := of_decide_eq_true (by first | (with_reducible assumption) | assumption)
                have q117 : x5_1 < (l0.length : Int) := of_decide_eq_true (by first | (with_reducible assumption) | assumption)
                obtain ⟨ad117, A117_0, c117_0, e117, hx117_0, hl117_0, hi117_0⟩ := at_L1 HR0.out x5_1 p117 q117
                cases e117
                have HR117_0 := Aside0.mk hi117_0
                have HC117_0 := Aside0.mk hl117_0
                clear hi117_0 hl117_0
                replace p117 := eq_true p117
                replace q117 := eq_true q117
                have hcv12 := Kd.C_string (P := Try.prog) (A := A117_0) (c := c117_0) Try.underlying22 Try.underlying5 Try.underlying9 HR117_0.out
                have hcw13 := fun (m_ : Nat) => Kd.C_string (P := Try.prog) (A := A117_0) (c := c117_0) Try.underlying22 Try.underlying5 Try.underlying9 (Kd.C_drewN HR117_0.out m_)
                have p118 : 0 ≤ (x5_1 : Int) := of_decide_eq_true (by first | (with_reducible assumption) | assumption)
                have q118 : x5_1 < (l1.length : Int) := of_decide_eq_true (by first | (with_reducible assumption) | assumption)
                obtain ⟨ad118, A118_0, c118_0, e118, hx118_0, hl118_0, hi118_0⟩ := at_L1 HR1.out x5_1 p118 q118
                cases e118
                have HR118_0 := Aside0.mk hi118_0
                have HC118_0 := Aside0.mk hl118_0
                clear hi118_0 hl118_0
                replace p118 := eq_true p118
                replace q118 := eq_true q118
                have hcv14 := Kd.C_string (P := Try.prog) (A := A118_0) (c := c118_0) Try.underlying22 Try.underlying5 Try.underlying9 HR118_0.out
                have hcw15 := fun (m_ : Nat) => Kd.C_string (P := Try.prog) (A := A118_0) (c := c118_0) Try.underlying22 Try.underlying5 Try.underlying9 (Kd.C_drewN HR118_0.out m_)
                go_wp2
                repeat (go_quiet (fail); try go_wp2)
                go_ret
                exact ⟨by first | rfl | (simp; done) | (simp [*]; done), by repeat (first | exact Drawn0.refl _ | apply Drawn0.step)⟩
            · rw [if_neg c6] at H
              exact absurd H (by simp)
          · rw [if_neg c5] at H
            exact absurd H (by simp)
        · rw [if_neg c4] at H
          have c4b0 : decide (x5_1 < (l0.length : Int)) = false := decide_eq_false c4
          clear c4
          obtain rfl := Option.some.inj H
          go_wp2
          repeat (go_quiet (fail); try go_wp2)
          go_ret
          exact ⟨by first | rfl | (simp; done) | (simp [*]; done), by repeat (first | exact Drawn0.refl _ | apply Drawn0.step)⟩
  · rw [if_neg c3] at H
    have c3b0 : ((l0.length : Int) == (l1.length : Int)) = false := beq_eq_false_iff_ne.mpr c3
    have c3b1 : ((l0.length : Int) != (l1.length : Int)) = true := bne_iff_ne.mpr c3
    have c3b2 : (l0.length == l1.length) = false := by first | simpa using c3 | (simp at c3 ⊢; omega)
    obtain rfl := Option.some.inj H
    go_enter Try.func15, Try.ntmps15
    go_wp2
    repeat (go_quiet (fail); try go_wp2)
    go_ret
    exact ⟨by first | rfl | (simp; done) | (simp [*]; done), by repeat (first | exact Drawn0.refl _ | apply Drawn0.step)⟩

end Go.Proofs.Ytckjmbpagippkaa.G
end

section
/- frames by the document are the program's frames: pure laws -/
set_option linter.unusedVariables false
set_option linter.unusedSimpArgs false
set_option autoImplicit false
namespace Go.Proofs.Ytckjmbpagippkaa.Pure
open Go.RowKit Go.Proofs.Ytckjmbpagippkaa Go.Proofs.Ytckjmbpagippkaa.G Go.Proofs.YtckjmbpagippkaaW.PrintWords Go.Proofs.YtckjmbpagippkaaW.PrintLast

theorem refmake_some {l : List Int} (hu : u8s l) (hl : l.length ≤ 8192) (k : Nat) (hk : l.length + 12 ≤ k) : rosetteref03_Make.f k l = some (frz l, 0) := by
  unfold rosetteref03_Make.f
  have hw : wrap64 ((l.length : Int) / 256) = (l.length : Int) / 256 := wrap_small _ (by omega) (by omega)
  have hz : ([(l.length : Int) % 256, (wrap64 ((l.length : Int) / 256)) % 256] : List Int) = zof (head_ l.length) := by
    rw [hw]
    simp only [zof, head_, List.map_cons, List.map_nil, List.cons.injEq, and_true]
    constructor <;> omega
  have hhb := head_bytes l.length (by omega)
  rw [if_neg (by omega), hz, refseal_some (u8s_zof hhb) (by simp [zof, head_]) k (by simp [zof, head_]; omega)]
  simp only [Option.bind_some]
  rw [refseal_some hu (by omega) k (by omega)]
  simp only [Option.bind_some]
  rw [if_pos (by simp only [zof_length, CrcM.sealB_length, nats_length, show (head_ l.length).length = 2 from rfl]; omega)]
  unfold frz CrcM.fr
  rw [zof_append, nats_zof, nats_length]
  rfl
theorem refmake_big {l : List Int} (hl : 8192 < l.length) (k : Nat) : rosetteref03_Make.f k l = some ([], 4) := by
  unfold rosetteref03_Make.f
  rw [if_pos (by omega)]
theorem refnext_eq {l : List Int} (hu : u8s l) (hl : l.length ≤ 1000000) (k : Nat) (hk : l.length + 12 ≤ k) : rosetteref03_Next.f k l = frame_Next.f l := by
  have h : ∀ x : List Int, u8s x → x.length ≤ l.length → rosetteref01_Open.f k x = crc_Open.f x := fun x hx hxl => by
    rw [open_some' hx (by omega), refopen_some hx (by omega) k (by omega)]
  unfold rosetteref03_Next.f frame_Next.f
  rw [h _ (u8s_take hu 6) (by simp; omega)]
  congr 1
  congr 1
  funext p
  rw [h _ (u8s_drop (u8s_take hu _) 6) (by simp; omega)]
theorem all_both {l : List Int} (hu : u8s l) (hl : l.length ≤ 1000000) : ∀ (d at_ : Nat) (acc : List (List Int)), l.length - at_ ≤ d → acc.length ≤ at_ → at_ ≤ l.length →
    ∃ r : List (List Int) × Int × Int, (∀ k, d < k → frame_All.l0 k l acc at_ (at_ : Int) = some r) ∧ ∀ k, d + l.length + 12 < k → rosetteref03_All.l0 k l acc (at_ : Int) = some r := by
  intro d
  induction d with
  | zero =>
    intro at_ acc h1 h2 h3
    refine ⟨(acc, (at_ : Int), 0), fun k hk => ?_, fun k hk => ?_⟩
    · obtain ⟨k, rfl⟩ : ∃ m, k = m + 1 := ⟨k - 1, by omega⟩
      simp only [frame_All.l0]
      rw [if_pos (by omega)]
    · obtain ⟨k, rfl⟩ : ∃ m, k = m + 1 := ⟨k - 1, by omega⟩
      simp only [rosetteref03_All.l0]
      rw [if_neg (by omega)]
  | succ d ih =>
    intro at_ acc h1 h2 h3
    by_cases hlt : at_ < l.length
    · obtain ⟨x, n, er, hn, hpos⟩ := next_from l hu hl at_
      by_cases he : er = 0
      · obtain ⟨p1, p2⟩ := hpos he
        obtain ⟨r, q1, q2⟩ := ih (at_ + n.toNat) (acc ++ [x]) (by omega) (by rw [List.length_append, List.length_singleton]; omega) (by omega)
        have hat : ((at_ + n.toNat : Nat) : Int) = (at_ : Int) + n := by omega
        rw [hat] at q1 q2
        refine ⟨r, fun k hk => ?_, fun k hk => ?_⟩
        · obtain ⟨k, rfl⟩ : ∃ m, k = m + 1 := ⟨k - 1, by omega⟩
          simp only [frame_All.l0]
          rw [if_neg (by omega), hn]
          simp only [Option.bind_some]
          rw [if_pos he]
          exact q1 k (by omega)
        · obtain ⟨k, rfl⟩ : ∃ m, k = m + 1 := ⟨k - 1, by omega⟩
          simp only [rosetteref03_All.l0]
          rw [if_pos (by omega), if_pos (by omega), if_pos (by omega), Int.toNat_natCast, refnext_eq (u8s_drop hu _) (by simp; omega) k (by simp; omega), hn]
          simp only [Option.bind_some]
          rw [if_pos he, if_pos (by omega), wrap_small _ (by omega) (by omega)]
          exact q2 k (by omega)
      · refine ⟨(acc, (at_ : Int), er), fun k hk => ?_, fun k hk => ?_⟩
        · obtain ⟨k, rfl⟩ : ∃ m, k = m + 1 := ⟨k - 1, by omega⟩
          simp only [frame_All.l0]
          rw [if_neg (by omega), hn]
          simp only [Option.bind_some]
          rw [if_neg he]
        · obtain ⟨k, rfl⟩ : ∃ m, k = m + 1 := ⟨k - 1, by omega⟩
          simp only [rosetteref03_All.l0]
          rw [if_pos (by omega), if_pos (by omega), if_pos (by omega), Int.toNat_natCast, refnext_eq (u8s_drop hu _) (by simp; omega) k (by simp; omega), hn]
          simp only [Option.bind_some]
          rw [if_neg he]
    · refine ⟨(acc, (at_ : Int), 0), fun k hk => ?_, fun k hk => ?_⟩
      · obtain ⟨k, rfl⟩ : ∃ m, k = m + 1 := ⟨k - 1, by omega⟩
        simp only [frame_All.l0]
        rw [if_pos (by omega)]
      · obtain ⟨k, rfl⟩ : ∃ m, k = m + 1 := ⟨k - 1, by omega⟩
        simp only [rosetteref03_All.l0]
        rw [if_neg (by omega)]
theorem all_len {l : List Int} : ∀ (k : Nat) (acc : List (List Int)) (at_ : Nat) (e : Int) (r : List (List Int) × Int × Int), frame_All.l0 k l acc at_ e = some r → r.1.length ≤ acc.length + k := by
  intro k
  induction k with
  | zero => intro acc at_ e r h; simp [frame_All.l0] at h
  | succ k ih =>
    intro acc at_ e r h
    simp only [frame_All.l0] at h
    split at h
    · cases h; simp
    · obtain ⟨q, _, h⟩ := Option.bind_eq_some_iff.mp h
      split at h
      · have := ih _ _ _ _ h
        rw [List.length_append, List.length_singleton] at this
        omega
      · cases h; simp
theorem same_go (L : List (List Int)) (hl : L.length ≤ 9223372036854775806) : ∀ (d k i : Nat), i + d = L.length → d < k → rosetteref03_Same.l0 k L L (i : Int) = some true := by
  intro d
  induction d with
  | zero =>
    intro k i h1 h2
    obtain ⟨k, rfl⟩ : ∃ m, k = m + 1 := ⟨k - 1, by omega⟩
    simp only [rosetteref03_Same.l0]
    rw [if_neg (by omega)]
  | succ d ih =>
    intro k i h1 h2
    obtain ⟨k, rfl⟩ : ∃ m, k = m + 1 := ⟨k - 1, by omega⟩
    simp only [rosetteref03_Same.l0]
    rw [if_pos (by omega), if_pos (by omega), if_pos (by omega), if_pos trivial, wrap_small _ (by omega) (by omega), show (i : Int) + 1 = ((i + 1 : Nat) : Int) by omega]
    exact ih k (i + 1) (by omega) (by omega)
theorem same_refl (L : List (List Int)) (hl : L.length ≤ 9223372036854775806) (k : Nat) (hk : L.length < k) : rosetteref03_Same.f k L L = some true := by
  unfold rosetteref03_Same.f
  rw [if_pos rfl]
  exact same_go L hl L.length k 0 (by omega) hk
end Go.Proofs.Ytckjmbpagippkaa.Pure
end

section
set_option linter.unusedVariables false
set_option linter.unusedSimpArgs false
set_option autoImplicit false
namespace Go.Proofs.Ytckjmbpagippkaa
open Go.RowKit Go.Proofs.YtckjmbpagippkaaW.PrintWords Go.Proofs.YtckjmbpagippkaaW.PrintLast Go.Proofs.YtckjmbpagippkaaW.PrintMore

/-- append(v, ys...), whole numbers, v of the call's own: what the builtin does -/
theorem run_append_ints {P : Program} {W : World} (base : Nat) (t rt e : TypeId) (k : IntKind) (bytes : Nat)
    (ht : P.underlying t = some (.slice e)) (hinfo : (P.info? e).map (fun i => (i.zero, i.size, i.bytes)) = some (some (.int k 0), 1, bytes)) (hb0 : 0 < bytes)
    (v : Value) (xs ys : List Int) (A : Option Addr) (m c : Nat) (HO : W.ownsRow base e 1 v xs.length (nums k xs)) (HR : ReadsInt W k A m ys) (hbase : base ≤ W.heap.size) (hl : (xs.length + m) * bytes ≤ 140737488355328) :
    ∃ v1 w1, (Builtin.append_ #[t, t] rt #[v, .slice A m c]).run P W = .ok v1 w1 ∧ w1.ownsRow base e 1 v1 (xs ++ ys).length (nums k (xs ++ ys)) ∧ W.grownBy w1 v.ownBlock ∧ (v1.ownBlock = v.ownBlock ∨ v1.ownBlock = some W.heap.size) := by
  obtain ⟨i0, hi, hzz⟩ := Option.map_eq_some_iff.1 hinfo
  simp only [Prod.mk.injEq] at hzz
  obtain ⟨hz0, hz1, hz2⟩ := hzz
  have hm : ys.length = m := HR.1
  have hlen : xs.length + m ≤ 140737488355328 := Nat.le_trans (Nat.le_mul_of_pos_right _ hb0) hl
  rcases A with _ | ad
  · have h0 : m = 0 := by
      rcases Nat.eq_zero_or_pos m with h0 | h0
      · exact h0
      · obtain ⟨ad, h, _⟩ := HR.2.2 h0
        cases h
    subst h0
    obtain rfl : ys = [] := List.eq_nil_of_length_eq_zero hm
    refine ⟨v, W, ?_, by simpa using HO, World.grownBy.refl W _, .inl rfl⟩
    rcases HO.2 with ⟨rfl, hn⟩ | ⟨g, cap, cur, rfl, _, _, hnc, _⟩
    · simp [Builtin.append_, run_underlying ht, sizeOf, typeInfo, hi, Builtin.lenOf, Builtin.firstCells]
    · simp [Builtin.append_, run_underlying ht, sizeOf, typeInfo, hi, Builtin.lenOf, Builtin.firstCells, hnc, storeCells]
  · have hcells : ∀ j u, (nums k ys)[j]? = some u → W.cell? (ad.add j) = some u := by
      intro j u hu
      have hj : j < ys.length := by
        rcases Nat.lt_or_ge j ys.length with h | h
        · exact h
        · simp [nums, List.getElem?_eq_none h] at hu
      obtain ⟨ad', h', hc⟩ := HR.2.2 (by omega)
      injection h' with h'
      subst h'
      have := hc j (by omega)
      simp [nums, List.getElem?_eq_getElem hj] at hu
      subst hu
      rw [this]
      simp [List.getD_eq_getElem?_getD, List.getElem?_eq_getElem hj]
    obtain ⟨v1, w1, hr, h2, h3, _, h5⟩ := run_append_own_at (P := P) W base t rt e i0 (.int k 0) 1 bytes ht hi hz0 hz1 hz2 rfl (by omega) v xs.length (nums k xs) HO ad m c (nums k ys) (by simp [nums, hm]) hcells
      (by intro u hu; simp only [nums, List.mem_map] at hu; obtain ⟨q, _, rfl⟩ := hu; rfl) (by simp only [maxLen]; omega) hl hbase
    exact ⟨v1, w1, hr, by simpa [nums, hm] using h2, h3, h5⟩
/-- .. in a region that draws its order -/
theorem step_append_row {P : Program} {ops : Array Oper} {o : Oper} {a : Act} {w0 W : World} {K : Act → World → Prop} {Q : Exit → Act → World → Prop} {E : Prop} (base : Nat) (hgd : o.guard = none) (s x : Operand) (t e : TypeId) (k : IntKind) (bytes : Nat)
    (ho : o.op = .call { callee := .builtin .append, args := #[s, x], argTypes := #[t, t] })
    (ht : P.underlying t = some (.slice e)) (hinfo : (P.info? e).map (fun i => (i.zero, i.size, i.bytes)) = some (some (.int k 0), 1, bytes)) (hb0 : 0 < bytes)
    (v : Value) (xs ys : List Int) (A : Option Addr) (m c : Nat) (hs : a.eval s = v) (hx : a.eval x = .slice A m c)
    (HO : W.ownsRow base e 1 v xs.length (nums k xs)) (HR : ReadsInt W k A m ys) (HB : Below base w0 W) (hbase : base ≤ W.heap.size) (hl : (xs.length + m) * bytes ≤ 140737488355328)
    (h : ∀ v1 w1, w1.ownsRow base e 1 v1 (xs ++ ys).length (nums k (xs ++ ys)) → Below base w0 w1 → W.grownBy w1 v.ownBlock → K (a.put o.dst v1) w1) :
    if Region.wanted o (yielded ops a.tmps) = true then Oper.wp P o a W K Q else E := by
  rw [if_pos (by simp [Region.wanted, hgd])]
  obtain ⟨v1, w1, hr, hown, hg, _⟩ := run_append_ints (P := P) base t o.type e k bytes ht hinfo hb0 v xs ys A m c HO HR hbase hl
  unfold Oper.wp execOp
  simp only [ho, resolve, invoke, builtin, Sem.run_bind, Sem.run_pure, Result.andThen_ok, List.map_toArray, List.map_cons, List.map_nil, hs, hx, hr]
  exact h v1 w1 hown (HB.grown hg hbase (own_base HO)) hg
end Go.Proofs.Ytckjmbpagippkaa
end

section
-- Written by a program of this session (wip/tools/myprint.py), over the kit's print.
namespace Go.Proofs.Ytckjmbpagippkaa.G
open Go.RowKit Go.Proofs.YtckjmbpagippkaaW.PrintWords Go.Proofs.YtckjmbpagippkaaW.PrintLast Go.Proofs.YtckjmbpagippkaaW.PrintMore
attribute [local go_sem] max2_int min2_int max_two min_two max_three min_three max_four min_four   -- for this text's walks alone
set_option linter.unusedVariables false
set_option linter.unusedSimpArgs false

-- BY HAND
-- IMPORT YtckjmbpagippkaaFrameRef
-- IMPORT YtckjmbpagippkaaSmall03
-- IMPORT YtckjmbpagippkaaStep
-- LIB Derived.BigQuiet
-- LIB Derived.Deep.QuietTactic
-- over: frame_Make.f frame_Next.f frame_All.f rosettelaw03_small.f
def rosettelaw03_FrameCuts.f (l0 l1 : List Int) (a2 : Int) : Option Bool := if l0.length ≤ 140737488351232 ∧ u8s l0 ∧ l1.length ≤ 140737488351232 ∧ u8s l1 then some true else none
theorem make_tells (l : List Int) (hu : u8s l) : ∃ x e, frame_Make.f l = some (x, e) ∧ ((8192 < l.length ∧ x = [] ∧ e = 4) ∨ (l.length ≤ 8192 ∧ x = Pure.frz l ∧ e = 0)) := by
  by_cases h : 8192 < l.length
  · exact ⟨_, _, Pure.make_big h, .inl ⟨h, rfl, rfl⟩⟩
  · exact ⟨_, _, Pure.make_some hu (by omega), .inr ⟨by omega, rfl, rfl⟩⟩
theorem run_cut {l0 l1 : List Int} (hu : u8s l0) (h0 : l0.length ≤ 1000) (h1 : l1.length ≤ 1000) {m : Nat} (hm : m < l1.length + 10) {xs : List It} {er : Int} (h : Runs (Pure.frz l0 ++ (Pure.frz l1).take m) 0 xs er) :
    ∃ v, xs = [⟨(l0.length : Int) + 10, v, l0⟩] ∧ er = if m = 0 then 0 else 2 := by
  have s1 := Pure.next_frame hu (by omega) ((Pure.frz l1).take m)
  have hl : (Pure.frz l0).length = l0.length + 10 := Pure.frz_length l0
  have s2 : frame_Next.f ((Pure.frz l0 ++ (Pure.frz l1).take m).drop (l0.length + 10)) = some ([], 0, 2) := by
    rw [← hl, List.drop_left]
    exact Pure.next_cut (by omega) m hm
  have hL : (Pure.frz l0 ++ (Pure.frz l1).take m).length = l0.length + 10 + m := by
    rw [List.length_append, List.length_take, hl, Pure.frz_length]; omega
  have step : ∀ {xs : List It} {er : Int}, Runs (Pure.frz l0 ++ (Pure.frz l1).take m) (l0.length + 10) xs er → xs = [] ∧ er = if m = 0 then 0 else 2 := by
    intro xs er h
    cases h with
    | stop h => exact ⟨rfl, by rw [if_pos (by omega)]⟩
    | fail h1 h2 h3 => rw [s2] at h2; simp only [Option.some.injEq, Prod.mk.injEq] at h2; exact ⟨rfl, by rw [if_neg (by omega)]; exact h2.2.2.symm⟩
    | step h1 h2 h3 => rw [s2] at h2; cases h2
  cases h with
  | stop h => omega
  | fail h1 h2 h3 => rw [List.drop_zero, s1] at h2; cases h2; exact absurd rfl h3
  | @step _ _ _ v0 _ _ h1 h2 h3 =>
    rw [List.drop_zero, s1] at h2
    simp only [Option.some.injEq, Prod.mk.injEq] at h2
    obtain ⟨rfl, rfl, _⟩ := h2
    rw [show 0 + ((l0.length + 10 : Nat) : Int).toNat = l0.length + 10 by omega] at h3
    obtain ⟨rfl, rfl⟩ := step h3
    refine ⟨v0, ?_, rfl⟩
    rw [show ((0 : Nat) : Int) + ((l0.length + 10 : Nat) : Int) = (l0.length : Int) + 10 by omega]
set_option maxRecDepth 100000 in
set_option maxHeartbeats 4000000 in
theorem rosettelaw03_FrameCuts.calls (A0 : Option Addr) (c0 : Nat) (l0 : List Int) (A1 : Option Addr) (c1 : Nat) (l1 : List Int) (a2 : Int) (r : Bool) (w : World) (hr0 : Kd.C (Kd.int .u8) w A0 l0.length l0) (hc0 : l0.length ≤ c0) (hr1 : Kd.C (Kd.int .u8) w A1 l1.length l1) (hc1 : l1.length ≤ c1) (h : rosettelaw03_FrameCuts.f l0 l1 a2 = some r) :
    Calls Try.prog 7 #[.slice A0 l0.length c0, .slice A1 l1.length c1, .int .i64 a2] w fun e w' => e = .returned (.bool r) ∧ Below w.heap.size w w' := by
  unfold rosettelaw03_FrameCuts.f at h
  split at h
  · rename_i hcond
    obtain rfl : true = r := Option.some.inj h
    clear h
    obtain ⟨hs0, hu0, hs1, hu1⟩ := hcond
    obtain ⟨X, e0, hX, kX⟩ := make_tells l0 hu0
    obtain ⟨Y, e1, hY, kY⟩ := make_tells l1 hu1
    have EX := Aside0.mk hX
    have EY := Aside0.mk hY
    have KX := Aside0.mk kX
    have KY := Aside0.mk kY
    have U0 := Aside0.mk hu0
    have U1 := Aside0.mk hu1
    have HR0 := Aside0.mk (HeldB.low hr0)
    have HQ0 := Aside0.mk (HeldB.low hr1)
    clear hX hY kX kY hu0 hu1 hr0 hr1
    go_enter Try.func7, Try.ntmps7
    go_wp2_with fail
    refine (rosettelaw03_small.calls true _ rfl).mono ?_
    rintro e w1 ⟨rfl, hB⟩
    have HB1 : Aside0 (Below w.heap.size w w1) := ⟨hB⟩
    have HR1 := Aside0.mk (HR0.out.below hB)
    have HQ1 := Aside0.mk (HQ0.out.below hB)
    clear hB HR0 HQ0
    go_wp2_with fail
    refine (frame_Make.calls A0 c0 l0 X e0 w1 (HR1.out.C (by omega)) hc0 EX.out).mono ?_
    rintro e w2 ⟨v2, rfl, hR, hB⟩
    obtain ⟨Ax, nx, rfl, hnx, _, hH, _⟩ := held_own hR
    have HB2 : Aside0 (Below w.heap.size w w2) := ⟨HB1.out.trans (hB.mono HB1.out.size)⟩
    have HR2 := Aside0.mk (HR1.out.below hB)
    have HQ2 := Aside0.mk (HQ1.out.below hB)
    have HX2 := Aside0.mk (hH.mono (S' := fun _ => True) (fun _ _ => trivial))
    clear hR hB hH HB1 HR1 HQ1
    go_wp2_with fail
    refine (frame_Make.calls A1 c1 l1 Y e1 w2 (HQ2.out.C (by omega)) hc1 EY.out).mono ?_
    rintro e w3 ⟨v3, rfl, hR, hB⟩
    obtain ⟨Ay, ny, rfl, hny, _, hH, _⟩ := held_own hR
    have HB3 : Aside0 (Below w.heap.size w w3) := ⟨HB2.out.trans (hB.mono HB2.out.size)⟩
    have HR3 := Aside0.mk (HR2.out.below hB)
    have HX3 := Aside0.mk (HX2.out.below hB)
    have HY3 := Aside0.mk (hH.mono (S' := fun _ => True) (fun _ _ => trivial))
    clear hR hB hH HB2 HR2 HQ2 HX2
    have key : (l0.length ≤ 1000 ∧ X = Pure.frz l0 ∧ e0 = 0 ∧ l1.length ≤ 1000 ∧ Y = Pure.frz l1 ∧ e1 = 0 ∧ 0 ≤ a2 ∧ a2 < Y.length) ∨ (l0.length ≤ 1000 ∧ l1.length ≤ 1000 ∧ e0 = 0 ∧ e1 = 0 ∧ 0 ≤ a2 ∧ (Y.length : Int) ≤ a2) ∨ (l0.length ≤ 1000 ∧ l1.length ≤ 1000 ∧ e0 = 0 ∧ e1 = 0 ∧ a2 < 0)
        ∨ (l0.length ≤ 1000 ∧ e0 = 0 ∧ 1000 < l1.length ∧ e1 = 0) ∨ (l0.length ≤ 1000 ∧ e0 = 0 ∧ 8192 < l1.length ∧ e1 = 4 ∧ 1000 < l1.length)
        ∨ (1000 < l0.length ∧ e0 = 0 ∧ e1 = 0) ∨ (1000 < l0.length ∧ e0 = 0 ∧ 8192 < l1.length ∧ e1 = 4) ∨ (8192 < l0.length ∧ e0 = 4 ∧ e1 = 0 ∧ 1000 < l0.length) ∨ (8192 < l0.length ∧ e0 = 4 ∧ 8192 < l1.length ∧ e1 = 4 ∧ 1000 < l0.length) := by
      have k0 := KX.out
      have k1 := KY.out
      rcases k0 with ⟨p1, p2, p3⟩ | ⟨p1, p2, p3⟩ <;> rcases k1 with ⟨q1, q2, q3⟩ | ⟨q1, q2, q3⟩
      · exact .inr (.inr (.inr (.inr (.inr (.inr (.inr (.inr ⟨p1, p3, q1, q3, by omega⟩)))))))
      · exact .inr (.inr (.inr (.inr (.inr (.inr (.inr (.inl ⟨p1, p3, q3, by omega⟩)))))))
      · by_cases h : l0.length ≤ 1000
        · exact .inr (.inr (.inr (.inr (.inl ⟨h, p3, q1, q3, by omega⟩))))
        · exact .inr (.inr (.inr (.inr (.inr (.inr (.inl ⟨by omega, p3, q1, q3⟩))))))
      · by_cases h : l0.length ≤ 1000
        · by_cases h' : l1.length ≤ 1000
          · by_cases h2 : 0 ≤ a2
            · by_cases h3 : a2 < Y.length
              · exact .inl ⟨h, p2, p3, h', q2, q3, h2, h3⟩
              · exact .inr (.inl ⟨h, h', p3, q3, h2, by omega⟩)
            · exact .inr (.inr (.inl ⟨h, h', p3, q3, by omega⟩))
          · exact .inr (.inr (.inr (.inl ⟨h, p3, by omega, q3⟩)))
        · exact .inr (.inr (.inr (.inr (.inr (.inl ⟨by omega, p3, q3⟩)))))
    rcases key with ⟨h0, gX, rfl, h1, gY, rfl, h2, h3⟩ | ⟨h0, h1, rfl, rfl, h2, h3⟩ | ⟨h0, h1, rfl, rfl, h2⟩ | ⟨h0, rfl, h1, rfl⟩ | ⟨h0, rfl, h1, rfl, h2⟩ | ⟨h0, rfl, rfl⟩ | ⟨h0, rfl, h1, rfl⟩ | ⟨h0, rfl, rfl, h2⟩ | ⟨h0, rfl, h1, rfl, h2⟩
    case inl =>
      obtain ⟨m, rfl⟩ := Int.eq_ofNat_of_zero_le h2
      have hXl : X.length = l0.length + 10 := by rw [gX]; exact Pure.frz_length l0
      have hYl : Y.length = l1.length + 10 := by rw [gY]; exact Pure.frz_length l1
      have hm : m < Y.length := by omega
      have EGX := Aside0.mk gX
      have EGY := Aside0.mk gY
      have XL := Aside0.mk hXl
      have YL := Aside0.mk hYl
      have XU : Aside0 (u8s X) := ⟨by rw [gX]; exact Pure.frz_u8s U0.out (by omega)⟩
      have YU : Aside0 (u8s Y) := ⟨by rw [gY]; exact Pure.frz_u8s U1.out (by omega)⟩
      have hmn : m ≤ ny := by omega
      clear gX gY hXl hYl KX KY EX EY
      go_wp2_with fail
      refine (next_n Ay m ny (Y.take m) [] 0 2 w3 (by rw [List.length_take]; omega) (held_take HY3.out m) (by rw [List.length_take]; have := YL.out; omega) (by rw [List.length_take]; omega) (by rw [EGY.out]; exact Pure.next_cut (by omega) m (by have := YL.out; omega))).mono ?_
      rintro e w4 ⟨Pn, cn, rfl, _, _, _, hB⟩
      have HB4 : Aside0 (Below w.heap.size w w4) := ⟨HB3.out.trans (hB.mono HB3.out.size)⟩
      have HR4 := Aside0.mk (HR3.out.below hB)
      have HX4 := Aside0.mk (HX3.out.below hB)
      have HY4 := Aside0.mk (HY3.out.below hB)
      have b4 := Aside0.mk ((Below.refl w4.heap.size w4).alloc (Nat.le_refl _) (.cells #[] 5))
      clear hB HB3 HR3 HX3 HY3
      have htl : (Y.take m).length = m := by rw [List.length_take]; omega
      have TL := Aside0.mk htl
      obtain ⟨T, hT⟩ : ∃ T, T = Y.take m := ⟨_, rfl⟩
      rw [← hT] at TL
      have ET := Aside0.mk hT
      clear htl hT
      -- MAIN
      go_upto_region 7 with fail
      refine wp_region_held_drew (S := (fun W => Below w4.heap.size w4 W)) (by kernel_rfl) (below_drew (Below.refl _ _)) (fun hHeld => ?_)
      refine wpAnyH_take (i := 1) (oi := { dst := some 84, op := Op.move (Operand.tmp 8), type := 22, pos := "law.go:119", after := #[], guard := none }) (v := ?_) rfl (by kernel_rfl) (by kernel_rfl) (by kernel_rfl) (fun _ _ _ h => h) (Or.inl ⟨by rfl, ?_⟩) (by assumption) ?_
      rotate_left
      · intro w hSw
        try dsimp only at hSw
        go_simp
        all_goals with_reducible rfl
      try simp only [Act.put, List.setIfInBounds_toArray, List.set_cons_zero, List.set_cons_succ]
      refine wpAnyH_take (i := 3) (oi := { dst := some 86, op := Op.move (Operand.tmp 10), type := 22, pos := "law.go:119", after := #[], guard := none }) (v := ?_) rfl (by kernel_rfl) (by kernel_rfl) (by kernel_rfl) (fun _ _ _ h => h) (Or.inl ⟨by rfl, ?_⟩) (by assumption) ?_
      rotate_left
      · intro w hSw
        try dsimp only at hSw
        go_simp
        all_goals with_reducible rfl
      try simp only [Act.put, List.setIfInBounds_toArray, List.set_cons_zero, List.set_cons_succ]
      refine wpAnyH_take (i := 4) (oi := { dst := some 87, op := Op.move (Operand.tmp 2), type := 3, pos := "law.go:119", after := #[], guard := none }) (v := ?_) rfl (by kernel_rfl) (by kernel_rfl) (by kernel_rfl) (fun _ _ _ h => h) (Or.inl ⟨by rfl, ?_⟩) (by assumption) ?_
      rotate_left
      · intro w hSw
        try dsimp only at hSw
        go_simp
        all_goals with_reducible rfl
      try simp only [Act.put, List.setIfInBounds_toArray, List.set_cons_zero, List.set_cons_succ]
      refine wpAnyH_take (i := 5) (oi := { dst := some 88, op := Op.slice 22 (Operand.tmp 86) none (some (Operand.tmp 87)) none, type := 22, pos := "law.go:119", after := #[{ on := 3, ground := Ground.data }, { on := 4, ground := Ground.data }], guard := none }) (v := ?_) rfl (by kernel_rfl) (by kernel_rfl) (by kernel_rfl) (fun _ _ _ h => h) (Or.inl ⟨by rfl, ?_⟩) (by assumption) ?_
      rotate_left
      · intro w hSw
        try dsimp only at hSw
        go_simp
        all_goals with_reducible rfl
      try simp only [Act.put, List.setIfInBounds_toArray, List.set_cons_zero, List.set_cons_succ]
      refine wpAnyH_ready (rs := [0]) (by kernel_rfl) (by simp) ?_
      refine AllReadyH.cons (o := { dst := some 83, op := Op.buildSlice 22 0 #[], type := 22, pos := "law.go:119", after := #[], guard := none }) rfl (fun K hK => ?_) AllReadyH.nil
      go_simp
      refine hK.out _ _ (by first | exact hHeld | exact hHeld.alloc hHeld.size _ | assumption) (fun hHeld => ?_)
      clear hK K
      try simp only [Act.put, List.setIfInBounds_toArray, List.set_cons_zero, List.set_cons_succ]
      refine wpAnyH_ready (rs := [2]) (by kernel_rfl) (by simp) ?_
      refine AllReadyH.cons (o := { dst := some 85, op := Op.call { callee := Callee.builtin Builtin.append, args := #[Operand.tmp 83, Operand.tmp 84], argTypes := #[22, 22] }, type := 22, pos := "law.go:119", after := #[{ on := 0, ground := Ground.data }, { on := 1, ground := Ground.data }], guard := none }) rfl (fun K hK => ?_) AllReadyH.nil
      (refine step_append_row (w0 := w4) w4.heap.size rfl (.tmp 83) (.tmp 84) 22 5 .u8 1 rfl Try.underlying22 info_b8 (by decide) (.slice (some ⟨w4.heap.size, 0, none⟩) 0 0) [] X Ax X.length nx rfl rfl (own_empty w4.drew) (Kd.reads_of_C (d := (0 : Int)) ((HX4.out.below hHeld).C (by have := XL.out; omega))) hHeld (by simp) (by have := XL.out; simp; omega) ?_; intro v5 w5 ho5 hB5 _; rw [List.nil_append] at ho5; obtain ⟨A5, n5, rfl, _, _⟩ := own_C (kd_R ho5); clear hHeld; have hHeld := hB5)
      refine hK.out _ _ (by first | exact hHeld | exact hHeld.alloc hHeld.size _ | assumption) (fun hHeld => ?_)
      clear hK K
      try simp only [Act.put, List.setIfInBounds_toArray, List.set_cons_zero, List.set_cons_succ]
      refine wpAnyH_ready (rs := [6]) (by kernel_rfl) (by simp) ?_
      refine AllReadyH.cons (o := { dst := some 89, op := Op.call { callee := Callee.builtin Builtin.append, args := #[Operand.tmp 85, Operand.tmp 88], argTypes := #[22, 22] }, type := 22, pos := "law.go:119", after := #[{ on := 2, ground := Ground.data }, { on := 5, ground := Ground.data }, { on := 2, ground := Ground.chain }], guard := none }) rfl (fun K hK => ?_) AllReadyH.nil
      (refine step_append_row (w0 := w4) w4.heap.size rfl (.tmp 85) (.tmp 88) 22 5 .u8 1 rfl Try.underlying22 info_b8 (by decide) (.slice A5 X.length n5) X T Ay m ny rfl rfl ho5 (by have h_ := Kd.reads_of_C (d := (0 : Int)) ((by rw [ET.out]; exact held_take (HY4.out.below hB5) m : HeldB w5 (fun _ => True) Ay T).C (by have := TL.out; omega)); rw [TL.out] at h_; exact h_) hB5 (by have := hB5.size; omega) (by have := XL.out; have := YL.out; omega) ?_; intro v6 w6 ho6 hB6 _; obtain ⟨A6, n6, rfl, hn6, _, hH6, hC6⟩ := held_own (kd_R ho6); clear hHeld; have hHeld := hB6)
      refine hK.out _ _ (by first | exact hHeld | exact hHeld.alloc hHeld.size _ | assumption) (fun hHeld => ?_)
      clear hK K
      try simp only [Act.put, List.setIfInBounds_toArray, List.set_cons_zero, List.set_cons_succ]
      refine wpAnyH_ready (rs := [7]) (by kernel_rfl) (by simp) ?_
      refine AllReadyH.cons (o := { dst := some 90, op := Op.call { callee := Callee.value (Operand.func 13), args := #[Operand.tmp 89], argTypes := #[22] }, type := 30, pos := "law.go:119", after := #[{ on := 6, ground := Ground.data }, { on := 6, ground := Ground.chain }], guard := none }) rfl (fun K hK => ?_) AllReadyH.nil
      go_simp
      ((with_reducible refine Calls.mono (all_n A6 (X.length + T.length) n6 (X ++ T) w6 (by rw [List.length_append]) (Pure.u8s_append.2 ⟨XU.out, by rw [ET.out]; exact Pure.u8s_take YU.out m⟩) (hH6.mono (fun _ _ => trivial)) hn6 (by rw [List.length_append, TL.out]; have := XL.out; have := YL.out; omega)) ?_); rintro e w7 ⟨xs, er, Al, nl, rfl, hrun, hnl, hnl', hL, hB⟩; rw [ET.out, EGX.out, EGY.out] at hrun; obtain ⟨v7, rfl, her⟩ := run_cut U0.out (by omega) (by omega) (by have := YL.out; omega) hrun; have hHeld7 := below_via hB hB6; clear hHeld; have hHeld := hHeld7; have HER := Aside0.mk her; have HL7 := Aside0.mk hL; clear her hL hrun)
      go_wp2_with fail
      refine hK.out _ _ (by first | exact hHeld | exact hHeld.alloc hHeld.size _ | assumption) (fun hHeld => ?_)
      clear hK K
      try simp only [Act.put, List.setIfInBounds_toArray, List.set_cons_zero, List.set_cons_succ]
      refine wpAnyH_take (i := 8) (oi := { dst := some 82, op := Op.move (Operand.tmp 90), type := 30, pos := "law.go:119", after := #[{ on := 7, ground := Ground.data }], guard := none }) (v := ?_) rfl (by kernel_rfl) (by kernel_rfl) (by kernel_rfl) (fun _ _ _ h => h) (Or.inl ⟨by rfl, ?_⟩) (by assumption) ?_
      rotate_left
      · intro w hSw
        try dsimp only at hSw
        go_simp
        all_goals with_reducible rfl
      try simp only [Act.put, List.setIfInBounds_toArray, List.set_cons_zero, List.set_cons_succ]
      refine wpAnyH_take (i := 9) (oi := { dst := some 91, op := Op.extract (Operand.tmp 82) 0, type := 29, pos := "law.go:119", after := #[{ on := 8, ground := Ground.data }], guard := none }) (v := ?_) rfl (by kernel_rfl) (by kernel_rfl) (by kernel_rfl) (fun _ _ _ h => h) (Or.inl ⟨by rfl, ?_⟩) (by assumption) ?_
      rotate_left
      · intro w hSw
        try dsimp only at hSw
        go_simp
        all_goals with_reducible rfl
      try simp only [Act.put, List.setIfInBounds_toArray, List.set_cons_zero, List.set_cons_succ]
      refine wpAnyH_take (i := 10) (oi := { dst := some 92, op := Op.extract (Operand.tmp 82) 1, type := 3, pos := "law.go:119", after := #[{ on := 8, ground := Ground.data }, { on := 12, ground := Ground.gcOnly Departure.lateStores }], guard := none }) (v := ?_) rfl (by kernel_rfl) (by kernel_rfl) (by kernel_rfl) (fun _ _ _ h => h) (Or.inl ⟨by rfl, ?_⟩) (by assumption) ?_
      rotate_left
      · intro w hSw
        try dsimp only at hSw
        go_simp
        all_goals with_reducible rfl
      try simp only [Act.put, List.setIfInBounds_toArray, List.set_cons_zero, List.set_cons_succ]
      refine wpAnyH_take (i := 11) (oi := { dst := some 93, op := Op.extract (Operand.tmp 82) 2, type := 24, pos := "law.go:119", after := #[{ on := 8, ground := Ground.data }, { on := 13, ground := Ground.gcOnly Departure.lateStores }], guard := none }) (v := ?_) rfl (by kernel_rfl) (by kernel_rfl) (by kernel_rfl) (fun _ _ _ h => h) (Or.inl ⟨by rfl, ?_⟩) (by assumption) ?_
      rotate_left
      · intro w hSw
        try dsimp only at hSw
        go_simp
        all_goals with_reducible rfl
      try simp only [Act.put, List.setIfInBounds_toArray, List.set_cons_zero, List.set_cons_succ]
      refine wpAnyH_take (i := 12) (oi := { dst := some 15, op := Op.assign (Operand.tmp 91), type := 29, pos := "law.go:119", after := #[{ on := 9, ground := Ground.data }, { on := 7, ground := Ground.chain }, { on := 0, ground := Ground.phase }, { on := 1, ground := Ground.phase }, { on := 2, ground := Ground.phase }, { on := 3, ground := Ground.phase }, { on := 4, ground := Ground.phase }, { on := 5, ground := Ground.phase }, { on := 6, ground := Ground.phase }, { on := 7, ground := Ground.phase }, { on := 8, ground := Ground.phase }, { on := 9, ground := Ground.phase }, { on := 10, ground := Ground.textOnly Departure.lateStores }, { on := 11, ground := Ground.textOnly Departure.lateStores }], guard := none }) (v := ?_) rfl (by kernel_rfl) (by kernel_rfl) (by kernel_rfl) (fun _ _ _ h => h) (Or.inl ⟨by rfl, ?_⟩) (by assumption) ?_
      rotate_left
      · intro w hSw
        try dsimp only at hSw
        go_simp
        all_goals with_reducible rfl
      try simp only [Act.put, List.setIfInBounds_toArray, List.set_cons_zero, List.set_cons_succ]
      refine wpAnyH_take (i := 13) (oi := { dst := some 16, op := Op.assign (Operand.tmp 92), type := 3, pos := "law.go:119", after := #[{ on := 10, ground := Ground.data }, { on := 12, ground := Ground.chain }, { on := 0, ground := Ground.phase }, { on := 1, ground := Ground.phase }, { on := 2, ground := Ground.phase }, { on := 3, ground := Ground.phase }, { on := 4, ground := Ground.phase }, { on := 5, ground := Ground.phase }, { on := 6, ground := Ground.phase }, { on := 7, ground := Ground.phase }, { on := 8, ground := Ground.phase }, { on := 9, ground := Ground.phase }, { on := 10, ground := Ground.phase }, { on := 11, ground := Ground.textOnly Departure.lateStores }, { on := 12, ground := Ground.phase }], guard := none }) (v := ?_) rfl (by kernel_rfl) (by kernel_rfl) (by kernel_rfl) (fun _ _ _ h => h) (Or.inl ⟨by rfl, ?_⟩) (by assumption) ?_
      rotate_left
      · intro w hSw
        try dsimp only at hSw
        go_simp
        all_goals with_reducible rfl
      try simp only [Act.put, List.setIfInBounds_toArray, List.set_cons_zero, List.set_cons_succ]
      refine wpAnyH_take (i := 14) (oi := { dst := some 17, op := Op.assign (Operand.tmp 93), type := 24, pos := "law.go:119", after := #[{ on := 11, ground := Ground.data }, { on := 13, ground := Ground.chain }, { on := 0, ground := Ground.phase }, { on := 1, ground := Ground.phase }, { on := 2, ground := Ground.phase }, { on := 3, ground := Ground.phase }, { on := 4, ground := Ground.phase }, { on := 5, ground := Ground.phase }, { on := 6, ground := Ground.phase }, { on := 7, ground := Ground.phase }, { on := 8, ground := Ground.phase }, { on := 9, ground := Ground.phase }, { on := 10, ground := Ground.phase }, { on := 11, ground := Ground.phase }, { on := 12, ground := Ground.phase }, { on := 13, ground := Ground.phase }], guard := none }) (v := ?_) rfl (by kernel_rfl) (by kernel_rfl) (by kernel_rfl) (fun _ _ _ h => h) (Or.inl ⟨by rfl, ?_⟩) (by assumption) ?_
      rotate_left
      · intro w hSw
        try dsimp only at hSw
        go_simp
        all_goals with_reducible rfl
      try simp only [Act.put, List.setIfInBounds_toArray, List.set_cons_zero, List.set_cons_succ]
      refine wpAnyH_done (by kernel_rfl) ?_ _
      -- END
      have hL := HL7.out
      have her := HER.out
      clear HL7 HER
      simp only [List.getLast?_singleton, Option.map_some, Option.getD_some, List.length_cons, List.length_nil, List.map_cons, List.map_nil] at hL hnl ⊢
      have HB7 := Aside0.mk (below_via (hB6.trans (hB.mono hB6.size)) HB4.out)
      have HR7 := Aside0.mk ((HR4.out.below hB6).below hB)
      obtain ⟨al, P, cP, rfl, _, _, hcell, _, hPl, hPH⟩ := hL 0 (by simp)
      simp only [List.getD_cons_zero] at hcell hPl hPH
      rw [Addr.add_zero'] at hcell
      have k1 : ∀ q, (w7.drewN q).cell? al = some (.slice P l0.length cP) := fun q => hcell
      have s1 : ∀ q, (convert 22 9 (.slice P l0.length cP)).run Try.prog (w7.drewN q) = .ok (.string (strOfNums l0)) (w7.drewN q) := fun q => strA (Kd.C_below (hPH.C hPl) (pw_below_drewN (Below.refl _ _) q)) cP
      have s2 : ∀ q, (convert 22 9 (.slice A0 l0.length c0)).run Try.prog (w7.drewN q) = .ok (.string (strOfNums l0)) (w7.drewN q) := fun q => strA (Kd.C_below (HR7.out.C (by omega)) (pw_below_drewN (Below.refl _ _) q)) c0
      have x1 : ((l0.length : Int) + 10 == (X.length : Int)) = true := by rw [XL.out]; simp
      clear hB hL hB6 ho6 hB5 ho5 hH6 hC6 b4 HB4 HX4 HY4 HR4 hcell hPH
      by_cases hm0 : m = 0
      · subst hm0
        rw [if_pos rfl] at her
        subst her
        go_wp2_with fail
        go_quiet (fail)
        go_wp2
        go_ret
        exact ⟨rfl, pw_below_drewN HB7.out _⟩
      · rw [if_neg hm0] at her
        subst her
        have hm1 : 0 < m := by omega
        clear hm0
        go_wp2_with fail
        go_quiet (fail)
        go_wp2
        go_ret
        exact ⟨rfl, pw_below_drewN HB7.out _⟩
    all_goals (go_wp2_with fail; go_ret; exact ⟨by first | rfl | (show Ending.returned (Value.bool (decide ((8192 : Int) < (l1.length : Int)))) = _; rw [decide_eq_true (by omega)]), HB3.out⟩)
  · cases h

/-- THE ONE PURE STATEMENT of rosettelaw03_FrameCuts: yours. -/
def rosettelaw03_FrameCuts.Pure : Prop := ∀ (l0 : List Int) (l1 : List Int) (a2 : Int), l0.length ≤ maxLen → l0.length * 1 ≤ 140737488351232 → (∀ x ∈ l0, (Lit.int .u8 x).wf = true) → l1.length ≤ maxLen → l1.length * 1 ≤ 140737488351232 → (∀ x ∈ l1, (Lit.int .u8 x).wf = true) → (Lit.int .i64 a2).wf = true → rosettelaw03_FrameCuts.f l0 l1 a2 = some true
theorem rosettelaw03_FrameCuts.walk (P : rosettelaw03_FrameCuts.Pure) (a0 : Option Addr) (len0 cap0 : Nat) (z0 : List Int) (a1 : Option Addr) (len1 cap1 : Nat) (z1 : List Int) (a2 : Int) (w : World) (w0 : (a0 = none ∧ len0 = 0 ∧ cap0 = 0 ∧ z0 = []) ∨ ∃ x, a0 = some x ∧ len0 ≤ cap0 ∧ cap0 ≤ maxLen ∧ z0.length = cap0 ∧ (∀ i, i < z0.length → w.cell? (x.add i) = some (.int .u8 (z0.getD i 0))) ∧ ∀ n ∈ z0, (Lit.int .u8 n).wf = true) (y0 : len0 * 1 ≤ 140737488351232) (w1 : (a1 = none ∧ len1 = 0 ∧ cap1 = 0 ∧ z1 = []) ∨ ∃ x, a1 = some x ∧ len1 ≤ cap1 ∧ cap1 ≤ maxLen ∧ z1.length = cap1 ∧ (∀ i, i < z1.length → w.cell? (x.add i) = some (.int .u8 (z1.getD i 0))) ∧ ∀ n ∈ z1, (Lit.int .u8 n).wf = true) (y1 : len1 * 1 ≤ 140737488351232) (w2 : (Lit.int .i64 a2).wf = true) :
    Calls Try.prog 7 #[.slice a0 len0 cap0, .slice a1 len1 cap1, .int .i64 a2] w fun e w' => e = .returned (.bool true) ∧ Below w.heap.size w w' := by
  obtain ⟨l0, rfl, hr0, hm0, hw0, hc0⟩ := ReadsInt.ofRowC w0
  obtain ⟨l1, rfl, hr1, hm1, hw1, hc1⟩ := ReadsInt.ofRowC w1
  have h := P l0 l1 a2 hm0 y0 hw0 hm1 y1 hw1 w2
  refine (rosettelaw03_FrameCuts.calls _ _ l0 _ _ l1 a2 true w (Kd.C_of_reads (d := (0 : Int)) (h1 := fun _ => rfl) hr0) hc0 (Kd.C_of_reads (d := (0 : Int)) (h1 := fun _ => rfl) hr1) hc1 h).mono ?_
  rintro e w' ⟨rfl, hd⟩
  exact ⟨rfl, hd⟩

end Go.Proofs.Ytckjmbpagippkaa.G
end

section
/- The statement FrameCuts over numbers and lists: a frame of which some of its last bytes are missing tells that it is short, and frames ahead of it are found. -/
namespace Go.Proofs.Ytckjmbpagippkaa.Pure
open Go.RowKit Go.Proofs.Ytckjmbpagippkaa.G Go.Proofs.YtckjmbpagippkaaW.PrintWords Go.Proofs.YtckjmbpagippkaaW.PrintLast
theorem FrameCuts : rosettelaw03_FrameCuts.Pure := by
  intro l0 l1 a2 h1 h2 h3 h4 h5 h6 h7
  unfold rosettelaw03_FrameCuts.f
  rw [if_pos ⟨by omega, u8s_wf h3, by omega, u8s_wf h6⟩]
end Go.Proofs.Ytckjmbpagippkaa.Pure
end

section
-- Written by a program of this session (wip/tools/myprint.py), over the kit's print.
namespace Go.Proofs.Ytckjmbpagippkaa.frameCuts
open Go.ChangeShapes Go.WideShapes Go.ChangeAt Go.RowKit
open Go.ChangeMaps (open_string shut_string)
set_option linter.unusedVariables false
theorem own : ownKnob Try.prog.godebug = none := by kernel_rfl
theorem laidOut : laidOutB Try.prog = true := by kernel_rfl
def IsRow (k : IntKind) (w : World) (a : Option Addr) (len cap : Nat) (zs : List Int) : Prop :=
  (a = none ∧ len = 0 ∧ cap = 0 ∧ zs = []) ∨
  ∃ x, a = some x ∧ len ≤ cap ∧ cap ≤ maxLen ∧ zs.length = cap ∧ (∀ i, i < zs.length → w.cell? (x.add i) = some (.int k (zs.getD i 0))) ∧ ∀ n ∈ zs, (Lit.int k n).wf = true
set_option maxRecDepth 100000 in
theorem lifted (os : Os) (started : os.Started) (H : Type) (enc : TypeId × Value → H) :
    ReturnsInHanded {} Try.checked os 7 .any (Rows.frameCutsSpec.pre6 enc Try.prog Try.f7 Rows.frameCutsRow.domain false) (Rows.frameCutsSpec.post enc Try.prog Try.f7 false true false false) := by
  refine returnsInHanded_of_change_sized (C := Try.checked) own started (by kernel_rfl) Try.func7
    (ChangeSpec.witness6 (enc := enc) (C := Try.checked) false ⟨#[], #[.slice none 0 0, .slice none 0 0, .int .i64 0], []⟩ 8 (by kernel_rfl) (by kernel_rfl) (by kernel_rfl) (by kernel_rfl)) ?_
  intro W base args ds gs before hval0 hW hcnd hsz0 _
  have hsz : (DataW.weightsEach Try.prog (Try.f7.params.toList ++ Rows.frameCutsSpec.plain.varTypes Try.prog) (ds ++ gs)).all (· ≤ reachBytes) = true := hsz0
  have hval : ∀ (j : Nat) t v, Try.f7.params[j]? = some t → args[j]? = some v → Value.okWide Try.prog W .any base t v := hval0
  have hW' := hW
  obtain ⟨p, q, hA0, hV, rfl, hfz, hnd⟩ := hW
  have hA : DataW.TrodAll enc Try.prog W 0 (fun _ => true) true Try.f7.params.toList args.toList ds p := hA0
  rw [Try.params7] at hA hval hsz
  obtain ⟨v0, vs0, d0, ds0, p0, q0, hargs, rfl, rfl, h0, r0⟩ := trodAll_cons hA
  obtain ⟨v1, vs1, d1, ds1, p1, q1, rfl, rfl, rfl, h1, r1⟩ := trodAll_cons r0
  obtain ⟨v2, vs2, d2, ds2, p2, q2, rfl, rfl, rfl, h2, r2⟩ := trodAll_cons r1
  obtain ⟨rfl, rfl, rfl⟩ := trodAll_nil r2
  obtain rfl : args = #[v0, v1, v2] := by cases args; simp_all
  obtain ⟨rfl, rfl⟩ := trodVars_none hV
  obtain ⟨a0, len0, cap0, rfl⟩ := okWide_slice Try.underlying22 (hval 0 22 v0 rfl rfl)
  have k0 := h0
  have lt0 : ∀ x ∈ p0, x.block < W.heap.size := by obtain ⟨m, hm⟩ := k0; exact DataW.trod_lt m _ _ _ hm
  obtain ⟨z0, w0⟩ : ∃ zs, IsRow .u8 W a0 len0 cap0 zs := by
    obtain ⟨fuel, hf⟩ := h0
    rcases open_ints Try.underlying22 Try.underlying5 (by kernel_rfl) hf with ⟨hcs, _⟩ | ⟨x, l, c, zs, hcs, _, hl, hm, hz, _, hcell, hwz⟩
    · simp [Value.cells] at hcs
      obtain ⟨rfl, rfl, rfl⟩ := hcs
      exact ⟨[], .inl ⟨rfl, rfl, rfl, rfl⟩⟩
    · simp [Value.cells] at hcs
      obtain ⟨rfl, rfl, rfl⟩ := hcs
      exact ⟨zs, .inr ⟨_, rfl, hl, hm, by simpa using hz, hcell, hwz⟩⟩
  have y0 : len0 * 1 ≤ 140737488351232 := Go.Proofs.YtckjmbpagippkaaW.PrintWords.sized_ints hsz (j := 0) (t := 22) rfl rfl Try.underlying22 Try.underlying5 (by kernel_rfl) (by kernel_rfl) h0
  obtain ⟨a1, len1, cap1, rfl⟩ := okWide_slice Try.underlying22 (hval 1 22 v1 rfl rfl)
  have k1 := h1
  have lt1 : ∀ x ∈ p1, x.block < W.heap.size := by obtain ⟨m, hm⟩ := k1; exact DataW.trod_lt m _ _ _ hm
  obtain ⟨z1, w1⟩ : ∃ zs, IsRow .u8 W a1 len1 cap1 zs := by
    obtain ⟨fuel, hf⟩ := h1
    rcases open_ints Try.underlying22 Try.underlying5 (by kernel_rfl) hf with ⟨hcs, _⟩ | ⟨x, l, c, zs, hcs, _, hl, hm, hz, _, hcell, hwz⟩
    · simp [Value.cells] at hcs
      obtain ⟨rfl, rfl, rfl⟩ := hcs
      exact ⟨[], .inl ⟨rfl, rfl, rfl, rfl⟩⟩
    · simp [Value.cells] at hcs
      obtain ⟨rfl, rfl, rfl⟩ := hcs
      exact ⟨zs, .inr ⟨_, rfl, hl, hm, by simpa using hz, hcell, hwz⟩⟩
  have y1 : len1 * 1 ≤ 140737488351232 := Go.Proofs.YtckjmbpagippkaaW.PrintWords.sized_ints hsz (j := 1) (t := 22) rfl rfl Try.underlying22 Try.underlying5 (by kernel_rfl) (by kernel_rfl) h1
  obtain ⟨a2, rfl, rfl, rfl, w2⟩ := open_int Try.underlying3 (hval 2 3 v2 rfl rfl) h2
  clear hA0 hval0 hsz0 hsz
  refine (G.rosettelaw03_FrameCuts.walk Pure.FrameCuts a0 len0 cap0 z0 a1 len1 cap1 z1 a2 W w0 y0 w1 y1 w2).mono fun e W' ⟨he, bel⟩ => ?_
  subst he
  exact ⟨_, rfl, _, _, _, [], _, [], hW', trodAll_mk1 (shut_bool Try.underlying4 _), (trodAll_cons_mk (Below.trod laidOut (by kernel_rfl) (of_decide_eq_true (by kernel_rfl)) k0 bel lt0) (trodAll_cons_mk (Below.trod laidOut (by kernel_rfl) (of_decide_eq_true (by kernel_rfl)) k1 bel lt1) (trodAll_cons_mk (shut_int Try.underlying3 w2) trodAll_mk0))), rfl, bel.frame _, fun h => by cases h⟩
theorem over : Rows.frameCutsRow.holds Try.pinned (OpenSpec.ofChange Rows.frameCutsSpec) :=
  OpenClaim.holds_of_wide 7 Try.f7 rfl rfl rfl rfl rfl rfl rfl ⟨rfl, rfl, rfl, rfl, rfl⟩ rfl rfl rfl rfl rfl (by kernel_rfl) Try.func7 (by kernel_rfl)
    (of_decide_eq_true (by kernel_rfl)) (by unfold Func.isWrapper; first | (rw [if_pos (by decide +kernel)]; kernel_rfl) | (rw [if_neg (by decide +kernel)]; exact ⟨rfl, rfl⟩))
    (fun os started H enc _ => lifted os started H enc)
theorem proved : Rows.FrameCutsSaid := over
#print axioms proved
end Go.Proofs.Ytckjmbpagippkaa.frameCuts
namespace Go.Proofs.Ytckjmbpagippkaa
/-- The row, under a short name, for the claim. -/
theorem frameCuts_holds : Rows.FrameCutsSaid := frameCuts.proved
end Go.Proofs.Ytckjmbpagippkaa
end
