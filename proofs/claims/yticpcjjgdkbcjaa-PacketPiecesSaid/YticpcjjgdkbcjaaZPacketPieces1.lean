import Derived.Test.YticpcjjgdkbcjaaZPacketPieces0
import Derived.Lib.AppendZeros
import Derived.BigQuiet
import Derived.Deep.QuietTactic
import Derived.Laws.BitsAllLaws
section
-- Written by a program of this session (wip/tools/myprint.py), over the kit's print.
namespace Go.Proofs.Yticpcjjgdkbcjaa.G
open Go.RowKit Go.Proofs.YticpcjjgdkbcjaaW.PrintWords Go.Proofs.YticpcjjgdkbcjaaW.PrintLast Go.Proofs.YticpcjjgdkbcjaaW.PrintMore
attribute [local go_sem] max2_int min2_int max_two min_two max_three min_three max_four min_four   -- for this text's walks alone
set_option linter.unusedVariables false
set_option linter.unusedSimpArgs false

/-! ### crc_Open: function 40 -/
def crc_Open.f (l0 : List Int) : Option (List Int × Bool) := if (wrap64 ((l0.length : Int) - 4)) < 0 then (some (([] : List Int), false)) else (if 0 ≤ (wrap64 ((l0.length : Int) - 4)) then (if (wrap64 ((l0.length : Int) - 4)) ≤ (l0.length : Int) then ((crc_Seal.f (l0.take ((wrap64 ((l0.length : Int) - 4)) : Int).toNat)).bind fun t141 => (if (wrap64 ((l0.length : Int) - 4)) ≤ (t141.length : Int) then ((bytes_Equal.f (t141.drop ((wrap64 ((l0.length : Int) - 4)) : Int).toNat) (l0.drop ((wrap64 ((l0.length : Int) - 4)) : Int).toNat)).bind fun t149 => (if t149 = true then ((bytes_Clone.f (l0.take ((wrap64 ((l0.length : Int) - 4)) : Int).toNat)).bind fun t151 => (some (t151, true))) else (some (([] : List Int), false)))) else (none))) else (none)) else (none))
def crc_Open.T2 : Bool × List (List Nat × List Nat) := (true, [([], []), ([0], [0]), ([1], [1]), ([2], [2]), ([2], [2]), ([3, 4, 2], [2, 3, 4]), ([5, 2, 2], [2, 5]), ([2], [2]), ([6, 7, 2], [2, 6, 7]), ([2], [2]), ([2], [2]), ([9, 10, 2], [2, 9, 10]), ([8, 11, 6, 2], [2, 8, 11]), ([12, 2], [2, 12]), ([2, 13], [2, 13])])
def crc_Open.B2 : List Nat := [0, 1, 3, 7, 7, 31, 63, 7, 255, 7, 7, 1543, 4095, 8191, 16383]
theorem crc_Open.tab2 : rtab .any (opsOf Try.f40 2) = crc_Open.T2 := by kernel_rfl
theorem crc_Open.bits2 : waitsOk crc_Open.T2.2 crc_Open.B2 = true := by kernel_rfl
set_option maxHeartbeats 8000000 in
set_option maxRecDepth 100000 in
theorem crc_Open.calls (A0 : Option Addr) (c0 : Nat) (l0 : List Int) (r1 : List Int) (r2 : Bool) (w : World) (hr0 : Kd.C (Kd.int .u8) w A0 l0.length l0) (hc0 : l0.length ≤ c0) (h : crc_Open.f l0 = some (r1, r2)) :
    Calls Try.prog 40 #[.slice A0 l0.length c0] w fun e w' => ∃ v0_ : Value, e = .returned (.tuple #[v0_, .bool r2]) ∧ Kd.R (Kd.int .u8) 5 w' w.heap.size (fun _ => True) v0_ r1 ∧ Below w.heap.size w w' := by
  have HR0 := Aside0.mk hr0
  have HC0 := Aside0.mk hc0
  clear hr0 hc0
  have HB := Aside0.mk (Below.refl w.heap.size w)
  have H : (if (wrap64 ((l0.length : Int) - 4)) < 0 then (some (([] : List Int), false)) else (if 0 ≤ (wrap64 ((l0.length : Int) - 4)) then (if (wrap64 ((l0.length : Int) - 4)) ≤ (l0.length : Int) then ((crc_Seal.f (l0.take ((wrap64 ((l0.length : Int) - 4)) : Int).toNat)).bind fun t141 => (if (wrap64 ((l0.length : Int) - 4)) ≤ (t141.length : Int) then ((bytes_Equal.f (t141.drop ((wrap64 ((l0.length : Int) - 4)) : Int).toNat) (l0.drop ((wrap64 ((l0.length : Int) - 4)) : Int).toNat)).bind fun t149 => (if t149 = true then ((bytes_Clone.f (l0.take ((wrap64 ((l0.length : Int) - 4)) : Int).toNat)).bind fun t151 => (some (t151, true))) else (some (([] : List Int), false)))) else (none))) else (none)) else (none))) = some (r1, r2) := h
  clear h
  by_cases c2 : (wrap64 ((l0.length : Int) - 4)) < 0
  · rw [if_pos c2] at H
    have c2b0 : decide ((wrap64 ((l0.length : Int) - 4)) < 0) = true := decide_eq_true c2
    clear c2
    simp only [Option.some.injEq, Prod.mk.injEq] at H
    obtain ⟨rfl, rfl⟩ := H
    go_enter Try.func40, Try.ntmps40
    try go_wp2
    have n0_ := Aside0.mk (below_drew1 HB.out)
    clear HB
    have HB := n0_
    clear n0_
    refine start_ (n := 15) (S := fun w' => True) (ds := []) #[false, false, false, false, false, false, false, false, false, false, false, false, false, false, false] (by kernel_rfl) rfl rfl trivial (fun hHeld => ?_); refine with_tabW crc_Open.tab2 crc_Open.bits2 (fun HT_ HW_ => ?_)
    generalize w.drew = w3 at HB hHeld ⊢
    refine pure_ (i := 0) (N := some 8) (v := ?_) (a' := ?_) #[true, false, false, false, false, false, false, false, false, false, false, false, false, false, false] rfl rfl (any_of HT_.out (by kernel_rfl)) (fun _ _ _ h => h) (Or.inl ⟨by rfl, ?_⟩) ?_ ?_
    rotate_left
    · intro w'
      go_simp
      with_reducible rfl
    rotate_left
    · simp only [Act.put, List.setIfInBounds_toArray, List.set_cons_zero, List.set_cons_succ, i64_w, i32_w]
      rfl
    refine pure_ (i := 1) (N := some 9) (v := ?_) (a' := ?_) #[true, true, false, false, false, false, false, false, false, false, false, false, false, false, false] rfl rfl (any_of HT_.out (by kernel_rfl)) (fun _ _ _ h => h) (Or.inl ⟨by rfl, ?_⟩) ?_ ?_
    rotate_left
    · intro w'
      go_simp
      with_reducible rfl
    rotate_left
    · simp only [Act.put, List.setIfInBounds_toArray, List.set_cons_zero, List.set_cons_succ, i64_w, i32_w]
      rfl
    refine pure_ (i := 2) (N := some 10) (v := ?_) (a' := ?_) #[true, true, true, false, false, false, false, false, false, false, false, false, false, false, false] rfl rfl (any_of HT_.out (by kernel_rfl)) (fun _ _ _ h => h) (Or.inl ⟨by rfl, ?_⟩) ?_ ?_
    rotate_left
    · intro w'
      go_simp
      with_reducible rfl
    rotate_left
    · simp only [Act.put, List.setIfInBounds_toArray, List.set_cons_zero, List.set_cons_succ, i64_w, i32_w]
      rfl
    refine pure_ (i := 3) (N := some 11) (v := undef) (a' := ?_) #[true, true, true, true, false, false, false, false, false, false, false, false, false, false, false] rfl rfl (any_of HT_.out (by kernel_rfl)) (fun _ _ _ h => h) (Or.inr ⟨by rfl, rfl⟩) ?_ ?_
    rotate_left
    · simp only [Act.put, List.setIfInBounds_toArray, List.set_cons_zero, List.set_cons_succ, i64_w, i32_w]
      rfl
    refine pure_ (i := 4) (N := some 12) (v := undef) (a' := ?_) #[true, true, true, true, true, false, false, false, false, false, false, false, false, false, false] rfl rfl (any_of HT_.out (by kernel_rfl)) (fun _ _ _ h => h) (Or.inr ⟨by rfl, rfl⟩) ?_ ?_
    rotate_left
    · simp only [Act.put, List.setIfInBounds_toArray, List.set_cons_zero, List.set_cons_succ, i64_w, i32_w]
      rfl
    refine pure_ (i := 5) (N := some 13) (v := undef) (a' := ?_) #[true, true, true, true, true, true, false, false, false, false, false, false, false, false, false] rfl rfl (any_of HT_.out (by kernel_rfl)) (fun _ _ _ h => h) (Or.inr ⟨by rfl, rfl⟩) ?_ ?_
    rotate_left
    · simp only [Act.put, List.setIfInBounds_toArray, List.set_cons_zero, List.set_cons_succ, i64_w, i32_w]
      rfl
    refine pure_ (i := 6) (N := some 14) (v := undef) (a' := ?_) #[true, true, true, true, true, true, true, false, false, false, false, false, false, false, false] rfl rfl (any_of HT_.out (by kernel_rfl)) (fun _ _ _ h => h) (Or.inr ⟨by rfl, rfl⟩) ?_ ?_
    rotate_left
    · simp only [Act.put, List.setIfInBounds_toArray, List.set_cons_zero, List.set_cons_succ, i64_w, i32_w]
      rfl
    refine pure_ (i := 7) (N := some 15) (v := undef) (a' := ?_) #[true, true, true, true, true, true, true, true, false, false, false, false, false, false, false] rfl rfl (any_of HT_.out (by kernel_rfl)) (fun _ _ _ h => h) (Or.inr ⟨by rfl, rfl⟩) ?_ ?_
    rotate_left
    · simp only [Act.put, List.setIfInBounds_toArray, List.set_cons_zero, List.set_cons_succ, i64_w, i32_w]
      rfl
    refine pure_ (i := 8) (N := some 16) (v := undef) (a' := ?_) #[true, true, true, true, true, true, true, true, true, false, false, false, false, false, false] rfl rfl (any_of HT_.out (by kernel_rfl)) (fun _ _ _ h => h) (Or.inr ⟨by rfl, rfl⟩) ?_ ?_
    rotate_left
    · simp only [Act.put, List.setIfInBounds_toArray, List.set_cons_zero, List.set_cons_succ, i64_w, i32_w]
      rfl
    refine pure_ (i := 9) (N := some 17) (v := undef) (a' := ?_) #[true, true, true, true, true, true, true, true, true, true, false, false, false, false, false] rfl rfl (any_of HT_.out (by kernel_rfl)) (fun _ _ _ h => h) (Or.inr ⟨by rfl, rfl⟩) ?_ ?_
    rotate_left
    · simp only [Act.put, List.setIfInBounds_toArray, List.set_cons_zero, List.set_cons_succ, i64_w, i32_w]
      rfl
    refine pure_ (i := 10) (N := some 18) (v := undef) (a' := ?_) #[true, true, true, true, true, true, true, true, true, true, true, false, false, false, false] rfl rfl (any_of HT_.out (by kernel_rfl)) (fun _ _ _ h => h) (Or.inr ⟨by rfl, rfl⟩) ?_ ?_
    rotate_left
    · simp only [Act.put, List.setIfInBounds_toArray, List.set_cons_zero, List.set_cons_succ, i64_w, i32_w]
      rfl
    refine pure_ (i := 11) (N := some 19) (v := undef) (a' := ?_) #[true, true, true, true, true, true, true, true, true, true, true, true, false, false, false] rfl rfl (any_of HT_.out (by kernel_rfl)) (fun _ _ _ h => h) (Or.inr ⟨by rfl, rfl⟩) ?_ ?_
    rotate_left
    · simp only [Act.put, List.setIfInBounds_toArray, List.set_cons_zero, List.set_cons_succ, i64_w, i32_w]
      rfl
    refine pure_ (i := 12) (N := some 20) (v := undef) (a' := ?_) #[true, true, true, true, true, true, true, true, true, true, true, true, true, false, false] rfl rfl (any_of HT_.out (by kernel_rfl)) (fun _ _ _ h => h) (Or.inr ⟨by rfl, rfl⟩) ?_ ?_
    rotate_left
    · simp only [Act.put, List.setIfInBounds_toArray, List.set_cons_zero, List.set_cons_succ, i64_w, i32_w]
      rfl
    refine pure_ (i := 13) (N := some 21) (v := undef) (a' := ?_) #[true, true, true, true, true, true, true, true, true, true, true, true, true, true, false] rfl rfl (any_of HT_.out (by kernel_rfl)) (fun _ _ _ h => h) (Or.inr ⟨by rfl, rfl⟩) ?_ ?_
    rotate_left
    · simp only [Act.put, List.setIfInBounds_toArray, List.set_cons_zero, List.set_cons_succ, i64_w, i32_w]
      rfl
    refine pure_ (i := 14) (N := some 22) (v := ?_) (a' := ?_) #[true, true, true, true, true, true, true, true, true, true, true, true, true, true, true] rfl rfl (any_of HT_.out (by kernel_rfl)) (fun _ _ _ h => h) (Or.inl ⟨by rfl, ?_⟩) ?_ ?_
    rotate_left
    · intro w'
      go_simp
      with_reducible rfl
    rotate_left
    · simp only [Act.put, List.setIfInBounds_toArray, List.set_cons_zero, List.set_cons_succ, i64_w, i32_w]
      rfl
    refine done_ (done_of HT_.out (by kernel_rfl)) ?_
    try go_wp2
    go_ret2
    exact ⟨_, by first | rfl | (simp [errW_none, errW_some] <;> rfl) | (simp [*, errW_none, errW_some] <;> rfl), by first | exact Kd.R_nil _ _ _ _ _ | exact Kd.N_nil _ _ _ _ _ | exact Kd.V_nil _ _ _ _ _ | exact Kd.Q_nil _ _ _ _ _ | exact Kd.S_nil _ _ _ _ _, by repeat (first | (with_reducible first | exact HB.out | apply below_alloc | apply pw_below_drewN | apply below_drew1) | exact HB.out)⟩
  · rw [if_neg c2] at H
    have c2b0 : decide ((wrap64 ((l0.length : Int) - 4)) < 0) = false := decide_eq_false c2
    clear c2
    obtain ⟨ji4, hji4⟩ : ∃ j_ : Int, (wrap64 ((l0.length : Int) - 4)) = j_ := ⟨_, rfl⟩
    replace H : (if 0 ≤ (ji4) then (if (ji4) ≤ (l0.length : Int) then ((crc_Seal.f (l0.take ((ji4) : Int).toNat)).bind fun t141 => (if (ji4) ≤ (t141.length : Int) then ((bytes_Equal.f (t141.drop ((ji4) : Int).toNat) (l0.drop ((ji4) : Int).toNat)).bind fun t149 => (if t149 = true then ((bytes_Clone.f (l0.take ((ji4) : Int).toNat)).bind fun t151 => (some (t151, true))) else (some (([] : List Int), false)))) else (none))) else (none)) else (none)) = some (r1, r2) := by first | (rw [hji4] at H; exact H) | (simp only [hji4] at H ⊢; exact H)
    (try rw [hji4] at c2b0)
    have hji4w : (IntKind.i64.wrap ((l0.length : Int) - 4)) = ji4 := (i64_w _).trans hji4
    by_cases c5 : 0 ≤ (ji4)
    · rw [if_pos c5] at H
      have c5b0 := eq_true c5
      have c5b1 : decide (0 ≤ (ji4)) = true := decide_eq_true c5
      clear c5
      by_cases c6 : (ji4) ≤ (l0.length : Int)
      · rw [if_pos c6] at H
        have c6b0 := eq_true c6
        have c6b1 : decide ((ji4) ≤ (l0.length : Int)) = true := decide_eq_true c6
        clear c6
        replace H := Option.bind_eq_some_iff.mp H
        obtain ⟨t141, A70, H⟩ := H
        replace H : (if (ji4) ≤ (t141.length : Int) then ((bytes_Equal.f (t141.drop ((ji4) : Int).toNat) (l0.drop ((ji4) : Int).toNat)).bind fun t149 => (if t149 = true then ((bytes_Clone.f (l0.take ((ji4) : Int).toNat)).bind fun t151 => (some (t151, true))) else (some (([] : List Int), false)))) else (none)) = some (r1, r2) := H
        have A7 := Aside0.mk A70
        clear A70
        have c8b0 := eq_true (of_decide_eq_true (by first | (with_reducible assumption) | assumption) : 0 ≤ (ji4))
        by_cases c9 : (ji4) ≤ (t141.length : Int)
        · rw [if_pos c9] at H
          have c9b0 := eq_true c9
          have c9b1 : decide ((ji4) ≤ (t141.length : Int)) = true := decide_eq_true c9
          clear c9
          obtain ⟨y144, hy144⟩ : ∃ y_ : List Int, y_ = (t141.drop ((ji4) : Int).toNat) := ⟨_, rfl⟩
          replace H : ((bytes_Equal.f y144 (l0.drop ((ji4) : Int).toNat)).bind fun t149 => (if t149 = true then ((bytes_Clone.f (l0.take ((ji4) : Int).toNat)).bind fun t151 => (some (t151, true))) else (some (([] : List Int), false)))) = some (r1, r2) := by first | (rw [hy144]; with_reducible exact H) | (have H2_ := (Option.bind_some _ _).symm.trans H; rw [hy144]; with_reducible exact H2_) | (have H2_ := (Option.bind_some _ _).symm.trans H; with_reducible exact H2_) | with_reducible exact H | (rw [hy144]; exact H) | exact H
          have Ny144 := Aside0.mk hy144
          clear hy144
          have c10b0 := eq_true (of_decide_eq_true (by first | (with_reducible assumption) | assumption) : 0 ≤ (ji4))
          have c11b0 := eq_true (of_decide_eq_true (by first | (with_reducible assumption) | assumption) : (ji4) ≤ (l0.length : Int))
          replace H := Option.bind_eq_some_iff.mp H
          obtain ⟨t149, A120, H⟩ := H
          replace H : (if t149 = true then ((bytes_Clone.f (l0.take ((ji4) : Int).toNat)).bind fun t151 => (some (t151, true))) else (some (([] : List Int), false))) = some (r1, r2) := H
          have A12 := Aside0.mk A120
          clear A120
          by_cases c13 : t149 = true
          · subst c13
            have H1 : ((bytes_Clone.f (l0.take ((ji4) : Int).toNat)).bind fun t151 => (some (t151, true))) = some (r1, r2) := by rw [if_pos rfl] at H; exact H
            clear H
            have H := H1
            clear H1
            have c14b0 := eq_true (of_decide_eq_true (by first | (with_reducible assumption) | assumption) : 0 ≤ (ji4))
            have c15b0 := eq_true (of_decide_eq_true (by first | (with_reducible assumption) | assumption) : (ji4) ≤ (l0.length : Int))
            replace H := Option.bind_eq_some_iff.mp H
            obtain ⟨t151, A160, H⟩ := H
            replace H : (some (t151, true)) = some (r1, r2) := H
            have A16 := Aside0.mk A160
            clear A160
            simp only [Option.some.injEq, Prod.mk.injEq] at H
            obtain ⟨rfl, rfl⟩ := H
            go_enter Try.func40, Try.ntmps40
            try go_wp2
            have n0_ := Aside0.mk (below_drew1 HB.out)
            clear HB
            have HB := n0_
            clear n0_
            obtain ⟨i018, hi018, _, hsz18, _⟩ := info_parts info5
            obtain ⟨hcut18, hA18, hC18⟩ := print_take_of (P := Try.prog) (Value.int .u8) 0 23 5 .i64 Try.underlying23 hi018 hsz18 A0 c0 l0 (ji4) (of_decide_eq_true (by first | (with_reducible assumption) | assumption)) (of_decide_eq_true (by first | (with_reducible assumption) | assumption)) HC0.out
            have HR140 := Aside0.mk (Kd.C_of_reads (h1 := fun _ => rfl) (hA18 _ (Kd.reads_of_C HR0.out)))
            have HC140 := Aside0.mk hC18
            clear hA18 hC18 hi018 hsz18
            obtain ⟨i019, hi019, _, hsz19, _⟩ := info_parts info5
            obtain ⟨A19, hcut19, hA19, hC19⟩ := print_drop_of (P := Try.prog) (Value.int .u8) 0 23 5 .i64 Try.underlying23 hi019 hsz19 A0 c0 l0 (ji4) (of_decide_eq_true (by first | (with_reducible assumption) | assumption)) (of_decide_eq_true (by first | (with_reducible assumption) | assumption)) HC0.out
            have HR148 := Aside0.mk (Kd.C_of_reads (h1 := fun _ => rfl) (hA19 _ (Kd.reads_of_C HR0.out)))
            have HC148 := Aside0.mk hC19
            clear hA19 hC19 hi019 hsz19
            refine start_ (n := 15) (S := fun w' => True) (ds := []) #[false, false, false, false, false, false, false, false, false, false, false, false, false, false, false] (by kernel_rfl) rfl rfl trivial (fun hHeld => ?_); refine with_tabW crc_Open.tab2 crc_Open.bits2 (fun HT_ HW_ => ?_)
            generalize w.drew = w17 at HB HR140 HR148 hHeld ⊢
            refine pure_ (i := 0) (N := some 8) (v := ?_) (a' := ?_) #[true, false, false, false, false, false, false, false, false, false, false, false, false, false, false] rfl rfl (any_of HT_.out (by kernel_rfl)) (fun _ _ _ h => h) (Or.inl ⟨by rfl, ?_⟩) ?_ ?_
            rotate_left
            · intro w'
              go_simp
              with_reducible rfl
            rotate_left
            · simp only [Act.put, List.setIfInBounds_toArray, List.set_cons_zero, List.set_cons_succ, i64_w, i32_w]
              rfl
            refine pure_ (i := 1) (N := some 9) (v := ?_) (a' := ?_) #[true, true, false, false, false, false, false, false, false, false, false, false, false, false, false] rfl rfl (any_of HT_.out (by kernel_rfl)) (fun _ _ _ h => h) (Or.inl ⟨by rfl, ?_⟩) ?_ ?_
            rotate_left
            · intro w'
              go_simp
              with_reducible rfl
            rotate_left
            · simp only [Act.put, List.setIfInBounds_toArray, List.set_cons_zero, List.set_cons_succ, i64_w, i32_w]
              rfl
            refine pure_ (i := 2) (N := some 10) (v := ?_) (a' := ?_) #[true, true, true, false, false, false, false, false, false, false, false, false, false, false, false] rfl rfl (any_of HT_.out (by kernel_rfl)) (fun _ _ _ h => h) (Or.inl ⟨by rfl, ?_⟩) ?_ ?_
            rotate_left
            · intro w'
              go_simp
              with_reducible rfl
            rotate_left
            · simp only [Act.put, List.setIfInBounds_toArray, List.set_cons_zero, List.set_cons_succ, i64_w, i32_w]
              rfl
            refine pure_ (i := 3) (N := some 11) (v := ?_) (a' := ?_) #[true, true, true, true, false, false, false, false, false, false, false, false, false, false, false] rfl rfl (any_of HT_.out (by kernel_rfl)) (fun _ _ _ h => h) (Or.inl ⟨by rfl, ?_⟩) ?_ ?_
            rotate_left
            · intro w'
              go_simp
              with_reducible rfl
            rotate_left
            · simp only [Act.put, List.setIfInBounds_toArray, List.set_cons_zero, List.set_cons_succ, i64_w, i32_w]
              rfl
            refine pure_ (i := 4) (N := some 12) (v := ?_) (a' := ?_) #[true, true, true, true, true, false, false, false, false, false, false, false, false, false, false] rfl rfl (any_of HT_.out (by kernel_rfl)) (fun _ _ _ h => h) (Or.inl ⟨by rfl, ?_⟩) ?_ ?_
            rotate_left
            · intro w'
              go_simp
              with_reducible rfl
            rotate_left
            · simp only [Act.put, List.setIfInBounds_toArray, List.set_cons_zero, List.set_cons_succ, i64_w, i32_w]
              rfl
            refine pure_ (i := 5) (N := some 13) (v := ?_) (a' := ?_) #[true, true, true, true, true, true, false, false, false, false, false, false, false, false, false] rfl rfl (any_of HT_.out (by kernel_rfl)) (fun _ _ _ h => h) (Or.inl ⟨by rfl, ?_⟩) ?_ ?_
            rotate_left
            · intro w'
              go_simp
              with_reducible rfl
            rotate_left
            · simp only [Act.put, List.setIfInBounds_toArray, List.set_cons_zero, List.set_cons_succ, i64_w, i32_w]
              rfl
            refine pure_ (i := 7) (N := some 15) (v := ?_) (a' := ?_) #[true, true, true, true, true, true, false, true, false, false, false, false, false, false, false] rfl rfl (any_of HT_.out (by kernel_rfl)) (fun _ _ _ h => h) (Or.inl ⟨by rfl, ?_⟩) ?_ ?_
            rotate_left
            · intro w'
              go_simp
              with_reducible rfl
            rotate_left
            · simp only [Act.put, List.setIfInBounds_toArray, List.set_cons_zero, List.set_cons_succ, i64_w, i32_w]
              rfl
            refine pure_ (i := 9) (N := some 17) (v := ?_) (a' := ?_) #[true, true, true, true, true, true, false, true, false, true, false, false, false, false, false] rfl rfl (any_of HT_.out (by kernel_rfl)) (fun _ _ _ h => h) (Or.inl ⟨by rfl, ?_⟩) ?_ ?_
            rotate_left
            · intro w'
              go_simp
              with_reducible rfl
            rotate_left
            · simp only [Act.put, List.setIfInBounds_toArray, List.set_cons_zero, List.set_cons_succ, i64_w, i32_w]
              rfl
            refine pure_ (i := 10) (N := some 18) (v := ?_) (a' := ?_) #[true, true, true, true, true, true, false, true, false, true, true, false, false, false, false] rfl rfl (any_of HT_.out (by kernel_rfl)) (fun _ _ _ h => h) (Or.inl ⟨by rfl, ?_⟩) ?_ ?_
            rotate_left
            · intro w'
              go_simp
              with_reducible rfl
            rotate_left
            · simp only [Act.put, List.setIfInBounds_toArray, List.set_cons_zero, List.set_cons_succ, i64_w, i32_w]
              rfl
            refine pure_ (i := 11) (N := some 19) (v := ?_) (a' := ?_) #[true, true, true, true, true, true, false, true, false, true, true, true, false, false, false] rfl rfl (any_of HT_.out (by kernel_rfl)) (fun _ _ _ h => h) (Or.inl ⟨by rfl, ?_⟩) ?_ ?_
            rotate_left
            · intro w'
              go_simp
              with_reducible rfl
            rotate_left
            · simp only [Act.put, List.setIfInBounds_toArray, List.set_cons_zero, List.set_cons_succ, i64_w, i32_w]
              rfl
            refine one_ (i := 6) (N := some 14) #[true, true, true, true, true, true, true, true, false, true, true, true, false, false, false] rfl rfl (one_of HT_.out (by kernel_rfl)) (by decide) (fun K hK => ?_)
            refine goes_ Try.func39 (by kernel_rfl) rfl #[.slice A0 (l0.take ((ji4) : Int).toNat).length c0] (by rfl) rfl rfl (by (try simp only [List.map_toArray, List.map_cons, List.map_nil]); first | done | (rw [show (l0.take ((ji4) : Int).toNat).length = (ji4).toNat from (by rw [List.length_take]; have h_ : ((ji4) : Int) ≤ (l0.length : Int) := of_decide_eq_true (by first | (with_reducible assumption) | assumption); omega)] <;> rfl) | (simp only [hji4]; rfl) | rfl | (simp only [List.length_drop, List.length_take]; rfl)) ?_
            with_reducible refine (crc_Seal.calls _ _ (l0.take ((ji4) : Int).toNat) t141 _ ?side1 ?side2 A7.out).mono ?_
            (case side1 => repeat (first | exact (Kd.C_below HR140.out HB.out) | (with_reducible refine Kd.C_alloc ?_ _) | (with_reducible refine Kd.C_drewN ?_ _) | (with_reducible refine Kd.C_drew ?_)))
            (case side2 => exact HC140.out)
            rintro e w20 ⟨v142, rfl, ho0, hb⟩
            refine ⟨_, rfl, ?_⟩
            have n0_ := Aside0.mk (Kd.R_lower ho0 (below_size (by repeat (first | (with_reducible first | exact HB.out | apply below_alloc | apply pw_below_drewN | apply below_drew1) | exact HB.out))))
            have n1_ := Aside0.mk (below_step (by repeat (first | (with_reducible first | exact HB.out | apply below_alloc | apply pw_below_drewN | apply below_drew1) | exact HB.out)) hb)
            clear HB
            have HO143 := n0_
            have HB := n1_
            clear n0_ n1_
            (try clear hb)
            (try clear hb2)
            (try clear hk)
            (try clear hi)
            (try clear ho0)
            obtain ⟨Ao22, co22, eo22⟩ := Kd.R_slice HO143.out
            (first | subst eo22 | (injection eo22 with f1_ f2_ f3_; have f4_ := f1_.symm; have f5_ := f3_.symm; clear f1_ f2_ f3_; subst f4_; subst f5_))
            have q21 : ((ji4) : Int) ≤ ((t141.length : Int) : Int) := of_decide_eq_true (by first | (with_reducible assumption) | assumption)
            obtain ⟨i021, hi021, _, hsz21, _⟩ := info_parts info5
            have hroom21 : t141.length ≤ co22 := (Kd.R_reads' HO143.out).2.1
            have hC21 : Kd.C (Kd.int .u8) _ Ao22 t141.length t141 := (Kd.R_reads' HO143.out).2.2
            have q021 : (0 : Int) ≤ ((ji4) : Int) := of_decide_eq_true (by first | (with_reducible assumption) | assumption)
            have hcut21 := cut_from (P := Try.prog) 23 5 .i64 Try.underlying23 hi021 1 hsz21 Ao22 t141.length co22 (ji4) q021 q21
            have hr21 := Kd.C_drop (m := ((ji4) : Int).toNat) (c := co22) hC21 (by omega) hroom21
            obtain ⟨A21, hA21⟩ : ∃ A1, A1 = (if co22 = ((ji4) : Int).toNat then Ao22 else (Ao22 : Option Addr).map (·.add (((ji4) : Int).toNat * 1))) := ⟨_, rfl⟩
            obtain ⟨c21, hc21⟩ : ∃ c1, c1 = co22 - ((ji4) : Int).toNat := ⟨_, rfl⟩
            have hy21 : y144.length = t141.length - ((ji4) : Int).toNat := (by rw [Ny144.out, List.length_drop] <;> omega)
            rw [show (t141).drop ((ji4) : Int).toNat = y144 from Ny144.out.symm] at hr21
            replace hr21 : Kd.C (Kd.int .u8) _ A21 y144.length y144 := (by rw [hA21]; exact hr21)
            rw [← hy21, ← hA21, ← hc21] at hcut21
            have HR147 := Aside0.mk hr21
            have HC147 := Aside0.mk (show y144.length ≤ c21 from by rw [hy21, hc21]; exact Nat.sub_le_sub_right hroom21 _)
            clear hr21 hC21 hroom21 hi021 hsz21 hc21
            have KY21 := Aside0.mk hy21
            have KA21 := Aside0.mk hA21
            clear hy21 hA21
            have KL21 := Aside0.mk (show ((ji4) : Int).toNat ≤ t141.length from by omega)
            replace q21 := eq_true q21
            refine hK.out _ _ trivial (fun hHeld => ?_)
            clear hK K
            refine norm_ (a' := ?_) ?_ ?_
            rotate_left
            · show Act.put _ (some 14) _ = _
              simp only [Act.put, List.setIfInBounds_toArray, List.set_cons_zero, List.set_cons_succ, i64_w, i32_w]
              rfl
            refine pure_ (i := 8) (N := some 16) (v := ?_) (a' := ?_) #[true, true, true, true, true, true, true, true, true, true, true, true, false, false, false] rfl rfl (any_of HT_.out (by kernel_rfl)) (fun _ _ _ h => h) (Or.inl ⟨by rfl, ?_⟩) ?_ ?_
            rotate_left
            · intro w'
              go_simp
              with_reducible rfl
            rotate_left
            · simp only [Act.put, List.setIfInBounds_toArray, List.set_cons_zero, List.set_cons_succ, i64_w, i32_w]
              rfl
            refine one_ (i := 12) (N := some 20) #[true, true, true, true, true, true, true, true, true, true, true, true, true, false, false] rfl rfl (one_of HT_.out (by kernel_rfl)) (by decide) (fun K hK => ?_)
            refine goes_ Try.func48 (by kernel_rfl) rfl #[.slice A21 y144.length c21, .slice A19 (l0.drop ((ji4) : Int).toNat).length (c0 - (ji4).toNat)] (by rfl) rfl rfl (by (try simp only [List.map_toArray, List.map_cons, List.map_nil]); first | done | (rw [show (l0.drop ((ji4) : Int).toNat).length = (l0.length - (ji4).toNat) from List.length_drop] <;> rfl) | (simp only [hji4]; rfl) | rfl | (simp only [List.length_drop, List.length_take]; rfl)) ?_
            with_reducible refine (bytes_Equal.calls _ _ y144 _ _ (l0.drop ((ji4) : Int).toNat) true _ ?side1 ?side2 ?side3 ?side4 A12.out).mono ?_
            (case side1 => repeat (first | exact (by repeat (first | (with_reducible exact HR147.out) | (with_reducible refine Kd.C_alloc ?_ _) | (with_reducible refine Kd.C_drewN ?_ _) | (with_reducible refine Kd.C_drew ?_) | exact HR147.out)) | (with_reducible refine Kd.C_alloc ?_ _) | (with_reducible refine Kd.C_drewN ?_ _) | (with_reducible refine Kd.C_drew ?_)))
            (case side2 => exact HC147.out)
            (case side3 => repeat (first | exact (Kd.C_below HR148.out HB.out) | (with_reducible refine Kd.C_alloc ?_ _) | (with_reducible refine Kd.C_drewN ?_ _) | (with_reducible refine Kd.C_drew ?_)))
            (case side4 => exact HC148.out)
            rintro e w' ⟨rfl, ⟨nd, rfl⟩⟩
            refine ⟨_, rfl, ?_⟩
            refine hK.out _ _ trivial (fun hHeld => ?_)
            clear hK K
            refine norm_ (a' := ?_) ?_ ?_
            rotate_left
            · show Act.put _ (some 20) _ = _
              simp only [Act.put, List.setIfInBounds_toArray, List.set_cons_zero, List.set_cons_succ, i64_w, i32_w]
              rfl
            refine pure_ (i := 13) (N := some 21) (v := ?_) (a' := ?_) #[true, true, true, true, true, true, true, true, true, true, true, true, true, true, false] rfl rfl (any_of HT_.out (by kernel_rfl)) (fun _ _ _ h => h) (Or.inl ⟨by rfl, ?_⟩) ?_ ?_
            rotate_left
            · intro w'
              go_simp
              with_reducible rfl
            rotate_left
            · simp only [Act.put, List.setIfInBounds_toArray, List.set_cons_zero, List.set_cons_succ, i64_w, i32_w]
              rfl
            refine pure_ (i := 14) (N := some 22) (v := ?_) (a' := ?_) #[true, true, true, true, true, true, true, true, true, true, true, true, true, true, true] rfl rfl (any_of HT_.out (by kernel_rfl)) (fun _ _ _ h => h) (Or.inl ⟨by rfl, ?_⟩) ?_ ?_
            rotate_left
            · intro w'
              go_simp
              with_reducible rfl
            rotate_left
            · simp only [Act.put, List.setIfInBounds_toArray, List.set_cons_zero, List.set_cons_succ, i64_w, i32_w]
              rfl
            refine done_ (done_of HT_.out (by kernel_rfl)) ?_
            obtain ⟨i023, hi023, _, hsz23, _⟩ := info_parts info5
            obtain ⟨hcut23, hA23, hC23⟩ := print_take_of (P := Try.prog) (Value.int .u8) 0 23 5 .i64 Try.underlying23 hi023 hsz23 A0 c0 l0 (ji4) (of_decide_eq_true (by first | (with_reducible assumption) | assumption)) (of_decide_eq_true (by first | (with_reducible assumption) | assumption)) HC0.out
            have HR150 := Aside0.mk (Kd.C_of_reads (h1 := fun _ => rfl) (hA23 _ (Kd.reads_of_C HR0.out)))
            have HC150 := Aside0.mk hC23
            clear hA23 hC23 hi023 hsz23
            try go_wp2_with (first | ((with_reducible refine gate_callee (f := 51) rfl ?_); refine goesL_ (some 26) rfl rfl Try.func51 (by kernel_rfl) rfl #[.slice A0 (l0.take ((ji4) : Int).toNat).length c0] rfl (by (try simp only [List.map_toArray, List.map_cons, List.map_nil]); first | done | (rw [show (l0.take ((ji4) : Int).toNat).length = (ji4).toNat from (by rw [List.length_take]; have h_ : ((ji4) : Int) ≤ (l0.length : Int) := of_decide_eq_true (by first | (with_reducible assumption) | assumption); omega)] <;> rfl) | (simp only [hji4]; rfl) | rfl | (simp only [List.length_drop, List.length_take]; rfl)) ?_; (with_reducible refine (bytes_Clone.calls _ _ (l0.take ((ji4) : Int).toNat) t151 _ ?side1 ?side2 A16.out).mono ?_); (case side1 => repeat (first | exact (Kd.C_below HR150.out (by repeat (first | (with_reducible first | exact HB.out | apply below_alloc | apply pw_below_drewN | apply below_drew1) | exact HB.out))) | (with_reducible refine Kd.C_alloc ?_ _) | (with_reducible refine Kd.C_drewN ?_ _) | (with_reducible refine Kd.C_drew ?_))); (case side2 => exact HC150.out); rintro e w24 ⟨v152, rfl, ho0, hb⟩; refine ⟨_, rfl, ?_⟩; have n0_ := Aside0.mk (Kd.R_elder' (by (with_reducible repeat (first | apply Kd.R_alloc | apply Kd.R_drewN | apply Kd.R_drew)); exact HO143.out) (Kd.R_base ho0) hb); have n1_ := Aside0.mk (Kd.R_lower (Kd.R_new' ho0 (Kd.R_lt (by (with_reducible repeat (first | apply Kd.R_alloc | apply Kd.R_drewN | apply Kd.R_drew)); exact HO143.out))) (below_size (by repeat (first | (with_reducible first | exact HB.out | apply below_alloc | apply pw_below_drewN | apply below_drew1) | exact HB.out)))); have n2_ := Aside0.mk (Kd.C_below (by repeat (first | (with_reducible exact HR147.out) | (with_reducible refine Kd.C_alloc ?_ _) | (with_reducible refine Kd.C_drewN ?_ _) | (with_reducible refine Kd.C_drew ?_) | exact HR147.out)) hb); have n3_ := Aside0.mk (below_step (by repeat (first | (with_reducible first | exact HB.out | apply below_alloc | apply pw_below_drewN | apply below_drew1) | exact HB.out)) hb); clear HO143; clear HR147; clear HB; have HO143 := n0_; have HO153 := n1_; have HR147 := n2_; have HB := n3_; clear n0_ n1_ n2_ n3_; (try clear hb); (try clear hb2); (try clear hk); (try clear hi); (try clear ho0)))
            go_ret2
            exact ⟨_, by first | rfl | (simp [errW_none, errW_some] <;> rfl) | (simp only [← hji4]; first | rfl | (simp [errW_none, errW_some] <;> rfl)) | (simp [*, errW_none, errW_some] <;> rfl), by (with_reducible repeat (first | apply Kd.R_alloc | apply Kd.R_drewN | apply Kd.R_drew)); exact Kd.R_mono HO153.out (fun _ hk => trivial), by repeat (first | (with_reducible first | exact HB.out | apply below_alloc | apply pw_below_drewN | apply below_drew1) | exact HB.out)⟩
          · replace c13 := Bool.eq_false_iff.mpr c13
            subst c13
            have H1 : (some (([] : List Int), false)) = some (r1, r2) := by rw [if_neg (show ¬ (false = true) by decide)] at H; exact H
            clear H
            have H := H1
            clear H1
            simp only [Option.some.injEq, Prod.mk.injEq] at H
            obtain ⟨rfl, rfl⟩ := H
            go_enter Try.func40, Try.ntmps40
            try go_wp2
            have n0_ := Aside0.mk (below_drew1 HB.out)
            clear HB
            have HB := n0_
            clear n0_
            obtain ⟨i026, hi026, _, hsz26, _⟩ := info_parts info5
            obtain ⟨hcut26, hA26, hC26⟩ := print_take_of (P := Try.prog) (Value.int .u8) 0 23 5 .i64 Try.underlying23 hi026 hsz26 A0 c0 l0 (ji4) (of_decide_eq_true (by first | (with_reducible assumption) | assumption)) (of_decide_eq_true (by first | (with_reducible assumption) | assumption)) HC0.out
            have HR140 := Aside0.mk (Kd.C_of_reads (h1 := fun _ => rfl) (hA26 _ (Kd.reads_of_C HR0.out)))
            have HC140 := Aside0.mk hC26
            clear hA26 hC26 hi026 hsz26
            obtain ⟨i027, hi027, _, hsz27, _⟩ := info_parts info5
            obtain ⟨A27, hcut27, hA27, hC27⟩ := print_drop_of (P := Try.prog) (Value.int .u8) 0 23 5 .i64 Try.underlying23 hi027 hsz27 A0 c0 l0 (ji4) (of_decide_eq_true (by first | (with_reducible assumption) | assumption)) (of_decide_eq_true (by first | (with_reducible assumption) | assumption)) HC0.out
            have HR148 := Aside0.mk (Kd.C_of_reads (h1 := fun _ => rfl) (hA27 _ (Kd.reads_of_C HR0.out)))
            have HC148 := Aside0.mk hC27
            clear hA27 hC27 hi027 hsz27
            refine start_ (n := 15) (S := fun w' => True) (ds := []) #[false, false, false, false, false, false, false, false, false, false, false, false, false, false, false] (by kernel_rfl) rfl rfl trivial (fun hHeld => ?_); refine with_tabW crc_Open.tab2 crc_Open.bits2 (fun HT_ HW_ => ?_)
            generalize w.drew = w25 at HB HR140 HR148 hHeld ⊢
            refine pure_ (i := 0) (N := some 8) (v := ?_) (a' := ?_) #[true, false, false, false, false, false, false, false, false, false, false, false, false, false, false] rfl rfl (any_of HT_.out (by kernel_rfl)) (fun _ _ _ h => h) (Or.inl ⟨by rfl, ?_⟩) ?_ ?_
            rotate_left
            · intro w'
              go_simp
              with_reducible rfl
            rotate_left
            · simp only [Act.put, List.setIfInBounds_toArray, List.set_cons_zero, List.set_cons_succ, i64_w, i32_w]
              rfl
            refine pure_ (i := 1) (N := some 9) (v := ?_) (a' := ?_) #[true, true, false, false, false, false, false, false, false, false, false, false, false, false, false] rfl rfl (any_of HT_.out (by kernel_rfl)) (fun _ _ _ h => h) (Or.inl ⟨by rfl, ?_⟩) ?_ ?_
            rotate_left
            · intro w'
              go_simp
              with_reducible rfl
            rotate_left
            · simp only [Act.put, List.setIfInBounds_toArray, List.set_cons_zero, List.set_cons_succ, i64_w, i32_w]
              rfl
            refine pure_ (i := 2) (N := some 10) (v := ?_) (a' := ?_) #[true, true, true, false, false, false, false, false, false, false, false, false, false, false, false] rfl rfl (any_of HT_.out (by kernel_rfl)) (fun _ _ _ h => h) (Or.inl ⟨by rfl, ?_⟩) ?_ ?_
            rotate_left
            · intro w'
              go_simp
              with_reducible rfl
            rotate_left
            · simp only [Act.put, List.setIfInBounds_toArray, List.set_cons_zero, List.set_cons_succ, i64_w, i32_w]
              rfl
            refine pure_ (i := 3) (N := some 11) (v := ?_) (a' := ?_) #[true, true, true, true, false, false, false, false, false, false, false, false, false, false, false] rfl rfl (any_of HT_.out (by kernel_rfl)) (fun _ _ _ h => h) (Or.inl ⟨by rfl, ?_⟩) ?_ ?_
            rotate_left
            · intro w'
              go_simp
              with_reducible rfl
            rotate_left
            · simp only [Act.put, List.setIfInBounds_toArray, List.set_cons_zero, List.set_cons_succ, i64_w, i32_w]
              rfl
            refine pure_ (i := 4) (N := some 12) (v := ?_) (a' := ?_) #[true, true, true, true, true, false, false, false, false, false, false, false, false, false, false] rfl rfl (any_of HT_.out (by kernel_rfl)) (fun _ _ _ h => h) (Or.inl ⟨by rfl, ?_⟩) ?_ ?_
            rotate_left
            · intro w'
              go_simp
              with_reducible rfl
            rotate_left
            · simp only [Act.put, List.setIfInBounds_toArray, List.set_cons_zero, List.set_cons_succ, i64_w, i32_w]
              rfl
            refine pure_ (i := 5) (N := some 13) (v := ?_) (a' := ?_) #[true, true, true, true, true, true, false, false, false, false, false, false, false, false, false] rfl rfl (any_of HT_.out (by kernel_rfl)) (fun _ _ _ h => h) (Or.inl ⟨by rfl, ?_⟩) ?_ ?_
            rotate_left
            · intro w'
              go_simp
              with_reducible rfl
            rotate_left
            · simp only [Act.put, List.setIfInBounds_toArray, List.set_cons_zero, List.set_cons_succ, i64_w, i32_w]
              rfl
            refine pure_ (i := 7) (N := some 15) (v := ?_) (a' := ?_) #[true, true, true, true, true, true, false, true, false, false, false, false, false, false, false] rfl rfl (any_of HT_.out (by kernel_rfl)) (fun _ _ _ h => h) (Or.inl ⟨by rfl, ?_⟩) ?_ ?_
            rotate_left
            · intro w'
              go_simp
              with_reducible rfl
            rotate_left
            · simp only [Act.put, List.setIfInBounds_toArray, List.set_cons_zero, List.set_cons_succ, i64_w, i32_w]
              rfl
            refine pure_ (i := 9) (N := some 17) (v := ?_) (a' := ?_) #[true, true, true, true, true, true, false, true, false, true, false, false, false, false, false] rfl rfl (any_of HT_.out (by kernel_rfl)) (fun _ _ _ h => h) (Or.inl ⟨by rfl, ?_⟩) ?_ ?_
            rotate_left
            · intro w'
              go_simp
              with_reducible rfl
            rotate_left
            · simp only [Act.put, List.setIfInBounds_toArray, List.set_cons_zero, List.set_cons_succ, i64_w, i32_w]
              rfl
            refine pure_ (i := 10) (N := some 18) (v := ?_) (a' := ?_) #[true, true, true, true, true, true, false, true, false, true, true, false, false, false, false] rfl rfl (any_of HT_.out (by kernel_rfl)) (fun _ _ _ h => h) (Or.inl ⟨by rfl, ?_⟩) ?_ ?_
            rotate_left
            · intro w'
              go_simp
              with_reducible rfl
            rotate_left
            · simp only [Act.put, List.setIfInBounds_toArray, List.set_cons_zero, List.set_cons_succ, i64_w, i32_w]
              rfl
            refine pure_ (i := 11) (N := some 19) (v := ?_) (a' := ?_) #[true, true, true, true, true, true, false, true, false, true, true, true, false, false, false] rfl rfl (any_of HT_.out (by kernel_rfl)) (fun _ _ _ h => h) (Or.inl ⟨by rfl, ?_⟩) ?_ ?_
            rotate_left
            · intro w'
              go_simp
              with_reducible rfl
            rotate_left
            · simp only [Act.put, List.setIfInBounds_toArray, List.set_cons_zero, List.set_cons_succ, i64_w, i32_w]
              rfl
            refine one_ (i := 6) (N := some 14) #[true, true, true, true, true, true, true, true, false, true, true, true, false, false, false] rfl rfl (one_of HT_.out (by kernel_rfl)) (by decide) (fun K hK => ?_)
            refine goes_ Try.func39 (by kernel_rfl) rfl #[.slice A0 (l0.take ((ji4) : Int).toNat).length c0] (by rfl) rfl rfl (by (try simp only [List.map_toArray, List.map_cons, List.map_nil]); first | done | (rw [show (l0.take ((ji4) : Int).toNat).length = (ji4).toNat from (by rw [List.length_take]; have h_ : ((ji4) : Int) ≤ (l0.length : Int) := of_decide_eq_true (by first | (with_reducible assumption) | assumption); omega)] <;> rfl) | (simp only [hji4]; rfl) | rfl | (simp only [List.length_drop, List.length_take]; rfl)) ?_
            with_reducible refine (crc_Seal.calls _ _ (l0.take ((ji4) : Int).toNat) t141 _ ?side1 ?side2 A7.out).mono ?_
            (case side1 => repeat (first | exact (Kd.C_below HR140.out HB.out) | (with_reducible refine Kd.C_alloc ?_ _) | (with_reducible refine Kd.C_drewN ?_ _) | (with_reducible refine Kd.C_drew ?_)))
            (case side2 => exact HC140.out)
            rintro e w28 ⟨v142, rfl, ho0, hb⟩
            refine ⟨_, rfl, ?_⟩
            have n0_ := Aside0.mk (Kd.R_lower ho0 (below_size (by repeat (first | (with_reducible first | exact HB.out | apply below_alloc | apply pw_below_drewN | apply below_drew1) | exact HB.out))))
            have n1_ := Aside0.mk (below_step (by repeat (first | (with_reducible first | exact HB.out | apply below_alloc | apply pw_below_drewN | apply below_drew1) | exact HB.out)) hb)
            clear HB
            have HO143 := n0_
            have HB := n1_
            clear n0_ n1_
            (try clear hb)
            (try clear hb2)
            (try clear hk)
            (try clear hi)
            (try clear ho0)
            obtain ⟨Ao30, co30, eo30⟩ := Kd.R_slice HO143.out
            (first | subst eo30 | (injection eo30 with f1_ f2_ f3_; have f4_ := f1_.symm; have f5_ := f3_.symm; clear f1_ f2_ f3_; subst f4_; subst f5_))
            have q29 : ((ji4) : Int) ≤ ((t141.length : Int) : Int) := of_decide_eq_true (by first | (with_reducible assumption) | assumption)
            obtain ⟨i029, hi029, _, hsz29, _⟩ := info_parts info5
            have hroom29 : t141.length ≤ co30 := (Kd.R_reads' HO143.out).2.1
            have hC29 : Kd.C (Kd.int .u8) _ Ao30 t141.length t141 := (Kd.R_reads' HO143.out).2.2
            have q029 : (0 : Int) ≤ ((ji4) : Int) := of_decide_eq_true (by first | (with_reducible assumption) | assumption)
            have hcut29 := cut_from (P := Try.prog) 23 5 .i64 Try.underlying23 hi029 1 hsz29 Ao30 t141.length co30 (ji4) q029 q29
            have hr29 := Kd.C_drop (m := ((ji4) : Int).toNat) (c := co30) hC29 (by omega) hroom29
            obtain ⟨A29, hA29⟩ : ∃ A1, A1 = (if co30 = ((ji4) : Int).toNat then Ao30 else (Ao30 : Option Addr).map (·.add (((ji4) : Int).toNat * 1))) := ⟨_, rfl⟩
            obtain ⟨c29, hc29⟩ : ∃ c1, c1 = co30 - ((ji4) : Int).toNat := ⟨_, rfl⟩
            have hy29 : y144.length = t141.length - ((ji4) : Int).toNat := (by rw [Ny144.out, List.length_drop] <;> omega)
            rw [show (t141).drop ((ji4) : Int).toNat = y144 from Ny144.out.symm] at hr29
            replace hr29 : Kd.C (Kd.int .u8) _ A29 y144.length y144 := (by rw [hA29]; exact hr29)
            rw [← hy29, ← hA29, ← hc29] at hcut29
            have HR147 := Aside0.mk hr29
            have HC147 := Aside0.mk (show y144.length ≤ c29 from by rw [hy29, hc29]; exact Nat.sub_le_sub_right hroom29 _)
            clear hr29 hC29 hroom29 hi029 hsz29 hc29
            have KY29 := Aside0.mk hy29
            have KA29 := Aside0.mk hA29
            clear hy29 hA29
            have KL29 := Aside0.mk (show ((ji4) : Int).toNat ≤ t141.length from by omega)
            replace q29 := eq_true q29
            refine hK.out _ _ trivial (fun hHeld => ?_)
            clear hK K
            refine norm_ (a' := ?_) ?_ ?_
            rotate_left
            · show Act.put _ (some 14) _ = _
              simp only [Act.put, List.setIfInBounds_toArray, List.set_cons_zero, List.set_cons_succ, i64_w, i32_w]
              rfl
            refine pure_ (i := 8) (N := some 16) (v := ?_) (a' := ?_) #[true, true, true, true, true, true, true, true, true, true, true, true, false, false, false] rfl rfl (any_of HT_.out (by kernel_rfl)) (fun _ _ _ h => h) (Or.inl ⟨by rfl, ?_⟩) ?_ ?_
            rotate_left
            · intro w'
              go_simp
              with_reducible rfl
            rotate_left
            · simp only [Act.put, List.setIfInBounds_toArray, List.set_cons_zero, List.set_cons_succ, i64_w, i32_w]
              rfl
            refine one_ (i := 12) (N := some 20) #[true, true, true, true, true, true, true, true, true, true, true, true, true, false, false] rfl rfl (one_of HT_.out (by kernel_rfl)) (by decide) (fun K hK => ?_)
            refine goes_ Try.func48 (by kernel_rfl) rfl #[.slice A29 y144.length c29, .slice A27 (l0.drop ((ji4) : Int).toNat).length (c0 - (ji4).toNat)] (by rfl) rfl rfl (by (try simp only [List.map_toArray, List.map_cons, List.map_nil]); first | done | (rw [show (l0.drop ((ji4) : Int).toNat).length = (l0.length - (ji4).toNat) from List.length_drop] <;> rfl) | (simp only [hji4]; rfl) | rfl | (simp only [List.length_drop, List.length_take]; rfl)) ?_
            with_reducible refine (bytes_Equal.calls _ _ y144 _ _ (l0.drop ((ji4) : Int).toNat) false _ ?side1 ?side2 ?side3 ?side4 A12.out).mono ?_
            (case side1 => repeat (first | exact (by repeat (first | (with_reducible exact HR147.out) | (with_reducible refine Kd.C_alloc ?_ _) | (with_reducible refine Kd.C_drewN ?_ _) | (with_reducible refine Kd.C_drew ?_) | exact HR147.out)) | (with_reducible refine Kd.C_alloc ?_ _) | (with_reducible refine Kd.C_drewN ?_ _) | (with_reducible refine Kd.C_drew ?_)))
            (case side2 => exact HC147.out)
            (case side3 => repeat (first | exact (Kd.C_below HR148.out HB.out) | (with_reducible refine Kd.C_alloc ?_ _) | (with_reducible refine Kd.C_drewN ?_ _) | (with_reducible refine Kd.C_drew ?_)))
            (case side4 => exact HC148.out)
            rintro e w' ⟨rfl, ⟨nd, rfl⟩⟩
            refine ⟨_, rfl, ?_⟩
            refine hK.out _ _ trivial (fun hHeld => ?_)
            clear hK K
            refine norm_ (a' := ?_) ?_ ?_
            rotate_left
            · show Act.put _ (some 20) _ = _
              simp only [Act.put, List.setIfInBounds_toArray, List.set_cons_zero, List.set_cons_succ, i64_w, i32_w]
              rfl
            refine pure_ (i := 13) (N := some 21) (v := ?_) (a' := ?_) #[true, true, true, true, true, true, true, true, true, true, true, true, true, true, false] rfl rfl (any_of HT_.out (by kernel_rfl)) (fun _ _ _ h => h) (Or.inl ⟨by rfl, ?_⟩) ?_ ?_
            rotate_left
            · intro w'
              go_simp
              with_reducible rfl
            rotate_left
            · simp only [Act.put, List.setIfInBounds_toArray, List.set_cons_zero, List.set_cons_succ, i64_w, i32_w]
              rfl
            refine pure_ (i := 14) (N := some 22) (v := ?_) (a' := ?_) #[true, true, true, true, true, true, true, true, true, true, true, true, true, true, true] rfl rfl (any_of HT_.out (by kernel_rfl)) (fun _ _ _ h => h) (Or.inl ⟨by rfl, ?_⟩) ?_ ?_
            rotate_left
            · intro w'
              go_simp
              with_reducible rfl
            rotate_left
            · simp only [Act.put, List.setIfInBounds_toArray, List.set_cons_zero, List.set_cons_succ, i64_w, i32_w]
              rfl
            refine done_ (done_of HT_.out (by kernel_rfl)) ?_
            try go_wp2
            go_ret2
            exact ⟨_, by first | rfl | (simp [errW_none, errW_some] <;> rfl) | (simp only [← hji4]; first | rfl | (simp [errW_none, errW_some] <;> rfl)) | (simp [*, errW_none, errW_some] <;> rfl), by first | exact Kd.R_nil _ _ _ _ _ | exact Kd.N_nil _ _ _ _ _ | exact Kd.V_nil _ _ _ _ _ | exact Kd.Q_nil _ _ _ _ _ | exact Kd.S_nil _ _ _ _ _, by repeat (first | (with_reducible first | exact HB.out | apply below_alloc | apply pw_below_drewN | apply below_drew1) | exact HB.out)⟩
        · rw [if_neg c9] at H
          exact absurd H (by simp)
      · rw [if_neg c6] at H
        exact absurd H (by simp)
    · rw [if_neg c5] at H
      exact absurd H (by simp)

end Go.Proofs.Yticpcjjgdkbcjaa.G
end

section
/- slices.Grow of nothing, and slices.Concat of two rows of bytes. -/
set_option linter.unusedVariables false
set_option linter.unusedSimpArgs false
set_option autoImplicit false
namespace Go.Proofs.Yticpcjjgdkbcjaa
open Go.RowKit Go.Proofs.YticpcjjgdkbcjaaW.PrintWords Go.Proofs.YticpcjjgdkbcjaaW.PrintLast Go.Proofs.YticpcjjgdkbcjaaW.PrintMore

set_option maxRecDepth 100000 in
set_option maxHeartbeats 1000000 in
theorem grow_nil (n : Nat) (hn : n ≤ 100000) (w : World) :
    Calls Try.prog 49 #[.slice none 0 0, .int .i64 n] w fun e w' => ∃ v, e = .returned v ∧ (Kd.int .u8).R 5 w' w.heap.size (fun _ => True) v [] ∧ Below w.heap.size w w' := by
  have hw : wrap64 ((n : Int) - 0) = (n : Int) := by unfold wrap64; omega
  go_enter Try.func49, Try.ntmps49
  by_cases h0 : 0 < n
  · have hinfo : ∃ i : TypeInfo, Try.prog.info? 5 = some i ∧ i.zero = some (.int .u8 0) ∧ i.size = 1 ∧ i.bytes = 1 := ⟨_, rfl, rfl, rfl, rfl⟩
    obtain ⟨i0, hi, hz, hs, hb⟩ := hinfo
    have hrun := fun W => Lib.run_append_nil_zeros (P := Try.prog) W 23 3 23 5 i0 (.int .u8 0) .i64 .i64 Try.underlying23 Try.underlying3 hi hz n h0 (by omega) (by omega) (by rw [hb]; omega)
    clear hi hz hs hb
    go_wp2_with (at_builtin; refine Lib.wpList_append_run _ rfl _ _ _ _ rfl _ _ rfl rfl _ _ (hrun _) ?_)
    go_ret
    refine ⟨_, rfl, ?_, (Below.refl _ _).alloc (Nat.le_refl _) _ |> below_drew⟩
    refine kd_R ⟨by simp [nums], .inr ⟨w.heap.size, grownCap w n 0 5, _, rfl, Nat.le_refl _, heap_alloc_new w _, Nat.zero_le _, grownCap_le_maxLen w n 0 _ (by unfold maxLen; omega), ?_, by simp [nums]⟩⟩
    have hg := grownCap_ge w n 0 5
    rw [Array.size_append, size_zeroCells, size_zeroCells]
    simp
    omega
  · obtain rfl : n = 0 := by omega
    go_wp2
    go_ret
    exact ⟨_, rfl, Kd.R_nil _ _ _ _ _, Below.refl _ _⟩
theorem info_b8 : (Try.prog.info? 5).map (fun i => (i.zero, i.size, i.bytes)) = some (some (.int .u8 0), 1, 1) := by kernel_rfl
theorem HeldB.mono {w : World} {S S' : Nat → Prop} {A : Option Addr} {l : List Int} (h : HeldB w S A l) (hS : ∀ k, S k → S' k) : HeldB w S' A l := by
  intro h0
  obtain ⟨ad, h1, h2, h3⟩ := h h0
  exact ⟨ad, h1, hS _ h2, h3⟩
theorem two_cells {W : World} {b T : Nat} {x y : Value} (h : W.heap[b]? = some (.cells #[x, y] T (0, 0))) :
    W.cell? ⟨b, 0, none⟩ = some x ∧ W.cell? ⟨b, 1, none⟩ = some y :=
  ⟨by rw [cell_of_row _ _ _ _ _ _ h]; rfl, by rw [cell_of_row _ _ _ _ _ _ h]; rfl⟩
theorem vkeepB {W W' : World} {b : Nat} {o : Obj} (h : W.heap[b]? = some o) (hB : Below W.heap.size W W') : W'.heap[b]? = some o := by rw [hB.block _ (lt_of_heap h)]; exact h
theorem vkeepO {W W' : World} {b base : Nat} {o : Obj} (h : W.heap[b]? = some o) (hB : Below base W W') (hb : b < base) : W'.heap[b]? = some o := by rw [hB.block _ hb]; exact h
set_option maxRecDepth 100000 in
set_option maxHeartbeats 2000000 in
theorem concat_two (gc cc : Nat) (A1 : Option Addr) (c1 : Nat) (l1 : List Int) (A2 : Option Addr) (c2 : Nat) (l2 : List Int) (w : World) (hcell : w.heap[gc]? = some (.cells #[.slice A1 l1.length c1, .slice A2 l2.length c2] 23 (0, 0)))
    (h1 : HeldB w (fun k => k < w.heap.size) A1 l1) (h2 : HeldB w (fun k => k < w.heap.size) A2 l2) (hl1 : l1.length ≤ 40000) (hl2 : l2.length ≤ 40000) :
    Calls Try.prog 38 #[.slice (some ⟨gc, 0, none⟩) 2 cc] w fun e w' => ∃ v, e = .returned v ∧ (Kd.int .u8).R 5 w' w.heap.size (fun _ => True) v (l1 ++ l2) ∧ Below w.heap.size w w' := by
  have hgc := lt_of_heap hcell
  obtain ⟨k0, k1⟩ := two_cells hcell
  have HC := Aside0.mk hcell
  have H1 := Aside0.mk h1
  have H2 := Aside0.mk h2
  have HGC := Aside0.mk hgc
  clear hcell h1 h2 hgc
  go_enter Try.func38, Try.ntmps38
  go_wp2_with fail
  go_loop [3, 11] (fun s i => (i = .int .i64 0 ∧ s = .int .i64 0) ∨ (i = .int .i64 1 ∧ s = .int .i64 l1.length) ∨ (i = .int .i64 2 ∧ s = .int .i64 (l1.length + l2.length : Nat))) (fun _ i => 2 - (intOf i).toNat)
  case atStart => exact .inl ⟨rfl, rfl⟩
  case round =>
    rcases hrel with ⟨rfl, rfl⟩ | ⟨rfl, rfl⟩ | ⟨rfl, rfl⟩
    · go_wp2_with fail
      exact ⟨.inr (.inl ⟨rfl, rfl⟩), by simp [intOf]⟩
    · go_wp2_with fail
      exact ⟨.inr (.inr ⟨rfl, by simp⟩), by simp [intOf]⟩
    · go_wp2_with fail
      refine (grow_nil (l1.length + l2.length) (by omega) w).mono ?_
      rintro e w2 ⟨v0, rfl, hR, hB⟩
      have HB2 := Aside0.mk hB
      have HC2 := Aside0.mk (vkeepB HC.out hB)
      have H12 := Aside0.mk (H1.out.below hB)
      have H22 := Aside0.mk (H2.out.below hB)
      have HO2 := Aside0.mk hR
      clear hB hR HC H1 H2 k0 k1
      go_wp2_with fail
      go_loopw [6, 27] (fun v i wr => ∃ (k : Nat) (xs : List Int), k ≤ 2 ∧ i = .int .i64 k ∧ Aside0 (xs = if k = 0 then [] else if k = 1 then l1 else l1 ++ l2) ∧ Aside0 ((Kd.int .u8).R 5 wr w.heap.size (fun _ => True) v xs) ∧ Aside0 (wr.heap[gc]? = some (.cells #[.slice A1 l1.length c1, .slice A2 l2.length c2] 23 (0, 0))) ∧ Aside0 (HeldB wr (fun k => k < w.heap.size) A1 l1) ∧ Aside0 (HeldB wr (fun k => k < w.heap.size) A2 l2) ∧ Below w.heap.size w wr) (fun _ i _ => 2 - (intOf i).toNat)
      case atStart => exact ⟨0, [], by omega, rfl, ⟨rfl⟩, ⟨HO2.out⟩, ⟨HC2.out⟩, ⟨H12.out⟩, ⟨H22.out⟩, HB2.out⟩
      case round =>
        clear HO2 HC2 H12 H22 HB2
        obtain ⟨k, xs, hk, rfl, HX, HO, HC, H1, H2, hBr⟩ := hrel
        have HBR := Aside0.mk hBr
        clear hBr
        obtain ⟨k0, k1⟩ := two_cells HC.out
        have hk3 : k = 0 ∨ k = 1 ∨ k = 2 := by omega
        clear hk
        obtain ⟨Ab, cb, rfl, hcb, _⟩ := own_C HO.out
        rcases hk3 with rfl | rfl | rfl
        · have hx : xs = [] := HX.out
          subst hx
          go_wp2_with (at_builtin; refine print_append_row (w0 := w) w.heap.size rfl (.tmp 31) (.tmp 32) 23 5 .u8 1 rfl Try.underlying23 info_b8 (by decide) (.slice Ab 0 cb) ([] : List Int) l1 A1 l1.length c1 rfl rfl (kd_own HO.out) (Kd.reads_of_C (d := (0 : Int)) (H1.out.C (by omega))) HBR.out HBR.out.size (by simp; omega) ?_; intro v3 w3 ho3 hB3 hG3 _)
          have HK : Aside0 (∀ k, k < w.heap.size → w3.heap[k]? = wr.heap[k]?) := ⟨fun k hk => by rw [hB3.block k hk, HBR.out.block k hk]⟩
          have HC3 : Aside0 (w3.heap[gc]? = some (.cells #[.slice A1 l1.length c1, .slice A2 l2.length c2] 23 (0, 0))) := ⟨by rw [HK.out gc HGC.out]; exact HC.out⟩
          have H13 := Aside0.mk (H1.out.keep fun k _ hs => HK.out k hs)
          have H23 := Aside0.mk (H2.out.keep fun k _ hs => HK.out k hs)
          have HO3 := Aside0.mk (kd_R ho3)
          have HB3 := Aside0.mk hB3
          clear ho3 hB3 hG3 HO HC H1 H2 HBR k0 k1
          go_wp2_with fail
          exact ⟨⟨1, _, by omega, rfl, ⟨by simp⟩, ⟨HO3.out⟩, ⟨HC3.out⟩, ⟨H13.out⟩, ⟨H23.out⟩, HB3.out⟩, by simp [intOf]⟩
        · have hx : xs = l1 := HX.out
          subst hx
          go_wp2_with (at_builtin; refine print_append_row (w0 := w) w.heap.size rfl (.tmp 31) (.tmp 32) 23 5 .u8 1 rfl Try.underlying23 info_b8 (by decide) (.slice Ab xs.length cb) xs l2 A2 l2.length c2 rfl rfl (kd_own HO.out) (Kd.reads_of_C (d := (0 : Int)) (H2.out.C (by omega))) HBR.out HBR.out.size (by simp; omega) ?_; intro v3 w3 ho3 hB3 hG3 _)
          have HK : Aside0 (∀ k, k < w.heap.size → w3.heap[k]? = wr.heap[k]?) := ⟨fun k hk => by rw [hB3.block k hk, HBR.out.block k hk]⟩
          have HC3 : Aside0 (w3.heap[gc]? = some (.cells #[.slice A1 xs.length c1, .slice A2 l2.length c2] 23 (0, 0))) := ⟨by rw [HK.out gc HGC.out]; exact HC.out⟩
          have H13 := Aside0.mk (H1.out.keep fun k _ hs => HK.out k hs)
          have H23 := Aside0.mk (H2.out.keep fun k _ hs => HK.out k hs)
          have HO3 := Aside0.mk (kd_R ho3)
          have HB3 := Aside0.mk hB3
          clear ho3 hB3 hG3 HO HC H1 H2 HBR k0 k1
          go_wp2_with fail
          exact ⟨⟨2, _, by omega, rfl, ⟨by simp⟩, ⟨HO3.out⟩, ⟨HC3.out⟩, ⟨H13.out⟩, ⟨H23.out⟩, HB3.out⟩, by simp [intOf]⟩
        · have hx : xs = l1 ++ l2 := HX.out
          go_wp2_with fail
          go_ret
          exact ⟨_, rfl, by rw [← hx]; exact HO.out, HBR.out⟩
end Go.Proofs.Yticpcjjgdkbcjaa
end

section
-- Written by a program of this session (wip/tools/myprint.py), over the kit's print.
namespace Go.Proofs.Yticpcjjgdkbcjaa.G
open Go.RowKit Go.Proofs.YticpcjjgdkbcjaaW.PrintWords Go.Proofs.YticpcjjgdkbcjaaW.PrintLast Go.Proofs.YticpcjjgdkbcjaaW.PrintMore
attribute [local go_sem] max2_int min2_int max_two min_two max_three min_three max_four min_four   -- for this text's walks alone
set_option linter.unusedVariables false
set_option linter.unusedSimpArgs false

-- BY HAND
-- IMPORT YticpcjjgdkbcjaaConcat
-- LIB Derived.BigQuiet
-- LIB Derived.Deep.QuietTactic
-- LIB Derived.Laws.BitsAllLaws
-- over: crc_Open.f
def frame_Next.f (l0 : List Int) : Option (List Int × Int × Int) :=
  if l0.length < 6 then some ([], 0, 2) else (crc_Open.f (l0.take 6)).bind fun p => if p.2 = false then some ([], 0, 6) else if p.1.length = 2 ∧ u8s p.1 then
    (if rd p.1 0 + 256 * rd p.1 1 > 8192 then some ([], 0, 4) else if (l0.length : Int) < rd p.1 0 + 256 * rd p.1 1 + 10 then some ([], 0, 2) else
      (crc_Open.f ((l0.take (rd p.1 0 + 256 * rd p.1 1 + 10).toNat).drop 6)).bind fun q => if q.2 = false then some ([], 0, 6) else some (q.1, rd p.1 0 + 256 * rd p.1 1 + 10, 0)) else none
theorem held_mid {w : World} {S : Nat → Prop} {ad : Addr} {l : List Int} (h : HeldB w S (some ad) l) (a b : Nat) (ha : 0 < a) (hb : b ≤ l.length) : HeldB w S (some ⟨ad.block, ad.off + a, none⟩) ((l.take b).drop a) := by
  intro h0
  rw [List.length_drop, List.length_take] at h0
  obtain ⟨ad', e1, e2, e3⟩ := h (by omega)
  cases e1
  refine ⟨_, rfl, e2, fun j hj => ?_⟩
  rw [List.length_drop, List.length_take] at hj
  have e4 := e3 (a + j) (by omega)
  rw [← add_add] at e4
  have e5 : ad.add a = ⟨ad.block, ad.off + a, none⟩ := by unfold Addr.add; rw [if_neg (by omega)]
  rw [e5] at e4
  rw [e4]
  congr 2
  have e6 : ((a + j : Nat) : Int).toNat = a + j := by omega
  have e7 : ((j : Nat) : Int).toNat = j := by omega
  simp only [rd, List.getD_eq_getElem?_getD, e6, e7, List.getElem?_drop]
  rw [List.getElem?_take_of_lt (by omega)]
theorem or_two (x y : Int) (hx : 0 ≤ x ∧ x < 256) (hy : 0 ≤ y ∧ y < 256) : bits .or .i64 x (y * 256) = x + 256 * y := by
  obtain ⟨X, rfl⟩ := Int.eq_ofNat_of_zero_le hx.1
  obtain ⟨Y, rfl⟩ := Int.eq_ofNat_of_zero_le hy.1
  have hX : X < 256 := by omega
  have hY : Y < 256 := by omega
  have e1 : (BitVec.ofInt 64 (X : Int)).toNat = X := by rw [BitVec.toNat_ofInt]; omega
  have e2 : (BitVec.ofInt 64 ((Y : Int) * 256)).toNat = Y * 256 := by rw [BitVec.toNat_ofInt]; omega
  show IntKind.i64.wrap ((BitVec.ofInt 64 (X : Int) ||| BitVec.ofInt 64 ((Y : Int) * 256)).toNat : Int) = _
  rw [BitVec.toNat_or, e1, e2, Nat.or_comm, Nat.mul_comm Y 256]
  have := Nat.two_pow_add_eq_or_of_lt (i := 8) (b := X) (by omega) Y
  rw [show (256 : Nat) = 2 ^ 8 from rfl, ← this, IntKind.wrap_i64]
  omega
set_option maxRecDepth 100000 in
set_option maxHeartbeats 2000000 in
theorem frame_Next.calls (A0 : Option Addr) (c0 : Nat) (l0 : List Int) (r1 : List Int) (r2 r3 : Int) (w : World) (hr0 : Kd.C (Kd.int .u8) w A0 l0.length l0) (hc0 : l0.length ≤ c0) (h : frame_Next.f l0 = some (r1, r2, r3)) :
    Calls Try.prog 24 #[.slice A0 l0.length c0] w fun e w' => ∃ v0_ : Value, e = .returned (.tuple #[v0_, .int .i64 r2, .int .i64 r3]) ∧ Kd.R (Kd.int .u8) 5 w' w.heap.size (fun _ => True) v0_ r1 ∧ Below w.heap.size w w' := by
  unfold frame_Next.f at h
  by_cases hlt : l0.length < 6
  · rw [if_pos hlt] at h
    simp only [Option.some.injEq, Prod.mk.injEq] at h
    obtain ⟨rfl, rfl, rfl⟩ := h
    go_enter Try.func24, Try.ntmps24
    go_wp2
    go_ret3
    exact ⟨_, rfl, Kd.R_nil _ _ _ _ _, Below.refl _ _⟩
  · rw [if_neg hlt] at h
    obtain ⟨⟨hd, ok⟩, h1, h⟩ := Option.bind_eq_some_iff.mp h
    simp only at h
    obtain ⟨T6, hT⟩ : ∃ T, T = l0.take 6 := ⟨_, rfl⟩
    have hl6 : T6.length = 6 := by rw [hT, List.length_take]; omega
    have hsplit : l0 = T6 ++ l0.drop 6 := by rw [hT, List.take_append_drop]
    rw [← hT] at h1
    have HR := Aside0.mk (HeldB.low hr0)
    have hR6 : HeldB w (fun k => k < w.heap.size) A0 T6 := by
      have hh := HR.out
      rw [hsplit] at hh
      intro h0
      obtain ⟨ad, e1, e2, e3⟩ := hh (by rw [List.length_append]; omega)
      refine ⟨ad, e1, e2, fun j hj => ?_⟩
      rw [e3 j (by rw [List.length_append]; omega)]
      simp [rd, List.getD_eq_getElem?_getD, List.getElem?_append_left hj]
    have hop := crc_Open.calls A0 c0 T6 hd ok w (hR6.C (by omega)) (by omega) h1
    rw [hl6] at hop
    have HOP := Aside0.mk hop
    have HH := Aside0.mk h
    have HS := Aside0.mk hsplit
    clear hop h h1 hR6 hsplit hT hr0
    go_enter Try.func24, Try.ntmps24
    go_wp2_with fail
    refine HOP.out.mono ?_
    rintro e w2 ⟨v2, rfl, hRr, hB⟩
    have HB2 := Aside0.mk hB
    have HR2 := Aside0.mk (HR.out.below hB)
    have HO2 := Aside0.mk hRr
    clear hRr hB HR HOP
    have h := HH.out
    cases ok with
    | false =>
      rw [if_pos rfl] at h
      simp only [Option.some.injEq, Prod.mk.injEq] at h
      obtain ⟨rfl, rfl, rfl⟩ := h
      go_wp2
      go_ret3
      exact ⟨_, rfl, Kd.R_nil _ _ _ _ _, HB2.out⟩
    | true =>
      rw [if_neg (by decide)] at h
      split at h
      · rename_i hcond
        obtain ⟨hl2, hu2⟩ := hcond
        clear HH
        obtain ⟨Ah, ch, rfl, hch, _, hH, _⟩ := held_own HO2.out
        obtain ⟨gh, rfl⟩ : ∃ g, Ah = some ⟨g, 0, none⟩ := by
          obtain ⟨_, ho⟩ := kd_own HO2.out
          rcases ho with ⟨h1, h2⟩ | ⟨g, cap, cur, h1, h2, h3, h4, h5, h6, h7⟩
          · omega
          · simp only [Value.slice.injEq] at h1
            exact ⟨g, h1.1⟩
        have hI := HO2.out
        obtain ⟨q0, _⟩ := Kd.R_cell (d := (0 : Int)) hI (0 : Int) (by omega) (by omega)
        obtain ⟨q1, _⟩ := Kd.R_cell (d := (0 : Int)) hI (1 : Int) (by omega) (by omega)
        have H := Aside0.mk h
        have HU := Aside0.mk hu2
        clear hI hH h hu2
        have u0 := rd_u8 HU.out 0 (by omega)
        have u1 := rd_u8 HU.out 1 (by omega)
        have q0' : w2.cell? ⟨gh, 0, none⟩ = some (.int .u8 (rd hd 0)) := q0
        have q1' : w2.cell? ⟨gh, 1, none⟩ = some (.int .u8 (rd hd 1)) := q1
        clear q0 q1 HU
        rw [show ((0 : Nat) : Int) = 0 from rfl] at u0
        rw [show ((1 : Nat) : Int) = 1 from rfl] at u1
        generalize rd hd 0 = x at *
        generalize rd hd 1 = y at *
        rw [hl2]
        go_wp2_with fail
        go_quiet (fail)
        rw [or_two x y u0 u1]
        have hn0 : 0 ≤ x + 256 * y := by omega
        generalize x + 256 * y = n at *
        obtain ⟨m, rfl⟩ := Int.eq_ofNat_of_zero_le hn0
        clear u0 u1 q0' q1' hn0
        have HB3 : Aside0 (Below w.heap.size w (w2.drewN nq)) := ⟨pw_below_drewN HB2.out _⟩
        have HR3 : Aside0 (HeldB (w2.drewN nq) (fun k => k < w.heap.size) A0 l0) := ⟨HR2.out.below (pw_below_drewN (Below.refl _ _) _)⟩
        clear HB2 HR2 HO2
        generalize w2.drewN nq = w3 at HB3 HR3 ⊢
        have h := H.out
        clear H
        by_cases hm : 8192 < m
        · rw [if_pos (by omega)] at h
          simp only [Option.some.injEq, Prod.mk.injEq] at h
          obtain ⟨rfl, rfl, rfl⟩ := h
          go_wp2
          go_ret3
          exact ⟨_, rfl, Kd.R_nil _ _ _ _ _, HB3.out⟩
        · rw [if_neg (by omega)] at h
          by_cases hs : l0.length < m + 10
          · rw [if_pos (by omega)] at h
            simp only [Option.some.injEq, Prod.mk.injEq] at h
            obtain ⟨rfl, rfl, rfl⟩ := h
            go_wp2
            go_ret3
            exact ⟨_, rfl, Kd.R_nil _ _ _ _ _, HB3.out⟩
          · rw [if_neg (by omega)] at h
            obtain ⟨⟨x2, ok2⟩, h2, h⟩ := Option.bind_eq_some_iff.mp h
            have H2 := Aside0.mk h2
            have H := Aside0.mk h
            clear h2 h
            obtain ⟨ad, rfl⟩ : ∃ ad, A0 = some ad := by
              obtain ⟨ad, e, _, _⟩ := HR3.out (by omega)
              exact ⟨ad, e⟩
            have hT := held_mid HR3.out 6 (m + 10) (by decide) (by omega)
            have hlT : ((l0.take (m + 10)).drop 6).length = 6 + m - 2 := by rw [List.length_drop, List.length_take]; omega
            have h2 := H2.out
            rw [show ((m : Int) + 10).toNat = m + 10 by omega] at h2
            have hop := crc_Open.calls _ (c0 - 6) _ x2 ok2 w3 (hT.C (by rw [hlT]; omega)) (by rw [hlT]; omega) h2
            rw [hlT] at hop
            have HOP := Aside0.mk hop
            clear hop h2 hlT hT H2
            go_wp2_with fail
            refine HOP.out.mono ?_
            rintro e w4 ⟨v4, rfl, hRr, hB⟩
            have HB4 : Aside0 (Below w.heap.size w w4) := ⟨HB3.out.trans (hB.mono HB3.out.size)⟩
            have hRl := Kd.R_lower hRr (base' := w.heap.size) HB3.out.size
            have h := H.out
            clear H HOP HB3 hB hRr
            cases ok2 with
            | false =>
              rw [if_pos rfl] at h
              simp only [Option.some.injEq, Prod.mk.injEq] at h
              obtain ⟨rfl, rfl, rfl⟩ := h
              go_wp2
              go_ret3
              exact ⟨_, rfl, Kd.R_nil _ _ _ _ _, HB4.out⟩
            | true =>
              rw [if_neg (by decide)] at h
              simp only [Option.some.injEq, Prod.mk.injEq] at h
              obtain ⟨rfl, rfl, rfl⟩ := h
              have HRl := Aside0.mk hRl
              clear hRl
              go_wp2
              go_ret3
              exact ⟨v4, (by show Ending.returned (Value.tuple #[v4, .int .i64 (6 + (m : Int) + 4), .int .i64 0]) = _; rw [show 6 + (m : Int) + 4 = (m : Int) + 10 by omega]), HRl.out, HB4.out⟩
      · cases h

end Go.Proofs.Yticpcjjgdkbcjaa.G
end

section
/- packet.Decode, walked -/
set_option linter.unusedVariables false
set_option linter.unusedSimpArgs false
set_option autoImplicit false
namespace Go.Proofs.Yticpcjjgdkbcjaa
open Go.RowKit Go.Proofs.YticpcjjgdkbcjaaW.PrintWords Go.Proofs.YticpcjjgdkbcjaaW.PrintLast Go.Proofs.YticpcjjgdkbcjaaW.PrintMore Go.Proofs.Yticpcjjgdkbcjaa.G

def pk0 : Pk := ⟨0, 0, 0, 0, 0, []⟩
/-- which packets are right -/
def pkright (p : Pk) : Bool := prB p.k p.e p.s p.t p.u p.d
theorem right_pk (p : Pk) : packet_right.f p.k p.e p.s p.t p.u p.d = some (pkright p) := rfl
/-- what is decoded of a frame's bytes -/
def dec (len : Nat) (x : List Int) (n err : Int) : Pk × Int :=
  if err ≠ 0 then (pk0, err) else if n < len then (pk0, 5) else if (Sc.pack ⟨x, 0⟩).2.endE ≠ 0 then (pk0, (Sc.pack ⟨x, 0⟩).2.endE) else if pkright (Sc.pack ⟨x, 0⟩).1 = true then ((Sc.pack ⟨x, 0⟩).1, 0) else (pk0, 3)
theorem below_via4 {w W W' : World} (h0 : Below w.heap.size w W) (h : Below W.heap.size W W') : Below w.heap.size w W' := h0.trans (h.mono h0.size)
theorem vkeepG {W W' : World} {b g : Nat} {o : Obj} (h : W.heap[b]? = some o) (hG : W.grownBy W' (some g)) (hne : b ≠ g) : W'.heap[b]? = some o := by rw [hG.block _ (lt_of_heap h) (fun e => by cases e; exact hne rfl)]; exact h
theorem cells6 {W : World} {b T : Nat} {x y z u v r : Value} (h : W.heap[b]? = some (.cells #[x, y, z, u, v, r] T (0, 0))) :
    (W.cell? ⟨b, 0, none⟩ = some x ∧ W.cell? ⟨b, 1, none⟩ = some y ∧ W.cell? ⟨b, 2, none⟩ = some z ∧ W.cell? ⟨b, 3, none⟩ = some u ∧ W.cell? ⟨b, 4, none⟩ = some v ∧ W.cell? ⟨b, 5, none⟩ = some r) ∧
    W.frozen? ⟨b, 0, none⟩ = false ∧ W.frozen? ⟨b, 1, none⟩ = false ∧ W.frozen? ⟨b, 2, none⟩ = false ∧ W.frozen? ⟨b, 3, none⟩ = false ∧ W.frozen? ⟨b, 4, none⟩ = false ∧ W.frozen? ⟨b, 5, none⟩ = false :=
  ⟨⟨by rw [cell_of_row _ _ _ _ _ _ h]; rfl, by rw [cell_of_row _ _ _ _ _ _ h]; rfl, by rw [cell_of_row _ _ _ _ _ _ h]; rfl, by rw [cell_of_row _ _ _ _ _ _ h]; rfl, by rw [cell_of_row _ _ _ _ _ _ h]; rfl, by rw [cell_of_row _ _ _ _ _ _ h]; rfl⟩, frozen_of_row _ _ _ _ _ h, frozen_of_row _ _ _ _ _ h, frozen_of_row _ _ _ _ _ h, frozen_of_row _ _ _ _ _ h, frozen_of_row _ _ _ _ _ h, frozen_of_row _ _ _ _ _ h⟩
theorem heldT_set {w : World} {S : Nat → Prop} {A : Option Addr} {l : List Int} {g : Nat} (h : HeldT w S A l) (hg : ¬ S g) (j : Nat) (v : Value) : HeldT (w.setCell ⟨g, j, none⟩ v) S A l :=
  h.set (fun k hk e => hg (by simp only [] at e; rw [← e]; exact hk)) v
theorem put6 {w W : World} {g T : Nat} {a b c d e f : Value} (h : W.heap[g]? = some (.cells #[a, b, c, d, e, f] T (0, 0))) (hB : Below w.heap.size w W) (hg : w.heap.size ≤ g) (x0 x1 x2 x3 x4 x5 : Value) :
    ((((((W.setCell ⟨g, 0, none⟩ x0).setCell ⟨g, 1, none⟩ x1).setCell ⟨g, 2, none⟩ x2).setCell ⟨g, 3, none⟩ x3).setCell ⟨g, 4, none⟩ x4).setCell ⟨g, 5, none⟩ x5).heap[g]? = some (.cells #[x0, x1, x2, x3, x4, x5] T (0, 0)) ∧
    Below w.heap.size w ((((((W.setCell ⟨g, 0, none⟩ x0).setCell ⟨g, 1, none⟩ x1).setCell ⟨g, 2, none⟩ x2).setCell ⟨g, 3, none⟩ x3).setCell ⟨g, 4, none⟩ x4).setCell ⟨g, 5, none⟩ x5) ∧
    ∀ (A : Option Addr) (l : List Int) (S : Nat → Prop), ¬ S g → HeldT W S A l → HeldT ((((((W.setCell ⟨g, 0, none⟩ x0).setCell ⟨g, 1, none⟩ x1).setCell ⟨g, 2, none⟩ x2).setCell ⟨g, 3, none⟩ x3).setCell ⟨g, 4, none⟩ x4).setCell ⟨g, 5, none⟩ x5) S A l := by
  have h0 := heap_setCell_same _ _ 0 _ _ x0 h
  have h1 := heap_setCell_same _ _ 1 _ _ x1 h0
  have h2 := heap_setCell_same _ _ 2 _ _ x2 h1
  have h3 := heap_setCell_same _ _ 3 _ _ x3 h2
  have h4 := heap_setCell_same _ _ 4 _ _ x4 h3
  have h5 := heap_setCell_same _ _ 5 _ _ x5 h4
  exact ⟨h5, (((((hB.setCell hg _).setCell hg _).setCell hg _).setCell hg _).setCell hg _).setCell hg _, fun A l S hS hH => heldT_set (heldT_set (heldT_set (heldT_set (heldT_set (heldT_set hH hS _ _) hS _ _) hS _ _) hS _ _) hS _ _) hS _ _⟩
set_option maxRecDepth 100000 in
set_option maxHeartbeats 4000000 in
theorem wdecode (A0 : Option Addr) (c0 : Nat) (l0 : List Int) (x : List Int) (n err : Int) (w : World) (hr0 : (Kd.int .u8).C w A0 l0.length l0) (hc0 : l0.length ≤ c0) (hl0 : l0.length ≤ 9223372036854775807) (hx : u8s x) (hxl : x.length ≤ 140737488355300) (hN : frame_Next.f l0 = some (x, n, err)) :
    Calls Try.prog 11 #[.slice A0 l0.length c0] w fun e w' => ∃ A c, e = .returned (.tuple #[.agg ((dec l0.length x n err).1.c A c), .int .i64 (dec l0.length x n err).2]) ∧ HeldT w' (fun k => w.heap.size ≤ k) A (dec l0.length x n err).1.d ∧ (dec l0.length x n err).1.d.length ≤ c ∧ c ≤ 9223372036854775807 ∧ Below w.heap.size w w' := by
  have HR0 := Aside0.mk (HeldB.low hr0)
  have HN := Aside0.mk hN
  have HX := Aside0.mk hx
  have HL := Aside0.mk (And.intro hl0 hxl)
  clear hr0 hN hx hl0 hxl
  have HZ0 := Aside0.mk (heap_alloc_new w (.cells #[.int .i64 0, .int .i64 0, .int .i64 0, .int .i64 0, .int .u32 0, .slice none 0 0] 25 (0, 0)))
  have HB0 := Aside0.mk ((Below.refl w.heap.size w).alloc (Nat.le_refl _) (.cells #[.int .i64 0, .int .i64 0, .int .i64 0, .int .i64 0, .int .u32 0, .slice none 0 0] 25 (0, 0)))
  go_enter Try.func11, Try.ntmps11
  go_wp2_with fail
  generalize w.alloc (.cells #[.int .i64 0, .int .i64 0, .int .i64 0, .int .i64 0, .int .u32 0, .slice none 0 0] 25 (0, 0)) = wa at HZ0 HB0 ⊢
  refine (frame_Next.calls A0 c0 l0 x n err _ ((HR0.out.below HB0.out).C HL.out.1) hc0 HN.out).mono ?_
  rintro e w1 ⟨v1, rfl, hR, hX⟩
  obtain ⟨A1, n1, rfl, hc1, hm1, hH1, hC1⟩ := held_own hR
  have HB1 := Aside0.mk (below_via4 HB0.out hX)
  have HZ1 := Aside0.mk (vkeepB HZ0.out hX)
  have HH1 := Aside0.mk hH1
  clear hR hX hH1 hC1 hm1 HR0 HB0 HZ0 HN
  obtain ⟨⟨p0, p1, p2, p3, p4, p5⟩, f0, f1, f2, f3, f4, f5⟩ := cells6 HZ1.out
  by_cases e0 : err = 0
  · subst e0
    by_cases hn : n < (l0.length : Int)
    · have HD : Aside0 (dec l0.length x n 0 = (pk0, 5)) := ⟨by unfold dec; rw [if_neg (by decide), if_pos hn]⟩
      go_wp2
      have hz := put6 HZ1.out HB1.out (Nat.le_refl _) (.int .i64 0) (.int .i64 0) (.int .i64 0) (.int .i64 0) (.int .u32 0) (.slice none 0 0)
      refine bodyPost_ret (results_ct rfl _ _ w.heap.size 25 _ (0, 0) _ rfl hz.1 Try.underlying25 rfl info_pack) rfl ?_
      exact ⟨none, 0, by rw [HD.out]; rfl, by rw [HD.out]; exact HeldT.nil, by rw [HD.out]; simp [pk0], by decide, hz.2.1⟩
    · have hD : dec l0.length x n 0 = if (Sc.pack ⟨x, 0⟩).2.endE ≠ 0 then (pk0, (Sc.pack ⟨x, 0⟩).2.endE) else if pkright (Sc.pack ⟨x, 0⟩).1 = true then ((Sc.pack ⟨x, 0⟩).1, 0) else (pk0, 3) := by unfold dec; rw [if_neg (by decide), if_neg hn]
      obtain ⟨k, ep, sq, tt, u, d, s2, hv⟩ : ∃ k ep sq tt u d s2, Sc.pack ⟨x, 0⟩ = (⟨k, ep, sq, tt, u, d⟩, s2) := ⟨_, _, _, _, _, _, _, rfl⟩
      rw [hv] at hD
      simp only at hD
      have HV := Aside0.mk hv
      have HE := Aside0.mk hD
      clear hv hD
      go_wp2_with fail
      refine (won A1 n1 x w1 (HH1.out.C (by have := HL.out.2; omega)) hc1 HX.out (by have := HL.out.2; omega)).mono ?_
      rintro e w2 ⟨gs, rfl, hgs, hS, hX⟩
      have HB2 := Aside0.mk (below_via4 HB1.out hX)
      have HZ2 := Aside0.mk (vkeepB HZ1.out hX)
      have HS2 := Aside0.mk hS
      have SZ2 := Aside0.mk HB2.out.size
      have LT := Aside0.mk (show w.heap.size < gs from Nat.lt_of_lt_of_le (lt_of_heap HZ1.out) hgs)
      clear hX hS hgs HB1 HZ1 HH1 p0 p1 p2 p3 p4 p5 f0 f1 f2 f3 f4 f5
      go_wp2_with fail
      refine (wread HS2.out).mono ?_
      rintro e w3 ⟨A3, c3, rfl, hH, hlen, hcap, hs, hG⟩
      rw [HV.out] at hH hlen hs ⊢
      simp only [Pk.c]
      have lt := LT.out
      have hB3 : Below w.heap.size w w3 := below_of_grown HB2.out hG (by omega)
      have HB3 := Aside0.mk hB3
      have HZ3 := Aside0.mk (vkeepG HZ2.out hG (by omega))
      have hb3 := (Below.refl w3.heap.size w3).alloc (Nat.le_refl _) (.cells #[.int .i64 k, .int .i64 ep, .int .i64 sq, .int .i64 tt, .int .u32 u, .slice A3 d.length c3] 25 (0, 0))
      have HP4 := Aside0.mk (heap_alloc_new w3 (.cells #[.int .i64 k, .int .i64 ep, .int .i64 sq, .int .i64 tt, .int .u32 u, .slice A3 d.length c3] 25 (0, 0)))
      have HB4 := Aside0.mk (below_via4 HB3.out hb3)
      have HZ4 := Aside0.mk (vkeepB HZ3.out hb3)
      have HS4 := Aside0.mk (hs.below hb3)
      have HH4 := Aside0.mk (hH.below hb3)
      have HC := Aside0.mk (And.intro hlen hcap)
      clear hH hlen hcap hs hG lt hB3 hb3 HB3 HZ3 HB2 HZ2 HS2
      go_upto_region 8 with fail
      generalize w3.alloc (.cells #[.int .i64 k, .int .i64 ep, .int .i64 sq, .int .i64 tt, .int .u32 u, .slice A3 d.length c3] 25 (0, 0)) = w4 at HP4 HB4 HZ4 HS4 HH4 ⊢
      generalize w3.heap.size = gp at HP4 ⊢
      obtain ⟨⟨p0, p1, p2, p3, p4, p5⟩, f0, f1, f2, f3, f4, f5⟩ := cells6 HZ4.out
      obtain ⟨⟨q0, q1, q2, q3, q4, q5⟩, g0, g1, g2, g3, g4, g5⟩ := cells6 HP4.out
      by_cases e1 : s2.endE = 0
      · have b1 : (s2.endE != 0) = false := by simp [e1]
        have hE := HE.out
        rw [if_neg (by simp [e1])] at hE
        clear e1
        go_wp2_with (go_at_call 27; have hop := wend HS4.out; refine hop.mono ?_; rintro e wq ⟨rfl, rfl⟩; clear hop)
        refine (packet_right.calls k ep sq tt u A3 c3 d (pkright ⟨k, ep, sq, tt, u, d⟩) _ (HH4.out.C (by have := HC.out; omega)) HC.out.1 (right_pk ⟨k, ep, sq, tt, u, d⟩)).mono ?_
        rintro e w5 ⟨rfl, hX⟩
        clear p0 p1 p2 p3 p4 p5 f0 f1 f2 f3 f4 f5 q0 q1 q2 q3 q4 q5 g0 g1 g2 g3 g4 g5
        have HB5 := Aside0.mk (below_via4 HB4.out hX)
        have HZ5 := Aside0.mk (vkeepB HZ4.out hX)
        have HP5 := Aside0.mk (vkeepB HP4.out hX)
        have HH5 := Aside0.mk (HH4.out.below hX)
        clear hX HB4 HZ4 HP4 HH4 HS4
        obtain ⟨⟨p0, p1, p2, p3, p4, p5⟩, f0, f1, f2, f3, f4, f5⟩ := cells6 HZ5.out
        obtain ⟨⟨q0, q1, q2, q3, q4, q5⟩, g0, g1, g2, g3, g4, g5⟩ := cells6 HP5.out
        by_cases r : pkright ⟨k, ep, sq, tt, u, d⟩ = true
        · rw [if_pos r] at hE
          have HD := Aside0.mk hE
          rw [r]
          clear hE r
          go_wp2
          have hz := put6 HZ5.out HB5.out (Nat.le_refl _) (.int .i64 k) (.int .i64 ep) (.int .i64 sq) (.int .i64 tt) (.int .u32 u) (.slice A3 d.length c3)
          refine bodyPost_ret (results_ct rfl _ _ w.heap.size 25 _ (0, 0) _ rfl hz.1 Try.underlying25 rfl info_pack) rfl ?_
          exact ⟨A3, c3, by rw [HD.out]; rfl, by rw [HD.out]; exact (hz.2.2 A3 d (fun k => w2.heap.size < k) (by have := SZ2.out; omega) HH5.out).mono (fun k hk => by have := SZ2.out; omega), by rw [HD.out]; exact HC.out.1, HC.out.2, hz.2.1⟩
        · have r' : pkright ⟨k, ep, sq, tt, u, d⟩ = false := by simpa using r
          rw [if_neg r] at hE
          have HD := Aside0.mk hE
          rw [r']
          clear hE r r'
          go_wp2
          have hz := put6 HZ5.out HB5.out (Nat.le_refl _) (.int .i64 0) (.int .i64 0) (.int .i64 0) (.int .i64 0) (.int .u32 0) (.slice none 0 0)
          refine bodyPost_ret (results_ct rfl _ _ w.heap.size 25 _ (0, 0) _ rfl hz.1 Try.underlying25 rfl info_pack) rfl ?_
          exact ⟨none, 0, by rw [HD.out]; rfl, by rw [HD.out]; exact HeldT.nil, by rw [HD.out]; simp [pk0], by decide, hz.2.1⟩
      · have b1 : (s2.endE != 0) = true := by simp [e1]
        have hE := HE.out
        rw [if_pos e1] at hE
        have HD := Aside0.mk hE
        clear e1 hE
        go_wp2_with (go_at_call 27; have hop := wend HS4.out; refine hop.mono ?_; rintro e wq ⟨rfl, rfl⟩; clear hop)
        have hz := put6 HZ4.out HB4.out (Nat.le_refl _) (.int .i64 0) (.int .i64 0) (.int .i64 0) (.int .i64 0) (.int .u32 0) (.slice none 0 0)
        refine bodyPost_ret (results_ct rfl _ _ w.heap.size 25 _ (0, 0) _ rfl hz.1 Try.underlying25 rfl info_pack) rfl ?_
        exact ⟨none, 0, by rw [HD.out]; rfl, by rw [HD.out]; exact HeldT.nil, by rw [HD.out]; simp [pk0], by decide, hz.2.1⟩
  · have HD : Aside0 (dec l0.length x n err = (pk0, err)) := ⟨by unfold dec; rw [if_pos e0]⟩
    have b0 : (err != 0) = true := by simp [e0]
    go_wp2
    have hz := put6 HZ1.out HB1.out (Nat.le_refl _) (.int .i64 0) (.int .i64 0) (.int .i64 0) (.int .i64 0) (.int .u32 0) (.slice none 0 0)
    refine bodyPost_ret (results_ct rfl _ _ w.heap.size 25 _ (0, 0) _ rfl hz.1 Try.underlying25 rfl info_pack) rfl ?_
    exact ⟨none, 0, by rw [HD.out]; rfl, by rw [HD.out]; exact HeldT.nil, by rw [HD.out]; simp [pk0], by decide, hz.2.1⟩
end Go.Proofs.Yticpcjjgdkbcjaa
end

section
-- Written by a program of this session (wip/tools/myprint.py), over the kit's print.
namespace Go.Proofs.Yticpcjjgdkbcjaa.G
open Go.RowKit Go.Proofs.YticpcjjgdkbcjaaW.PrintWords Go.Proofs.YticpcjjgdkbcjaaW.PrintLast Go.Proofs.YticpcjjgdkbcjaaW.PrintMore
attribute [local go_sem] max2_int min2_int max_two min_two max_three min_three max_four min_four   -- for this text's walks alone
set_option linter.unusedVariables false
set_option linter.unusedSimpArgs false

/-! ### rosetteref22_right: function 21 -/
def rosetteref22_right.j0 : Nat → Bool → Int → Int → Int → Int → Int → List Int → Option (Bool)
  | 0, _, _, _, _, _, _, _ => none
  | k + 1, x56, x193000, x193001, x193002, x193003, x193004, x193005 => if x56 = true then (some false) else (if x193000 = 1 then (if x193003 ≥ 1 then (some (decide (x193003 ≤ 1048576))) else (some false)) else (if x193000 = 2 then (if x193002 ≥ 0 then (if x193002 ≤ 1048576 then (if (x193005.length : Int) ≥ 1 then (some (decide ((x193005.length : Int) ≤ 64))) else (some false)) else (some false)) else (some false)) else (if x193000 = 3 then (if x193002 ≥ 0 then (some (decide (x193002 ≤ 1048576))) else (some false)) else (if x193000 = 4 then (if (x193005.length : Int) ≥ 1 then (some (decide ((x193005.length : Int) ≤ 4096))) else (some false)) else (some false)))))
def rosetteref22_right.f (k : Nat) (a0_0 : Int) (a0_1 : Int) (a0_2 : Int) (a0_3 : Int) (a0_4 : Int) (l0_5 : List Int) : Option (Bool) := if a0_1 < 0 then (rosetteref22_right.j0 k true a0_0 a0_1 a0_2 a0_3 a0_4 l0_5) else (if a0_1 > 1099511627776 then (rosetteref22_right.j0 k true a0_0 a0_1 a0_2 a0_3 a0_4 l0_5) else (if a0_0 = 1 then (if a0_0 = 2 then (rosetteref22_right.j0 k false a0_0 a0_1 a0_2 a0_3 a0_4 l0_5) else (if a0_0 = 3 then (if a0_0 = 4 then (rosetteref22_right.j0 k false a0_0 a0_1 a0_2 a0_3 a0_4 l0_5) else (rosetteref22_right.j0 k (decide ((l0_5.length : Int) > 0)) a0_0 a0_1 a0_2 a0_3 a0_4 l0_5)) else (if a0_2 = 0 then (if a0_0 = 4 then (rosetteref22_right.j0 k false a0_0 a0_1 a0_2 a0_3 a0_4 l0_5) else (rosetteref22_right.j0 k (decide ((l0_5.length : Int) > 0)) a0_0 a0_1 a0_2 a0_3 a0_4 l0_5)) else (rosetteref22_right.j0 k true a0_0 a0_1 a0_2 a0_3 a0_4 l0_5)))) else (if a0_3 = 0 then (if a0_4 = 0 then (if a0_0 = 2 then (rosetteref22_right.j0 k false a0_0 a0_1 a0_2 a0_3 a0_4 l0_5) else (if a0_0 = 3 then (if a0_0 = 4 then (rosetteref22_right.j0 k false a0_0 a0_1 a0_2 a0_3 a0_4 l0_5) else (rosetteref22_right.j0 k (decide ((l0_5.length : Int) > 0)) a0_0 a0_1 a0_2 a0_3 a0_4 l0_5)) else (if a0_2 = 0 then (if a0_0 = 4 then (rosetteref22_right.j0 k false a0_0 a0_1 a0_2 a0_3 a0_4 l0_5) else (rosetteref22_right.j0 k (decide ((l0_5.length : Int) > 0)) a0_0 a0_1 a0_2 a0_3 a0_4 l0_5)) else (rosetteref22_right.j0 k true a0_0 a0_1 a0_2 a0_3 a0_4 l0_5)))) else (rosetteref22_right.j0 k true a0_0 a0_1 a0_2 a0_3 a0_4 l0_5)) else (rosetteref22_right.j0 k true a0_0 a0_1 a0_2 a0_3 a0_4 l0_5))))
theorem rosetteref22_right.mono_l : ∀ k, (∀ y0 y1 y2 y3 y4 y5 y6, LeO (rosetteref22_right.j0 k y0 y1 y2 y3 y4 y5 y6) (rosetteref22_right.j0 (k + 1) y0 y1 y2 y3 y4 y5 y6))
  | 0 => fun _ _ _ _ _ _ _ r h => by simp [rosetteref22_right.j0] at h
  | k + 1 => by
    have ih0 := rosetteref22_right.mono_l k
    · intro y0 y1 y2 y3 y4 y5 y6
      unfold rosetteref22_right.j0
      repeat' first
      | (with_reducible exact ih0 _ _ _ _ _ _ _)
      | (with_reducible exact LeO.refl _)
      | (with_reducible exact LeO.none _)
      | (with_reducible refine LeO.ite ?_ ?_)
      | (with_reducible refine LeO.bind ?_ (fun _ => ?_))
      | exact ih0 _ _ _ _ _ _ _
      | exact LeO.none _
      | refine LeO.ite ?_ ?_
      | refine LeO.bind ?_ (fun _ => ?_)
theorem rosetteref22_right.mono : ∀ a0 a1 a2 a3 a4 a5 k, LeO (rosetteref22_right.f k a0 a1 a2 a3 a4 a5) (rosetteref22_right.f (k + 1) a0 a1 a2 a3 a4 a5) := by
  intro a0 a1 a2 a3 a4 a5 k
  have ih0 := rosetteref22_right.mono_l k
  unfold rosetteref22_right.f
  repeat' first
      | (with_reducible exact ih0 _ _ _ _ _ _ _)
      | (with_reducible exact LeO.refl _)
      | (with_reducible exact LeO.none _)
      | (with_reducible refine LeO.ite ?_ ?_)
      | (with_reducible refine LeO.bind ?_ (fun _ => ?_))
      | exact ih0 _ _ _ _ _ _ _
      | exact LeO.none _
      | refine LeO.ite ?_ ?_
      | refine LeO.bind ?_ (fun _ => ?_)
set_option maxHeartbeats 8000000 in
set_option maxRecDepth 100000 in
theorem rosetteref22_right.calls (k : Nat) (a0_0 : Int) (a0_1 : Int) (a0_2 : Int) (a0_3 : Int) (a0_4 : Int) (A0_5 : Option Addr) (c0_5 : Nat) (l0_5 : List Int) (r : Bool) (w : World) (hr0_5 : Kd.C (Kd.int .u8) w A0_5 l0_5.length l0_5) (hc0_5 : l0_5.length ≤ c0_5) (h : rosetteref22_right.f k a0_0 a0_1 a0_2 a0_3 a0_4 l0_5 = some r) :
    Calls Try.prog 21 #[.agg #[.int .i64 a0_0, .int .i64 a0_1, .int .i64 a0_2, .int .i64 a0_3, .int .u32 a0_4, .slice A0_5 l0_5.length c0_5]] w fun e w' => e = .returned (.bool r) ∧ Below w.heap.size w w' := by
  have hu25 := Try.underlying25
  have HR0_5 := Aside0.mk hr0_5
  have HC0_5 := Aside0.mk hc0_5
  clear hr0_5 hc0_5
  have HB := Aside0.mk (Below.refl w.heap.size w)
  have H : (if a0_1 < 0 then (rosetteref22_right.j0 k true a0_0 a0_1 a0_2 a0_3 a0_4 l0_5) else (if a0_1 > 1099511627776 then (rosetteref22_right.j0 k true a0_0 a0_1 a0_2 a0_3 a0_4 l0_5) else (if a0_0 = 1 then (if a0_0 = 2 then (rosetteref22_right.j0 k false a0_0 a0_1 a0_2 a0_3 a0_4 l0_5) else (if a0_0 = 3 then (if a0_0 = 4 then (rosetteref22_right.j0 k false a0_0 a0_1 a0_2 a0_3 a0_4 l0_5) else (rosetteref22_right.j0 k (decide ((l0_5.length : Int) > 0)) a0_0 a0_1 a0_2 a0_3 a0_4 l0_5)) else (if a0_2 = 0 then (if a0_0 = 4 then (rosetteref22_right.j0 k false a0_0 a0_1 a0_2 a0_3 a0_4 l0_5) else (rosetteref22_right.j0 k (decide ((l0_5.length : Int) > 0)) a0_0 a0_1 a0_2 a0_3 a0_4 l0_5)) else (rosetteref22_right.j0 k true a0_0 a0_1 a0_2 a0_3 a0_4 l0_5)))) else (if a0_3 = 0 then (if a0_4 = 0 then (if a0_0 = 2 then (rosetteref22_right.j0 k false a0_0 a0_1 a0_2 a0_3 a0_4 l0_5) else (if a0_0 = 3 then (if a0_0 = 4 then (rosetteref22_right.j0 k false a0_0 a0_1 a0_2 a0_3 a0_4 l0_5) else (rosetteref22_right.j0 k (decide ((l0_5.length : Int) > 0)) a0_0 a0_1 a0_2 a0_3 a0_4 l0_5)) else (if a0_2 = 0 then (if a0_0 = 4 then (rosetteref22_right.j0 k false a0_0 a0_1 a0_2 a0_3 a0_4 l0_5) else (rosetteref22_right.j0 k (decide ((l0_5.length : Int) > 0)) a0_0 a0_1 a0_2 a0_3 a0_4 l0_5)) else (rosetteref22_right.j0 k true a0_0 a0_1 a0_2 a0_3 a0_4 l0_5)))) else (rosetteref22_right.j0 k true a0_0 a0_1 a0_2 a0_3 a0_4 l0_5)) else (rosetteref22_right.j0 k true a0_0 a0_1 a0_2 a0_3 a0_4 l0_5))))) = some r := h
  clear h
  have HC2 := Aside0.mk H
  clear H
  go_enter Try.func21, Try.ntmps21
  go_upto_region 1 with (first | ((with_reducible refine gate_dst (N := 1) rfl ?_); (try (refine gate_guard (by rfl) ?_; dsimp only)); refine box_event ?hg (N := 1) ?hd (cs := #[.int .i64 a0_0, .int .i64 a0_1, .int .i64 a0_2, .int .i64 a0_3, .int .u32 a0_4, .slice A0_5 l0_5.length c0_5]) (t := 25) ?hr ?_; (case hd => rfl); (case hg => rfl); (case hr => first | (go_simp; done) | (go_simp; rfl)); intro gb192 hg w3 hbox hb; have n0_ := Aside0.mk (below_step (by repeat (first | (with_reducible first | exact HB.out | apply below_alloc | apply pw_below_drewN | apply below_drew1) | exact HB.out)) hb); have n1_ := Aside0.mk (hbox); have n2_ := Aside0.mk ((by rw [hg]; exact (below_size (by repeat (first | (with_reducible first | exact HB.out | apply below_alloc | apply pw_below_drewN | apply below_drew1) | exact HB.out))) : w.heap.size ≤ gb192)); have n3_ := Aside0.mk ((by rw [hg]; exact (below_size (by repeat (first | (with_reducible first | exact HB.out | apply below_alloc | apply pw_below_drewN | apply below_drew1) | exact HB.out))) : w.heap.size ≤ gb192)); clear HB; have HB := n0_; have BK192 := n1_; have GW192 := n2_; have GE192 := n3_; clear n0_ n1_ n2_ n3_; clear hb hbox hg))
  (try simp only [Act.put, List.setIfInBounds_toArray, List.set_cons_zero, List.set_cons_succ])
  go_cut [56] (fun v56 wc => ∃ (kq : Nat) (x56_1 : Bool), v56 = .bool x56_1 ∧ Aside0 (rosetteref22_right.j0 kq x56_1 a0_0 a0_1 a0_2 a0_3 a0_4 l0_5 = some r) ∧ Aside0 (kq ≤ k) ∧ Aside0 (wc.heap[gb192]? = some (.cells #[.int .i64 a0_0, .int .i64 a0_1, .int .i64 a0_2, .int .i64 a0_3, .int .u32 a0_4, (.slice A0_5 l0_5.length c0_5)] 25 (0, 0))) ∧ Aside0 (Below w.heap.size w wc))
  case first =>
    have H := HC2.out
    clear HC2
    by_cases c4 : a0_1 < 0
    · rw [if_pos c4] at H
      have c4b0 : decide (a0_1 < 0) = true := decide_eq_true c4
      clear c4
      (first | rw [c4b0] | (simp only [i64_w, i32_w]; rw [c4b0]) | skip)
      have H' := Aside0.mk H
      clear H
      have hcz5_0 : w3.cell? ⟨gb192, 0, none⟩ = some (.int .i64 a0_0) := (blk_cell BK192.out 0).trans rfl
      have hcz5_1 : w3.cell? ⟨gb192, 1, none⟩ = some (.int .i64 a0_1) := (blk_cell BK192.out 1).trans rfl
      have hcz5_2 : w3.cell? ⟨gb192, 2, none⟩ = some (.int .i64 a0_2) := (blk_cell BK192.out 2).trans rfl
      have hcz5_3 : w3.cell? ⟨gb192, 3, none⟩ = some (.int .i64 a0_3) := (blk_cell BK192.out 3).trans rfl
      have hcz5_4 : w3.cell? ⟨gb192, 4, none⟩ = some (.int .u32 a0_4) := (blk_cell BK192.out 4).trans rfl
      have hcz5_5 : w3.cell? ⟨gb192, 5, none⟩ = some (.slice A0_5 l0_5.length c0_5) := (blk_cell BK192.out 5).trans rfl
      have hfz5_0 := blk_frozen BK192.out 0
      have hfz5_1 := blk_frozen BK192.out 1
      have hfz5_2 := blk_frozen BK192.out 2
      have hfz5_3 := blk_frozen BK192.out 3
      have hfz5_4 := blk_frozen BK192.out 4
      have hfz5_5 := blk_frozen BK192.out 5
      go_wp2
      go_meet
      case rel => exact ⟨_, (true), (by first | rfl | (simp; done) | (simp [*]; done)), H', ⟨by first | omega | exact Nat.le_refl _⟩, ⟨by (with_reducible repeat (first | refine blk_drewN ?_ _ | refine blk_drew ?_ | refine blk_alloc ?_ _)); exact BK192.out⟩, ⟨by repeat (first | (with_reducible first | exact HB.out | apply below_alloc | apply pw_below_drewN | apply below_drew1 | refine below_set ?_ GE192.out) | exact HB.out)⟩⟩
    · rw [if_neg c4] at H
      have c4b0 : decide (a0_1 < 0) = false := decide_eq_false c4
      clear c4
      (first | rw [c4b0] | (simp only [i64_w, i32_w]; rw [c4b0]) | skip)
      by_cases c6 : a0_1 > 1099511627776
      · rw [if_pos c6] at H
        have c6b0 : decide (1099511627776 < a0_1) = true := decide_eq_true c6
        clear c6
        have H' := Aside0.mk H
        clear H
        have hcz7_0 : w3.cell? ⟨gb192, 0, none⟩ = some (.int .i64 a0_0) := (blk_cell BK192.out 0).trans rfl
        have hcz7_1 : w3.cell? ⟨gb192, 1, none⟩ = some (.int .i64 a0_1) := (blk_cell BK192.out 1).trans rfl
        have hcz7_2 : w3.cell? ⟨gb192, 2, none⟩ = some (.int .i64 a0_2) := (blk_cell BK192.out 2).trans rfl
        have hcz7_3 : w3.cell? ⟨gb192, 3, none⟩ = some (.int .i64 a0_3) := (blk_cell BK192.out 3).trans rfl
        have hcz7_4 : w3.cell? ⟨gb192, 4, none⟩ = some (.int .u32 a0_4) := (blk_cell BK192.out 4).trans rfl
        have hcz7_5 : w3.cell? ⟨gb192, 5, none⟩ = some (.slice A0_5 l0_5.length c0_5) := (blk_cell BK192.out 5).trans rfl
        have hfz7_0 := blk_frozen BK192.out 0
        have hfz7_1 := blk_frozen BK192.out 1
        have hfz7_2 := blk_frozen BK192.out 2
        have hfz7_3 := blk_frozen BK192.out 3
        have hfz7_4 := blk_frozen BK192.out 4
        have hfz7_5 := blk_frozen BK192.out 5
        go_wp2
        go_meet
        case rel => exact ⟨_, (true), (by first | rfl | (simp; done) | (simp [*]; done)), H', ⟨by first | omega | exact Nat.le_refl _⟩, ⟨by (with_reducible repeat (first | refine blk_drewN ?_ _ | refine blk_drew ?_ | refine blk_alloc ?_ _)); exact BK192.out⟩, ⟨by repeat (first | (with_reducible first | exact HB.out | apply below_alloc | apply pw_below_drewN | apply below_drew1 | refine below_set ?_ GE192.out) | exact HB.out)⟩⟩
      · rw [if_neg c6] at H
        have c6b0 : decide (1099511627776 < a0_1) = false := decide_eq_false c6
        clear c6
        by_cases c8 : a0_0 = 1
        · rw [if_pos c8] at H
          have c8b0 : (a0_0 == 1) = true := beq_iff_eq.mpr c8
          have c8b1 : (a0_0 != 1) = false := bne_eq_false_iff_eq.mpr c8
          clear c8
          by_cases c9 : a0_0 = 2
          · rw [if_pos c9] at H
            have c9b0 : (a0_0 == 2) = true := beq_iff_eq.mpr c9
            have c9b1 : (a0_0 != 2) = false := bne_eq_false_iff_eq.mpr c9
            clear c9
            have H' := Aside0.mk H
            clear H
            have hcz10_0 : w3.cell? ⟨gb192, 0, none⟩ = some (.int .i64 a0_0) := (blk_cell BK192.out 0).trans rfl
            have hcz10_1 : w3.cell? ⟨gb192, 1, none⟩ = some (.int .i64 a0_1) := (blk_cell BK192.out 1).trans rfl
            have hcz10_2 : w3.cell? ⟨gb192, 2, none⟩ = some (.int .i64 a0_2) := (blk_cell BK192.out 2).trans rfl
            have hcz10_3 : w3.cell? ⟨gb192, 3, none⟩ = some (.int .i64 a0_3) := (blk_cell BK192.out 3).trans rfl
            have hcz10_4 : w3.cell? ⟨gb192, 4, none⟩ = some (.int .u32 a0_4) := (blk_cell BK192.out 4).trans rfl
            have hcz10_5 : w3.cell? ⟨gb192, 5, none⟩ = some (.slice A0_5 l0_5.length c0_5) := (blk_cell BK192.out 5).trans rfl
            have hfz10_0 := blk_frozen BK192.out 0
            have hfz10_1 := blk_frozen BK192.out 1
            have hfz10_2 := blk_frozen BK192.out 2
            have hfz10_3 := blk_frozen BK192.out 3
            have hfz10_4 := blk_frozen BK192.out 4
            have hfz10_5 := blk_frozen BK192.out 5
            go_wp2
            go_meet
            case rel => exact ⟨_, (false), (by first | rfl | (simp; done) | (simp [*]; done)), H', ⟨by first | omega | exact Nat.le_refl _⟩, ⟨by (with_reducible repeat (first | refine blk_drewN ?_ _ | refine blk_drew ?_ | refine blk_alloc ?_ _)); exact BK192.out⟩, ⟨by repeat (first | (with_reducible first | exact HB.out | apply below_alloc | apply pw_below_drewN | apply below_drew1 | refine below_set ?_ GE192.out) | exact HB.out)⟩⟩
          · rw [if_neg c9] at H
            have c9b0 : (a0_0 == 2) = false := beq_eq_false_iff_ne.mpr c9
            have c9b1 : (a0_0 != 2) = true := bne_iff_ne.mpr c9
            by_cases c11 : a0_0 = 3
            · rw [if_pos c11] at H
              have c11b0 : (a0_0 == 3) = true := beq_iff_eq.mpr c11
              have c11b1 : (a0_0 != 3) = false := bne_eq_false_iff_eq.mpr c11
              clear c11
              by_cases c12 : a0_0 = 4
              · rw [if_pos c12] at H
                have c12b0 : (a0_0 == 4) = true := beq_iff_eq.mpr c12
                have c12b1 : (a0_0 != 4) = false := bne_eq_false_iff_eq.mpr c12
                clear c12
                have H' := Aside0.mk H
                clear H
                have hcz13_0 : w3.cell? ⟨gb192, 0, none⟩ = some (.int .i64 a0_0) := (blk_cell BK192.out 0).trans rfl
                have hcz13_1 : w3.cell? ⟨gb192, 1, none⟩ = some (.int .i64 a0_1) := (blk_cell BK192.out 1).trans rfl
                have hcz13_2 : w3.cell? ⟨gb192, 2, none⟩ = some (.int .i64 a0_2) := (blk_cell BK192.out 2).trans rfl
                have hcz13_3 : w3.cell? ⟨gb192, 3, none⟩ = some (.int .i64 a0_3) := (blk_cell BK192.out 3).trans rfl
                have hcz13_4 : w3.cell? ⟨gb192, 4, none⟩ = some (.int .u32 a0_4) := (blk_cell BK192.out 4).trans rfl
                have hcz13_5 : w3.cell? ⟨gb192, 5, none⟩ = some (.slice A0_5 l0_5.length c0_5) := (blk_cell BK192.out 5).trans rfl
                have hfz13_0 := blk_frozen BK192.out 0
                have hfz13_1 := blk_frozen BK192.out 1
                have hfz13_2 := blk_frozen BK192.out 2
                have hfz13_3 := blk_frozen BK192.out 3
                have hfz13_4 := blk_frozen BK192.out 4
                have hfz13_5 := blk_frozen BK192.out 5
                go_wp2
                go_meet
                case rel => exact ⟨_, (false), (by first | rfl | (simp; done) | (simp [*]; done)), H', ⟨by first | omega | exact Nat.le_refl _⟩, ⟨by (with_reducible repeat (first | refine blk_drewN ?_ _ | refine blk_drew ?_ | refine blk_alloc ?_ _)); exact BK192.out⟩, ⟨by repeat (first | (with_reducible first | exact HB.out | apply below_alloc | apply pw_below_drewN | apply below_drew1 | refine below_set ?_ GE192.out) | exact HB.out)⟩⟩
              · rw [if_neg c12] at H
                have c12b0 : (a0_0 == 4) = false := beq_eq_false_iff_ne.mpr c12
                have c12b1 : (a0_0 != 4) = true := bne_iff_ne.mpr c12
                have H' := Aside0.mk H
                clear H
                have hcz14_0 : w3.cell? ⟨gb192, 0, none⟩ = some (.int .i64 a0_0) := (blk_cell BK192.out 0).trans rfl
                have hcz14_1 : w3.cell? ⟨gb192, 1, none⟩ = some (.int .i64 a0_1) := (blk_cell BK192.out 1).trans rfl
                have hcz14_2 : w3.cell? ⟨gb192, 2, none⟩ = some (.int .i64 a0_2) := (blk_cell BK192.out 2).trans rfl
                have hcz14_3 : w3.cell? ⟨gb192, 3, none⟩ = some (.int .i64 a0_3) := (blk_cell BK192.out 3).trans rfl
                have hcz14_4 : w3.cell? ⟨gb192, 4, none⟩ = some (.int .u32 a0_4) := (blk_cell BK192.out 4).trans rfl
                have hcz14_5 : w3.cell? ⟨gb192, 5, none⟩ = some (.slice A0_5 l0_5.length c0_5) := (blk_cell BK192.out 5).trans rfl
                have hfz14_0 := blk_frozen BK192.out 0
                have hfz14_1 := blk_frozen BK192.out 1
                have hfz14_2 := blk_frozen BK192.out 2
                have hfz14_3 := blk_frozen BK192.out 3
                have hfz14_4 := blk_frozen BK192.out 4
                have hfz14_5 := blk_frozen BK192.out 5
                go_wp2
                go_meet
                case rel => exact ⟨_, (decide ((l0_5.length : Int) > 0)), (by first | rfl | (simp; done) | (simp [*]; done)), H', ⟨by first | omega | exact Nat.le_refl _⟩, ⟨by (with_reducible repeat (first | refine blk_drewN ?_ _ | refine blk_drew ?_ | refine blk_alloc ?_ _)); exact BK192.out⟩, ⟨by repeat (first | (with_reducible first | exact HB.out | apply below_alloc | apply pw_below_drewN | apply below_drew1 | refine below_set ?_ GE192.out) | exact HB.out)⟩⟩
            · rw [if_neg c11] at H
              have c11b0 : (a0_0 == 3) = false := beq_eq_false_iff_ne.mpr c11
              have c11b1 : (a0_0 != 3) = true := bne_iff_ne.mpr c11
              by_cases c15 : a0_2 = 0
              · rw [if_pos c15] at H
                have c15b0 : (a0_2 == 0) = true := beq_iff_eq.mpr c15
                have c15b1 : (a0_2 != 0) = false := bne_eq_false_iff_eq.mpr c15
                clear c15
                by_cases c16 : a0_0 = 4
                · rw [if_pos c16] at H
                  have c16b0 : (a0_0 == 4) = true := beq_iff_eq.mpr c16
                  have c16b1 : (a0_0 != 4) = false := bne_eq_false_iff_eq.mpr c16
                  clear c16
                  have H' := Aside0.mk H
                  clear H
                  have hcz17_0 : w3.cell? ⟨gb192, 0, none⟩ = some (.int .i64 a0_0) := (blk_cell BK192.out 0).trans rfl
                  have hcz17_1 : w3.cell? ⟨gb192, 1, none⟩ = some (.int .i64 a0_1) := (blk_cell BK192.out 1).trans rfl
                  have hcz17_2 : w3.cell? ⟨gb192, 2, none⟩ = some (.int .i64 a0_2) := (blk_cell BK192.out 2).trans rfl
                  have hcz17_3 : w3.cell? ⟨gb192, 3, none⟩ = some (.int .i64 a0_3) := (blk_cell BK192.out 3).trans rfl
                  have hcz17_4 : w3.cell? ⟨gb192, 4, none⟩ = some (.int .u32 a0_4) := (blk_cell BK192.out 4).trans rfl
                  have hcz17_5 : w3.cell? ⟨gb192, 5, none⟩ = some (.slice A0_5 l0_5.length c0_5) := (blk_cell BK192.out 5).trans rfl
                  have hfz17_0 := blk_frozen BK192.out 0
                  have hfz17_1 := blk_frozen BK192.out 1
                  have hfz17_2 := blk_frozen BK192.out 2
                  have hfz17_3 := blk_frozen BK192.out 3
                  have hfz17_4 := blk_frozen BK192.out 4
                  have hfz17_5 := blk_frozen BK192.out 5
                  go_wp2
                  go_meet
                  case rel => exact ⟨_, (false), (by first | rfl | (simp; done) | (simp [*]; done)), H', ⟨by first | omega | exact Nat.le_refl _⟩, ⟨by (with_reducible repeat (first | refine blk_drewN ?_ _ | refine blk_drew ?_ | refine blk_alloc ?_ _)); exact BK192.out⟩, ⟨by repeat (first | (with_reducible first | exact HB.out | apply below_alloc | apply pw_below_drewN | apply below_drew1 | refine below_set ?_ GE192.out) | exact HB.out)⟩⟩
                · rw [if_neg c16] at H
                  have c16b0 : (a0_0 == 4) = false := beq_eq_false_iff_ne.mpr c16
                  have c16b1 : (a0_0 != 4) = true := bne_iff_ne.mpr c16
                  have H' := Aside0.mk H
                  clear H
                  have hcz18_0 : w3.cell? ⟨gb192, 0, none⟩ = some (.int .i64 a0_0) := (blk_cell BK192.out 0).trans rfl
                  have hcz18_1 : w3.cell? ⟨gb192, 1, none⟩ = some (.int .i64 a0_1) := (blk_cell BK192.out 1).trans rfl
                  have hcz18_2 : w3.cell? ⟨gb192, 2, none⟩ = some (.int .i64 a0_2) := (blk_cell BK192.out 2).trans rfl
                  have hcz18_3 : w3.cell? ⟨gb192, 3, none⟩ = some (.int .i64 a0_3) := (blk_cell BK192.out 3).trans rfl
                  have hcz18_4 : w3.cell? ⟨gb192, 4, none⟩ = some (.int .u32 a0_4) := (blk_cell BK192.out 4).trans rfl
                  have hcz18_5 : w3.cell? ⟨gb192, 5, none⟩ = some (.slice A0_5 l0_5.length c0_5) := (blk_cell BK192.out 5).trans rfl
                  have hfz18_0 := blk_frozen BK192.out 0
                  have hfz18_1 := blk_frozen BK192.out 1
                  have hfz18_2 := blk_frozen BK192.out 2
                  have hfz18_3 := blk_frozen BK192.out 3
                  have hfz18_4 := blk_frozen BK192.out 4
                  have hfz18_5 := blk_frozen BK192.out 5
                  go_wp2
                  go_meet
                  case rel => exact ⟨_, (decide ((l0_5.length : Int) > 0)), (by first | rfl | (simp; done) | (simp [*]; done)), H', ⟨by first | omega | exact Nat.le_refl _⟩, ⟨by (with_reducible repeat (first | refine blk_drewN ?_ _ | refine blk_drew ?_ | refine blk_alloc ?_ _)); exact BK192.out⟩, ⟨by repeat (first | (with_reducible first | exact HB.out | apply below_alloc | apply pw_below_drewN | apply below_drew1 | refine below_set ?_ GE192.out) | exact HB.out)⟩⟩
              · rw [if_neg c15] at H
                have c15b0 : (a0_2 == 0) = false := beq_eq_false_iff_ne.mpr c15
                have c15b1 : (a0_2 != 0) = true := bne_iff_ne.mpr c15
                have H' := Aside0.mk H
                clear H
                have hcz19_0 : w3.cell? ⟨gb192, 0, none⟩ = some (.int .i64 a0_0) := (blk_cell BK192.out 0).trans rfl
                have hcz19_1 : w3.cell? ⟨gb192, 1, none⟩ = some (.int .i64 a0_1) := (blk_cell BK192.out 1).trans rfl
                have hcz19_2 : w3.cell? ⟨gb192, 2, none⟩ = some (.int .i64 a0_2) := (blk_cell BK192.out 2).trans rfl
                have hcz19_3 : w3.cell? ⟨gb192, 3, none⟩ = some (.int .i64 a0_3) := (blk_cell BK192.out 3).trans rfl
                have hcz19_4 : w3.cell? ⟨gb192, 4, none⟩ = some (.int .u32 a0_4) := (blk_cell BK192.out 4).trans rfl
                have hcz19_5 : w3.cell? ⟨gb192, 5, none⟩ = some (.slice A0_5 l0_5.length c0_5) := (blk_cell BK192.out 5).trans rfl
                have hfz19_0 := blk_frozen BK192.out 0
                have hfz19_1 := blk_frozen BK192.out 1
                have hfz19_2 := blk_frozen BK192.out 2
                have hfz19_3 := blk_frozen BK192.out 3
                have hfz19_4 := blk_frozen BK192.out 4
                have hfz19_5 := blk_frozen BK192.out 5
                go_wp2
                go_meet
                case rel => exact ⟨_, (true), (by first | rfl | (simp; done) | (simp [*]; done)), H', ⟨by first | omega | exact Nat.le_refl _⟩, ⟨by (with_reducible repeat (first | refine blk_drewN ?_ _ | refine blk_drew ?_ | refine blk_alloc ?_ _)); exact BK192.out⟩, ⟨by repeat (first | (with_reducible first | exact HB.out | apply below_alloc | apply pw_below_drewN | apply below_drew1 | refine below_set ?_ GE192.out) | exact HB.out)⟩⟩
        · rw [if_neg c8] at H
          have c8b0 : (a0_0 == 1) = false := beq_eq_false_iff_ne.mpr c8
          have c8b1 : (a0_0 != 1) = true := bne_iff_ne.mpr c8
          by_cases c20 : a0_3 = 0
          · rw [if_pos c20] at H
            have c20b0 : (a0_3 == 0) = true := beq_iff_eq.mpr c20
            have c20b1 : (a0_3 != 0) = false := bne_eq_false_iff_eq.mpr c20
            clear c20
            by_cases c21 : a0_4 = 0
            · rw [if_pos c21] at H
              have c21b0 : (a0_4 == 0) = true := beq_iff_eq.mpr c21
              have c21b1 : (a0_4 != 0) = false := bne_eq_false_iff_eq.mpr c21
              clear c21
              by_cases c22 : a0_0 = 2
              · rw [if_pos c22] at H
                have c22b0 : (a0_0 == 2) = true := beq_iff_eq.mpr c22
                have c22b1 : (a0_0 != 2) = false := bne_eq_false_iff_eq.mpr c22
                clear c22
                have H' := Aside0.mk H
                clear H
                have hcz23_0 : w3.cell? ⟨gb192, 0, none⟩ = some (.int .i64 a0_0) := (blk_cell BK192.out 0).trans rfl
                have hcz23_1 : w3.cell? ⟨gb192, 1, none⟩ = some (.int .i64 a0_1) := (blk_cell BK192.out 1).trans rfl
                have hcz23_2 : w3.cell? ⟨gb192, 2, none⟩ = some (.int .i64 a0_2) := (blk_cell BK192.out 2).trans rfl
                have hcz23_3 : w3.cell? ⟨gb192, 3, none⟩ = some (.int .i64 a0_3) := (blk_cell BK192.out 3).trans rfl
                have hcz23_4 : w3.cell? ⟨gb192, 4, none⟩ = some (.int .u32 a0_4) := (blk_cell BK192.out 4).trans rfl
                have hcz23_5 : w3.cell? ⟨gb192, 5, none⟩ = some (.slice A0_5 l0_5.length c0_5) := (blk_cell BK192.out 5).trans rfl
                have hfz23_0 := blk_frozen BK192.out 0
                have hfz23_1 := blk_frozen BK192.out 1
                have hfz23_2 := blk_frozen BK192.out 2
                have hfz23_3 := blk_frozen BK192.out 3
                have hfz23_4 := blk_frozen BK192.out 4
                have hfz23_5 := blk_frozen BK192.out 5
                go_wp2
                go_meet
                case rel => exact ⟨_, (false), (by first | rfl | (simp; done) | (simp [*]; done)), H', ⟨by first | omega | exact Nat.le_refl _⟩, ⟨by (with_reducible repeat (first | refine blk_drewN ?_ _ | refine blk_drew ?_ | refine blk_alloc ?_ _)); exact BK192.out⟩, ⟨by repeat (first | (with_reducible first | exact HB.out | apply below_alloc | apply pw_below_drewN | apply below_drew1 | refine below_set ?_ GE192.out) | exact HB.out)⟩⟩
              · rw [if_neg c22] at H
                have c22b0 : (a0_0 == 2) = false := beq_eq_false_iff_ne.mpr c22
                have c22b1 : (a0_0 != 2) = true := bne_iff_ne.mpr c22
                by_cases c24 : a0_0 = 3
                · rw [if_pos c24] at H
                  have c24b0 : (a0_0 == 3) = true := beq_iff_eq.mpr c24
                  have c24b1 : (a0_0 != 3) = false := bne_eq_false_iff_eq.mpr c24
                  clear c24
                  by_cases c25 : a0_0 = 4
                  · rw [if_pos c25] at H
                    have c25b0 : (a0_0 == 4) = true := beq_iff_eq.mpr c25
                    have c25b1 : (a0_0 != 4) = false := bne_eq_false_iff_eq.mpr c25
                    clear c25
                    have H' := Aside0.mk H
                    clear H
                    have hcz26_0 : w3.cell? ⟨gb192, 0, none⟩ = some (.int .i64 a0_0) := (blk_cell BK192.out 0).trans rfl
                    have hcz26_1 : w3.cell? ⟨gb192, 1, none⟩ = some (.int .i64 a0_1) := (blk_cell BK192.out 1).trans rfl
                    have hcz26_2 : w3.cell? ⟨gb192, 2, none⟩ = some (.int .i64 a0_2) := (blk_cell BK192.out 2).trans rfl
                    have hcz26_3 : w3.cell? ⟨gb192, 3, none⟩ = some (.int .i64 a0_3) := (blk_cell BK192.out 3).trans rfl
                    have hcz26_4 : w3.cell? ⟨gb192, 4, none⟩ = some (.int .u32 a0_4) := (blk_cell BK192.out 4).trans rfl
                    have hcz26_5 : w3.cell? ⟨gb192, 5, none⟩ = some (.slice A0_5 l0_5.length c0_5) := (blk_cell BK192.out 5).trans rfl
                    have hfz26_0 := blk_frozen BK192.out 0
                    have hfz26_1 := blk_frozen BK192.out 1
                    have hfz26_2 := blk_frozen BK192.out 2
                    have hfz26_3 := blk_frozen BK192.out 3
                    have hfz26_4 := blk_frozen BK192.out 4
                    have hfz26_5 := blk_frozen BK192.out 5
                    go_wp2
                    go_meet
                    case rel => exact ⟨_, (false), (by first | rfl | (simp; done) | (simp [*]; done)), H', ⟨by first | omega | exact Nat.le_refl _⟩, ⟨by (with_reducible repeat (first | refine blk_drewN ?_ _ | refine blk_drew ?_ | refine blk_alloc ?_ _)); exact BK192.out⟩, ⟨by repeat (first | (with_reducible first | exact HB.out | apply below_alloc | apply pw_below_drewN | apply below_drew1 | refine below_set ?_ GE192.out) | exact HB.out)⟩⟩
                  · rw [if_neg c25] at H
                    have c25b0 : (a0_0 == 4) = false := beq_eq_false_iff_ne.mpr c25
                    have c25b1 : (a0_0 != 4) = true := bne_iff_ne.mpr c25
                    have H' := Aside0.mk H
                    clear H
                    have hcz27_0 : w3.cell? ⟨gb192, 0, none⟩ = some (.int .i64 a0_0) := (blk_cell BK192.out 0).trans rfl
                    have hcz27_1 : w3.cell? ⟨gb192, 1, none⟩ = some (.int .i64 a0_1) := (blk_cell BK192.out 1).trans rfl
                    have hcz27_2 : w3.cell? ⟨gb192, 2, none⟩ = some (.int .i64 a0_2) := (blk_cell BK192.out 2).trans rfl
                    have hcz27_3 : w3.cell? ⟨gb192, 3, none⟩ = some (.int .i64 a0_3) := (blk_cell BK192.out 3).trans rfl
                    have hcz27_4 : w3.cell? ⟨gb192, 4, none⟩ = some (.int .u32 a0_4) := (blk_cell BK192.out 4).trans rfl
                    have hcz27_5 : w3.cell? ⟨gb192, 5, none⟩ = some (.slice A0_5 l0_5.length c0_5) := (blk_cell BK192.out 5).trans rfl
                    have hfz27_0 := blk_frozen BK192.out 0
                    have hfz27_1 := blk_frozen BK192.out 1
                    have hfz27_2 := blk_frozen BK192.out 2
                    have hfz27_3 := blk_frozen BK192.out 3
                    have hfz27_4 := blk_frozen BK192.out 4
                    have hfz27_5 := blk_frozen BK192.out 5
                    go_wp2
                    go_meet
                    case rel => exact ⟨_, (decide ((l0_5.length : Int) > 0)), (by first | rfl | (simp; done) | (simp [*]; done)), H', ⟨by first | omega | exact Nat.le_refl _⟩, ⟨by (with_reducible repeat (first | refine blk_drewN ?_ _ | refine blk_drew ?_ | refine blk_alloc ?_ _)); exact BK192.out⟩, ⟨by repeat (first | (with_reducible first | exact HB.out | apply below_alloc | apply pw_below_drewN | apply below_drew1 | refine below_set ?_ GE192.out) | exact HB.out)⟩⟩
                · rw [if_neg c24] at H
                  have c24b0 : (a0_0 == 3) = false := beq_eq_false_iff_ne.mpr c24
                  have c24b1 : (a0_0 != 3) = true := bne_iff_ne.mpr c24
                  by_cases c28 : a0_2 = 0
                  · rw [if_pos c28] at H
                    have c28b0 : (a0_2 == 0) = true := beq_iff_eq.mpr c28
                    have c28b1 : (a0_2 != 0) = false := bne_eq_false_iff_eq.mpr c28
                    clear c28
                    by_cases c29 : a0_0 = 4
                    · rw [if_pos c29] at H
                      have c29b0 : (a0_0 == 4) = true := beq_iff_eq.mpr c29
                      have c29b1 : (a0_0 != 4) = false := bne_eq_false_iff_eq.mpr c29
                      clear c29
                      have H' := Aside0.mk H
                      clear H
                      have hcz30_0 : w3.cell? ⟨gb192, 0, none⟩ = some (.int .i64 a0_0) := (blk_cell BK192.out 0).trans rfl
                      have hcz30_1 : w3.cell? ⟨gb192, 1, none⟩ = some (.int .i64 a0_1) := (blk_cell BK192.out 1).trans rfl
                      have hcz30_2 : w3.cell? ⟨gb192, 2, none⟩ = some (.int .i64 a0_2) := (blk_cell BK192.out 2).trans rfl
                      have hcz30_3 : w3.cell? ⟨gb192, 3, none⟩ = some (.int .i64 a0_3) := (blk_cell BK192.out 3).trans rfl
                      have hcz30_4 : w3.cell? ⟨gb192, 4, none⟩ = some (.int .u32 a0_4) := (blk_cell BK192.out 4).trans rfl
                      have hcz30_5 : w3.cell? ⟨gb192, 5, none⟩ = some (.slice A0_5 l0_5.length c0_5) := (blk_cell BK192.out 5).trans rfl
                      have hfz30_0 := blk_frozen BK192.out 0
                      have hfz30_1 := blk_frozen BK192.out 1
                      have hfz30_2 := blk_frozen BK192.out 2
                      have hfz30_3 := blk_frozen BK192.out 3
                      have hfz30_4 := blk_frozen BK192.out 4
                      have hfz30_5 := blk_frozen BK192.out 5
                      go_wp2
                      go_meet
                      case rel => exact ⟨_, (false), (by first | rfl | (simp; done) | (simp [*]; done)), H', ⟨by first | omega | exact Nat.le_refl _⟩, ⟨by (with_reducible repeat (first | refine blk_drewN ?_ _ | refine blk_drew ?_ | refine blk_alloc ?_ _)); exact BK192.out⟩, ⟨by repeat (first | (with_reducible first | exact HB.out | apply below_alloc | apply pw_below_drewN | apply below_drew1 | refine below_set ?_ GE192.out) | exact HB.out)⟩⟩
                    · rw [if_neg c29] at H
                      have c29b0 : (a0_0 == 4) = false := beq_eq_false_iff_ne.mpr c29
                      have c29b1 : (a0_0 != 4) = true := bne_iff_ne.mpr c29
                      have H' := Aside0.mk H
                      clear H
                      have hcz31_0 : w3.cell? ⟨gb192, 0, none⟩ = some (.int .i64 a0_0) := (blk_cell BK192.out 0).trans rfl
                      have hcz31_1 : w3.cell? ⟨gb192, 1, none⟩ = some (.int .i64 a0_1) := (blk_cell BK192.out 1).trans rfl
                      have hcz31_2 : w3.cell? ⟨gb192, 2, none⟩ = some (.int .i64 a0_2) := (blk_cell BK192.out 2).trans rfl
                      have hcz31_3 : w3.cell? ⟨gb192, 3, none⟩ = some (.int .i64 a0_3) := (blk_cell BK192.out 3).trans rfl
                      have hcz31_4 : w3.cell? ⟨gb192, 4, none⟩ = some (.int .u32 a0_4) := (blk_cell BK192.out 4).trans rfl
                      have hcz31_5 : w3.cell? ⟨gb192, 5, none⟩ = some (.slice A0_5 l0_5.length c0_5) := (blk_cell BK192.out 5).trans rfl
                      have hfz31_0 := blk_frozen BK192.out 0
                      have hfz31_1 := blk_frozen BK192.out 1
                      have hfz31_2 := blk_frozen BK192.out 2
                      have hfz31_3 := blk_frozen BK192.out 3
                      have hfz31_4 := blk_frozen BK192.out 4
                      have hfz31_5 := blk_frozen BK192.out 5
                      go_wp2
                      go_meet
                      case rel => exact ⟨_, (decide ((l0_5.length : Int) > 0)), (by first | rfl | (simp; done) | (simp [*]; done)), H', ⟨by first | omega | exact Nat.le_refl _⟩, ⟨by (with_reducible repeat (first | refine blk_drewN ?_ _ | refine blk_drew ?_ | refine blk_alloc ?_ _)); exact BK192.out⟩, ⟨by repeat (first | (with_reducible first | exact HB.out | apply below_alloc | apply pw_below_drewN | apply below_drew1 | refine below_set ?_ GE192.out) | exact HB.out)⟩⟩
                  · rw [if_neg c28] at H
                    have c28b0 : (a0_2 == 0) = false := beq_eq_false_iff_ne.mpr c28
                    have c28b1 : (a0_2 != 0) = true := bne_iff_ne.mpr c28
                    have H' := Aside0.mk H
                    clear H
                    have hcz32_0 : w3.cell? ⟨gb192, 0, none⟩ = some (.int .i64 a0_0) := (blk_cell BK192.out 0).trans rfl
                    have hcz32_1 : w3.cell? ⟨gb192, 1, none⟩ = some (.int .i64 a0_1) := (blk_cell BK192.out 1).trans rfl
                    have hcz32_2 : w3.cell? ⟨gb192, 2, none⟩ = some (.int .i64 a0_2) := (blk_cell BK192.out 2).trans rfl
                    have hcz32_3 : w3.cell? ⟨gb192, 3, none⟩ = some (.int .i64 a0_3) := (blk_cell BK192.out 3).trans rfl
                    have hcz32_4 : w3.cell? ⟨gb192, 4, none⟩ = some (.int .u32 a0_4) := (blk_cell BK192.out 4).trans rfl
                    have hcz32_5 : w3.cell? ⟨gb192, 5, none⟩ = some (.slice A0_5 l0_5.length c0_5) := (blk_cell BK192.out 5).trans rfl
                    have hfz32_0 := blk_frozen BK192.out 0
                    have hfz32_1 := blk_frozen BK192.out 1
                    have hfz32_2 := blk_frozen BK192.out 2
                    have hfz32_3 := blk_frozen BK192.out 3
                    have hfz32_4 := blk_frozen BK192.out 4
                    have hfz32_5 := blk_frozen BK192.out 5
                    go_wp2
                    go_meet
                    case rel => exact ⟨_, (true), (by first | rfl | (simp; done) | (simp [*]; done)), H', ⟨by first | omega | exact Nat.le_refl _⟩, ⟨by (with_reducible repeat (first | refine blk_drewN ?_ _ | refine blk_drew ?_ | refine blk_alloc ?_ _)); exact BK192.out⟩, ⟨by repeat (first | (with_reducible first | exact HB.out | apply below_alloc | apply pw_below_drewN | apply below_drew1 | refine below_set ?_ GE192.out) | exact HB.out)⟩⟩
            · rw [if_neg c21] at H
              have c21b0 : (a0_4 == 0) = false := beq_eq_false_iff_ne.mpr c21
              have c21b1 : (a0_4 != 0) = true := bne_iff_ne.mpr c21
              have H' := Aside0.mk H
              clear H
              have hcz33_0 : w3.cell? ⟨gb192, 0, none⟩ = some (.int .i64 a0_0) := (blk_cell BK192.out 0).trans rfl
              have hcz33_1 : w3.cell? ⟨gb192, 1, none⟩ = some (.int .i64 a0_1) := (blk_cell BK192.out 1).trans rfl
              have hcz33_2 : w3.cell? ⟨gb192, 2, none⟩ = some (.int .i64 a0_2) := (blk_cell BK192.out 2).trans rfl
              have hcz33_3 : w3.cell? ⟨gb192, 3, none⟩ = some (.int .i64 a0_3) := (blk_cell BK192.out 3).trans rfl
              have hcz33_4 : w3.cell? ⟨gb192, 4, none⟩ = some (.int .u32 a0_4) := (blk_cell BK192.out 4).trans rfl
              have hcz33_5 : w3.cell? ⟨gb192, 5, none⟩ = some (.slice A0_5 l0_5.length c0_5) := (blk_cell BK192.out 5).trans rfl
              have hfz33_0 := blk_frozen BK192.out 0
              have hfz33_1 := blk_frozen BK192.out 1
              have hfz33_2 := blk_frozen BK192.out 2
              have hfz33_3 := blk_frozen BK192.out 3
              have hfz33_4 := blk_frozen BK192.out 4
              have hfz33_5 := blk_frozen BK192.out 5
              go_wp2
              go_meet
              case rel => exact ⟨_, (true), (by first | rfl | (simp; done) | (simp [*]; done)), H', ⟨by first | omega | exact Nat.le_refl _⟩, ⟨by (with_reducible repeat (first | refine blk_drewN ?_ _ | refine blk_drew ?_ | refine blk_alloc ?_ _)); exact BK192.out⟩, ⟨by repeat (first | (with_reducible first | exact HB.out | apply below_alloc | apply pw_below_drewN | apply below_drew1 | refine below_set ?_ GE192.out) | exact HB.out)⟩⟩
          · rw [if_neg c20] at H
            have c20b0 : (a0_3 == 0) = false := beq_eq_false_iff_ne.mpr c20
            have c20b1 : (a0_3 != 0) = true := bne_iff_ne.mpr c20
            have H' := Aside0.mk H
            clear H
            have hcz34_0 : w3.cell? ⟨gb192, 0, none⟩ = some (.int .i64 a0_0) := (blk_cell BK192.out 0).trans rfl
            have hcz34_1 : w3.cell? ⟨gb192, 1, none⟩ = some (.int .i64 a0_1) := (blk_cell BK192.out 1).trans rfl
            have hcz34_2 : w3.cell? ⟨gb192, 2, none⟩ = some (.int .i64 a0_2) := (blk_cell BK192.out 2).trans rfl
            have hcz34_3 : w3.cell? ⟨gb192, 3, none⟩ = some (.int .i64 a0_3) := (blk_cell BK192.out 3).trans rfl
            have hcz34_4 : w3.cell? ⟨gb192, 4, none⟩ = some (.int .u32 a0_4) := (blk_cell BK192.out 4).trans rfl
            have hcz34_5 : w3.cell? ⟨gb192, 5, none⟩ = some (.slice A0_5 l0_5.length c0_5) := (blk_cell BK192.out 5).trans rfl
            have hfz34_0 := blk_frozen BK192.out 0
            have hfz34_1 := blk_frozen BK192.out 1
            have hfz34_2 := blk_frozen BK192.out 2
            have hfz34_3 := blk_frozen BK192.out 3
            have hfz34_4 := blk_frozen BK192.out 4
            have hfz34_5 := blk_frozen BK192.out 5
            go_wp2
            go_meet
            case rel => exact ⟨_, (true), (by first | rfl | (simp; done) | (simp [*]; done)), H', ⟨by first | omega | exact Nat.le_refl _⟩, ⟨by (with_reducible repeat (first | refine blk_drewN ?_ _ | refine blk_drew ?_ | refine blk_alloc ?_ _)); exact BK192.out⟩, ⟨by repeat (first | (with_reducible first | exact HB.out | apply below_alloc | apply pw_below_drewN | apply below_drew1 | refine below_set ?_ GE192.out) | exact HB.out)⟩⟩
  case rest =>
    clear HC2
    try clear c1
    try clear c2
    try clear p2
    try clear c4
    try clear c4b0
    try clear c6
    try clear c6b0
    try clear c8
    try clear c8b0
    try clear c8b1
    try clear c9
    try clear c9b0
    try clear c9b1
    try clear c11
    try clear c11b0
    try clear c11b1
    try clear c12
    try clear c12b0
    try clear c12b1
    try clear c15
    try clear c15b0
    try clear c15b1
    try clear c16
    try clear c16b0
    try clear c16b1
    try clear c20
    try clear c20b0
    try clear c20b1
    try clear c21
    try clear c21b0
    try clear c21b1
    try clear c22
    try clear c22b0
    try clear c22b1
    try clear c24
    try clear c24b0
    try clear c24b1
    try clear c25
    try clear c25b0
    try clear c25b1
    try clear c28
    try clear c28b0
    try clear c28b1
    try clear c29
    try clear c29b0
    try clear c29b1
    try clear hcz10_0
    try clear hcz10_1
    try clear hcz10_2
    try clear hcz10_3
    try clear hcz10_4
    try clear hcz10_5
    try clear hcz13_0
    try clear hcz13_1
    try clear hcz13_2
    try clear hcz13_3
    try clear hcz13_4
    try clear hcz13_5
    try clear hcz14_0
    try clear hcz14_1
    try clear hcz14_2
    try clear hcz14_3
    try clear hcz14_4
    try clear hcz14_5
    try clear hcz17_0
    try clear hcz17_1
    try clear hcz17_2
    try clear hcz17_3
    try clear hcz17_4
    try clear hcz17_5
    try clear hcz18_0
    try clear hcz18_1
    try clear hcz18_2
    try clear hcz18_3
    try clear hcz18_4
    try clear hcz18_5
    try clear hcz19_0
    try clear hcz19_1
    try clear hcz19_2
    try clear hcz19_3
    try clear hcz19_4
    try clear hcz19_5
    try clear hcz23_0
    try clear hcz23_1
    try clear hcz23_2
    try clear hcz23_3
    try clear hcz23_4
    try clear hcz23_5
    try clear hcz26_0
    try clear hcz26_1
    try clear hcz26_2
    try clear hcz26_3
    try clear hcz26_4
    try clear hcz26_5
    try clear hcz27_0
    try clear hcz27_1
    try clear hcz27_2
    try clear hcz27_3
    try clear hcz27_4
    try clear hcz27_5
    try clear hcz30_0
    try clear hcz30_1
    try clear hcz30_2
    try clear hcz30_3
    try clear hcz30_4
    try clear hcz30_5
    try clear hcz31_0
    try clear hcz31_1
    try clear hcz31_2
    try clear hcz31_3
    try clear hcz31_4
    try clear hcz31_5
    try clear hcz32_0
    try clear hcz32_1
    try clear hcz32_2
    try clear hcz32_3
    try clear hcz32_4
    try clear hcz32_5
    try clear hcz33_0
    try clear hcz33_1
    try clear hcz33_2
    try clear hcz33_3
    try clear hcz33_4
    try clear hcz33_5
    try clear hcz34_0
    try clear hcz34_1
    try clear hcz34_2
    try clear hcz34_3
    try clear hcz34_4
    try clear hcz34_5
    try clear hcz5_0
    try clear hcz5_1
    try clear hcz5_2
    try clear hcz5_3
    try clear hcz5_4
    try clear hcz5_5
    try clear hcz7_0
    try clear hcz7_1
    try clear hcz7_2
    try clear hcz7_3
    try clear hcz7_4
    try clear hcz7_5
    try clear hfz10_0
    try clear hfz10_1
    try clear hfz10_2
    try clear hfz10_3
    try clear hfz10_4
    try clear hfz10_5
    try clear hfz13_0
    try clear hfz13_1
    try clear hfz13_2
    try clear hfz13_3
    try clear hfz13_4
    try clear hfz13_5
    try clear hfz14_0
    try clear hfz14_1
    try clear hfz14_2
    try clear hfz14_3
    try clear hfz14_4
    try clear hfz14_5
    try clear hfz17_0
    try clear hfz17_1
    try clear hfz17_2
    try clear hfz17_3
    try clear hfz17_4
    try clear hfz17_5
    try clear hfz18_0
    try clear hfz18_1
    try clear hfz18_2
    try clear hfz18_3
    try clear hfz18_4
    try clear hfz18_5
    try clear hfz19_0
    try clear hfz19_1
    try clear hfz19_2
    try clear hfz19_3
    try clear hfz19_4
    try clear hfz19_5
    try clear hfz23_0
    try clear hfz23_1
    try clear hfz23_2
    try clear hfz23_3
    try clear hfz23_4
    try clear hfz23_5
    try clear hfz26_0
    try clear hfz26_1
    try clear hfz26_2
    try clear hfz26_3
    try clear hfz26_4
    try clear hfz26_5
    try clear hfz27_0
    try clear hfz27_1
    try clear hfz27_2
    try clear hfz27_3
    try clear hfz27_4
    try clear hfz27_5
    try clear hfz30_0
    try clear hfz30_1
    try clear hfz30_2
    try clear hfz30_3
    try clear hfz30_4
    try clear hfz30_5
    try clear hfz31_0
    try clear hfz31_1
    try clear hfz31_2
    try clear hfz31_3
    try clear hfz31_4
    try clear hfz31_5
    try clear hfz32_0
    try clear hfz32_1
    try clear hfz32_2
    try clear hfz32_3
    try clear hfz32_4
    try clear hfz32_5
    try clear hfz33_0
    try clear hfz33_1
    try clear hfz33_2
    try clear hfz33_3
    try clear hfz33_4
    try clear hfz33_5
    try clear hfz34_0
    try clear hfz34_1
    try clear hfz34_2
    try clear hfz34_3
    try clear hfz34_4
    try clear hfz34_5
    try clear hfz5_0
    try clear hfz5_1
    try clear hfz5_2
    try clear hfz5_3
    try clear hfz5_4
    try clear hfz5_5
    try clear hfz7_0
    try clear hfz7_1
    try clear hfz7_2
    try clear hfz7_3
    try clear hfz7_4
    try clear hfz7_5
    obtain ⟨kq, x56_1, rfl, HA, HJ1, BK192, HB⟩ := hcut
    cases kq with
    | zero => exact absurd HA.out (by simp [rosetteref22_right.j0])
    | succ kj1 =>
      have H := HA.out
      clear HA
      simp only [rosetteref22_right.j0] at H
      by_cases c35 : x56_1 = true
      · subst c35
        have H1 : (some false) = some r := by rw [if_pos rfl] at H; exact H
        clear H
        have H := H1
        clear H1
        obtain rfl := Option.some.inj H
        go_wp2
        go_ret
        exact ⟨by first | rfl | (simp [errW_none, errW_some] <;> rfl) | (simp [*, errW_none, errW_some] <;> rfl), by repeat (first | (with_reducible first | exact HB.out | apply below_alloc | apply pw_below_drewN | apply below_drew1 | refine below_set ?_ GE192.out) | exact HB.out)⟩
      · replace c35 := Bool.eq_false_iff.mpr c35
        subst c35
        have H1 : (if a0_0 = 1 then (if a0_3 ≥ 1 then (some (decide (a0_3 ≤ 1048576))) else (some false)) else (if a0_0 = 2 then (if a0_2 ≥ 0 then (if a0_2 ≤ 1048576 then (if (l0_5.length : Int) ≥ 1 then (some (decide ((l0_5.length : Int) ≤ 64))) else (some false)) else (some false)) else (some false)) else (if a0_0 = 3 then (if a0_2 ≥ 0 then (some (decide (a0_2 ≤ 1048576))) else (some false)) else (if a0_0 = 4 then (if (l0_5.length : Int) ≥ 1 then (some (decide ((l0_5.length : Int) ≤ 4096))) else (some false)) else (some false))))) = some r := by rw [if_neg (show ¬ (false = true) by decide)] at H; exact H
        clear H
        have H := H1
        clear H1
        by_cases c36 : a0_0 = 1
        · rw [if_pos c36] at H
          have c36b0 : (a0_0 == 1) = true := beq_iff_eq.mpr c36
          have c36b1 : (a0_0 != 1) = false := bne_eq_false_iff_eq.mpr c36
          clear c36
          by_cases c37 : a0_3 ≥ 1
          · rw [if_pos c37] at H
            have c37b0 : decide (1 ≤ a0_3) = true := decide_eq_true c37
            clear c37
            obtain rfl := Option.some.inj H
            have hcz38_0 : wc.cell? ⟨gb192, 0, none⟩ = some (.int .i64 a0_0) := (blk_cell BK192.out 0).trans rfl
            have hcz38_1 : wc.cell? ⟨gb192, 1, none⟩ = some (.int .i64 a0_1) := (blk_cell BK192.out 1).trans rfl
            have hcz38_2 : wc.cell? ⟨gb192, 2, none⟩ = some (.int .i64 a0_2) := (blk_cell BK192.out 2).trans rfl
            have hcz38_3 : wc.cell? ⟨gb192, 3, none⟩ = some (.int .i64 a0_3) := (blk_cell BK192.out 3).trans rfl
            have hcz38_4 : wc.cell? ⟨gb192, 4, none⟩ = some (.int .u32 a0_4) := (blk_cell BK192.out 4).trans rfl
            have hcz38_5 : wc.cell? ⟨gb192, 5, none⟩ = some (.slice A0_5 l0_5.length c0_5) := (blk_cell BK192.out 5).trans rfl
            have hfz38_0 := blk_frozen BK192.out 0
            have hfz38_1 := blk_frozen BK192.out 1
            have hfz38_2 := blk_frozen BK192.out 2
            have hfz38_3 := blk_frozen BK192.out 3
            have hfz38_4 := blk_frozen BK192.out 4
            have hfz38_5 := blk_frozen BK192.out 5
            go_wp2
            go_ret
            exact ⟨by first | rfl | (simp [errW_none, errW_some] <;> rfl) | (simp [*, errW_none, errW_some] <;> rfl), by repeat (first | (with_reducible first | exact HB.out | apply below_alloc | apply pw_below_drewN | apply below_drew1 | refine below_set ?_ GE192.out) | exact HB.out)⟩
          · rw [if_neg c37] at H
            have c37b0 : decide (1 ≤ a0_3) = false := decide_eq_false c37
            clear c37
            obtain rfl := Option.some.inj H
            have hcz39_0 : wc.cell? ⟨gb192, 0, none⟩ = some (.int .i64 a0_0) := (blk_cell BK192.out 0).trans rfl
            have hcz39_1 : wc.cell? ⟨gb192, 1, none⟩ = some (.int .i64 a0_1) := (blk_cell BK192.out 1).trans rfl
            have hcz39_2 : wc.cell? ⟨gb192, 2, none⟩ = some (.int .i64 a0_2) := (blk_cell BK192.out 2).trans rfl
            have hcz39_3 : wc.cell? ⟨gb192, 3, none⟩ = some (.int .i64 a0_3) := (blk_cell BK192.out 3).trans rfl
            have hcz39_4 : wc.cell? ⟨gb192, 4, none⟩ = some (.int .u32 a0_4) := (blk_cell BK192.out 4).trans rfl
            have hcz39_5 : wc.cell? ⟨gb192, 5, none⟩ = some (.slice A0_5 l0_5.length c0_5) := (blk_cell BK192.out 5).trans rfl
            have hfz39_0 := blk_frozen BK192.out 0
            have hfz39_1 := blk_frozen BK192.out 1
            have hfz39_2 := blk_frozen BK192.out 2
            have hfz39_3 := blk_frozen BK192.out 3
            have hfz39_4 := blk_frozen BK192.out 4
            have hfz39_5 := blk_frozen BK192.out 5
            go_wp2
            go_ret
            exact ⟨by first | rfl | (simp [errW_none, errW_some] <;> rfl) | (simp [*, errW_none, errW_some] <;> rfl), by repeat (first | (with_reducible first | exact HB.out | apply below_alloc | apply pw_below_drewN | apply below_drew1 | refine below_set ?_ GE192.out) | exact HB.out)⟩
        · rw [if_neg c36] at H
          have c36b0 : (a0_0 == 1) = false := beq_eq_false_iff_ne.mpr c36
          have c36b1 : (a0_0 != 1) = true := bne_iff_ne.mpr c36
          by_cases c40 : a0_0 = 2
          · rw [if_pos c40] at H
            have c40b0 : (a0_0 == 2) = true := beq_iff_eq.mpr c40
            have c40b1 : (a0_0 != 2) = false := bne_eq_false_iff_eq.mpr c40
            clear c40
            by_cases c41 : a0_2 ≥ 0
            · rw [if_pos c41] at H
              have c41b0 : decide (0 ≤ a0_2) = true := decide_eq_true c41
              clear c41
              by_cases c42 : a0_2 ≤ 1048576
              · rw [if_pos c42] at H
                have c42b0 : decide (a0_2 ≤ 1048576) = true := decide_eq_true c42
                clear c42
                by_cases c43 : (l0_5.length : Int) ≥ 1
                · rw [if_pos c43] at H
                  have c43b0 : decide (1 ≤ (l0_5.length : Int)) = true := decide_eq_true c43
                  have c43b1 : decide (1 ≤ l0_5.length) = true := decide_eq_true (by omega)
                  clear c43
                  obtain rfl := Option.some.inj H
                  have hcz44_0 : wc.cell? ⟨gb192, 0, none⟩ = some (.int .i64 a0_0) := (blk_cell BK192.out 0).trans rfl
                  have hcz44_1 : wc.cell? ⟨gb192, 1, none⟩ = some (.int .i64 a0_1) := (blk_cell BK192.out 1).trans rfl
                  have hcz44_2 : wc.cell? ⟨gb192, 2, none⟩ = some (.int .i64 a0_2) := (blk_cell BK192.out 2).trans rfl
                  have hcz44_3 : wc.cell? ⟨gb192, 3, none⟩ = some (.int .i64 a0_3) := (blk_cell BK192.out 3).trans rfl
                  have hcz44_4 : wc.cell? ⟨gb192, 4, none⟩ = some (.int .u32 a0_4) := (blk_cell BK192.out 4).trans rfl
                  have hcz44_5 : wc.cell? ⟨gb192, 5, none⟩ = some (.slice A0_5 l0_5.length c0_5) := (blk_cell BK192.out 5).trans rfl
                  have hfz44_0 := blk_frozen BK192.out 0
                  have hfz44_1 := blk_frozen BK192.out 1
                  have hfz44_2 := blk_frozen BK192.out 2
                  have hfz44_3 := blk_frozen BK192.out 3
                  have hfz44_4 := blk_frozen BK192.out 4
                  have hfz44_5 := blk_frozen BK192.out 5
                  go_wp2
                  go_ret
                  exact ⟨by first | rfl | (simp [errW_none, errW_some] <;> rfl) | (simp [*, errW_none, errW_some] <;> rfl), by repeat (first | (with_reducible first | exact HB.out | apply below_alloc | apply pw_below_drewN | apply below_drew1 | refine below_set ?_ GE192.out) | exact HB.out)⟩
                · rw [if_neg c43] at H
                  have c43b0 : decide (1 ≤ (l0_5.length : Int)) = false := decide_eq_false c43
                  have c43b1 : decide (1 ≤ l0_5.length) = false := decide_eq_false (by omega)
                  clear c43
                  obtain rfl := Option.some.inj H
                  have hcz45_0 : wc.cell? ⟨gb192, 0, none⟩ = some (.int .i64 a0_0) := (blk_cell BK192.out 0).trans rfl
                  have hcz45_1 : wc.cell? ⟨gb192, 1, none⟩ = some (.int .i64 a0_1) := (blk_cell BK192.out 1).trans rfl
                  have hcz45_2 : wc.cell? ⟨gb192, 2, none⟩ = some (.int .i64 a0_2) := (blk_cell BK192.out 2).trans rfl
                  have hcz45_3 : wc.cell? ⟨gb192, 3, none⟩ = some (.int .i64 a0_3) := (blk_cell BK192.out 3).trans rfl
                  have hcz45_4 : wc.cell? ⟨gb192, 4, none⟩ = some (.int .u32 a0_4) := (blk_cell BK192.out 4).trans rfl
                  have hcz45_5 : wc.cell? ⟨gb192, 5, none⟩ = some (.slice A0_5 l0_5.length c0_5) := (blk_cell BK192.out 5).trans rfl
                  have hfz45_0 := blk_frozen BK192.out 0
                  have hfz45_1 := blk_frozen BK192.out 1
                  have hfz45_2 := blk_frozen BK192.out 2
                  have hfz45_3 := blk_frozen BK192.out 3
                  have hfz45_4 := blk_frozen BK192.out 4
                  have hfz45_5 := blk_frozen BK192.out 5
                  go_wp2
                  go_ret
                  exact ⟨by first | rfl | (simp [errW_none, errW_some] <;> rfl) | (simp [*, errW_none, errW_some] <;> rfl), by repeat (first | (with_reducible first | exact HB.out | apply below_alloc | apply pw_below_drewN | apply below_drew1 | refine below_set ?_ GE192.out) | exact HB.out)⟩
              · rw [if_neg c42] at H
                have c42b0 : decide (a0_2 ≤ 1048576) = false := decide_eq_false c42
                clear c42
                obtain rfl := Option.some.inj H
                have hcz46_0 : wc.cell? ⟨gb192, 0, none⟩ = some (.int .i64 a0_0) := (blk_cell BK192.out 0).trans rfl
                have hcz46_1 : wc.cell? ⟨gb192, 1, none⟩ = some (.int .i64 a0_1) := (blk_cell BK192.out 1).trans rfl
                have hcz46_2 : wc.cell? ⟨gb192, 2, none⟩ = some (.int .i64 a0_2) := (blk_cell BK192.out 2).trans rfl
                have hcz46_3 : wc.cell? ⟨gb192, 3, none⟩ = some (.int .i64 a0_3) := (blk_cell BK192.out 3).trans rfl
                have hcz46_4 : wc.cell? ⟨gb192, 4, none⟩ = some (.int .u32 a0_4) := (blk_cell BK192.out 4).trans rfl
                have hcz46_5 : wc.cell? ⟨gb192, 5, none⟩ = some (.slice A0_5 l0_5.length c0_5) := (blk_cell BK192.out 5).trans rfl
                have hfz46_0 := blk_frozen BK192.out 0
                have hfz46_1 := blk_frozen BK192.out 1
                have hfz46_2 := blk_frozen BK192.out 2
                have hfz46_3 := blk_frozen BK192.out 3
                have hfz46_4 := blk_frozen BK192.out 4
                have hfz46_5 := blk_frozen BK192.out 5
                go_wp2
                go_ret
                exact ⟨by first | rfl | (simp [errW_none, errW_some] <;> rfl) | (simp [*, errW_none, errW_some] <;> rfl), by repeat (first | (with_reducible first | exact HB.out | apply below_alloc | apply pw_below_drewN | apply below_drew1 | refine below_set ?_ GE192.out) | exact HB.out)⟩
            · rw [if_neg c41] at H
              have c41b0 : decide (0 ≤ a0_2) = false := decide_eq_false c41
              clear c41
              obtain rfl := Option.some.inj H
              have hcz47_0 : wc.cell? ⟨gb192, 0, none⟩ = some (.int .i64 a0_0) := (blk_cell BK192.out 0).trans rfl
              have hcz47_1 : wc.cell? ⟨gb192, 1, none⟩ = some (.int .i64 a0_1) := (blk_cell BK192.out 1).trans rfl
              have hcz47_2 : wc.cell? ⟨gb192, 2, none⟩ = some (.int .i64 a0_2) := (blk_cell BK192.out 2).trans rfl
              have hcz47_3 : wc.cell? ⟨gb192, 3, none⟩ = some (.int .i64 a0_3) := (blk_cell BK192.out 3).trans rfl
              have hcz47_4 : wc.cell? ⟨gb192, 4, none⟩ = some (.int .u32 a0_4) := (blk_cell BK192.out 4).trans rfl
              have hcz47_5 : wc.cell? ⟨gb192, 5, none⟩ = some (.slice A0_5 l0_5.length c0_5) := (blk_cell BK192.out 5).trans rfl
              have hfz47_0 := blk_frozen BK192.out 0
              have hfz47_1 := blk_frozen BK192.out 1
              have hfz47_2 := blk_frozen BK192.out 2
              have hfz47_3 := blk_frozen BK192.out 3
              have hfz47_4 := blk_frozen BK192.out 4
              have hfz47_5 := blk_frozen BK192.out 5
              go_wp2
              go_ret
              exact ⟨by first | rfl | (simp [errW_none, errW_some] <;> rfl) | (simp [*, errW_none, errW_some] <;> rfl), by repeat (first | (with_reducible first | exact HB.out | apply below_alloc | apply pw_below_drewN | apply below_drew1 | refine below_set ?_ GE192.out) | exact HB.out)⟩
          · rw [if_neg c40] at H
            have c40b0 : (a0_0 == 2) = false := beq_eq_false_iff_ne.mpr c40
            have c40b1 : (a0_0 != 2) = true := bne_iff_ne.mpr c40
            by_cases c48 : a0_0 = 3
            · rw [if_pos c48] at H
              have c48b0 : (a0_0 == 3) = true := beq_iff_eq.mpr c48
              have c48b1 : (a0_0 != 3) = false := bne_eq_false_iff_eq.mpr c48
              clear c48
              by_cases c49 : a0_2 ≥ 0
              · rw [if_pos c49] at H
                have c49b0 : decide (0 ≤ a0_2) = true := decide_eq_true c49
                clear c49
                obtain rfl := Option.some.inj H
                have hcz50_0 : wc.cell? ⟨gb192, 0, none⟩ = some (.int .i64 a0_0) := (blk_cell BK192.out 0).trans rfl
                have hcz50_1 : wc.cell? ⟨gb192, 1, none⟩ = some (.int .i64 a0_1) := (blk_cell BK192.out 1).trans rfl
                have hcz50_2 : wc.cell? ⟨gb192, 2, none⟩ = some (.int .i64 a0_2) := (blk_cell BK192.out 2).trans rfl
                have hcz50_3 : wc.cell? ⟨gb192, 3, none⟩ = some (.int .i64 a0_3) := (blk_cell BK192.out 3).trans rfl
                have hcz50_4 : wc.cell? ⟨gb192, 4, none⟩ = some (.int .u32 a0_4) := (blk_cell BK192.out 4).trans rfl
                have hcz50_5 : wc.cell? ⟨gb192, 5, none⟩ = some (.slice A0_5 l0_5.length c0_5) := (blk_cell BK192.out 5).trans rfl
                have hfz50_0 := blk_frozen BK192.out 0
                have hfz50_1 := blk_frozen BK192.out 1
                have hfz50_2 := blk_frozen BK192.out 2
                have hfz50_3 := blk_frozen BK192.out 3
                have hfz50_4 := blk_frozen BK192.out 4
                have hfz50_5 := blk_frozen BK192.out 5
                go_wp2
                go_ret
                exact ⟨by first | rfl | (simp [errW_none, errW_some] <;> rfl) | (simp [*, errW_none, errW_some] <;> rfl), by repeat (first | (with_reducible first | exact HB.out | apply below_alloc | apply pw_below_drewN | apply below_drew1 | refine below_set ?_ GE192.out) | exact HB.out)⟩
              · rw [if_neg c49] at H
                have c49b0 : decide (0 ≤ a0_2) = false := decide_eq_false c49
                clear c49
                obtain rfl := Option.some.inj H
                have hcz51_0 : wc.cell? ⟨gb192, 0, none⟩ = some (.int .i64 a0_0) := (blk_cell BK192.out 0).trans rfl
                have hcz51_1 : wc.cell? ⟨gb192, 1, none⟩ = some (.int .i64 a0_1) := (blk_cell BK192.out 1).trans rfl
                have hcz51_2 : wc.cell? ⟨gb192, 2, none⟩ = some (.int .i64 a0_2) := (blk_cell BK192.out 2).trans rfl
                have hcz51_3 : wc.cell? ⟨gb192, 3, none⟩ = some (.int .i64 a0_3) := (blk_cell BK192.out 3).trans rfl
                have hcz51_4 : wc.cell? ⟨gb192, 4, none⟩ = some (.int .u32 a0_4) := (blk_cell BK192.out 4).trans rfl
                have hcz51_5 : wc.cell? ⟨gb192, 5, none⟩ = some (.slice A0_5 l0_5.length c0_5) := (blk_cell BK192.out 5).trans rfl
                have hfz51_0 := blk_frozen BK192.out 0
                have hfz51_1 := blk_frozen BK192.out 1
                have hfz51_2 := blk_frozen BK192.out 2
                have hfz51_3 := blk_frozen BK192.out 3
                have hfz51_4 := blk_frozen BK192.out 4
                have hfz51_5 := blk_frozen BK192.out 5
                go_wp2
                go_ret
                exact ⟨by first | rfl | (simp [errW_none, errW_some] <;> rfl) | (simp [*, errW_none, errW_some] <;> rfl), by repeat (first | (with_reducible first | exact HB.out | apply below_alloc | apply pw_below_drewN | apply below_drew1 | refine below_set ?_ GE192.out) | exact HB.out)⟩
            · rw [if_neg c48] at H
              have c48b0 : (a0_0 == 3) = false := beq_eq_false_iff_ne.mpr c48
              have c48b1 : (a0_0 != 3) = true := bne_iff_ne.mpr c48
              by_cases c52 : a0_0 = 4
              · rw [if_pos c52] at H
                have c52b0 : (a0_0 == 4) = true := beq_iff_eq.mpr c52
                have c52b1 : (a0_0 != 4) = false := bne_eq_false_iff_eq.mpr c52
                clear c52
                by_cases c53 : (l0_5.length : Int) ≥ 1
                · rw [if_pos c53] at H
                  have c53b0 : decide (1 ≤ (l0_5.length : Int)) = true := decide_eq_true c53
                  have c53b1 : decide (1 ≤ l0_5.length) = true := decide_eq_true (by omega)
                  clear c53
                  obtain rfl := Option.some.inj H
                  have hcz54_0 : wc.cell? ⟨gb192, 0, none⟩ = some (.int .i64 a0_0) := (blk_cell BK192.out 0).trans rfl
                  have hcz54_1 : wc.cell? ⟨gb192, 1, none⟩ = some (.int .i64 a0_1) := (blk_cell BK192.out 1).trans rfl
                  have hcz54_2 : wc.cell? ⟨gb192, 2, none⟩ = some (.int .i64 a0_2) := (blk_cell BK192.out 2).trans rfl
                  have hcz54_3 : wc.cell? ⟨gb192, 3, none⟩ = some (.int .i64 a0_3) := (blk_cell BK192.out 3).trans rfl
                  have hcz54_4 : wc.cell? ⟨gb192, 4, none⟩ = some (.int .u32 a0_4) := (blk_cell BK192.out 4).trans rfl
                  have hcz54_5 : wc.cell? ⟨gb192, 5, none⟩ = some (.slice A0_5 l0_5.length c0_5) := (blk_cell BK192.out 5).trans rfl
                  have hfz54_0 := blk_frozen BK192.out 0
                  have hfz54_1 := blk_frozen BK192.out 1
                  have hfz54_2 := blk_frozen BK192.out 2
                  have hfz54_3 := blk_frozen BK192.out 3
                  have hfz54_4 := blk_frozen BK192.out 4
                  have hfz54_5 := blk_frozen BK192.out 5
                  go_wp2
                  go_ret
                  exact ⟨by first | rfl | (simp [errW_none, errW_some] <;> rfl) | (simp [*, errW_none, errW_some] <;> rfl), by repeat (first | (with_reducible first | exact HB.out | apply below_alloc | apply pw_below_drewN | apply below_drew1 | refine below_set ?_ GE192.out) | exact HB.out)⟩
                · rw [if_neg c53] at H
                  have c53b0 : decide (1 ≤ (l0_5.length : Int)) = false := decide_eq_false c53
                  have c53b1 : decide (1 ≤ l0_5.length) = false := decide_eq_false (by omega)
                  clear c53
                  obtain rfl := Option.some.inj H
                  have hcz55_0 : wc.cell? ⟨gb192, 0, none⟩ = some (.int .i64 a0_0) := (blk_cell BK192.out 0).trans rfl
                  have hcz55_1 : wc.cell? ⟨gb192, 1, none⟩ = some (.int .i64 a0_1) := (blk_cell BK192.out 1).trans rfl
                  have hcz55_2 : wc.cell? ⟨gb192, 2, none⟩ = some (.int .i64 a0_2) := (blk_cell BK192.out 2).trans rfl
                  have hcz55_3 : wc.cell? ⟨gb192, 3, none⟩ = some (.int .i64 a0_3) := (blk_cell BK192.out 3).trans rfl
                  have hcz55_4 : wc.cell? ⟨gb192, 4, none⟩ = some (.int .u32 a0_4) := (blk_cell BK192.out 4).trans rfl
                  have hcz55_5 : wc.cell? ⟨gb192, 5, none⟩ = some (.slice A0_5 l0_5.length c0_5) := (blk_cell BK192.out 5).trans rfl
                  have hfz55_0 := blk_frozen BK192.out 0
                  have hfz55_1 := blk_frozen BK192.out 1
                  have hfz55_2 := blk_frozen BK192.out 2
                  have hfz55_3 := blk_frozen BK192.out 3
                  have hfz55_4 := blk_frozen BK192.out 4
                  have hfz55_5 := blk_frozen BK192.out 5
                  go_wp2
                  go_ret
                  exact ⟨by first | rfl | (simp [errW_none, errW_some] <;> rfl) | (simp [*, errW_none, errW_some] <;> rfl), by repeat (first | (with_reducible first | exact HB.out | apply below_alloc | apply pw_below_drewN | apply below_drew1 | refine below_set ?_ GE192.out) | exact HB.out)⟩
              · rw [if_neg c52] at H
                have c52b0 : (a0_0 == 4) = false := beq_eq_false_iff_ne.mpr c52
                have c52b1 : (a0_0 != 4) = true := bne_iff_ne.mpr c52
                obtain rfl := Option.some.inj H
                have hcz56_0 : wc.cell? ⟨gb192, 0, none⟩ = some (.int .i64 a0_0) := (blk_cell BK192.out 0).trans rfl
                have hcz56_1 : wc.cell? ⟨gb192, 1, none⟩ = some (.int .i64 a0_1) := (blk_cell BK192.out 1).trans rfl
                have hcz56_2 : wc.cell? ⟨gb192, 2, none⟩ = some (.int .i64 a0_2) := (blk_cell BK192.out 2).trans rfl
                have hcz56_3 : wc.cell? ⟨gb192, 3, none⟩ = some (.int .i64 a0_3) := (blk_cell BK192.out 3).trans rfl
                have hcz56_4 : wc.cell? ⟨gb192, 4, none⟩ = some (.int .u32 a0_4) := (blk_cell BK192.out 4).trans rfl
                have hcz56_5 : wc.cell? ⟨gb192, 5, none⟩ = some (.slice A0_5 l0_5.length c0_5) := (blk_cell BK192.out 5).trans rfl
                have hfz56_0 := blk_frozen BK192.out 0
                have hfz56_1 := blk_frozen BK192.out 1
                have hfz56_2 := blk_frozen BK192.out 2
                have hfz56_3 := blk_frozen BK192.out 3
                have hfz56_4 := blk_frozen BK192.out 4
                have hfz56_5 := blk_frozen BK192.out 5
                go_wp2
                go_ret
                exact ⟨by first | rfl | (simp [errW_none, errW_some] <;> rfl) | (simp [*, errW_none, errW_some] <;> rfl), by repeat (first | (with_reducible first | exact HB.out | apply below_alloc | apply pw_below_drewN | apply below_drew1 | refine below_set ?_ GE192.out) | exact HB.out)⟩

end Go.Proofs.Yticpcjjgdkbcjaa.G
end

section
-- Written by a program of this session (wip/tools/myprint.py), over the kit's print.
namespace Go.Proofs.Yticpcjjgdkbcjaa.G
open Go.RowKit Go.Proofs.YticpcjjgdkbcjaaW.PrintWords Go.Proofs.YticpcjjgdkbcjaaW.PrintLast Go.Proofs.YticpcjjgdkbcjaaW.PrintMore
attribute [local go_sem] max2_int min2_int max_two min_two max_three min_three max_four min_four   -- for this text's walks alone
set_option linter.unusedVariables false
set_option linter.unusedSimpArgs false

/-! ### rosetteref01_Low: function 46 -/
def rosetteref01_Low.f (a0 : Int) : Option (List Int) := some (([(a0) % 256, ((Int.tdiv a0 256) % 4294967296) % 256, ((Int.tdiv a0 65536) % 4294967296) % 256, ((Int.tdiv a0 16777216) % 4294967296) % 256] : List Int))
set_option maxHeartbeats 8000000 in
set_option maxRecDepth 100000 in
theorem rosetteref01_Low.calls (a0 : Int) (r : List Int) (w : World) (h : rosetteref01_Low.f a0 = some r) :
    Calls Try.prog 46 #[.int .u32 a0] w fun e w' => ∃ v0_ : Value, e = .returned (v0_) ∧ Kd.R (Kd.int .u8) 5 w' w.heap.size (fun _ => True) v0_ r ∧ Below w.heap.size w w' := by
  have HB := Aside0.mk (Below.refl w.heap.size w)
  have H : (some (([(a0) % 256, ((Int.tdiv a0 256) % 4294967296) % 256, ((Int.tdiv a0 65536) % 4294967296) % 256, ((Int.tdiv a0 16777216) % 4294967296) % 256] : List Int))) = some r := h
  clear h
  obtain ⟨y161, hy161⟩ : ∃ y_ : List Int, y_ = (([(a0) % 256, ((Int.tdiv a0 256) % 4294967296) % 256, ((Int.tdiv a0 65536) % 4294967296) % 256, ((Int.tdiv a0 16777216) % 4294967296) % 256] : List Int)) := ⟨_, rfl⟩
  replace H : (some y161) = some r := by first | (rw [hy161]; with_reducible exact H) | (have H2_ := (Option.bind_some _ _).symm.trans H; rw [hy161]; with_reducible exact H2_) | (have H2_ := (Option.bind_some _ _).symm.trans H; with_reducible exact H2_) | with_reducible exact H | (rw [hy161]; exact H) | exact H
  have Ny161 := Aside0.mk hy161
  clear hy161
  obtain rfl := Option.some.inj H
  go_enter Try.func46, Try.ntmps46
  go_wp2_with (first | ((with_reducible refine gate_dst (N := 14) rfl ?_); refine Kd.R_lit (Kd.int .u8) _ 5 ?hg (N := 14) ?hd (xs := ([(a0) % 256, ((Int.tdiv a0 256) % 4294967296) % 256, ((Int.tdiv a0 65536) % 4294967296) % 256, ((Int.tdiv a0 16777216) % 4294967296) % 256] : List Int)) (inner := [.int .u8 ((a0) % 256), .int .u8 (((Int.tdiv a0 256) % 4294967296) % 256), .int .u8 (((Int.tdiv a0 65536) % 4294967296) % 256), .int .u8 (((Int.tdiv a0 16777216) % 4294967296) % 256)]) (ok := fun _ => True) (okp := fun _ => True) ?hr ?hp (fun _ hk => hk) trivial (Below.refl _ _) (Nat.le_refl _) (by simp) ?_; (case hd => rfl); (case hg => rfl); (case hr => first | (go_simp; done) | (go_simp; rfl)); (case hp => exact (Reps.one (show Kd.M (Kd.int .u8) _ _ _ ((a0) % 256) [.int .u8 ((a0) % 256)] from rfl) (Reps.one (show Kd.M (Kd.int .u8) _ _ _ (((Int.tdiv a0 256) % 4294967296) % 256) [.int .u8 (((Int.tdiv a0 256) % 4294967296) % 256)] from rfl) (Reps.one (show Kd.M (Kd.int .u8) _ _ _ (((Int.tdiv a0 65536) % 4294967296) % 256) [.int .u8 (((Int.tdiv a0 65536) % 4294967296) % 256)] from rfl) (Reps.one (show Kd.M (Kd.int .u8) _ _ _ (((Int.tdiv a0 16777216) % 4294967296) % 256) [.int .u8 (((Int.tdiv a0 16777216) % 4294967296) % 256)] from rfl) (Reps.none _ _)))))); intro v162 w2 ho3 hb hg_ hnew_; clear hg_ hnew_; (first | rw [← Ny161.out] at ho3 | (simp only [Int.reduceToNat] at ho3; rw [← Ny161.out] at ho3)); have n0_ := Aside0.mk (Kd.R_lower ho3 (below_size (by repeat (first | (with_reducible first | exact HB.out | apply below_alloc | apply pw_below_drewN | apply below_drew1) | exact HB.out)))); have n1_ := Aside0.mk (below_step (by repeat (first | (with_reducible first | exact HB.out | apply below_alloc | apply pw_below_drewN | apply below_drew1) | exact HB.out)) hb); clear HB; have HO163 := n0_; have HB := n1_; clear n0_ n1_; clear hb ho3))
  go_ret
  exact ⟨_, by first | rfl | (simp [errW_none, errW_some] <;> rfl) | (simp [*, errW_none, errW_some] <;> rfl), by (with_reducible repeat (first | apply Kd.R_alloc | apply Kd.R_drewN | apply Kd.R_drew)); exact HO163.out, by repeat (first | (with_reducible first | exact HB.out | apply below_alloc | apply pw_below_drewN | apply below_drew1) | exact HB.out)⟩

end Go.Proofs.Yticpcjjgdkbcjaa.G
end

section
-- Written by a program of this session (wip/tools/myprint.py), over the kit's print.
namespace Go.Proofs.Yticpcjjgdkbcjaa.G
open Go.RowKit Go.Proofs.YticpcjjgdkbcjaaW.PrintWords Go.Proofs.YticpcjjgdkbcjaaW.PrintLast Go.Proofs.YticpcjjgdkbcjaaW.PrintMore
attribute [local go_sem] max2_int min2_int max_two min_two max_three min_three max_four min_four   -- for this text's walks alone
set_option linter.unusedVariables false
set_option linter.unusedSimpArgs false

/-! ### rosetteref01_turned: function 55 -/
def rosetteref01_turned.l0 : Nat → Int → Int → Option (Int)
  | 0, _, _ => none
  | k + 1, x0, x3 => if x3 < 8 then (if (Int.tmod x0 2) = 1 then (rosetteref01_turned.l0 k (Go.bits .xor .u32 ((Int.tdiv x0 2) % 4294967296) 3988292384) (wrap64 (x3 + 1))) else (rosetteref01_turned.l0 k ((Int.tdiv x0 2) % 4294967296) (wrap64 (x3 + 1)))) else (some x0)
def rosetteref01_turned.f (k : Nat) (a0 : Int) : Option (Int) := rosetteref01_turned.l0 k a0 0
theorem rosetteref01_turned.mono_l : ∀ k, (∀ y0 y1, LeO (rosetteref01_turned.l0 k y0 y1) (rosetteref01_turned.l0 (k + 1) y0 y1))
  | 0 => fun _ _ r h => by simp [rosetteref01_turned.l0] at h
  | k + 1 => by
    have ih0 := rosetteref01_turned.mono_l k
    · intro y0 y1
      unfold rosetteref01_turned.l0
      repeat' first
      | (with_reducible exact ih0 _ _)
      | (with_reducible exact LeO.refl _)
      | (with_reducible exact LeO.none _)
      | (with_reducible refine LeO.ite ?_ ?_)
      | (with_reducible refine LeO.bind ?_ (fun _ => ?_))
      | exact ih0 _ _
      | exact LeO.none _
      | refine LeO.ite ?_ ?_
      | refine LeO.bind ?_ (fun _ => ?_)
theorem rosetteref01_turned.mono : ∀ a0 k, LeO (rosetteref01_turned.f k a0) (rosetteref01_turned.f (k + 1) a0) := by
  intro a0 k
  have ih0 := rosetteref01_turned.mono_l k
  unfold rosetteref01_turned.f
  repeat' first
      | (with_reducible exact ih0 _ _)
      | (with_reducible exact LeO.refl _)
      | (with_reducible exact LeO.none _)
      | (with_reducible refine LeO.ite ?_ ?_)
      | (with_reducible refine LeO.bind ?_ (fun _ => ?_))
      | exact ih0 _ _
      | exact LeO.none _
      | refine LeO.ite ?_ ?_
      | refine LeO.bind ?_ (fun _ => ?_)
set_option maxHeartbeats 8000000 in
set_option maxRecDepth 100000 in
theorem rosetteref01_turned.calls (k : Nat) (a0 : Int) (r : Int) (w : World) (h : rosetteref01_turned.f k a0 = some r) :
    Calls Try.prog 55 #[.int .u32 a0] w fun e w' => e = .returned (.int .u32 r) ∧ Drawn0 w w' := by
  have H : (rosetteref01_turned.l0 k a0 0) = some r := h
  clear h
  have H' := Aside0.mk H
  clear H
  go_enter Try.func55, Try.ntmps55
  go_wp2
  go_loopg [0, 3] k (fun kq v0 v3 w' => ∃ (x0_1 : Int) (x3_1 : Int), v0 = .int .u32 x0_1 ∧ v3 = .int .i64 x3_1 ∧ Aside0 (rosetteref01_turned.l0 kq x0_1 x3_1 = some r) ∧ Aside0 (kq ≤ k) ∧ Drawn0 w w')
  case atStart => exact ⟨(a0), (0), (by first | rfl | (simp; done) | (simp [*]; done)), (by first | rfl | (simp; done) | (simp [*]; done)), H', ⟨Nat.le_refl _⟩, by repeat (first | exact Drawn0.refl _ | apply Drawn0.step)⟩
  case round =>
    clear H'
    obtain ⟨x0_1, x3_1, rfl, rfl, HA, HK1, ⟨m1, rfl⟩⟩ := hrel
    cases gk with
    | zero => exact absurd HA.out (by simp [rosetteref01_turned.l0])
    | succ k1 =>
      have H := HA.out
      clear HA
      simp only [rosetteref01_turned.l0] at H
      by_cases c2 : x3_1 < 8
      · rw [if_pos c2] at H
        have c2b0 : decide (x3_1 < 8) = true := decide_eq_true c2
        clear c2
        by_cases c3 : (Int.tmod x0_1 2) = 1
        · rw [if_pos c3] at H
          have c3b0 : ((Int.tmod x0_1 2) == 1) = true := beq_iff_eq.mpr c3
          have c3b1 : ((Int.tmod x0_1 2) != 1) = false := bne_eq_false_iff_eq.mpr c3
          clear c3
          have H' := Aside0.mk H
          clear H
          go_wp2
          go_roundg k1
          case measure => have := HK1.out; omega
          case rel => exact ⟨(Go.bits .xor .u32 ((Int.tdiv x0_1 2) % 4294967296) 3988292384), (wrap64 (x3_1 + 1)), (by first | rfl | (simp; done) | (simp [*]; done)), (by first | rfl | (simp; done) | (simp [*]; done)), H', ⟨by have := HK1.out; omega⟩, by repeat (first | exact Drawn0.refl _ | apply Drawn0.step)⟩
        · rw [if_neg c3] at H
          have c3b0 : ((Int.tmod x0_1 2) == 1) = false := beq_eq_false_iff_ne.mpr c3
          have c3b1 : ((Int.tmod x0_1 2) != 1) = true := bne_iff_ne.mpr c3
          have H' := Aside0.mk H
          clear H
          go_wp2
          go_roundg k1
          case measure => have := HK1.out; omega
          case rel => exact ⟨((Int.tdiv x0_1 2) % 4294967296), (wrap64 (x3_1 + 1)), (by first | rfl | (simp; done) | (simp [*]; done)), (by first | rfl | (simp; done) | (simp [*]; done)), H', ⟨by have := HK1.out; omega⟩, by repeat (first | exact Drawn0.refl _ | apply Drawn0.step)⟩
      · rw [if_neg c2] at H
        have c2b0 : decide (x3_1 < 8) = false := decide_eq_false c2
        clear c2
        obtain rfl := Option.some.inj H
        go_wp2
        go_ret
        exact ⟨by first | rfl | (simp; done) | (simp [*]; done), by repeat (first | exact Drawn0.refl _ | apply Drawn0.step)⟩

end Go.Proofs.Yticpcjjgdkbcjaa.G
end

section
-- Written by a program of this session (wip/tools/myprint.py), over the kit's print.
namespace Go.Proofs.Yticpcjjgdkbcjaa.G
open Go.RowKit Go.Proofs.YticpcjjgdkbcjaaW.PrintWords Go.Proofs.YticpcjjgdkbcjaaW.PrintLast Go.Proofs.YticpcjjgdkbcjaaW.PrintMore
attribute [local go_sem] max2_int min2_int max_two min_two max_three min_three max_four min_four   -- for this text's walks alone
set_option linter.unusedVariables false
set_option linter.unusedSimpArgs false

/-! ### rosetteref01_Add: function 53 -/
def rosetteref01_Add.l0 : Nat → List Int → Int → Int → Option (Int)
  | 0, _, _, _ => none
  | k + 1, x1, x5, x6 => if x6 < (x1.length : Int) then (if 0 ≤ x6 then ((rosetteref01_turned.f k (Go.bits .xor .u32 (Go.bits .and .u32 x5 255) ((rd x1 x6) % 4294967296))).bind fun t165 => (rosetteref01_Add.l0 k x1 (Go.bits .xor .u32 t165 ((Int.tdiv x5 256) % 4294967296)) (wrap64 (x6 + 1)))) else (none)) else (some (Go.bits .xor .u32 x5 4294967295))
def rosetteref01_Add.f (k : Nat) (a0 : Int) (l1 : List Int) : Option (Int) := rosetteref01_Add.l0 k l1 (Go.bits .xor .u32 a0 4294967295) 0
theorem rosetteref01_Add.mono_l : ∀ k, (∀ y0 y1 y2, LeO (rosetteref01_Add.l0 k y0 y1 y2) (rosetteref01_Add.l0 (k + 1) y0 y1 y2))
  | 0 => fun _ _ _ r h => by simp [rosetteref01_Add.l0] at h
  | k + 1 => by
    have ih0 := rosetteref01_Add.mono_l k
    · intro y0 y1 y2
      unfold rosetteref01_Add.l0
      repeat' first
      | (with_reducible exact ih0 _ _ _)
      | (with_reducible exact rosetteref01_turned.mono _ _)
      | (with_reducible exact LeO.refl _)
      | (with_reducible exact LeO.none _)
      | (with_reducible refine LeO.ite ?_ ?_)
      | (with_reducible refine LeO.bind ?_ (fun _ => ?_))
      | exact ih0 _ _ _
      | exact rosetteref01_turned.mono _ _
      | exact LeO.none _
      | refine LeO.ite ?_ ?_
      | refine LeO.bind ?_ (fun _ => ?_)
theorem rosetteref01_Add.mono : ∀ a0 a1 k, LeO (rosetteref01_Add.f k a0 a1) (rosetteref01_Add.f (k + 1) a0 a1) := by
  intro a0 a1 k
  have ih0 := rosetteref01_Add.mono_l k
  unfold rosetteref01_Add.f
  repeat' first
      | (with_reducible exact ih0 _ _ _)
      | (with_reducible exact rosetteref01_turned.mono _ _)
      | (with_reducible exact LeO.refl _)
      | (with_reducible exact LeO.none _)
      | (with_reducible refine LeO.ite ?_ ?_)
      | (with_reducible refine LeO.bind ?_ (fun _ => ?_))
      | exact ih0 _ _ _
      | exact rosetteref01_turned.mono _ _
      | exact LeO.none _
      | refine LeO.ite ?_ ?_
      | refine LeO.bind ?_ (fun _ => ?_)
set_option maxHeartbeats 8000000 in
set_option maxRecDepth 100000 in
theorem rosetteref01_Add.calls (k : Nat) (a0 : Int) (A1 : Option Addr) (c1 : Nat) (l1 : List Int) (r : Int) (w : World) (hr1 : Kd.C (Kd.int .u8) w A1 l1.length l1) (hc1 : l1.length ≤ c1) (h : rosetteref01_Add.f k a0 l1 = some r) :
    Calls Try.prog 53 #[.int .u32 a0, .slice A1 l1.length c1] w fun e w' => e = .returned (.int .u32 r) ∧ Drawn0 w w' := by
  have HR1 := Aside0.mk hr1
  have HC1 := Aside0.mk hc1
  clear hr1 hc1
  have H : (rosetteref01_Add.l0 k l1 (Go.bits .xor .u32 a0 4294967295) 0) = some r := h
  clear h
  have H' := Aside0.mk H
  clear H
  go_enter Try.func53, Try.ntmps53
  go_wp2
  go_loopg [5, 6] k (fun kq v5 v6 w' => ∃ (x5_1 : Int) (x6_1 : Int), v5 = .int .u32 x5_1 ∧ v6 = .int .i64 x6_1 ∧ Aside0 (rosetteref01_Add.l0 kq l1 x5_1 x6_1 = some r) ∧ Aside0 (kq ≤ k) ∧ Drawn0 w w')
  case atStart => exact ⟨(Go.bits .xor .u32 a0 4294967295), (0), (by first | rfl | (simp; done) | (simp [*]; done)), (by first | rfl | (simp; done) | (simp [*]; done)), H', ⟨Nat.le_refl _⟩, by repeat (first | exact Drawn0.refl _ | apply Drawn0.step)⟩
  case round =>
    clear H'
    try clear c1
    try clear p2
    obtain ⟨x5_1, x6_1, rfl, rfl, HA, HK1, ⟨m1, rfl⟩⟩ := hrel
    cases gk with
    | zero => exact absurd HA.out (by simp [rosetteref01_Add.l0])
    | succ k1 =>
      have H := HA.out
      clear HA
      simp only [rosetteref01_Add.l0] at H
      by_cases c3 : x6_1 < (l1.length : Int)
      · rw [if_pos c3] at H
        have c3b0 : decide (x6_1 < (l1.length : Int)) = true := decide_eq_true c3
        clear c3
        by_cases c4 : 0 ≤ x6_1
        · rw [if_pos c4] at H
          have c4b0 : decide (0 ≤ x6_1) = true := decide_eq_true c4
          clear c4
          replace H := Option.bind_eq_some_iff.mp H
          obtain ⟨t165, A50, H⟩ := H
          replace H : (rosetteref01_Add.l0 k1 l1 (Go.bits .xor .u32 t165 ((Int.tdiv x5_1 256) % 4294967296)) (wrap64 (x6_1 + 1))) = some r := H
          have A5 := Aside0.mk A50
          clear A50
          have H' := Aside0.mk H
          clear H
          have p164 : 0 ≤ (x6_1 : Int) := of_decide_eq_true (by first | (with_reducible assumption) | assumption)
          have q164 : x6_1 < (l1.length : Int) := of_decide_eq_true (by first | (with_reducible assumption) | assumption)
          obtain ⟨ad164, e164, hx164_0⟩ := Kd.at_int HR1.out x6_1 p164 q164
          cases e164
          replace p164 := eq_true p164
          replace q164 := eq_true q164
          go_wp2_with (first | ((with_reducible refine gate_callee (f := 55) rfl ?_); refine goesL_ (some 23) rfl rfl Try.func55 (by kernel_rfl) rfl #[.int .u32 (Go.bits .xor .u32 (Go.bits .and .u32 x5_1 255) ((rd l1 x6_1) % 4294967296))] rfl (by (try simp only [List.map_toArray, List.map_cons, List.map_nil]); first | done | rfl | (simp only [List.length_drop, List.length_take]; rfl)) ?_; (with_reducible refine (rosetteref01_turned.calls k1 (Go.bits .xor .u32 (Go.bits .and .u32 x5_1 255) ((rd l1 x6_1) % 4294967296)) t165 _ A5.out).mono ?_); rintro e w' ⟨rfl, ⟨nd, rfl⟩⟩; refine ⟨_, rfl, ?_⟩))
          go_roundg k1
          case measure => have := HK1.out; omega
          case rel => exact ⟨(Go.bits .xor .u32 t165 ((Int.tdiv x5_1 256) % 4294967296)), (wrap64 (x6_1 + 1)), (by first | rfl | (simp; done) | (simp [*]; done)), (by first | rfl | (simp; done) | (simp [*]; done)), H', ⟨by have := HK1.out; omega⟩, by repeat (first | exact Drawn0.refl _ | apply Drawn0.step)⟩
        · rw [if_neg c4] at H
          exact absurd H (by simp)
      · rw [if_neg c3] at H
        have c3b0 : decide (x6_1 < (l1.length : Int)) = false := decide_eq_false c3
        clear c3
        obtain rfl := Option.some.inj H
        go_wp2
        go_ret
        exact ⟨by first | rfl | (simp; done) | (simp [*]; done), by repeat (first | exact Drawn0.refl _ | apply Drawn0.step)⟩

end Go.Proofs.Yticpcjjgdkbcjaa.G
end

section
-- Written by a program of this session (wip/tools/myprint.py), over the kit's print.
namespace Go.Proofs.Yticpcjjgdkbcjaa.G
open Go.RowKit Go.Proofs.YticpcjjgdkbcjaaW.PrintWords Go.Proofs.YticpcjjgdkbcjaaW.PrintLast Go.Proofs.YticpcjjgdkbcjaaW.PrintMore
attribute [local go_sem] max2_int min2_int max_two min_two max_three min_three max_four min_four   -- for this text's walks alone
set_option linter.unusedVariables false
set_option linter.unusedSimpArgs false

/-! ### rosetteref01_Sum: function 47 -/
def rosetteref01_Sum.f (k : Nat) (l0 : List Int) : Option (Int) := (rosetteref01_Add.f k 0 l0).bind fun t166 => (some t166)
theorem rosetteref01_Sum.mono : ∀ a0 k, LeO (rosetteref01_Sum.f k a0) (rosetteref01_Sum.f (k + 1) a0) := by
  intro a0 k
  unfold rosetteref01_Sum.f
  repeat' first
      | (with_reducible exact rosetteref01_Add.mono _ _ _)
      | (with_reducible exact LeO.refl _)
      | (with_reducible exact LeO.none _)
      | (with_reducible refine LeO.ite ?_ ?_)
      | (with_reducible refine LeO.bind ?_ (fun _ => ?_))
      | exact rosetteref01_Add.mono _ _ _
      | exact LeO.none _
      | refine LeO.ite ?_ ?_
      | refine LeO.bind ?_ (fun _ => ?_)
set_option maxHeartbeats 8000000 in
set_option maxRecDepth 100000 in
theorem rosetteref01_Sum.calls (k : Nat) (A0 : Option Addr) (c0 : Nat) (l0 : List Int) (r : Int) (w : World) (hr0 : Kd.C (Kd.int .u8) w A0 l0.length l0) (hc0 : l0.length ≤ c0) (h : rosetteref01_Sum.f k l0 = some r) :
    Calls Try.prog 47 #[.slice A0 l0.length c0] w fun e w' => e = .returned (.int .u32 r) ∧ Drawn0 w w' := by
  have HR0 := Aside0.mk hr0
  have HC0 := Aside0.mk hc0
  clear hr0 hc0
  have H : ((rosetteref01_Add.f k 0 l0).bind fun t166 => (some t166)) = some r := h
  clear h
  replace H := Option.bind_eq_some_iff.mp H
  obtain ⟨t166, A20, H⟩ := H
  replace H : (some t166) = some r := H
  have A2 := Aside0.mk A20
  clear A20
  obtain rfl := Option.some.inj H
  go_enter Try.func47, Try.ntmps47
  go_wp2_with (first | ((with_reducible refine gate_callee (f := 53) rfl ?_); refine goesL_ (some 4) rfl rfl Try.func53 (by kernel_rfl) rfl #[.int .u32 0, .slice A0 l0.length c0] rfl (by (try simp only [List.map_toArray, List.map_cons, List.map_nil]); first | done | rfl | (simp only [List.length_drop, List.length_take]; rfl)) ?_; (with_reducible refine (rosetteref01_Add.calls k 0 _ _ l0 t166 _ ?side1 ?side2 A2.out).mono ?_); (case side1 => repeat (first | exact HR0.out | (with_reducible refine Kd.C_alloc ?_ _) | (with_reducible refine Kd.C_drewN ?_ _) | (with_reducible refine Kd.C_drew ?_))); (case side2 => exact HC0.out); rintro e w' ⟨rfl, ⟨nd, rfl⟩⟩; refine ⟨_, rfl, ?_⟩))
  go_ret
  exact ⟨by first | rfl | (simp; done) | (simp [*]; done), by repeat (first | exact Drawn0.refl _ | apply Drawn0.step)⟩

end Go.Proofs.Yticpcjjgdkbcjaa.G
end

section
-- Written by a program of this session (wip/tools/myprint.py), over the kit's print.
namespace Go.Proofs.Yticpcjjgdkbcjaa.G
open Go.RowKit Go.Proofs.YticpcjjgdkbcjaaW.PrintWords Go.Proofs.YticpcjjgdkbcjaaW.PrintLast Go.Proofs.YticpcjjgdkbcjaaW.PrintMore
attribute [local go_sem] max2_int min2_int max_two min_two max_three min_three max_four min_four   -- for this text's walks alone
set_option linter.unusedVariables false
set_option linter.unusedSimpArgs false

/-! ### rosetteref01_Open: function 44 -/
def rosetteref01_Open.f (k : Nat) (l0 : List Int) : Option (List Int × Bool) := if (wrap64 ((l0.length : Int) - 4)) < 0 then (some (([] : List Int), false)) else (if 0 ≤ (wrap64 ((l0.length : Int) - 4)) then (if (wrap64 ((l0.length : Int) - 4)) ≤ (l0.length : Int) then ((rosetteref01_Sum.f k (l0.take ((wrap64 ((l0.length : Int) - 4)) : Int).toNat)).bind fun t242 => ((rosetteref01_Low.f t242).bind fun t243 => (if (strOfNums t243).toList = (strOfNums (l0.drop ((wrap64 ((l0.length : Int) - 4)) : Int).toNat)).toList then ((some (([] : List Int) : List Int)).bind fun y247 => (if y247.length + (l0.take ((wrap64 ((l0.length : Int) - 4)) : Int).toNat).length < 140737488355328 then (some ((y247 ++ (l0.take ((wrap64 ((l0.length : Int) - 4)) : Int).toNat)), true)) else (none))) else (some (([] : List Int), false))))) else (none)) else (none))
theorem rosetteref01_Open.mono : ∀ a0 k, LeO (rosetteref01_Open.f k a0) (rosetteref01_Open.f (k + 1) a0) := by
  intro a0 k
  unfold rosetteref01_Open.f
  repeat' first
      | (with_reducible exact rosetteref01_Sum.mono _ _)
      | (with_reducible exact LeO.refl _)
      | (with_reducible exact LeO.none _)
      | (with_reducible refine LeO.ite ?_ ?_)
      | (with_reducible refine LeO.bind ?_ (fun _ => ?_))
      | exact rosetteref01_Sum.mono _ _
      | exact LeO.none _
      | refine LeO.ite ?_ ?_
      | refine LeO.bind ?_ (fun _ => ?_)
def rosetteref01_Open.T2 : Bool × List (List Nat × List Nat) := (true, [([], []), ([0], [0]), ([1], [1]), ([2], [2]), ([2], [2]), ([3, 4, 2], [2, 3, 4]), ([5, 2, 2], [2, 5]), ([6, 6, 2], [2, 6]), ([7, 2], [2, 7]), ([2], [2]), ([2], [2]), ([9, 10, 2], [2, 9, 10]), ([11, 2], [2, 11]), ([8, 12, 2], [2, 8, 12]), ([2, 13], [2, 13])])
def rosetteref01_Open.B2 : List Nat := [0, 1, 3, 7, 7, 31, 63, 127, 255, 7, 7, 1543, 3591, 8191, 16383]
theorem rosetteref01_Open.tab2 : rtab .any (opsOf Try.f44 2) = rosetteref01_Open.T2 := by kernel_rfl
theorem rosetteref01_Open.bits2 : waitsOk rosetteref01_Open.T2.2 rosetteref01_Open.B2 = true := by kernel_rfl
set_option maxHeartbeats 8000000 in
set_option maxRecDepth 100000 in
theorem rosetteref01_Open.calls (k : Nat) (A0 : Option Addr) (c0 : Nat) (l0 : List Int) (r1 : List Int) (r2 : Bool) (w : World) (hr0 : Kd.C (Kd.int .u8) w A0 l0.length l0) (hc0 : l0.length ≤ c0) (h : rosetteref01_Open.f k l0 = some (r1, r2)) :
    Calls Try.prog 44 #[.slice A0 l0.length c0] w fun e w' => ∃ v0_ : Value, e = .returned (.tuple #[v0_, .bool r2]) ∧ Kd.R (Kd.int .u8) 5 w' w.heap.size (fun _ => True) v0_ r1 ∧ Below w.heap.size w w' := by
  have HR0 := Aside0.mk hr0
  have HC0 := Aside0.mk hc0
  clear hr0 hc0
  have HB := Aside0.mk (Below.refl w.heap.size w)
  have H : (if (wrap64 ((l0.length : Int) - 4)) < 0 then (some (([] : List Int), false)) else (if 0 ≤ (wrap64 ((l0.length : Int) - 4)) then (if (wrap64 ((l0.length : Int) - 4)) ≤ (l0.length : Int) then ((rosetteref01_Sum.f k (l0.take ((wrap64 ((l0.length : Int) - 4)) : Int).toNat)).bind fun t242 => ((rosetteref01_Low.f t242).bind fun t243 => (if (strOfNums t243).toList = (strOfNums (l0.drop ((wrap64 ((l0.length : Int) - 4)) : Int).toNat)).toList then ((some (([] : List Int) : List Int)).bind fun y247 => (if y247.length + (l0.take ((wrap64 ((l0.length : Int) - 4)) : Int).toNat).length < 140737488355328 then (some ((y247 ++ (l0.take ((wrap64 ((l0.length : Int) - 4)) : Int).toNat)), true)) else (none))) else (some (([] : List Int), false))))) else (none)) else (none))) = some (r1, r2) := h
  clear h
  by_cases c2 : (wrap64 ((l0.length : Int) - 4)) < 0
  · rw [if_pos c2] at H
    have c2b0 : decide ((wrap64 ((l0.length : Int) - 4)) < 0) = true := decide_eq_true c2
    clear c2
    simp only [Option.some.injEq, Prod.mk.injEq] at H
    obtain ⟨rfl, rfl⟩ := H
    go_enter Try.func44, Try.ntmps44
    try go_wp2
    have n0_ := Aside0.mk (below_drew1 HB.out)
    clear HB
    have HB := n0_
    clear n0_
    refine start_ (n := 15) (S := fun w' => True) (ds := []) #[false, false, false, false, false, false, false, false, false, false, false, false, false, false, false] (by kernel_rfl) rfl rfl trivial (fun hHeld => ?_); refine with_tabW rosetteref01_Open.tab2 rosetteref01_Open.bits2 (fun HT_ HW_ => ?_)
    generalize w.drew = w3 at HB hHeld ⊢
    refine pure_ (i := 0) (N := some 8) (v := ?_) (a' := ?_) #[true, false, false, false, false, false, false, false, false, false, false, false, false, false, false] rfl rfl (any_of HT_.out (by kernel_rfl)) (fun _ _ _ h => h) (Or.inl ⟨by rfl, ?_⟩) ?_ ?_
    rotate_left
    · intro w'
      go_simp
      with_reducible rfl
    rotate_left
    · simp only [Act.put, List.setIfInBounds_toArray, List.set_cons_zero, List.set_cons_succ, i64_w, i32_w]
      rfl
    refine pure_ (i := 1) (N := some 9) (v := ?_) (a' := ?_) #[true, true, false, false, false, false, false, false, false, false, false, false, false, false, false] rfl rfl (any_of HT_.out (by kernel_rfl)) (fun _ _ _ h => h) (Or.inl ⟨by rfl, ?_⟩) ?_ ?_
    rotate_left
    · intro w'
      go_simp
      with_reducible rfl
    rotate_left
    · simp only [Act.put, List.setIfInBounds_toArray, List.set_cons_zero, List.set_cons_succ, i64_w, i32_w]
      rfl
    refine pure_ (i := 2) (N := some 10) (v := ?_) (a' := ?_) #[true, true, true, false, false, false, false, false, false, false, false, false, false, false, false] rfl rfl (any_of HT_.out (by kernel_rfl)) (fun _ _ _ h => h) (Or.inl ⟨by rfl, ?_⟩) ?_ ?_
    rotate_left
    · intro w'
      go_simp
      with_reducible rfl
    rotate_left
    · simp only [Act.put, List.setIfInBounds_toArray, List.set_cons_zero, List.set_cons_succ, i64_w, i32_w]
      rfl
    refine pure_ (i := 3) (N := some 11) (v := undef) (a' := ?_) #[true, true, true, true, false, false, false, false, false, false, false, false, false, false, false] rfl rfl (any_of HT_.out (by kernel_rfl)) (fun _ _ _ h => h) (Or.inr ⟨by rfl, rfl⟩) ?_ ?_
    rotate_left
    · simp only [Act.put, List.setIfInBounds_toArray, List.set_cons_zero, List.set_cons_succ, i64_w, i32_w]
      rfl
    refine pure_ (i := 4) (N := some 12) (v := undef) (a' := ?_) #[true, true, true, true, true, false, false, false, false, false, false, false, false, false, false] rfl rfl (any_of HT_.out (by kernel_rfl)) (fun _ _ _ h => h) (Or.inr ⟨by rfl, rfl⟩) ?_ ?_
    rotate_left
    · simp only [Act.put, List.setIfInBounds_toArray, List.set_cons_zero, List.set_cons_succ, i64_w, i32_w]
      rfl
    refine pure_ (i := 5) (N := some 13) (v := undef) (a' := ?_) #[true, true, true, true, true, true, false, false, false, false, false, false, false, false, false] rfl rfl (any_of HT_.out (by kernel_rfl)) (fun _ _ _ h => h) (Or.inr ⟨by rfl, rfl⟩) ?_ ?_
    rotate_left
    · simp only [Act.put, List.setIfInBounds_toArray, List.set_cons_zero, List.set_cons_succ, i64_w, i32_w]
      rfl
    refine pure_ (i := 6) (N := some 14) (v := undef) (a' := ?_) #[true, true, true, true, true, true, true, false, false, false, false, false, false, false, false] rfl rfl (any_of HT_.out (by kernel_rfl)) (fun _ _ _ h => h) (Or.inr ⟨by rfl, rfl⟩) ?_ ?_
    rotate_left
    · simp only [Act.put, List.setIfInBounds_toArray, List.set_cons_zero, List.set_cons_succ, i64_w, i32_w]
      rfl
    refine pure_ (i := 7) (N := some 15) (v := undef) (a' := ?_) #[true, true, true, true, true, true, true, true, false, false, false, false, false, false, false] rfl rfl (any_of HT_.out (by kernel_rfl)) (fun _ _ _ h => h) (Or.inr ⟨by rfl, rfl⟩) ?_ ?_
    rotate_left
    · simp only [Act.put, List.setIfInBounds_toArray, List.set_cons_zero, List.set_cons_succ, i64_w, i32_w]
      rfl
    refine pure_ (i := 8) (N := some 16) (v := undef) (a' := ?_) #[true, true, true, true, true, true, true, true, true, false, false, false, false, false, false] rfl rfl (any_of HT_.out (by kernel_rfl)) (fun _ _ _ h => h) (Or.inr ⟨by rfl, rfl⟩) ?_ ?_
    rotate_left
    · simp only [Act.put, List.setIfInBounds_toArray, List.set_cons_zero, List.set_cons_succ, i64_w, i32_w]
      rfl
    refine pure_ (i := 9) (N := some 17) (v := undef) (a' := ?_) #[true, true, true, true, true, true, true, true, true, true, false, false, false, false, false] rfl rfl (any_of HT_.out (by kernel_rfl)) (fun _ _ _ h => h) (Or.inr ⟨by rfl, rfl⟩) ?_ ?_
    rotate_left
    · simp only [Act.put, List.setIfInBounds_toArray, List.set_cons_zero, List.set_cons_succ, i64_w, i32_w]
      rfl
    refine pure_ (i := 10) (N := some 18) (v := undef) (a' := ?_) #[true, true, true, true, true, true, true, true, true, true, true, false, false, false, false] rfl rfl (any_of HT_.out (by kernel_rfl)) (fun _ _ _ h => h) (Or.inr ⟨by rfl, rfl⟩) ?_ ?_
    rotate_left
    · simp only [Act.put, List.setIfInBounds_toArray, List.set_cons_zero, List.set_cons_succ, i64_w, i32_w]
      rfl
    refine pure_ (i := 11) (N := some 19) (v := undef) (a' := ?_) #[true, true, true, true, true, true, true, true, true, true, true, true, false, false, false] rfl rfl (any_of HT_.out (by kernel_rfl)) (fun _ _ _ h => h) (Or.inr ⟨by rfl, rfl⟩) ?_ ?_
    rotate_left
    · simp only [Act.put, List.setIfInBounds_toArray, List.set_cons_zero, List.set_cons_succ, i64_w, i32_w]
      rfl
    refine pure_ (i := 12) (N := some 20) (v := undef) (a' := ?_) #[true, true, true, true, true, true, true, true, true, true, true, true, true, false, false] rfl rfl (any_of HT_.out (by kernel_rfl)) (fun _ _ _ h => h) (Or.inr ⟨by rfl, rfl⟩) ?_ ?_
    rotate_left
    · simp only [Act.put, List.setIfInBounds_toArray, List.set_cons_zero, List.set_cons_succ, i64_w, i32_w]
      rfl
    refine pure_ (i := 13) (N := some 21) (v := undef) (a' := ?_) #[true, true, true, true, true, true, true, true, true, true, true, true, true, true, false] rfl rfl (any_of HT_.out (by kernel_rfl)) (fun _ _ _ h => h) (Or.inr ⟨by rfl, rfl⟩) ?_ ?_
    rotate_left
    · simp only [Act.put, List.setIfInBounds_toArray, List.set_cons_zero, List.set_cons_succ, i64_w, i32_w]
      rfl
    refine pure_ (i := 14) (N := some 22) (v := ?_) (a' := ?_) #[true, true, true, true, true, true, true, true, true, true, true, true, true, true, true] rfl rfl (any_of HT_.out (by kernel_rfl)) (fun _ _ _ h => h) (Or.inl ⟨by rfl, ?_⟩) ?_ ?_
    rotate_left
    · intro w'
      go_simp
      with_reducible rfl
    rotate_left
    · simp only [Act.put, List.setIfInBounds_toArray, List.set_cons_zero, List.set_cons_succ, i64_w, i32_w]
      rfl
    refine done_ (done_of HT_.out (by kernel_rfl)) ?_
    try go_wp2
    go_ret2
    exact ⟨_, by first | rfl | (simp [errW_none, errW_some] <;> rfl) | (simp [*, errW_none, errW_some] <;> rfl), by first | exact Kd.R_nil _ _ _ _ _ | exact Kd.N_nil _ _ _ _ _ | exact Kd.V_nil _ _ _ _ _ | exact Kd.Q_nil _ _ _ _ _ | exact Kd.S_nil _ _ _ _ _, by repeat (first | (with_reducible first | exact HB.out | apply below_alloc | apply pw_below_drewN | apply below_drew1) | exact HB.out)⟩
  · rw [if_neg c2] at H
    have c2b0 : decide ((wrap64 ((l0.length : Int) - 4)) < 0) = false := decide_eq_false c2
    clear c2
    obtain ⟨ji4, hji4⟩ : ∃ j_ : Int, (wrap64 ((l0.length : Int) - 4)) = j_ := ⟨_, rfl⟩
    replace H : (if 0 ≤ (ji4) then (if (ji4) ≤ (l0.length : Int) then ((rosetteref01_Sum.f k (l0.take ((ji4) : Int).toNat)).bind fun t242 => ((rosetteref01_Low.f t242).bind fun t243 => (if (strOfNums t243).toList = (strOfNums (l0.drop ((ji4) : Int).toNat)).toList then ((some (([] : List Int) : List Int)).bind fun y247 => (if y247.length + (l0.take ((ji4) : Int).toNat).length < 140737488355328 then (some ((y247 ++ (l0.take ((ji4) : Int).toNat)), true)) else (none))) else (some (([] : List Int), false))))) else (none)) else (none)) = some (r1, r2) := by first | (rw [hji4] at H; exact H) | (simp only [hji4] at H ⊢; exact H)
    (try rw [hji4] at c2b0)
    have hji4w : (IntKind.i64.wrap ((l0.length : Int) - 4)) = ji4 := (i64_w _).trans hji4
    by_cases c5 : 0 ≤ (ji4)
    · rw [if_pos c5] at H
      have c5b0 := eq_true c5
      have c5b1 : decide (0 ≤ (ji4)) = true := decide_eq_true c5
      clear c5
      by_cases c6 : (ji4) ≤ (l0.length : Int)
      · rw [if_pos c6] at H
        have c6b0 := eq_true c6
        have c6b1 : decide ((ji4) ≤ (l0.length : Int)) = true := decide_eq_true c6
        clear c6
        replace H := Option.bind_eq_some_iff.mp H
        obtain ⟨t242, A70, H⟩ := H
        replace H : ((rosetteref01_Low.f t242).bind fun t243 => (if (strOfNums t243).toList = (strOfNums (l0.drop ((ji4) : Int).toNat)).toList then ((some (([] : List Int) : List Int)).bind fun y247 => (if y247.length + (l0.take ((ji4) : Int).toNat).length < 140737488355328 then (some ((y247 ++ (l0.take ((ji4) : Int).toNat)), true)) else (none))) else (some (([] : List Int), false)))) = some (r1, r2) := H
        have A7 := Aside0.mk A70
        clear A70
        replace H := Option.bind_eq_some_iff.mp H
        obtain ⟨t243, A80, H⟩ := H
        replace H : (if (strOfNums t243).toList = (strOfNums (l0.drop ((ji4) : Int).toNat)).toList then ((some (([] : List Int) : List Int)).bind fun y247 => (if y247.length + (l0.take ((ji4) : Int).toNat).length < 140737488355328 then (some ((y247 ++ (l0.take ((ji4) : Int).toNat)), true)) else (none))) else (some (([] : List Int), false))) = some (r1, r2) := H
        have A8 := Aside0.mk A80
        clear A80
        have c9b0 := eq_true (of_decide_eq_true (by first | (with_reducible assumption) | assumption) : 0 ≤ (ji4))
        have c10b0 := eq_true (of_decide_eq_true (by first | (with_reducible assumption) | assumption) : (ji4) ≤ (l0.length : Int))
        by_cases c11 : (strOfNums t243).toList = (strOfNums (l0.drop ((ji4) : Int).toNat)).toList
        · rw [if_pos c11] at H
          have c11b0 : ((strOfNums t243).toList == (strOfNums (l0.drop ((ji4) : Int).toNat)).toList) = true := beq_iff_eq.mpr c11
          have c11b1 : ((strOfNums t243).toList != (strOfNums (l0.drop ((ji4) : Int).toNat)).toList) = false := bne_eq_false_iff_eq.mpr c11
          clear c11
          obtain ⟨y247, hy247⟩ : ∃ y_ : List Int, y_ = (([] : List Int)) := ⟨_, rfl⟩
          replace H : (if y247.length + (l0.take ((ji4) : Int).toNat).length < 140737488355328 then (some ((y247 ++ (l0.take ((ji4) : Int).toNat)), true)) else (none)) = some (r1, r2) := by first | (rw [hy247]; with_reducible exact H) | (have H2_ := (Option.bind_some _ _).symm.trans H; rw [hy247]; with_reducible exact H2_) | (have H2_ := (Option.bind_some _ _).symm.trans H; with_reducible exact H2_) | with_reducible exact H | (rw [hy247]; exact H) | exact H
          have Ny247 := Aside0.mk hy247
          clear hy247
          have c12b0 := eq_true (of_decide_eq_true (by first | (with_reducible assumption) | assumption) : 0 ≤ (ji4))
          have c13b0 := eq_true (of_decide_eq_true (by first | (with_reducible assumption) | assumption) : (ji4) ≤ (l0.length : Int))
          by_cases c14 : y247.length + (l0.take ((ji4) : Int).toNat).length < 140737488355328
          · rw [if_pos c14] at H
            have LMc14 := Aside0.mk c14
            clear c14
            obtain ⟨y251, hy251⟩ : ∃ y_ : List Int, y_ = (y247 ++ (l0.take ((ji4) : Int).toNat)) := ⟨_, rfl⟩
            replace H : (some (y251, true)) = some (r1, r2) := by first | (rw [hy251]; with_reducible exact H) | (have H2_ := (Option.bind_some _ _).symm.trans H; rw [hy251]; with_reducible exact H2_) | (have H2_ := (Option.bind_some _ _).symm.trans H; with_reducible exact H2_) | with_reducible exact H | (rw [hy251]; exact H) | exact H
            have Ny251 := Aside0.mk hy251
            clear hy251
            simp only [Option.some.injEq, Prod.mk.injEq] at H
            obtain ⟨rfl, rfl⟩ := H
            go_enter Try.func44, Try.ntmps44
            try go_wp2
            have n0_ := Aside0.mk (below_drew1 HB.out)
            clear HB
            have HB := n0_
            clear n0_
            obtain ⟨i016, hi016, _, hsz16, _⟩ := info_parts info5
            obtain ⟨hcut16, hA16, hC16⟩ := print_take_of (P := Try.prog) (Value.int .u8) 0 23 5 .i64 Try.underlying23 hi016 hsz16 A0 c0 l0 (ji4) (of_decide_eq_true (by first | (with_reducible assumption) | assumption)) (of_decide_eq_true (by first | (with_reducible assumption) | assumption)) HC0.out
            have HR241 := Aside0.mk (Kd.C_of_reads (h1 := fun _ => rfl) (hA16 _ (Kd.reads_of_C HR0.out)))
            have HC241 := Aside0.mk hC16
            clear hA16 hC16 hi016 hsz16
            obtain ⟨i017, hi017, _, hsz17, _⟩ := info_parts info5
            obtain ⟨A17, hcut17, hA17, hC17⟩ := print_drop_of (P := Try.prog) (Value.int .u8) 0 23 5 .i64 Try.underlying23 hi017 hsz17 A0 c0 l0 (ji4) (of_decide_eq_true (by first | (with_reducible assumption) | assumption)) (of_decide_eq_true (by first | (with_reducible assumption) | assumption)) HC0.out
            have HR246 := Aside0.mk (Kd.C_of_reads (h1 := fun _ => rfl) (hA17 _ (Kd.reads_of_C HR0.out)))
            have HC246 := Aside0.mk hC17
            clear hA17 hC17 hi017 hsz17
            refine start_ (n := 15) (S := fun w' => (convert 23 9 (.slice A17 (l0.length - ji4.toNat) (c0 - (ji4).toNat))).run Try.prog w' = .ok (.string (strOfNums (l0.drop ((ji4) : Int).toNat))) w') (ds := []) #[false, false, false, false, false, false, false, false, false, false, false, false, false, false, false] (by kernel_rfl) rfl rfl ((by have key_ : ∀ W_ : World, Below w.heap.size w W_ → (convert 23 9 (.slice A17 (l0.length - ji4.toNat) (c0 - (ji4).toNat))).run Try.prog W_ = .ok (.string (strOfNums (l0.drop ((ji4) : Int).toNat))) W_ := (fun W_ hb_ => by have h_ := Kd.C_string (P := Try.prog) (A := A17) (c := (c0 - (ji4).toNat)) Try.underlying23 Try.underlying5 Try.underlying9 (Kd.C_below HR246.out hb_); first | exact h_ | (rw [List.length_drop] at h_; exact h_) | (rw [List.length_take, Nat.min_eq_left (by omega)] at h_; exact h_)); first | exact key_ _ HB.out | exact key_ _ (pw_below_drewN HB.out _) | exact key_ _ (below_drew HB.out) | exact key_ _ (pw_below_drewN (below_drew HB.out) _))) (fun hHeld => ?_); refine with_tabW rosetteref01_Open.tab2 rosetteref01_Open.bits2 (fun HT_ HW_ => ?_)
            generalize w.drew = w15 at HB HR241 HR246 hHeld ⊢
            refine pure_ (i := 0) (N := some 8) (v := ?_) (a' := ?_) #[true, false, false, false, false, false, false, false, false, false, false, false, false, false, false] rfl rfl (any_of HT_.out (by kernel_rfl)) (fun _ _ _ h => h) (Or.inl ⟨by rfl, ?_⟩) ?_ ?_
            rotate_left
            · intro w'
              go_simp
              with_reducible rfl
            rotate_left
            · simp only [Act.put, List.setIfInBounds_toArray, List.set_cons_zero, List.set_cons_succ, i64_w, i32_w]
              rfl
            refine pure_ (i := 1) (N := some 9) (v := ?_) (a' := ?_) #[true, true, false, false, false, false, false, false, false, false, false, false, false, false, false] rfl rfl (any_of HT_.out (by kernel_rfl)) (fun _ _ _ h => h) (Or.inl ⟨by rfl, ?_⟩) ?_ ?_
            rotate_left
            · intro w'
              go_simp
              with_reducible rfl
            rotate_left
            · simp only [Act.put, List.setIfInBounds_toArray, List.set_cons_zero, List.set_cons_succ, i64_w, i32_w]
              rfl
            refine pure_ (i := 2) (N := some 10) (v := ?_) (a' := ?_) #[true, true, true, false, false, false, false, false, false, false, false, false, false, false, false] rfl rfl (any_of HT_.out (by kernel_rfl)) (fun _ _ _ h => h) (Or.inl ⟨by rfl, ?_⟩) ?_ ?_
            rotate_left
            · intro w'
              go_simp
              with_reducible rfl
            rotate_left
            · simp only [Act.put, List.setIfInBounds_toArray, List.set_cons_zero, List.set_cons_succ, i64_w, i32_w]
              rfl
            refine pure_ (i := 3) (N := some 11) (v := ?_) (a' := ?_) #[true, true, true, true, false, false, false, false, false, false, false, false, false, false, false] rfl rfl (any_of HT_.out (by kernel_rfl)) (fun _ _ _ h => h) (Or.inl ⟨by rfl, ?_⟩) ?_ ?_
            rotate_left
            · intro w'
              go_simp
              with_reducible rfl
            rotate_left
            · simp only [Act.put, List.setIfInBounds_toArray, List.set_cons_zero, List.set_cons_succ, i64_w, i32_w]
              rfl
            refine pure_ (i := 4) (N := some 12) (v := ?_) (a' := ?_) #[true, true, true, true, true, false, false, false, false, false, false, false, false, false, false] rfl rfl (any_of HT_.out (by kernel_rfl)) (fun _ _ _ h => h) (Or.inl ⟨by rfl, ?_⟩) ?_ ?_
            rotate_left
            · intro w'
              go_simp
              with_reducible rfl
            rotate_left
            · simp only [Act.put, List.setIfInBounds_toArray, List.set_cons_zero, List.set_cons_succ, i64_w, i32_w]
              rfl
            refine pure_ (i := 5) (N := some 13) (v := ?_) (a' := ?_) #[true, true, true, true, true, true, false, false, false, false, false, false, false, false, false] rfl rfl (any_of HT_.out (by kernel_rfl)) (fun _ _ _ h => h) (Or.inl ⟨by rfl, ?_⟩) ?_ ?_
            rotate_left
            · intro w'
              go_simp
              with_reducible rfl
            rotate_left
            · simp only [Act.put, List.setIfInBounds_toArray, List.set_cons_zero, List.set_cons_succ, i64_w, i32_w]
              rfl
            refine pure_ (i := 9) (N := some 17) (v := ?_) (a' := ?_) #[true, true, true, true, true, true, false, false, false, true, false, false, false, false, false] rfl rfl (any_of HT_.out (by kernel_rfl)) (fun _ _ _ h => h) (Or.inl ⟨by rfl, ?_⟩) ?_ ?_
            rotate_left
            · intro w'
              go_simp
              with_reducible rfl
            rotate_left
            · simp only [Act.put, List.setIfInBounds_toArray, List.set_cons_zero, List.set_cons_succ, i64_w, i32_w]
              rfl
            refine pure_ (i := 10) (N := some 18) (v := ?_) (a' := ?_) #[true, true, true, true, true, true, false, false, false, true, true, false, false, false, false] rfl rfl (any_of HT_.out (by kernel_rfl)) (fun _ _ _ h => h) (Or.inl ⟨by rfl, ?_⟩) ?_ ?_
            rotate_left
            · intro w'
              go_simp
              with_reducible rfl
            rotate_left
            · simp only [Act.put, List.setIfInBounds_toArray, List.set_cons_zero, List.set_cons_succ, i64_w, i32_w]
              rfl
            refine pure_ (i := 11) (N := some 19) (v := ?_) (a' := ?_) #[true, true, true, true, true, true, false, false, false, true, true, true, false, false, false] rfl rfl (any_of HT_.out (by kernel_rfl)) (fun _ _ _ h => h) (Or.inl ⟨by rfl, ?_⟩) ?_ ?_
            rotate_left
            · intro w'
              go_simp
              with_reducible rfl
            rotate_left
            · simp only [Act.put, List.setIfInBounds_toArray, List.set_cons_zero, List.set_cons_succ, i64_w, i32_w]
              rfl
            refine take_ (i := 12) (N := some 20) (v := ?_) (a' := ?_) #[true, true, true, true, true, true, false, false, false, true, true, true, true, false, false] rfl rfl (take_ofW HT_.out HW_.out (by kernel_rfl)) (fun _ _ _ h => h) (Or.inl ⟨by rfl, ?_⟩) hHeld ?_ ?_
            rotate_left
            · intro w' s0
              go_simp
              with_reducible rfl
            rotate_left
            · simp only [Act.put, List.setIfInBounds_toArray, List.set_cons_zero, List.set_cons_succ, i64_w, i32_w]
              rfl
            refine one_ (i := 6) (N := some 14) #[true, true, true, true, true, true, true, false, false, true, true, true, true, false, false] rfl rfl (one_of HT_.out (by kernel_rfl)) (by decide) (fun K hK => ?_)
            refine goes_ Try.func47 (by kernel_rfl) rfl #[.slice A0 (l0.take ((ji4) : Int).toNat).length c0] (by rfl) rfl rfl (by (try simp only [List.map_toArray, List.map_cons, List.map_nil]); first | done | (rw [show (l0.take ((ji4) : Int).toNat).length = (ji4).toNat from (by rw [List.length_take]; have h_ : ((ji4) : Int) ≤ (l0.length : Int) := of_decide_eq_true (by first | (with_reducible assumption) | assumption); omega)] <;> rfl) | (simp only [hji4]; rfl) | rfl | (simp only [List.length_drop, List.length_take]; rfl)) ?_
            with_reducible refine (rosetteref01_Sum.calls k _ _ (l0.take ((ji4) : Int).toNat) t242 _ ?side1 ?side2 A7.out).mono ?_
            (case side1 => repeat (first | exact (Kd.C_below HR241.out HB.out) | (with_reducible refine Kd.C_alloc ?_ _) | (with_reducible refine Kd.C_drewN ?_ _) | (with_reducible refine Kd.C_drew ?_)))
            (case side2 => exact HC241.out)
            rintro e w' ⟨rfl, ⟨nd, rfl⟩⟩
            refine ⟨_, rfl, ?_⟩
            refine hK.out _ _ ((by have key_ : ∀ W_ : World, Below w.heap.size w W_ → (convert 23 9 (.slice A17 (l0.length - ji4.toNat) (c0 - (ji4).toNat))).run Try.prog W_ = .ok (.string (strOfNums (l0.drop ((ji4) : Int).toNat))) W_ := (fun W_ hb_ => by have h_ := Kd.C_string (P := Try.prog) (A := A17) (c := (c0 - (ji4).toNat)) Try.underlying23 Try.underlying5 Try.underlying9 (Kd.C_below HR246.out hb_); first | exact h_ | (rw [List.length_drop] at h_; exact h_) | (rw [List.length_take, Nat.min_eq_left (by omega)] at h_; exact h_)); first | exact key_ _ HB.out | exact key_ _ (pw_below_drewN HB.out _) | exact key_ _ (below_drew HB.out) | exact key_ _ (pw_below_drewN (below_drew HB.out) _))) (fun hHeld => ?_)
            clear hK K
            refine norm_ (a' := ?_) ?_ ?_
            rotate_left
            · show Act.put _ (some 14) _ = _
              simp only [Act.put, List.setIfInBounds_toArray, List.set_cons_zero, List.set_cons_succ, i64_w, i32_w]
              rfl
            refine one_ (i := 7) (N := some 15) #[true, true, true, true, true, true, true, true, false, true, true, true, true, false, false] rfl rfl (one_of HT_.out (by kernel_rfl)) (by decide) (fun K hK => ?_)
            refine goes_ Try.func46 (by kernel_rfl) rfl #[.int .u32 t242] (by rfl) rfl rfl (by (try simp only [List.map_toArray, List.map_cons, List.map_nil]); first | done | rfl | (simp only [List.length_drop, List.length_take]; rfl)) ?_
            with_reducible refine (rosetteref01_Low.calls t242 t243 _ A8.out).mono ?_
            rintro e w18 ⟨v244, rfl, ho0, hb⟩
            refine ⟨_, rfl, ?_⟩
            have n0_ := Aside0.mk (Kd.R_lower ho0 (below_size (by repeat (first | (with_reducible first | exact HB.out | apply below_alloc | apply pw_below_drewN | apply below_drew1) | exact HB.out))))
            have n1_ := Aside0.mk (below_step (by repeat (first | (with_reducible first | exact HB.out | apply below_alloc | apply pw_below_drewN | apply below_drew1) | exact HB.out)) hb)
            clear HB
            have HO245 := n0_
            have HB := n1_
            clear n0_ n1_
            (try clear hb)
            (try clear hb2)
            (try clear hk)
            (try clear hi)
            (try clear ho0)
            refine hK.out _ _ ((by have key_ : ∀ W_ : World, Below w.heap.size w W_ → (convert 23 9 (.slice A17 (l0.length - ji4.toNat) (c0 - (ji4).toNat))).run Try.prog W_ = .ok (.string (strOfNums (l0.drop ((ji4) : Int).toNat))) W_ := (fun W_ hb_ => by have h_ := Kd.C_string (P := Try.prog) (A := A17) (c := (c0 - (ji4).toNat)) Try.underlying23 Try.underlying5 Try.underlying9 (Kd.C_below HR246.out hb_); first | exact h_ | (rw [List.length_drop] at h_; exact h_) | (rw [List.length_take, Nat.min_eq_left (by omega)] at h_; exact h_)); first | exact key_ _ HB.out | exact key_ _ (pw_below_drewN HB.out _) | exact key_ _ (below_drew HB.out) | exact key_ _ (pw_below_drewN (below_drew HB.out) _))) (fun hHeld => ?_)
            clear hK K
            refine norm_ (a' := ?_) ?_ ?_
            rotate_left
            · show Act.put _ (some 15) _ = _
              simp only [Act.put, List.setIfInBounds_toArray, List.set_cons_zero, List.set_cons_succ, i64_w, i32_w]
              rfl
            refine one_ (i := 8) (N := some 16) #[true, true, true, true, true, true, true, true, true, true, true, true, true, false, false] rfl rfl (one_of HT_.out (by kernel_rfl)) (by decide) (fun K hK => ?_)
            have hcv19 := own_string (P := Try.prog) Try.underlying23 Try.underlying5 Try.underlying9 (Kd.own_of_R HO245.out)
            refine value_ (w1 := ?_) (v := ?_) (by rfl) rfl ?_ ?_
            rotate_left 2
            · go_simp
              constructor
              · rfl
              · rfl
            clear hcv19
            refine hK.out _ _ ((by have key_ : ∀ W_ : World, Below w.heap.size w W_ → (convert 23 9 (.slice A17 (l0.length - ji4.toNat) (c0 - (ji4).toNat))).run Try.prog W_ = .ok (.string (strOfNums (l0.drop ((ji4) : Int).toNat))) W_ := (fun W_ hb_ => by have h_ := Kd.C_string (P := Try.prog) (A := A17) (c := (c0 - (ji4).toNat)) Try.underlying23 Try.underlying5 Try.underlying9 (Kd.C_below HR246.out hb_); first | exact h_ | (rw [List.length_drop] at h_; exact h_) | (rw [List.length_take, Nat.min_eq_left (by omega)] at h_; exact h_)); first | exact key_ _ HB.out | exact key_ _ (pw_below_drewN HB.out _) | exact key_ _ (below_drew HB.out) | exact key_ _ (pw_below_drewN (below_drew HB.out) _))) (fun hHeld => ?_)
            clear hK K
            refine norm_ (a' := ?_) ?_ ?_
            rotate_left
            · show Act.put _ (some 16) _ = _
              simp only [Act.put, List.setIfInBounds_toArray, List.set_cons_zero, List.set_cons_succ, i64_w, i32_w]
              rfl
            refine pure_ (i := 13) (N := some 21) (v := ?_) (a' := ?_) #[true, true, true, true, true, true, true, true, true, true, true, true, true, true, false] rfl rfl (any_of HT_.out (by kernel_rfl)) (fun _ _ _ h => h) (Or.inl ⟨by rfl, ?_⟩) ?_ ?_
            rotate_left
            · intro w'
              go_simp
              with_reducible rfl
            rotate_left
            · simp only [Act.put, List.setIfInBounds_toArray, List.set_cons_zero, List.set_cons_succ, i64_w, i32_w]
              rfl
            refine pure_ (i := 14) (N := some 22) (v := ?_) (a' := ?_) #[true, true, true, true, true, true, true, true, true, true, true, true, true, true, true] rfl rfl (any_of HT_.out (by kernel_rfl)) (fun _ _ _ h => h) (Or.inl ⟨by rfl, ?_⟩) ?_ ?_
            rotate_left
            · intro w'
              go_simp
              with_reducible rfl
            rotate_left
            · simp only [Act.put, List.setIfInBounds_toArray, List.set_cons_zero, List.set_cons_succ, i64_w, i32_w]
              rfl
            refine done_ (done_of HT_.out (by kernel_rfl)) ?_
            try go_wp2_with (first | ((with_reducible refine gate_dst (N := 23) rfl ?_); refine Kd.R_lit (Kd.int .u8) _ 5 ?hg (N := 23) ?hd (xs := ([] : List Int)) (inner := []) (ok := fun _ => True) (okp := fun _ => True) ?hr ?hp (fun _ hk => hk) trivial (Below.refl _ _) (Nat.le_refl _) (by simp) ?_; (case hd => rfl); (case hg => rfl); (case hr => first | (go_simp; done) | (go_simp; rfl)); (case hp => exact (Reps.none _ _)); intro v248 w21 ho22 hb hg_ hnew_; clear hg_ hnew_; (first | rw [← Ny247.out] at ho22 | (simp only [Int.reduceToNat] at ho22; rw [← Ny247.out] at ho22)); have n0_ := Aside0.mk (Kd.R_elder' (by (with_reducible repeat (first | apply Kd.R_alloc | apply Kd.R_drewN | apply Kd.R_drew)); exact HO245.out) (Kd.R_base ho22) hb); have n1_ := Aside0.mk (Kd.R_lower (Kd.R_new' ho22 (Kd.R_lt (by (with_reducible repeat (first | apply Kd.R_alloc | apply Kd.R_drewN | apply Kd.R_drew)); exact HO245.out))) (below_size (by repeat (first | (with_reducible first | exact HB.out | apply below_alloc | apply pw_below_drewN | apply below_drew1) | exact HB.out)))); have n2_ := Aside0.mk (below_step (by repeat (first | (with_reducible first | exact HB.out | apply below_alloc | apply pw_below_drewN | apply below_drew1) | exact HB.out)) hb); clear HO245; clear HB; have HO245 := n0_; have HO249 := n1_; have HB := n2_; clear n0_ n1_ n2_; clear hb ho22; obtain ⟨i023, hi023, _, hsz23, _⟩ := info_parts info5; obtain ⟨hcut23, hA23, hC23⟩ := print_take_of (P := Try.prog) (Value.int .u8) 0 23 5 .i64 Try.underlying23 hi023 hsz23 A0 c0 l0 (ji4) (of_decide_eq_true (by first | (with_reducible assumption) | assumption)) (of_decide_eq_true (by first | (with_reducible assumption) | assumption)) HC0.out; have HR250 := Aside0.mk (Kd.C_of_reads (h1 := fun _ => rfl) (hA23 _ (Kd.reads_of_C HR0.out))); have HC250 := Aside0.mk hC23; clear hA23 hC23 hi023 hsz23) | ((with_reducible refine gate_builtin (b := .append) (xs := #[.tmp 23, .tmp 26]) rfl ?_); at_builtin; refine Kd.R_append_rows (Kd.int .u8) (w0 := w) w.heap.size rfl (.tmp 23) (.tmp 26) 23 5 (.int .u8 0) 1 rfl Try.underlying23 info5 rfl (by decide) (by decide) v248 y247 (l0.take ((ji4) : Int).toNat) _ _ _ (fun k_ => some k_ ≠ (v244 : Value).ownBlock) (fun _ => False) rfl rfl ?aO ?aR (fun _ _ h => h) (fun _ h => h.elim) ?aF ?aB ?aS ?aL ?_; (case aR => first | (have h_ := Kd.C_below HR250.out HB.out; rw [show (l0.take ((ji4) : Int).toNat).length = (ji4).toNat from (by rw [List.length_take]; have h_ : ((ji4) : Int) ≤ (l0.length : Int) := of_decide_eq_true (by first | (with_reducible assumption) | assumption); omega)] at h_; exact h_) | (rw [← show (l0.take ((ji4) : Int).toNat).length = (ji4).toNat from (by rw [List.length_take]; have h_ : ((ji4) : Int) ≤ (l0.length : Int) := of_decide_eq_true (by first | (with_reducible assumption) | assumption); omega)]; repeat (first | exact (Kd.C_below HR250.out HB.out) | (with_reducible refine Kd.C_alloc ?_ _) | (with_reducible refine Kd.C_drewN ?_ _) | (with_reducible refine Kd.C_drew ?_))) | (repeat (first | exact (Kd.C_below HR250.out HB.out) | (with_reducible refine Kd.C_alloc ?_ _) | (with_reducible refine Kd.C_drewN ?_ _) | (with_reducible refine Kd.C_drew ?_)))); (case aB => exact (by repeat (first | (with_reducible first | exact HB.out | apply below_alloc | apply pw_below_drewN | apply below_drew1) | exact HB.out))); (case aF => exact (fun k_ hk => Kd.fresh' (Kd.R_lt (by (with_reducible repeat (first | apply Kd.R_alloc | apply Kd.R_drewN | apply Kd.R_drew)); exact HO245.out)) k_ hk)); (case aO => exact (by (with_reducible repeat (first | apply Kd.R_alloc | apply Kd.R_drewN | apply Kd.R_drew)); exact Kd.R_mono HO249.out (fun _ hk => hk.2))); (case aS => exact (below_size (by repeat (first | (with_reducible first | exact HB.out | apply below_alloc | apply pw_below_drewN | apply below_drew1) | exact HB.out)))); (case aL => have := LMc14.out; have hlx_ := (show (l0.take ((ji4) : Int).toNat).length = (ji4).toNat from (by rw [List.length_take]; have h_ : ((ji4) : Int) ≤ (l0.length : Int) := of_decide_eq_true (by first | (with_reducible assumption) | assumption); omega)); omega); intro v252 w24 ho hb hg hat; rw [← Ny251.out] at ho; have n0_ := Aside0.mk (Kd.R_after (ok := (fun _ => True)) (by (with_reducible repeat (first | apply Kd.R_alloc | apply Kd.R_drewN | apply Kd.R_drew)); exact HO245.out) hg hat); have n1_ := Aside0.mk (hb); have n2_ := Aside0.mk (ho); clear HO245; clear HB; clear HO249; have HO245 := n0_; have HB := n1_; have HO253 := n2_; clear n0_ n1_ n2_; clear ho hb hg hat))
            go_ret2
            exact ⟨_, by first | rfl | (simp [errW_none, errW_some] <;> rfl) | (simp only [← hji4]; first | rfl | (simp [errW_none, errW_some] <;> rfl)) | (simp [*, errW_none, errW_some] <;> rfl), by (with_reducible repeat (first | apply Kd.R_alloc | apply Kd.R_drewN | apply Kd.R_drew)); exact Kd.R_mono HO253.out (fun _ hk => trivial), by repeat (first | (with_reducible first | exact HB.out | apply below_alloc | apply pw_below_drewN | apply below_drew1) | exact HB.out)⟩
          · rw [if_neg c14] at H
            exact absurd H (by simp)
        · rw [if_neg c11] at H
          have c11b0 : ((strOfNums t243).toList == (strOfNums (l0.drop ((ji4) : Int).toNat)).toList) = false := beq_eq_false_iff_ne.mpr c11
          have c11b1 : ((strOfNums t243).toList != (strOfNums (l0.drop ((ji4) : Int).toNat)).toList) = true := bne_iff_ne.mpr c11
          simp only [Option.some.injEq, Prod.mk.injEq] at H
          obtain ⟨rfl, rfl⟩ := H
          go_enter Try.func44, Try.ntmps44
          try go_wp2
          have n0_ := Aside0.mk (below_drew1 HB.out)
          clear HB
          have HB := n0_
          clear n0_
          obtain ⟨i026, hi026, _, hsz26, _⟩ := info_parts info5
          obtain ⟨hcut26, hA26, hC26⟩ := print_take_of (P := Try.prog) (Value.int .u8) 0 23 5 .i64 Try.underlying23 hi026 hsz26 A0 c0 l0 (ji4) (of_decide_eq_true (by first | (with_reducible assumption) | assumption)) (of_decide_eq_true (by first | (with_reducible assumption) | assumption)) HC0.out
          have HR241 := Aside0.mk (Kd.C_of_reads (h1 := fun _ => rfl) (hA26 _ (Kd.reads_of_C HR0.out)))
          have HC241 := Aside0.mk hC26
          clear hA26 hC26 hi026 hsz26
          obtain ⟨i027, hi027, _, hsz27, _⟩ := info_parts info5
          obtain ⟨A27, hcut27, hA27, hC27⟩ := print_drop_of (P := Try.prog) (Value.int .u8) 0 23 5 .i64 Try.underlying23 hi027 hsz27 A0 c0 l0 (ji4) (of_decide_eq_true (by first | (with_reducible assumption) | assumption)) (of_decide_eq_true (by first | (with_reducible assumption) | assumption)) HC0.out
          have HR246 := Aside0.mk (Kd.C_of_reads (h1 := fun _ => rfl) (hA27 _ (Kd.reads_of_C HR0.out)))
          have HC246 := Aside0.mk hC27
          clear hA27 hC27 hi027 hsz27
          refine start_ (n := 15) (S := fun w' => (convert 23 9 (.slice A27 (l0.length - ji4.toNat) (c0 - (ji4).toNat))).run Try.prog w' = .ok (.string (strOfNums (l0.drop ((ji4) : Int).toNat))) w') (ds := []) #[false, false, false, false, false, false, false, false, false, false, false, false, false, false, false] (by kernel_rfl) rfl rfl ((by have key_ : ∀ W_ : World, Below w.heap.size w W_ → (convert 23 9 (.slice A27 (l0.length - ji4.toNat) (c0 - (ji4).toNat))).run Try.prog W_ = .ok (.string (strOfNums (l0.drop ((ji4) : Int).toNat))) W_ := (fun W_ hb_ => by have h_ := Kd.C_string (P := Try.prog) (A := A27) (c := (c0 - (ji4).toNat)) Try.underlying23 Try.underlying5 Try.underlying9 (Kd.C_below HR246.out hb_); first | exact h_ | (rw [List.length_drop] at h_; exact h_) | (rw [List.length_take, Nat.min_eq_left (by omega)] at h_; exact h_)); first | exact key_ _ HB.out | exact key_ _ (pw_below_drewN HB.out _) | exact key_ _ (below_drew HB.out) | exact key_ _ (pw_below_drewN (below_drew HB.out) _))) (fun hHeld => ?_); refine with_tabW rosetteref01_Open.tab2 rosetteref01_Open.bits2 (fun HT_ HW_ => ?_)
          generalize w.drew = w25 at HB HR241 HR246 hHeld ⊢
          refine pure_ (i := 0) (N := some 8) (v := ?_) (a' := ?_) #[true, false, false, false, false, false, false, false, false, false, false, false, false, false, false] rfl rfl (any_of HT_.out (by kernel_rfl)) (fun _ _ _ h => h) (Or.inl ⟨by rfl, ?_⟩) ?_ ?_
          rotate_left
          · intro w'
            go_simp
            with_reducible rfl
          rotate_left
          · simp only [Act.put, List.setIfInBounds_toArray, List.set_cons_zero, List.set_cons_succ, i64_w, i32_w]
            rfl
          refine pure_ (i := 1) (N := some 9) (v := ?_) (a' := ?_) #[true, true, false, false, false, false, false, false, false, false, false, false, false, false, false] rfl rfl (any_of HT_.out (by kernel_rfl)) (fun _ _ _ h => h) (Or.inl ⟨by rfl, ?_⟩) ?_ ?_
          rotate_left
          · intro w'
            go_simp
            with_reducible rfl
          rotate_left
          · simp only [Act.put, List.setIfInBounds_toArray, List.set_cons_zero, List.set_cons_succ, i64_w, i32_w]
            rfl
          refine pure_ (i := 2) (N := some 10) (v := ?_) (a' := ?_) #[true, true, true, false, false, false, false, false, false, false, false, false, false, false, false] rfl rfl (any_of HT_.out (by kernel_rfl)) (fun _ _ _ h => h) (Or.inl ⟨by rfl, ?_⟩) ?_ ?_
          rotate_left
          · intro w'
            go_simp
            with_reducible rfl
          rotate_left
          · simp only [Act.put, List.setIfInBounds_toArray, List.set_cons_zero, List.set_cons_succ, i64_w, i32_w]
            rfl
          refine pure_ (i := 3) (N := some 11) (v := ?_) (a' := ?_) #[true, true, true, true, false, false, false, false, false, false, false, false, false, false, false] rfl rfl (any_of HT_.out (by kernel_rfl)) (fun _ _ _ h => h) (Or.inl ⟨by rfl, ?_⟩) ?_ ?_
          rotate_left
          · intro w'
            go_simp
            with_reducible rfl
          rotate_left
          · simp only [Act.put, List.setIfInBounds_toArray, List.set_cons_zero, List.set_cons_succ, i64_w, i32_w]
            rfl
          refine pure_ (i := 4) (N := some 12) (v := ?_) (a' := ?_) #[true, true, true, true, true, false, false, false, false, false, false, false, false, false, false] rfl rfl (any_of HT_.out (by kernel_rfl)) (fun _ _ _ h => h) (Or.inl ⟨by rfl, ?_⟩) ?_ ?_
          rotate_left
          · intro w'
            go_simp
            with_reducible rfl
          rotate_left
          · simp only [Act.put, List.setIfInBounds_toArray, List.set_cons_zero, List.set_cons_succ, i64_w, i32_w]
            rfl
          refine pure_ (i := 5) (N := some 13) (v := ?_) (a' := ?_) #[true, true, true, true, true, true, false, false, false, false, false, false, false, false, false] rfl rfl (any_of HT_.out (by kernel_rfl)) (fun _ _ _ h => h) (Or.inl ⟨by rfl, ?_⟩) ?_ ?_
          rotate_left
          · intro w'
            go_simp
            with_reducible rfl
          rotate_left
          · simp only [Act.put, List.setIfInBounds_toArray, List.set_cons_zero, List.set_cons_succ, i64_w, i32_w]
            rfl
          refine pure_ (i := 9) (N := some 17) (v := ?_) (a' := ?_) #[true, true, true, true, true, true, false, false, false, true, false, false, false, false, false] rfl rfl (any_of HT_.out (by kernel_rfl)) (fun _ _ _ h => h) (Or.inl ⟨by rfl, ?_⟩) ?_ ?_
          rotate_left
          · intro w'
            go_simp
            with_reducible rfl
          rotate_left
          · simp only [Act.put, List.setIfInBounds_toArray, List.set_cons_zero, List.set_cons_succ, i64_w, i32_w]
            rfl
          refine pure_ (i := 10) (N := some 18) (v := ?_) (a' := ?_) #[true, true, true, true, true, true, false, false, false, true, true, false, false, false, false] rfl rfl (any_of HT_.out (by kernel_rfl)) (fun _ _ _ h => h) (Or.inl ⟨by rfl, ?_⟩) ?_ ?_
          rotate_left
          · intro w'
            go_simp
            with_reducible rfl
          rotate_left
          · simp only [Act.put, List.setIfInBounds_toArray, List.set_cons_zero, List.set_cons_succ, i64_w, i32_w]
            rfl
          refine pure_ (i := 11) (N := some 19) (v := ?_) (a' := ?_) #[true, true, true, true, true, true, false, false, false, true, true, true, false, false, false] rfl rfl (any_of HT_.out (by kernel_rfl)) (fun _ _ _ h => h) (Or.inl ⟨by rfl, ?_⟩) ?_ ?_
          rotate_left
          · intro w'
            go_simp
            with_reducible rfl
          rotate_left
          · simp only [Act.put, List.setIfInBounds_toArray, List.set_cons_zero, List.set_cons_succ, i64_w, i32_w]
            rfl
          refine take_ (i := 12) (N := some 20) (v := ?_) (a' := ?_) #[true, true, true, true, true, true, false, false, false, true, true, true, true, false, false] rfl rfl (take_ofW HT_.out HW_.out (by kernel_rfl)) (fun _ _ _ h => h) (Or.inl ⟨by rfl, ?_⟩) hHeld ?_ ?_
          rotate_left
          · intro w' s0
            go_simp
            with_reducible rfl
          rotate_left
          · simp only [Act.put, List.setIfInBounds_toArray, List.set_cons_zero, List.set_cons_succ, i64_w, i32_w]
            rfl
          refine one_ (i := 6) (N := some 14) #[true, true, true, true, true, true, true, false, false, true, true, true, true, false, false] rfl rfl (one_of HT_.out (by kernel_rfl)) (by decide) (fun K hK => ?_)
          refine goes_ Try.func47 (by kernel_rfl) rfl #[.slice A0 (l0.take ((ji4) : Int).toNat).length c0] (by rfl) rfl rfl (by (try simp only [List.map_toArray, List.map_cons, List.map_nil]); first | done | (rw [show (l0.take ((ji4) : Int).toNat).length = (ji4).toNat from (by rw [List.length_take]; have h_ : ((ji4) : Int) ≤ (l0.length : Int) := of_decide_eq_true (by first | (with_reducible assumption) | assumption); omega)] <;> rfl) | (simp only [hji4]; rfl) | rfl | (simp only [List.length_drop, List.length_take]; rfl)) ?_
          with_reducible refine (rosetteref01_Sum.calls k _ _ (l0.take ((ji4) : Int).toNat) t242 _ ?side1 ?side2 A7.out).mono ?_
          (case side1 => repeat (first | exact (Kd.C_below HR241.out HB.out) | (with_reducible refine Kd.C_alloc ?_ _) | (with_reducible refine Kd.C_drewN ?_ _) | (with_reducible refine Kd.C_drew ?_)))
          (case side2 => exact HC241.out)
          rintro e w' ⟨rfl, ⟨nd, rfl⟩⟩
          refine ⟨_, rfl, ?_⟩
          refine hK.out _ _ ((by have key_ : ∀ W_ : World, Below w.heap.size w W_ → (convert 23 9 (.slice A27 (l0.length - ji4.toNat) (c0 - (ji4).toNat))).run Try.prog W_ = .ok (.string (strOfNums (l0.drop ((ji4) : Int).toNat))) W_ := (fun W_ hb_ => by have h_ := Kd.C_string (P := Try.prog) (A := A27) (c := (c0 - (ji4).toNat)) Try.underlying23 Try.underlying5 Try.underlying9 (Kd.C_below HR246.out hb_); first | exact h_ | (rw [List.length_drop] at h_; exact h_) | (rw [List.length_take, Nat.min_eq_left (by omega)] at h_; exact h_)); first | exact key_ _ HB.out | exact key_ _ (pw_below_drewN HB.out _) | exact key_ _ (below_drew HB.out) | exact key_ _ (pw_below_drewN (below_drew HB.out) _))) (fun hHeld => ?_)
          clear hK K
          refine norm_ (a' := ?_) ?_ ?_
          rotate_left
          · show Act.put _ (some 14) _ = _
            simp only [Act.put, List.setIfInBounds_toArray, List.set_cons_zero, List.set_cons_succ, i64_w, i32_w]
            rfl
          refine one_ (i := 7) (N := some 15) #[true, true, true, true, true, true, true, true, false, true, true, true, true, false, false] rfl rfl (one_of HT_.out (by kernel_rfl)) (by decide) (fun K hK => ?_)
          refine goes_ Try.func46 (by kernel_rfl) rfl #[.int .u32 t242] (by rfl) rfl rfl (by (try simp only [List.map_toArray, List.map_cons, List.map_nil]); first | done | rfl | (simp only [List.length_drop, List.length_take]; rfl)) ?_
          with_reducible refine (rosetteref01_Low.calls t242 t243 _ A8.out).mono ?_
          rintro e w28 ⟨v244, rfl, ho0, hb⟩
          refine ⟨_, rfl, ?_⟩
          have n0_ := Aside0.mk (Kd.R_lower ho0 (below_size (by repeat (first | (with_reducible first | exact HB.out | apply below_alloc | apply pw_below_drewN | apply below_drew1) | exact HB.out))))
          have n1_ := Aside0.mk (below_step (by repeat (first | (with_reducible first | exact HB.out | apply below_alloc | apply pw_below_drewN | apply below_drew1) | exact HB.out)) hb)
          clear HB
          have HO245 := n0_
          have HB := n1_
          clear n0_ n1_
          (try clear hb)
          (try clear hb2)
          (try clear hk)
          (try clear hi)
          (try clear ho0)
          refine hK.out _ _ ((by have key_ : ∀ W_ : World, Below w.heap.size w W_ → (convert 23 9 (.slice A27 (l0.length - ji4.toNat) (c0 - (ji4).toNat))).run Try.prog W_ = .ok (.string (strOfNums (l0.drop ((ji4) : Int).toNat))) W_ := (fun W_ hb_ => by have h_ := Kd.C_string (P := Try.prog) (A := A27) (c := (c0 - (ji4).toNat)) Try.underlying23 Try.underlying5 Try.underlying9 (Kd.C_below HR246.out hb_); first | exact h_ | (rw [List.length_drop] at h_; exact h_) | (rw [List.length_take, Nat.min_eq_left (by omega)] at h_; exact h_)); first | exact key_ _ HB.out | exact key_ _ (pw_below_drewN HB.out _) | exact key_ _ (below_drew HB.out) | exact key_ _ (pw_below_drewN (below_drew HB.out) _))) (fun hHeld => ?_)
          clear hK K
          refine norm_ (a' := ?_) ?_ ?_
          rotate_left
          · show Act.put _ (some 15) _ = _
            simp only [Act.put, List.setIfInBounds_toArray, List.set_cons_zero, List.set_cons_succ, i64_w, i32_w]
            rfl
          refine one_ (i := 8) (N := some 16) #[true, true, true, true, true, true, true, true, true, true, true, true, true, false, false] rfl rfl (one_of HT_.out (by kernel_rfl)) (by decide) (fun K hK => ?_)
          have hcv29 := own_string (P := Try.prog) Try.underlying23 Try.underlying5 Try.underlying9 (Kd.own_of_R HO245.out)
          refine value_ (w1 := ?_) (v := ?_) (by rfl) rfl ?_ ?_
          rotate_left 2
          · go_simp
            constructor
            · rfl
            · rfl
          clear hcv29
          refine hK.out _ _ ((by have key_ : ∀ W_ : World, Below w.heap.size w W_ → (convert 23 9 (.slice A27 (l0.length - ji4.toNat) (c0 - (ji4).toNat))).run Try.prog W_ = .ok (.string (strOfNums (l0.drop ((ji4) : Int).toNat))) W_ := (fun W_ hb_ => by have h_ := Kd.C_string (P := Try.prog) (A := A27) (c := (c0 - (ji4).toNat)) Try.underlying23 Try.underlying5 Try.underlying9 (Kd.C_below HR246.out hb_); first | exact h_ | (rw [List.length_drop] at h_; exact h_) | (rw [List.length_take, Nat.min_eq_left (by omega)] at h_; exact h_)); first | exact key_ _ HB.out | exact key_ _ (pw_below_drewN HB.out _) | exact key_ _ (below_drew HB.out) | exact key_ _ (pw_below_drewN (below_drew HB.out) _))) (fun hHeld => ?_)
          clear hK K
          refine norm_ (a' := ?_) ?_ ?_
          rotate_left
          · show Act.put _ (some 16) _ = _
            simp only [Act.put, List.setIfInBounds_toArray, List.set_cons_zero, List.set_cons_succ, i64_w, i32_w]
            rfl
          refine pure_ (i := 13) (N := some 21) (v := ?_) (a' := ?_) #[true, true, true, true, true, true, true, true, true, true, true, true, true, true, false] rfl rfl (any_of HT_.out (by kernel_rfl)) (fun _ _ _ h => h) (Or.inl ⟨by rfl, ?_⟩) ?_ ?_
          rotate_left
          · intro w'
            go_simp
            with_reducible rfl
          rotate_left
          · simp only [Act.put, List.setIfInBounds_toArray, List.set_cons_zero, List.set_cons_succ, i64_w, i32_w]
            rfl
          refine pure_ (i := 14) (N := some 22) (v := ?_) (a' := ?_) #[true, true, true, true, true, true, true, true, true, true, true, true, true, true, true] rfl rfl (any_of HT_.out (by kernel_rfl)) (fun _ _ _ h => h) (Or.inl ⟨by rfl, ?_⟩) ?_ ?_
          rotate_left
          · intro w'
            go_simp
            with_reducible rfl
          rotate_left
          · simp only [Act.put, List.setIfInBounds_toArray, List.set_cons_zero, List.set_cons_succ, i64_w, i32_w]
            rfl
          refine done_ (done_of HT_.out (by kernel_rfl)) ?_
          try go_wp2
          go_ret2
          exact ⟨_, by first | rfl | (simp [errW_none, errW_some] <;> rfl) | (simp only [← hji4]; first | rfl | (simp [errW_none, errW_some] <;> rfl)) | (simp [*, errW_none, errW_some] <;> rfl), by first | exact Kd.R_nil _ _ _ _ _ | exact Kd.N_nil _ _ _ _ _ | exact Kd.V_nil _ _ _ _ _ | exact Kd.Q_nil _ _ _ _ _ | exact Kd.S_nil _ _ _ _ _, by repeat (first | (with_reducible first | exact HB.out | apply below_alloc | apply pw_below_drewN | apply below_drew1) | exact HB.out)⟩
      · rw [if_neg c6] at H
        exact absurd H (by simp)
    · rw [if_neg c5] at H
      exact absurd H (by simp)

end Go.Proofs.Yticpcjjgdkbcjaa.G
end

section
-- Written by a program of this session (wip/tools/myprint.py), over the kit's print.
namespace Go.Proofs.Yticpcjjgdkbcjaa.G
open Go.RowKit Go.Proofs.YticpcjjgdkbcjaaW.PrintWords Go.Proofs.YticpcjjgdkbcjaaW.PrintLast Go.Proofs.YticpcjjgdkbcjaaW.PrintMore
attribute [local go_sem] max2_int min2_int max_two min_two max_three min_three max_four min_four   -- for this text's walks alone
set_option linter.unusedVariables false
set_option linter.unusedSimpArgs false

-- BY HAND
-- IMPORT YticpcjjgdkbcjaaConcat
-- over: frame_Next.f
-- LIB Derived.BigQuiet
-- LIB Derived.Deep.QuietTactic
-- LIB Derived.Laws.BitsAllLaws
-- over: rosetteref01_Open.f frame_Next.f
def rosetteref03_Next.f (k : Nat) (l0 : List Int) : Option (List Int × Int × Int) :=
  if l0.length < 6 then some ([], 0, 2) else (rosetteref01_Open.f k (l0.take 6)).bind fun p => if p.2 = false then some ([], 0, 6) else if p.1.length = 2 ∧ u8s p.1 then
    (if rd p.1 0 + 256 * rd p.1 1 > 8192 then some ([], 0, 4) else if (l0.length : Int) < rd p.1 0 + 256 * rd p.1 1 + 10 then some ([], 0, 2) else
      (rosetteref01_Open.f k ((l0.take (rd p.1 0 + 256 * rd p.1 1 + 10).toNat).drop 6)).bind fun q => if q.2 = false then some ([], 0, 6) else some (q.1, rd p.1 0 + 256 * rd p.1 1 + 10, 0)) else none
theorem rosetteref03_Next.mono : ∀ a0 k, LeO (rosetteref03_Next.f k a0) (rosetteref03_Next.f (k + 1) a0) := by
  intro a0 k
  unfold rosetteref03_Next.f
  repeat' first
      | (with_reducible exact LeO.refl _)
      | (with_reducible refine LeO.ite ?_ ?_)
      | (with_reducible refine LeO.bind ?_ (fun _ => ?_))
      | exact rosetteref01_Open.mono _ _
set_option maxRecDepth 100000 in
set_option maxHeartbeats 2000000 in
theorem rosetteref03_Next.calls (k : Nat) (A0 : Option Addr) (c0 : Nat) (l0 : List Int) (r1 : List Int) (r2 r3 : Int) (w : World) (hr0 : Kd.C (Kd.int .u8) w A0 l0.length l0) (hc0 : l0.length ≤ c0) (h : rosetteref03_Next.f k l0 = some (r1, r2, r3)) :
    Calls Try.prog 28 #[.slice A0 l0.length c0] w fun e w' => ∃ v0_ : Value, e = .returned (.tuple #[v0_, .int .i64 r2, .int .i64 r3]) ∧ Kd.R (Kd.int .u8) 5 w' w.heap.size (fun _ => True) v0_ r1 ∧ Below w.heap.size w w' := by
  unfold rosetteref03_Next.f at h
  by_cases hlt : l0.length < 6
  · rw [if_pos hlt] at h
    simp only [Option.some.injEq, Prod.mk.injEq] at h
    obtain ⟨rfl, rfl, rfl⟩ := h
    go_enter Try.func28, Try.ntmps28
    go_wp2
    go_ret3
    exact ⟨_, rfl, Kd.R_nil _ _ _ _ _, Below.refl _ _⟩
  · rw [if_neg hlt] at h
    obtain ⟨⟨hd, ok⟩, h1, h⟩ := Option.bind_eq_some_iff.mp h
    simp only at h
    obtain ⟨T6, hT⟩ : ∃ T, T = l0.take 6 := ⟨_, rfl⟩
    have hl6 : T6.length = 6 := by rw [hT, List.length_take]; omega
    have hsplit : l0 = T6 ++ l0.drop 6 := by rw [hT, List.take_append_drop]
    rw [← hT] at h1
    have HR := Aside0.mk (HeldB.low hr0)
    have hR6 : HeldB w (fun k => k < w.heap.size) A0 T6 := by
      have hh := HR.out
      rw [hsplit] at hh
      intro h0
      obtain ⟨ad, e1, e2, e3⟩ := hh (by rw [List.length_append]; omega)
      refine ⟨ad, e1, e2, fun j hj => ?_⟩
      rw [e3 j (by rw [List.length_append]; omega)]
      simp [rd, List.getD_eq_getElem?_getD, List.getElem?_append_left hj]
    have hop := rosetteref01_Open.calls k A0 c0 T6 hd ok w (hR6.C (by omega)) (by omega) h1
    rw [hl6] at hop
    have HOP := Aside0.mk hop
    have HH := Aside0.mk h
    have HS := Aside0.mk hsplit
    clear hop h h1 hR6 hsplit hT hr0
    go_enter Try.func28, Try.ntmps28
    go_wp2_with fail
    refine HOP.out.mono ?_
    rintro e w2 ⟨v2, rfl, hRr, hB⟩
    have HB2 := Aside0.mk hB
    have HR2 := Aside0.mk (HR.out.below hB)
    have HO2 := Aside0.mk hRr
    clear hRr hB HR HOP
    have h := HH.out
    cases ok with
    | false =>
      rw [if_pos rfl] at h
      simp only [Option.some.injEq, Prod.mk.injEq] at h
      obtain ⟨rfl, rfl, rfl⟩ := h
      go_wp2
      go_ret3
      exact ⟨_, rfl, Kd.R_nil _ _ _ _ _, HB2.out⟩
    | true =>
      rw [if_neg (by decide)] at h
      split at h
      · rename_i hcond
        obtain ⟨hl2, hu2⟩ := hcond
        clear HH
        obtain ⟨Ah, ch, rfl, hch, _, hH, _⟩ := held_own HO2.out
        obtain ⟨gh, rfl⟩ : ∃ g, Ah = some ⟨g, 0, none⟩ := by
          obtain ⟨_, ho⟩ := kd_own HO2.out
          rcases ho with ⟨h1, h2⟩ | ⟨g, cap, cur, h1, h2, h3, h4, h5, h6, h7⟩
          · omega
          · simp only [Value.slice.injEq] at h1
            exact ⟨g, h1.1⟩
        have hI := HO2.out
        obtain ⟨q0, _⟩ := Kd.R_cell (d := (0 : Int)) hI (0 : Int) (by omega) (by omega)
        obtain ⟨q1, _⟩ := Kd.R_cell (d := (0 : Int)) hI (1 : Int) (by omega) (by omega)
        have H := Aside0.mk h
        have HU := Aside0.mk hu2
        clear hI hH h hu2
        have u0 := rd_u8 HU.out 0 (by omega)
        have u1 := rd_u8 HU.out 1 (by omega)
        have q0' : w2.cell? ⟨gh, 0, none⟩ = some (.int .u8 (rd hd 0)) := q0
        have q1' : w2.cell? ⟨gh, 1, none⟩ = some (.int .u8 (rd hd 1)) := q1
        clear q0 q1 HU
        rw [show ((0 : Nat) : Int) = 0 from rfl] at u0
        rw [show ((1 : Nat) : Int) = 1 from rfl] at u1
        generalize rd hd 0 = x at *
        generalize rd hd 1 = y at *
        rw [hl2]
        go_wp2_with fail
        go_quiet (fail)
        have hn0 : 0 ≤ x + 256 * y := by omega
        generalize x + 256 * y = n at *
        obtain ⟨m, rfl⟩ := Int.eq_ofNat_of_zero_le hn0
        clear u0 u1 q0' q1' hn0
        have HB3 : Aside0 (Below w.heap.size w (w2.drewN nq)) := ⟨pw_below_drewN HB2.out _⟩
        have HR3 : Aside0 (HeldB (w2.drewN nq) (fun k => k < w.heap.size) A0 l0) := ⟨HR2.out.below (pw_below_drewN (Below.refl _ _) _)⟩
        clear HB2 HR2 HO2
        generalize w2.drewN nq = w3 at HB3 HR3 ⊢
        have h := H.out
        clear H
        by_cases hm : 8192 < m
        · rw [if_pos (by omega)] at h
          simp only [Option.some.injEq, Prod.mk.injEq] at h
          obtain ⟨rfl, rfl, rfl⟩ := h
          go_wp2
          go_ret3
          exact ⟨_, rfl, Kd.R_nil _ _ _ _ _, HB3.out⟩
        · rw [if_neg (by omega)] at h
          by_cases hs : l0.length < m + 10
          · rw [if_pos (by omega)] at h
            simp only [Option.some.injEq, Prod.mk.injEq] at h
            obtain ⟨rfl, rfl, rfl⟩ := h
            go_wp2
            go_ret3
            exact ⟨_, rfl, Kd.R_nil _ _ _ _ _, HB3.out⟩
          · rw [if_neg (by omega)] at h
            obtain ⟨⟨x2, ok2⟩, h2, h⟩ := Option.bind_eq_some_iff.mp h
            have H2 := Aside0.mk h2
            have H := Aside0.mk h
            clear h2 h
            obtain ⟨ad, rfl⟩ : ∃ ad, A0 = some ad := by
              obtain ⟨ad, e, _, _⟩ := HR3.out (by omega)
              exact ⟨ad, e⟩
            have hT := held_mid HR3.out 6 (m + 10) (by decide) (by omega)
            have hlT : ((l0.take (m + 10)).drop 6).length = 10 + m - 6 := by rw [List.length_drop, List.length_take]; omega
            have h2 := H2.out
            rw [show ((m : Int) + 10).toNat = m + 10 by omega] at h2
            have hop := rosetteref01_Open.calls k _ (c0 - 6) _ x2 ok2 w3 (hT.C (by rw [hlT]; omega)) (by rw [hlT]; omega) h2
            rw [hlT] at hop
            have HOP := Aside0.mk hop
            clear hop h2 hlT hT H2
            go_wp2_with fail
            refine HOP.out.mono ?_
            rintro e w4 ⟨v4, rfl, hRr, hB⟩
            have HB4 : Aside0 (Below w.heap.size w w4) := ⟨HB3.out.trans (hB.mono HB3.out.size)⟩
            have hRl := Kd.R_lower hRr (base' := w.heap.size) HB3.out.size
            have h := H.out
            clear H HOP HB3 hB hRr
            cases ok2 with
            | false =>
              rw [if_pos rfl] at h
              simp only [Option.some.injEq, Prod.mk.injEq] at h
              obtain ⟨rfl, rfl, rfl⟩ := h
              go_wp2
              go_ret3
              exact ⟨_, rfl, Kd.R_nil _ _ _ _ _, HB4.out⟩
            | true =>
              rw [if_neg (by decide)] at h
              simp only [Option.some.injEq, Prod.mk.injEq] at h
              obtain ⟨rfl, rfl, rfl⟩ := h
              have HRl := Aside0.mk hRl
              clear hRl
              go_wp2
              go_ret3
              exact ⟨v4, (by show Ending.returned (Value.tuple #[v4, .int .i64 (10 + (m : Int)), .int .i64 0]) = _; rw [show 10 + (m : Int) = (m : Int) + 10 by omega]), HRl.out, HB4.out⟩
      · cases h

end Go.Proofs.Yticpcjjgdkbcjaa.G
end
