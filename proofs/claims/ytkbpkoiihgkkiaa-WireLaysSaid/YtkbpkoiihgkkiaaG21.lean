-- Written by a program of this session (wip/tools/myprint.py), over the kit's print.
import Derived.Test.YtkbpkoiihgkkiaaG0
import Derived.Test.YtkbpkoiihgkkiaaG3
import Derived.Test.YtkbpkoiihgkkiaaG5
import Derived.Test.YtkbpkoiihgkkiaaG6
import Derived.Test.YtkbpkoiihgkkiaaG18
import Derived.Test.YtkbpkoiihgkkiaaG19
import Derived.Test.YtkbpkoiihgkkiaaG20
import Derived.Test.YtkbpkoiihgkkiaaSmall02
import Derived.Test.YtkbpkoiihgkkiaaWirePure
import Derived.Deep.RegionHeld3
import Derived.Deep.CutRange
namespace Go.Proofs.Ytkbpkoiihgkkiaa.G
open Go.RowKit Go.Proofs.YtkbpkoiihgkkiaaW.PrintWords Go.Proofs.YtkbpkoiihgkkiaaW.PrintLast Go.Proofs.YtkbpkoiihgkkiaaW.PrintMore
attribute [local go_sem] max2_int min2_int max_two min_two max_three min_three max_four min_four   -- for this text's walks alone
set_option linter.unusedVariables false
set_option linter.unusedSimpArgs false

-- BY HAND
-- IMPORT YtkbpkoiihgkkiaaSmall02
-- IMPORT YtkbpkoiihgkkiaaWirePure
-- LIB Derived.Deep.RegionHeld3
-- LIB Derived.Deep.CutRange
-- over: rosetteref02_Put.f rosetteref02_PutInt.f rosetteref02_PutText.f wire_PutText.f
def rosettelaw02_WireLays.f (l0 : List Int) (a1 a2 : Int) (a3 : ByteArray) : Option Bool := if l0.length ≤ 140737488351232 ∧ u8s l0 ∧ (0 ≤ a1 ∧ a1 < 18446744073709551616) ∧ (-9223372036854775808 ≤ a2 ∧ a2 < 9223372036854775808) then some true else none
theorem strA {w : World} {A : Option Addr} {l : List Int} (h : (Kd.int .u8).C w A l.length l) (c : Nat) : (convert 22 9 (.slice A l.length c)).run Try.prog w = .ok (.string (strOfNums l)) w :=
  Kd.C_string (P := Try.prog) (A := A) (c := c) Try.underlying22 Try.underlying5 Try.underlying9 h
theorem below_via {w W W' : World} (h : Below W.heap.size W W') (h0 : Below w.heap.size w W) : Below w.heap.size w W' := h0.trans (h.mono h0.size)
theorem rput_f (l : List Int) (n : Int) (h0 : 0 ≤ n) (h1 : n < 18446744073709551616) (hl : l.length ≤ 140737488355300) : rosetteref02_Put.f l n = some (l ++ putL n) := by
  unfold rosetteref02_Put.f
  rw [if_pos ⟨h0, h1, hl⟩]
theorem rputInt_f (l : List Int) (a : Int) (h0 : -9223372036854775808 ≤ a) (h1 : a < 9223372036854775808) (hl : l.length ≤ 140737488355300) : rosetteref02_PutInt.f l a = some (l ++ putL (zig a)) := by
  have hz := zig_lt a h0 h1
  unfold rosetteref02_PutInt.f
  by_cases h : a < 0
  · rw [if_pos h, show IntKind.u64.wrap ((IntKind.u64.wrap (2 * (IntKind.u64.wrap (wrap64 ((-1) - a))))) + 1) = zig a by simp only [IntKind.wrap_u64]; unfold wrap64 zig; rw [if_neg (by omega)]; omega]
    rw [rput_f l _ hz.1 hz.2 hl]
    rfl
  · rw [if_neg h, show IntKind.u64.wrap (2 * (IntKind.u64.wrap a)) = zig a by simp only [IntKind.wrap_u64]; unfold zig; rw [if_pos (by omega)]; omega]
    rw [rput_f l _ hz.1 hz.2 hl]
    rfl
theorem rputText_f (l : List Int) (s : ByteArray) (hl : l.length ≤ 140737488350000) (hs : s.size ≤ 4000) : rosetteref02_PutText.f l s = some (l ++ putL s.size ++ bytesOf s) := by
  unfold rosetteref02_PutText.f
  rw [wrap_size _ (by omega), rput_f l _ (by omega) (by omega) (by omega)]
  have := putL_len (s.size : Int)
  simp only [Option.bind_some]
  rw [if_pos (by simp only [List.length_append]; omega)]
set_option maxRecDepth 100000 in
set_option maxHeartbeats 4000000 in
theorem rosettelaw02_WireLays.calls (A0 : Option Addr) (c0 : Nat) (l0 : List Int) (a1 a2 : Int) (a3 : ByteArray) (r : Bool) (w : World) (hr0 : Kd.C (Kd.int .u8) w A0 l0.length l0) (hc0 : l0.length ≤ c0) (h : rosettelaw02_WireLays.f l0 a1 a2 a3 = some r) :
    Calls Try.prog 3 #[.slice A0 l0.length c0, .int .u64 a1, .int .i64 a2, .string a3] w fun e w' => e = .returned (.bool r) ∧ Below w.heap.size w w' := by
  unfold rosettelaw02_WireLays.f at h
  split at h
  · rename_i hcond
    obtain rfl : true = r := Option.some.inj h
    obtain ⟨X, hX⟩ : ∃ X, X = l0 ++ putL a1 := ⟨_, rfl⟩
    obtain ⟨Y, hY⟩ : ∃ Y, Y = l0 ++ putL (zig a2) := ⟨_, rfl⟩
    obtain ⟨Z, hZ⟩ : ∃ Z, Z = l0 ++ putL (a3.size : Int) ++ bytesOf a3 := ⟨_, rfl⟩
    have EX := Aside0.mk hX
    have EY := Aside0.mk hY
    have EZ := Aside0.mk hZ
    clear hX hY hZ
    have HC0 := Aside0.mk hcond
    have HR0 := Aside0.mk (HeldB.low hr0)
    clear h hcond hr0
    go_enter Try.func3, Try.ntmps3
    go_wp2_with fail
    refine (small_any _).mono ?_
    rintro e w1 ⟨rfl, hB⟩
    have HB1 : Aside0 (Below w.heap.size w w1) := ⟨hB⟩
    have HR1 := Aside0.mk (HR0.out.below hB)
    clear hB HR0
    by_cases hg1 : l0.length ≤ 300
    · by_cases hg2 : a3.size ≤ 300
      · have hmk := make_cap (P := Try.prog) 22 5 .u8 1 Try.underlying22 info_u8 (l0.length : Int) ((l0.length : Int) + 40) (by omega) (by omega) (by omega) (by omega) w1
        have hsz8 : (Try.prog.info? 5).map (·.size) = some 1 := by kernel_rfl
        go_wp2_with ((refine copy_made (w0 := w1) w1.heap.size rfl (.tmp 32) (.tmp 33) 22 22 5 .u8 rfl Try.underlying22 hsz8 w1.heap.size l0.length (l0.length + 40) (l0.length + 40) A0 c0 l0 rfl rfl rfl (heap_alloc_new w1 _) rfl (by omega) (by unfold maxLen; omega) ((HR1.out.below ((Below.refl _ _).alloc (Nat.le_refl _) _)).C (by omega)) ((Below.refl _ _).alloc (Nat.le_refl _) _) (Nat.le_refl _) ?_); intro w2 HO2 hB2; clear hmk)
        obtain ⟨As, ns, e0, hcs, _, hHs, hCs⟩ := held_own HO2.out
        simp only [Value.slice.injEq] at e0
        obtain ⟨rfl, _, rfl⟩ := e0
        have HB2 : Aside0 (Below w.heap.size w w2) := ⟨HB1.out.trans (hB2.mono HB1.out.size)⟩
        have HR2 := Aside0.mk (HR1.out.below hB2)
        have HS2 := Aside0.mk hHs
        clear hB2 HB1 HR1 hHs hCs HO2
        refine (wire_Put.calls _ _ l0 a1 X _ (HS2.out.C (by omega)) hcs (by rw [EX.out]; exact put_f l0 a1 HC0.out.2.2.1.1 HC0.out.2.2.1.2 (by omega))).mono ?_
        rintro e w3 ⟨v, rfl, hR, hB⟩
        obtain ⟨Ax, nx, rfl, hcx, hmx, hH, _⟩ := held_own hR
        have HB3 : Aside0 (Below w.heap.size w w3) := ⟨HB2.out.trans (hB.mono HB2.out.size)⟩
        have HR3 := Aside0.mk (HR2.out.below hB)
        have HS3 := Aside0.mk (HS2.out.below hB)
        have HX3 := Aside0.mk hH
        have HXR3 := Aside0.mk (Kd.R_mono (ok' := fun k => w2.heap.size ≤ k ∧ k < w3.heap.size) (Kd.R_bound hR) (fun k hk => ⟨hk.2.1, hk.2.2.1⟩))
        have HG3 := Aside0.mk (show w.heap.size ≤ w2.heap.size ∧ w2.heap.size ≤ w3.heap.size from ⟨HB2.out.size, hB.size⟩)
        clear hR hB hH HB2 HR2 HS2 
        go_wp2_with fail
        refine (wire_PutInt.calls _ _ l0 a2 Y _ (HS3.out.C (by omega)) hcs (by rw [EY.out]; exact putInt_f l0 a2 HC0.out.2.2.2.1 HC0.out.2.2.2.2 (by omega))).mono ?_
        rintro e w4 ⟨v, rfl, hR, hB⟩
        obtain ⟨Ay, ny, rfl, hcy, hmy, hH, _⟩ := held_own hR
        have HB4 : Aside0 (Below w.heap.size w w4) := ⟨HB3.out.trans (hB.mono HB3.out.size)⟩
        have HR4 := Aside0.mk (HR3.out.below hB)
        have HS4 := Aside0.mk (HS3.out.below hB)
        have HY4 := Aside0.mk hH
        have HX4 := Aside0.mk (HX3.out.below hB)
        have HXR4 := Aside0.mk (Kd.R_below HXR3.out hB)
        have HG4 := Aside0.mk (hB.size)
        clear HX3 HXR3
        clear hR hB hH HB3 HR3 HS3 
        go_wp2_with fail
        refine (wire_PutText.calls _ _ l0 a3 Z _ (HS4.out.C (by omega)) hcs (by rw [EZ.out]; exact putText_f l0 a3 (by omega) (by omega))).mono ?_
        rintro e w5 ⟨v, rfl, hR, hB⟩
        obtain ⟨Az, nz, rfl, hcz, hmz, hH, _⟩ := held_own hR
        have HB5 : Aside0 (Below w.heap.size w w5) := ⟨HB4.out.trans (hB.mono HB4.out.size)⟩
        have HR5 := Aside0.mk (HR4.out.below hB)
        have HS5 := Aside0.mk (HS4.out.below hB)
        have HY5 := Aside0.mk (HY4.out.below hB)
        have HZ5 := Aside0.mk hH
        have HX5 := Aside0.mk (HX4.out.below hB)
        have HXR5 := Aside0.mk (Kd.R_below HXR4.out hB)
        have HL := Aside0.mk (show X.length ≤ 9223372036854775807 ∧ Y.length ≤ 9223372036854775807 ∧ Z.length ≤ 9223372036854775807 from ⟨by omega, by omega, by omega⟩)
        clear HX4 HXR4
        clear hR hB hH HB4 HR4 HS4 HY4
        have S5 : Aside0 (∀ W : World, Below w5.heap.size w5 W → Below w5.heap.size w5 W ∧ (∀ c : Nat, (convert 22 9 (.slice Ax X.length c)).run Try.prog W = .ok (.string (strOfNums X)) W) ∧ (∀ c : Nat, (convert 22 9 (.slice Ay Y.length c)).run Try.prog W = .ok (.string (strOfNums Y)) W) ∧ (∀ c : Nat, (convert 22 9 (.slice Az Z.length c)).run Try.prog W = .ok (.string (strOfNums Z)) W)) := ⟨fun W hW => ⟨hW, fun c => strA ((HX5.out.below hW).C HL.out.1) c, fun c => strA ((HY5.out.below hW).C HL.out.2.1) c, fun c => strA ((HZ5.out.below hW).C HL.out.2.2) c⟩⟩
        go_upto_region 9 with fail
        go_cut [14] from 44 to 68 (fun s wx => s = .bool true ∧ Below w5.heap.size w5 wx)
        case first =>
          refine wp_region_held_drew (S := (fun W => Below w5.heap.size w5 W ∧ (∀ c : Nat, (convert 22 9 (.slice Ax X.length c)).run Try.prog W = .ok (.string (strOfNums X)) W) ∧ (∀ c : Nat, (convert 22 9 (.slice Ay Y.length c)).run Try.prog W = .ok (.string (strOfNums Y)) W) ∧ (∀ c : Nat, (convert 22 9 (.slice Az Z.length c)).run Try.prog W = .ok (.string (strOfNums Z)) W))) (by kernel_rfl) (S5.out _ (below_drew (Below.refl _ _))) (fun hHeld => ?_)
          refine wpAnyH_take (i := 0) (oi := { dst := some 44, op := Go.Op.move (Go.Operand.tmp 11), type := 22, pos := "law.go:40", after := #[], guard := none }) (v := ?_) rfl (by kernel_rfl) (by kernel_rfl) (by kernel_rfl) (fun _ _ _ h => h) (Or.inl ⟨by rfl, ?_⟩) (by assumption) ?_
          rotate_left
          · intro w hSw
            try dsimp only at hSw
            go_simp
            all_goals with_reducible rfl
          try simp only [Act.put, List.setIfInBounds_toArray, List.set_cons_zero, List.set_cons_succ]
          refine wpAnyH_take (i := 1) (oi := { dst := some 45, op := Go.Op.convert 22 9 (Go.Operand.tmp 44), type := 9, pos := "law.go:40", after := #[{ on := 0, ground := Go.Ground.data }], guard := none }) (v := ?_) rfl (by kernel_rfl) (by kernel_rfl) (by kernel_rfl) (fun _ _ _ h => h) (Or.inl ⟨by rfl, ?_⟩) (by assumption) ?_
          rotate_left
          · intro w hSw
            try dsimp only at hSw
            go_simp
            all_goals with_reducible rfl
          try simp only [Act.put, List.setIfInBounds_toArray, List.set_cons_zero, List.set_cons_succ]
          refine wpAnyH_take (i := 2) (oi := { dst := some 46, op := Go.Op.move (Go.Operand.tmp 0), type := 22, pos := "law.go:40", after := #[], guard := none }) (v := ?_) rfl (by kernel_rfl) (by kernel_rfl) (by kernel_rfl) (fun _ _ _ h => h) (Or.inl ⟨by rfl, ?_⟩) (by assumption) ?_
          rotate_left
          · intro w hSw
            try dsimp only at hSw
            go_simp
            all_goals with_reducible rfl
          try simp only [Act.put, List.setIfInBounds_toArray, List.set_cons_zero, List.set_cons_succ]
          refine wpAnyH_take (i := 3) (oi := { dst := some 47, op := Go.Op.move (Go.Operand.tmp 1), type := 23, pos := "law.go:40", after := #[], guard := none }) (v := ?_) rfl (by kernel_rfl) (by kernel_rfl) (by kernel_rfl) (fun _ _ _ h => h) (Or.inl ⟨by rfl, ?_⟩) (by assumption) ?_
          rotate_left
          · intro w hSw
            try dsimp only at hSw
            go_simp
            all_goals with_reducible rfl
          try simp only [Act.put, List.setIfInBounds_toArray, List.set_cons_zero, List.set_cons_succ]
          refine wpAnyH_ready (rs := [4]) (by kernel_rfl) (by simp) ?_
          refine AllReadyH.cons (o := { dst := some 48, op := Go.Op.call { callee := Go.Callee.value (Go.Operand.func 12), args := #[Go.Operand.tmp 46, Go.Operand.tmp 47], argTypes := #[22, 23] }, type := 22, pos := "law.go:40", after := #[{ on := 2, ground := Go.Ground.data }, { on := 3, ground := Go.Ground.data }], guard := none }) rfl (fun K hK => ?_) AllReadyH.nil
          go_simp
          (go_at_call 12; refine Calls.mono (rosetteref02_Put.calls A0 c0 l0 a1 X _ ((HR5.out.below hHeld.1).C (by omega)) hc0 (by rw [EX.out]; exact rput_f l0 a1 HC0.out.2.2.1.1 HC0.out.2.2.1.2 (by omega))) ?_; rintro e w6 ⟨v, rfl, hR, hB⟩; obtain ⟨Ar, nr, rfl, _, _, hH, _⟩ := held_own hR; have hb6 := below_via hB hHeld.1; have hc6 := strA (hH.C (by omega)) nr; clear hR hB hH hHeld)
          go_wp2_with fail
          refine hK.out _ _ (S5.out _ (by first | assumption | exact hHeld.1)) (fun hHeld => ?_)
          clear hK K
          try simp only [Act.put, List.setIfInBounds_toArray, List.set_cons_zero, List.set_cons_succ]
          refine wpAnyH_ready (rs := [5]) (by kernel_rfl) (by simp) ?_
          refine AllReadyH.cons (o := { dst := some 49, op := Go.Op.convert 22 9 (Go.Operand.tmp 48), type := 9, pos := "law.go:40", after := #[{ on := 4, ground := Go.Ground.data }], guard := none }) rfl (fun K hK => ?_) AllReadyH.nil
          go_simp
          refine hK.out _ _ (S5.out _ (by first | assumption | exact hHeld.1)) (fun hHeld => ?_)
          clear hK K
          try simp only [Act.put, List.setIfInBounds_toArray, List.set_cons_zero, List.set_cons_succ]
          refine wpAnyH_take (i := 6) (oi := { dst := some 50, op := Go.Op.binOp Go.BinOp.eql 9 (Go.Operand.tmp 45) (Go.Operand.tmp 49) 9, type := 4, pos := "law.go:40", after := #[{ on := 1, ground := Go.Ground.data }, { on := 5, ground := Go.Ground.data }], guard := none }) (v := ?_) rfl (by kernel_rfl) (by kernel_rfl) (by kernel_rfl) (fun _ _ _ h => h) (Or.inl ⟨by rfl, ?_⟩) (by assumption) ?_
          rotate_left
          · intro w hSw
            try dsimp only at hSw
            go_simp
            all_goals with_reducible rfl
          try simp only [Act.put, List.setIfInBounds_toArray, List.set_cons_zero, List.set_cons_succ]
          refine wpAnyH_take (i := 7) (oi := { dst := some 51, op := Go.Op.move (Go.Operand.tmp 50), type := 4, pos := "law.go:40", after := #[{ on := 6, ground := Go.Ground.data }, { on := 4, ground := Go.Ground.chain }], guard := none }) (v := ?_) rfl (by kernel_rfl) (by kernel_rfl) (by kernel_rfl) (fun _ _ _ h => h) (Or.inl ⟨by rfl, ?_⟩) (by assumption) ?_
          rotate_left
          · intro w hSw
            try dsimp only at hSw
            go_simp
            all_goals with_reducible rfl
          try simp only [Act.put, List.setIfInBounds_toArray, List.set_cons_zero, List.set_cons_succ]
          refine wpAnyH_take (i := 8) (oi := { dst := some 52, op := Go.Op.move (Go.Operand.tmp 12), type := 22, pos := "law.go:40", after := #[{ on := 7, ground := Go.Ground.guard }], guard := some (7, true) }) (v := ?_) rfl (by kernel_rfl) (by kernel_rfl) (by kernel_rfl) (fun _ _ _ h => h) (Or.inl ⟨by rfl, ?_⟩) (by assumption) ?_
          rotate_left
          · intro w hSw
            try dsimp only at hSw
            go_simp
            all_goals with_reducible rfl
          try simp only [Act.put, List.setIfInBounds_toArray, List.set_cons_zero, List.set_cons_succ]
          refine wpAnyH_take (i := 9) (oi := { dst := some 53, op := Go.Op.convert 22 9 (Go.Operand.tmp 52), type := 9, pos := "law.go:40", after := #[{ on := 8, ground := Go.Ground.data }, { on := 7, ground := Go.Ground.guard }], guard := some (7, true) }) (v := ?_) rfl (by kernel_rfl) (by kernel_rfl) (by kernel_rfl) (fun _ _ _ h => h) (Or.inl ⟨by rfl, ?_⟩) (by assumption) ?_
          rotate_left
          · intro w hSw
            try dsimp only at hSw
            go_simp
            all_goals with_reducible rfl
          try simp only [Act.put, List.setIfInBounds_toArray, List.set_cons_zero, List.set_cons_succ]
          refine wpAnyH_take (i := 10) (oi := { dst := some 54, op := Go.Op.move (Go.Operand.tmp 0), type := 22, pos := "law.go:40", after := #[{ on := 7, ground := Go.Ground.guard }], guard := some (7, true) }) (v := ?_) rfl (by kernel_rfl) (by kernel_rfl) (by kernel_rfl) (fun _ _ _ h => h) (Or.inl ⟨by rfl, ?_⟩) (by assumption) ?_
          rotate_left
          · intro w hSw
            try dsimp only at hSw
            go_simp
            all_goals with_reducible rfl
          try simp only [Act.put, List.setIfInBounds_toArray, List.set_cons_zero, List.set_cons_succ]
          refine wpAnyH_take (i := 11) (oi := { dst := some 55, op := Go.Op.move (Go.Operand.tmp 2), type := 3, pos := "law.go:40", after := #[{ on := 7, ground := Go.Ground.guard }], guard := some (7, true) }) (v := ?_) rfl (by kernel_rfl) (by kernel_rfl) (by kernel_rfl) (fun _ _ _ h => h) (Or.inl ⟨by rfl, ?_⟩) (by assumption) ?_
          rotate_left
          · intro w hSw
            try dsimp only at hSw
            go_simp
            all_goals with_reducible rfl
          try simp only [Act.put, List.setIfInBounds_toArray, List.set_cons_zero, List.set_cons_succ]
          refine wpAnyH_ready (rs := [12]) (by kernel_rfl) (by simp) ?_
          refine AllReadyH.cons (o := { dst := some 56, op := Go.Op.call { callee := Go.Callee.value (Go.Operand.func 13), args := #[Go.Operand.tmp 54, Go.Operand.tmp 55], argTypes := #[22, 3] }, type := 22, pos := "law.go:40", after := #[{ on := 10, ground := Go.Ground.data }, { on := 11, ground := Go.Ground.data }, { on := 7, ground := Go.Ground.chain }, { on := 7, ground := Go.Ground.guard }], guard := some (7, true) }) rfl (fun K hK => ?_) AllReadyH.nil
          go_simp
          (go_at_call 13; refine Calls.mono (rosetteref02_PutInt.calls A0 c0 l0 a2 Y _ ((HR5.out.below hHeld.1).C (by omega)) hc0 (by rw [EY.out]; exact rputInt_f l0 a2 HC0.out.2.2.2.1 HC0.out.2.2.2.2 (by omega))) ?_; rintro e w6 ⟨v, rfl, hR, hB⟩; obtain ⟨Ar, nr, rfl, _, _, hH, _⟩ := held_own hR; have hb6 := below_via hB hHeld.1; have hc6 := strA (hH.C (by omega)) nr; clear hR hB hH hHeld)
          go_wp2_with fail
          refine hK.out _ _ (S5.out _ (by first | assumption | exact hHeld.1)) (fun hHeld => ?_)
          clear hK K
          try simp only [Act.put, List.setIfInBounds_toArray, List.set_cons_zero, List.set_cons_succ]
          refine wpAnyH_ready (rs := [13]) (by kernel_rfl) (by simp) ?_
          refine AllReadyH.cons (o := { dst := some 57, op := Go.Op.convert 22 9 (Go.Operand.tmp 56), type := 9, pos := "law.go:40", after := #[{ on := 12, ground := Go.Ground.data }, { on := 7, ground := Go.Ground.guard }], guard := some (7, true) }) rfl (fun K hK => ?_) AllReadyH.nil
          go_simp
          refine hK.out _ _ (S5.out _ (by first | assumption | exact hHeld.1)) (fun hHeld => ?_)
          clear hK K
          try simp only [Act.put, List.setIfInBounds_toArray, List.set_cons_zero, List.set_cons_succ]
          refine wpAnyH_take (i := 14) (oi := { dst := some 58, op := Go.Op.binOp Go.BinOp.eql 9 (Go.Operand.tmp 53) (Go.Operand.tmp 57) 9, type := 4, pos := "law.go:40", after := #[{ on := 9, ground := Go.Ground.data }, { on := 13, ground := Go.Ground.data }, { on := 7, ground := Go.Ground.guard }], guard := some (7, true) }) (v := ?_) rfl (by kernel_rfl) (by kernel_rfl) (by kernel_rfl) (fun _ _ _ h => h) (Or.inl ⟨by rfl, ?_⟩) (by assumption) ?_
          rotate_left
          · intro w hSw
            try dsimp only at hSw
            go_simp
            all_goals with_reducible rfl
          try simp only [Act.put, List.setIfInBounds_toArray, List.set_cons_zero, List.set_cons_succ]
          refine wpAnyH_take (i := 15) (oi := { dst := some 59, op := Go.Op.pick (Go.Operand.tmp 51) (Go.Operand.tmp 58) (Go.Operand.const (Go.Value.bool false)), type := 4, pos := "law.go:40", after := #[{ on := 7, ground := Go.Ground.data }, { on := 14, ground := Go.Ground.data }], guard := none }) (v := ?_) rfl (by kernel_rfl) (by kernel_rfl) (by kernel_rfl) (fun _ _ _ h => h) (Or.inl ⟨by rfl, ?_⟩) (by assumption) ?_
          rotate_left
          · intro w hSw
            try dsimp only at hSw
            go_simp
            all_goals with_reducible rfl
          try simp only [Act.put, List.setIfInBounds_toArray, List.set_cons_zero, List.set_cons_succ]
          refine wpAnyH_take (i := 16) (oi := { dst := some 60, op := Go.Op.move (Go.Operand.tmp 59), type := 4, pos := "law.go:40", after := #[{ on := 15, ground := Go.Ground.data }, { on := 12, ground := Go.Ground.chain }], guard := none }) (v := ?_) rfl (by kernel_rfl) (by kernel_rfl) (by kernel_rfl) (fun _ _ _ h => h) (Or.inl ⟨by rfl, ?_⟩) (by assumption) ?_
          rotate_left
          · intro w hSw
            try dsimp only at hSw
            go_simp
            all_goals with_reducible rfl
          try simp only [Act.put, List.setIfInBounds_toArray, List.set_cons_zero, List.set_cons_succ]
          refine wpAnyH_take (i := 17) (oi := { dst := some 61, op := Go.Op.move (Go.Operand.tmp 13), type := 22, pos := "law.go:40", after := #[{ on := 16, ground := Go.Ground.guard }], guard := some (16, true) }) (v := ?_) rfl (by kernel_rfl) (by kernel_rfl) (by kernel_rfl) (fun _ _ _ h => h) (Or.inl ⟨by rfl, ?_⟩) (by assumption) ?_
          rotate_left
          · intro w hSw
            try dsimp only at hSw
            go_simp
            all_goals with_reducible rfl
          try simp only [Act.put, List.setIfInBounds_toArray, List.set_cons_zero, List.set_cons_succ]
          refine wpAnyH_take (i := 18) (oi := { dst := some 62, op := Go.Op.convert 22 9 (Go.Operand.tmp 61), type := 9, pos := "law.go:40", after := #[{ on := 17, ground := Go.Ground.data }, { on := 16, ground := Go.Ground.guard }], guard := some (16, true) }) (v := ?_) rfl (by kernel_rfl) (by kernel_rfl) (by kernel_rfl) (fun _ _ _ h => h) (Or.inl ⟨by rfl, ?_⟩) (by assumption) ?_
          rotate_left
          · intro w hSw
            try dsimp only at hSw
            go_simp
            all_goals with_reducible rfl
          try simp only [Act.put, List.setIfInBounds_toArray, List.set_cons_zero, List.set_cons_succ]
          refine wpAnyH_take (i := 19) (oi := { dst := some 63, op := Go.Op.move (Go.Operand.tmp 0), type := 22, pos := "law.go:40", after := #[{ on := 16, ground := Go.Ground.guard }], guard := some (16, true) }) (v := ?_) rfl (by kernel_rfl) (by kernel_rfl) (by kernel_rfl) (fun _ _ _ h => h) (Or.inl ⟨by rfl, ?_⟩) (by assumption) ?_
          rotate_left
          · intro w hSw
            try dsimp only at hSw
            go_simp
            all_goals with_reducible rfl
          try simp only [Act.put, List.setIfInBounds_toArray, List.set_cons_zero, List.set_cons_succ]
          refine wpAnyH_take (i := 20) (oi := { dst := some 64, op := Go.Op.move (Go.Operand.tmp 3), type := 9, pos := "law.go:40", after := #[{ on := 16, ground := Go.Ground.guard }], guard := some (16, true) }) (v := ?_) rfl (by kernel_rfl) (by kernel_rfl) (by kernel_rfl) (fun _ _ _ h => h) (Or.inl ⟨by rfl, ?_⟩) (by assumption) ?_
          rotate_left
          · intro w hSw
            try dsimp only at hSw
            go_simp
            all_goals with_reducible rfl
          try simp only [Act.put, List.setIfInBounds_toArray, List.set_cons_zero, List.set_cons_succ]
          refine wpAnyH_ready (rs := [21]) (by kernel_rfl) (by simp) ?_
          refine AllReadyH.cons (o := { dst := some 65, op := Go.Op.call { callee := Go.Callee.value (Go.Operand.func 14), args := #[Go.Operand.tmp 63, Go.Operand.tmp 64], argTypes := #[22, 9] }, type := 22, pos := "law.go:40", after := #[{ on := 19, ground := Go.Ground.data }, { on := 20, ground := Go.Ground.data }, { on := 16, ground := Go.Ground.chain }, { on := 16, ground := Go.Ground.guard }], guard := some (16, true) }) rfl (fun K hK => ?_) AllReadyH.nil
          go_simp
          (go_at_call 14; refine Calls.mono (rosetteref02_PutText.calls A0 c0 l0 a3 Z _ ((HR5.out.below hHeld.1).C (by omega)) hc0 (by rw [EZ.out]; exact rputText_f l0 a3 (by omega) (by omega))) ?_; rintro e w6 ⟨v, rfl, hR, hB⟩; obtain ⟨Ar, nr, rfl, _, _, hH, _⟩ := held_own hR; have hb6 := below_via hB hHeld.1; have hc6 := strA (hH.C (by omega)) nr; clear hR hB hH hHeld)
          go_wp2_with fail
          refine hK.out _ _ (S5.out _ (by first | assumption | exact hHeld.1)) (fun hHeld => ?_)
          clear hK K
          try simp only [Act.put, List.setIfInBounds_toArray, List.set_cons_zero, List.set_cons_succ]
          refine wpAnyH_ready (rs := [22]) (by kernel_rfl) (by simp) ?_
          refine AllReadyH.cons (o := { dst := some 66, op := Go.Op.convert 22 9 (Go.Operand.tmp 65), type := 9, pos := "law.go:40", after := #[{ on := 21, ground := Go.Ground.data }, { on := 16, ground := Go.Ground.guard }], guard := some (16, true) }) rfl (fun K hK => ?_) AllReadyH.nil
          go_simp
          refine hK.out _ _ (S5.out _ (by first | assumption | exact hHeld.1)) (fun hHeld => ?_)
          clear hK K
          try simp only [Act.put, List.setIfInBounds_toArray, List.set_cons_zero, List.set_cons_succ]
          refine wpAnyH_take (i := 23) (oi := { dst := some 67, op := Go.Op.binOp Go.BinOp.eql 9 (Go.Operand.tmp 62) (Go.Operand.tmp 66) 9, type := 4, pos := "law.go:40", after := #[{ on := 18, ground := Go.Ground.data }, { on := 22, ground := Go.Ground.data }, { on := 16, ground := Go.Ground.guard }], guard := some (16, true) }) (v := ?_) rfl (by kernel_rfl) (by kernel_rfl) (by kernel_rfl) (fun _ _ _ h => h) (Or.inl ⟨by rfl, ?_⟩) (by assumption) ?_
          rotate_left
          · intro w hSw
            try dsimp only at hSw
            go_simp
            all_goals with_reducible rfl
          try simp only [Act.put, List.setIfInBounds_toArray, List.set_cons_zero, List.set_cons_succ]
          refine wpAnyH_take (i := 24) (oi := { dst := some 68, op := Go.Op.pick (Go.Operand.tmp 60) (Go.Operand.tmp 67) (Go.Operand.const (Go.Value.bool false)), type := 4, pos := "law.go:40", after := #[{ on := 16, ground := Go.Ground.data }, { on := 23, ground := Go.Ground.data }], guard := none }) (v := ?_) rfl (by kernel_rfl) (by kernel_rfl) (by kernel_rfl) (fun _ _ _ h => h) (Or.inl ⟨by rfl, ?_⟩) (by assumption) ?_
          rotate_left
          · intro w hSw
            try dsimp only at hSw
            go_simp
            all_goals with_reducible rfl
          try simp only [Act.put, List.setIfInBounds_toArray, List.set_cons_zero, List.set_cons_succ]
          refine wpAnyH_take (i := 25) (oi := { dst := some 14, op := Go.Op.assign (Go.Operand.tmp 68), type := 4, pos := "law.go:40", after := #[{ on := 24, ground := Go.Ground.data }, { on := 21, ground := Go.Ground.chain }, { on := 0, ground := Go.Ground.phase }, { on := 1, ground := Go.Ground.phase }, { on := 2, ground := Go.Ground.phase }, { on := 3, ground := Go.Ground.phase }, { on := 4, ground := Go.Ground.phase }, { on := 5, ground := Go.Ground.phase }, { on := 6, ground := Go.Ground.phase }, { on := 7, ground := Go.Ground.phase }, { on := 8, ground := Go.Ground.phase }, { on := 9, ground := Go.Ground.phase }, { on := 10, ground := Go.Ground.phase }, { on := 11, ground := Go.Ground.phase }, { on := 12, ground := Go.Ground.phase }, { on := 13, ground := Go.Ground.phase }, { on := 14, ground := Go.Ground.phase }, { on := 15, ground := Go.Ground.phase }, { on := 16, ground := Go.Ground.phase }, { on := 17, ground := Go.Ground.phase }, { on := 18, ground := Go.Ground.phase }, { on := 19, ground := Go.Ground.phase }, { on := 20, ground := Go.Ground.phase }, { on := 21, ground := Go.Ground.phase }, { on := 22, ground := Go.Ground.phase }, { on := 23, ground := Go.Ground.phase }, { on := 24, ground := Go.Ground.phase }], guard := none }) (v := ?_) rfl (by kernel_rfl) (by kernel_rfl) (by kernel_rfl) (fun _ _ _ h => h) (Or.inl ⟨by rfl, ?_⟩) (by assumption) ?_
          rotate_left
          · intro w hSw
            try dsimp only at hSw
            go_simp
            all_goals with_reducible rfl
          try simp only [Act.put, List.setIfInBounds_toArray, List.set_cons_zero, List.set_cons_succ]
          refine wpAnyH_done (by kernel_rfl) ?_ _
          go_wp2_with fail
          go_meet
          exact ⟨rfl, hHeld.1⟩
        case rest =>
          obtain ⟨rfl, hBc⟩ := hcut
          have HB6 : Aside0 (Below w.heap.size w wc) := ⟨HB5.out.trans (hBc.mono HB5.out.size)⟩
          have HR6 := Aside0.mk (HR5.out.below hBc)
          have HS6 := Aside0.mk (HS5.out.below hBc)
          have HY6 := Aside0.mk (HY5.out.below hBc)
          have HZ6 := Aside0.mk (HZ5.out.below hBc)
          have HXR6 := Aside0.mk (Kd.R_below HXR5.out hBc)
          clear HX5 HXR5 HR5 HS5 HY5 HZ5 HB5 S5 hBc
          go_wp2_with fail
          go_loopw [15] (fun i wr => ∃ (k : Nat) (xs : List Int), k ≤ X.length ∧ i = .int .i64 k ∧ Aside0 (xs.length = X.length) ∧ Aside0 ((Kd.int .u8).R 5 wr w2.heap.size (fun k => w2.heap.size ≤ k ∧ k < w3.heap.size) (.slice Ax X.length nx) xs) ∧ Aside0 (HeldB wr (fun k => k < w.heap.size) A0 l0) ∧ Aside0 (HeldB wr (fun k => w1.heap.size ≤ k ∧ k < w2.heap.size) (some ⟨w1.heap.size, 0, none⟩) l0) ∧ Aside0 (HeldB wr (fun k => w3.heap.size ≤ k ∧ k < w4.heap.size) Ay Y) ∧ Aside0 (HeldB wr (fun k => w4.heap.size ≤ k ∧ k < w5.heap.size) Az Z) ∧ Below w.heap.size w wr) (fun i _ => X.length - (intOf i).toNat)
          case atStart => exact ⟨0, X, Nat.zero_le _, rfl, ⟨rfl⟩, ⟨HXR6.out⟩, ⟨HR6.out⟩, ⟨HS6.out⟩, ⟨HY6.out⟩, ⟨HZ6.out⟩, HB6.out⟩
          case round =>
            clear HXR6 HR6 HS6 HY6 HZ6 HB6
            obtain ⟨k, xs, hk, rfl, HXL, HXR, HR, HS, HY, HZ, hBr⟩ := hrel
            have HBR := Aside0.mk hBr
            clear hBr
            by_cases hlt : k < X.length
            · obtain ⟨gi, rfl, hgi⟩ : ∃ gi, Ax = some ⟨gi, 0, none⟩ ∧ w2.heap.size ≤ gi ∧ gi < w3.heap.size := by
                obtain ⟨_, ho⟩ := kd_own HXR.out
                have hx := HXL.out
                rcases ho with ⟨h1, h2⟩ | ⟨g, cap, cur, h1, h2, h3, h4, h5, h6, h7⟩
                · omega
                · simp only [Value.slice.injEq] at h1
                  obtain ⟨rfl, _, rfl⟩ := h1
                  exact ⟨g, rfl, HXR.out.1 g rfl⟩
              have hx := HXL.out
              have HI' := HXR.out
              rw [← hx] at HI'
              obtain ⟨hc1, hf1⟩ := Kd.R_cell (d := (0 : Int)) HI' (k : Int) (by omega) (by omega)
              obtain ⟨hI2, hG2⟩ := Kd.R_put HI' (k : Int) (7 : Int)
              rw [hx] at hI2
              rw [Int.toNat_natCast] at hc1 hf1 hI2 hG2
              have HI2 := Aside0.mk hI2
              have HG2 := Aside0.mk hG2
              have HGI := Aside0.mk hgi
              clear hx HI' hI2 hG2 hgi
              go_wp2_with fail
              have hg := HG3.out
              have hgi := HGI.out
              have hg4 := HG4.out
              exact ⟨⟨k + 1, _, by omega, by simp, ⟨by rw [List.length_set]; exact HXL.out⟩, ⟨HI2.out⟩, ⟨HR.out.grown HG2.out (by omega)⟩, ⟨HS.out.grown HG2.out (by omega)⟩, ⟨HY.out.grown HG2.out (by omega)⟩, ⟨HZ.out.grown HG2.out (by omega)⟩, below_of_grown HBR.out HG2.out (by omega)⟩, by simp [intOf]; omega⟩
            · obtain rfl : k = X.length := by omega
              have S6 : Aside0 (∀ W : World, Below wr.heap.size wr W → Below wr.heap.size wr W ∧ (∀ c : Nat, (convert 22 9 (.slice (some ⟨w1.heap.size, 0, none⟩) l0.length c)).run Try.prog W = .ok (.string (strOfNums l0)) W) ∧ (∀ c : Nat, (convert 22 9 (.slice A0 l0.length c)).run Try.prog W = .ok (.string (strOfNums l0)) W) ∧ (∀ c : Nat, (convert 22 9 (.slice Ay Y.length c)).run Try.prog W = .ok (.string (strOfNums Y)) W) ∧ (∀ c : Nat, (convert 22 9 (.slice Az Z.length c)).run Try.prog W = .ok (.string (strOfNums Z)) W)) := ⟨fun W hW => ⟨hW, fun c => strA ((HS.out.below hW).C (by omega)) c, fun c => strA ((HR.out.below hW).C (by omega)) c, fun c => strA ((HY.out.below hW).C HL.out.2.1) c, fun c => strA ((HZ.out.below hW).C HL.out.2.2) c⟩⟩
              go_wp2_with fail
              refine wp_region_held_drew (S := (fun W => Below wr.heap.size wr W ∧ (∀ c : Nat, (convert 22 9 (.slice (some ⟨w1.heap.size, 0, none⟩) l0.length c)).run Try.prog W = .ok (.string (strOfNums l0)) W) ∧ (∀ c : Nat, (convert 22 9 (.slice A0 l0.length c)).run Try.prog W = .ok (.string (strOfNums l0)) W) ∧ (∀ c : Nat, (convert 22 9 (.slice Ay Y.length c)).run Try.prog W = .ok (.string (strOfNums Y)) W) ∧ (∀ c : Nat, (convert 22 9 (.slice Az Z.length c)).run Try.prog W = .ok (.string (strOfNums Z)) W))) (by kernel_rfl) (S6.out _ (below_drew (Below.refl _ _))) (fun hHeld => ?_)
              refine wpAnyH_take (i := 0) (oi := { dst := some 78, op := Go.Op.move (Go.Operand.tmp 9), type := 4, pos := "law.go:44", after := #[], guard := none }) (v := ?_) rfl (by kernel_rfl) (by kernel_rfl) (by kernel_rfl) (fun _ _ _ h => h) (Or.inl ⟨by rfl, ?_⟩) (by assumption) ?_
              rotate_left
              · intro w hSw
                try dsimp only at hSw
                go_simp
                all_goals with_reducible rfl
              try simp only [Act.put, List.setIfInBounds_toArray, List.set_cons_zero, List.set_cons_succ]
              refine wpAnyH_take (i := 1) (oi := { dst := some 79, op := Go.Op.move (Go.Operand.tmp 78), type := 4, pos := "law.go:44", after := #[{ on := 0, ground := Go.Ground.data }], guard := none }) (v := ?_) rfl (by kernel_rfl) (by kernel_rfl) (by kernel_rfl) (fun _ _ _ h => h) (Or.inl ⟨by rfl, ?_⟩) (by assumption) ?_
              rotate_left
              · intro w hSw
                try dsimp only at hSw
                go_simp
                all_goals with_reducible rfl
              try simp only [Act.put, List.setIfInBounds_toArray, List.set_cons_zero, List.set_cons_succ]
              refine wpAnyH_take (i := 2) (oi := { dst := some 80, op := Go.Op.move (Go.Operand.tmp 14), type := 4, pos := "law.go:44", after := #[{ on := 1, ground := Go.Ground.guard }], guard := some (1, true) }) (v := ?_) rfl (by kernel_rfl) (by kernel_rfl) (by kernel_rfl) (fun _ _ _ h => h) (Or.inl ⟨by rfl, ?_⟩) (by assumption) ?_
              rotate_left
              · intro w hSw
                try dsimp only at hSw
                go_simp
                all_goals with_reducible rfl
              try simp only [Act.put, List.setIfInBounds_toArray, List.set_cons_zero, List.set_cons_succ]
              refine wpAnyH_take (i := 3) (oi := { dst := some 81, op := Go.Op.pick (Go.Operand.tmp 79) (Go.Operand.tmp 80) (Go.Operand.const (Go.Value.bool false)), type := 4, pos := "law.go:44", after := #[{ on := 1, ground := Go.Ground.data }, { on := 2, ground := Go.Ground.data }], guard := none }) (v := ?_) rfl (by kernel_rfl) (by kernel_rfl) (by kernel_rfl) (fun _ _ _ h => h) (Or.inl ⟨by rfl, ?_⟩) (by assumption) ?_
              rotate_left
              · intro w hSw
                try dsimp only at hSw
                go_simp
                all_goals with_reducible rfl
              try simp only [Act.put, List.setIfInBounds_toArray, List.set_cons_zero, List.set_cons_succ]
              refine wpAnyH_take (i := 4) (oi := { dst := some 82, op := Go.Op.move (Go.Operand.tmp 81), type := 4, pos := "law.go:44", after := #[{ on := 3, ground := Go.Ground.data }, { on := 1, ground := Go.Ground.chain }], guard := none }) (v := ?_) rfl (by kernel_rfl) (by kernel_rfl) (by kernel_rfl) (fun _ _ _ h => h) (Or.inl ⟨by rfl, ?_⟩) (by assumption) ?_
              rotate_left
              · intro w hSw
                try dsimp only at hSw
                go_simp
                all_goals with_reducible rfl
              try simp only [Act.put, List.setIfInBounds_toArray, List.set_cons_zero, List.set_cons_succ]
              refine wpAnyH_take (i := 5) (oi := { dst := some 83, op := Go.Op.move (Go.Operand.tmp 10), type := 22, pos := "law.go:44", after := #[{ on := 4, ground := Go.Ground.guard }], guard := some (4, true) }) (v := ?_) rfl (by kernel_rfl) (by kernel_rfl) (by kernel_rfl) (fun _ _ _ h => h) (Or.inl ⟨by rfl, ?_⟩) (by assumption) ?_
              rotate_left
              · intro w hSw
                try dsimp only at hSw
                go_simp
                all_goals with_reducible rfl
              try simp only [Act.put, List.setIfInBounds_toArray, List.set_cons_zero, List.set_cons_succ]
              refine wpAnyH_take (i := 6) (oi := { dst := some 84, op := Go.Op.convert 22 9 (Go.Operand.tmp 83), type := 9, pos := "law.go:44", after := #[{ on := 5, ground := Go.Ground.data }, { on := 4, ground := Go.Ground.guard }], guard := some (4, true) }) (v := ?_) rfl (by kernel_rfl) (by kernel_rfl) (by kernel_rfl) (fun _ _ _ h => h) (Or.inl ⟨by rfl, ?_⟩) (by assumption) ?_
              rotate_left
              · intro w hSw
                try dsimp only at hSw
                go_simp
                all_goals with_reducible rfl
              try simp only [Act.put, List.setIfInBounds_toArray, List.set_cons_zero, List.set_cons_succ]
              refine wpAnyH_take (i := 7) (oi := { dst := some 85, op := Go.Op.move (Go.Operand.tmp 0), type := 22, pos := "law.go:44", after := #[{ on := 4, ground := Go.Ground.guard }], guard := some (4, true) }) (v := ?_) rfl (by kernel_rfl) (by kernel_rfl) (by kernel_rfl) (fun _ _ _ h => h) (Or.inl ⟨by rfl, ?_⟩) (by assumption) ?_
              rotate_left
              · intro w hSw
                try dsimp only at hSw
                go_simp
                all_goals with_reducible rfl
              try simp only [Act.put, List.setIfInBounds_toArray, List.set_cons_zero, List.set_cons_succ]
              refine wpAnyH_take (i := 8) (oi := { dst := some 86, op := Go.Op.convert 22 9 (Go.Operand.tmp 85), type := 9, pos := "law.go:44", after := #[{ on := 7, ground := Go.Ground.data }, { on := 4, ground := Go.Ground.guard }], guard := some (4, true) }) (v := ?_) rfl (by kernel_rfl) (by kernel_rfl) (by kernel_rfl) (fun _ _ _ h => h) (Or.inl ⟨by rfl, ?_⟩) (by assumption) ?_
              rotate_left
              · intro w hSw
                try dsimp only at hSw
                go_simp
                all_goals with_reducible rfl
              try simp only [Act.put, List.setIfInBounds_toArray, List.set_cons_zero, List.set_cons_succ]
              refine wpAnyH_take (i := 9) (oi := { dst := some 87, op := Go.Op.binOp Go.BinOp.eql 9 (Go.Operand.tmp 84) (Go.Operand.tmp 86) 9, type := 4, pos := "law.go:44", after := #[{ on := 6, ground := Go.Ground.data }, { on := 8, ground := Go.Ground.data }, { on := 4, ground := Go.Ground.guard }], guard := some (4, true) }) (v := ?_) rfl (by kernel_rfl) (by kernel_rfl) (by kernel_rfl) (fun _ _ _ h => h) (Or.inl ⟨by rfl, ?_⟩) (by assumption) ?_
              rotate_left
              · intro w hSw
                try dsimp only at hSw
                go_simp
                all_goals with_reducible rfl
              try simp only [Act.put, List.setIfInBounds_toArray, List.set_cons_zero, List.set_cons_succ]
              refine wpAnyH_take (i := 10) (oi := { dst := some 88, op := Go.Op.pick (Go.Operand.tmp 82) (Go.Operand.tmp 87) (Go.Operand.const (Go.Value.bool false)), type := 4, pos := "law.go:44", after := #[{ on := 4, ground := Go.Ground.data }, { on := 9, ground := Go.Ground.data }], guard := none }) (v := ?_) rfl (by kernel_rfl) (by kernel_rfl) (by kernel_rfl) (fun _ _ _ h => h) (Or.inl ⟨by rfl, ?_⟩) (by assumption) ?_
              rotate_left
              · intro w hSw
                try dsimp only at hSw
                go_simp
                all_goals with_reducible rfl
              try simp only [Act.put, List.setIfInBounds_toArray, List.set_cons_zero, List.set_cons_succ]
              refine wpAnyH_take (i := 11) (oi := { dst := some 89, op := Go.Op.move (Go.Operand.tmp 88), type := 4, pos := "law.go:44", after := #[{ on := 10, ground := Go.Ground.data }, { on := 4, ground := Go.Ground.chain }], guard := none }) (v := ?_) rfl (by kernel_rfl) (by kernel_rfl) (by kernel_rfl) (fun _ _ _ h => h) (Or.inl ⟨by rfl, ?_⟩) (by assumption) ?_
              rotate_left
              · intro w hSw
                try dsimp only at hSw
                go_simp
                all_goals with_reducible rfl
              try simp only [Act.put, List.setIfInBounds_toArray, List.set_cons_zero, List.set_cons_succ]
              refine wpAnyH_take (i := 12) (oi := { dst := some 90, op := Go.Op.move (Go.Operand.tmp 12), type := 22, pos := "law.go:44", after := #[{ on := 11, ground := Go.Ground.guard }], guard := some (11, true) }) (v := ?_) rfl (by kernel_rfl) (by kernel_rfl) (by kernel_rfl) (fun _ _ _ h => h) (Or.inl ⟨by rfl, ?_⟩) (by assumption) ?_
              rotate_left
              · intro w hSw
                try dsimp only at hSw
                go_simp
                all_goals with_reducible rfl
              try simp only [Act.put, List.setIfInBounds_toArray, List.set_cons_zero, List.set_cons_succ]
              refine wpAnyH_take (i := 13) (oi := { dst := some 91, op := Go.Op.convert 22 9 (Go.Operand.tmp 90), type := 9, pos := "law.go:44", after := #[{ on := 12, ground := Go.Ground.data }, { on := 11, ground := Go.Ground.guard }], guard := some (11, true) }) (v := ?_) rfl (by kernel_rfl) (by kernel_rfl) (by kernel_rfl) (fun _ _ _ h => h) (Or.inl ⟨by rfl, ?_⟩) (by assumption) ?_
              rotate_left
              · intro w hSw
                try dsimp only at hSw
                go_simp
                all_goals with_reducible rfl
              try simp only [Act.put, List.setIfInBounds_toArray, List.set_cons_zero, List.set_cons_succ]
              refine wpAnyH_take (i := 14) (oi := { dst := some 92, op := Go.Op.move (Go.Operand.tmp 0), type := 22, pos := "law.go:44", after := #[{ on := 11, ground := Go.Ground.guard }], guard := some (11, true) }) (v := ?_) rfl (by kernel_rfl) (by kernel_rfl) (by kernel_rfl) (fun _ _ _ h => h) (Or.inl ⟨by rfl, ?_⟩) (by assumption) ?_
              rotate_left
              · intro w hSw
                try dsimp only at hSw
                go_simp
                all_goals with_reducible rfl
              try simp only [Act.put, List.setIfInBounds_toArray, List.set_cons_zero, List.set_cons_succ]
              refine wpAnyH_take (i := 15) (oi := { dst := some 93, op := Go.Op.move (Go.Operand.tmp 2), type := 3, pos := "law.go:44", after := #[{ on := 11, ground := Go.Ground.guard }], guard := some (11, true) }) (v := ?_) rfl (by kernel_rfl) (by kernel_rfl) (by kernel_rfl) (fun _ _ _ h => h) (Or.inl ⟨by rfl, ?_⟩) (by assumption) ?_
              rotate_left
              · intro w hSw
                try dsimp only at hSw
                go_simp
                all_goals with_reducible rfl
              try simp only [Act.put, List.setIfInBounds_toArray, List.set_cons_zero, List.set_cons_succ]
              refine wpAnyH_ready (rs := [16]) (by kernel_rfl) (by simp) ?_
              refine AllReadyH.cons (o := { dst := some 94, op := Go.Op.call { callee := Go.Callee.value (Go.Operand.func 13), args := #[Go.Operand.tmp 92, Go.Operand.tmp 93], argTypes := #[22, 3] }, type := 22, pos := "law.go:44", after := #[{ on := 14, ground := Go.Ground.data }, { on := 15, ground := Go.Ground.data }, { on := 11, ground := Go.Ground.chain }, { on := 11, ground := Go.Ground.guard }], guard := some (11, true) }) rfl (fun K hK => ?_) AllReadyH.nil
              go_simp
              (go_at_call 13; refine Calls.mono (rosetteref02_PutInt.calls A0 c0 l0 a2 Y _ ((HR.out.below hHeld.1).C (by omega)) hc0 (by rw [EY.out]; exact rputInt_f l0 a2 HC0.out.2.2.2.1 HC0.out.2.2.2.2 (by omega))) ?_; rintro e w6 ⟨v, rfl, hR, hB⟩; obtain ⟨Ar, nr, rfl, _, _, hH, _⟩ := held_own hR; have hb6 := below_via hB hHeld.1; have hc6 := strA (hH.C (by omega)) nr; clear hR hB hH hHeld)
              go_wp2_with fail
              refine hK.out _ _ (S6.out _ (by first | assumption | exact hHeld.1)) (fun hHeld => ?_)
              clear hK K
              try simp only [Act.put, List.setIfInBounds_toArray, List.set_cons_zero, List.set_cons_succ]
              refine wpAnyH_ready (rs := [17]) (by kernel_rfl) (by simp) ?_
              refine AllReadyH.cons (o := { dst := some 95, op := Go.Op.convert 22 9 (Go.Operand.tmp 94), type := 9, pos := "law.go:44", after := #[{ on := 16, ground := Go.Ground.data }, { on := 11, ground := Go.Ground.guard }], guard := some (11, true) }) rfl (fun K hK => ?_) AllReadyH.nil
              go_simp
              refine hK.out _ _ (S6.out _ (by first | assumption | exact hHeld.1)) (fun hHeld => ?_)
              clear hK K
              try simp only [Act.put, List.setIfInBounds_toArray, List.set_cons_zero, List.set_cons_succ]
              refine wpAnyH_take (i := 18) (oi := { dst := some 96, op := Go.Op.binOp Go.BinOp.eql 9 (Go.Operand.tmp 91) (Go.Operand.tmp 95) 9, type := 4, pos := "law.go:44", after := #[{ on := 13, ground := Go.Ground.data }, { on := 17, ground := Go.Ground.data }, { on := 11, ground := Go.Ground.guard }], guard := some (11, true) }) (v := ?_) rfl (by kernel_rfl) (by kernel_rfl) (by kernel_rfl) (fun _ _ _ h => h) (Or.inl ⟨by rfl, ?_⟩) (by assumption) ?_
              rotate_left
              · intro w hSw
                try dsimp only at hSw
                go_simp
                all_goals with_reducible rfl
              try simp only [Act.put, List.setIfInBounds_toArray, List.set_cons_zero, List.set_cons_succ]
              refine wpAnyH_take (i := 19) (oi := { dst := some 97, op := Go.Op.pick (Go.Operand.tmp 89) (Go.Operand.tmp 96) (Go.Operand.const (Go.Value.bool false)), type := 4, pos := "law.go:44", after := #[{ on := 11, ground := Go.Ground.data }, { on := 18, ground := Go.Ground.data }], guard := none }) (v := ?_) rfl (by kernel_rfl) (by kernel_rfl) (by kernel_rfl) (fun _ _ _ h => h) (Or.inl ⟨by rfl, ?_⟩) (by assumption) ?_
              rotate_left
              · intro w hSw
                try dsimp only at hSw
                go_simp
                all_goals with_reducible rfl
              try simp only [Act.put, List.setIfInBounds_toArray, List.set_cons_zero, List.set_cons_succ]
              refine wpAnyH_take (i := 20) (oi := { dst := some 98, op := Go.Op.move (Go.Operand.tmp 97), type := 4, pos := "law.go:44", after := #[{ on := 19, ground := Go.Ground.data }, { on := 16, ground := Go.Ground.chain }], guard := none }) (v := ?_) rfl (by kernel_rfl) (by kernel_rfl) (by kernel_rfl) (fun _ _ _ h => h) (Or.inl ⟨by rfl, ?_⟩) (by assumption) ?_
              rotate_left
              · intro w hSw
                try dsimp only at hSw
                go_simp
                all_goals with_reducible rfl
              try simp only [Act.put, List.setIfInBounds_toArray, List.set_cons_zero, List.set_cons_succ]
              refine wpAnyH_take (i := 21) (oi := { dst := some 99, op := Go.Op.move (Go.Operand.tmp 13), type := 22, pos := "law.go:44", after := #[{ on := 20, ground := Go.Ground.guard }], guard := some (20, true) }) (v := ?_) rfl (by kernel_rfl) (by kernel_rfl) (by kernel_rfl) (fun _ _ _ h => h) (Or.inl ⟨by rfl, ?_⟩) (by assumption) ?_
              rotate_left
              · intro w hSw
                try dsimp only at hSw
                go_simp
                all_goals with_reducible rfl
              try simp only [Act.put, List.setIfInBounds_toArray, List.set_cons_zero, List.set_cons_succ]
              refine wpAnyH_take (i := 22) (oi := { dst := some 100, op := Go.Op.convert 22 9 (Go.Operand.tmp 99), type := 9, pos := "law.go:44", after := #[{ on := 21, ground := Go.Ground.data }, { on := 20, ground := Go.Ground.guard }], guard := some (20, true) }) (v := ?_) rfl (by kernel_rfl) (by kernel_rfl) (by kernel_rfl) (fun _ _ _ h => h) (Or.inl ⟨by rfl, ?_⟩) (by assumption) ?_
              rotate_left
              · intro w hSw
                try dsimp only at hSw
                go_simp
                all_goals with_reducible rfl
              try simp only [Act.put, List.setIfInBounds_toArray, List.set_cons_zero, List.set_cons_succ]
              refine wpAnyH_take (i := 23) (oi := { dst := some 101, op := Go.Op.move (Go.Operand.tmp 0), type := 22, pos := "law.go:44", after := #[{ on := 20, ground := Go.Ground.guard }], guard := some (20, true) }) (v := ?_) rfl (by kernel_rfl) (by kernel_rfl) (by kernel_rfl) (fun _ _ _ h => h) (Or.inl ⟨by rfl, ?_⟩) (by assumption) ?_
              rotate_left
              · intro w hSw
                try dsimp only at hSw
                go_simp
                all_goals with_reducible rfl
              try simp only [Act.put, List.setIfInBounds_toArray, List.set_cons_zero, List.set_cons_succ]
              refine wpAnyH_take (i := 24) (oi := { dst := some 102, op := Go.Op.move (Go.Operand.tmp 3), type := 9, pos := "law.go:44", after := #[{ on := 20, ground := Go.Ground.guard }], guard := some (20, true) }) (v := ?_) rfl (by kernel_rfl) (by kernel_rfl) (by kernel_rfl) (fun _ _ _ h => h) (Or.inl ⟨by rfl, ?_⟩) (by assumption) ?_
              rotate_left
              · intro w hSw
                try dsimp only at hSw
                go_simp
                all_goals with_reducible rfl
              try simp only [Act.put, List.setIfInBounds_toArray, List.set_cons_zero, List.set_cons_succ]
              refine wpAnyH_ready (rs := [25]) (by kernel_rfl) (by simp) ?_
              refine AllReadyH.cons (o := { dst := some 103, op := Go.Op.call { callee := Go.Callee.value (Go.Operand.func 14), args := #[Go.Operand.tmp 101, Go.Operand.tmp 102], argTypes := #[22, 9] }, type := 22, pos := "law.go:44", after := #[{ on := 23, ground := Go.Ground.data }, { on := 24, ground := Go.Ground.data }, { on := 20, ground := Go.Ground.chain }, { on := 20, ground := Go.Ground.guard }], guard := some (20, true) }) rfl (fun K hK => ?_) AllReadyH.nil
              go_simp
              (go_at_call 14; refine Calls.mono (rosetteref02_PutText.calls A0 c0 l0 a3 Z _ ((HR.out.below hHeld.1).C (by omega)) hc0 (by rw [EZ.out]; exact rputText_f l0 a3 (by omega) (by omega))) ?_; rintro e w6 ⟨v, rfl, hR, hB⟩; obtain ⟨Ar, nr, rfl, _, _, hH, _⟩ := held_own hR; have hb6 := below_via hB hHeld.1; have hc6 := strA (hH.C (by omega)) nr; clear hR hB hH hHeld)
              go_wp2_with fail
              refine hK.out _ _ (S6.out _ (by first | assumption | exact hHeld.1)) (fun hHeld => ?_)
              clear hK K
              try simp only [Act.put, List.setIfInBounds_toArray, List.set_cons_zero, List.set_cons_succ]
              refine wpAnyH_ready (rs := [26]) (by kernel_rfl) (by simp) ?_
              refine AllReadyH.cons (o := { dst := some 104, op := Go.Op.convert 22 9 (Go.Operand.tmp 103), type := 9, pos := "law.go:44", after := #[{ on := 25, ground := Go.Ground.data }, { on := 20, ground := Go.Ground.guard }], guard := some (20, true) }) rfl (fun K hK => ?_) AllReadyH.nil
              go_simp
              refine hK.out _ _ (S6.out _ (by first | assumption | exact hHeld.1)) (fun hHeld => ?_)
              clear hK K
              try simp only [Act.put, List.setIfInBounds_toArray, List.set_cons_zero, List.set_cons_succ]
              refine wpAnyH_take (i := 27) (oi := { dst := some 105, op := Go.Op.binOp Go.BinOp.eql 9 (Go.Operand.tmp 100) (Go.Operand.tmp 104) 9, type := 4, pos := "law.go:44", after := #[{ on := 22, ground := Go.Ground.data }, { on := 26, ground := Go.Ground.data }, { on := 20, ground := Go.Ground.guard }], guard := some (20, true) }) (v := ?_) rfl (by kernel_rfl) (by kernel_rfl) (by kernel_rfl) (fun _ _ _ h => h) (Or.inl ⟨by rfl, ?_⟩) (by assumption) ?_
              rotate_left
              · intro w hSw
                try dsimp only at hSw
                go_simp
                all_goals with_reducible rfl
              try simp only [Act.put, List.setIfInBounds_toArray, List.set_cons_zero, List.set_cons_succ]
              refine wpAnyH_take (i := 28) (oi := { dst := some 106, op := Go.Op.pick (Go.Operand.tmp 98) (Go.Operand.tmp 105) (Go.Operand.const (Go.Value.bool false)), type := 4, pos := "law.go:44", after := #[{ on := 20, ground := Go.Ground.data }, { on := 27, ground := Go.Ground.data }], guard := none }) (v := ?_) rfl (by kernel_rfl) (by kernel_rfl) (by kernel_rfl) (fun _ _ _ h => h) (Or.inl ⟨by rfl, ?_⟩) (by assumption) ?_
              rotate_left
              · intro w hSw
                try dsimp only at hSw
                go_simp
                all_goals with_reducible rfl
              try simp only [Act.put, List.setIfInBounds_toArray, List.set_cons_zero, List.set_cons_succ]
              refine wpAnyH_take (i := 29) (oi := { dst := some 8, op := Go.Op.assign (Go.Operand.tmp 106), type := 4, pos := "law.go:44", after := #[{ on := 28, ground := Go.Ground.data }, { on := 25, ground := Go.Ground.chain }, { on := 0, ground := Go.Ground.phase }, { on := 1, ground := Go.Ground.phase }, { on := 2, ground := Go.Ground.phase }, { on := 3, ground := Go.Ground.phase }, { on := 4, ground := Go.Ground.phase }, { on := 5, ground := Go.Ground.phase }, { on := 6, ground := Go.Ground.phase }, { on := 7, ground := Go.Ground.phase }, { on := 8, ground := Go.Ground.phase }, { on := 9, ground := Go.Ground.phase }, { on := 10, ground := Go.Ground.phase }, { on := 11, ground := Go.Ground.phase }, { on := 12, ground := Go.Ground.phase }, { on := 13, ground := Go.Ground.phase }, { on := 14, ground := Go.Ground.phase }, { on := 15, ground := Go.Ground.phase }, { on := 16, ground := Go.Ground.phase }, { on := 17, ground := Go.Ground.phase }, { on := 18, ground := Go.Ground.phase }, { on := 19, ground := Go.Ground.phase }, { on := 20, ground := Go.Ground.phase }, { on := 21, ground := Go.Ground.phase }, { on := 22, ground := Go.Ground.phase }, { on := 23, ground := Go.Ground.phase }, { on := 24, ground := Go.Ground.phase }, { on := 25, ground := Go.Ground.phase }, { on := 26, ground := Go.Ground.phase }, { on := 27, ground := Go.Ground.phase }, { on := 28, ground := Go.Ground.phase }], guard := none }) (v := ?_) rfl (by kernel_rfl) (by kernel_rfl) (by kernel_rfl) (fun _ _ _ h => h) (Or.inl ⟨by rfl, ?_⟩) (by assumption) ?_
              rotate_left
              · intro w hSw
                try dsimp only at hSw
                go_simp
                all_goals with_reducible rfl
              try simp only [Act.put, List.setIfInBounds_toArray, List.set_cons_zero, List.set_cons_succ]
              refine wpAnyH_done (by kernel_rfl) ?_ _
              go_wp2
              go_ret
              exact ⟨rfl, below_via hHeld.1 HBR.out⟩
      · go_wp2
        go_ret
        exact ⟨rfl, HB1.out⟩
    · go_wp2
      go_ret
      exact ⟨rfl, HB1.out⟩
  · cases h

/-- THE ONE PURE STATEMENT of rosettelaw02_WireLays: yours. -/
def rosettelaw02_WireLays.Pure : Prop := ∀ (l0 : List Int) (a1 : Int) (a2 : Int) (a3 : ByteArray), l0.length ≤ maxLen → l0.length * 1 ≤ 140737488351232 → (∀ x ∈ l0, (Lit.int .u8 x).wf = true) → (Lit.int .u64 a1).wf = true → (Lit.int .i64 a2).wf = true → a3.size ≤ 140737488351232 → rosettelaw02_WireLays.f l0 a1 a2 a3 = some true
theorem rosettelaw02_WireLays.walk (P : rosettelaw02_WireLays.Pure) (a0 : Option Addr) (len0 cap0 : Nat) (z0 : List Int) (a1 : Int) (a2 : Int) (a3 : ByteArray) (w : World) (w0 : (a0 = none ∧ len0 = 0 ∧ cap0 = 0 ∧ z0 = []) ∨ ∃ x, a0 = some x ∧ len0 ≤ cap0 ∧ cap0 ≤ maxLen ∧ z0.length = cap0 ∧ (∀ i, i < z0.length → w.cell? (x.add i) = some (.int .u8 (z0.getD i 0))) ∧ ∀ n ∈ z0, (Lit.int .u8 n).wf = true) (y0 : len0 * 1 ≤ 140737488351232) (w1 : (Lit.int .u64 a1).wf = true) (w2 : (Lit.int .i64 a2).wf = true) (w3 : a3.size ≤ 140737488351232) :
    Calls Try.prog 3 #[.slice a0 len0 cap0, .int .u64 a1, .int .i64 a2, .string a3] w fun e w' => e = .returned (.bool true) ∧ Below w.heap.size w w' := by
  obtain ⟨l0, rfl, hr0, hm0, hw0, hc0⟩ := ReadsInt.ofRowC w0
  have h := P l0 a1 a2 a3 hm0 y0 hw0 w1 w2 w3
  refine (rosettelaw02_WireLays.calls _ _ l0 a1 a2 a3 true w (Kd.C_of_reads (d := (0 : Int)) (h1 := fun _ => rfl) hr0) hc0 h).mono ?_
  rintro e w' ⟨rfl, hd⟩
  exact ⟨rfl, hd⟩

end Go.Proofs.Ytkbpkoiihgkkiaa.G
