/- values that are read, one behind the other: the law's walk -/
import Derived.Test.YtiodpbenjbdcfaaSmall04
import Derived.Test.YtiodpbenjbdcfaaWirePure
import Derived.Deep.RegionHeld3
set_option linter.unusedVariables false
set_option linter.unusedSimpArgs false
set_option autoImplicit false
namespace Go.Proofs.Ytiodpbenjbdcfaa
open Go.RowKit Go.Proofs.YtiodpbenjbdcfaaW.PrintWords Go.Proofs.YtiodpbenjbdcfaaW.PrintLast Go.Proofs.YtiodpbenjbdcfaaW.PrintMore Go.Proofs.Ytiodpbenjbdcfaa.G

set_option maxRecDepth 100000 in
set_option maxHeartbeats 4000000 in
theorem valueGets_any (A0 : Option Addr) (c0 : Nat) (l0 : List Int) (n : Int) (w : World) (hr0 : (Kd.int .u8).C w A0 l0.length l0) (hc0 : l0.length ≤ c0) (hcm : c0 ≤ 9223372036854775807) (hl0 : l0.length ≤ 140737488351232) (hu0 : u8s l0) (hn : -9223372036854775808 ≤ n ∧ n < 9223372036854775808) :
    Calls Try.prog 6 #[.slice A0 l0.length c0, .int .i64 n] w fun e w' => e = .returned (.bool true) ∧ Below w.heap.size w w' := by
  have HR0 := Aside0.mk (HeldB.low hr0)
  have HU := Aside0.mk hu0
  have HL0 := Aside0.mk hl0
  have HCM := Aside0.mk hcm
  clear hr0 hu0 hl0 hcm
  go_enter Try.func6, Try.ntmps6
  go_wp2_with fail
  refine (small_any _).mono ?_
  rintro e w1 ⟨rfl, hB⟩
  have HB1 : Aside0 (Below w.heap.size w w1) := ⟨hB⟩
  have HR1 := Aside0.mk (HR0.out.below hB)
  clear hB HR0
  go_wp2_with fail
  refine (won A0 c0 l0 w1 (HR1.out.C (by have := HL0.out; omega)) hc0 HU.out (by have := HL0.out; omega)).mono ?_
  rintro e w3 ⟨gs, rfl, hg, hS, hB⟩
  have HB3 : Aside0 (Below w.heap.size w w3) := ⟨HB1.out.trans (hB.mono HB1.out.size)⟩
  have HR3 := Aside0.mk (HR1.out.below hB)
  have HS3 := Aside0.mk hS
  have HG := Aside0.mk (show w.heap.size ≤ w1.heap.size ∧ w1.heap.size ≤ gs from ⟨HB1.out.size, hg⟩)
  clear hg hS hB HB1 HR1
  by_cases hg1 : l0.length ≤ 300
  · by_cases hg2 : 0 ≤ n
    · by_cases hg3 : n ≤ 20
      · obtain ⟨N, rfl⟩ := Int.eq_ofNat_of_zero_le hg2
        clear hg2 hn
        go_wp2_with fail
        have HX3 : Aside0 (Scn 37 (fun k => k < w.heap.size) (w3.alloc (.cells #[.slice A0 l0.length c0, .int .i64 0] 37)) w3.heap.size ⟨l0, 0⟩) := ⟨⟨HU.out, fun h => absurd rfl h, (by have := HB3.out.size; omega), (by have := HL0.out; simp only; omega), (by simp), A0, c0, heap_alloc_new w3 _, hc0, HCM.out, HR3.out.below ((Below.refl _ _).alloc (Nat.le_refl _) _)⟩⟩
        have HB4 : Aside0 (Below w.heap.size w (w3.alloc (.cells #[.slice A0 l0.length c0, .int .i64 0] 37))) := ⟨HB3.out.alloc HB3.out.size _⟩
        have HS4 : Aside0 (Scn 53 (fun k => w1.heap.size ≤ k ∧ k < gs) (w3.alloc (.cells #[.slice A0 l0.length c0, .int .i64 0] 37)) gs ⟨l0, 0⟩) := ⟨HS3.out.below ((Below.refl _ _).alloc (Nat.le_refl _) _)⟩
        have HGX := Aside0.mk (show gs < w3.heap.size from HS3.out.lt)
        generalize w3.alloc (.cells #[.slice A0 l0.length c0, .int .i64 0] 37) = w4 at HX3 HB4 HS4 ⊢
        generalize w3.heap.size = gx at HX3 HGX ⊢
        clear HB3 HS3 HR3
        go_loopw [8] (fun i wr => ∃ (k : Nat) (s : Sc), k ≤ N ∧ i = .int .i64 k ∧ Aside0 (Scn 53 (fun k => w1.heap.size ≤ k ∧ k < gs) wr gs s) ∧ Aside0 (Scn 37 (fun k => k < w.heap.size) wr gx s) ∧ Below w.heap.size w wr) (fun i _ => N - (intOf i).toNat)
        case atStart => exact ⟨0, _, Nat.zero_le _, rfl, ⟨HS4.out⟩, ⟨HX3.out⟩, HB4.out⟩
        case round =>
          clear HX3 HB4 HS4
          obtain ⟨k, s, hk, rfl, HS, HX, hBr⟩ := hrel
          have HBR := Aside0.mk hBr
          clear hBr
          by_cases hlt : k < N
          · go_wp2_with fail
            have HSd := Aside0.mk (HS.out.below (below_drew (Below.refl _ _)))
            have HXd := Aside0.mk (HX.out.below (below_drew (Below.refl _ _)))
            have HBd := Aside0.mk (below_drew HBR.out)
            obtain ⟨vk, vi, vt, s2, hv⟩ : ∃ vk vi vt s2, s.val = (⟨vk, vi, vt⟩, s2) := ⟨_, _, _, _, rfl⟩
            have HV := Aside0.mk hv
            clear hv HS HX HBR
            refine wp_region_held_drew (S := (fun _ => True)) (by kernel_rfl) trivial (fun hHeld => ?_)
            refine wpAnyH_take (i := 0) (oi := { dst := some 40, op := Go.Op.move (Go.Operand.tmp 6), type := 32, pos := "law.go:44", after := #[], guard := none }) (v := ?_) rfl (by kernel_rfl) (by kernel_rfl) (by kernel_rfl) (fun _ _ _ h => h) (Or.inl ⟨by rfl, ?_⟩) (by assumption) ?_
            rotate_left
            · intro w hSw
              try dsimp only at hSw
              go_simp
              all_goals with_reducible rfl
            try simp only [Act.put, List.setIfInBounds_toArray, List.set_cons_zero, List.set_cons_succ]
            refine wpAnyH_take (i := 2) (oi := { dst := some 42, op := Go.Op.move (Go.Operand.tmp 7), type := 34, pos := "law.go:44", after := #[], guard := none }) (v := ?_) rfl (by kernel_rfl) (by kernel_rfl) (by kernel_rfl) (fun _ _ _ h => h) (Or.inl ⟨by rfl, ?_⟩) (by assumption) ?_
            rotate_left
            · intro w hSw
              try dsimp only at hSw
              go_simp
              all_goals with_reducible rfl
            try simp only [Act.put, List.setIfInBounds_toArray, List.set_cons_zero, List.set_cons_succ]
            refine wpAnyH_ready (rs := [1]) (by kernel_rfl) (by simp) ?_
            refine AllReadyH.cons (o := { dst := some 41, op := Go.Op.call { callee := Go.Callee.value (Go.Operand.func 16), args := #[Go.Operand.tmp 40], argTypes := #[32] }, type := 23, pos := "law.go:44", after := #[{ on := 0, ground := Go.Ground.data }], guard := none }) rfl (fun K hK => ?_) AllReadyH.nil
            go_simp
            (go_at_call 16; refine Calls.mono (wget HSd.out) ?_; rintro e w5 ⟨rfl, hz, hG⟩; rw [HV.out] at hz ⊢; simp only [Vl.v]; have hg := HG.out; have hgx := HGX.out; have HB5 : Aside0 (Below w.heap.size w w5) := ⟨below_of_grown HBd.out hG (by omega)⟩; have HX5 := Aside0.mk (HXd.out.grown hG (by omega) (by omega)); have HS5 := Aside0.mk hz; clear hz hG hg hgx)
            go_wp2_with fail
            refine hK.out _ _ trivial (fun hHeld => ?_)
            clear hK K
            try simp only [Act.put, List.setIfInBounds_toArray, List.set_cons_zero, List.set_cons_succ]
            refine wpAnyH_ready (rs := [3]) (by kernel_rfl) (by simp) ?_
            refine AllReadyH.cons (o := { dst := some 43, op := Go.Op.call { callee := Go.Callee.value (Go.Operand.func 17), args := #[Go.Operand.tmp 42], argTypes := #[34] }, type := 23, pos := "law.go:44", after := #[{ on := 2, ground := Go.Ground.data }, { on := 1, ground := Go.Ground.chain }], guard := none }) rfl (fun K hK => ?_) AllReadyH.nil
            go_simp
            (go_at_call 17; refine Calls.mono (rget HX5.out) ?_; rintro e w6 ⟨rfl, hz, hG⟩; rw [HV.out] at hz ⊢; simp only [Vl.v]; have hg := HG.out; have hgx := HGX.out; have HB6 : Aside0 (Below w.heap.size w w6) := ⟨below_of_grown HB5.out hG (by omega)⟩; have HS6 := Aside0.mk (HS5.out.grown hG (by omega) (by omega)); have HX6 := Aside0.mk hz; obtain ⟨Ax, cx, hxb, _, _, hxh, e0, e1, _, _⟩ := HX6.out.cells; clear hxb hxh hz hG hg hgx)
            go_wp2_with fail
            refine hK.out _ _ trivial (fun hHeld => ?_)
            clear hK K
            try simp only [Act.put, List.setIfInBounds_toArray, List.set_cons_zero, List.set_cons_succ]
            refine wpAnyH_take (i := 4) (oi := { dst := some 44, op := Go.Op.binOp Go.BinOp.neq 23 (Go.Operand.tmp 41) (Go.Operand.tmp 43) 23, type := 4, pos := "law.go:44", after := #[{ on := 1, ground := Go.Ground.data }, { on := 3, ground := Go.Ground.data }], guard := none }) (v := ?_) rfl (by kernel_rfl) (by kernel_rfl) (by kernel_rfl) (fun _ _ _ h => h) (Or.inl ⟨by rfl, ?_⟩) (by assumption) ?_
            rotate_left
            · intro w hSw
              try dsimp only at hSw
              go_simp
              all_goals with_reducible rfl
            try simp only [Act.put, List.setIfInBounds_toArray, List.set_cons_zero, List.set_cons_succ]
            refine wpAnyH_take (i := 5) (oi := { dst := some 45, op := Go.Op.move (Go.Operand.tmp 44), type := 4, pos := "law.go:44", after := #[{ on := 4, ground := Go.Ground.data }, { on := 3, ground := Go.Ground.chain }], guard := none }) (v := ?_) rfl (by kernel_rfl) (by kernel_rfl) (by kernel_rfl) (fun _ _ _ h => h) (Or.inl ⟨by rfl, ?_⟩) (by assumption) ?_
            rotate_left
            · intro w hSw
              try dsimp only at hSw
              go_simp
              all_goals with_reducible rfl
            try simp only [Act.put, List.setIfInBounds_toArray, List.set_cons_zero, List.set_cons_succ]
            refine wpAnyH_take (i := 6) (oi := { dst := some 46, op := Go.Op.move (Go.Operand.tmp 6), type := 32, pos := "law.go:44", after := #[{ on := 5, ground := Go.Ground.guard }], guard := some (5, false) }) (v := ?_) rfl (by kernel_rfl) (by kernel_rfl) (by kernel_rfl) (fun _ _ _ h => h) (Or.inl ⟨by rfl, ?_⟩) (by assumption) ?_
            rotate_left
            · intro w hSw
              try dsimp only at hSw
              go_simp
              all_goals with_reducible rfl
            try simp only [Act.put, List.setIfInBounds_toArray, List.set_cons_zero, List.set_cons_succ]
            refine wpAnyH_take (i := 8) (oi := { dst := some 48, op := Go.Op.move (Go.Operand.tmp 7), type := 34, pos := "law.go:44", after := #[{ on := 5, ground := Go.Ground.guard }], guard := some (5, false) }) (v := ?_) rfl (by kernel_rfl) (by kernel_rfl) (by kernel_rfl) (fun _ _ _ h => h) (Or.inl ⟨by rfl, ?_⟩) (by assumption) ?_
            rotate_left
            · intro w hSw
              try dsimp only at hSw
              go_simp
              all_goals with_reducible rfl
            try simp only [Act.put, List.setIfInBounds_toArray, List.set_cons_zero, List.set_cons_succ]
            refine wpAnyH_take (i := 9) (oi := { dst := some 49, op := Go.Op.nilCheck (Go.Operand.tmp 48), type := 0, pos := "law.go:44", after := #[{ on := 8, ground := Go.Ground.data }, { on := 5, ground := Go.Ground.guard }], guard := some (5, false) }) (v := ?_) rfl (by kernel_rfl) (by kernel_rfl) (by kernel_rfl) (fun _ _ _ h => h) (Or.inl ⟨by rfl, ?_⟩) (by assumption) ?_
            rotate_left
            · intro w hSw
              try dsimp only at hSw
              go_simp
              all_goals with_reducible rfl
            try simp only [Act.put, List.setIfInBounds_toArray, List.set_cons_zero, List.set_cons_succ]
            refine wpAnyH_take (i := 10) (oi := { dst := some 50, op := Go.Op.fieldAddr 37 (Go.Operand.tmp 49) 0, type := 0, pos := "law.go:44", after := #[{ on := 9, ground := Go.Ground.data }, { on := 5, ground := Go.Ground.guard }], guard := some (5, false) }) (v := ?_) rfl (by kernel_rfl) (by kernel_rfl) (by kernel_rfl) (fun _ _ _ h => h) (Or.inl ⟨by rfl, ?_⟩) (by assumption) ?_
            rotate_left
            · intro w hSw
              try dsimp only at hSw
              go_simp
              all_goals with_reducible rfl
            try simp only [Act.put, List.setIfInBounds_toArray, List.set_cons_zero, List.set_cons_succ]
            refine wpAnyH_ready (rs := [7, 11]) (by kernel_rfl) (by simp) ?_
            refine AllReadyH.cons (o := { dst := some 47, op := Go.Op.call { callee := Go.Callee.value (Go.Operand.func 18), args := #[Go.Operand.tmp 46], argTypes := #[32] }, type := 3, pos := "law.go:44", after := #[{ on := 6, ground := Go.Ground.data }, { on := 5, ground := Go.Ground.chain }, { on := 5, ground := Go.Ground.guard }], guard := some (5, false) }) rfl (fun K hK => ?_) ?_
            · skip
              go_simp
              (go_at_call 18; have hop := wleft HS6.out; refine hop.mono ?_; rintro e w7 ⟨rfl, rfl⟩; clear hop)
              go_wp2_with fail
              refine hK.out _ _ trivial (fun hHeld => ?_)
              clear hK K
              try simp only [Act.put, List.setIfInBounds_toArray, List.set_cons_zero, List.set_cons_succ]
              refine wpAnyH_ready (rs := [11]) (by kernel_rfl) (by simp) ?_
              refine AllReadyH.cons (o := { dst := some 51, op := Go.Op.load 24 (Go.Operand.tmp 50), type := 24, pos := "law.go:44", after := #[{ on := 10, ground := Go.Ground.data }, { on := 5, ground := Go.Ground.guard }], guard := some (5, false) }) rfl (fun K hK => ?_) AllReadyH.nil
              go_simp
              refine hK.out _ _ trivial (fun hHeld => ?_)
              clear hK K
              try simp only [Act.put, List.setIfInBounds_toArray, List.set_cons_zero, List.set_cons_succ]
              refine wpAnyH_take (i := 12) (oi := { dst := some 52, op := Go.Op.call { callee := Go.Callee.builtin Go.Builtin.len, args := #[Go.Operand.tmp 51], argTypes := #[24] }, type := 3, pos := "law.go:44", after := #[{ on := 11, ground := Go.Ground.data }, { on := 5, ground := Go.Ground.guard }], guard := some (5, false) }) (v := ?_) rfl (by kernel_rfl) (by kernel_rfl) (by kernel_rfl) (fun _ _ _ h => h) (Or.inl ⟨by rfl, ?_⟩) (by assumption) ?_
              rotate_left
              · intro w hSw
                try dsimp only at hSw
                go_simp
                all_goals with_reducible rfl
              try simp only [Act.put, List.setIfInBounds_toArray, List.set_cons_zero, List.set_cons_succ]
              refine wpAnyH_take (i := 13) (oi := { dst := some 53, op := Go.Op.binOp Go.BinOp.neq 3 (Go.Operand.tmp 47) (Go.Operand.tmp 52) 3, type := 4, pos := "law.go:44", after := #[{ on := 7, ground := Go.Ground.data }, { on := 12, ground := Go.Ground.data }, { on := 5, ground := Go.Ground.guard }], guard := some (5, false) }) (v := ?_) rfl (by kernel_rfl) (by kernel_rfl) (by kernel_rfl) (fun _ _ _ h => h) (Or.inl ⟨by rfl, ?_⟩) (by assumption) ?_
              rotate_left
              · intro w hSw
                try dsimp only at hSw
                go_simp
                all_goals with_reducible rfl
              try simp only [Act.put, List.setIfInBounds_toArray, List.set_cons_zero, List.set_cons_succ]
              refine wpAnyH_take (i := 14) (oi := { dst := some 54, op := Go.Op.pick (Go.Operand.tmp 45) (Go.Operand.const (Go.Value.bool true)) (Go.Operand.tmp 53), type := 4, pos := "law.go:44", after := #[{ on := 5, ground := Go.Ground.data }, { on := 13, ground := Go.Ground.data }], guard := none }) (v := ?_) rfl (by kernel_rfl) (by kernel_rfl) (by kernel_rfl) (fun _ _ _ h => h) (Or.inl ⟨by rfl, ?_⟩) (by assumption) ?_
              rotate_left
              · intro w hSw
                try dsimp only at hSw
                go_simp
                all_goals with_reducible rfl
              try simp only [Act.put, List.setIfInBounds_toArray, List.set_cons_zero, List.set_cons_succ]
              refine wpAnyH_take (i := 15) (oi := { dst := some 55, op := Go.Op.move (Go.Operand.tmp 54), type := 4, pos := "law.go:44", after := #[{ on := 14, ground := Go.Ground.data }, { on := 7, ground := Go.Ground.chain }], guard := none }) (v := ?_) rfl (by kernel_rfl) (by kernel_rfl) (by kernel_rfl) (fun _ _ _ h => h) (Or.inl ⟨by rfl, ?_⟩) (by assumption) ?_
              rotate_left
              · intro w hSw
                try dsimp only at hSw
                go_simp
                all_goals with_reducible rfl
              try simp only [Act.put, List.setIfInBounds_toArray, List.set_cons_zero, List.set_cons_succ]
              refine wpAnyH_take (i := 16) (oi := { dst := some 56, op := Go.Op.move (Go.Operand.tmp 6), type := 32, pos := "law.go:44", after := #[{ on := 15, ground := Go.Ground.guard }], guard := some (15, false) }) (v := ?_) rfl (by kernel_rfl) (by kernel_rfl) (by kernel_rfl) (fun _ _ _ h => h) (Or.inl ⟨by rfl, ?_⟩) (by assumption) ?_
              rotate_left
              · intro w hSw
                try dsimp only at hSw
                go_simp
                all_goals with_reducible rfl
              try simp only [Act.put, List.setIfInBounds_toArray, List.set_cons_zero, List.set_cons_succ]
              refine wpAnyH_take (i := 18) (oi := { dst := some 58, op := Go.Op.move (Go.Operand.tmp 7), type := 34, pos := "law.go:44", after := #[{ on := 15, ground := Go.Ground.guard }], guard := some (15, false) }) (v := ?_) rfl (by kernel_rfl) (by kernel_rfl) (by kernel_rfl) (fun _ _ _ h => h) (Or.inl ⟨by rfl, ?_⟩) (by assumption) ?_
              rotate_left
              · intro w hSw
                try dsimp only at hSw
                go_simp
                all_goals with_reducible rfl
              try simp only [Act.put, List.setIfInBounds_toArray, List.set_cons_zero, List.set_cons_succ]
              refine wpAnyH_take (i := 19) (oi := { dst := some 59, op := Go.Op.nilCheck (Go.Operand.tmp 58), type := 0, pos := "law.go:44", after := #[{ on := 18, ground := Go.Ground.data }, { on := 15, ground := Go.Ground.guard }], guard := some (15, false) }) (v := ?_) rfl (by kernel_rfl) (by kernel_rfl) (by kernel_rfl) (fun _ _ _ h => h) (Or.inl ⟨by rfl, ?_⟩) (by assumption) ?_
              rotate_left
              · intro w hSw
                try dsimp only at hSw
                go_simp
                all_goals with_reducible rfl
              try simp only [Act.put, List.setIfInBounds_toArray, List.set_cons_zero, List.set_cons_succ]
              refine wpAnyH_take (i := 20) (oi := { dst := some 60, op := Go.Op.fieldAddr 37 (Go.Operand.tmp 59) 1, type := 0, pos := "law.go:44", after := #[{ on := 19, ground := Go.Ground.data }, { on := 15, ground := Go.Ground.guard }], guard := some (15, false) }) (v := ?_) rfl (by kernel_rfl) (by kernel_rfl) (by kernel_rfl) (fun _ _ _ h => h) (Or.inl ⟨by rfl, ?_⟩) (by assumption) ?_
              rotate_left
              · intro w hSw
                try dsimp only at hSw
                go_simp
                all_goals with_reducible rfl
              try simp only [Act.put, List.setIfInBounds_toArray, List.set_cons_zero, List.set_cons_succ]
              refine wpAnyH_ready (rs := [17, 21]) (by kernel_rfl) (by simp) ?_
              refine AllReadyH.cons (o := { dst := some 57, op := Go.Op.call { callee := Go.Callee.value (Go.Operand.func 19), args := #[Go.Operand.tmp 56], argTypes := #[32] }, type := 35, pos := "law.go:44", after := #[{ on := 16, ground := Go.Ground.data }, { on := 15, ground := Go.Ground.chain }, { on := 15, ground := Go.Ground.guard }], guard := some (15, false) }) rfl (fun K hK => ?_) ?_
              · skip
                go_simp
                (go_at_call 19; have hop := werr HS6.out; refine hop.mono ?_; rintro e w7 ⟨rfl, rfl⟩; clear hop)
                go_wp2_with fail
                refine hK.out _ _ trivial (fun hHeld => ?_)
                clear hK K
                try simp only [Act.put, List.setIfInBounds_toArray, List.set_cons_zero, List.set_cons_succ]
                refine wpAnyH_ready (rs := [21]) (by kernel_rfl) (by simp) ?_
                refine AllReadyH.cons (o := { dst := some 61, op := Go.Op.load 35 (Go.Operand.tmp 60), type := 35, pos := "law.go:44", after := #[{ on := 20, ground := Go.Ground.data }, { on := 15, ground := Go.Ground.guard }], guard := some (15, false) }) rfl (fun K hK => ?_) AllReadyH.nil
                go_simp
                refine hK.out _ _ trivial (fun hHeld => ?_)
                clear hK K
                try simp only [Act.put, List.setIfInBounds_toArray, List.set_cons_zero, List.set_cons_succ]
                refine wpAnyH_take (i := 22) (oi := { dst := some 62, op := Go.Op.binOp Go.BinOp.neq 35 (Go.Operand.tmp 57) (Go.Operand.tmp 61) 35, type := 4, pos := "law.go:44", after := #[{ on := 17, ground := Go.Ground.data }, { on := 21, ground := Go.Ground.data }, { on := 15, ground := Go.Ground.guard }], guard := some (15, false) }) (v := ?_) rfl (by kernel_rfl) (by kernel_rfl) (by kernel_rfl) (fun _ _ _ h => h) (Or.inl ⟨by rfl, ?_⟩) (by assumption) ?_
                rotate_left
                · intro w hSw
                  try dsimp only at hSw
                  go_simp
                  all_goals with_reducible rfl
                try simp only [Act.put, List.setIfInBounds_toArray, List.set_cons_zero, List.set_cons_succ]
                refine wpAnyH_take (i := 23) (oi := { dst := some 63, op := Go.Op.pick (Go.Operand.tmp 55) (Go.Operand.const (Go.Value.bool true)) (Go.Operand.tmp 62), type := 4, pos := "law.go:44", after := #[{ on := 15, ground := Go.Ground.data }, { on := 22, ground := Go.Ground.data }], guard := none }) (v := ?_) rfl (by kernel_rfl) (by kernel_rfl) (by kernel_rfl) (fun _ _ _ h => h) (Or.inl ⟨by rfl, ?_⟩) (by assumption) ?_
                rotate_left
                · intro w hSw
                  try dsimp only at hSw
                  go_simp
                  all_goals with_reducible rfl
                try simp only [Act.put, List.setIfInBounds_toArray, List.set_cons_zero, List.set_cons_succ]
                refine wpAnyH_done (by kernel_rfl) ?_ _
                go_wp2
                exact ⟨⟨k + 1, _, by omega, by simp, ⟨HS6.out⟩, ⟨HX6.out⟩, HB6.out⟩, by simp [intOf]; omega⟩
              refine AllReadyH.cons (o := { dst := some 61, op := Go.Op.load 35 (Go.Operand.tmp 60), type := 35, pos := "law.go:44", after := #[{ on := 20, ground := Go.Ground.data }, { on := 15, ground := Go.Ground.guard }], guard := some (15, false) }) rfl (fun K hK => ?_) AllReadyH.nil
              go_simp
              refine hK.out _ _ trivial (fun hHeld => ?_)
              clear hK K
              try simp only [Act.put, List.setIfInBounds_toArray, List.set_cons_zero, List.set_cons_succ]
              refine wpAnyH_ready (rs := [17]) (by kernel_rfl) (by simp) ?_
              refine AllReadyH.cons (o := { dst := some 57, op := Go.Op.call { callee := Go.Callee.value (Go.Operand.func 19), args := #[Go.Operand.tmp 56], argTypes := #[32] }, type := 35, pos := "law.go:44", after := #[{ on := 16, ground := Go.Ground.data }, { on := 15, ground := Go.Ground.chain }, { on := 15, ground := Go.Ground.guard }], guard := some (15, false) }) rfl (fun K hK => ?_) AllReadyH.nil
              go_simp
              (go_at_call 19; have hop := werr HS6.out; refine hop.mono ?_; rintro e w7 ⟨rfl, rfl⟩; clear hop)
              go_wp2_with fail
              refine hK.out _ _ trivial (fun hHeld => ?_)
              clear hK K
              try simp only [Act.put, List.setIfInBounds_toArray, List.set_cons_zero, List.set_cons_succ]
              refine wpAnyH_take (i := 22) (oi := { dst := some 62, op := Go.Op.binOp Go.BinOp.neq 35 (Go.Operand.tmp 57) (Go.Operand.tmp 61) 35, type := 4, pos := "law.go:44", after := #[{ on := 17, ground := Go.Ground.data }, { on := 21, ground := Go.Ground.data }, { on := 15, ground := Go.Ground.guard }], guard := some (15, false) }) (v := ?_) rfl (by kernel_rfl) (by kernel_rfl) (by kernel_rfl) (fun _ _ _ h => h) (Or.inl ⟨by rfl, ?_⟩) (by assumption) ?_
              rotate_left
              · intro w hSw
                try dsimp only at hSw
                go_simp
                all_goals with_reducible rfl
              try simp only [Act.put, List.setIfInBounds_toArray, List.set_cons_zero, List.set_cons_succ]
              refine wpAnyH_take (i := 23) (oi := { dst := some 63, op := Go.Op.pick (Go.Operand.tmp 55) (Go.Operand.const (Go.Value.bool true)) (Go.Operand.tmp 62), type := 4, pos := "law.go:44", after := #[{ on := 15, ground := Go.Ground.data }, { on := 22, ground := Go.Ground.data }], guard := none }) (v := ?_) rfl (by kernel_rfl) (by kernel_rfl) (by kernel_rfl) (fun _ _ _ h => h) (Or.inl ⟨by rfl, ?_⟩) (by assumption) ?_
              rotate_left
              · intro w hSw
                try dsimp only at hSw
                go_simp
                all_goals with_reducible rfl
              try simp only [Act.put, List.setIfInBounds_toArray, List.set_cons_zero, List.set_cons_succ]
              refine wpAnyH_done (by kernel_rfl) ?_ _
              go_wp2
              exact ⟨⟨k + 1, _, by omega, by simp, ⟨HS6.out⟩, ⟨HX6.out⟩, HB6.out⟩, by simp [intOf]; omega⟩
            refine AllReadyH.cons (o := { dst := some 51, op := Go.Op.load 24 (Go.Operand.tmp 50), type := 24, pos := "law.go:44", after := #[{ on := 10, ground := Go.Ground.data }, { on := 5, ground := Go.Ground.guard }], guard := some (5, false) }) rfl (fun K hK => ?_) AllReadyH.nil
            go_simp
            refine hK.out _ _ trivial (fun hHeld => ?_)
            clear hK K
            try simp only [Act.put, List.setIfInBounds_toArray, List.set_cons_zero, List.set_cons_succ]
            refine wpAnyH_take (i := 12) (oi := { dst := some 52, op := Go.Op.call { callee := Go.Callee.builtin Go.Builtin.len, args := #[Go.Operand.tmp 51], argTypes := #[24] }, type := 3, pos := "law.go:44", after := #[{ on := 11, ground := Go.Ground.data }, { on := 5, ground := Go.Ground.guard }], guard := some (5, false) }) (v := ?_) rfl (by kernel_rfl) (by kernel_rfl) (by kernel_rfl) (fun _ _ _ h => h) (Or.inl ⟨by rfl, ?_⟩) (by assumption) ?_
            rotate_left
            · intro w hSw
              try dsimp only at hSw
              go_simp
              all_goals with_reducible rfl
            try simp only [Act.put, List.setIfInBounds_toArray, List.set_cons_zero, List.set_cons_succ]
            refine wpAnyH_ready (rs := [7]) (by kernel_rfl) (by simp) ?_
            refine AllReadyH.cons (o := { dst := some 47, op := Go.Op.call { callee := Go.Callee.value (Go.Operand.func 18), args := #[Go.Operand.tmp 46], argTypes := #[32] }, type := 3, pos := "law.go:44", after := #[{ on := 6, ground := Go.Ground.data }, { on := 5, ground := Go.Ground.chain }, { on := 5, ground := Go.Ground.guard }], guard := some (5, false) }) rfl (fun K hK => ?_) AllReadyH.nil
            go_simp
            (go_at_call 18; have hop := wleft HS6.out; refine hop.mono ?_; rintro e w7 ⟨rfl, rfl⟩; clear hop)
            go_wp2_with fail
            refine hK.out _ _ trivial (fun hHeld => ?_)
            clear hK K
            try simp only [Act.put, List.setIfInBounds_toArray, List.set_cons_zero, List.set_cons_succ]
            refine wpAnyH_take (i := 13) (oi := { dst := some 53, op := Go.Op.binOp Go.BinOp.neq 3 (Go.Operand.tmp 47) (Go.Operand.tmp 52) 3, type := 4, pos := "law.go:44", after := #[{ on := 7, ground := Go.Ground.data }, { on := 12, ground := Go.Ground.data }, { on := 5, ground := Go.Ground.guard }], guard := some (5, false) }) (v := ?_) rfl (by kernel_rfl) (by kernel_rfl) (by kernel_rfl) (fun _ _ _ h => h) (Or.inl ⟨by rfl, ?_⟩) (by assumption) ?_
            rotate_left
            · intro w hSw
              try dsimp only at hSw
              go_simp
              all_goals with_reducible rfl
            try simp only [Act.put, List.setIfInBounds_toArray, List.set_cons_zero, List.set_cons_succ]
            refine wpAnyH_take (i := 14) (oi := { dst := some 54, op := Go.Op.pick (Go.Operand.tmp 45) (Go.Operand.const (Go.Value.bool true)) (Go.Operand.tmp 53), type := 4, pos := "law.go:44", after := #[{ on := 5, ground := Go.Ground.data }, { on := 13, ground := Go.Ground.data }], guard := none }) (v := ?_) rfl (by kernel_rfl) (by kernel_rfl) (by kernel_rfl) (fun _ _ _ h => h) (Or.inl ⟨by rfl, ?_⟩) (by assumption) ?_
            rotate_left
            · intro w hSw
              try dsimp only at hSw
              go_simp
              all_goals with_reducible rfl
            try simp only [Act.put, List.setIfInBounds_toArray, List.set_cons_zero, List.set_cons_succ]
            refine wpAnyH_take (i := 15) (oi := { dst := some 55, op := Go.Op.move (Go.Operand.tmp 54), type := 4, pos := "law.go:44", after := #[{ on := 14, ground := Go.Ground.data }, { on := 7, ground := Go.Ground.chain }], guard := none }) (v := ?_) rfl (by kernel_rfl) (by kernel_rfl) (by kernel_rfl) (fun _ _ _ h => h) (Or.inl ⟨by rfl, ?_⟩) (by assumption) ?_
            rotate_left
            · intro w hSw
              try dsimp only at hSw
              go_simp
              all_goals with_reducible rfl
            try simp only [Act.put, List.setIfInBounds_toArray, List.set_cons_zero, List.set_cons_succ]
            refine wpAnyH_take (i := 16) (oi := { dst := some 56, op := Go.Op.move (Go.Operand.tmp 6), type := 32, pos := "law.go:44", after := #[{ on := 15, ground := Go.Ground.guard }], guard := some (15, false) }) (v := ?_) rfl (by kernel_rfl) (by kernel_rfl) (by kernel_rfl) (fun _ _ _ h => h) (Or.inl ⟨by rfl, ?_⟩) (by assumption) ?_
            rotate_left
            · intro w hSw
              try dsimp only at hSw
              go_simp
              all_goals with_reducible rfl
            try simp only [Act.put, List.setIfInBounds_toArray, List.set_cons_zero, List.set_cons_succ]
            refine wpAnyH_take (i := 18) (oi := { dst := some 58, op := Go.Op.move (Go.Operand.tmp 7), type := 34, pos := "law.go:44", after := #[{ on := 15, ground := Go.Ground.guard }], guard := some (15, false) }) (v := ?_) rfl (by kernel_rfl) (by kernel_rfl) (by kernel_rfl) (fun _ _ _ h => h) (Or.inl ⟨by rfl, ?_⟩) (by assumption) ?_
            rotate_left
            · intro w hSw
              try dsimp only at hSw
              go_simp
              all_goals with_reducible rfl
            try simp only [Act.put, List.setIfInBounds_toArray, List.set_cons_zero, List.set_cons_succ]
            refine wpAnyH_take (i := 19) (oi := { dst := some 59, op := Go.Op.nilCheck (Go.Operand.tmp 58), type := 0, pos := "law.go:44", after := #[{ on := 18, ground := Go.Ground.data }, { on := 15, ground := Go.Ground.guard }], guard := some (15, false) }) (v := ?_) rfl (by kernel_rfl) (by kernel_rfl) (by kernel_rfl) (fun _ _ _ h => h) (Or.inl ⟨by rfl, ?_⟩) (by assumption) ?_
            rotate_left
            · intro w hSw
              try dsimp only at hSw
              go_simp
              all_goals with_reducible rfl
            try simp only [Act.put, List.setIfInBounds_toArray, List.set_cons_zero, List.set_cons_succ]
            refine wpAnyH_take (i := 20) (oi := { dst := some 60, op := Go.Op.fieldAddr 37 (Go.Operand.tmp 59) 1, type := 0, pos := "law.go:44", after := #[{ on := 19, ground := Go.Ground.data }, { on := 15, ground := Go.Ground.guard }], guard := some (15, false) }) (v := ?_) rfl (by kernel_rfl) (by kernel_rfl) (by kernel_rfl) (fun _ _ _ h => h) (Or.inl ⟨by rfl, ?_⟩) (by assumption) ?_
            rotate_left
            · intro w hSw
              try dsimp only at hSw
              go_simp
              all_goals with_reducible rfl
            try simp only [Act.put, List.setIfInBounds_toArray, List.set_cons_zero, List.set_cons_succ]
            refine wpAnyH_ready (rs := [17, 21]) (by kernel_rfl) (by simp) ?_
            refine AllReadyH.cons (o := { dst := some 57, op := Go.Op.call { callee := Go.Callee.value (Go.Operand.func 19), args := #[Go.Operand.tmp 56], argTypes := #[32] }, type := 35, pos := "law.go:44", after := #[{ on := 16, ground := Go.Ground.data }, { on := 15, ground := Go.Ground.chain }, { on := 15, ground := Go.Ground.guard }], guard := some (15, false) }) rfl (fun K hK => ?_) ?_
            · skip
              go_simp
              (go_at_call 19; have hop := werr HS6.out; refine hop.mono ?_; rintro e w7 ⟨rfl, rfl⟩; clear hop)
              go_wp2_with fail
              refine hK.out _ _ trivial (fun hHeld => ?_)
              clear hK K
              try simp only [Act.put, List.setIfInBounds_toArray, List.set_cons_zero, List.set_cons_succ]
              refine wpAnyH_ready (rs := [21]) (by kernel_rfl) (by simp) ?_
              refine AllReadyH.cons (o := { dst := some 61, op := Go.Op.load 35 (Go.Operand.tmp 60), type := 35, pos := "law.go:44", after := #[{ on := 20, ground := Go.Ground.data }, { on := 15, ground := Go.Ground.guard }], guard := some (15, false) }) rfl (fun K hK => ?_) AllReadyH.nil
              go_simp
              refine hK.out _ _ trivial (fun hHeld => ?_)
              clear hK K
              try simp only [Act.put, List.setIfInBounds_toArray, List.set_cons_zero, List.set_cons_succ]
              refine wpAnyH_take (i := 22) (oi := { dst := some 62, op := Go.Op.binOp Go.BinOp.neq 35 (Go.Operand.tmp 57) (Go.Operand.tmp 61) 35, type := 4, pos := "law.go:44", after := #[{ on := 17, ground := Go.Ground.data }, { on := 21, ground := Go.Ground.data }, { on := 15, ground := Go.Ground.guard }], guard := some (15, false) }) (v := ?_) rfl (by kernel_rfl) (by kernel_rfl) (by kernel_rfl) (fun _ _ _ h => h) (Or.inl ⟨by rfl, ?_⟩) (by assumption) ?_
              rotate_left
              · intro w hSw
                try dsimp only at hSw
                go_simp
                all_goals with_reducible rfl
              try simp only [Act.put, List.setIfInBounds_toArray, List.set_cons_zero, List.set_cons_succ]
              refine wpAnyH_take (i := 23) (oi := { dst := some 63, op := Go.Op.pick (Go.Operand.tmp 55) (Go.Operand.const (Go.Value.bool true)) (Go.Operand.tmp 62), type := 4, pos := "law.go:44", after := #[{ on := 15, ground := Go.Ground.data }, { on := 22, ground := Go.Ground.data }], guard := none }) (v := ?_) rfl (by kernel_rfl) (by kernel_rfl) (by kernel_rfl) (fun _ _ _ h => h) (Or.inl ⟨by rfl, ?_⟩) (by assumption) ?_
              rotate_left
              · intro w hSw
                try dsimp only at hSw
                go_simp
                all_goals with_reducible rfl
              try simp only [Act.put, List.setIfInBounds_toArray, List.set_cons_zero, List.set_cons_succ]
              refine wpAnyH_done (by kernel_rfl) ?_ _
              go_wp2
              exact ⟨⟨k + 1, _, by omega, by simp, ⟨HS6.out⟩, ⟨HX6.out⟩, HB6.out⟩, by simp [intOf]; omega⟩
            refine AllReadyH.cons (o := { dst := some 61, op := Go.Op.load 35 (Go.Operand.tmp 60), type := 35, pos := "law.go:44", after := #[{ on := 20, ground := Go.Ground.data }, { on := 15, ground := Go.Ground.guard }], guard := some (15, false) }) rfl (fun K hK => ?_) AllReadyH.nil
            go_simp
            refine hK.out _ _ trivial (fun hHeld => ?_)
            clear hK K
            try simp only [Act.put, List.setIfInBounds_toArray, List.set_cons_zero, List.set_cons_succ]
            refine wpAnyH_ready (rs := [17]) (by kernel_rfl) (by simp) ?_
            refine AllReadyH.cons (o := { dst := some 57, op := Go.Op.call { callee := Go.Callee.value (Go.Operand.func 19), args := #[Go.Operand.tmp 56], argTypes := #[32] }, type := 35, pos := "law.go:44", after := #[{ on := 16, ground := Go.Ground.data }, { on := 15, ground := Go.Ground.chain }, { on := 15, ground := Go.Ground.guard }], guard := some (15, false) }) rfl (fun K hK => ?_) AllReadyH.nil
            go_simp
            (go_at_call 19; have hop := werr HS6.out; refine hop.mono ?_; rintro e w7 ⟨rfl, rfl⟩; clear hop)
            go_wp2_with fail
            refine hK.out _ _ trivial (fun hHeld => ?_)
            clear hK K
            try simp only [Act.put, List.setIfInBounds_toArray, List.set_cons_zero, List.set_cons_succ]
            refine wpAnyH_take (i := 22) (oi := { dst := some 62, op := Go.Op.binOp Go.BinOp.neq 35 (Go.Operand.tmp 57) (Go.Operand.tmp 61) 35, type := 4, pos := "law.go:44", after := #[{ on := 17, ground := Go.Ground.data }, { on := 21, ground := Go.Ground.data }, { on := 15, ground := Go.Ground.guard }], guard := some (15, false) }) (v := ?_) rfl (by kernel_rfl) (by kernel_rfl) (by kernel_rfl) (fun _ _ _ h => h) (Or.inl ⟨by rfl, ?_⟩) (by assumption) ?_
            rotate_left
            · intro w hSw
              try dsimp only at hSw
              go_simp
              all_goals with_reducible rfl
            try simp only [Act.put, List.setIfInBounds_toArray, List.set_cons_zero, List.set_cons_succ]
            refine wpAnyH_take (i := 23) (oi := { dst := some 63, op := Go.Op.pick (Go.Operand.tmp 55) (Go.Operand.const (Go.Value.bool true)) (Go.Operand.tmp 62), type := 4, pos := "law.go:44", after := #[{ on := 15, ground := Go.Ground.data }, { on := 22, ground := Go.Ground.data }], guard := none }) (v := ?_) rfl (by kernel_rfl) (by kernel_rfl) (by kernel_rfl) (fun _ _ _ h => h) (Or.inl ⟨by rfl, ?_⟩) (by assumption) ?_
            rotate_left
            · intro w hSw
              try dsimp only at hSw
              go_simp
              all_goals with_reducible rfl
            try simp only [Act.put, List.setIfInBounds_toArray, List.set_cons_zero, List.set_cons_succ]
            refine wpAnyH_done (by kernel_rfl) ?_ _
            go_wp2
            exact ⟨⟨k + 1, _, by omega, by simp, ⟨HS6.out⟩, ⟨HX6.out⟩, HB6.out⟩, by simp [intOf]; omega⟩
          · go_wp2
            go_ret
            exact ⟨rfl, HBR.out⟩
      · go_wp2
        go_ret
        exact ⟨rfl, HB3.out⟩
    · go_wp2
      go_ret
      exact ⟨rfl, HB3.out⟩
  · go_wp2
    go_ret
    exact ⟨rfl, HB3.out⟩
end Go.Proofs.Ytiodpbenjbdcfaa
namespace Go.Proofs.Ytiodpbenjbdcfaa.G
open Go.RowKit Go.Proofs.Ytiodpbenjbdcfaa Go.Proofs.YtiodpbenjbdcfaaW.PrintWords Go.Proofs.YtiodpbenjbdcfaaW.PrintLast Go.Proofs.YtiodpbenjbdcfaaW.PrintMore
def rosettelaw04_ValueGets.f (l0 : List Int) (a1 : Int) : Option Bool := if l0.length ≤ 140737488351232 ∧ u8s l0 ∧ (-9223372036854775808 ≤ a1 ∧ a1 < 9223372036854775808) then some true else none
theorem rosettelaw04_ValueGets.calls (A0 : Option Addr) (c0 : Nat) (l0 : List Int) (a1 : Int) (r : Bool) (w : World) (hr0 : (Kd.int .u8).C w A0 l0.length l0) (hc0 : l0.length ≤ c0) (hk0 : c0 ≤ 9223372036854775807) (h : rosettelaw04_ValueGets.f l0 a1 = some r) :
    Calls Try.prog 6 #[.slice A0 l0.length c0, .int .i64 a1] w fun e w' => e = .returned (.bool r) ∧ Below w.heap.size w w' := by
  unfold rosettelaw04_ValueGets.f at h
  split at h
  · rename_i hc
    obtain rfl : true = r := Option.some.inj h
    exact valueGets_any A0 c0 l0 a1 w hr0 hc0 hk0 hc.1 hc.2.1 hc.2.2
  · cases h
end Go.Proofs.Ytiodpbenjbdcfaa.G
