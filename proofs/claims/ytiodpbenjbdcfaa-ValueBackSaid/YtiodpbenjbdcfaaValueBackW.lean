/- what was laid is read as it was, and what is read was laid just so: the law's walk -/
import Derived.Test.YtiodpbenjbdcfaaSmall04
import Derived.Test.YtiodpbenjbdcfaaValOnce
import Derived.Deep.RegionHeld3
import Derived.Deep.CutRange
set_option linter.unusedVariables false
set_option linter.unusedSimpArgs false
set_option autoImplicit false
namespace Go.Proofs.Ytiodpbenjbdcfaa
open Go.RowKit Go.Proofs.YtiodpbenjbdcfaaW.PrintWords Go.Proofs.YtiodpbenjbdcfaaW.PrintLast Go.Proofs.YtiodpbenjbdcfaaW.PrintMore Go.Proofs.Ytiodpbenjbdcfaa.G

theorem below_via2 {w W W' : World} (h0 : Below w.heap.size w W) (h : Below W.heap.size W W') : Below w.heap.size w W' := h0.trans (h.mono h0.size)
theorem strA {w : World} {A : Option Addr} {l : List Int} (h : (Kd.int .u8).C w A l.length l) (c : Nat) : (convert 24 9 (.slice A l.length c)).run Try.prog w = .ok (.string (strOfNums l)) w :=
  Kd.C_string (P := Try.prog) (A := A) (c := c) Try.underlying24 Try.underlying5 Try.underlying9 h
theorem vb_u8s (k i : Int) (t : ByteArray) (h0 : -9223372036854775808 ≤ i) (h1 : i < 9223372036854775808) : u8s (vbytes k i t) := by
  unfold vbytes
  split
  · rename_i h
    rcases vright_k h with ⟨hk, ht⟩ | ⟨hk, hi, ht⟩ | ⟨hk, ht, hi, hj⟩
    · rw [if_pos hk]; exact u8s_append.2 ⟨put_u8s _ (by decide), put_u8s _ (zig_lt _ h0 h1).1⟩
    · rw [if_neg (by omega), if_pos hk]; exact u8s_append.2 ⟨u8s_append.2 ⟨put_u8s _ (by decide), put_u8s _ (by omega)⟩, bytes_u8s _⟩
    · rw [if_neg (by omega), if_neg (by omega)]; exact u8s_append.2 ⟨put_u8s _ (by decide), put_u8s _ hi⟩
  · exact u8s_nil
set_option maxRecDepth 100000 in
set_option maxHeartbeats 4000000 in
theorem valueBack_any (k i : Int) (t : ByteArray) (A1 : Option Addr) (c1 : Nat) (l1 : List Int) (w : World) (hi : -9223372036854775808 ≤ i ∧ i < 9223372036854775808) (hr1 : (Kd.int .u8).C w A1 l1.length l1) (hc1 : l1.length ≤ c1) (hl1 : l1.length ≤ 140737488351232) (hu1 : u8s l1) :
    Calls Try.prog 7 #[.agg #[.int .i64 k, .int .i64 i, .string t], .slice A1 l1.length c1] w fun e w' => e = .returned (.bool true) ∧ Below w.heap.size w w' := by
  have HR0 := Aside0.mk (HeldB.low hr1)
  have HU := Aside0.mk hu1
  have HL1 := Aside0.mk hl1
  have HI := Aside0.mk hi
  clear hr1 hu1 hl1
  have hput := put_val [] k i t (by simp) hi.1 hi.2
  have hxu := vb_u8s k i t hi.1 hi.2
  have hxl := vbytes_len k i t
  have hxp := vbytes_pos k i t
  have hxb : vright k i t = true → Sc.val ⟨vbytes k i t, 0⟩ = (⟨k, i, t⟩, ⟨[], 0⟩) := fun h => by have := val_back k i t [] h hi.1 hi.2; rwa [List.append_nil] at this
  rw [List.nil_append] at hput
  generalize vbytes k i t = X at *
  have EX := Aside0.mk hput
  have XU := Aside0.mk hxu
  have XL := Aside0.mk hxl
  have XP := Aside0.mk hxp
  have XB := Aside0.mk hxb
  clear hput hxu hxl hxp hxb hi
  have hA := heap_alloc_new w (.cells #[.int .i64 k, .int .i64 i, .string t] 23)
  have hb := (Below.refl w.heap.size w).alloc (Nat.le_refl _) (.cells #[.int .i64 k, .int .i64 i, .string t] 23)
  have HAa := Aside0.mk hA
  have HBa := Aside0.mk hb
  clear hA hb
  go_enter Try.func7, Try.ntmps7
  go_upto_region 1 with fail
  have hs1 := lt_of_heap HAa.out
  have HRa := Aside0.mk (HR0.out.below ((Below.refl w.heap.size w).alloc (Nat.le_refl _) (.cells #[.int .i64 k, .int .i64 i, .string t] 23)))
  generalize w.alloc (.cells #[.int .i64 k, .int .i64 i, .string t] 23) = wa at HAa HBa HRa hs1 ⊢
  clear HR0
  go_wp2_with fail
  refine (small_any _).mono ?_
  rintro e w4 ⟨rfl, hX⟩
  have HB4 := Aside0.mk (below_via2 HBa.out hX)
  have HA4 := Aside0.mk (vkeepB HAa.out hX)
  have HR4 := Aside0.mk (HRa.out.below hX)
  have o4 := hX.size
  clear hX HBa HAa HRa
  obtain ⟨p0, p1, p2⟩ := vcells HA4.out
  go_wp2_with fail
  refine (value_Put.calls none 0 [] k i t X _ (nil_C _ .u8) (Nat.le_refl _) EX.out).mono ?_
  rintro e w5 ⟨v5, rfl, hR, hX⟩
  obtain ⟨Ax, nx, rfl, hcx, _, hH, _⟩ := held_own hR
  have HB5 := Aside0.mk (below_via2 HB4.out hX)
  have HA5 := Aside0.mk (vkeepB HA4.out hX)
  have HR5 := Aside0.mk (HR4.out.below hX)
  have HX5 := Aside0.mk hH
  have o5 := hX.size
  clear hX hR hH HB4 HA4 HR4 p0 p1 p2
  go_wp2_with fail
  refine (won Ax nx X w5 (HX5.out.C (by have := XL.out; omega)) hcx XU.out (by have := XL.out; omega)).mono ?_
  rintro e w6 ⟨gs, rfl, hgs, hS, hX⟩
  have HB6 := Aside0.mk (below_via2 HB5.out hX)
  have HA6 := Aside0.mk (vkeepB HA5.out hX)
  have HR6 := Aside0.mk (HR5.out.below hX)
  have HS6 := Aside0.mk hS
  clear hX hS HB5 HA5 HR5 HX5
  go_wp2_with fail
  refine (won A1 c1 l1 w6 (HR6.out.C (by have := HL1.out; omega)) hc1 HU.out (by have := HL1.out; omega)).mono ?_
  rintro e w7 ⟨gt, rfl, hgt, hT, hX⟩
  have HB7 := Aside0.mk (below_via2 HB6.out hX)
  have HA7 := Aside0.mk (vkeepB HA6.out hX)
  have HR7 := Aside0.mk (HR6.out.below hX)
  have HS7 := Aside0.mk (HS6.out.below hX)
  have HT7 := Aside0.mk hT
  have ORD := Aside0.mk (show w.heap.size < w5.heap.size ∧ w5.heap.size ≤ gs ∧ gs < w6.heap.size ∧ w6.heap.size ≤ gt from ⟨by omega, hgs, HS6.out.lt, hgt⟩)
  clear hX hT HB6 HA6 HR6 HS6 hgs hgt o4 o5 hs1
  obtain ⟨p0, p1, p2⟩ := vcells HA7.out
  by_cases hg1 : l1.length ≤ 300
  · by_cases hg2 : t.size ≤ 300
    · go_upto_region 7 with fail
      go_cut [64] from 44 to 64 (fun s wx => s = .bool false ∧ Aside0 (Below w.heap.size w wx) ∧ Aside0 (HeldB wx (fun k => k < w.heap.size) A1 l1) ∧ Aside0 (Scn 53 (fun k => w6.heap.size ≤ k ∧ k < gt) wx gt ⟨l1, 0⟩))
      case first =>
        have HBc := Aside0.mk (below_drew HB7.out)
        have HAc := Aside0.mk (vkeepB HA7.out (below_drew (Below.refl _ _)))
        have HRc := Aside0.mk (HR7.out.below (below_drew (Below.refl _ _)))
        have HSc := Aside0.mk (HS7.out.below (below_drew (Below.refl _ _)))
        have HTc := Aside0.mk (HT7.out.below (below_drew (Below.refl _ _)))
        clear HB7 HA7 HR7 HS7 HT7 p0 p1 p2
        by_cases hr : vright k i t = true
        · have RT : Aside0 (value_Right.f k i t = some true) := ⟨by rw [right_f k i t HI.out.1 HI.out.2, hr]⟩
          have XBK := Aside0.mk (XB.out hr)
          have hpos : 0 < X.length := XP.out.2 hr
          have f0 : decide (0 < X.length) = true := decide_eq_true hpos
          have f2 : Sc.endE ⟨[], 0⟩ = 0 := rfl
          clear hr XB XP
          refine wp_region_held_drew (S := (fun W => W.cell? ⟨w.heap.size, 0, none⟩ = some (.int .i64 k) ∧ W.cell? ⟨w.heap.size, 1, none⟩ = some (.int .i64 i) ∧ W.cell? ⟨w.heap.size, 2, none⟩ = some (.string t))) (by kernel_rfl) (vcells HAc.out) (fun hHeld => ?_)
          refine wpAnyH_take (i := 0) (oi := { dst := some 44, op := Go.Op.load 23 (Go.Operand.tmp 2), type := 23, pos := "law.go:60", after := #[], guard := none }) (v := ?_) rfl (by kernel_rfl) (by kernel_rfl) (by kernel_rfl) (fun _ _ _ h => h) (Or.inl ⟨by rfl, ?_⟩) (by assumption) ?_
          rotate_left
          · intro w hSw
            try dsimp only at hSw
            go_simp
            all_goals with_reducible rfl
          try simp only [Act.put, List.setIfInBounds_toArray, List.set_cons_zero, List.set_cons_succ]
          refine wpAnyH_take (i := 2) (oi := { dst := some 46, op := Go.Op.move (Go.Operand.tmp 6), type := 24, pos := "law.go:60", after := #[], guard := none }) (v := ?_) rfl (by kernel_rfl) (by kernel_rfl) (by kernel_rfl) (fun _ _ _ h => h) (Or.inl ⟨by rfl, ?_⟩) (by assumption) ?_
          rotate_left
          · intro w hSw
            try dsimp only at hSw
            go_simp
            all_goals with_reducible rfl
          try simp only [Act.put, List.setIfInBounds_toArray, List.set_cons_zero, List.set_cons_succ]
          refine wpAnyH_take (i := 3) (oi := { dst := some 47, op := Go.Op.call { callee := Go.Callee.builtin Go.Builtin.len, args := #[Go.Operand.tmp 46], argTypes := #[24] }, type := 3, pos := "law.go:60", after := #[{ on := 2, ground := Go.Ground.data }], guard := none }) (v := ?_) rfl (by kernel_rfl) (by kernel_rfl) (by kernel_rfl) (fun _ _ _ h => h) (Or.inl ⟨by rfl, ?_⟩) (by assumption) ?_
          rotate_left
          · intro w hSw
            try dsimp only at hSw
            go_simp
            all_goals with_reducible rfl
          try simp only [Act.put, List.setIfInBounds_toArray, List.set_cons_zero, List.set_cons_succ]
          refine wpAnyH_take (i := 4) (oi := { dst := some 48, op := Go.Op.binOp Go.BinOp.gtr 3 (Go.Operand.tmp 47) (Go.Operand.const (Go.Value.int Go.IntKind.i64 0)) 3, type := 4, pos := "law.go:60", after := #[{ on := 3, ground := Go.Ground.data }], guard := none }) (v := ?_) rfl (by kernel_rfl) (by kernel_rfl) (by kernel_rfl) (fun _ _ _ h => h) (Or.inl ⟨by rfl, ?_⟩) (by assumption) ?_
          rotate_left
          · intro w hSw
            try dsimp only at hSw
            go_simp
            all_goals with_reducible rfl
          try simp only [Act.put, List.setIfInBounds_toArray, List.set_cons_zero, List.set_cons_succ]
          refine wpAnyH_ready (rs := [1]) (by kernel_rfl) (by simp) ?_
          refine AllReadyH.cons (o := { dst := some 45, op := Go.Op.call { callee := Go.Callee.value (Go.Operand.func 9), args := #[Go.Operand.tmp 44], argTypes := #[23] }, type := 4, pos := "law.go:60", after := #[{ on := 0, ground := Go.Ground.data }], guard := none }) rfl (fun K hK => ?_) AllReadyH.nil
          go_simp
          (go_at_call 9; refine Calls.mono (value_Right.calls k i t true _ RT.out) ?_; rintro e wn ⟨rfl, hX⟩; have HB' := Aside0.mk (below_via2 HBc.out hX); have HA' := Aside0.mk (vkeepB HAc.out hX); have HS' := Aside0.mk (HSc.out.below hX); have HT' := Aside0.mk (HTc.out.below hX); have HR' := Aside0.mk (HRc.out.below hX); clear hX HBc HAc HSc HTc HRc; have HBc := HB'; have HAc := HA'; have HSc := HS'; have HTc := HT'; have HRc := HR'; clear HB' HA' HS' HT' HR')
          go_wp2_with fail
          refine hK.out _ _ (vcells HAc.out) (fun hHeld => ?_)
          clear hK K
          try simp only [Act.put, List.setIfInBounds_toArray, List.set_cons_zero, List.set_cons_succ]
          refine wpAnyH_take (i := 5) (oi := { dst := some 49, op := Go.Op.binOp Go.BinOp.neq 4 (Go.Operand.tmp 45) (Go.Operand.tmp 48) 4, type := 4, pos := "law.go:60", after := #[{ on := 1, ground := Go.Ground.data }, { on := 4, ground := Go.Ground.data }], guard := none }) (v := ?_) rfl (by kernel_rfl) (by kernel_rfl) (by kernel_rfl) (fun _ _ _ h => h) (Or.inl ⟨by rfl, ?_⟩) (by assumption) ?_
          rotate_left
          · intro w hSw
            try dsimp only at hSw
            go_simp
            all_goals with_reducible rfl
          try simp only [Act.put, List.setIfInBounds_toArray, List.set_cons_zero, List.set_cons_succ]
          refine wpAnyH_take (i := 6) (oi := { dst := some 50, op := Go.Op.move (Go.Operand.tmp 49), type := 4, pos := "law.go:60", after := #[{ on := 5, ground := Go.Ground.data }, { on := 1, ground := Go.Ground.chain }], guard := none }) (v := ?_) rfl (by kernel_rfl) (by kernel_rfl) (by kernel_rfl) (fun _ _ _ h => h) (Or.inl ⟨by rfl, ?_⟩) (by assumption) ?_
          rotate_left
          · intro w hSw
            try dsimp only at hSw
            go_simp
            all_goals with_reducible rfl
          try simp only [Act.put, List.setIfInBounds_toArray, List.set_cons_zero, List.set_cons_succ]
          refine wpAnyH_take (i := 7) (oi := { dst := some 51, op := Go.Op.load 23 (Go.Operand.tmp 2), type := 23, pos := "law.go:60", after := #[{ on := 6, ground := Go.Ground.guard }], guard := some (6, false) }) (v := ?_) rfl (by kernel_rfl) (by kernel_rfl) (by kernel_rfl) (fun _ _ _ h => h) (Or.inl ⟨by rfl, ?_⟩) (by assumption) ?_
          rotate_left
          · intro w hSw
            try dsimp only at hSw
            go_simp
            all_goals with_reducible rfl
          try simp only [Act.put, List.setIfInBounds_toArray, List.set_cons_zero, List.set_cons_succ]
          refine wpAnyH_ready (rs := [8]) (by kernel_rfl) (by simp) ?_
          refine AllReadyH.cons (o := { dst := some 52, op := Go.Op.call { callee := Go.Callee.value (Go.Operand.func 9), args := #[Go.Operand.tmp 51], argTypes := #[23] }, type := 4, pos := "law.go:60", after := #[{ on := 7, ground := Go.Ground.data }, { on := 6, ground := Go.Ground.chain }, { on := 6, ground := Go.Ground.guard }], guard := some (6, false) }) rfl (fun K hK => ?_) AllReadyH.nil
          go_simp
          (go_at_call 9; refine Calls.mono (value_Right.calls k i t true _ RT.out) ?_; rintro e wn ⟨rfl, hX⟩; have HB' := Aside0.mk (below_via2 HBc.out hX); have HA' := Aside0.mk (vkeepB HAc.out hX); have HS' := Aside0.mk (HSc.out.below hX); have HT' := Aside0.mk (HTc.out.below hX); have HR' := Aside0.mk (HRc.out.below hX); clear hX HBc HAc HSc HTc HRc; have HBc := HB'; have HAc := HA'; have HSc := HS'; have HTc := HT'; have HRc := HR'; clear HB' HA' HS' HT' HR')
          go_wp2_with fail
          refine hK.out _ _ (vcells HAc.out) (fun hHeld => ?_)
          clear hK K
          try simp only [Act.put, List.setIfInBounds_toArray, List.set_cons_zero, List.set_cons_succ]
          refine wpAnyH_take (i := 9) (oi := { dst := some 53, op := Go.Op.move (Go.Operand.tmp 52), type := 4, pos := "law.go:60", after := #[{ on := 8, ground := Go.Ground.data }, { on := 8, ground := Go.Ground.chain }, { on := 6, ground := Go.Ground.guard }], guard := some (6, false) }) (v := ?_) rfl (by kernel_rfl) (by kernel_rfl) (by kernel_rfl) (fun _ _ _ h => h) (Or.inl ⟨by rfl, ?_⟩) (by assumption) ?_
          rotate_left
          · intro w hSw
            try dsimp only at hSw
            go_simp
            all_goals with_reducible rfl
          try simp only [Act.put, List.setIfInBounds_toArray, List.set_cons_zero, List.set_cons_succ]
          refine wpAnyH_take (i := 10) (oi := { dst := some 54, op := Go.Op.move (Go.Operand.tmp 7), type := 32, pos := "law.go:60", after := #[{ on := 9, ground := Go.Ground.guard }], guard := some (9, true) }) (v := ?_) rfl (by kernel_rfl) (by kernel_rfl) (by kernel_rfl) (fun _ _ _ h => h) (Or.inl ⟨by rfl, ?_⟩) (by assumption) ?_
          rotate_left
          · intro w hSw
            try dsimp only at hSw
            go_simp
            all_goals with_reducible rfl
          try simp only [Act.put, List.setIfInBounds_toArray, List.set_cons_zero, List.set_cons_succ]
          refine wpAnyH_take (i := 12) (oi := { dst := some 56, op := Go.Op.load 23 (Go.Operand.tmp 2), type := 23, pos := "law.go:60", after := #[{ on := 9, ground := Go.Ground.guard }], guard := some (9, true) }) (v := ?_) rfl (by kernel_rfl) (by kernel_rfl) (by kernel_rfl) (fun _ _ _ h => h) (Or.inl ⟨by rfl, ?_⟩) (by assumption) ?_
          rotate_left
          · intro w hSw
            try dsimp only at hSw
            go_simp
            all_goals with_reducible rfl
          try simp only [Act.put, List.setIfInBounds_toArray, List.set_cons_zero, List.set_cons_succ]
          refine wpAnyH_ready (rs := [11]) (by kernel_rfl) (by simp) ?_
          refine AllReadyH.cons (o := { dst := some 55, op := Go.Op.call { callee := Go.Callee.value (Go.Operand.func 16), args := #[Go.Operand.tmp 54], argTypes := #[32] }, type := 23, pos := "law.go:60", after := #[{ on := 10, ground := Go.Ground.data }, { on := 9, ground := Go.Ground.chain }, { on := 9, ground := Go.Ground.guard }], guard := some (9, true) }) rfl (fun K hK => ?_) AllReadyH.nil
          go_simp
          (go_at_call 16; refine Calls.mono (wget HSc.out) ?_; rintro e wn ⟨rfl, hz, hG⟩; rw [XBK.out] at hz ⊢; simp only [Vl.v]; have ord := ORD.out; have HB' : Aside0 (Below w.heap.size w wn) := ⟨below_of_grown HBc.out hG (by omega)⟩; have HA' := Aside0.mk (vkeepG HAc.out hG (by omega)); have HS' := Aside0.mk hz; have HT' := Aside0.mk (HTc.out.grown hG (by omega) (by omega)); have HR' := Aside0.mk (HRc.out.grown hG (by omega)); clear ord hz hG HBc HAc HSc HTc HRc; have HBc := HB'; have HAc := HA'; have HSc := HS'; have HTc := HT'; have HRc := HR'; clear HB' HA' HS' HT' HR')
          go_wp2_with fail
          refine hK.out _ _ (vcells HAc.out) (fun hHeld => ?_)
          clear hK K
          try simp only [Act.put, List.setIfInBounds_toArray, List.set_cons_zero, List.set_cons_succ]
          refine wpAnyH_take (i := 13) (oi := { dst := some 57, op := Go.Op.binOp Go.BinOp.neq 23 (Go.Operand.tmp 55) (Go.Operand.tmp 56) 23, type := 4, pos := "law.go:60", after := #[{ on := 11, ground := Go.Ground.data }, { on := 12, ground := Go.Ground.data }, { on := 9, ground := Go.Ground.guard }], guard := some (9, true) }) (v := ?_) rfl (by kernel_rfl) (by kernel_rfl) (by kernel_rfl) (fun _ _ _ h => h) (Or.inl ⟨by rfl, ?_⟩) (by assumption) ?_
          rotate_left
          · intro w hSw
            try dsimp only at hSw
            go_simp
            all_goals with_reducible rfl
          try simp only [Act.put, List.setIfInBounds_toArray, List.set_cons_zero, List.set_cons_succ]
          refine wpAnyH_take (i := 14) (oi := { dst := some 58, op := Go.Op.move (Go.Operand.tmp 57), type := 4, pos := "law.go:60", after := #[{ on := 13, ground := Go.Ground.data }, { on := 11, ground := Go.Ground.chain }, { on := 9, ground := Go.Ground.guard }], guard := some (9, true) }) (v := ?_) rfl (by kernel_rfl) (by kernel_rfl) (by kernel_rfl) (fun _ _ _ h => h) (Or.inl ⟨by rfl, ?_⟩) (by assumption) ?_
          rotate_left
          · intro w hSw
            try dsimp only at hSw
            go_simp
            all_goals with_reducible rfl
          try simp only [Act.put, List.setIfInBounds_toArray, List.set_cons_zero, List.set_cons_succ]
          refine wpAnyH_take (i := 15) (oi := { dst := some 59, op := Go.Op.move (Go.Operand.tmp 7), type := 32, pos := "law.go:60", after := #[{ on := 14, ground := Go.Ground.guard }], guard := some (14, false) }) (v := ?_) rfl (by kernel_rfl) (by kernel_rfl) (by kernel_rfl) (fun _ _ _ h => h) (Or.inl ⟨by rfl, ?_⟩) (by assumption) ?_
          rotate_left
          · intro w hSw
            try dsimp only at hSw
            go_simp
            all_goals with_reducible rfl
          try simp only [Act.put, List.setIfInBounds_toArray, List.set_cons_zero, List.set_cons_succ]
          refine wpAnyH_ready (rs := [16]) (by kernel_rfl) (by simp) ?_
          refine AllReadyH.cons (o := { dst := some 60, op := Go.Op.call { callee := Go.Callee.value (Go.Operand.func 20), args := #[Go.Operand.tmp 59], argTypes := #[32] }, type := 35, pos := "law.go:60", after := #[{ on := 15, ground := Go.Ground.data }, { on := 14, ground := Go.Ground.chain }, { on := 14, ground := Go.Ground.guard }], guard := some (14, false) }) rfl (fun K hK => ?_) AllReadyH.nil
          go_simp
          (go_at_call 20; have hop := wend HSc.out; refine hop.mono ?_; rintro e wn ⟨rfl, rfl⟩; clear hop)
          go_wp2_with fail
          refine hK.out _ _ (vcells HAc.out) (fun hHeld => ?_)
          clear hK K
          try simp only [Act.put, List.setIfInBounds_toArray, List.set_cons_zero, List.set_cons_succ]
          refine wpAnyH_take (i := 17) (oi := { dst := some 61, op := Go.Op.binOp Go.BinOp.neq 35 (Go.Operand.tmp 60) (Go.Operand.const (Go.Value.int Go.IntKind.i64 0)) 35, type := 4, pos := "law.go:60", after := #[{ on := 16, ground := Go.Ground.data }, { on := 14, ground := Go.Ground.guard }], guard := some (14, false) }) (v := ?_) rfl (by kernel_rfl) (by kernel_rfl) (by kernel_rfl) (fun _ _ _ h => h) (Or.inl ⟨by rfl, ?_⟩) (by assumption) ?_
          rotate_left
          · intro w hSw
            try dsimp only at hSw
            go_simp
            all_goals with_reducible rfl
          try simp only [Act.put, List.setIfInBounds_toArray, List.set_cons_zero, List.set_cons_succ]
          refine wpAnyH_take (i := 18) (oi := { dst := some 62, op := Go.Op.pick (Go.Operand.tmp 58) (Go.Operand.const (Go.Value.bool true)) (Go.Operand.tmp 61), type := 4, pos := "law.go:60", after := #[{ on := 14, ground := Go.Ground.data }, { on := 17, ground := Go.Ground.data }, { on := 9, ground := Go.Ground.guard }], guard := some (9, true) }) (v := ?_) rfl (by kernel_rfl) (by kernel_rfl) (by kernel_rfl) (fun _ _ _ h => h) (Or.inl ⟨by rfl, ?_⟩) (by assumption) ?_
          rotate_left
          · intro w hSw
            try dsimp only at hSw
            go_simp
            all_goals with_reducible rfl
          try simp only [Act.put, List.setIfInBounds_toArray, List.set_cons_zero, List.set_cons_succ]
          refine wpAnyH_take (i := 19) (oi := { dst := some 63, op := Go.Op.pick (Go.Operand.tmp 53) (Go.Operand.tmp 62) (Go.Operand.const (Go.Value.bool false)), type := 4, pos := "law.go:60", after := #[{ on := 9, ground := Go.Ground.data }, { on := 18, ground := Go.Ground.data }, { on := 6, ground := Go.Ground.guard }], guard := some (6, false) }) (v := ?_) rfl (by kernel_rfl) (by kernel_rfl) (by kernel_rfl) (fun _ _ _ h => h) (Or.inl ⟨by rfl, ?_⟩) (by assumption) ?_
          rotate_left
          · intro w hSw
            try dsimp only at hSw
            go_simp
            all_goals with_reducible rfl
          try simp only [Act.put, List.setIfInBounds_toArray, List.set_cons_zero, List.set_cons_succ]
          refine wpAnyH_take (i := 20) (oi := { dst := some 64, op := Go.Op.pick (Go.Operand.tmp 50) (Go.Operand.const (Go.Value.bool true)) (Go.Operand.tmp 63), type := 4, pos := "law.go:60", after := #[{ on := 6, ground := Go.Ground.data }, { on := 19, ground := Go.Ground.data }], guard := none }) (v := ?_) rfl (by kernel_rfl) (by kernel_rfl) (by kernel_rfl) (fun _ _ _ h => h) (Or.inl ⟨by rfl, ?_⟩) (by assumption) ?_
          rotate_left
          · intro w hSw
            try dsimp only at hSw
            go_simp
            all_goals with_reducible rfl
          try simp only [Act.put, List.setIfInBounds_toArray, List.set_cons_zero, List.set_cons_succ]
          refine wpAnyH_done (by kernel_rfl) ?_ _
          go_wp2_with fail
          go_meet
          exact ⟨rfl, HBc, HRc, HTc⟩
        · have RT : Aside0 (value_Right.f k i t = some false) := ⟨by rw [right_f k i t HI.out.1 HI.out.2]; congr 1; simpa using hr⟩
          have hpos : X.length = 0 := by have := mt XP.out.1 hr; omega
          have f0 : decide (0 < X.length) = false := decide_eq_false (by omega)
          clear hr hpos XB XP
          refine wp_region_held_drew (S := (fun W => W.cell? ⟨w.heap.size, 0, none⟩ = some (.int .i64 k) ∧ W.cell? ⟨w.heap.size, 1, none⟩ = some (.int .i64 i) ∧ W.cell? ⟨w.heap.size, 2, none⟩ = some (.string t))) (by kernel_rfl) (vcells HAc.out) (fun hHeld => ?_)
          refine wpAnyH_take (i := 0) (oi := { dst := some 44, op := Go.Op.load 23 (Go.Operand.tmp 2), type := 23, pos := "law.go:60", after := #[], guard := none }) (v := ?_) rfl (by kernel_rfl) (by kernel_rfl) (by kernel_rfl) (fun _ _ _ h => h) (Or.inl ⟨by rfl, ?_⟩) (by assumption) ?_
          rotate_left
          · intro w hSw
            try dsimp only at hSw
            go_simp
            all_goals with_reducible rfl
          try simp only [Act.put, List.setIfInBounds_toArray, List.set_cons_zero, List.set_cons_succ]
          refine wpAnyH_take (i := 2) (oi := { dst := some 46, op := Go.Op.move (Go.Operand.tmp 6), type := 24, pos := "law.go:60", after := #[], guard := none }) (v := ?_) rfl (by kernel_rfl) (by kernel_rfl) (by kernel_rfl) (fun _ _ _ h => h) (Or.inl ⟨by rfl, ?_⟩) (by assumption) ?_
          rotate_left
          · intro w hSw
            try dsimp only at hSw
            go_simp
            all_goals with_reducible rfl
          try simp only [Act.put, List.setIfInBounds_toArray, List.set_cons_zero, List.set_cons_succ]
          refine wpAnyH_take (i := 3) (oi := { dst := some 47, op := Go.Op.call { callee := Go.Callee.builtin Go.Builtin.len, args := #[Go.Operand.tmp 46], argTypes := #[24] }, type := 3, pos := "law.go:60", after := #[{ on := 2, ground := Go.Ground.data }], guard := none }) (v := ?_) rfl (by kernel_rfl) (by kernel_rfl) (by kernel_rfl) (fun _ _ _ h => h) (Or.inl ⟨by rfl, ?_⟩) (by assumption) ?_
          rotate_left
          · intro w hSw
            try dsimp only at hSw
            go_simp
            all_goals with_reducible rfl
          try simp only [Act.put, List.setIfInBounds_toArray, List.set_cons_zero, List.set_cons_succ]
          refine wpAnyH_take (i := 4) (oi := { dst := some 48, op := Go.Op.binOp Go.BinOp.gtr 3 (Go.Operand.tmp 47) (Go.Operand.const (Go.Value.int Go.IntKind.i64 0)) 3, type := 4, pos := "law.go:60", after := #[{ on := 3, ground := Go.Ground.data }], guard := none }) (v := ?_) rfl (by kernel_rfl) (by kernel_rfl) (by kernel_rfl) (fun _ _ _ h => h) (Or.inl ⟨by rfl, ?_⟩) (by assumption) ?_
          rotate_left
          · intro w hSw
            try dsimp only at hSw
            go_simp
            all_goals with_reducible rfl
          try simp only [Act.put, List.setIfInBounds_toArray, List.set_cons_zero, List.set_cons_succ]
          refine wpAnyH_ready (rs := [1]) (by kernel_rfl) (by simp) ?_
          refine AllReadyH.cons (o := { dst := some 45, op := Go.Op.call { callee := Go.Callee.value (Go.Operand.func 9), args := #[Go.Operand.tmp 44], argTypes := #[23] }, type := 4, pos := "law.go:60", after := #[{ on := 0, ground := Go.Ground.data }], guard := none }) rfl (fun K hK => ?_) AllReadyH.nil
          go_simp
          (go_at_call 9; refine Calls.mono (value_Right.calls k i t false _ RT.out) ?_; rintro e wn ⟨rfl, hX⟩; have HB' := Aside0.mk (below_via2 HBc.out hX); have HA' := Aside0.mk (vkeepB HAc.out hX); have HS' := Aside0.mk (HSc.out.below hX); have HT' := Aside0.mk (HTc.out.below hX); have HR' := Aside0.mk (HRc.out.below hX); clear hX HBc HAc HSc HTc HRc; have HBc := HB'; have HAc := HA'; have HSc := HS'; have HTc := HT'; have HRc := HR'; clear HB' HA' HS' HT' HR')
          go_wp2_with fail
          refine hK.out _ _ (vcells HAc.out) (fun hHeld => ?_)
          clear hK K
          try simp only [Act.put, List.setIfInBounds_toArray, List.set_cons_zero, List.set_cons_succ]
          refine wpAnyH_take (i := 5) (oi := { dst := some 49, op := Go.Op.binOp Go.BinOp.neq 4 (Go.Operand.tmp 45) (Go.Operand.tmp 48) 4, type := 4, pos := "law.go:60", after := #[{ on := 1, ground := Go.Ground.data }, { on := 4, ground := Go.Ground.data }], guard := none }) (v := ?_) rfl (by kernel_rfl) (by kernel_rfl) (by kernel_rfl) (fun _ _ _ h => h) (Or.inl ⟨by rfl, ?_⟩) (by assumption) ?_
          rotate_left
          · intro w hSw
            try dsimp only at hSw
            go_simp
            all_goals with_reducible rfl
          try simp only [Act.put, List.setIfInBounds_toArray, List.set_cons_zero, List.set_cons_succ]
          refine wpAnyH_take (i := 6) (oi := { dst := some 50, op := Go.Op.move (Go.Operand.tmp 49), type := 4, pos := "law.go:60", after := #[{ on := 5, ground := Go.Ground.data }, { on := 1, ground := Go.Ground.chain }], guard := none }) (v := ?_) rfl (by kernel_rfl) (by kernel_rfl) (by kernel_rfl) (fun _ _ _ h => h) (Or.inl ⟨by rfl, ?_⟩) (by assumption) ?_
          rotate_left
          · intro w hSw
            try dsimp only at hSw
            go_simp
            all_goals with_reducible rfl
          try simp only [Act.put, List.setIfInBounds_toArray, List.set_cons_zero, List.set_cons_succ]
          refine wpAnyH_take (i := 7) (oi := { dst := some 51, op := Go.Op.load 23 (Go.Operand.tmp 2), type := 23, pos := "law.go:60", after := #[{ on := 6, ground := Go.Ground.guard }], guard := some (6, false) }) (v := ?_) rfl (by kernel_rfl) (by kernel_rfl) (by kernel_rfl) (fun _ _ _ h => h) (Or.inl ⟨by rfl, ?_⟩) (by assumption) ?_
          rotate_left
          · intro w hSw
            try dsimp only at hSw
            go_simp
            all_goals with_reducible rfl
          try simp only [Act.put, List.setIfInBounds_toArray, List.set_cons_zero, List.set_cons_succ]
          refine wpAnyH_ready (rs := [8]) (by kernel_rfl) (by simp) ?_
          refine AllReadyH.cons (o := { dst := some 52, op := Go.Op.call { callee := Go.Callee.value (Go.Operand.func 9), args := #[Go.Operand.tmp 51], argTypes := #[23] }, type := 4, pos := "law.go:60", after := #[{ on := 7, ground := Go.Ground.data }, { on := 6, ground := Go.Ground.chain }, { on := 6, ground := Go.Ground.guard }], guard := some (6, false) }) rfl (fun K hK => ?_) AllReadyH.nil
          go_simp
          (go_at_call 9; refine Calls.mono (value_Right.calls k i t false _ RT.out) ?_; rintro e wn ⟨rfl, hX⟩; have HB' := Aside0.mk (below_via2 HBc.out hX); have HA' := Aside0.mk (vkeepB HAc.out hX); have HS' := Aside0.mk (HSc.out.below hX); have HT' := Aside0.mk (HTc.out.below hX); have HR' := Aside0.mk (HRc.out.below hX); clear hX HBc HAc HSc HTc HRc; have HBc := HB'; have HAc := HA'; have HSc := HS'; have HTc := HT'; have HRc := HR'; clear HB' HA' HS' HT' HR')
          go_wp2_with fail
          refine hK.out _ _ (vcells HAc.out) (fun hHeld => ?_)
          clear hK K
          try simp only [Act.put, List.setIfInBounds_toArray, List.set_cons_zero, List.set_cons_succ]
          refine wpAnyH_take (i := 9) (oi := { dst := some 53, op := Go.Op.move (Go.Operand.tmp 52), type := 4, pos := "law.go:60", after := #[{ on := 8, ground := Go.Ground.data }, { on := 8, ground := Go.Ground.chain }, { on := 6, ground := Go.Ground.guard }], guard := some (6, false) }) (v := ?_) rfl (by kernel_rfl) (by kernel_rfl) (by kernel_rfl) (fun _ _ _ h => h) (Or.inl ⟨by rfl, ?_⟩) (by assumption) ?_
          rotate_left
          · intro w hSw
            try dsimp only at hSw
            go_simp
            all_goals with_reducible rfl
          try simp only [Act.put, List.setIfInBounds_toArray, List.set_cons_zero, List.set_cons_succ]
          refine wpAnyH_take (i := 10) (oi := { dst := some 54, op := Go.Op.move (Go.Operand.tmp 7), type := 32, pos := "law.go:60", after := #[{ on := 9, ground := Go.Ground.guard }], guard := some (9, true) }) (v := undef) rfl (by kernel_rfl) (by kernel_rfl) (by kernel_rfl) (fun _ _ _ h => h) (Or.inr ⟨by rfl, rfl⟩) (by assumption) ?_
          try simp only [Act.put, List.setIfInBounds_toArray, List.set_cons_zero, List.set_cons_succ]
          refine wpAnyH_take (i := 11) (oi := { dst := some 55, op := Go.Op.call { callee := Go.Callee.value (Go.Operand.func 16), args := #[Go.Operand.tmp 54], argTypes := #[32] }, type := 23, pos := "law.go:60", after := #[{ on := 10, ground := Go.Ground.data }, { on := 9, ground := Go.Ground.chain }, { on := 9, ground := Go.Ground.guard }], guard := some (9, true) }) (v := undef) rfl (by kernel_rfl) (by kernel_rfl) (by kernel_rfl) (fun _ _ _ h => h) (Or.inr ⟨by rfl, rfl⟩) (by assumption) ?_
          try simp only [Act.put, List.setIfInBounds_toArray, List.set_cons_zero, List.set_cons_succ]
          refine wpAnyH_take (i := 12) (oi := { dst := some 56, op := Go.Op.load 23 (Go.Operand.tmp 2), type := 23, pos := "law.go:60", after := #[{ on := 9, ground := Go.Ground.guard }], guard := some (9, true) }) (v := undef) rfl (by kernel_rfl) (by kernel_rfl) (by kernel_rfl) (fun _ _ _ h => h) (Or.inr ⟨by rfl, rfl⟩) (by assumption) ?_
          try simp only [Act.put, List.setIfInBounds_toArray, List.set_cons_zero, List.set_cons_succ]
          refine wpAnyH_take (i := 13) (oi := { dst := some 57, op := Go.Op.binOp Go.BinOp.neq 23 (Go.Operand.tmp 55) (Go.Operand.tmp 56) 23, type := 4, pos := "law.go:60", after := #[{ on := 11, ground := Go.Ground.data }, { on := 12, ground := Go.Ground.data }, { on := 9, ground := Go.Ground.guard }], guard := some (9, true) }) (v := undef) rfl (by kernel_rfl) (by kernel_rfl) (by kernel_rfl) (fun _ _ _ h => h) (Or.inr ⟨by rfl, rfl⟩) (by assumption) ?_
          try simp only [Act.put, List.setIfInBounds_toArray, List.set_cons_zero, List.set_cons_succ]
          refine wpAnyH_take (i := 14) (oi := { dst := some 58, op := Go.Op.move (Go.Operand.tmp 57), type := 4, pos := "law.go:60", after := #[{ on := 13, ground := Go.Ground.data }, { on := 11, ground := Go.Ground.chain }, { on := 9, ground := Go.Ground.guard }], guard := some (9, true) }) (v := undef) rfl (by kernel_rfl) (by kernel_rfl) (by kernel_rfl) (fun _ _ _ h => h) (Or.inr ⟨by rfl, rfl⟩) (by assumption) ?_
          try simp only [Act.put, List.setIfInBounds_toArray, List.set_cons_zero, List.set_cons_succ]
          refine wpAnyH_take (i := 15) (oi := { dst := some 59, op := Go.Op.move (Go.Operand.tmp 7), type := 32, pos := "law.go:60", after := #[{ on := 14, ground := Go.Ground.guard }], guard := some (14, false) }) (v := undef) rfl (by kernel_rfl) (by kernel_rfl) (by kernel_rfl) (fun _ _ _ h => h) (Or.inr ⟨by rfl, rfl⟩) (by assumption) ?_
          try simp only [Act.put, List.setIfInBounds_toArray, List.set_cons_zero, List.set_cons_succ]
          refine wpAnyH_take (i := 16) (oi := { dst := some 60, op := Go.Op.call { callee := Go.Callee.value (Go.Operand.func 20), args := #[Go.Operand.tmp 59], argTypes := #[32] }, type := 35, pos := "law.go:60", after := #[{ on := 15, ground := Go.Ground.data }, { on := 14, ground := Go.Ground.chain }, { on := 14, ground := Go.Ground.guard }], guard := some (14, false) }) (v := undef) rfl (by kernel_rfl) (by kernel_rfl) (by kernel_rfl) (fun _ _ _ h => h) (Or.inr ⟨by rfl, rfl⟩) (by assumption) ?_
          try simp only [Act.put, List.setIfInBounds_toArray, List.set_cons_zero, List.set_cons_succ]
          refine wpAnyH_take (i := 17) (oi := { dst := some 61, op := Go.Op.binOp Go.BinOp.neq 35 (Go.Operand.tmp 60) (Go.Operand.const (Go.Value.int Go.IntKind.i64 0)) 35, type := 4, pos := "law.go:60", after := #[{ on := 16, ground := Go.Ground.data }, { on := 14, ground := Go.Ground.guard }], guard := some (14, false) }) (v := undef) rfl (by kernel_rfl) (by kernel_rfl) (by kernel_rfl) (fun _ _ _ h => h) (Or.inr ⟨by rfl, rfl⟩) (by assumption) ?_
          try simp only [Act.put, List.setIfInBounds_toArray, List.set_cons_zero, List.set_cons_succ]
          refine wpAnyH_take (i := 18) (oi := { dst := some 62, op := Go.Op.pick (Go.Operand.tmp 58) (Go.Operand.const (Go.Value.bool true)) (Go.Operand.tmp 61), type := 4, pos := "law.go:60", after := #[{ on := 14, ground := Go.Ground.data }, { on := 17, ground := Go.Ground.data }, { on := 9, ground := Go.Ground.guard }], guard := some (9, true) }) (v := undef) rfl (by kernel_rfl) (by kernel_rfl) (by kernel_rfl) (fun _ _ _ h => h) (Or.inr ⟨by rfl, rfl⟩) (by assumption) ?_
          try simp only [Act.put, List.setIfInBounds_toArray, List.set_cons_zero, List.set_cons_succ]
          refine wpAnyH_take (i := 19) (oi := { dst := some 63, op := Go.Op.pick (Go.Operand.tmp 53) (Go.Operand.tmp 62) (Go.Operand.const (Go.Value.bool false)), type := 4, pos := "law.go:60", after := #[{ on := 9, ground := Go.Ground.data }, { on := 18, ground := Go.Ground.data }, { on := 6, ground := Go.Ground.guard }], guard := some (6, false) }) (v := ?_) rfl (by kernel_rfl) (by kernel_rfl) (by kernel_rfl) (fun _ _ _ h => h) (Or.inl ⟨by rfl, ?_⟩) (by assumption) ?_
          rotate_left
          · intro w hSw
            try dsimp only at hSw
            go_simp
            all_goals with_reducible rfl
          try simp only [Act.put, List.setIfInBounds_toArray, List.set_cons_zero, List.set_cons_succ]
          refine wpAnyH_take (i := 20) (oi := { dst := some 64, op := Go.Op.pick (Go.Operand.tmp 50) (Go.Operand.const (Go.Value.bool true)) (Go.Operand.tmp 63), type := 4, pos := "law.go:60", after := #[{ on := 6, ground := Go.Ground.data }, { on := 19, ground := Go.Ground.data }], guard := none }) (v := ?_) rfl (by kernel_rfl) (by kernel_rfl) (by kernel_rfl) (fun _ _ _ h => h) (Or.inl ⟨by rfl, ?_⟩) (by assumption) ?_
          rotate_left
          · intro w hSw
            try dsimp only at hSw
            go_simp
            all_goals with_reducible rfl
          try simp only [Act.put, List.setIfInBounds_toArray, List.set_cons_zero, List.set_cons_succ]
          refine wpAnyH_done (by kernel_rfl) ?_ _
          go_wp2_with fail
          go_meet
          exact ⟨rfl, HBc, HRc, HTc⟩
      case rest =>
        obtain ⟨rfl, HB8, HR8, HT8⟩ := hcut
        clear HB7 HA7 HR7 HS7 HT7 p0 p1 p2 XB XP EX XU XL
        obtain ⟨yk, yi, yt, s2, hv⟩ : ∃ yk yi yt s2, Sc.val ⟨l1, 0⟩ = (⟨yk, yi, yt⟩, s2) := ⟨_, _, _, _, rfl⟩
        have honce : s2.e = 0 → vright yk yi yt = true ∧ l1 = vbytes yk yi yt ++ s2.l ∧ -9223372036854775808 ≤ yi ∧ yi < 9223372036854775808 := fun h => by
          have := val_once l1 HU.out (by rw [hv]; exact h)
          rwa [hv] at this
        have hzero : s2.e ≠ 0 → yk = 0 ∧ yi = 0 ∧ yt = ByteArray.empty := fun h => by
          have := val_zero ⟨l1, 0⟩ (by rw [hv]; exact h)
          rw [hv] at this
          simp only [Vl.mk.injEq] at this
          exact this
        have HV := Aside0.mk hv
        have HO := Aside0.mk honce
        have HZ := Aside0.mk hzero
        clear hv honce hzero
        go_wp2_with fail
        refine (wget HT8.out).mono ?_
        rintro e w9 ⟨rfl, hz, hG⟩
        rw [HV.out] at hz ⊢
        simp only [Vl.v]
        have ord := ORD.out
        have hB9 : Below w.heap.size w w9 := below_of_grown HB8.out hG (by omega)
        have hb9 := (Below.refl w9.heap.size w9).alloc (Nat.le_refl _) (.cells #[.int .i64 yk, .int .i64 yi, .string yt] 23)
        have HY9 := Aside0.mk (heap_alloc_new w9 (.cells #[.int .i64 yk, .int .i64 yi, .string yt] 23))
        have HB9 := Aside0.mk (below_via2 hB9 hb9)
        have HR9 := Aside0.mk ((HR8.out.grown hG (by omega)).below hb9)
        have HT9 := Aside0.mk (hz.below hb9)
        clear hz hG ord hB9 hb9 HB8 HR8 HT8
        go_upto_region 10 with fail
        generalize w9.alloc (.cells #[.int .i64 yk, .int .i64 yi, .string yt] 23) = wz at HY9 HB9 HR9 HT9 ⊢
        generalize w9.heap.size = gy at HY9 ⊢
        obtain ⟨y0, y1, y2⟩ := vcells HY9.out
        by_cases e0 : s2.e = 0
        · have b0 : (s2.e != 0) = false := by simp [e0]
          obtain ⟨hyr, hyl, hy0, hy1⟩ := HO.out e0
          have hput := put_val [] yk yi yt (by simp) hy0 hy1
          have hxu := vb_u8s yk yi yt hy0 hy1
          have hxl := vbytes_len yk yi yt
          rw [List.nil_append] at hput
          generalize vbytes yk yi yt = Y at *
          have EY := Aside0.mk hput
          have YL := Aside0.mk hxl
          have YE := Aside0.mk hyl
          have YR : Aside0 (value_Right.f yk yi yt = some true) := ⟨by rw [right_f yk yi yt hy0 hy1, hyr]⟩
          have HLE : Aside0 (l1.length = Y.length + s2.l.length) := ⟨by rw [hyl, List.length_append]⟩
          clear hput hxu hxl hyl hyr hy0 hy1 e0 HZ HO
          go_wp2_with (go_at_call 19; have hop := werr HT9.out; refine hop.mono ?_; rintro e wq ⟨rfl, rfl⟩; clear hop)
          refine (value_Put.calls none 0 [] yk yi yt Y _ (nil_C _ .u8) (Nat.le_refl _) EY.out).mono ?_
          rintro e w10 ⟨v10, rfl, hR, hX⟩
          obtain ⟨Ay, ny, rfl, hcy, _, hH, _⟩ := held_own hR
          have HB10 := Aside0.mk (below_via2 HB9.out hX)
          have HR10 := Aside0.mk (HR9.out.below hX)
          have HTz := Aside0.mk (HT9.out.below hX)
          have HYz := Aside0.mk (vkeepB HY9.out hX)
          have HH10 := Aside0.mk hH
          clear hX hR hH HB9 HR9 HT9 HY9 y0 y1 y2
          go_wp2_with fail
          clear b0
          have HRY : Aside0 (HeldB w10 (fun k => k < w.heap.size) A1 Y) := ⟨by have h := HR10.out; rw [YE.out] at h; exact h.take⟩
          have hlen := HLE.out
          have SZ : Aside0 (∀ W : World, Below w10.heap.size w10 W → Below w10.heap.size w10 W ∧ W.cell? ⟨gy, 0, none⟩ = some (.int .i64 yk) ∧ W.cell? ⟨gy, 1, none⟩ = some (.int .i64 yi) ∧ W.cell? ⟨gy, 2, none⟩ = some (.string yt) ∧ (∀ c : Nat, (convert 24 9 (.slice Ay Y.length c)).run Try.prog W = .ok (.string (strOfNums Y)) W) ∧ (∀ c : Nat, (convert 24 9 (.slice A1 Y.length c)).run Try.prog W = .ok (.string (strOfNums Y)) W)) := ⟨fun W hW => ⟨hW, (vcells (vkeepB HYz.out hW)).1, (vcells (vkeepB HYz.out hW)).2.1, (vcells (vkeepB HYz.out hW)).2.2, fun c => strA ((HH10.out.below hW).C (by have := YL.out; omega)) c, fun c => strA ((HRY.out.below hW).C (by have := YL.out; omega)) c⟩⟩
          have g1 : (Y.length : Int) ≤ (l1.length : Int) := by omega
          have g2 : decide ((Y.length : Int) ≤ (l1.length : Int)) = true := decide_eq_true g1
          have g3 : IntKind.i64.wrap ((l1.length : Int) - (s2.l.length : Int)) = (Y.length : Int) := by rw [IntKind.wrap_i64]; omega
          have g4 : (0 : Int) ≤ (Y.length : Int) := by omega
          have g5 : (Y.length : Int) ≤ (c1 : Int) := by omega
          clear hlen
          refine wp_region_held_drew (S := (fun W => Below w10.heap.size w10 W ∧ W.cell? ⟨gy, 0, none⟩ = some (.int .i64 yk) ∧ W.cell? ⟨gy, 1, none⟩ = some (.int .i64 yi) ∧ W.cell? ⟨gy, 2, none⟩ = some (.string yt) ∧ (∀ c : Nat, (convert 24 9 (.slice Ay Y.length c)).run Try.prog W = .ok (.string (strOfNums Y)) W) ∧ (∀ c : Nat, (convert 24 9 (.slice A1 Y.length c)).run Try.prog W = .ok (.string (strOfNums Y)) W))) (by kernel_rfl) (SZ.out _ (below_drew (Below.refl _ _))) (fun hHeld => ?_)
          refine wpAnyH_take (i := 0) (oi := { dst := some 78, op := Go.Op.move (Go.Operand.tmp 5), type := 4, pos := "law.go:68", after := #[], guard := none }) (v := ?_) rfl (by kernel_rfl) (by kernel_rfl) (by kernel_rfl) (fun _ _ _ h => h) (Or.inl ⟨by rfl, ?_⟩) (by assumption) ?_
          rotate_left
          · intro w hSw
            try dsimp only at hSw
            go_simp
            all_goals with_reducible rfl
          try simp only [Act.put, List.setIfInBounds_toArray, List.set_cons_zero, List.set_cons_succ]
          refine wpAnyH_take (i := 1) (oi := { dst := some 79, op := Go.Op.move (Go.Operand.tmp 78), type := 4, pos := "law.go:68", after := #[{ on := 0, ground := Go.Ground.data }], guard := none }) (v := ?_) rfl (by kernel_rfl) (by kernel_rfl) (by kernel_rfl) (fun _ _ _ h => h) (Or.inl ⟨by rfl, ?_⟩) (by assumption) ?_
          rotate_left
          · intro w hSw
            try dsimp only at hSw
            go_simp
            all_goals with_reducible rfl
          try simp only [Act.put, List.setIfInBounds_toArray, List.set_cons_zero, List.set_cons_succ]
          refine wpAnyH_take (i := 2) (oi := { dst := some 80, op := Go.Op.load 23 (Go.Operand.tmp 9), type := 23, pos := "law.go:68", after := #[{ on := 1, ground := Go.Ground.guard }], guard := some (1, true) }) (v := ?_) rfl (by kernel_rfl) (by kernel_rfl) (by kernel_rfl) (fun _ _ _ h => h) (Or.inl ⟨by rfl, ?_⟩) (by assumption) ?_
          rotate_left
          · intro w hSw
            try dsimp only at hSw
            go_simp
            all_goals with_reducible rfl
          try simp only [Act.put, List.setIfInBounds_toArray, List.set_cons_zero, List.set_cons_succ]
          refine wpAnyH_ready (rs := [3]) (by kernel_rfl) (by simp) ?_
          refine AllReadyH.cons (o := { dst := some 81, op := Go.Op.call { callee := Go.Callee.value (Go.Operand.func 9), args := #[Go.Operand.tmp 80], argTypes := #[23] }, type := 4, pos := "law.go:68", after := #[{ on := 2, ground := Go.Ground.data }, { on := 1, ground := Go.Ground.chain }, { on := 1, ground := Go.Ground.guard }], guard := some (1, true) }) rfl (fun K hK => ?_) AllReadyH.nil
          go_simp
          (go_at_call 9; refine Calls.mono (value_Right.calls yk yi yt true _ YR.out) ?_; rintro e wn ⟨rfl, hX⟩; have hb6 := below_via2 hHeld.1 hX; have HTn := Aside0.mk (HTz.out.below hb6); clear hX hHeld)
          go_wp2_with fail
          refine hK.out _ _ (SZ.out _ (by first | assumption | exact hHeld.1)) (fun hHeld => ?_)
          clear hK K
          try simp only [Act.put, List.setIfInBounds_toArray, List.set_cons_zero, List.set_cons_succ]
          refine wpAnyH_take (i := 4) (oi := { dst := some 82, op := Go.Op.pick (Go.Operand.tmp 79) (Go.Operand.tmp 81) (Go.Operand.const (Go.Value.bool false)), type := 4, pos := "law.go:68", after := #[{ on := 1, ground := Go.Ground.data }, { on := 3, ground := Go.Ground.data }], guard := none }) (v := ?_) rfl (by kernel_rfl) (by kernel_rfl) (by kernel_rfl) (fun _ _ _ h => h) (Or.inl ⟨by rfl, ?_⟩) (by assumption) ?_
          rotate_left
          · intro w hSw
            try dsimp only at hSw
            go_simp
            all_goals with_reducible rfl
          try simp only [Act.put, List.setIfInBounds_toArray, List.set_cons_zero, List.set_cons_succ]
          refine wpAnyH_take (i := 5) (oi := { dst := some 83, op := Go.Op.move (Go.Operand.tmp 82), type := 4, pos := "law.go:68", after := #[{ on := 4, ground := Go.Ground.data }, { on := 3, ground := Go.Ground.chain }], guard := none }) (v := ?_) rfl (by kernel_rfl) (by kernel_rfl) (by kernel_rfl) (fun _ _ _ h => h) (Or.inl ⟨by rfl, ?_⟩) (by assumption) ?_
          rotate_left
          · intro w hSw
            try dsimp only at hSw
            go_simp
            all_goals with_reducible rfl
          try simp only [Act.put, List.setIfInBounds_toArray, List.set_cons_zero, List.set_cons_succ]
          refine wpAnyH_take (i := 6) (oi := { dst := some 84, op := Go.Op.move (Go.Operand.tmp 10), type := 24, pos := "law.go:68", after := #[{ on := 5, ground := Go.Ground.guard }], guard := some (5, true) }) (v := ?_) rfl (by kernel_rfl) (by kernel_rfl) (by kernel_rfl) (fun _ _ _ h => h) (Or.inl ⟨by rfl, ?_⟩) (by assumption) ?_
          rotate_left
          · intro w hSw
            try dsimp only at hSw
            go_simp
            all_goals with_reducible rfl
          try simp only [Act.put, List.setIfInBounds_toArray, List.set_cons_zero, List.set_cons_succ]
          refine wpAnyH_take (i := 7) (oi := { dst := some 85, op := Go.Op.call { callee := Go.Callee.builtin Go.Builtin.len, args := #[Go.Operand.tmp 84], argTypes := #[24] }, type := 3, pos := "law.go:68", after := #[{ on := 6, ground := Go.Ground.data }, { on := 5, ground := Go.Ground.guard }], guard := some (5, true) }) (v := ?_) rfl (by kernel_rfl) (by kernel_rfl) (by kernel_rfl) (fun _ _ _ h => h) (Or.inl ⟨by rfl, ?_⟩) (by assumption) ?_
          rotate_left
          · intro w hSw
            try dsimp only at hSw
            go_simp
            all_goals with_reducible rfl
          try simp only [Act.put, List.setIfInBounds_toArray, List.set_cons_zero, List.set_cons_succ]
          refine wpAnyH_take (i := 8) (oi := { dst := some 86, op := Go.Op.move (Go.Operand.tmp 1), type := 24, pos := "law.go:68", after := #[{ on := 5, ground := Go.Ground.guard }], guard := some (5, true) }) (v := ?_) rfl (by kernel_rfl) (by kernel_rfl) (by kernel_rfl) (fun _ _ _ h => h) (Or.inl ⟨by rfl, ?_⟩) (by assumption) ?_
          rotate_left
          · intro w hSw
            try dsimp only at hSw
            go_simp
            all_goals with_reducible rfl
          try simp only [Act.put, List.setIfInBounds_toArray, List.set_cons_zero, List.set_cons_succ]
          refine wpAnyH_take (i := 9) (oi := { dst := some 87, op := Go.Op.call { callee := Go.Callee.builtin Go.Builtin.len, args := #[Go.Operand.tmp 86], argTypes := #[24] }, type := 3, pos := "law.go:68", after := #[{ on := 8, ground := Go.Ground.data }, { on := 5, ground := Go.Ground.guard }], guard := some (5, true) }) (v := ?_) rfl (by kernel_rfl) (by kernel_rfl) (by kernel_rfl) (fun _ _ _ h => h) (Or.inl ⟨by rfl, ?_⟩) (by assumption) ?_
          rotate_left
          · intro w hSw
            try dsimp only at hSw
            go_simp
            all_goals with_reducible rfl
          try simp only [Act.put, List.setIfInBounds_toArray, List.set_cons_zero, List.set_cons_succ]
          refine wpAnyH_take (i := 10) (oi := { dst := some 88, op := Go.Op.binOp Go.BinOp.leq 3 (Go.Operand.tmp 85) (Go.Operand.tmp 87) 3, type := 4, pos := "law.go:68", after := #[{ on := 7, ground := Go.Ground.data }, { on := 9, ground := Go.Ground.data }, { on := 5, ground := Go.Ground.guard }], guard := some (5, true) }) (v := ?_) rfl (by kernel_rfl) (by kernel_rfl) (by kernel_rfl) (fun _ _ _ h => h) (Or.inl ⟨by rfl, ?_⟩) (by assumption) ?_
          rotate_left
          · intro w hSw
            try dsimp only at hSw
            go_simp
            all_goals with_reducible rfl
          try simp only [Act.put, List.setIfInBounds_toArray, List.set_cons_zero, List.set_cons_succ]
          refine wpAnyH_take (i := 11) (oi := { dst := some 89, op := Go.Op.pick (Go.Operand.tmp 83) (Go.Operand.tmp 88) (Go.Operand.const (Go.Value.bool false)), type := 4, pos := "law.go:68", after := #[{ on := 5, ground := Go.Ground.data }, { on := 10, ground := Go.Ground.data }], guard := none }) (v := ?_) rfl (by kernel_rfl) (by kernel_rfl) (by kernel_rfl) (fun _ _ _ h => h) (Or.inl ⟨by rfl, ?_⟩) (by assumption) ?_
          rotate_left
          · intro w hSw
            try dsimp only at hSw
            go_simp
            all_goals with_reducible rfl
          try simp only [Act.put, List.setIfInBounds_toArray, List.set_cons_zero, List.set_cons_succ]
          refine wpAnyH_take (i := 12) (oi := { dst := some 90, op := Go.Op.move (Go.Operand.tmp 89), type := 4, pos := "law.go:68", after := #[{ on := 11, ground := Go.Ground.data }, { on := 5, ground := Go.Ground.chain }], guard := none }) (v := ?_) rfl (by kernel_rfl) (by kernel_rfl) (by kernel_rfl) (fun _ _ _ h => h) (Or.inl ⟨by rfl, ?_⟩) (by assumption) ?_
          rotate_left
          · intro w hSw
            try dsimp only at hSw
            go_simp
            all_goals with_reducible rfl
          try simp only [Act.put, List.setIfInBounds_toArray, List.set_cons_zero, List.set_cons_succ]
          refine wpAnyH_take (i := 13) (oi := { dst := some 91, op := Go.Op.move (Go.Operand.tmp 10), type := 24, pos := "law.go:68", after := #[{ on := 12, ground := Go.Ground.guard }], guard := some (12, true) }) (v := ?_) rfl (by kernel_rfl) (by kernel_rfl) (by kernel_rfl) (fun _ _ _ h => h) (Or.inl ⟨by rfl, ?_⟩) (by assumption) ?_
          rotate_left
          · intro w hSw
            try dsimp only at hSw
            go_simp
            all_goals with_reducible rfl
          try simp only [Act.put, List.setIfInBounds_toArray, List.set_cons_zero, List.set_cons_succ]
          refine wpAnyH_take (i := 14) (oi := { dst := some 92, op := Go.Op.call { callee := Go.Callee.builtin Go.Builtin.len, args := #[Go.Operand.tmp 91], argTypes := #[24] }, type := 3, pos := "law.go:68", after := #[{ on := 13, ground := Go.Ground.data }, { on := 12, ground := Go.Ground.guard }], guard := some (12, true) }) (v := ?_) rfl (by kernel_rfl) (by kernel_rfl) (by kernel_rfl) (fun _ _ _ h => h) (Or.inl ⟨by rfl, ?_⟩) (by assumption) ?_
          rotate_left
          · intro w hSw
            try dsimp only at hSw
            go_simp
            all_goals with_reducible rfl
          try simp only [Act.put, List.setIfInBounds_toArray, List.set_cons_zero, List.set_cons_succ]
          refine wpAnyH_take (i := 15) (oi := { dst := some 93, op := Go.Op.move (Go.Operand.tmp 1), type := 24, pos := "law.go:68", after := #[{ on := 12, ground := Go.Ground.guard }], guard := some (12, true) }) (v := ?_) rfl (by kernel_rfl) (by kernel_rfl) (by kernel_rfl) (fun _ _ _ h => h) (Or.inl ⟨by rfl, ?_⟩) (by assumption) ?_
          rotate_left
          · intro w hSw
            try dsimp only at hSw
            go_simp
            all_goals with_reducible rfl
          try simp only [Act.put, List.setIfInBounds_toArray, List.set_cons_zero, List.set_cons_succ]
          refine wpAnyH_take (i := 16) (oi := { dst := some 94, op := Go.Op.call { callee := Go.Callee.builtin Go.Builtin.len, args := #[Go.Operand.tmp 93], argTypes := #[24] }, type := 3, pos := "law.go:68", after := #[{ on := 15, ground := Go.Ground.data }, { on := 12, ground := Go.Ground.guard }], guard := some (12, true) }) (v := ?_) rfl (by kernel_rfl) (by kernel_rfl) (by kernel_rfl) (fun _ _ _ h => h) (Or.inl ⟨by rfl, ?_⟩) (by assumption) ?_
          rotate_left
          · intro w hSw
            try dsimp only at hSw
            go_simp
            all_goals with_reducible rfl
          try simp only [Act.put, List.setIfInBounds_toArray, List.set_cons_zero, List.set_cons_succ]
          refine wpAnyH_take (i := 17) (oi := { dst := some 95, op := Go.Op.move (Go.Operand.tmp 8), type := 32, pos := "law.go:68", after := #[{ on := 12, ground := Go.Ground.guard }], guard := some (12, true) }) (v := ?_) rfl (by kernel_rfl) (by kernel_rfl) (by kernel_rfl) (fun _ _ _ h => h) (Or.inl ⟨by rfl, ?_⟩) (by assumption) ?_
          rotate_left
          · intro w hSw
            try dsimp only at hSw
            go_simp
            all_goals with_reducible rfl
          try simp only [Act.put, List.setIfInBounds_toArray, List.set_cons_zero, List.set_cons_succ]
          refine wpAnyH_ready (rs := [18]) (by kernel_rfl) (by simp) ?_
          refine AllReadyH.cons (o := { dst := some 96, op := Go.Op.call { callee := Go.Callee.value (Go.Operand.func 18), args := #[Go.Operand.tmp 95], argTypes := #[32] }, type := 3, pos := "law.go:68", after := #[{ on := 17, ground := Go.Ground.data }, { on := 12, ground := Go.Ground.chain }, { on := 12, ground := Go.Ground.guard }], guard := some (12, true) }) rfl (fun K hK => ?_) AllReadyH.nil
          go_simp
          (go_at_call 18; have hop := wleft HTn.out; refine hop.mono ?_; rintro e wm ⟨rfl, rfl⟩; clear hop)
          go_wp2_with fail
          refine hK.out _ _ (SZ.out _ (by first | assumption | exact hHeld.1)) (fun hHeld => ?_)
          clear hK K
          try simp only [Act.put, List.setIfInBounds_toArray, List.set_cons_zero, List.set_cons_succ]
          refine wpAnyH_take (i := 19) (oi := { dst := some 97, op := Go.Op.binOp Go.BinOp.sub 3 (Go.Operand.tmp 94) (Go.Operand.tmp 96) 3, type := 3, pos := "law.go:68", after := #[{ on := 16, ground := Go.Ground.data }, { on := 18, ground := Go.Ground.data }, { on := 12, ground := Go.Ground.guard }], guard := some (12, true) }) (v := ?_) rfl (by kernel_rfl) (by kernel_rfl) (by kernel_rfl) (fun _ _ _ h => h) (Or.inl ⟨by rfl, ?_⟩) (by assumption) ?_
          rotate_left
          · intro w hSw
            try dsimp only at hSw
            go_simp
            all_goals with_reducible rfl
          try simp only [Act.put, List.setIfInBounds_toArray, List.set_cons_zero, List.set_cons_succ]
          refine wpAnyH_take (i := 20) (oi := { dst := some 98, op := Go.Op.binOp Go.BinOp.eql 3 (Go.Operand.tmp 92) (Go.Operand.tmp 97) 3, type := 4, pos := "law.go:68", after := #[{ on := 14, ground := Go.Ground.data }, { on := 19, ground := Go.Ground.data }, { on := 12, ground := Go.Ground.guard }], guard := some (12, true) }) (v := ?_) rfl (by kernel_rfl) (by kernel_rfl) (by kernel_rfl) (fun _ _ _ h => h) (Or.inl ⟨by rfl, ?_⟩) (by assumption) ?_
          rotate_left
          · intro w hSw
            try dsimp only at hSw
            go_simp
            all_goals with_reducible rfl
          try simp only [Act.put, List.setIfInBounds_toArray, List.set_cons_zero, List.set_cons_succ]
          refine wpAnyH_take (i := 21) (oi := { dst := some 99, op := Go.Op.pick (Go.Operand.tmp 90) (Go.Operand.tmp 98) (Go.Operand.const (Go.Value.bool false)), type := 4, pos := "law.go:68", after := #[{ on := 12, ground := Go.Ground.data }, { on := 20, ground := Go.Ground.data }], guard := none }) (v := ?_) rfl (by kernel_rfl) (by kernel_rfl) (by kernel_rfl) (fun _ _ _ h => h) (Or.inl ⟨by rfl, ?_⟩) (by assumption) ?_
          rotate_left
          · intro w hSw
            try dsimp only at hSw
            go_simp
            all_goals with_reducible rfl
          try simp only [Act.put, List.setIfInBounds_toArray, List.set_cons_zero, List.set_cons_succ]
          refine wpAnyH_take (i := 22) (oi := { dst := some 100, op := Go.Op.move (Go.Operand.tmp 99), type := 4, pos := "law.go:68", after := #[{ on := 21, ground := Go.Ground.data }, { on := 18, ground := Go.Ground.chain }], guard := none }) (v := ?_) rfl (by kernel_rfl) (by kernel_rfl) (by kernel_rfl) (fun _ _ _ h => h) (Or.inl ⟨by rfl, ?_⟩) (by assumption) ?_
          rotate_left
          · intro w hSw
            try dsimp only at hSw
            go_simp
            all_goals with_reducible rfl
          try simp only [Act.put, List.setIfInBounds_toArray, List.set_cons_zero, List.set_cons_succ]
          refine wpAnyH_take (i := 23) (oi := { dst := some 101, op := Go.Op.move (Go.Operand.tmp 10), type := 24, pos := "law.go:68", after := #[{ on := 22, ground := Go.Ground.guard }], guard := some (22, true) }) (v := ?_) rfl (by kernel_rfl) (by kernel_rfl) (by kernel_rfl) (fun _ _ _ h => h) (Or.inl ⟨by rfl, ?_⟩) (by assumption) ?_
          rotate_left
          · intro w hSw
            try dsimp only at hSw
            go_simp
            all_goals with_reducible rfl
          try simp only [Act.put, List.setIfInBounds_toArray, List.set_cons_zero, List.set_cons_succ]
          refine wpAnyH_take (i := 24) (oi := { dst := some 102, op := Go.Op.convert 24 9 (Go.Operand.tmp 101), type := 9, pos := "law.go:68", after := #[{ on := 23, ground := Go.Ground.data }, { on := 22, ground := Go.Ground.guard }], guard := some (22, true) }) (v := ?_) rfl (by kernel_rfl) (by kernel_rfl) (by kernel_rfl) (fun _ _ _ h => h) (Or.inl ⟨by rfl, ?_⟩) (by assumption) ?_
          rotate_left
          · intro w hSw
            try dsimp only at hSw
            go_simp
            all_goals with_reducible rfl
          try simp only [Act.put, List.setIfInBounds_toArray, List.set_cons_zero, List.set_cons_succ]
          refine wpAnyH_take (i := 25) (oi := { dst := some 103, op := Go.Op.move (Go.Operand.tmp 1), type := 24, pos := "law.go:68", after := #[{ on := 22, ground := Go.Ground.guard }], guard := some (22, true) }) (v := ?_) rfl (by kernel_rfl) (by kernel_rfl) (by kernel_rfl) (fun _ _ _ h => h) (Or.inl ⟨by rfl, ?_⟩) (by assumption) ?_
          rotate_left
          · intro w hSw
            try dsimp only at hSw
            go_simp
            all_goals with_reducible rfl
          try simp only [Act.put, List.setIfInBounds_toArray, List.set_cons_zero, List.set_cons_succ]
          refine wpAnyH_take (i := 26) (oi := { dst := some 104, op := Go.Op.move (Go.Operand.tmp 10), type := 24, pos := "law.go:68", after := #[{ on := 22, ground := Go.Ground.guard }], guard := some (22, true) }) (v := ?_) rfl (by kernel_rfl) (by kernel_rfl) (by kernel_rfl) (fun _ _ _ h => h) (Or.inl ⟨by rfl, ?_⟩) (by assumption) ?_
          rotate_left
          · intro w hSw
            try dsimp only at hSw
            go_simp
            all_goals with_reducible rfl
          try simp only [Act.put, List.setIfInBounds_toArray, List.set_cons_zero, List.set_cons_succ]
          refine wpAnyH_take (i := 27) (oi := { dst := some 105, op := Go.Op.call { callee := Go.Callee.builtin Go.Builtin.len, args := #[Go.Operand.tmp 104], argTypes := #[24] }, type := 3, pos := "law.go:68", after := #[{ on := 26, ground := Go.Ground.data }, { on := 22, ground := Go.Ground.guard }], guard := some (22, true) }) (v := ?_) rfl (by kernel_rfl) (by kernel_rfl) (by kernel_rfl) (fun _ _ _ h => h) (Or.inl ⟨by rfl, ?_⟩) (by assumption) ?_
          rotate_left
          · intro w hSw
            try dsimp only at hSw
            go_simp
            all_goals with_reducible rfl
          try simp only [Act.put, List.setIfInBounds_toArray, List.set_cons_zero, List.set_cons_succ]
          refine wpAnyH_take (i := 28) (oi := { dst := some 106, op := Go.Op.slice 24 (Go.Operand.tmp 103) none (some (Go.Operand.tmp 105)) none, type := 24, pos := "law.go:68", after := #[{ on := 25, ground := Go.Ground.data }, { on := 27, ground := Go.Ground.data }, { on := 22, ground := Go.Ground.guard }], guard := some (22, true) }) (v := ?_) rfl (by kernel_rfl) (by kernel_rfl) (by kernel_rfl) (fun _ _ _ h => h) (Or.inl ⟨by rfl, ?_⟩) (by assumption) ?_
          rotate_left
          · intro w hSw
            try dsimp only at hSw
            go_simp
            all_goals with_reducible rfl
          try simp only [Act.put, List.setIfInBounds_toArray, List.set_cons_zero, List.set_cons_succ]
          refine wpAnyH_take (i := 29) (oi := { dst := some 107, op := Go.Op.convert 24 9 (Go.Operand.tmp 106), type := 9, pos := "law.go:68", after := #[{ on := 28, ground := Go.Ground.data }, { on := 22, ground := Go.Ground.guard }], guard := some (22, true) }) (v := ?_) rfl (by kernel_rfl) (by kernel_rfl) (by kernel_rfl) (fun _ _ _ h => h) (Or.inl ⟨by rfl, ?_⟩) (by assumption) ?_
          rotate_left
          · intro w hSw
            try dsimp only at hSw
            go_simp
            all_goals with_reducible rfl
          try simp only [Act.put, List.setIfInBounds_toArray, List.set_cons_zero, List.set_cons_succ]
          refine wpAnyH_take (i := 30) (oi := { dst := some 108, op := Go.Op.binOp Go.BinOp.eql 9 (Go.Operand.tmp 102) (Go.Operand.tmp 107) 9, type := 4, pos := "law.go:68", after := #[{ on := 24, ground := Go.Ground.data }, { on := 29, ground := Go.Ground.data }, { on := 22, ground := Go.Ground.guard }], guard := some (22, true) }) (v := ?_) rfl (by kernel_rfl) (by kernel_rfl) (by kernel_rfl) (fun _ _ _ h => h) (Or.inl ⟨by rfl, ?_⟩) (by assumption) ?_
          rotate_left
          · intro w hSw
            try dsimp only at hSw
            go_simp
            all_goals with_reducible rfl
          try simp only [Act.put, List.setIfInBounds_toArray, List.set_cons_zero, List.set_cons_succ]
          refine wpAnyH_take (i := 31) (oi := { dst := some 109, op := Go.Op.pick (Go.Operand.tmp 100) (Go.Operand.tmp 108) (Go.Operand.const (Go.Value.bool false)), type := 4, pos := "law.go:68", after := #[{ on := 22, ground := Go.Ground.data }, { on := 30, ground := Go.Ground.data }], guard := none }) (v := ?_) rfl (by kernel_rfl) (by kernel_rfl) (by kernel_rfl) (fun _ _ _ h => h) (Or.inl ⟨by rfl, ?_⟩) (by assumption) ?_
          rotate_left
          · intro w hSw
            try dsimp only at hSw
            go_simp
            all_goals with_reducible rfl
          try simp only [Act.put, List.setIfInBounds_toArray, List.set_cons_zero, List.set_cons_succ]
          refine wpAnyH_take (i := 32) (oi := { dst := some 4, op := Go.Op.assign (Go.Operand.tmp 109), type := 4, pos := "law.go:68", after := #[{ on := 31, ground := Go.Ground.data }, { on := 22, ground := Go.Ground.chain }, { on := 0, ground := Go.Ground.phase }, { on := 1, ground := Go.Ground.phase }, { on := 2, ground := Go.Ground.phase }, { on := 3, ground := Go.Ground.phase }, { on := 4, ground := Go.Ground.phase }, { on := 5, ground := Go.Ground.phase }, { on := 6, ground := Go.Ground.phase }, { on := 7, ground := Go.Ground.phase }, { on := 8, ground := Go.Ground.phase }, { on := 9, ground := Go.Ground.phase }, { on := 10, ground := Go.Ground.phase }, { on := 11, ground := Go.Ground.phase }, { on := 12, ground := Go.Ground.phase }, { on := 13, ground := Go.Ground.phase }, { on := 14, ground := Go.Ground.phase }, { on := 15, ground := Go.Ground.phase }, { on := 16, ground := Go.Ground.phase }, { on := 17, ground := Go.Ground.phase }, { on := 18, ground := Go.Ground.phase }, { on := 19, ground := Go.Ground.phase }, { on := 20, ground := Go.Ground.phase }, { on := 21, ground := Go.Ground.phase }, { on := 22, ground := Go.Ground.phase }, { on := 23, ground := Go.Ground.phase }, { on := 24, ground := Go.Ground.phase }, { on := 25, ground := Go.Ground.phase }, { on := 26, ground := Go.Ground.phase }, { on := 27, ground := Go.Ground.phase }, { on := 28, ground := Go.Ground.phase }, { on := 29, ground := Go.Ground.phase }, { on := 30, ground := Go.Ground.phase }, { on := 31, ground := Go.Ground.phase }], guard := none }) (v := ?_) rfl (by kernel_rfl) (by kernel_rfl) (by kernel_rfl) (fun _ _ _ h => h) (Or.inl ⟨by rfl, ?_⟩) (by assumption) ?_
          rotate_left
          · intro w hSw
            try dsimp only at hSw
            go_simp
            all_goals with_reducible rfl
          try simp only [Act.put, List.setIfInBounds_toArray, List.set_cons_zero, List.set_cons_succ]
          refine wpAnyH_done (by kernel_rfl) ?_ _
          go_wp2
          go_ret
          exact ⟨rfl, below_via2 HB10.out hHeld.1⟩
        · have b0 : (s2.e != 0) = true := by simp [e0]
          obtain ⟨rfl, rfl, rfl⟩ := HZ.out e0
          clear e0 HZ HO
          go_wp2_with (go_at_call 19; have hop := werr HT9.out; refine hop.mono ?_; rintro e wq ⟨rfl, rfl⟩; clear hop)
          go_ret
          exact ⟨rfl, HB9.out⟩
    · go_wp2
      go_ret
      exact ⟨rfl, HB7.out⟩
  · go_wp2
    go_ret
    exact ⟨rfl, HB7.out⟩
end Go.Proofs.Ytiodpbenjbdcfaa
namespace Go.Proofs.Ytiodpbenjbdcfaa.G
open Go.RowKit Go.Proofs.Ytiodpbenjbdcfaa Go.Proofs.YtiodpbenjbdcfaaW.PrintWords Go.Proofs.YtiodpbenjbdcfaaW.PrintLast Go.Proofs.YtiodpbenjbdcfaaW.PrintMore
def rosettelaw04_ValueBack.f (a0_0 a0_1 : Int) (a0_2 : ByteArray) (l1 : List Int) : Option Bool := if l1.length ≤ 140737488351232 ∧ u8s l1 ∧ (-9223372036854775808 ≤ a0_1 ∧ a0_1 < 9223372036854775808) then some true else none
theorem rosettelaw04_ValueBack.calls (a0_0 a0_1 : Int) (a0_2 : ByteArray) (A1 : Option Addr) (c1 : Nat) (l1 : List Int) (r : Bool) (w : World) (hr1 : (Kd.int .u8).C w A1 l1.length l1) (hc1 : l1.length ≤ c1) (h : rosettelaw04_ValueBack.f a0_0 a0_1 a0_2 l1 = some r) :
    Calls Try.prog 7 #[.agg #[.int .i64 a0_0, .int .i64 a0_1, .string a0_2], .slice A1 l1.length c1] w fun e w' => e = .returned (.bool r) ∧ Below w.heap.size w w' := by
  unfold rosettelaw04_ValueBack.f at h
  split at h
  · rename_i hc
    obtain rfl : true = r := Option.some.inj h
    exact valueBack_any a0_0 a0_1 a0_2 A1 c1 l1 w hc.2.2 hr1 hc1 hc.1 hc.2.1
  · cases h
end Go.Proofs.Ytiodpbenjbdcfaa.G
