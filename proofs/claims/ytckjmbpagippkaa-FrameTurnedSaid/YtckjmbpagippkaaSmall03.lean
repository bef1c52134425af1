/- the small case of the frame's laws, walked -/
import Derived.Test.YtckjmbpagippkaaRowsH
import Derived.Test.YtckjmbpagippkaaG15
import Derived.Test.YtckjmbpagippkaaG18
set_option linter.unusedVariables false
set_option linter.unusedSimpArgs false
set_option autoImplicit false
namespace Go.Proofs.Ytckjmbpagippkaa
open Go.RowKit Go.Proofs.YtckjmbpagippkaaW.PrintWords Go.Proofs.YtckjmbpagippkaaW.PrintLast Go.Proofs.YtckjmbpagippkaaW.PrintMore Go.Proofs.Ytckjmbpagippkaa.G Go.Proofs.Ytckjmbpagippkaa.Pure

def FA : List Int := [2, 0, 125, 112, 239, 115, 97, 98, 109, 72, 131, 158]
def FZ : List Int := [0, 0, 255, 18, 217, 65, 0, 0, 0, 0]
theorem sm1 : frame_Make.f [97, 98] = some (FA, 0) := by decide +kernel
theorem sm2 : frame_Make.f [] = some (FZ, 0) := by decide +kernel
theorem sm3 : frame_Next.f (FA ++ [9]) = some ([97, 98], 12, 0) := by decide +kernel
theorem sm4 : frame_Next.f (FA.take 11) = some ([], 0, 2) := by decide +kernel
theorem sm5 : frame_Next.f ((FA ++ FZ).drop 0) = some ([97, 98], 12, 0) := by decide +kernel
theorem sm6 : frame_Next.f ((FA ++ FZ).drop 12) = some ([], 10, 0) := by decide +kernel
theorem sm7 : frame_Next.f ((FA ++ [9]).drop 0) = some ([97, 98], 12, 0) := by decide +kernel
theorem sm8 : frame_Next.f ((FA ++ [9]).drop 12) = some ([], 0, 2) := by decide +kernel
theorem sm9 : rosetteref01_Sum.f 20 [0, 0] = some 1104745215 := by decide +kernel
theorem sm10 : rosetteref01_Low.f 1104745215 = some [255, 18, 217, 65] := by decide +kernel
theorem sm11 : strOfNums FZ = (⟨#[0, 0]⟩ ++ strOfNums [255, 18, 217, 65]) ++ ⟨#[0, 0, 0, 0]⟩ := by decide +kernel
theorem run_one {xs : List It} {er : Int} (h : Runs (FA ++ FZ) 0 xs er) : ∃ v1 v2, xs = [⟨12, v1, [97, 98]⟩, ⟨22, v2, []⟩] ∧ er = 0 := by
  cases h with
  | stop h => exact absurd h (by decide)
  | fail h1 h2 h3 => rw [sm5] at h2; cases h2; exact absurd rfl h3
  | step h1 h2 h3 =>
    rw [sm5] at h2
    simp only [Option.some.injEq, Prod.mk.injEq] at h2
    obtain ⟨rfl, rfl, _⟩ := h2
    cases h3 with
    | stop h => exact absurd h (by decide)
    | fail g1 g2 g3 => rw [show 0 + (12 : Int).toNat = 12 from rfl, sm6] at g2; cases g2; exact absurd rfl g3
    | step g1 g2 g3 =>
      rw [show 0 + (12 : Int).toNat = 12 from rfl, sm6] at g2
      simp only [Option.some.injEq, Prod.mk.injEq] at g2
      obtain ⟨rfl, rfl, _⟩ := g2
      cases g3 with
      | stop h => exact ⟨_, _, rfl, rfl⟩
      | fail k1 k2 k3 => exact absurd k1 (by decide)
      | step k1 k2 k3 => exact absurd k1 (by decide)
theorem run_two {xs : List It} {er : Int} (h : Runs (FA ++ [9]) 0 xs er) : ∃ v1, xs = [⟨12, v1, [97, 98]⟩] ∧ er = 2 := by
  cases h with
  | stop h => exact absurd h (by decide)
  | fail h1 h2 h3 => rw [sm7] at h2; cases h2; exact absurd rfl h3
  | step h1 h2 h3 =>
    rw [sm7] at h2
    simp only [Option.some.injEq, Prod.mk.injEq] at h2
    obtain ⟨rfl, rfl, _⟩ := h2
    cases h3 with
    | stop h => exact absurd h (by decide)
    | fail g1 g2 g3 =>
      rw [show 0 + (12 : Int).toNat = 12 from rfl, sm8] at g2
      simp only [Option.some.injEq, Prod.mk.injEq] at g2
      exact ⟨_, rfl, g2.2.2.symm⟩
    | step g1 g2 g3 =>
      rw [show 0 + (12 : Int).toNat = 12 from rfl, sm8] at g2
      cases g2
theorem conv_b (W : World) (C : Array Value) (n c : Nat) : (convert 22 22 (.slice (some ⟨W.heap.size, 0, none⟩) n c)).run Try.prog (W.alloc (.cells C 5)) = .ok (.slice (some ⟨W.heap.size, 0, none⟩) n c) (W.alloc (.cells C 5 (C.size, C.size + 1))) := Lib.run_convert_bytes_const W 22 5 C n c Try.underlying22 Try.underlying5
theorem own_empty (W : World) : (W.alloc (.cells #[] 5)).ownsRow W.heap.size 5 1 (.slice (some ⟨W.heap.size, 0, none⟩) 0 0) ([] : List Int).length (nums .u8 []) :=
  ⟨by simp [nums], .inr ⟨W.heap.size, 0, #[], rfl, Nat.le_refl _, heap_alloc_new W _, by simp, by simp [maxLen], by simp, by simp [nums]⟩⟩
theorem below_via2 {w W W' : World} (h0 : Below w.heap.size w W) (h : Below W.heap.size W W') : Below w.heap.size w W' := h0.trans (h.mono h0.size)
theorem low_conv {W : World} {base : Nat} {v : Value} {sl : ByteArray} (h : (Kd.int .u8).R 5 W base (fun _ => True) v [255, 18, 217, 65]) (hs : sl = strOfNums [255, 18, 217, 65]) : ∃ A c, v = .slice A 4 c ∧ (convert 22 9 (.slice A 4 c)).run Try.prog W = .ok (.string sl) W := by
  obtain ⟨A, c, rfl, _, hC⟩ := own_C h
  rw [hs]
  exact ⟨A, c, rfl, Kd.C_string (P := Try.prog) (A := A) (c := c) Try.underlying22 Try.underlying5 Try.underlying9 hC⟩
theorem row_lit (W : World) : RowS ((W.alloc (.cells #[.int .u8 97, .int .u8 98] 5 (2, 3))).alloc (.cells #[.slice (some ⟨W.heap.size, 0, none⟩) 2 2, .slice none 0 0] 22)) (some ⟨W.heap.size + 1, 0, none⟩) 2 (fun i => [[97, 98], []].getD i []) := by
  have h1 : (W.alloc (.cells #[.int .u8 97, .int .u8 98] 5 (2, 3))).heap.size = W.heap.size + 1 := by simp
  have h2 := heap_alloc_new (W.alloc (.cells #[.int .u8 97, .int .u8 98] 5 (2, 3))) (.cells #[.slice (some ⟨W.heap.size, 0, none⟩) 2 2, .slice none 0 0] 22)
  rw [h1] at h2
  intro i hi
  have hadd : (⟨W.heap.size + 1, 0, none⟩ : Addr).add i = ⟨W.heap.size + 1, i, none⟩ := add_plain _ _
  match i, hi with
  | 0, _ => exact ⟨_, some ⟨W.heap.size, 0, none⟩, 2, rfl, by rw [hadd, cell_of_row _ _ _ _ _ _ h2]; rfl, Kd.C_alloc (lit_C W 5 .u8 [97, 98] (by decide) (2, 3)) _⟩
  | 1, _ => exact ⟨_, none, 0, rfl, by rw [hadd, cell_of_row _ _ _ _ _ _ h2]; rfl, nil_C _ .u8⟩
theorem held_take {w : World} {S : Nat → Prop} {A : Option Addr} {l : List Int} (h : HeldB w S A l) (k : Nat) : HeldB w S A (l.take k) := by
  intro h0
  rw [List.length_take] at h0
  obtain ⟨ad', e1, e2, e3⟩ := h (by omega)
  refine ⟨ad', e1, e2, fun j hj => ?_⟩
  rw [List.length_take] at hj
  have e4 := e3 j (by omega)
  rw [e4]
  congr 2
  have e7 : ((j : Nat) : Int).toNat = j := by omega
  simp only [rd, List.getD_eq_getElem?_getD, e7, List.getElem?_take, show j < k by omega, if_true]
set_option maxRecDepth 100000 in
set_option maxHeartbeats 4000000 in
theorem small_any (w : World) : Calls Try.prog 8 #[] w fun e w' => e = .returned (.bool true) ∧ Below w.heap.size w w' := by
  have hcv := conv_b
  obtain ⟨F, hF⟩ : ∃ F, F = FA := ⟨_, rfl⟩
  obtain ⟨Z, hZ⟩ : ∃ Z, Z = FZ := ⟨_, rfl⟩
  have hFl : F.length = 12 := by rw [hF]; rfl
  have hZl : Z.length = 10 := by rw [hZ]; rfl
  have EF := Aside0.mk hF
  have EZ := Aside0.mk hZ
  have LF := Aside0.mk hFl
  have LZ := Aside0.mk hZl
  obtain ⟨sl, hsl⟩ : ∃ s, s = strOfNums [255, 18, 217, 65] := ⟨_, rfl⟩
  have SL := Aside0.mk hsl
  have hsz : sl.size = 4 := by rw [hsl]; rfl
  clear hsl
  clear hF hZ hFl hZl
  go_enter Try.func8, Try.ntmps8
  go_wp2_with fail
  refine (frame_Make.calls _ _ [97, 98] F 0 _ (lit_C w 5 .u8 [97, 98] (by decide) _) (Nat.le_refl _) (by rw [EF.out]; exact sm1)).mono ?_
  rintro e w1 ⟨v1, rfl, hR, hX⟩
  obtain ⟨Aa, na, rfl, hna, _, hH, _⟩ := held_own hR
  have HB1 : Aside0 (Below w.heap.size w w1) := ⟨((Below.refl _ _).alloc (Nat.le_refl _) _).trans (hX.mono (by simp))⟩
  have HA1 := Aside0.mk (hH.mono (S' := fun _ => True) (fun _ _ => trivial))
  clear hR hX hH
  go_wp2_with fail
  refine (frame_Make.calls none 0 [] Z 0 _ (nil_C _ .u8) (Nat.le_refl _) (by rw [EZ.out]; exact sm2)).mono ?_
  rintro e w2 ⟨v2, rfl, hR, hX⟩
  obtain ⟨Az, nz, rfl, hnz, _, hH, _⟩ := held_own hR
  have HB2 := Aside0.mk (below_via hX HB1.out)
  have HA2 := Aside0.mk (HA1.out.below hX)
  have HZ2 := Aside0.mk (hH.mono (S' := fun _ => True) (fun _ _ => trivial))
  clear hR hX hH HB1 HA1
  have b2 := Aside0.mk ((Below.refl w2.heap.size w2).alloc (Nat.le_refl _) (.cells #[] 5))
  go_wp2_with (first
    | (at_builtin; refine print_append_row (w0 := w2) w2.heap.size rfl (.tmp 28) (.tmp 29) 22 5 .u8 1 rfl Try.underlying22 info_b8 (by decide) (.slice (some ⟨w2.heap.size, 0, none⟩) 0 0) [] F Aa F.length na rfl rfl (own_empty w2) (Kd.reads_of_C (d := (0 : Int)) ((HA2.out.below b2.out).C (by have := LF.out; omega))) b2.out (by simp) (by have := LF.out; simp; omega) ?_; intro v3 w3 ho3 hB3 _ _; rw [List.nil_append] at ho3; obtain ⟨A3, n3, rfl, _, _⟩ := own_C (kd_R ho3))
    | (at_builtin; refine print_append_num (w0 := w2) w2.heap.size rfl (.tmp 30) (.tmp 31) 22 5 .u8 1 rfl Try.underlying22 info_b8 (by decide) (.slice A3 F.length n3) F 9 rfl rfl ho3 hB3 (by have := hB3.size; omega) (by have := LF.out; omega) ?_; intro v4 w4 ho4 hB4 _ _; obtain ⟨A4, n4, rfl, hn4, _, hH4, hC4⟩ := held_own (kd_R ho4)))
  refine (next_n A4 (F.length + 1) n4 (F ++ [9]) [97, 98] 12 0 w4 (by simp) (hH4.mono (fun _ _ => trivial)) (by have := LF.out; simp; omega) (by simpa using hn4) (by rw [EF.out]; exact sm3)).mono ?_
  rintro e w5 ⟨Ax, nx, rfl, hnx, hnx', hX, hB⟩
  have HB5 := Aside0.mk (below_via (hB4.trans (hB.mono hB4.size)) HB2.out)
  have HA5 := Aside0.mk ((HA2.out.below hB4).below hB)
  have HZ5 := Aside0.mk ((HZ2.out.below hB4).below hB)
  have HX5 := Aside0.mk (hX.mono (S' := fun _ => True) (fun _ _ => trivial))
  have b5 := Aside0.mk ((Below.refl w5.heap.size w5).alloc (Nat.le_refl _) (.cells #[] 5))
  clear hB hX hB4 ho4 hB3 ho3 hH4 hC4 b2 HB2 HA2 HZ2
  go_wp2_with (first
    | (at_builtin; refine print_append_row (w0 := w5) w5.heap.size rfl (.tmp 38) (.tmp 39) 22 5 .u8 1 rfl Try.underlying22 info_b8 (by decide) (.slice (some ⟨w5.heap.size, 0, none⟩) 0 0) [] F Aa F.length na rfl rfl (own_empty w5) (Kd.reads_of_C (d := (0 : Int)) ((HA5.out.below b5.out).C (by have := LF.out; omega))) b5.out (by simp) (by have := LF.out; simp; omega) ?_; intro v6 w6 ho6 hB6 _ _; rw [List.nil_append] at ho6; have HZ6 := HZ5.out.below hB6; obtain ⟨A6, n6, rfl, _, _⟩ := own_C (kd_R ho6))
    | (at_builtin; refine print_append_row (w0 := w5) w5.heap.size rfl (.tmp 40) (.tmp 41) 22 5 .u8 1 rfl Try.underlying22 info_b8 (by decide) (.slice A6 F.length n6) F Z Az Z.length nz rfl rfl ho6 (Kd.reads_of_C (d := (0 : Int)) (HZ6.C (by have := LZ.out; omega))) hB6 hB6.size (by have := LF.out; have := LZ.out; omega) ?_; intro v7 w7 ho7 hB7 _ _; obtain ⟨A7, n7, rfl, hn7, _, hH7, hC7⟩ := held_own (kd_R ho7)))
  refine (all_n A7 (F.length + Z.length) n7 (F ++ Z) w7 (by simp) (by rw [EF.out, EZ.out]; decide) (hH7.mono (fun _ _ => trivial)) (by simpa using hn7) (by have := LF.out; have := LZ.out; simp; omega)).mono ?_
  rintro e w8 ⟨xs, er, Al, nl, rfl, hrun, hnl, hnl', hL, hB⟩
  obtain ⟨u1, u2, rfl, rfl⟩ := run_one (by rw [EF.out, EZ.out] at hrun; exact hrun)
  simp only [List.getLast?_cons_cons, List.getLast?_singleton, Option.map_some, Option.getD_some]
  have HB8 := Aside0.mk (below_via (hB7.trans (hB.mono hB7.size)) HB5.out)
  have HA8 := Aside0.mk ((HA5.out.below hB7).below hB)
  have HZ8 := Aside0.mk ((HZ5.out.below hB7).below hB)
  have HX8 := Aside0.mk ((HX5.out.below hB7).below hB)
  have HL8 := Aside0.mk (hL.mono (S' := fun _ => True) (fun _ _ => trivial))
  have b8 := Aside0.mk ((Below.refl w8.heap.size w8).alloc (Nat.le_refl _) (.cells #[] 5))
  clear hB hL hB7 ho7 hB6 ho6 hH7 hC7 b5 HB5 HA5 HZ5 HX5 HZ6 hrun
  go_wp2_with (first
    | (at_builtin; refine print_append_row (w0 := w8) w8.heap.size rfl (.tmp 48) (.tmp 49) 22 5 .u8 1 rfl Try.underlying22 info_b8 (by decide) (.slice (some ⟨w8.heap.size, 0, none⟩) 0 0) [] F Aa F.length na rfl rfl (own_empty w8) (Kd.reads_of_C (d := (0 : Int)) ((HA8.out.below b8.out).C (by have := LF.out; omega))) b8.out (by simp) (by have := LF.out; simp; omega) ?_; intro v9 w9 ho9 hB9 _ _; rw [List.nil_append] at ho9; obtain ⟨A9, n9, rfl, _, _⟩ := own_C (kd_R ho9))
    | (at_builtin; refine print_append_num (w0 := w8) w8.heap.size rfl (.tmp 50) (.tmp 51) 22 5 .u8 1 rfl Try.underlying22 info_b8 (by decide) (.slice A9 F.length n9) F 9 rfl rfl ho9 hB9 (by have := hB9.size; omega) (by have := LF.out; omega) ?_; intro v10 w10 ho10 hB10 _ _; obtain ⟨A10, n10, rfl, hn10, _, hH10, hC10⟩ := held_own (kd_R ho10)))
  refine (all_n A10 (F.length + 1) n10 (F ++ [9]) w10 (by simp) (by rw [EF.out]; decide) (hH10.mono (fun _ _ => trivial)) (by simpa using hn10) (by have := LF.out; simp; omega)).mono ?_
  rintro e w11 ⟨xs, er, Am, nm, rfl, hrun, hnm, hnm', hL, hB⟩
  obtain ⟨u3, rfl, rfl⟩ := run_two (by rw [EF.out] at hrun; exact hrun)
  simp only [List.getLast?_singleton, Option.map_some, Option.getD_some]
  have HB11 := Aside0.mk (below_via (hB10.trans (hB.mono hB10.size)) HB8.out)
  have HA11 := Aside0.mk ((HA8.out.below hB10).below hB)
  have HZ11 := Aside0.mk ((HZ8.out.below hB10).below hB)
  have HX11 := Aside0.mk ((HX8.out.below hB10).below hB)
  have HL11 := Aside0.mk ((HL8.out.below hB10).below hB)
  clear hB hL hB10 ho10 hB9 ho9 hH10 hC10 b8 HB8 HA8 HZ8 HX8 HL8 hrun
  go_wp2_with fail
  case inr h => exact absurd LF.out (by omega)
  refine (next_n Aa 11 na (F.take 11) [] 0 2 w11 (by have := LF.out; simp; omega) (held_take HA11.out 11) (by have := LF.out; simp; omega) (by have := LF.out; simp; omega) (by rw [EF.out]; exact sm4)).mono ?_
  rintro e w12 ⟨Ai, ni, rfl, hni, hni', hI, hB⟩
  have HB12 := Aside0.mk (below_via hB HB11.out)
  have HZ12 := Aside0.mk (HZ11.out.below hB)
  have HX12 := Aside0.mk (HX11.out.below hB)
  have HL12 := Aside0.mk (HL11.out.below hB)
  clear hB hI HB11 HA11 HZ11 HX11 HL11
  have hcz : ∀ W, Below w12.heap.size w12 W → Below w12.heap.size w12 W ∧ (convert 22 9 (.slice Az 10 nz)).run Try.prog W = .ok (.string ((⟨#[0, 0]⟩ ++ sl) ++ ⟨#[0, 0, 0, 0]⟩)) W ∧ (convert 22 9 (.slice Ax 2 nx)).run Try.prog W = .ok (.string ⟨#[97, 98]⟩) W := by
    intro W hW
    refine ⟨hW, ?_, ?_⟩
    · rw [SL.out, ← sm11, ← EZ.out, ← LZ.out]
      exact Kd.C_string (P := Try.prog) (A := Az) (c := nz) Try.underlying22 Try.underlying5 Try.underlying9 ((HZ12.out.below hW).C (by have := LZ.out; omega))
    · exact Kd.C_string (P := Try.prog) (A := Ax) (c := nx) (xs := [97, 98]) Try.underlying22 Try.underlying5 Try.underlying9 ((HX12.out.below hW).C (by decide))
  have SZ := Aside0.mk hcz
  clear hcz
  have HLn := HL12
  rw [LF.out, LZ.out]
  go_upto_region 7 with fail
  refine wp_region_held_drew (S := (fun W => Below w12.heap.size w12 W ∧ (convert 22 9 (.slice Az 10 nz)).run Try.prog W = .ok (.string ((⟨#[0, 0]⟩ ++ sl) ++ ⟨#[0, 0, 0, 0]⟩)) W ∧ (convert 22 9 (.slice Ax 2 nx)).run Try.prog W = .ok (.string ⟨#[97, 98]⟩) W)) (by kernel_rfl) (SZ.out _ (below_drew (Below.refl _ _))) (fun hHeld => ?_)
  refine wpAnyH_take (i := 0) (oi := { dst := some 67, op := Op.move (Operand.tmp 2), type := 24, pos := "law.go:19", after := #[], guard := none }) (v := ?_) rfl (by kernel_rfl) (by kernel_rfl) (by kernel_rfl) (fun _ _ _ h => h) (Or.inl ⟨by rfl, ?_⟩) (by assumption) ?_
  rotate_left
  · intro w hSw
    try dsimp only at hSw
    go_simp
    all_goals with_reducible rfl
  try simp only [Act.put, List.setIfInBounds_toArray, List.set_cons_zero, List.set_cons_succ]
  refine wpAnyH_take (i := 1) (oi := { dst := some 68, op := Op.binOp BinOp.eql 24 (Operand.tmp 67) (Operand.const (Value.int IntKind.i64 0)) 24, type := 4, pos := "law.go:19", after := #[{ on := 0, ground := Ground.data }], guard := none }) (v := ?_) rfl (by kernel_rfl) (by kernel_rfl) (by kernel_rfl) (fun _ _ _ h => h) (Or.inl ⟨by rfl, ?_⟩) (by assumption) ?_
  rotate_left
  · intro w hSw
    try dsimp only at hSw
    go_simp
    all_goals with_reducible rfl
  try simp only [Act.put, List.setIfInBounds_toArray, List.set_cons_zero, List.set_cons_succ]
  refine wpAnyH_take (i := 2) (oi := { dst := some 69, op := Op.move (Operand.tmp 68), type := 4, pos := "law.go:19", after := #[{ on := 1, ground := Ground.data }], guard := none }) (v := ?_) rfl (by kernel_rfl) (by kernel_rfl) (by kernel_rfl) (fun _ _ _ h => h) (Or.inl ⟨by rfl, ?_⟩) (by assumption) ?_
  rotate_left
  · intro w hSw
    try dsimp only at hSw
    go_simp
    all_goals with_reducible rfl
  try simp only [Act.put, List.setIfInBounds_toArray, List.set_cons_zero, List.set_cons_succ]
  refine wpAnyH_take (i := 3) (oi := { dst := some 70, op := Op.move (Operand.tmp 1), type := 22, pos := "law.go:19", after := #[{ on := 2, ground := Ground.guard }], guard := some (2, true) }) (v := ?_) rfl (by kernel_rfl) (by kernel_rfl) (by kernel_rfl) (fun _ _ _ h => h) (Or.inl ⟨by rfl, ?_⟩) (by assumption) ?_
  rotate_left
  · intro w hSw
    try dsimp only at hSw
    go_simp
    all_goals with_reducible rfl
  try simp only [Act.put, List.setIfInBounds_toArray, List.set_cons_zero, List.set_cons_succ]
  refine wpAnyH_take (i := 4) (oi := { dst := some 71, op := Op.call { callee := Callee.builtin Builtin.len, args := #[Operand.tmp 70], argTypes := #[22] }, type := 3, pos := "law.go:19", after := #[{ on := 3, ground := Ground.data }, { on := 2, ground := Ground.guard }], guard := some (2, true) }) (v := ?_) rfl (by kernel_rfl) (by kernel_rfl) (by kernel_rfl) (fun _ _ _ h => h) (Or.inl ⟨by rfl, ?_⟩) (by assumption) ?_
  rotate_left
  · intro w hSw
    try dsimp only at hSw
    go_simp
    all_goals with_reducible rfl
  try simp only [Act.put, List.setIfInBounds_toArray, List.set_cons_zero, List.set_cons_succ]
  refine wpAnyH_take (i := 5) (oi := { dst := some 72, op := Op.binOp BinOp.eql 3 (Operand.tmp 71) (Operand.const (Value.int IntKind.i64 12)) 3, type := 4, pos := "law.go:19", after := #[{ on := 4, ground := Ground.data }, { on := 2, ground := Ground.guard }], guard := some (2, true) }) (v := ?_) rfl (by kernel_rfl) (by kernel_rfl) (by kernel_rfl) (fun _ _ _ h => h) (Or.inl ⟨by rfl, ?_⟩) (by assumption) ?_
  rotate_left
  · intro w hSw
    try dsimp only at hSw
    go_simp
    all_goals with_reducible rfl
  try simp only [Act.put, List.setIfInBounds_toArray, List.set_cons_zero, List.set_cons_succ]
  refine wpAnyH_take (i := 6) (oi := { dst := some 73, op := Op.pick (Operand.tmp 69) (Operand.tmp 72) (Operand.const (Value.bool false)), type := 4, pos := "law.go:19", after := #[{ on := 2, ground := Ground.data }, { on := 5, ground := Ground.data }], guard := none }) (v := ?_) rfl (by kernel_rfl) (by kernel_rfl) (by kernel_rfl) (fun _ _ _ h => h) (Or.inl ⟨by rfl, ?_⟩) (by assumption) ?_
  rotate_left
  · intro w hSw
    try dsimp only at hSw
    go_simp
    all_goals with_reducible rfl
  try simp only [Act.put, List.setIfInBounds_toArray, List.set_cons_zero, List.set_cons_succ]
  refine wpAnyH_take (i := 7) (oi := { dst := some 74, op := Op.move (Operand.tmp 73), type := 4, pos := "law.go:19", after := #[{ on := 6, ground := Ground.data }, { on := 2, ground := Ground.chain }], guard := none }) (v := ?_) rfl (by kernel_rfl) (by kernel_rfl) (by kernel_rfl) (fun _ _ _ h => h) (Or.inl ⟨by rfl, ?_⟩) (by assumption) ?_
  rotate_left
  · intro w hSw
    try dsimp only at hSw
    go_simp
    all_goals with_reducible rfl
  try simp only [Act.put, List.setIfInBounds_toArray, List.set_cons_zero, List.set_cons_succ]
  refine wpAnyH_take (i := 8) (oi := { dst := some 75, op := Op.move (Operand.tmp 3), type := 22, pos := "law.go:19", after := #[{ on := 7, ground := Ground.guard }], guard := some (7, true) }) (v := ?_) rfl (by kernel_rfl) (by kernel_rfl) (by kernel_rfl) (fun _ _ _ h => h) (Or.inl ⟨by rfl, ?_⟩) (by assumption) ?_
  rotate_left
  · intro w hSw
    try dsimp only at hSw
    go_simp
    all_goals with_reducible rfl
  try simp only [Act.put, List.setIfInBounds_toArray, List.set_cons_zero, List.set_cons_succ]
  refine wpAnyH_take (i := 9) (oi := { dst := some 76, op := Op.convert 22 9 (Operand.tmp 75), type := 9, pos := "law.go:19", after := #[{ on := 8, ground := Ground.data }, { on := 7, ground := Ground.guard }], guard := some (7, true) }) (v := ?_) rfl (by kernel_rfl) (by kernel_rfl) (by kernel_rfl) (fun _ _ _ h => h) (Or.inl ⟨by rfl, ?_⟩) (by assumption) ?_
  rotate_left
  · intro w hSw
    try dsimp only at hSw
    go_simp
    all_goals with_reducible rfl
  try simp only [Act.put, List.setIfInBounds_toArray, List.set_cons_zero, List.set_cons_succ]
  refine wpAnyH_ready (rs := [10]) (by kernel_rfl) (by simp) ?_
  refine AllReadyH.cons (o := { dst := some 77, op := Op.buildSlice 22 2 #[(0, Operand.const (Value.int IntKind.u8 0)), (1, Operand.const (Value.int IntKind.u8 0))], type := 22, pos := "law.go:19", after := #[{ on := 7, ground := Ground.guard }], guard := some (7, true) }) rfl (fun K hK => ?_) AllReadyH.nil
  go_simp
  refine hK.out _ _ (SZ.out _ (by first | assumption | exact hHeld.1 | exact hHeld.1.alloc hHeld.1.size _ | exact hbq.alloc hbq.size _)) (fun hHeld => ?_)
  clear hK K
  try simp only [Act.put, List.setIfInBounds_toArray, List.set_cons_zero, List.set_cons_succ]
  refine wpAnyH_ready (rs := [11]) (by kernel_rfl) (by simp) ?_
  refine AllReadyH.cons (o := { dst := some 78, op := Op.call { callee := Callee.value (Operand.func 17), args := #[Operand.tmp 77], argTypes := #[22] }, type := 37, pos := "law.go:19", after := #[{ on := 10, ground := Ground.data }, { on := 7, ground := Ground.chain }, { on := 7, ground := Ground.guard }], guard := some (7, true) }) rfl (fun K hK => ?_) AllReadyH.nil
  go_simp
  (go_at_call 17; refine Calls.mono (rosetteref01_Sum.calls 20 _ 2 [0, 0] 1104745215 _ (lit_C _ 5 .u8 [0, 0] (by decide)) (Nat.le_refl _) sm9) ?_; rintro e wn ⟨rfl, hX⟩; have hbn := below_via2 hHeld.1 hX.below; clear hX hHeld)
  go_wp2_with fail
  refine hK.out _ _ (SZ.out _ (by first | assumption | exact hHeld.1 | exact hHeld.1.alloc hHeld.1.size _ | exact hbq.alloc hbq.size _)) (fun hHeld => ?_)
  clear hK K
  try simp only [Act.put, List.setIfInBounds_toArray, List.set_cons_zero, List.set_cons_succ]
  refine wpAnyH_ready (rs := [12]) (by kernel_rfl) (by simp) ?_
  refine AllReadyH.cons (o := { dst := some 79, op := Op.call { callee := Callee.value (Operand.func 16), args := #[Operand.tmp 78], argTypes := #[37] }, type := 22, pos := "law.go:19", after := #[{ on := 11, ground := Ground.data }, { on := 11, ground := Ground.chain }, { on := 7, ground := Ground.guard }], guard := some (7, true) }) rfl (fun K hK => ?_) AllReadyH.nil
  go_simp
  (go_at_call 16; refine Calls.mono (rosetteref01_Low.calls 1104745215 _ _ sm10) ?_; rintro e wm ⟨vl, rfl, hR, hX⟩; have hbm := below_via2 hHeld.1 hX; clear hX hHeld; obtain ⟨Pl, cl, rfl, hc4⟩ := low_conv hR SL.out; clear hR)
  go_wp2_with fail
  refine hK.out _ _ (SZ.out _ (by first | assumption | exact hHeld.1 | exact hHeld.1.alloc hHeld.1.size _ | exact hbq.alloc hbq.size _)) (fun hHeld => ?_)
  clear hK K
  try simp only [Act.put, List.setIfInBounds_toArray, List.set_cons_zero, List.set_cons_succ]
  refine wpAnyH_ready (rs := [13]) (by kernel_rfl) (by simp) ?_
  refine AllReadyH.cons (o := { dst := some 80, op := Op.convert 22 9 (Operand.tmp 79), type := 9, pos := "law.go:19", after := #[{ on := 12, ground := Ground.data }, { on := 7, ground := Ground.guard }], guard := some (7, true) }) rfl (fun K hK => ?_) AllReadyH.nil
  go_simp
  refine hK.out _ _ (SZ.out _ (by first | assumption | exact hHeld.1 | exact hHeld.1.alloc hHeld.1.size _ | exact hbq.alloc hbq.size _)) (fun hHeld => ?_)
  clear hK K
  try simp only [Act.put, List.setIfInBounds_toArray, List.set_cons_zero, List.set_cons_succ]
  refine wpAnyH_take (i := 14) (oi := { dst := some 81, op := Op.binOp BinOp.add 9 (Operand.const (Value.string { data := #[0, 0] })) (Operand.tmp 80) 9, type := 9, pos := "law.go:19", after := #[{ on := 13, ground := Ground.data }, { on := 7, ground := Ground.guard }], guard := some (7, true) }) (v := ?_) rfl (by kernel_rfl) (by kernel_rfl) (by kernel_rfl) (fun _ _ _ h => h) (Or.inl ⟨by rfl, ?_⟩) (by assumption) ?_
  rotate_left
  · intro w hSw
    try dsimp only at hSw
    go_simp
    all_goals with_reducible rfl
  try simp only [Act.put, List.setIfInBounds_toArray, List.set_cons_zero, List.set_cons_succ]
  refine wpAnyH_take (i := 15) (oi := { dst := some 82, op := Op.binOp BinOp.add 9 (Operand.tmp 81) (Operand.const (Value.string { data := #[0, 0, 0, 0] })) 9, type := 9, pos := "law.go:19", after := #[{ on := 14, ground := Ground.data }, { on := 7, ground := Ground.guard }], guard := some (7, true) }) (v := ?_) rfl (by kernel_rfl) (by kernel_rfl) (by kernel_rfl) (fun _ _ _ h => h) (Or.inl ⟨by rfl, ?_⟩) (by assumption) ?_
  rotate_left
  · intro w hSw
    try dsimp only at hSw
    go_simp
    all_goals with_reducible rfl
  try simp only [Act.put, List.setIfInBounds_toArray, List.set_cons_zero, List.set_cons_succ]
  refine wpAnyH_take (i := 16) (oi := { dst := some 83, op := Op.binOp BinOp.eql 9 (Operand.tmp 76) (Operand.tmp 82) 9, type := 4, pos := "law.go:19", after := #[{ on := 9, ground := Ground.data }, { on := 15, ground := Ground.data }, { on := 7, ground := Ground.guard }], guard := some (7, true) }) (v := ?_) rfl (by kernel_rfl) (by kernel_rfl) (by kernel_rfl) (fun _ _ _ h => h) (Or.inl ⟨by rfl, ?_⟩) (by assumption) ?_
  rotate_left
  · intro w hSw
    try dsimp only at hSw
    go_simp
    all_goals with_reducible rfl
  try simp only [Act.put, List.setIfInBounds_toArray, List.set_cons_zero, List.set_cons_succ]
  refine wpAnyH_take (i := 17) (oi := { dst := some 84, op := Op.pick (Operand.tmp 74) (Operand.tmp 83) (Operand.const (Value.bool false)), type := 4, pos := "law.go:19", after := #[{ on := 7, ground := Ground.data }, { on := 16, ground := Ground.data }], guard := none }) (v := ?_) rfl (by kernel_rfl) (by kernel_rfl) (by kernel_rfl) (fun _ _ _ h => h) (Or.inl ⟨by rfl, ?_⟩) (by assumption) ?_
  rotate_left
  · intro w hSw
    try dsimp only at hSw
    go_simp
    all_goals with_reducible rfl
  try simp only [Act.put, List.setIfInBounds_toArray, List.set_cons_zero, List.set_cons_succ]
  refine wpAnyH_take (i := 18) (oi := { dst := some 85, op := Op.move (Operand.tmp 84), type := 4, pos := "law.go:19", after := #[{ on := 17, ground := Ground.data }, { on := 12, ground := Ground.chain }], guard := none }) (v := ?_) rfl (by kernel_rfl) (by kernel_rfl) (by kernel_rfl) (fun _ _ _ h => h) (Or.inl ⟨by rfl, ?_⟩) (by assumption) ?_
  rotate_left
  · intro w hSw
    try dsimp only at hSw
    go_simp
    all_goals with_reducible rfl
  try simp only [Act.put, List.setIfInBounds_toArray, List.set_cons_zero, List.set_cons_succ]
  refine wpAnyH_take (i := 19) (oi := { dst := some 86, op := Op.move (Operand.tmp 5), type := 22, pos := "law.go:19", after := #[{ on := 18, ground := Ground.guard }], guard := some (18, true) }) (v := ?_) rfl (by kernel_rfl) (by kernel_rfl) (by kernel_rfl) (fun _ _ _ h => h) (Or.inl ⟨by rfl, ?_⟩) (by assumption) ?_
  rotate_left
  · intro w hSw
    try dsimp only at hSw
    go_simp
    all_goals with_reducible rfl
  try simp only [Act.put, List.setIfInBounds_toArray, List.set_cons_zero, List.set_cons_succ]
  refine wpAnyH_take (i := 20) (oi := { dst := some 87, op := Op.convert 22 9 (Operand.tmp 86), type := 9, pos := "law.go:19", after := #[{ on := 19, ground := Ground.data }, { on := 18, ground := Ground.guard }], guard := some (18, true) }) (v := ?_) rfl (by kernel_rfl) (by kernel_rfl) (by kernel_rfl) (fun _ _ _ h => h) (Or.inl ⟨by rfl, ?_⟩) (by assumption) ?_
  rotate_left
  · intro w hSw
    try dsimp only at hSw
    go_simp
    all_goals with_reducible rfl
  try simp only [Act.put, List.setIfInBounds_toArray, List.set_cons_zero, List.set_cons_succ]
  refine wpAnyH_take (i := 21) (oi := { dst := some 88, op := Op.binOp BinOp.eql 9 (Operand.tmp 87) (Operand.const (Value.string { data := #[97, 98] })) 9, type := 4, pos := "law.go:19", after := #[{ on := 20, ground := Ground.data }, { on := 18, ground := Ground.guard }], guard := some (18, true) }) (v := ?_) rfl (by kernel_rfl) (by kernel_rfl) (by kernel_rfl) (fun _ _ _ h => h) (Or.inl ⟨by rfl, ?_⟩) (by assumption) ?_
  rotate_left
  · intro w hSw
    try dsimp only at hSw
    go_simp
    all_goals with_reducible rfl
  try simp only [Act.put, List.setIfInBounds_toArray, List.set_cons_zero, List.set_cons_succ]
  refine wpAnyH_take (i := 22) (oi := { dst := some 89, op := Op.pick (Operand.tmp 85) (Operand.tmp 88) (Operand.const (Value.bool false)), type := 4, pos := "law.go:19", after := #[{ on := 18, ground := Ground.data }, { on := 21, ground := Ground.data }], guard := none }) (v := ?_) rfl (by kernel_rfl) (by kernel_rfl) (by kernel_rfl) (fun _ _ _ h => h) (Or.inl ⟨by rfl, ?_⟩) (by assumption) ?_
  rotate_left
  · intro w hSw
    try dsimp only at hSw
    go_simp
    all_goals with_reducible rfl
  try simp only [Act.put, List.setIfInBounds_toArray, List.set_cons_zero, List.set_cons_succ]
  refine wpAnyH_take (i := 23) (oi := { dst := some 90, op := Op.move (Operand.tmp 89), type := 4, pos := "law.go:19", after := #[{ on := 22, ground := Ground.data }, { on := 18, ground := Ground.chain }], guard := none }) (v := ?_) rfl (by kernel_rfl) (by kernel_rfl) (by kernel_rfl) (fun _ _ _ h => h) (Or.inl ⟨by rfl, ?_⟩) (by assumption) ?_
  rotate_left
  · intro w hSw
    try dsimp only at hSw
    go_simp
    all_goals with_reducible rfl
  try simp only [Act.put, List.setIfInBounds_toArray, List.set_cons_zero, List.set_cons_succ]
  refine wpAnyH_take (i := 24) (oi := { dst := some 91, op := Op.move (Operand.tmp 6), type := 3, pos := "law.go:19", after := #[{ on := 23, ground := Ground.guard }], guard := some (23, true) }) (v := ?_) rfl (by kernel_rfl) (by kernel_rfl) (by kernel_rfl) (fun _ _ _ h => h) (Or.inl ⟨by rfl, ?_⟩) (by assumption) ?_
  rotate_left
  · intro w hSw
    try dsimp only at hSw
    go_simp
    all_goals with_reducible rfl
  try simp only [Act.put, List.setIfInBounds_toArray, List.set_cons_zero, List.set_cons_succ]
  refine wpAnyH_take (i := 25) (oi := { dst := some 92, op := Op.binOp BinOp.eql 3 (Operand.tmp 91) (Operand.const (Value.int IntKind.i64 12)) 3, type := 4, pos := "law.go:19", after := #[{ on := 24, ground := Ground.data }, { on := 23, ground := Ground.guard }], guard := some (23, true) }) (v := ?_) rfl (by kernel_rfl) (by kernel_rfl) (by kernel_rfl) (fun _ _ _ h => h) (Or.inl ⟨by rfl, ?_⟩) (by assumption) ?_
  rotate_left
  · intro w hSw
    try dsimp only at hSw
    go_simp
    all_goals with_reducible rfl
  try simp only [Act.put, List.setIfInBounds_toArray, List.set_cons_zero, List.set_cons_succ]
  refine wpAnyH_take (i := 26) (oi := { dst := some 93, op := Op.pick (Operand.tmp 90) (Operand.tmp 92) (Operand.const (Value.bool false)), type := 4, pos := "law.go:19", after := #[{ on := 23, ground := Ground.data }, { on := 25, ground := Ground.data }], guard := none }) (v := ?_) rfl (by kernel_rfl) (by kernel_rfl) (by kernel_rfl) (fun _ _ _ h => h) (Or.inl ⟨by rfl, ?_⟩) (by assumption) ?_
  rotate_left
  · intro w hSw
    try dsimp only at hSw
    go_simp
    all_goals with_reducible rfl
  try simp only [Act.put, List.setIfInBounds_toArray, List.set_cons_zero, List.set_cons_succ]
  refine wpAnyH_take (i := 27) (oi := { dst := some 94, op := Op.move (Operand.tmp 93), type := 4, pos := "law.go:19", after := #[{ on := 26, ground := Ground.data }, { on := 23, ground := Ground.chain }], guard := none }) (v := ?_) rfl (by kernel_rfl) (by kernel_rfl) (by kernel_rfl) (fun _ _ _ h => h) (Or.inl ⟨by rfl, ?_⟩) (by assumption) ?_
  rotate_left
  · intro w hSw
    try dsimp only at hSw
    go_simp
    all_goals with_reducible rfl
  try simp only [Act.put, List.setIfInBounds_toArray, List.set_cons_zero, List.set_cons_succ]
  refine wpAnyH_take (i := 28) (oi := { dst := some 95, op := Op.move (Operand.tmp 7), type := 24, pos := "law.go:19", after := #[{ on := 27, ground := Ground.guard }], guard := some (27, true) }) (v := ?_) rfl (by kernel_rfl) (by kernel_rfl) (by kernel_rfl) (fun _ _ _ h => h) (Or.inl ⟨by rfl, ?_⟩) (by assumption) ?_
  rotate_left
  · intro w hSw
    try dsimp only at hSw
    go_simp
    all_goals with_reducible rfl
  try simp only [Act.put, List.setIfInBounds_toArray, List.set_cons_zero, List.set_cons_succ]
  refine wpAnyH_take (i := 29) (oi := { dst := some 96, op := Op.binOp BinOp.eql 24 (Operand.tmp 95) (Operand.const (Value.int IntKind.i64 0)) 24, type := 4, pos := "law.go:19", after := #[{ on := 28, ground := Ground.data }, { on := 27, ground := Ground.guard }], guard := some (27, true) }) (v := ?_) rfl (by kernel_rfl) (by kernel_rfl) (by kernel_rfl) (fun _ _ _ h => h) (Or.inl ⟨by rfl, ?_⟩) (by assumption) ?_
  rotate_left
  · intro w hSw
    try dsimp only at hSw
    go_simp
    all_goals with_reducible rfl
  try simp only [Act.put, List.setIfInBounds_toArray, List.set_cons_zero, List.set_cons_succ]
  refine wpAnyH_take (i := 30) (oi := { dst := some 97, op := Op.pick (Operand.tmp 94) (Operand.tmp 96) (Operand.const (Value.bool false)), type := 4, pos := "law.go:19", after := #[{ on := 27, ground := Ground.data }, { on := 29, ground := Ground.data }], guard := none }) (v := ?_) rfl (by kernel_rfl) (by kernel_rfl) (by kernel_rfl) (fun _ _ _ h => h) (Or.inl ⟨by rfl, ?_⟩) (by assumption) ?_
  rotate_left
  · intro w hSw
    try dsimp only at hSw
    go_simp
    all_goals with_reducible rfl
  try simp only [Act.put, List.setIfInBounds_toArray, List.set_cons_zero, List.set_cons_succ]
  refine wpAnyH_take (i := 31) (oi := { dst := some 98, op := Op.move (Operand.tmp 97), type := 4, pos := "law.go:19", after := #[{ on := 30, ground := Ground.data }, { on := 27, ground := Ground.chain }], guard := none }) (v := ?_) rfl (by kernel_rfl) (by kernel_rfl) (by kernel_rfl) (fun _ _ _ h => h) (Or.inl ⟨by rfl, ?_⟩) (by assumption) ?_
  rotate_left
  · intro w hSw
    try dsimp only at hSw
    go_simp
    all_goals with_reducible rfl
  try simp only [Act.put, List.setIfInBounds_toArray, List.set_cons_zero, List.set_cons_succ]
  refine wpAnyH_take (i := 32) (oi := { dst := some 99, op := Op.move (Operand.tmp 8), type := 29, pos := "law.go:19", after := #[{ on := 31, ground := Ground.guard }], guard := some (31, true) }) (v := ?_) rfl (by kernel_rfl) (by kernel_rfl) (by kernel_rfl) (fun _ _ _ h => h) (Or.inl ⟨by rfl, ?_⟩) (by assumption) ?_
  rotate_left
  · intro w hSw
    try dsimp only at hSw
    go_simp
    all_goals with_reducible rfl
  try simp only [Act.put, List.setIfInBounds_toArray, List.set_cons_zero, List.set_cons_succ]
  have hbq := hHeld.1
  refine wpAnyH_ready (rs := [33]) (by kernel_rfl) (by simp) ?_
  refine AllReadyH.cons (o := { dst := some 100, op := Op.buildSlice 22 2 #[(0, Operand.const (Value.int IntKind.u8 97)), (1, Operand.const (Value.int IntKind.u8 98))], type := 22, pos := "law.go:19", after := #[{ on := 31, ground := Ground.guard }], guard := some (31, true) }) rfl (fun K hK => ?_) AllReadyH.nil
  go_simp
  refine hK.out _ _ (SZ.out _ (by first | assumption | exact hHeld.1 | exact hHeld.1.alloc hHeld.1.size _ | exact hbq.alloc hbq.size _)) (fun hHeld => ?_)
  clear hK K
  try simp only [Act.put, List.setIfInBounds_toArray, List.set_cons_zero, List.set_cons_succ]
  refine wpAnyH_ready (rs := [34]) (by kernel_rfl) (by simp) ?_
  refine AllReadyH.cons (o := { dst := some 101, op := Op.convert 22 22 (Operand.tmp 100), type := 22, pos := "law.go:19", after := #[{ on := 33, ground := Ground.data }, { on := 31, ground := Ground.guard }], guard := some (31, true) }) rfl (fun K hK => ?_) AllReadyH.nil
  go_simp
  refine hK.out _ _ (SZ.out _ (by first | assumption | exact hHeld.1 | exact hHeld.1.alloc hHeld.1.size _ | exact hbq.alloc hbq.size _)) (fun hHeld => ?_)
  clear hK K
  try simp only [Act.put, List.setIfInBounds_toArray, List.set_cons_zero, List.set_cons_succ]
  refine wpAnyH_ready (rs := [35]) (by kernel_rfl) (by simp) ?_
  refine AllReadyH.cons (o := { dst := some 102, op := Op.buildSlice 29 2 #[(0, Operand.tmp 101), (1, Operand.const (Value.slice none 0 0))], type := 29, pos := "law.go:19", after := #[{ on := 34, ground := Ground.data }, { on := 31, ground := Ground.guard }], guard := some (31, true) }) rfl (fun K hK => ?_) AllReadyH.nil
  go_simp
  refine hK.out _ _ (SZ.out _ (by first | assumption | exact hHeld.1 | exact hHeld.1.alloc hHeld.1.size _ | exact hbq.alloc hbq.size _)) (fun hHeld => ?_)
  clear hK K
  try simp only [Act.put, List.setIfInBounds_toArray, List.set_cons_zero, List.set_cons_succ]
  refine wpAnyH_ready (rs := [36]) (by kernel_rfl) (by simp) ?_
  refine AllReadyH.cons (o := { dst := some 103, op := Op.call { callee := Callee.value (Operand.func 15), args := #[Operand.tmp 99, Operand.tmp 102], argTypes := #[29, 29] }, type := 4, pos := "law.go:19", after := #[{ on := 32, ground := Ground.data }, { on := 35, ground := Ground.data }, { on := 31, ground := Ground.chain }, { on := 31, ground := Ground.guard }], guard := some (31, true) }) rfl (fun K hK => ?_) AllReadyH.nil
  go_simp
  (go_at_call 15; refine Calls.mono (same_true Al 2 nl _ 2 _ _ (by decide) ((HLn.out.below hHeld.1).rowS) (row_lit _)) ?_; rintro e wr ⟨rfl, hX⟩; have hbr := below_via2 hHeld.1 hX; clear hX hHeld)
  go_wp2_with fail
  refine hK.out _ _ (SZ.out _ (by first | assumption | exact hHeld.1 | exact hHeld.1.alloc hHeld.1.size _ | exact hbq.alloc hbq.size _)) (fun hHeld => ?_)
  clear hK K
  try simp only [Act.put, List.setIfInBounds_toArray, List.set_cons_zero, List.set_cons_succ]
  refine wpAnyH_take (i := 37) (oi := { dst := some 104, op := Op.pick (Operand.tmp 98) (Operand.tmp 103) (Operand.const (Value.bool false)), type := 4, pos := "law.go:19", after := #[{ on := 31, ground := Ground.data }, { on := 36, ground := Ground.data }], guard := none }) (v := ?_) rfl (by kernel_rfl) (by kernel_rfl) (by kernel_rfl) (fun _ _ _ h => h) (Or.inl ⟨by rfl, ?_⟩) (by assumption) ?_
  rotate_left
  · intro w hSw
    try dsimp only at hSw
    go_simp
    all_goals with_reducible rfl
  try simp only [Act.put, List.setIfInBounds_toArray, List.set_cons_zero, List.set_cons_succ]
  refine wpAnyH_take (i := 38) (oi := { dst := some 105, op := Op.move (Operand.tmp 104), type := 4, pos := "law.go:19", after := #[{ on := 37, ground := Ground.data }, { on := 36, ground := Ground.chain }], guard := none }) (v := ?_) rfl (by kernel_rfl) (by kernel_rfl) (by kernel_rfl) (fun _ _ _ h => h) (Or.inl ⟨by rfl, ?_⟩) (by assumption) ?_
  rotate_left
  · intro w hSw
    try dsimp only at hSw
    go_simp
    all_goals with_reducible rfl
  try simp only [Act.put, List.setIfInBounds_toArray, List.set_cons_zero, List.set_cons_succ]
  refine wpAnyH_take (i := 39) (oi := { dst := some 106, op := Op.move (Operand.tmp 9), type := 3, pos := "law.go:19", after := #[{ on := 38, ground := Ground.guard }], guard := some (38, true) }) (v := ?_) rfl (by kernel_rfl) (by kernel_rfl) (by kernel_rfl) (fun _ _ _ h => h) (Or.inl ⟨by rfl, ?_⟩) (by assumption) ?_
  rotate_left
  · intro w hSw
    try dsimp only at hSw
    go_simp
    all_goals with_reducible rfl
  try simp only [Act.put, List.setIfInBounds_toArray, List.set_cons_zero, List.set_cons_succ]
  refine wpAnyH_take (i := 40) (oi := { dst := some 107, op := Op.binOp BinOp.eql 3 (Operand.tmp 106) (Operand.const (Value.int IntKind.i64 22)) 3, type := 4, pos := "law.go:19", after := #[{ on := 39, ground := Ground.data }, { on := 38, ground := Ground.guard }], guard := some (38, true) }) (v := ?_) rfl (by kernel_rfl) (by kernel_rfl) (by kernel_rfl) (fun _ _ _ h => h) (Or.inl ⟨by rfl, ?_⟩) (by assumption) ?_
  rotate_left
  · intro w hSw
    try dsimp only at hSw
    go_simp
    all_goals with_reducible rfl
  try simp only [Act.put, List.setIfInBounds_toArray, List.set_cons_zero, List.set_cons_succ]
  refine wpAnyH_take (i := 41) (oi := { dst := some 108, op := Op.pick (Operand.tmp 105) (Operand.tmp 107) (Operand.const (Value.bool false)), type := 4, pos := "law.go:19", after := #[{ on := 38, ground := Ground.data }, { on := 40, ground := Ground.data }], guard := none }) (v := ?_) rfl (by kernel_rfl) (by kernel_rfl) (by kernel_rfl) (fun _ _ _ h => h) (Or.inl ⟨by rfl, ?_⟩) (by assumption) ?_
  rotate_left
  · intro w hSw
    try dsimp only at hSw
    go_simp
    all_goals with_reducible rfl
  try simp only [Act.put, List.setIfInBounds_toArray, List.set_cons_zero, List.set_cons_succ]
  refine wpAnyH_take (i := 42) (oi := { dst := some 109, op := Op.move (Operand.tmp 108), type := 4, pos := "law.go:19", after := #[{ on := 41, ground := Ground.data }, { on := 38, ground := Ground.chain }], guard := none }) (v := ?_) rfl (by kernel_rfl) (by kernel_rfl) (by kernel_rfl) (fun _ _ _ h => h) (Or.inl ⟨by rfl, ?_⟩) (by assumption) ?_
  rotate_left
  · intro w hSw
    try dsimp only at hSw
    go_simp
    all_goals with_reducible rfl
  try simp only [Act.put, List.setIfInBounds_toArray, List.set_cons_zero, List.set_cons_succ]
  refine wpAnyH_take (i := 43) (oi := { dst := some 110, op := Op.move (Operand.tmp 10), type := 24, pos := "law.go:19", after := #[{ on := 42, ground := Ground.guard }], guard := some (42, true) }) (v := ?_) rfl (by kernel_rfl) (by kernel_rfl) (by kernel_rfl) (fun _ _ _ h => h) (Or.inl ⟨by rfl, ?_⟩) (by assumption) ?_
  rotate_left
  · intro w hSw
    try dsimp only at hSw
    go_simp
    all_goals with_reducible rfl
  try simp only [Act.put, List.setIfInBounds_toArray, List.set_cons_zero, List.set_cons_succ]
  refine wpAnyH_take (i := 44) (oi := { dst := some 111, op := Op.binOp BinOp.eql 24 (Operand.tmp 110) (Operand.const (Value.int IntKind.i64 0)) 24, type := 4, pos := "law.go:19", after := #[{ on := 43, ground := Ground.data }, { on := 42, ground := Ground.guard }], guard := some (42, true) }) (v := ?_) rfl (by kernel_rfl) (by kernel_rfl) (by kernel_rfl) (fun _ _ _ h => h) (Or.inl ⟨by rfl, ?_⟩) (by assumption) ?_
  rotate_left
  · intro w hSw
    try dsimp only at hSw
    go_simp
    all_goals with_reducible rfl
  try simp only [Act.put, List.setIfInBounds_toArray, List.set_cons_zero, List.set_cons_succ]
  refine wpAnyH_take (i := 45) (oi := { dst := some 112, op := Op.pick (Operand.tmp 109) (Operand.tmp 111) (Operand.const (Value.bool false)), type := 4, pos := "law.go:19", after := #[{ on := 42, ground := Ground.data }, { on := 44, ground := Ground.data }], guard := none }) (v := ?_) rfl (by kernel_rfl) (by kernel_rfl) (by kernel_rfl) (fun _ _ _ h => h) (Or.inl ⟨by rfl, ?_⟩) (by assumption) ?_
  rotate_left
  · intro w hSw
    try dsimp only at hSw
    go_simp
    all_goals with_reducible rfl
  try simp only [Act.put, List.setIfInBounds_toArray, List.set_cons_zero, List.set_cons_succ]
  refine wpAnyH_take (i := 46) (oi := { dst := some 113, op := Op.move (Operand.tmp 112), type := 4, pos := "law.go:19", after := #[{ on := 45, ground := Ground.data }, { on := 42, ground := Ground.chain }], guard := none }) (v := ?_) rfl (by kernel_rfl) (by kernel_rfl) (by kernel_rfl) (fun _ _ _ h => h) (Or.inl ⟨by rfl, ?_⟩) (by assumption) ?_
  rotate_left
  · intro w hSw
    try dsimp only at hSw
    go_simp
    all_goals with_reducible rfl
  try simp only [Act.put, List.setIfInBounds_toArray, List.set_cons_zero, List.set_cons_succ]
  refine wpAnyH_take (i := 47) (oi := { dst := some 114, op := Op.move (Operand.tmp 11), type := 29, pos := "law.go:19", after := #[{ on := 46, ground := Ground.guard }], guard := some (46, true) }) (v := ?_) rfl (by kernel_rfl) (by kernel_rfl) (by kernel_rfl) (fun _ _ _ h => h) (Or.inl ⟨by rfl, ?_⟩) (by assumption) ?_
  rotate_left
  · intro w hSw
    try dsimp only at hSw
    go_simp
    all_goals with_reducible rfl
  try simp only [Act.put, List.setIfInBounds_toArray, List.set_cons_zero, List.set_cons_succ]
  refine wpAnyH_take (i := 48) (oi := { dst := some 115, op := Op.call { callee := Callee.builtin Builtin.len, args := #[Operand.tmp 114], argTypes := #[29] }, type := 3, pos := "law.go:19", after := #[{ on := 47, ground := Ground.data }, { on := 46, ground := Ground.guard }], guard := some (46, true) }) (v := ?_) rfl (by kernel_rfl) (by kernel_rfl) (by kernel_rfl) (fun _ _ _ h => h) (Or.inl ⟨by rfl, ?_⟩) (by assumption) ?_
  rotate_left
  · intro w hSw
    try dsimp only at hSw
    go_simp
    all_goals with_reducible rfl
  try simp only [Act.put, List.setIfInBounds_toArray, List.set_cons_zero, List.set_cons_succ]
  refine wpAnyH_take (i := 49) (oi := { dst := some 116, op := Op.binOp BinOp.eql 3 (Operand.tmp 115) (Operand.const (Value.int IntKind.i64 1)) 3, type := 4, pos := "law.go:19", after := #[{ on := 48, ground := Ground.data }, { on := 46, ground := Ground.guard }], guard := some (46, true) }) (v := ?_) rfl (by kernel_rfl) (by kernel_rfl) (by kernel_rfl) (fun _ _ _ h => h) (Or.inl ⟨by rfl, ?_⟩) (by assumption) ?_
  rotate_left
  · intro w hSw
    try dsimp only at hSw
    go_simp
    all_goals with_reducible rfl
  try simp only [Act.put, List.setIfInBounds_toArray, List.set_cons_zero, List.set_cons_succ]
  refine wpAnyH_take (i := 50) (oi := { dst := some 117, op := Op.pick (Operand.tmp 113) (Operand.tmp 116) (Operand.const (Value.bool false)), type := 4, pos := "law.go:19", after := #[{ on := 46, ground := Ground.data }, { on := 49, ground := Ground.data }], guard := none }) (v := ?_) rfl (by kernel_rfl) (by kernel_rfl) (by kernel_rfl) (fun _ _ _ h => h) (Or.inl ⟨by rfl, ?_⟩) (by assumption) ?_
  rotate_left
  · intro w hSw
    try dsimp only at hSw
    go_simp
    all_goals with_reducible rfl
  try simp only [Act.put, List.setIfInBounds_toArray, List.set_cons_zero, List.set_cons_succ]
  refine wpAnyH_take (i := 51) (oi := { dst := some 118, op := Op.move (Operand.tmp 117), type := 4, pos := "law.go:19", after := #[{ on := 50, ground := Ground.data }, { on := 46, ground := Ground.chain }], guard := none }) (v := ?_) rfl (by kernel_rfl) (by kernel_rfl) (by kernel_rfl) (fun _ _ _ h => h) (Or.inl ⟨by rfl, ?_⟩) (by assumption) ?_
  rotate_left
  · intro w hSw
    try dsimp only at hSw
    go_simp
    all_goals with_reducible rfl
  try simp only [Act.put, List.setIfInBounds_toArray, List.set_cons_zero, List.set_cons_succ]
  refine wpAnyH_take (i := 52) (oi := { dst := some 119, op := Op.move (Operand.tmp 12), type := 3, pos := "law.go:19", after := #[{ on := 51, ground := Ground.guard }], guard := some (51, true) }) (v := ?_) rfl (by kernel_rfl) (by kernel_rfl) (by kernel_rfl) (fun _ _ _ h => h) (Or.inl ⟨by rfl, ?_⟩) (by assumption) ?_
  rotate_left
  · intro w hSw
    try dsimp only at hSw
    go_simp
    all_goals with_reducible rfl
  try simp only [Act.put, List.setIfInBounds_toArray, List.set_cons_zero, List.set_cons_succ]
  refine wpAnyH_take (i := 53) (oi := { dst := some 120, op := Op.binOp BinOp.eql 3 (Operand.tmp 119) (Operand.const (Value.int IntKind.i64 12)) 3, type := 4, pos := "law.go:19", after := #[{ on := 52, ground := Ground.data }, { on := 51, ground := Ground.guard }], guard := some (51, true) }) (v := ?_) rfl (by kernel_rfl) (by kernel_rfl) (by kernel_rfl) (fun _ _ _ h => h) (Or.inl ⟨by rfl, ?_⟩) (by assumption) ?_
  rotate_left
  · intro w hSw
    try dsimp only at hSw
    go_simp
    all_goals with_reducible rfl
  try simp only [Act.put, List.setIfInBounds_toArray, List.set_cons_zero, List.set_cons_succ]
  refine wpAnyH_take (i := 54) (oi := { dst := some 121, op := Op.pick (Operand.tmp 118) (Operand.tmp 120) (Operand.const (Value.bool false)), type := 4, pos := "law.go:19", after := #[{ on := 51, ground := Ground.data }, { on := 53, ground := Ground.data }], guard := none }) (v := ?_) rfl (by kernel_rfl) (by kernel_rfl) (by kernel_rfl) (fun _ _ _ h => h) (Or.inl ⟨by rfl, ?_⟩) (by assumption) ?_
  rotate_left
  · intro w hSw
    try dsimp only at hSw
    go_simp
    all_goals with_reducible rfl
  try simp only [Act.put, List.setIfInBounds_toArray, List.set_cons_zero, List.set_cons_succ]
  refine wpAnyH_take (i := 55) (oi := { dst := some 122, op := Op.move (Operand.tmp 121), type := 4, pos := "law.go:19", after := #[{ on := 54, ground := Ground.data }, { on := 51, ground := Ground.chain }], guard := none }) (v := ?_) rfl (by kernel_rfl) (by kernel_rfl) (by kernel_rfl) (fun _ _ _ h => h) (Or.inl ⟨by rfl, ?_⟩) (by assumption) ?_
  rotate_left
  · intro w hSw
    try dsimp only at hSw
    go_simp
    all_goals with_reducible rfl
  try simp only [Act.put, List.setIfInBounds_toArray, List.set_cons_zero, List.set_cons_succ]
  refine wpAnyH_take (i := 56) (oi := { dst := some 123, op := Op.move (Operand.tmp 13), type := 24, pos := "law.go:19", after := #[{ on := 55, ground := Ground.guard }], guard := some (55, true) }) (v := ?_) rfl (by kernel_rfl) (by kernel_rfl) (by kernel_rfl) (fun _ _ _ h => h) (Or.inl ⟨by rfl, ?_⟩) (by assumption) ?_
  rotate_left
  · intro w hSw
    try dsimp only at hSw
    go_simp
    all_goals with_reducible rfl
  try simp only [Act.put, List.setIfInBounds_toArray, List.set_cons_zero, List.set_cons_succ]
  refine wpAnyH_take (i := 57) (oi := { dst := some 124, op := Op.binOp BinOp.eql 24 (Operand.tmp 123) (Operand.const (Value.int IntKind.i64 2)) 24, type := 4, pos := "law.go:19", after := #[{ on := 56, ground := Ground.data }, { on := 55, ground := Ground.guard }], guard := some (55, true) }) (v := ?_) rfl (by kernel_rfl) (by kernel_rfl) (by kernel_rfl) (fun _ _ _ h => h) (Or.inl ⟨by rfl, ?_⟩) (by assumption) ?_
  rotate_left
  · intro w hSw
    try dsimp only at hSw
    go_simp
    all_goals with_reducible rfl
  try simp only [Act.put, List.setIfInBounds_toArray, List.set_cons_zero, List.set_cons_succ]
  refine wpAnyH_take (i := 58) (oi := { dst := some 125, op := Op.pick (Operand.tmp 122) (Operand.tmp 124) (Operand.const (Value.bool false)), type := 4, pos := "law.go:19", after := #[{ on := 55, ground := Ground.data }, { on := 57, ground := Ground.data }], guard := none }) (v := ?_) rfl (by kernel_rfl) (by kernel_rfl) (by kernel_rfl) (fun _ _ _ h => h) (Or.inl ⟨by rfl, ?_⟩) (by assumption) ?_
  rotate_left
  · intro w hSw
    try dsimp only at hSw
    go_simp
    all_goals with_reducible rfl
  try simp only [Act.put, List.setIfInBounds_toArray, List.set_cons_zero, List.set_cons_succ]
  refine wpAnyH_take (i := 59) (oi := { dst := some 126, op := Op.move (Operand.tmp 125), type := 4, pos := "law.go:19", after := #[{ on := 58, ground := Ground.data }, { on := 55, ground := Ground.chain }], guard := none }) (v := ?_) rfl (by kernel_rfl) (by kernel_rfl) (by kernel_rfl) (fun _ _ _ h => h) (Or.inl ⟨by rfl, ?_⟩) (by assumption) ?_
  rotate_left
  · intro w hSw
    try dsimp only at hSw
    go_simp
    all_goals with_reducible rfl
  try simp only [Act.put, List.setIfInBounds_toArray, List.set_cons_zero, List.set_cons_succ]
  refine wpAnyH_take (i := 60) (oi := { dst := some 127, op := Op.move (Operand.tmp 16), type := 24, pos := "law.go:19", after := #[{ on := 59, ground := Ground.guard }], guard := some (59, true) }) (v := ?_) rfl (by kernel_rfl) (by kernel_rfl) (by kernel_rfl) (fun _ _ _ h => h) (Or.inl ⟨by rfl, ?_⟩) (by assumption) ?_
  rotate_left
  · intro w hSw
    try dsimp only at hSw
    go_simp
    all_goals with_reducible rfl
  try simp only [Act.put, List.setIfInBounds_toArray, List.set_cons_zero, List.set_cons_succ]
  refine wpAnyH_take (i := 61) (oi := { dst := some 128, op := Op.binOp BinOp.eql 24 (Operand.tmp 127) (Operand.const (Value.int IntKind.i64 2)) 24, type := 4, pos := "law.go:19", after := #[{ on := 60, ground := Ground.data }, { on := 59, ground := Ground.guard }], guard := some (59, true) }) (v := ?_) rfl (by kernel_rfl) (by kernel_rfl) (by kernel_rfl) (fun _ _ _ h => h) (Or.inl ⟨by rfl, ?_⟩) (by assumption) ?_
  rotate_left
  · intro w hSw
    try dsimp only at hSw
    go_simp
    all_goals with_reducible rfl
  try simp only [Act.put, List.setIfInBounds_toArray, List.set_cons_zero, List.set_cons_succ]
  refine wpAnyH_take (i := 62) (oi := { dst := some 129, op := Op.pick (Operand.tmp 126) (Operand.tmp 128) (Operand.const (Value.bool false)), type := 4, pos := "law.go:19", after := #[{ on := 59, ground := Ground.data }, { on := 61, ground := Ground.data }], guard := none }) (v := ?_) rfl (by kernel_rfl) (by kernel_rfl) (by kernel_rfl) (fun _ _ _ h => h) (Or.inl ⟨by rfl, ?_⟩) (by assumption) ?_
  rotate_left
  · intro w hSw
    try dsimp only at hSw
    go_simp
    all_goals with_reducible rfl
  try simp only [Act.put, List.setIfInBounds_toArray, List.set_cons_zero, List.set_cons_succ]
  refine wpAnyH_take (i := 63) (oi := { dst := some 0, op := Op.assign (Operand.tmp 129), type := 4, pos := "law.go:19", after := ([{ on := 62, ground := Ground.data }, { on := 59, ground := Ground.chain }, { on := 0, ground := Ground.phase }, { on := 1, ground := Ground.phase }, { on := 2, ground := Ground.phase }, { on := 3, ground := Ground.phase }, { on := 4, ground := Ground.phase }, { on := 5, ground := Ground.phase }, { on := 6, ground := Ground.phase }, { on := 7, ground := Ground.phase }, { on := 8, ground := Ground.phase }, { on := 9, ground := Ground.phase }, { on := 10, ground := Ground.phase }, { on := 11, ground := Ground.phase }, { on := 12, ground := Ground.phase }, { on := 13, ground := Ground.phase }, { on := 14, ground := Ground.phase }, { on := 15, ground := Ground.phase }, { on := 16, ground := Ground.phase }, { on := 17, ground := Ground.phase }, { on := 18, ground := Ground.phase }, { on := 19, ground := Ground.phase }, { on := 20, ground := Ground.phase }, { on := 21, ground := Ground.phase }, { on := 22, ground := Ground.phase }, { on := 23, ground := Ground.phase }, { on := 24, ground := Ground.phase }, { on := 25, ground := Ground.phase }, { on := 26, ground := Ground.phase }, { on := 27, ground := Ground.phase }, { on := 28, ground := Ground.phase }, { on := 29, ground := Ground.phase }].append [{ on := 30, ground := Ground.phase }, { on := 31, ground := Ground.phase }, { on := 32, ground := Ground.phase }, { on := 33, ground := Ground.phase }, { on := 34, ground := Ground.phase }, { on := 35, ground := Ground.phase }, { on := 36, ground := Ground.phase }, { on := 37, ground := Ground.phase }, { on := 38, ground := Ground.phase }, { on := 39, ground := Ground.phase }, { on := 40, ground := Ground.phase }, { on := 41, ground := Ground.phase }, { on := 42, ground := Ground.phase }, { on := 43, ground := Ground.phase }, { on := 44, ground := Ground.phase }, { on := 45, ground := Ground.phase }, { on := 46, ground := Ground.phase }, { on := 47, ground := Ground.phase }, { on := 48, ground := Ground.phase }, { on := 49, ground := Ground.phase }, { on := 50, ground := Ground.phase }, { on := 51, ground := Ground.phase }, { on := 52, ground := Ground.phase }, { on := 53, ground := Ground.phase }, { on := 54, ground := Ground.phase }, { on := 55, ground := Ground.phase }, { on := 56, ground := Ground.phase }, { on := 57, ground := Ground.phase }, { on := 58, ground := Ground.phase }, { on := 59, ground := Ground.phase }, { on := 60, ground := Ground.phase }, { on := 61, ground := Ground.phase }, { on := 62, ground := Ground.phase }]).toArray, guard := none }) (v := ?_) rfl (by kernel_rfl) (by kernel_rfl) (by kernel_rfl) (fun _ _ _ h => h) (Or.inl ⟨by rfl, ?_⟩) (by assumption) ?_
  rotate_left
  · intro w hSw
    try dsimp only at hSw
    go_simp
    all_goals with_reducible rfl
  try simp only [Act.put, List.setIfInBounds_toArray, List.set_cons_zero, List.set_cons_succ]
  refine wpAnyH_done (by kernel_rfl) ?_ _
  go_wp2_with fail
  go_ret
  exact ⟨rfl, below_via2 HB12.out hHeld.1⟩
end Go.Proofs.Ytckjmbpagippkaa
