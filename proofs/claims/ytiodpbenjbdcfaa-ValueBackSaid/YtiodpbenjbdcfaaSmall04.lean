import Derived.Test.YtiodpbenjbdcfaaOn
import Derived.Test.YtiodpbenjbdcfaaValGet
import Derived.Test.YtiodpbenjbdcfaaGM0
import Derived.Deep.CutRange
set_option linter.unusedVariables false
set_option linter.unusedSimpArgs false
set_option autoImplicit false
namespace Go.Proofs.Ytiodpbenjbdcfaa
open Go.RowKit Go.Proofs.YtiodpbenjbdcfaaW.PrintWords Go.Proofs.YtiodpbenjbdcfaaW.PrintLast Go.Proofs.YtiodpbenjbdcfaaW.PrintMore Go.Proofs.Ytiodpbenjbdcfaa.G

deriving instance DecidableEq for Sc
theorem sm1 : value_Put.f [9] 2 0 ⟨#[97, 98]⟩ = some [9, 2, 2, 97, 98] := by decide +kernel
theorem sm2 : value_Right.f 2 0 ⟨#[97, 98]⟩ = some true := by decide +kernel
theorem sm3 : value_Right.f 0 0 ByteArray.empty = some false := by decide +kernel
theorem sm4 : value_Compare.f 9 2 0 ⟨#[97, 98]⟩ 2 0 ⟨#[98]⟩ = some (-1) := by decide +kernel
theorem sm5 : value_Compare.f 9 3 0 ByteArray.empty 2 0 ⟨#[97, 98]⟩ = some 1 := by decide +kernel
theorem sm6 : value_Compare.f 9 2 0 ⟨#[97, 98]⟩ 2 0 ⟨#[97, 98]⟩ = some 0 := by decide +kernel
theorem sn1 : Sc.val ⟨[2, 2, 97, 98], 0⟩ = (⟨2, 0, ⟨#[97, 98]⟩⟩, ⟨[], 0⟩) := by decide +kernel
theorem sn2 : Sc.val ⟨[0], 0⟩ = (⟨0, 0, ByteArray.empty⟩, ⟨[], 3⟩) := by decide +kernel
theorem drop_C {w : World} {A : Option Addr} {l : List Int} (h : (Kd.int .u8).C w A l.length l) (m : Nat) (hm : m < l.length) : (Kd.int .u8).C w (A.map (·.add m)) (l.length - m) (l.drop m) := by
  obtain ⟨h1, h2, hr⟩ := Kd.reads_of_C (d := (0 : Int)) h
  obtain ⟨ad, rfl, hc⟩ := hr (by omega)
  refine Kd.C_of_reads (d := (0 : Int)) ⟨by simp, by omega, fun h0 => ⟨ad.add m, rfl, fun j hj => ?_⟩⟩
  rw [add_add, hc (m + j) (by omega)]
  congr 2
  simp [List.getD_eq_getElem?_getD]
theorem HeldB.mono {w : World} {S S' : Nat → Prop} {A : Option Addr} {l : List Int} (h : HeldB w S A l) (hS : ∀ k, S k → S' k) : HeldB w S' A l := by
  intro h0
  obtain ⟨ad, h1, h2, h3⟩ := h h0
  exact ⟨ad, h1, hS _ h2, h3⟩
theorem vkeepB {W W' : World} {b : Nat} {o : Obj} (h : W.heap[b]? = some o) (hB : Below W.heap.size W W') : W'.heap[b]? = some o := by rw [hB.block _ (lt_of_heap h)]; exact h
theorem vkeepG {W W' : World} {b g : Nat} {o : Obj} (h : W.heap[b]? = some o) (hG : W.grownBy W' (some g)) (hne : b ≠ g) : W'.heap[b]? = some o := by rw [hG.block _ (lt_of_heap h) (fun e => by cases e; exact hne rfl)]; exact h
theorem vcells {W : World} {b T : Nat} {x y z : Value} (h : W.heap[b]? = some (.cells #[x, y, z] T (0, 0))) :
    W.cell? ⟨b, 0, none⟩ = some x ∧ W.cell? ⟨b, 1, none⟩ = some y ∧ W.cell? ⟨b, 2, none⟩ = some z :=
  ⟨by rw [cell_of_row _ _ _ _ _ _ h]; rfl, by rw [cell_of_row _ _ _ _ _ _ h]; rfl, by rw [cell_of_row _ _ _ _ _ _ h]; rfl⟩
set_option maxRecDepth 100000 in
set_option maxHeartbeats 2000000 in
theorem small_any (w : World) : Calls Try.prog 8 #[] w fun e w' => e = .returned (.bool true) ∧ Below w.heap.size w w' := by
  have hva := Aside0.mk (heap_alloc_new w (.cells #[.int .i64 2, .int .i64 0, .string ⟨#[97, 98]⟩] 23))
  have hba := Aside0.mk ((Below.refl w.heap.size w).alloc (Nat.le_refl _) (.cells #[.int .i64 2, .int .i64 0, .string ⟨#[97, 98]⟩] 23))
  go_enter Try.func8, Try.ntmps8
  go_upto_region 2 with fail
  generalize w.alloc (.cells #[.int .i64 2, .int .i64 0, .string ⟨#[97, 98]⟩] 23) = wa at hva hba ⊢
  have hvb := Aside0.mk (vkeepB hva.out ((Below.refl wa.heap.size wa).alloc (Nat.le_refl _) (.cells #[.int .u8 9] 5)))
  obtain ⟨v0, v1, v2⟩ := vcells hvb.out
  go_wp2_with fail
  refine (value_Put.calls _ _ [9] 2 0 ⟨#[97, 98]⟩ _ _ (lit_C wa 5 .u8 [9] (by decide)) (Nat.le_refl _) sm1).mono ?_
  rintro e w1 ⟨x1, rfl, hR1, hB1⟩
  obtain ⟨A1, n1, rfl, hc1, _, hH1, hC1⟩ := held_own hR1
  have HB1 : Aside0 (Below w.heap.size w w1) := ⟨(hba.out.alloc hba.out.size _).trans (hB1.mono (by have := hba.out.size; simp; omega))⟩
  have HV1 := Aside0.mk (vkeepB hvb.out hB1)
  have hlt := lt_of_heap hva.out
  have LO : Aside0 (w.heap.size < wa.heap.size ∧ wa.heap.size < w1.heap.size) := ⟨hlt, by have := hB1.size; simp at this; omega⟩
  have HH1 := Aside0.mk (hH1.mono (S' := fun k => wa.heap.size ≤ k ∧ k < w1.heap.size) (fun k hk => ⟨by have := hk.1; simp at this; omega, hk.2⟩))
  have HC1 := Aside0.mk hC1
  have hn1 : 5 ≤ n1 := hc1
  clear hR1 hB1 hH1 hC1 hvb v0 v1 v2 hva hba hlt
  go_wp2_with fail
  have hD := drop_C HC1.out 1 (by decide)
  refine (won _ _ [2, 2, 97, 98] w1 (by cases A1 <;> exact hD) (by simp; omega) (by decide) (by decide)).mono ?_
  rintro e w2 ⟨gs, rfl, hgs, hS, hB⟩
  have HB2 : Aside0 (Below w.heap.size w w2) := ⟨HB1.out.trans (hB.mono HB1.out.size)⟩
  have HH2 := Aside0.mk (HH1.out.below hB)
  have HV2 := Aside0.mk (vkeepB HV1.out hB)
  have HS2 := Aside0.mk hS
  have HG2 := Aside0.mk hgs
  clear hD hB hS HB1 HC1 HH1 HV1 hgs
  go_wp2_with fail
  refine (won _ _ [0] _ (lit_C w2 5 .u8 [0] (by decide)) (Nat.le_refl _) (by decide) (by decide)).mono ?_
  rintro e w3 ⟨gt, rfl, hgt, hT, hB⟩
  have hB' : Below w2.heap.size w2 w3 := ((Below.refl _ _).alloc (Nat.le_refl _) _).trans (hB.mono (by simp))
  have hgt' : w2.heap.size < gt := by simp at hgt; omega
  have HB3 : Aside0 (Below w.heap.size w w3) := ⟨HB2.out.trans (hB'.mono HB2.out.size)⟩
  have HH3 := Aside0.mk (HH2.out.below hB')
  have HV3 := Aside0.mk (vkeepB HV2.out hB')
  have HS3 := Aside0.mk (HS2.out.below hB')
  have HT3 := Aside0.mk (hT.mono (S' := fun k => w2.heap.size ≤ k ∧ k < gt) (fun k hk => ⟨by have := hk.1; simp at this; omega, hk.2⟩) (by omega))
  have ORD := Aside0.mk (show w.heap.size < wa.heap.size ∧ wa.heap.size < w1.heap.size ∧ w1.heap.size ≤ gs ∧ gs < w2.heap.size ∧ w2.heap.size < gt ∧ gt < w3.heap.size from ⟨LO.out.1, LO.out.2, HG2.out, HS2.out.lt, hgt', HT3.out.lt⟩)
  clear hB hB' hT HB2 HH2 HS2 HV2 hgt hgt' LO HG2
  go_wp2_with fail
  have hop := wget HS3.out
  rw [sn1] at hop
  refine hop.mono ?_
  rintro e w4 ⟨rfl, hx, hG⟩
  simp only [Vl.v]
  have ord := ORD.out
  have hB4 : Below w.heap.size w w4 := below_of_grown HB3.out hG (by omega)
  have hs4 := hG.size
  have hb4 := (Below.refl w4.heap.size w4).alloc (Nat.le_refl _) (.cells #[.int .i64 2, .int .i64 0, .string ⟨#[97, 98]⟩] 23)
  have HB4 := Aside0.mk (hB4.alloc hB4.size (.cells #[.int .i64 2, .int .i64 0, .string ⟨#[97, 98]⟩] 23))
  have HX4 := Aside0.mk (heap_alloc_new w4 (.cells #[.int .i64 2, .int .i64 0, .string ⟨#[97, 98]⟩] 23))
  have HH4 := Aside0.mk ((HH3.out.grown hG (by omega)).below hb4)
  have HV4 := Aside0.mk (vkeepB (vkeepG HV3.out hG (by omega)) hb4)
  have HS4 := Aside0.mk (hx.below hb4)
  have HT4 := Aside0.mk ((HT3.out.grown hG (by omega) (by omega)).below hb4)
  have OR4 := Aside0.mk (show gt < w4.heap.size by omega)
  clear hop hx hG ord HB3 HH3 HS3 HT3 HV3 hB4 hb4 hs4
  go_upto_region 8 with fail
  generalize w4.alloc (.cells #[.int .i64 2, .int .i64 0, .string ⟨#[97, 98]⟩] 23) = w5 at HB4 HX4 HH4 HV4 HS4 HT4 ⊢
  go_wp2_with fail
  have hop := wget HT4.out
  rw [sn2] at hop
  refine hop.mono ?_
  rintro e w6 ⟨rfl, hx, hG⟩
  simp only [Vl.v]
  have ord := ORD.out
  have or4 := OR4.out
  have hs6 := hG.size
  have hlx := lt_of_heap HX4.out
  have hB6 : Below w.heap.size w w6 := below_of_grown HB4.out hG (by omega)
  have hb6 := (Below.refl w6.heap.size w6).alloc (Nat.le_refl _) (.cells #[.int .i64 0, .int .i64 0, .string ByteArray.empty] 23)
  have HB6 := Aside0.mk (hB6.alloc hB6.size (.cells #[.int .i64 0, .int .i64 0, .string ByteArray.empty] 23))
  have HY6 := Aside0.mk (heap_alloc_new w6 (.cells #[.int .i64 0, .int .i64 0, .string ByteArray.empty] 23))
  have HX6 := Aside0.mk (vkeepB (vkeepG HX4.out hG (by omega)) hb6)
  have HH6 := Aside0.mk ((HH4.out.grown hG (by omega)).below hb6)
  have HV6 := Aside0.mk (vkeepB (vkeepG HV4.out hG (by omega)) hb6)
  have HS6 := Aside0.mk ((HS4.out.grown hG (by omega) (by omega)).below hb6)
  have HT6 := Aside0.mk (hx.below hb6)
  clear hop hx hG ord HB4 HH4 HS4 HT4 HV4 HX4 hB6 hb6 hs6 or4 hlx
  go_upto_region 9 with fail
  generalize w6.alloc (.cells #[.int .i64 0, .int .i64 0, .string ByteArray.empty] 23) = w7 at HB6 HY6 HX6 HH6 HV6 HS6 HT6 ⊢
  have hcs : (convert 24 9 (.slice A1 5 n1)).run Try.prog w7 = .ok (.string ⟨#[9, 2, 2, 97, 98]⟩) w7 := Kd.C_string (P := Try.prog) (A := A1) (c := n1) Try.underlying24 Try.underlying5 Try.underlying9 (HH6.out.C (by decide))
  obtain ⟨v0, v1, v2⟩ := vcells HV6.out
  obtain ⟨x0, x1, x2⟩ := vcells HX6.out
  obtain ⟨y0, y1, y2⟩ := vcells HY6.out
  go_wp2_with fail
  have hop := wend HS6.out
  refine hop.mono ?_
  rintro e w8 ⟨rfl, rfl⟩
  clear hop
  go_wp2_with fail
  have hop := werr HT6.out
  refine hop.mono ?_
  rintro e w8 ⟨rfl, rfl⟩
  clear hop
  go_wp2_with fail
  refine (value_Right.calls 2 0 ⟨#[97, 98]⟩ _ _ sm2).mono ?_
  rintro e w8 ⟨rfl, hB⟩
  have HB8 : Aside0 (Below w.heap.size w w8) := ⟨HB6.out.trans (hB.mono HB6.out.size)⟩
  have HV8 := Aside0.mk (vkeepB HV6.out hB)
  clear hB HB6 HV6 v0 v1 v2
  obtain ⟨v0, v1, v2⟩ := vcells HV8.out
  go_wp2_with fail
  refine (value_Right.calls 0 0 ByteArray.empty _ _ sm3).mono ?_
  rintro e w9 ⟨rfl, hB⟩
  have HB9 : Aside0 (Below w.heap.size w w9) := ⟨HB8.out.trans (hB.mono HB8.out.size)⟩
  have HV9 := Aside0.mk (vkeepB HV8.out hB)
  clear hB HB8 HV8 v0 v1 v2
  obtain ⟨v0, v1, v2⟩ := vcells HV9.out
  go_wp2_with fail
  refine (value_Compare.calls 9 2 0 ⟨#[97, 98]⟩ 2 0 ⟨#[98]⟩ _ _ sm4).mono ?_
  rintro e w10 ⟨rfl, hB⟩
  have HB10 : Aside0 (Below w.heap.size w w10) := ⟨HB9.out.trans (hB.mono HB9.out.size)⟩
  have HV10 := Aside0.mk (vkeepB HV9.out hB)
  clear hB HB9 HV9 v0 v1 v2
  obtain ⟨v0, v1, v2⟩ := vcells HV10.out
  go_wp2_with fail
  refine (value_Compare.calls 9 3 0 ByteArray.empty 2 0 ⟨#[97, 98]⟩ _ _ sm5).mono ?_
  rintro e w11 ⟨rfl, hB⟩
  have HB11 : Aside0 (Below w.heap.size w w11) := ⟨HB10.out.trans (hB.mono HB10.out.size)⟩
  have HV11 := Aside0.mk (vkeepB HV10.out hB)
  clear hB HB10 HV10 v0 v1 v2
  obtain ⟨v0, v1, v2⟩ := vcells HV11.out
  go_wp2_with fail
  refine (value_Compare.calls 9 2 0 ⟨#[97, 98]⟩ 2 0 ⟨#[97, 98]⟩ _ _ sm6).mono ?_
  rintro e w12 ⟨rfl, hB⟩
  have HB12 : Aside0 (Below w.heap.size w w12) := ⟨HB11.out.trans (hB.mono HB11.out.size)⟩
  have HV12 := Aside0.mk (vkeepB HV11.out hB)
  clear hB HB11 HV11 v0 v1 v2
  obtain ⟨v0, v1, v2⟩ := vcells HV12.out
  go_wp2_with fail
  go_ret
  exact ⟨rfl, HB12.out⟩
end Go.Proofs.Ytiodpbenjbdcfaa
