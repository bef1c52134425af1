import Derived.Test.YtkbpkoiihgkkiaaOn
import Derived.Test.YtkbpkoiihgkkiaaG5
import Derived.Test.YtkbpkoiihgkkiaaG6
set_option linter.unusedVariables false
set_option linter.unusedSimpArgs false
set_option autoImplicit false
namespace Go.Proofs.Ytkbpkoiihgkkiaa
open Go.RowKit Go.Proofs.YtkbpkoiihgkkiaaW.PrintWords Go.Proofs.YtkbpkoiihgkkiaaW.PrintLast Go.Proofs.YtkbpkoiihgkkiaaW.PrintMore Go.Proofs.Ytkbpkoiihgkkiaa.G

deriving instance DecidableEq for Sc
theorem sm1 : wire_Put.f [9] 300 = some [9, 172, 2] := by decide +kernel
theorem sm2 : wire_PutInt.f [9, 172, 2] (-1) = some [9, 172, 2, 1] := by decide +kernel
theorem sm3 : wire_PutText.f [9, 172, 2, 1] ⟨#[97, 98]⟩ = some [9, 172, 2, 1, 2, 97, 98] := by decide +kernel
theorem sn1 : Sc.num ⟨[172, 2, 1, 2, 97, 98], 0⟩ = (300, ⟨[1, 2, 97, 98], 0⟩) := by decide +kernel
theorem sn2 : Sc.int ⟨[1, 2, 97, 98], 0⟩ = (-1, ⟨[2, 97, 98], 0⟩) := by decide +kernel
theorem sn3 : Sc.text ⟨[2, 97, 98], 0⟩ 2 = ([97, 98], ⟨[], 0⟩) := by decide +kernel
theorem sn4 : Sc.num ⟨[128, 0], 0⟩ = (0, ⟨[], 3⟩) := by decide +kernel
theorem sn5 : Sc.int ⟨[200], 0⟩ = (0, ⟨[], 2⟩) := by decide +kernel
theorem sn6 : Sc.text ⟨[5, 97], 0⟩ 9 = ([], ⟨[], 2⟩) := by decide +kernel
theorem drop_C {w : World} {A : Option Addr} {l : List Int} (h : (Kd.int .u8).C w A l.length l) (m : Nat) (hm : m < l.length) : (Kd.int .u8).C w (A.map (·.add m)) (l.length - m) (l.drop m) := by
  obtain ⟨h1, h2, hr⟩ := Kd.reads_of_C (d := (0 : Int)) h
  obtain ⟨ad, rfl, hc⟩ := hr (by omega)
  refine Kd.C_of_reads (d := (0 : Int)) ⟨by simp, by omega, fun h0 => ⟨ad.add m, rfl, fun j hj => ?_⟩⟩
  rw [add_add, hc (m + j) (by omega)]
  congr 2
  simp [List.getD_eq_getElem?_getD]
set_option maxRecDepth 100000 in
set_option maxHeartbeats 1000000 in
theorem small_any (w : World) : Calls Try.prog 8 #[] w fun e w' => e = .returned (.bool true) ∧ Below w.heap.size w w' := by
  go_enter Try.func8, Try.ntmps8
  go_wp2_with fail
  refine (wire_Put.calls _ _ [9] 300 _ _ (lit_C w 5 .u8 [9] (by decide)) (Nat.le_refl _) sm1).mono ?_
  rintro e w1 ⟨v1, rfl, hR1, hB1⟩
  obtain ⟨A1, n1, rfl, hc1, hC1⟩ := own_C hR1
  have HB1 : Aside0 (Below w.heap.size w w1) := ⟨((Below.refl _ _).alloc (Nat.le_refl _) _).trans (hB1.mono (by simp))⟩
  clear hR1 hB1
  go_wp2_with fail
  refine (wire_PutInt.calls _ _ [9, 172, 2] (-1) _ _ hC1 hc1 sm2).mono ?_
  rintro e w2 ⟨v2, rfl, hR2, hB2⟩
  obtain ⟨A2, n2, rfl, hc2, hC2⟩ := own_C hR2
  have HB2 : Aside0 (Below w.heap.size w w2) := ⟨HB1.out.trans (hB2.mono HB1.out.size)⟩
  clear hR2 hB2 HB1 hC1
  go_wp2_with fail
  refine (wire_PutText.calls _ _ [9, 172, 2, 1] ⟨#[97, 98]⟩ _ _ hC2 hc2 sm3).mono ?_
  rintro e w3 ⟨v3, rfl, hR3, hB3⟩
  obtain ⟨A3, n3, rfl, hc3, _, hH3, hC3⟩ := held_own hR3
  have HB3 : Aside0 (Below w.heap.size w w3) := ⟨HB2.out.trans (hB3.mono HB2.out.size)⟩
  have HC3 := Aside0.mk hC3
  have HH3 := Aside0.mk hH3
  clear hR3 hB3 HB2 hC2 hC3 hH3
  have hn3 : 7 ≤ n3 := hc3
  go_wp2_with fail
  have hD := drop_C HC3.out 1 (by decide)
  refine (won _ _ [172, 2, 1, 2, 97, 98] w3 (by cases A3 <;> exact hD) (by simp; omega) (by decide) (by decide)).mono ?_
  rintro e w4 ⟨gs, rfl, hgs, hS, hB⟩
  have HB4 : Aside0 (Below w.heap.size w w4) := ⟨HB3.out.trans (hB.mono HB3.out.size)⟩
  have HH4 := Aside0.mk (HH3.out.below hB)
  have HS4 := Aside0.mk hS
  have L4 := Aside0.mk (show w.heap.size ≤ w3.heap.size from HB3.out.size)
  have HG4 := Aside0.mk hgs
  clear hD hB hS HB3 HC3 HH3 hgs
  go_wp2_with fail
  refine (won _ _ [128, 0] _ (lit_C w4 5 .u8 [128, 0] (by decide)) (Nat.le_refl _) (by decide) (by decide)).mono ?_
  rintro e w5 ⟨gt, rfl, hgt, hT, hB⟩
  have hB' : Below w4.heap.size w4 w5 := ((Below.refl _ _).alloc (Nat.le_refl _) _).trans (hB.mono (by simp))
  have hgt' : w4.heap.size < gt := by simp at hgt; omega
  have HB5 : Aside0 (Below w.heap.size w w5) := ⟨HB4.out.trans (hB'.mono HB4.out.size)⟩
  have HH5 := Aside0.mk (HH4.out.below hB')
  have HS5 := Aside0.mk (HS4.out.below hB')
  have HT5 := Aside0.mk (hT.mono (S' := fun k => w4.heap.size ≤ k ∧ k < gt) (fun k hk => ⟨by have := hk.1; simp at this; omega, hk.2⟩) (by omega))
  have HG5 := Aside0.mk (show gs < w4.heap.size ∧ w4.heap.size < gt from ⟨HS4.out.lt, hgt'⟩)
  clear hB hB' hT HB4 HH4 HS4 hgt hgt'
  go_wp2_with fail
  refine (won _ _ [200] _ (lit_C w5 5 .u8 [200] (by decide)) (Nat.le_refl _) (by decide) (by decide)).mono ?_
  rintro e w6 ⟨gu, rfl, hgu, hU, hB⟩
  have hB' : Below w5.heap.size w5 w6 := ((Below.refl _ _).alloc (Nat.le_refl _) _).trans (hB.mono (by simp))
  have hgu' : w5.heap.size < gu := by simp at hgu; omega
  have HB6 : Aside0 (Below w.heap.size w w6) := ⟨HB5.out.trans (hB'.mono HB5.out.size)⟩
  have HH6 := Aside0.mk (HH5.out.below hB')
  have HS6 := Aside0.mk (HS5.out.below hB')
  have HT6 := Aside0.mk (HT5.out.below hB')
  have HU6 := Aside0.mk (hU.mono (S' := fun k => w5.heap.size ≤ k ∧ k < gu) (fun k hk => ⟨by have := hk.1; simp at this; omega, hk.2⟩) (by omega))
  have HG6 := Aside0.mk (show gt < w5.heap.size ∧ w5.heap.size < gu from ⟨HT5.out.lt, hgu'⟩)
  clear hB hB' hU HB5 HH5 HS5 HT5 hgu hgu'
  go_wp2_with fail
  refine (won _ _ [5, 97] _ (lit_C w6 5 .u8 [5, 97] (by decide)) (Nat.le_refl _) (by decide) (by decide)).mono ?_
  rintro e w7 ⟨gv, rfl, hgv, hV, hB⟩
  have hB' : Below w6.heap.size w6 w7 := ((Below.refl _ _).alloc (Nat.le_refl _) _).trans (hB.mono (by simp))
  have hgv' : w6.heap.size < gv := by simp at hgv; omega
  have HB7 : Aside0 (Below w.heap.size w w7) := ⟨HB6.out.trans (hB'.mono HB6.out.size)⟩
  have HH7 := Aside0.mk (HH6.out.below hB')
  have HS7 := Aside0.mk (HS6.out.below hB')
  have HT7 := Aside0.mk (HT6.out.below hB')
  have HU7 := Aside0.mk (HU6.out.below hB')
  have HV7 := Aside0.mk (hV.mono (S' := fun k => w6.heap.size ≤ k ∧ k < gv) (fun k hk => ⟨by have := hk.1; simp at this; omega, hk.2⟩) (by omega))
  have HG7 := Aside0.mk (show gu < w6.heap.size ∧ w6.heap.size < gv from ⟨HU6.out.lt, hgv'⟩)
  clear hB hB' hV HB6 HH6 HS6 HT6 HU6 hgv hgv'
  go_wp2_with fail
  have ORD := Aside0.mk (show w.heap.size ≤ w3.heap.size ∧ w3.heap.size ≤ gs ∧ gs < w4.heap.size ∧ w4.heap.size < gt ∧ gt < w5.heap.size ∧ w5.heap.size < gu ∧ gu < w6.heap.size ∧ w6.heap.size < gv from ⟨L4.out, HG4.out, HG5.out.1, HG5.out.2, HG6.out.1, HG6.out.2, HG7.out.1, HG7.out.2⟩)
  clear L4 HG4 HG5 HG6 HG7
  have hop := wnum HS7.out
  rw [sn1] at hop
  refine hop.mono ?_
  rintro e w8 ⟨rfl, hx, hG⟩
  have ord := ORD.out
  have HB8 : Aside0 (Below w.heap.size w w8) := ⟨below_of_grown HB7.out hG (by omega)⟩
  have HH8 := Aside0.mk (HH7.out.grown hG (by omega))
  have HS8 := Aside0.mk hx
  have HT8 := Aside0.mk (HT7.out.grown hG (by omega) (by omega))
  have HU8 := Aside0.mk (HU7.out.grown hG (by omega) (by omega))
  have HV8 := Aside0.mk (HV7.out.grown hG (by omega) (by omega))
  clear hop hx hG ord HB7 HH7 HS7 HT7 HU7 HV7
  go_wp2_with fail
  have hop := wint HS8.out
  rw [sn2] at hop
  refine hop.mono ?_
  rintro e w9 ⟨rfl, hx, hG⟩
  have ord := ORD.out
  have HB9 : Aside0 (Below w.heap.size w w9) := ⟨below_of_grown HB8.out hG (by omega)⟩
  have HH9 := Aside0.mk (HH8.out.grown hG (by omega))
  have HS9 := Aside0.mk hx
  have HT9 := Aside0.mk (HT8.out.grown hG (by omega) (by omega))
  have HU9 := Aside0.mk (HU8.out.grown hG (by omega) (by omega))
  have HV9 := Aside0.mk (HV8.out.grown hG (by omega) (by omega))
  clear hop hx hG ord HB8 HH8 HS8 HT8 HU8 HV8
  go_wp2_with fail
  have hop := wtext HS9.out 2 (by decide)
  rw [sn3] at hop
  refine hop.mono ?_
  rintro e w10 ⟨rfl, hx, hG⟩
  have ord := ORD.out
  have HB10 : Aside0 (Below w.heap.size w w10) := ⟨below_of_grown HB9.out hG (by omega)⟩
  have HH10 := Aside0.mk (HH9.out.grown hG (by omega))
  have HS10 := Aside0.mk hx
  have HT10 := Aside0.mk (HT9.out.grown hG (by omega) (by omega))
  have HU10 := Aside0.mk (HU9.out.grown hG (by omega) (by omega))
  have HV10 := Aside0.mk (HV9.out.grown hG (by omega) (by omega))
  clear hop hx hG ord HB9 HH9 HS9 HT9 HU9 HV9
  go_wp2_with fail
  have hop := wnum HT10.out
  rw [sn4] at hop
  refine hop.mono ?_
  rintro e w11 ⟨rfl, hx, hG⟩
  have ord := ORD.out
  have HB11 : Aside0 (Below w.heap.size w w11) := ⟨below_of_grown HB10.out hG (by omega)⟩
  have HH11 := Aside0.mk (HH10.out.grown hG (by omega))
  have HS11 := Aside0.mk (HS10.out.grown hG (by omega) (by omega))
  have HT11 := Aside0.mk hx
  have HU11 := Aside0.mk (HU10.out.grown hG (by omega) (by omega))
  have HV11 := Aside0.mk (HV10.out.grown hG (by omega) (by omega))
  clear hop hx hG ord HB10 HH10 HS10 HT10 HU10 HV10
  go_wp2_with fail
  have hop := wint HU11.out
  rw [sn5] at hop
  refine hop.mono ?_
  rintro e w12 ⟨rfl, hx, hG⟩
  have ord := ORD.out
  have HB12 : Aside0 (Below w.heap.size w w12) := ⟨below_of_grown HB11.out hG (by omega)⟩
  have HH12 := Aside0.mk (HH11.out.grown hG (by omega))
  have HS12 := Aside0.mk (HS11.out.grown hG (by omega) (by omega))
  have HT12 := Aside0.mk (HT11.out.grown hG (by omega) (by omega))
  have HU12 := Aside0.mk hx
  have HV12 := Aside0.mk (HV11.out.grown hG (by omega) (by omega))
  clear hop hx hG ord HB11 HH11 HS11 HT11 HU11 HV11
  go_wp2_with fail
  have hop := wtext HV12.out 9 (by decide)
  rw [sn6] at hop
  refine hop.mono ?_
  rintro e w13 ⟨rfl, hx, hG⟩
  have ord := ORD.out
  have HB13 : Aside0 (Below w.heap.size w w13) := ⟨below_of_grown HB12.out hG (by omega)⟩
  have HH13 := Aside0.mk (HH12.out.grown hG (by omega))
  have HS13 := Aside0.mk (HS12.out.grown hG (by omega) (by omega))
  have HT13 := Aside0.mk (HT12.out.grown hG (by omega) (by omega))
  have HU13 := Aside0.mk (HU12.out.grown hG (by omega) (by omega))
  have HV13 := Aside0.mk hx
  clear hop hx hG ord HB12 HH12 HS12 HT12 HU12 HV12
  have hC13 := HH13.out.C (by decide)
  have hcs : (convert 22 9 (.slice A3 7 n3)).run Try.prog w13 = .ok (.string ⟨#[9, 172, 2, 1, 2, 97, 98]⟩) w13 := Kd.C_string (P := Try.prog) (A := A3) (c := n3) Try.underlying22 Try.underlying5 Try.underlying9 hC13
  have hs1 : strOfNums [97, 98] = ⟨#[97, 98]⟩ := rfl
  have hs2 : strOfNums [] = ⟨#[]⟩ := rfl
  clear hC13
  go_wp2_with fail
  have hop := wend HS13.out
  refine hop.mono ?_
  rintro e w14 ⟨rfl, rfl⟩
  clear hop
  go_wp2_with fail
  have hop := werr HT13.out
  refine hop.mono ?_
  rintro e w14 ⟨rfl, rfl⟩
  clear hop
  go_wp2_with fail
  have hop := werr HU13.out
  refine hop.mono ?_
  rintro e w14 ⟨rfl, rfl⟩
  clear hop
  go_wp2_with fail
  have hop := werr HV13.out
  refine hop.mono ?_
  rintro e w14 ⟨rfl, rfl⟩
  clear hop
  go_wp2_with fail
  have hop := wleft HV13.out
  refine hop.mono ?_
  rintro e w14 ⟨rfl, rfl⟩
  clear hop
  go_wp2_with fail
  go_ret
  exact ⟨rfl, HB13.out⟩
end Go.Proofs.Ytkbpkoiihgkkiaa
