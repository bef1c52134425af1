-- Written by a program of this session (wip/tools/myprint.py), over the kit's print.
import Derived.Test.YtkbpkoiihgkkiaaG0
import Derived.Test.YtkbpkoiihgkkiaaG3
import Derived.Test.YtkbpkoiihgkkiaaG5
import Derived.Test.YtkbpkoiihgkkiaaG6
import Derived.Test.YtkbpkoiihgkkiaaSmall02
import Derived.Test.YtkbpkoiihgkkiaaWirePure
namespace Go.Proofs.Ytkbpkoiihgkkiaa.G
open Go.RowKit Go.Proofs.YtkbpkoiihgkkiaaW.PrintWords Go.Proofs.YtkbpkoiihgkkiaaW.PrintLast Go.Proofs.YtkbpkoiihgkkiaaW.PrintMore
attribute [local go_sem] max2_int min2_int max_two min_two max_three min_three max_four min_four   -- for this text's walks alone
set_option linter.unusedVariables false
set_option linter.unusedSimpArgs false

-- BY HAND
-- IMPORT YtkbpkoiihgkkiaaSmall02
-- IMPORT YtkbpkoiihgkkiaaWirePure
def rosettelaw02_WireOnce.f (l0 : List Int) : Option Bool := if l0.length ≤ 140737488351232 ∧ u8s l0 then some true else none
set_option maxRecDepth 100000 in
set_option maxHeartbeats 6000000 in
theorem rosettelaw02_WireOnce.calls (A0 : Option Addr) (c0 : Nat) (l0 : List Int) (r : Bool) (w : World) (hr0 : Kd.C (Kd.int .u8) w A0 l0.length l0) (hc0 : l0.length ≤ c0) (h : rosettelaw02_WireOnce.f l0 = some r) :
    Calls Try.prog 6 #[.slice A0 l0.length c0] w fun e w' => e = .returned (.bool r) ∧ Below w.heap.size w w' := by
  unfold rosettelaw02_WireOnce.f at h
  split at h
  · rename_i hcond
    obtain rfl : true = r := Option.some.inj h
    have HC0 := Aside0.mk hcond
    have HR0 := Aside0.mk (HeldB.low hr0)
    obtain ⟨n, s1, hq⟩ : ∃ n s1, Sc.num ⟨l0, 0⟩ = (n, s1) := ⟨_, _, rfl⟩
    obtain ⟨x, s3, hx⟩ : ∃ x s3, Sc.text ⟨l0, 0⟩ 300 = (x, s3) := ⟨_, _, rfl⟩
    have hn := Sc.num_lt ⟨l0, 0⟩ hcond.2
    have hon := num_once l0 hcond.2
    have hto := text_once l0 hcond.2 300 (by omega)
    have htn := text_none ⟨l0, 0⟩ 300
    have hin : Sc.int ⟨l0, 0⟩ = (zag n, s1) := by unfold Sc.int; rw [hq]
    rw [hq] at hn hon
    rw [hx] at hto htn
    simp only at hn hon hto htn
    have hxl : x.length ≤ 300 ∧ u8s x := by
      by_cases he : s3.e = 0
      · have h1 := hto he
        have h2 := hcond.2
        rw [h1.1] at h2
        exact ⟨by omega, u8s_right (u8s_left h2)⟩
      · rw [htn he]; exact ⟨by simp, u8s_nil⟩
    obtain ⟨R, hR0⟩ : ∃ R, R = putL x.length ++ x := ⟨_, rfl⟩
    have HQ := Aside0.mk hq
    have HRR := Aside0.mk hR0
    clear hR0
    have HX := Aside0.mk hx
    have HN := Aside0.mk hn
    have HON := Aside0.mk hon
    have HTO := Aside0.mk hto
    have HTN := Aside0.mk htn
    have HIN := Aside0.mk hin
    have HXL := Aside0.mk hxl
    clear h hcond hr0 hq hx hn hon hto htn hin hxl
    go_enter Try.func6, Try.ntmps6
    go_wp2_with fail
    refine (small_any _).mono ?_
    rintro e w1 ⟨rfl, hB⟩
    have HB1 : Aside0 (Below w.heap.size w w1) := ⟨hB⟩
    have HR1 := Aside0.mk (HR0.out.below hB)
    clear hB HR0
    go_wp2_with fail
    refine (won _ _ l0 w1 (HR1.out.C (by have := HC0.out.1; omega)) hc0 HC0.out.2 (by have := HC0.out.1; omega)).mono ?_
    rintro e w2 ⟨gs, rfl, hg, hS, hB⟩
    have HB2 : Aside0 (Below w.heap.size w w2) := ⟨HB1.out.trans (hB.mono HB1.out.size)⟩
    have HR2 := Aside0.mk (HR1.out.below hB)
    have HS2 := Aside0.mk hS
    have HG2 := Aside0.mk (show w.heap.size ≤ w1.heap.size ∧ w1.heap.size ≤ gs from ⟨HB1.out.size, hg⟩)
    clear hB hS hg HR1 HB1
    go_wp2_with fail
    refine (won _ _ l0 w2 (HR2.out.C (by have := HC0.out.1; omega)) hc0 HC0.out.2 (by have := HC0.out.1; omega)).mono ?_
    rintro e w3 ⟨gt, rfl, hg, hS, hB⟩
    have HB3 : Aside0 (Below w.heap.size w w3) := ⟨HB2.out.trans (hB.mono HB2.out.size)⟩
    have HR3 := Aside0.mk (HR2.out.below hB)
    have HS3 := Aside0.mk (HS2.out.below hB)
    have HT3 := Aside0.mk hS
    have HG3 := Aside0.mk (show gs < w2.heap.size ∧ w2.heap.size ≤ gt from ⟨HS2.out.lt, hg⟩)
    clear hB hS hg HR2 HB2 HS2
    go_wp2_with fail
    refine (won _ _ l0 w3 (HR3.out.C (by have := HC0.out.1; omega)) hc0 HC0.out.2 (by have := HC0.out.1; omega)).mono ?_
    rintro e w4 ⟨gu, rfl, hg, hS, hB⟩
    have HB4 : Aside0 (Below w.heap.size w w4) := ⟨HB3.out.trans (hB.mono HB3.out.size)⟩
    have HR4 := Aside0.mk (HR3.out.below hB)
    have HS4 := Aside0.mk (HS3.out.below hB)
    have HT4 := Aside0.mk (HT3.out.below hB)
    have HU4 := Aside0.mk hS
    have ORD := Aside0.mk (show w.heap.size ≤ w1.heap.size ∧ w1.heap.size ≤ gs ∧ gs < w2.heap.size ∧ w2.heap.size ≤ gt ∧ gt < w3.heap.size ∧ w3.heap.size ≤ gu from ⟨HG2.out.1, HG2.out.2, HG3.out.1, HG3.out.2, HT3.out.lt, hg⟩)
    clear hB hS hg HR3 HB3 HS3 HT3 HG2 HG3
    by_cases hl3 : l0.length ≤ 300
    · go_wp2_with fail
      have hop := wnum HS4.out
      rw [HQ.out] at hop
      refine hop.mono ?_
      rintro e w5 ⟨rfl, hz, hG⟩
      have ord := ORD.out
      have HB5 : Aside0 (Below w.heap.size w w5) := ⟨below_of_grown HB4.out hG (by omega)⟩
      have HR5 := Aside0.mk (HR4.out.grown hG (by omega))
      have HS5 := Aside0.mk hz
      have HT5 := Aside0.mk (HT4.out.grown hG (by omega) (by omega))
      have HU5 := Aside0.mk (HU4.out.grown hG (by omega) (by omega))
      clear hop hz hG ord HB4 HR4 HS4 HT4 HU4
      go_wp2_with fail
      have hop := wint HT5.out
      rw [HIN.out] at hop
      refine hop.mono ?_
      rintro e w6 ⟨rfl, hz, hG⟩
      have ord := ORD.out
      have HB6 : Aside0 (Below w.heap.size w w6) := ⟨below_of_grown HB5.out hG (by omega)⟩
      have HR6 := Aside0.mk (HR5.out.grown hG (by omega))
      have HS6 := Aside0.mk (HS5.out.grown hG (by omega) (by omega))
      have HT6 := Aside0.mk hz
      have HU6 := Aside0.mk (HU5.out.grown hG (by omega) (by omega))
      clear hop hz hG ord HB5 HR5 HS5 HT5 HU5
      go_wp2_with fail
      have hop := wtext HU6.out 300 (by decide)
      rw [HX.out] at hop
      refine hop.mono ?_
      rintro e w7 ⟨rfl, hz, hG⟩
      have ord := ORD.out
      have HB7 : Aside0 (Below w.heap.size w w7) := ⟨below_of_grown HB6.out hG (by omega)⟩
      have HR7 := Aside0.mk (HR6.out.grown hG (by omega))
      have HS7 := Aside0.mk (HS6.out.grown hG (by omega) (by omega))
      have HT7 := Aside0.mk (HT6.out.grown hG (by omega) (by omega))
      have HU7 := Aside0.mk hz
      clear hop hz hG ord HB6 HR6 HS6 HT6 HU6
      go_wp2_with fail
      refine (wire_Put.calls none 0 [] n (putL n) _ (nil_C _ .u8) (Nat.le_refl _) (put_f [] n HN.out.1 HN.out.2 (by simp))).mono ?_
      rintro e w8 ⟨vp, rfl, hR, hB⟩
      obtain ⟨Ap, np, rfl, hcp, _, hH, _⟩ := held_own hR
      have HB8 : Aside0 (Below w.heap.size w w8) := ⟨HB7.out.trans (hB.mono HB7.out.size)⟩
      have HR8 := Aside0.mk (HR7.out.below hB)
      have HS8 := Aside0.mk (HS7.out.below hB)
      have HT8 := Aside0.mk (HT7.out.below hB)
      have HU8 := Aside0.mk (HU7.out.below hB)
      have HP8 := Aside0.mk hH
      clear hB hR hH HB7 HR7 HS7 HT7 HU7
      go_wp2_with fail
      have hzl := zag_lt n HN.out.1 HN.out.2
      refine (wire_PutInt.calls none 0 [] (zag n) (putL n) _ (nil_C _ .u8) (Nat.le_refl _) (by have := putInt_f [] (zag n) hzl.1 hzl.2 (by simp); rw [zig_zag n HN.out.1] at this; exact this)).mono ?_
      rintro e w9 ⟨vq, rfl, hR, hB⟩
      obtain ⟨Aq, nqq, rfl, hcq, _, hH, _⟩ := held_own hR
      have HB9 : Aside0 (Below w.heap.size w w9) := ⟨HB8.out.trans (hB.mono HB8.out.size)⟩
      have HR9 := Aside0.mk (HR8.out.below hB)
      have HS9 := Aside0.mk (HS8.out.below hB)
      have HT9 := Aside0.mk (HT8.out.below hB)
      have HU9 := Aside0.mk (HU8.out.below hB)
      have HP9 := Aside0.mk (HP8.out.below hB)
      have HQ9 := Aside0.mk hH
      clear hB hR hH hzl HB8 HR8 HS8 HT8 HU8 HP8
      go_wp2_with fail
      refine (wire_PutText.calls none 0 [] (strOfNums x) R _ (nil_C _ .u8) (Nat.le_refl _) (by have := putText_f [] (strOfNums x) (by simp) (by rw [str_size]; have := HXL.out.1; omega); rw [str_size, str_bytes x HXL.out.2] at this; rw [HRR.out]; exact this)).mono ?_
      rintro e w10 ⟨vr, rfl, hR, hB⟩
      obtain ⟨Ar, nr, rfl, hcr, _, hH, _⟩ := held_own hR
      have HB10 : Aside0 (Below w.heap.size w w10) := ⟨HB9.out.trans (hB.mono HB9.out.size)⟩
      have HR10 := Aside0.mk (HR9.out.below hB)
      have HS10 := Aside0.mk (HS9.out.below hB)
      have HT10 := Aside0.mk (HT9.out.below hB)
      have HU10 := Aside0.mk (HU9.out.below hB)
      have HP10 := Aside0.mk (HP9.out.below hB)
      have HQ10 := Aside0.mk (HQ9.out.below hB)
      have HX10 := Aside0.mk hH
      clear hB hR hH HB9 HR9 HS9 HT9 HU9 HP9 HQ9
      go_wp2_with fail
      obtain ⟨rest, e⟩ := s1
      obtain ⟨rest3, e3⟩ := s3
      by_cases he : e = 0
      · subst he
        have hone := HON.out rfl
        simp only at hone
        generalize hpp : putL n = p at *
        have hpl : p.length ≤ 10 := by rw [← hpp]; exact putL_len n
        have hlen : l0.length = p.length + rest.length := by rw [hone, List.length_append]
        have HRP : HeldB w10 (fun k => k < w.heap.size) A0 p := by have := HR10.out; rw [hone] at this; exact this.take
        have c1 := strq HP10.out (by omega) np
        have c2 := strq HQ10.out (by omega) nqq
        have c3 := strq HRP (by omega) c0
        have hpc : p.length ≤ c0 := by omega
        have d1 : decide (l0.length < p.length) = false := decide_eq_false (by omega)
        have d2 : ((p.length : Int) != IntKind.i64.wrap ((l0.length : Int) - rest.length)) = false := by rw [show IntKind.i64.wrap ((l0.length : Int) - rest.length) = (p.length : Int) by rw [IntKind.wrap_i64]; omega]; simp
        have HLEN := Aside0.mk hlen
        clear hone hpp HRP hlen
        go_quiet (first | (go_at_call 27; first | exact werrq HS10.out _ | exact werrq HT10.out _) | (go_at_call 26; exact wleftq HS10.out _))
        clear c1 c2 c3 d1 d2
        go_wp2_with fail
        have HS11 := Aside0.mk (HS10.out.drewN nq)
        have HT11 := Aside0.mk (HT10.out.drewN nq)
        have HU11 := Aside0.mk (HU10.out.drewN nq)
        have HX11 := Aside0.mk (HX10.out.below (pw_below_drewN (Below.refl _ _) nq))
        have HR11 := Aside0.mk (HR10.out.below (pw_below_drewN (Below.refl _ _) nq))
        have HB11 : Aside0 (Below w.heap.size w (w10.drewN nq)) := ⟨pw_below_drewN HB10.out nq⟩
        generalize w10.drewN nq = w11 at HS11 HT11 HU11 HX11 HR11 HB11 ⊢
        clear HS10 HT10 HU10 HX10 HR10 HB10 HP10 HQ10
        by_cases he3 : e3 = 0
        · subst he3
          have hto := HTO.out rfl
          rw [← HRR.out] at hto
          have hlen3 : l0.length = R.length + rest3.length := by rw [hto.1, List.length_append]
          have HRX : HeldB w11 (fun k => k < w.heap.size) A0 R := by have := HR11.out; rw [hto.1] at this; exact this.take
          have c4 := strq HX11.out (by omega) nr
          have c5 := strq HRX (by omega) c0
          have hrc : R.length ≤ c0 := by omega
          have d3 : decide (R.length ≤ l0.length) = true := decide_eq_true (by omega)
          have d4 : ((R.length : Int) == IntKind.i64.wrap ((l0.length : Int) - rest3.length)) = true := by rw [show IntKind.i64.wrap ((l0.length : Int) - rest3.length) = (R.length : Int) by rw [IntKind.wrap_i64]; omega]; simp
          clear hto HRX hlen3
          go_quiet (first | (go_at_call 27; first | exact werrq HS11.out _ | exact werrq HT11.out _ | exact werrq HU11.out _) | (go_at_call 26; exact wleftq HU11.out _))
          go_wp2
          go_ret
          exact ⟨rfl, pw_below_drewN HB11.out _⟩
        · have hx0 := HTN.out he3
          subst hx0
          have hs2 : strOfNums [] = ⟨#[]⟩ := rfl
          have d5 : (e3 == 0) = false := beq_eq_false_iff_ne.2 he3
          have d6 : (e3 != 0) = true := bne_iff_ne.2 he3
          go_quiet (first | (go_at_call 27; first | exact werrq HS11.out _ | exact werrq HT11.out _ | exact werrq HU11.out _) | (go_at_call 26; exact wleftq HU11.out _))
          go_wp2
          go_ret
          exact ⟨rfl, pw_below_drewN HB11.out _⟩
      · have d1 : (e == 0) = false := beq_eq_false_iff_ne.2 he
        have d2 : (e != 0) = true := bne_iff_ne.2 he
        go_quiet (first | (go_at_call 27; first | exact werrq HS10.out _ | exact werrq HT10.out _) | (go_at_call 26; exact wleftq HS10.out _))
        go_wp2_with fail
        have HS11 := Aside0.mk (HS10.out.drewN nq)
        have HT11 := Aside0.mk (HT10.out.drewN nq)
        have HU11 := Aside0.mk (HU10.out.drewN nq)
        have HX11 := Aside0.mk (HX10.out.below (pw_below_drewN (Below.refl _ _) nq))
        have HR11 := Aside0.mk (HR10.out.below (pw_below_drewN (Below.refl _ _) nq))
        have HB11 : Aside0 (Below w.heap.size w (w10.drewN nq)) := ⟨pw_below_drewN HB10.out nq⟩
        generalize w10.drewN nq = w11 at HS11 HT11 HU11 HX11 HR11 HB11 ⊢
        clear HS10 HT10 HU10 HX10 HR10 HB10 HP10 HQ10
        by_cases he3 : e3 = 0
        · subst he3
          have hto := HTO.out rfl
          rw [← HRR.out] at hto
          have hlen3 : l0.length = R.length + rest3.length := by rw [hto.1, List.length_append]
          have HRX : HeldB w11 (fun k => k < w.heap.size) A0 R := by have := HR11.out; rw [hto.1] at this; exact this.take
          have c4 := strq HX11.out (by omega) nr
          have c5 := strq HRX (by omega) c0
          have hrc : R.length ≤ c0 := by omega
          have d3 : decide (R.length ≤ l0.length) = true := decide_eq_true (by omega)
          have d4 : ((R.length : Int) == IntKind.i64.wrap ((l0.length : Int) - rest3.length)) = true := by rw [show IntKind.i64.wrap ((l0.length : Int) - rest3.length) = (R.length : Int) by rw [IntKind.wrap_i64]; omega]; simp
          clear hto HRX hlen3
          go_quiet (first | (go_at_call 27; first | exact werrq HS11.out _ | exact werrq HT11.out _ | exact werrq HU11.out _) | (go_at_call 26; exact wleftq HU11.out _))
          go_wp2
          go_ret
          exact ⟨rfl, pw_below_drewN HB11.out _⟩
        · have hx0 := HTN.out he3
          subst hx0
          have hs2 : strOfNums [] = ⟨#[]⟩ := rfl
          have d5 : (e3 == 0) = false := beq_eq_false_iff_ne.2 he3
          have d6 : (e3 != 0) = true := bne_iff_ne.2 he3
          go_quiet (first | (go_at_call 27; first | exact werrq HS11.out _ | exact werrq HT11.out _ | exact werrq HU11.out _) | (go_at_call 26; exact wleftq HU11.out _))
          go_wp2
          go_ret
          exact ⟨rfl, pw_below_drewN HB11.out _⟩
    · go_wp2
      go_ret
      exact ⟨rfl, HB4.out⟩
  · cases h

/-- THE ONE PURE STATEMENT of rosettelaw02_WireOnce: yours. -/
def rosettelaw02_WireOnce.Pure : Prop := ∀ (l0 : List Int), l0.length ≤ maxLen → l0.length * 1 ≤ 140737488351232 → (∀ x ∈ l0, (Lit.int .u8 x).wf = true) → rosettelaw02_WireOnce.f l0 = some true
theorem rosettelaw02_WireOnce.walk (P : rosettelaw02_WireOnce.Pure) (a0 : Option Addr) (len0 cap0 : Nat) (z0 : List Int) (w : World) (w0 : (a0 = none ∧ len0 = 0 ∧ cap0 = 0 ∧ z0 = []) ∨ ∃ x, a0 = some x ∧ len0 ≤ cap0 ∧ cap0 ≤ maxLen ∧ z0.length = cap0 ∧ (∀ i, i < z0.length → w.cell? (x.add i) = some (.int .u8 (z0.getD i 0))) ∧ ∀ n ∈ z0, (Lit.int .u8 n).wf = true) (y0 : len0 * 1 ≤ 140737488351232) :
    Calls Try.prog 6 #[.slice a0 len0 cap0] w fun e w' => e = .returned (.bool true) ∧ Below w.heap.size w w' := by
  obtain ⟨l0, rfl, hr0, hm0, hw0, hc0⟩ := ReadsInt.ofRowC w0
  have h := P l0 hm0 y0 hw0
  refine (rosettelaw02_WireOnce.calls _ _ l0 true w (Kd.C_of_reads (d := (0 : Int)) (h1 := fun _ => rfl) hr0) hc0 h).mono ?_
  rintro e w' ⟨rfl, hd⟩
  exact ⟨rfl, hd⟩

end Go.Proofs.Ytkbpkoiihgkkiaa.G
