import Derived.Test.YtiodpbenjbdcfaaProg
import Derived.Test.YtiodpbenjbdcfaaScan
set_option linter.unusedVariables false
set_option linter.unusedSimpArgs false
namespace Go.Proofs.Ytiodpbenjbdcfaa
open Go.RowKit Go.Proofs.YtiodpbenjbdcfaaW.PrintWords Go.Proofs.YtiodpbenjbdcfaaW.PrintLast Go.Proofs.YtiodpbenjbdcfaaW.PrintMore

/-! ### the reference's Scan: its methods -/
set_option maxRecDepth 100000 in
set_option maxHeartbeats 400000 in
theorem rfail {S : Nat → Prop} {w : World} {g : Nat} {s : Sc} (h : Scn 37 S w g s) (e : Int) (he : -9223372036854775808 ≤ e ∧ e < 9223372036854775808) :
    Calls Try.prog 36 #[.pointer (some ⟨g, 0, none⟩), .int .i64 e] w fun r w' => r = .returned (.tuple #[]) ∧ Scn 37 S w' g (s.fail e) ∧ w.grownBy w' (some g) := by
  obtain ⟨A, c, hb, hc, hc2, hh, c0, c1, f0, f1⟩ := h.cells
  have HB := Aside0.mk hb
  have HH := Aside0.mk hh
  have H := Aside0.mk h
  clear hb hh h
  by_cases e0 : e = 0
  · subst e0
    go_enter Try.func36, Try.ntmps36
    go_wp2
    exact bodyPost_ret (v := .tuple #[]) (by simp [results, Try.results36, go_sem]) rfl ⟨rfl, by simpa [Sc.fail] using H.out, grown_refl _ _⟩
  · have b0 : (e == 0) = false := beq_eq_false_iff_ne.2 e0
    have b1 : (e != 0) = true := bne_iff_ne.2 e0
    by_cases s0 : s.e = 0
    · have d0 : (s.e == 0) = true := beq_iff_eq.2 s0
      have S0 := Aside0.mk s0
      have E0 := Aside0.mk e0
      clear s0 e0
      go_enter Try.func36, Try.ntmps36
      go_wp2
      go_end0
      refine ⟨rfl, ?_, grown_trans (grown_set _ _ _ _) (grown_set _ _ _ _)⟩
      have := H.out.failed e he
      simpa [Sc.fail, E0.out, S0.out] using this
    · have d0 : (s.e == 0) = false := beq_eq_false_iff_ne.2 s0
      have S0 := Aside0.mk s0
      have E0 := Aside0.mk e0
      clear s0 e0
      go_enter Try.func36, Try.ntmps36
      go_wp2
      go_end0
      refine ⟨rfl, ?_, grown_set _ _ _ _⟩
      have := H.out.emptied
      simpa [Sc.fail, E0.out, S0.out] using this

set_option maxRecDepth 100000 in
set_option maxHeartbeats 1000000 in
theorem rnum {S : Nat → Prop} {w : World} {g : Nat} {s : Sc} (h : Scn 37 S w g s) :
    Calls Try.prog 47 #[.pointer (some ⟨g, 0, none⟩)] w fun r w' => r = .returned (.int .u64 s.num.1) ∧ Scn 37 S w' g s.num.2 ∧ w.grownBy w' (some g) := by
  obtain ⟨A, c, hb, hc, hc2, hh, c0, c1, f0, f1⟩ := h.cells
  have HB := Aside0.mk hb
  have HH := Aside0.mk hh
  have H := Aside0.mk h
  clear hb hh h
  by_cases s0 : s.e = 0
  · have d0 : (s.e != 0) = false := by simp [s0]
    have S0 := Aside0.mk s0
    clear s0
    go_enter Try.func47, Try.ntmps47
    go_wp2_with fail
    go_loop [3, 4, 5] (fun n u i => ∃ (k : Nat) (nn un : Int), k ≤ 9 ∧ i = .int .i64 k ∧ n = .int .u64 nn ∧ u = .int .u64 un ∧ Aside0 (un = 128 ^ k) ∧ Aside0 (0 ≤ nn ∧ nn < 128 ^ k) ∧ k ≤ s.l.length ∧ Aside0 (numGo s (10 - k) k nn = s.num)) (fun _ _ i => 10 - (intOf i).toNat)
    case atStart => exact ⟨0, 0, 1, by omega, rfl, rfl, rfl, ⟨by simp⟩, ⟨by simp⟩, by omega, ⟨by simp [Sc.num, S0.out]⟩⟩
    case round =>
      obtain ⟨k, nn, un, hk, rfl, rfl, rfl, HUN, HN, hkl, HG⟩ := hrel
      by_cases hlen : k = s.l.length
      · have b1 : ((k : Int) == (s.l.length : Int)) = true := by simp [hlen]
        go_wp2_with (go_at_call 36; refine (rfail H.out 2 (by omega)).mono ?_; rintro r w' ⟨rfl, hs', hg'⟩)
        go_ret
        refine ⟨?_, ?_, hg'⟩
        · rw [← HG.out, show 10 - k = (9 - k) + 1 by omega, numGo, if_pos hlen]; rfl
        · rw [← HG.out, show 10 - k = (9 - k) + 1 by omega, numGo, if_pos hlen]; exact hs'
      · have hlt : k < s.l.length := by omega
        have b1 : decide (s.l.length ≤ k) = false := by simp; omega
        obtain ⟨ad, hA, hS, hcell⟩ := HH.out (by omega)
        subst hA
        have hck := hcell k hlt
        obtain ⟨hc0, hc256⟩ := rd_u8 H.out.u8 k hlt
        have HCELL := Aside0.mk hcell
        clear hcell
        generalize hcc : rd s.l k = cc at hck hc0 hc256
        have HCC := Aside0.mk hcc
        clear hcc
        by_cases bad : (k = 9 ∧ cc ≠ 1) ∨ (0 < k ∧ cc = 0)
        · have fin : numGo s (10 - k) k nn = (0, s.fail 3) := by rw [show 10 - k = (9 - k) + 1 by omega, numGo, if_neg hlen, HCC.out, if_pos bad]
          have HF := Aside0.mk fin
          clear fin
          have hfail : ∀ w', Scn 37 S w' g (s.fail 3) → w.grownBy w' (some g) → Scn 37 S w' g s.num.2 ∧ w.grownBy w' (some g) := fun w' h1 h2 => ⟨by rw [← HG.out, HF.out]; exact h1, h2⟩
          have hz : s.num.1 = 0 := by rw [← HG.out, HF.out]
          have HZ := Aside0.mk hz
          clear hz
          by_cases k9 : k = 9
          · have b3 : ((k : Int) == 9) = true := by rw [beq_iff_eq]; omega
            have b2 : (cc != 1) = true := by rw [bne_iff_ne]; omega
            clear k9 bad
            go_wp2_with (go_at_call 36; refine (rfail H.out 3 (by omega)).mono ?_; rintro r w' ⟨rfl, hs', hg'⟩)
            go_ret
            exact ⟨by rw [HZ.out]; rfl, hfail _ hs' hg'⟩
          · have b3 : ((k : Int) == 9) = false := by rw [beq_eq_false_iff_ne]; omega
            have b4 : (cc == 0) = true := by rw [beq_iff_eq]; omega
            have hk0 : 0 < k := by omega
            clear k9 bad
            go_wp2_with (go_at_call 36; refine (rfail H.out 3 (by omega)).mono ?_; rintro r w' ⟨rfl, hs', hg'⟩)
            go_ret
            exact ⟨by rw [HZ.out]; rfl, hfail _ hs' hg'⟩
        · have good : numGo s (10 - k) k nn = if cc < 128 then (nn + cc % 128 * 128 ^ k, ⟨s.l.drop (k + 1), s.e⟩) else numGo s (9 - k) (k + 1) (nn + cc % 128 * 128 ^ k) := by
            rw [show 10 - k = (9 - k) + 1 by omega, numGo, if_neg hlen, HCC.out, if_neg bad]
          have HGOOD := Aside0.mk good
          clear good
          have tests : (((k : Int) == 9) = true ∧ (cc != 1) = false ∧ decide (0 < (k : Int)) = true ∧ (cc == 0) = false) ∨ (((k : Int) == 9) = false ∧ decide (0 < (k : Int)) = true ∧ (cc == 0) = false) ∨ (((k : Int) == 9) = false ∧ decide (0 < k) = false) := by
            simp only [beq_iff_eq, beq_eq_false_iff_ne, bne_eq_false_iff_eq, decide_eq_true_eq, decide_eq_false_iff_not]
            omega
          have h9 : k = 9 → cc = 1 := by omega
          have hv := Aside0.mk (num_valR k nn un cc HUN.out hk HN.out.1 HN.out.2 hc0 hc256 h9)
          clear h9 bad hlen
          by_cases hs : cc < 128
          · have hfin : s.num = (nn + cc % 128 * 128 ^ k, ⟨s.l.drop (k + 1), s.e⟩) := by rw [← HG.out, HGOOD.out, if_pos hs]
            have HFIN := Aside0.mk hfin
            clear hfin
            have hend : ∀ (v : Value) (w' : World), v = .int .u64 (IntKind.u64.wrap (nn + IntKind.u64.wrap (un * IntKind.u64.wrap (bits .and .u8 cc 127)))) → Scn 37 S w' g ⟨s.l.drop (k + 1), s.e⟩ → w.grownBy w' (some g) →
                Ending.returned v = .returned (.int .u64 s.num.1) ∧ Scn 37 S w' g s.num.2 ∧ w.grownBy w' (some g) := fun v w' h1 h2 h3 => by
              rw [HFIN.out, h1, hv.out.1]; exact ⟨rfl, h2, h3⟩
            have HEND := Aside0.mk hend
            clear hend
            rcases tests with ⟨t1, t2, t3, t4⟩ | ⟨t1, t3, t4⟩ | ⟨t1, t3⟩
            all_goals
              go_wp2_with fail
              all_goals go_ret
              all_goals first
                | exact HEND.out _ _ rfl (H.out.dropped_b (k + 1) (by omega) HB.out hc hc2 HH.out rfl) (grown_set _ _ _ _)
                | exact HEND.out _ _ rfl (H.out.dropped_b (k + 1) (by omega) HB.out hc hc2 HH.out (by first | assumption | omega)) (grown_set _ _ _ _)
                | exact HEND.out _ _ rfl (by rw [← add_pos _ _ (by omega)]; exact H.out.dropped_a (k + 1) (by omega) HB.out hc hc2 HH.out (by first | assumption | omega)) (grown_set _ _ _ _)
          · have hgo : numGo s (10 - (k + 1)) (k + 1) (nn + cc % 128 * 128 ^ k) = s.num := by rw [← HG.out, HGOOD.out, if_neg hs, show 10 - (k + 1) = 9 - k by omega]
            have HGO := Aside0.mk hgo
            clear hgo
            have hk9 : k < 9 := by
              rcases tests with ⟨t1, t2, t3, t4⟩ | ⟨t1, t3, t4⟩ | ⟨t1, t3⟩
              · rw [bne_eq_false_iff_eq] at t2; omega
              · rw [beq_eq_false_iff_ne] at t1; omega
              · rw [beq_eq_false_iff_ne] at t1; omega
            rcases tests with ⟨t1, t2, t3, t4⟩ | ⟨t1, t3, t4⟩ | ⟨t1, t3⟩
            · rw [beq_iff_eq] at t1; omega
            all_goals
              go_wp2_with fail
              all_goals (refine ⟨⟨k + 1, nn + cc % 128 * 128 ^ k, 128 ^ (k + 1), by omega, by go_num, by rw [hv.out.1], by rw [unit_next k un HUN.out hk9], ⟨rfl⟩, ⟨hv.out.2.1, hv.out.2.2.1⟩, by omega, HGO⟩, ?_⟩; simp [intOf]; omega)
  · have d0 : (s.e != 0) = true := by simpa using s0
    have S0 := Aside0.mk s0
    clear s0
    go_enter Try.func47, Try.ntmps47
    go_wp2_with fail
    go_ret
    exact ⟨by simp [Sc.num, S0.out], by simpa [Sc.num, S0.out] using H.out, grown_refl _ _⟩

set_option maxRecDepth 100000 in
set_option maxHeartbeats 1000000 in
theorem rupto {S : Nat → Prop} {w : World} {g : Nat} {s : Sc} (h : Scn 37 S w g s) (most : Int) (hm : -9223372036854775808 ≤ most ∧ most < 9223372036854775808) :
    Calls Try.prog 35 #[.pointer (some ⟨g, 0, none⟩), .int .i64 most] w fun r w' => r = .returned (.int .i64 (s.upto most).1) ∧ Scn 37 S w' g (s.upto most).2 ∧ w.grownBy w' (some g) := by
  have hn := Sc.num_lt s h.u8
  go_enter Try.func35, Try.ntmps35
  go_wp2_with fail
  refine (rnum h).mono ?_
  rintro r w1 ⟨rfl, h1, hg1⟩
  generalize hnum : s.num.1 = n
  obtain ⟨A, c, hb, hc, hc2, hh, c0, c1, f0, f1⟩ := h1.cells
  clear hb hh
  have H1 := Aside0.mk h1
  clear h1 h
  have hup : s.upto most = if s.num.2.e = 0 ∧ (most < 0 ∨ most < s.num.1) then (0, s.num.2.fail 4) else (wrap64 s.num.1, s.num.2) := rfl
  have HUP := Aside0.mk hup
  clear hup
  rw [hnum] at hn HUP
  generalize hs1 : s.num.2 = s1 at H1 HUP c0 c1 hc
  have HNUM := Aside0.mk hnum
  have HS1 := Aside0.mk hs1
  clear hnum hs1
  by_cases e0 : s1.e = 0
  · have b0 : (s1.e == 0) = true := by simp [e0]
    have E0 := Aside0.mk e0
    clear e0
    by_cases m0 : most < 0
    · have hres : s.upto most = (0, s1.fail 4) := by rw [HUP.out, if_pos ⟨E0.out, .inl m0⟩]
      have HRES := Aside0.mk hres
      clear hres
      go_wp2_with (go_at_call 36; refine (rfail H1.out 4 (by omega)).mono ?_; rintro r w' ⟨rfl, hs', hg'⟩)
      go_ret
      exact ⟨by rw [HRES.out]; rfl, by rw [HRES.out]; exact hs', grown_trans hg1 hg'⟩
    · have m1 : 0 ≤ most := by omega
      have hwm : IntKind.u64.wrap most = most := by rw [IntKind.wrap_u64]; omega
      have d0 : decide (most < 0) = false := decide_eq_false m0
      by_cases n0 : most < n
      · have hres : s.upto most = (0, s1.fail 4) := by rw [HUP.out, if_pos ⟨E0.out, .inr n0⟩]
        have HRES := Aside0.mk hres
        clear hres
        go_wp2_with (go_at_call 36; refine (rfail H1.out 4 (by omega)).mono ?_; rintro r w' ⟨rfl, hs', hg'⟩)
        go_ret
        exact ⟨by rw [HRES.out]; rfl, by rw [HRES.out]; exact hs', grown_trans hg1 hg'⟩
      · have hwn : wrap64 n = n := by unfold wrap64; omega
        have hres : s.upto most = (n, s1) := by rw [HUP.out, if_neg (fun hh => by rcases hh.2 with hh | hh; exact m0 hh; exact n0 hh), hwn]
        have HRES := Aside0.mk hres
        clear hres
        go_wp2_with (go_at_call 36; refine (rfail H1.out 4 (by omega)).mono ?_; rintro r w' ⟨rfl, hs', hg'⟩)
        go_ret
        exact ⟨by rw [HRES.out]; first | rfl | (simp; done), by rw [HRES.out]; exact H1.out, hg1⟩
  · have b0 : (s1.e == 0) = false := by simpa using e0
    have E0 := Aside0.mk e0
    clear e0
    have hres : s.upto most = (wrap64 n, s1) := by rw [HUP.out, if_neg (fun hh => E0.out hh.1)]
    have HRES := Aside0.mk hres
    clear hres
    go_wp2_with (go_at_call 36; refine (rfail H1.out 4 (by omega)).mono ?_; rintro r w' ⟨rfl, hs', hg'⟩)
    go_ret
    exact ⟨by rw [HRES.out]; first | rfl | (simp; done), by rw [HRES.out]; exact H1.out, hg1⟩


set_option maxRecDepth 100000 in
set_option maxHeartbeats 1000000 in
theorem rint {S : Nat → Prop} {w : World} {g : Nat} {s : Sc} (h : Scn 37 S w g s) :
    Calls Try.prog 37 #[.pointer (some ⟨g, 0, none⟩)] w fun r w' => r = .returned (.int .i64 s.int.1) ∧ Scn 37 S w' g s.int.2 ∧ w.grownBy w' (some g) := by
  have hn := Sc.num_lt s h.u8
  go_enter Try.func37, Try.ntmps37
  go_wp2_with fail
  refine (rnum h).mono ?_
  rintro r w1 ⟨rfl, h1, hg1⟩
  have H1 := Aside0.mk h1
  clear h1 h
  have hi : s.int.1 = zag s.num.1 := rfl
  have HI := Aside0.mk hi
  clear hi
  have h2 : s.int.2 = s.num.2 := rfl
  have HI2 := Aside0.mk h2
  clear h2
  generalize s.num.1 = n at hn HI ⊢
  by_cases hodd : n % 2 = 1
  · have b0 : (n % 2 == 1) = true := by simp [hodd]
    have b1 : (n.tmod 2 == 1) = true := by rw [Int.tmod_eq_emod_of_nonneg hn.1]; exact b0
    have hz : zag n = -1 - n / 2 := by unfold zag; rw [if_pos hodd]
    have HZ := Aside0.mk hz
    clear hz hodd
    go_wp2
    go_ret
    exact ⟨by rw [HI.out, HZ.out]; first | rfl | (simp; done), by rw [HI2.out]; exact H1.out, hg1⟩
  · have b0 : (n % 2 == 1) = false := by simpa using hodd
    have b1 : (n.tmod 2 == 1) = false := by rw [Int.tmod_eq_emod_of_nonneg hn.1]; exact b0
    have hz : zag n = n / 2 := by unfold zag; rw [if_neg hodd]
    have HZ := Aside0.mk hz
    clear hz hodd
    go_wp2
    go_ret
    exact ⟨by rw [HI.out, HZ.out]; first | rfl | (simp; done), by rw [HI2.out]; exact H1.out, hg1⟩
set_option maxRecDepth 100000 in
set_option maxHeartbeats 1000000 in
theorem rtext {S : Nat → Prop} {w : World} {g : Nat} {s : Sc} (h : Scn 37 S w g s) (most : Int) (hm : -9223372036854775808 ≤ most ∧ most < 9223372036854775808) :
    Calls Try.prog 38 #[.pointer (some ⟨g, 0, none⟩), .int .i64 most] w fun r w' => r = .returned (.string (strOfNums (s.text most).1)) ∧ Scn 37 S w' g (s.text most).2 ∧ w.grownBy w' (some g) := by
  have hn := Sc.num_lt s h.u8
  have hu := Sc.upto_pos s most hm hn h.err
  go_enter Try.func38, Try.ntmps38
  go_wp2_with fail
  refine (rupto h most hm).mono ?_
  rintro r w1 ⟨rfl, h1, hg1⟩
  obtain ⟨A, c, hb, hc, hc2, hh, c0, c1, f0, f1⟩ := h1.cells
  have H1 := Aside0.mk h1
  have HB := Aside0.mk hb
  have HH := Aside0.mk hh
  have htx : s.text most = if (s.upto most).2.e = 0 then (if (s.upto most).1 > (s.upto most).2.l.length then ([], (s.upto most).2.fail 2) else ((s.upto most).2.l.take (s.upto most).1.toNat, ⟨(s.upto most).2.l.drop (s.upto most).1.toNat, 0⟩)) else ([], (s.upto most).2) := rfl
  have HT := Aside0.mk htx
  clear hb hh h1 h htx
  generalize hnum : (s.upto most).1 = n at hu HT ⊢
  generalize hs1 : (s.upto most).2 = s1 at H1 HB HH HT c0 c1 hc hu
  clear hnum hs1 hn
  obtain ⟨m, rfl⟩ := Int.eq_ofNat_of_zero_le hu.1
  by_cases e0 : s1.e = 0
  · have b0 : (s1.e == 0) = true := by simp [e0]
    have b1 : (s1.e != 0) = false := by simp [e0]
    have E0 := Aside0.mk e0
    clear e0 hu
    by_cases hgt : s1.l.length < m
    · have d0 : decide (s1.l.length < m) = true := decide_eq_true hgt
      have hres : s.text most = ([], s1.fail 2) := by rw [HT.out, if_pos E0.out, if_pos (by omega)]
      have hfe : ((s1.fail 2).e != 0) = true := by simp [Sc.fail, E0.out]
      have HRES := Aside0.mk hres
      clear hres
      go_wp2_with fail
      refine (rfail H1.out 2 (by omega)).mono ?_
      rintro r w' ⟨rfl, hs', hg'⟩
      obtain ⟨A2, c2, hb2, hc_2, hc2_2, hh2, c0_2, c1_2, f0_2, f1_2⟩ := hs'.cells
      have HS := Aside0.mk hs'
      clear hs' hb2 hh2 c0 c1 f0 f1
      go_wp2
      go_ret
      exact ⟨by rw [HRES.out]; rfl, by rw [HRES.out]; exact HS.out, grown_trans hg1 hg'⟩
    · have hle : m ≤ s1.l.length := by omega
      have d0 : decide (s1.l.length < m) = false := decide_eq_false hgt
      have hres : s.text most = (s1.l.take m, ⟨s1.l.drop m, s1.e⟩) := by
        rw [HT.out, if_pos E0.out, if_neg (by omega), Int.toNat_natCast, E0.out]
      have HRES := Aside0.mk hres
      clear hres
      have hcs : (convert 24 9 (.slice A m c)).run Try.prog w1 = .ok (.string (strOfNums (s1.l.take m))) w1 := by
        have hC := HH.out.C (by have := H1.out.short; omega)
        have hT := Kd.C_take hC hle
        rw [List.length_take, Nat.min_eq_left hle] at hT
        exact Kd.C_string (P := Try.prog) (A := A) (c := c) Try.underlying24 Try.underlying5 Try.underlying9 hT
      have HEND : ∀ (W : World), Scn 37 S W g ⟨s1.l.drop m, s1.e⟩ → w1.grownBy W (some g) → Ending.returned (.string (strOfNums (s1.l.take m))) = .returned (.string (strOfNums (s.text most).1)) ∧ Scn 37 S W g (s.text most).2 ∧ w.grownBy W (some g) := fun W h1 h2 => by
        rw [HRES.out]; exact ⟨rfl, h1, grown_trans hg1 h2⟩
      have HE := Aside0.mk HEND
      clear HEND
      go_wp2
      all_goals go_ret
      all_goals first
        | exact HE.out _ (H1.out.dropped_b m hle HB.out hc hc2 HH.out (by assumption)) (grown_set _ _ _ _)
        | exact HE.out _ (H1.out.dropped_b m hle HB.out hc hc2 HH.out rfl) (grown_set _ _ _ _)
        | (refine HE.out _ ?_ (grown_set _ _ _ _); have h_ := H1.out.dropped m hle HB.out hc hc2 HH.out; rw [if_neg (by first | assumption | omega)] at h_; exact h_)
  · have b0 : (s1.e == 0) = false := by simpa using e0
    have b1 : (s1.e != 0) = true := by simpa using e0
    have hres : s.text most = ([], s1) := by rw [HT.out, if_neg e0]
    have HRES := Aside0.mk hres
    clear hres e0 hu
    go_wp2
    go_ret
    exact ⟨by rw [HRES.out]; rfl, by rw [HRES.out]; exact H1.out, hg1⟩
end Go.Proofs.Ytiodpbenjbdcfaa
