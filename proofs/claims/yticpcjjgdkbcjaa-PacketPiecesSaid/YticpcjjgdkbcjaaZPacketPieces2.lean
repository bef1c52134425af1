/- The statement PacketPieces over numbers: so many pieces are enough, and one fewer is not. -/
import Derived.Test.YticpcjjgdkbcjaaZPacketPieces1
import Derived.Test.YticpcjjgdkbcjaaZPacketPieces0
import Derived.Deep.CutRange
import Derived.Outline
import Derived.OpenShut
import Derived.Test.YticpcjjgdkbcjaaRows
import Derived.WalkKit
import Derived.ProofKit
import Derived.ShutString
import Derived.ChangeOld
import Derived.Below
import Derived.SizedLaws
section
/- the document's packet.Decode, walked: it tells the same -/
set_option linter.unusedVariables false
set_option linter.unusedSimpArgs false
set_option autoImplicit false
namespace Go.Proofs.Yticpcjjgdkbcjaa
open Go.RowKit Go.Proofs.YticpcjjgdkbcjaaW.PrintWords Go.Proofs.YticpcjjgdkbcjaaW.PrintLast Go.Proofs.YticpcjjgdkbcjaaW.PrintMore Go.Proofs.Yticpcjjgdkbcjaa.G

theorem str_nil (d : List Int) : ((strOfNums d).toList == (strOfNums []).toList) = decide (d.length = 0) := by
  rw [Bool.eq_iff_iff, beq_iff_eq, decide_eq_true_iff, ByteArray.toList_eq, ByteArray.toList_eq]
  constructor
  · intro h
    have h2 := congrArg List.length h
    simpa [strOfNums] using h2
  · intro h
    have : d = [] := List.length_eq_zero_iff.1 h
    rw [this]
theorem rright_pk {K : Nat} (hK : 0 < K) (p : Pk) : rosetteref22_right.f K p.k p.e p.s p.t p.u p.d = some (pkright p) := by
  obtain ⟨K, rfl⟩ : ∃ m, K = m + 1 := ⟨K - 1, by omega⟩
  obtain ⟨k, e, s, t, u, d⟩ := p
  unfold rosetteref22_right.f pkright prB sameB inB
  simp only [rosetteref22_right.j0, str_nil]
  by_cases h0 : e < 0
  · simp [h0, show ¬ 0 ≤ e by omega]
  by_cases h1 : e > 1099511627776
  · simp [h0, h1, show ¬ e ≤ 1099511627776 by omega]
  have g0 : 0 ≤ e := by omega
  have g1 : e ≤ 1099511627776 := by omega
  by_cases k1 : k = 1
  · subst k1
    by_cases s0 : s = 0
    · by_cases d0 : d.length = 0
      · by_cases t1 : 1 ≤ t <;> simp [h0, h1, g0, g1, s0, d0, t1]
      · have d1 : 0 < d.length := by omega
        by_cases t1 : 1 ≤ t <;> simp [h0, h1, g0, g1, s0, d0, d1, t1]
    · simp [h0, h1, g0, g1, s0]
  by_cases k2 : k = 2
  · subst k2
    by_cases t0 : t = 0
    · by_cases u0 : u = 0
      · by_cases s0 : 0 ≤ s
        · by_cases s1 : s ≤ 1048576
          · by_cases d0 : 1 ≤ (d.length : Int) <;> simp [h0, h1, g0, g1, t0, u0, s0, s1, d0]
          · simp [h0, h1, g0, g1, t0, u0, s0, s1]
        · simp [h0, h1, g0, g1, t0, u0, s0]
      · simp [h0, h1, g0, g1, t0, u0]
    · simp [h0, h1, g0, g1, t0]
  by_cases k3 : k = 3
  · subst k3
    by_cases t0 : t = 0
    · by_cases u0 : u = 0
      · by_cases d0 : d.length = 0
        · by_cases s0 : 0 ≤ s <;> simp [h0, h1, g0, g1, t0, u0, s0, d0]
        · have d1 : 0 < d.length := by omega
          simp [h0, h1, g0, g1, t0, u0, d0, d1]
      · simp [h0, h1, g0, g1, t0, u0]
    · simp [h0, h1, g0, g1, t0]
  by_cases k4 : k = 4
  · subst k4
    by_cases t0 : t = 0
    · by_cases u0 : u = 0
      · by_cases s0 : s = 0
        · by_cases d0 : 1 ≤ (d.length : Int) <;> simp [h0, h1, g0, g1, t0, u0, s0, d0]
        · simp [h0, h1, g0, g1, t0, u0, s0]
      · simp [h0, h1, g0, g1, t0, u0]
    · simp [h0, h1, g0, g1, t0]
  simp only [if_neg k1, if_neg k2, if_neg k3, if_neg k4, if_neg h0, if_neg h1]
  by_cases t0 : t = 0 <;> by_cases u0 : u = 0 <;> by_cases s0 : s = 0 <;> by_cases d0 : (d.length : Int) > 0 <;> simp [t0, u0, s0, d0]
set_option maxRecDepth 100000 in
set_option maxHeartbeats 8000000 in
theorem rdecode (K : Nat) (A0 : Option Addr) (c0 : Nat) (l0 : List Int) (x : List Int) (n err : Int) (w : World) (hr0 : (Kd.int .u8).C w A0 l0.length l0) (hc0 : l0.length ≤ c0) (hl0 : l0.length ≤ 9223372036854775807) (hx : u8s x) (hxl : x.length ≤ 140737488355300) (hN : rosetteref03_Next.f K l0 = some (x, n, err)) :
    Calls Try.prog 12 #[.slice A0 l0.length c0] w fun e w' => ∃ A c, e = .returned (.tuple #[.agg ((dec l0.length x n err).1.c A c), .int .i64 (dec l0.length x n err).2]) ∧ HeldT w' (fun k => w.heap.size ≤ k) A (dec l0.length x n err).1.d ∧ (dec l0.length x n err).1.d.length ≤ c ∧ c ≤ 9223372036854775807 ∧ Below w.heap.size w w' := by
  have HR0 := Aside0.mk (HeldB.low hr0)
  have HN := Aside0.mk hN
  have HX := Aside0.mk hx
  have HL := Aside0.mk (And.intro hl0 hxl)
  clear hr0 hN hx hl0 hxl
  have HZ0 := Aside0.mk (heap_alloc_new w (.cells #[.int .i64 0, .int .i64 0, .int .i64 0, .int .i64 0, .int .u32 0, .slice none 0 0] 25 (0, 0)))
  have HB0 := Aside0.mk ((Below.refl w.heap.size w).alloc (Nat.le_refl _) (.cells #[.int .i64 0, .int .i64 0, .int .i64 0, .int .i64 0, .int .u32 0, .slice none 0 0] 25 (0, 0)))
  go_enter Try.func12, Try.ntmps12
  go_wp2_with fail
  generalize w.alloc (.cells #[.int .i64 0, .int .i64 0, .int .i64 0, .int .i64 0, .int .u32 0, .slice none 0 0] 25 (0, 0)) = wa at HZ0 HB0 ⊢
  refine (rosetteref03_Next.calls K A0 c0 l0 x n err _ ((HR0.out.below HB0.out).C HL.out.1) hc0 HN.out).mono ?_
  rintro e w1 ⟨v1, rfl, hR, hX⟩
  obtain ⟨A1, n1, rfl, hc1, hm1, hH1, hC1⟩ := held_own hR
  have HB1 := Aside0.mk (below_via4 HB0.out hX)
  have HZ1 := Aside0.mk (vkeepB HZ0.out hX)
  have HH1 := Aside0.mk hH1
  have HM1 := Aside0.mk hm1
  clear hR hX hH1 hC1 hm1 HR0 HB0 HZ0 HN
  obtain ⟨⟨p0, p1, p2, p3, p4, p5⟩, f0, f1, f2, f3, f4, f5⟩ := cells6 HZ1.out
  by_cases e0 : err = 0
  · subst e0
    by_cases hn : n < (l0.length : Int)
    · have HD : Aside0 (dec l0.length x n 0 = (pk0, 5)) := ⟨by unfold dec; rw [if_neg (by decide), if_pos hn]⟩
      go_wp2
      have hz := put6 HZ1.out HB1.out (Nat.le_refl _) (.int .i64 0) (.int .i64 0) (.int .i64 0) (.int .i64 0) (.int .u32 0) (.slice none 0 0)
      refine bodyPost_ret (results_ct rfl _ _ w.heap.size 25 _ (0, 0) _ rfl hz.1 Try.underlying25 rfl info_pack) rfl ?_
      exact ⟨none, 0, by rw [HD.out]; rfl, by rw [HD.out]; exact HeldT.nil, by rw [HD.out]; simp [pk0], by decide, hz.2.1⟩
    · obtain ⟨s, hs⟩ : ∃ s : Sc, s = ⟨x, 0⟩ := ⟨_, rfl⟩
      have hD : dec l0.length x n 0 = if s.pack.2.endE ≠ 0 then (pk0, s.pack.2.endE) else if pkright s.pack.1 = true then (s.pack.1, 0) else (pk0, 3) := by unfold dec; rw [if_neg (by decide), if_neg hn, hs]
      have HS2 : Aside0 (Scn 54 (fun k => wa.heap.size ≤ k ∧ k < w1.heap.size) (w1.alloc (.cells #[.slice A1 x.length n1, .int .i64 0] 54 (0, 0))) w1.heap.size s) := ⟨by rw [hs]; exact ⟨HX.out, fun h => absurd rfl h, fun h => by omega, by have := HL.out.2; simp only; omega, by simp, A1, n1, heap_alloc_new w1 _, hc1, HM1.out, HH1.out.below ((Below.refl _ _).alloc (Nat.le_refl _) _)⟩⟩
      have hb2 := (Below.refl w1.heap.size w1).alloc (Nat.le_refl _) (.cells #[.slice A1 x.length n1, .int .i64 0] 54 (0, 0))
      have HB2 := Aside0.mk (below_via4 HB1.out hb2)
      have HZ2 := Aside0.mk (vkeepB HZ1.out hb2)
      have LT := Aside0.mk (lt_of_heap HZ1.out)
      clear hb2 hs p0 p1 p2 p3 p4 p5 f0 f1 f2 f3 f4 f5
      go_upto_region 7 with fail
      generalize w1.alloc (.cells #[.slice A1 x.length n1, .int .i64 0] 54 (0, 0)) = w2 at HS2 HB2 HZ2 ⊢
      generalize hgs : w1.heap.size = gs at HS2 LT ⊢
      clear hgs HB1 HZ1 HH1
      go_wp2_with fail
      refine (rupto HS2.out 4 (by decide)).mono ?_
      rintro e wp ⟨rfl, hs, hg⟩
      have HB3 := Aside0.mk (below_of_grown HB2.out hg (Nat.le_of_lt LT.out))
      have HZ3 := Aside0.mk (vkeepG HZ2.out hg (Nat.ne_of_lt LT.out))
      have SZ := Aside0.mk (HB3.out.size)
      have hQ : s.k1 = ((s.upto 4).1, if (s.upto 4).1 = 0 then (s.upto 4).2.fail 3 else (s.upto 4).2) := rfl
      obtain ⟨o, ho⟩ : ∃ n, (s.upto 4).1 = n := ⟨_, rfl⟩
      obtain ⟨s2, hs2⟩ : ∃ q, (s.upto 4).2 = q := ⟨_, rfl⟩
      rw [hs2] at hs
      rw [ho, hs2] at hQ
      rw [ho]
      have HQ := Aside0.mk hQ
      have H2 := Aside0.mk (Own1.start (U := 25) hs #[.int .i64 o, .int .i64 0, .int .i64 0, .int .i64 0, .int .u32 0, .slice none 0 0])
      clear ho hs2 hQ hs hg HB2 HZ2 HS2
      go_upto_region 8 with fail
      go_upto_if 33 with fail
      go_cut [] (fun wx => Aside0 (Own1 54 25 (fun k => (wa.heap.size ≤ k ∧ k < gs) ∧ k < wp.heap.size) wp wx gs s.k1.2 #[.int .i64 s.k1.1, .int .i64 0, .int .i64 0, .int .i64 0, .int .u32 0, .slice none 0 0]))
      case first =>
        by_cases hn : o = 0
        · have b1 : (o == 0) = true := by simp [hn]
          have h1 : Aside0 (s.k1 = (o, s2.fail 3)) := ⟨by rw [HQ.out, if_pos hn]⟩
          clear hn
          go_wp2_with (go_at_call 30; refine (rfail H2.out.scn 3 (by decide)).mono ?_; rintro e w3 ⟨rfl, hs, hg⟩; have H3 := Aside0.mk (H2.out.call hs hg); clear hs hg)
          go_meet
          exact ⟨by rw [h1.out]; exact H3.out⟩
        · have b1 : (o == 0) = false := by simp [hn]
          have h1 : Aside0 (s.k1 = (o, s2)) := ⟨by rw [HQ.out, if_neg hn]⟩
          clear hn
          go_wp2
          go_meet
          exact ⟨by rw [h1.out]; exact H2.out⟩
      case rest =>
      have HN2 : Aside0 (s.k1 = (s.k1.1, s.k1.2)) := ⟨rfl⟩
      have H6 := hcut
      clear hcut HQ H2
      generalize hn1 : s.k1.1 = o at H6 HN2 ⊢
      generalize hs1 : s.k1.2 = s2 at H6 HN2 ⊢
      clear hn1 hs1
      obtain ⟨⟨c0, c1, c2, c3, c4, c5⟩, f0, f1, f2, f3, f4, f5⟩ := H6.out.cells6
      go_wp2_with fail
      refine (rupto H6.out.scn 1099511627776 (by decide)).mono ?_
      rintro e w4 ⟨rfl, hs, hg⟩
      have H4 := Aside0.mk (H6.out.call hs hg)
      clear hs hg H6 c0 c1 c2 c3 c4 c5 f0 f1 f2 f3 f4 f5
      have HPK : Aside0 (s.pack = Sc.k2 o (s2.upto 1099511627776).1 (s2.upto 1099511627776).2) := ⟨by unfold Sc.pack; rw [HN2.out]⟩
      generalize (s2.upto 1099511627776).1 = ep at HPK ⊢
      generalize (s2.upto 1099511627776).2 = s3 at HPK H4 ⊢
      obtain ⟨⟨c0, c1, c2, c3, c4, c5⟩, f0, f1, f2, f3, f4, f5⟩ := H4.out.cells6
      have H5 := Aside0.mk (H4.out.store 1 (.int .i64 ep))
      simp only [List.setIfInBounds_toArray, List.set_cons_zero, List.set_cons_succ] at H5
      clear H4
      by_cases k1 : o = 1
      · subst k1
        have HE : Aside0 (s.pack = (⟨1, ep, 0, (s3.upto 1048576).1, ((s3.upto 1048576).2.upto 4294967295).1 % 4294967296, []⟩, ((s3.upto 1048576).2.upto 4294967295).2)) := ⟨HPK.out⟩
        clear HPK
        go_wp2_with fail
        refine (rupto H5.out.scn 1048576 (by decide)).mono ?_
        rintro e w5 ⟨rfl, hs, hg⟩
        have H6a := Aside0.mk (H5.out.call hs hg)
        clear hs hg H5 c0 c1 c2 c3 c4 c5 f0 f1 f2 f3 f4 f5
        generalize (s3.upto 1048576).1 = q1 at HE ⊢
        generalize (s3.upto 1048576).2 = s4 at HE H6a
        obtain ⟨⟨c0, c1, c2, c3, c4, c5⟩, f0, f1, f2, f3, f4, f5⟩ := H6a.out.cells6
        have H6 := Aside0.mk (H6a.out.store 3 (.int .i64 q1))
        simp only [List.setIfInBounds_toArray, List.set_cons_zero, List.set_cons_succ] at H6
        clear H6a
        go_wp2_with fail
        refine (rupto H6.out.scn 4294967295 (by decide)).mono ?_
        rintro e w6 ⟨rfl, hs, hg⟩
        have H7a := Aside0.mk (H6.out.call hs hg)
        clear hs hg H6 c0 c1 c2 c3 c4 c5 f0 f1 f2 f3 f4 f5
        generalize (s4.upto 4294967295).1 = q2 at HE ⊢
        generalize (s4.upto 4294967295).2 = s5 at HE H7a
        obtain ⟨⟨c0, c1, c2, c3, c4, c5⟩, f0, f1, f2, f3, f4, f5⟩ := H7a.out.cells6
        have H7 := Aside0.mk (H7a.out.store 4 (.int .u32 (q2 % 4294967296)))
        simp only [List.setIfInBounds_toArray, List.set_cons_zero, List.set_cons_succ] at H7
        clear H7a
        go_upto_region 22 with fail
        have HHy : Aside0 (HeldT (w6.setCell ⟨wp.heap.size, 4, none⟩ (.int .u32 (q2 % 4294967296))) (fun k => wp.heap.size < k) none []) := ⟨HeldT.nil⟩
        have HC : Aside0 (([] : List Int).length ≤ 0 ∧ 0 ≤ 9223372036854775807) := ⟨by decide⟩
        generalize w6.setCell ⟨wp.heap.size, 4, none⟩ (.int .u32 (q2 % 4294967296)) = wy at H7 HHy ⊢
        clear c0 c1 c2 c3 c4 c5 f0 f1 f2 f3 f4 f5
        have HZ5 := Aside0.mk (vkeepG HZ3.out H7.out.grown (Nat.ne_of_lt LT.out))
        have HB5 := Aside0.mk (below_of_grown HB3.out H7.out.grown (Nat.le_of_lt LT.out))
        have HP5 := Aside0.mk H7.out.heap
        have HS5 := Aside0.mk H7.out.scn
        clear H7 HB3 HZ3
        rw [HE.out] at hD
        simp only at hD
        generalize wp.heap.size = gp at HP5 HHy SZ ⊢
        obtain ⟨⟨p0, p1, p2, p3, p4, p5⟩, f0, f1, f2, f3, f4, f5⟩ := cells6 HZ5.out
        obtain ⟨⟨q0', q1', q2', q3', q4', q5'⟩, g0, g1, g2, g3, g4, g5⟩ := cells6 HP5.out
        by_cases e1 : s5.endE = 0
        · have b1 : (s5.endE != 0) = false := by simp [e1]
          rw [if_neg (by simp [e1])] at hD
          clear e1
          go_wp2_with (go_at_call 32; have hop := rend HS5.out; refine hop.mono ?_; rintro e wq ⟨rfl, rfl⟩; clear hop)
          refine (rosetteref22_right.calls 3 1 ep 0 q1 (q2 % 4294967296) none 0 (([] : List Int)) (pkright ⟨1, ep, 0, q1, q2 % 4294967296, ([] : List Int)⟩) _ (HHy.out.C (by have := HC.out; omega)) HC.out.1 (rright_pk (by decide) ⟨1, ep, 0, q1, q2 % 4294967296, ([] : List Int)⟩)).mono ?_
          rintro e w8 ⟨rfl, hX⟩
          clear p0 p1 p2 p3 p4 p5 f0 f1 f2 f3 f4 f5 q0' q1' q2' q3' q4' q5' g0 g1 g2 g3 g4 g5
          have HB8 := Aside0.mk (below_via4 HB5.out hX)
          have HZ8 := Aside0.mk (vkeepB HZ5.out hX)
          have HP8 := Aside0.mk (vkeepB HP5.out hX)
          have HH8 := Aside0.mk (HHy.out.below hX)
          clear hX HB5 HZ5 HP5 HHy HS5
          obtain ⟨⟨p0, p1, p2, p3, p4, p5⟩, f0, f1, f2, f3, f4, f5⟩ := cells6 HZ8.out
          obtain ⟨⟨q0', q1', q2', q3', q4', q5'⟩, g0, g1, g2, g3, g4, g5⟩ := cells6 HP8.out
          by_cases r : pkright ⟨1, ep, 0, q1, q2 % 4294967296, ([] : List Int)⟩ = true
          · rw [if_pos r] at hD
            have HD := Aside0.mk hD
            rw [r]
            clear hD r
            go_wp2
            have hz := put6 HZ8.out HB8.out (Nat.le_refl _) (.int .i64 1) (.int .i64 ep) (.int .i64 0) (.int .i64 q1) (.int .u32 (q2 % 4294967296)) (.slice none 0 0)
            refine bodyPost_ret (results_ct rfl _ _ w.heap.size 25 _ (0, 0) _ rfl hz.1 Try.underlying25 rfl info_pack) rfl ?_
            exact ⟨none, 0, by rw [HD.out]; rfl, by rw [HD.out]; exact (hz.2.2 _ _ (fun k => gp < k) (by have := SZ.out; omega) HH8.out).mono (fun k hk => by have := SZ.out; omega), by rw [HD.out]; exact HC.out.1, HC.out.2, hz.2.1⟩
          · have r' : pkright ⟨1, ep, 0, q1, q2 % 4294967296, ([] : List Int)⟩ = false := by simpa using r
            rw [if_neg r] at hD
            have HD := Aside0.mk hD
            rw [r']
            clear hD r r'
            go_wp2
            have hz := put6 HZ8.out HB8.out (Nat.le_refl _) (.int .i64 0) (.int .i64 0) (.int .i64 0) (.int .i64 0) (.int .u32 0) (.slice none 0 0)
            refine bodyPost_ret (results_ct rfl _ _ w.heap.size 25 _ (0, 0) _ rfl hz.1 Try.underlying25 rfl info_pack) rfl ?_
            exact ⟨none, 0, by rw [HD.out]; rfl, by rw [HD.out]; exact HeldT.nil, by rw [HD.out]; simp [pk0], by decide, hz.2.1⟩
        · have b1 : (s5.endE != 0) = true := by simp [e1]
          rw [if_pos e1] at hD
          have HD := Aside0.mk hD
          clear e1 hD
          go_wp2_with (go_at_call 32; have hop := rend HS5.out; refine hop.mono ?_; rintro e wq ⟨rfl, rfl⟩; clear hop)
          have hz := put6 HZ5.out HB5.out (Nat.le_refl _) (.int .i64 0) (.int .i64 0) (.int .i64 0) (.int .i64 0) (.int .u32 0) (.slice none 0 0)
          refine bodyPost_ret (results_ct rfl _ _ w.heap.size 25 _ (0, 0) _ rfl hz.1 Try.underlying25 rfl info_pack) rfl ?_
          exact ⟨none, 0, by rw [HD.out]; rfl, by rw [HD.out]; exact HeldT.nil, by rw [HD.out]; simp [pk0], by decide, hz.2.1⟩
      · by_cases k2 : o = 2
        · subst k2
          have HE : Aside0 (s.pack = (⟨2, ep, (s3.upto 1048576).1, 0, 0, ((s3.upto 1048576).2.text 64).1⟩, ((s3.upto 1048576).2.text 64).2)) := ⟨HPK.out⟩
          clear HPK
          go_wp2_with fail
          refine (rupto H5.out.scn 1048576 (by decide)).mono ?_
          rintro e w5 ⟨rfl, hs, hg⟩
          have H6a := Aside0.mk (H5.out.call hs hg)
          clear hs hg H5 c0 c1 c2 c3 c4 c5 f0 f1 f2 f3 f4 f5
          generalize (s3.upto 1048576).1 = q1 at HE ⊢
          generalize (s3.upto 1048576).2 = s4 at HE H6a
          obtain ⟨⟨c0, c1, c2, c3, c4, c5⟩, f0, f1, f2, f3, f4, f5⟩ := H6a.out.cells6
          have H6 := Aside0.mk (H6a.out.store 2 (.int .i64 q1))
          simp only [List.setIfInBounds_toArray, List.set_cons_zero, List.set_cons_succ] at H6
          clear H6a
          go_wp2_with fail
          have hdu := text_u8s s4 64 H6.out.scn.u8
          have hdl := text_short s4 64 (by decide) (by decide) H6.out.scn.u8
          refine (rtext H6.out.scn 64 (by decide)).mono ?_
          rintro e w6 ⟨rfl, hs, hg⟩
          have H7a := Aside0.mk (H6.out.call hs hg)
          clear hs hg H6 c0 c1 c2 c3 c4 c5 f0 f1 f2 f3 f4 f5
          generalize (s4.text 64).1 = d at HE hdu hdl ⊢
          generalize (s4.text 64).2 = s5 at HE H7a
          obtain ⟨wb, cd, hconv, hc1, hc2, hB, hH, hsz⟩ := conv_freshT hdu (by rcases hdl with h | h; omega; rw [h]; simp) w6
          have H7b := Aside0.mk (H7a.out.below hB)
          have HH : Aside0 (HeldT wb (fun k => wp.heap.size < k) (some ⟨w6.heap.size, 0, none⟩) d) := ⟨hH.mono (fun k hk => by rw [hk]; exact lt_of_heap H7a.out.heap)⟩
          have HC := Aside0.mk (And.intro hc1 hc2)
          clear hc1 hc2 hB hH hsz hdu hdl H7a
          obtain ⟨⟨c0, c1, c2, c3, c4, c5⟩, f0, f1, f2, f3, f4, f5⟩ := H7b.out.cells6
          have H7 := Aside0.mk (H7b.out.store 5 (.slice (some ⟨w6.heap.size, 0, none⟩) d.length cd))
          simp only [List.setIfInBounds_toArray, List.set_cons_zero, List.set_cons_succ] at H7
          clear H7b
          go_upto_region 22 with fail
          have HHy := Aside0.mk (held_set HH.out (j := 5) (v := (.slice (some ⟨w6.heap.size, 0, none⟩) d.length cd)))
          generalize wb.setCell ⟨wp.heap.size, 5, none⟩ (.slice (some ⟨w6.heap.size, 0, none⟩) d.length cd) = wy at H7 HHy ⊢
          clear c0 c1 c2 c3 c4 c5 f0 f1 f2 f3 f4 f5 hconv HH
          have HZ5 := Aside0.mk (vkeepG HZ3.out H7.out.grown (Nat.ne_of_lt LT.out))
          have HB5 := Aside0.mk (below_of_grown HB3.out H7.out.grown (Nat.le_of_lt LT.out))
          have HP5 := Aside0.mk H7.out.heap
          have HS5 := Aside0.mk H7.out.scn
          clear H7 HB3 HZ3
          rw [HE.out] at hD
          simp only at hD
          generalize wp.heap.size = gp at HP5 HHy SZ ⊢
          obtain ⟨⟨p0, p1, p2, p3, p4, p5⟩, f0, f1, f2, f3, f4, f5⟩ := cells6 HZ5.out
          obtain ⟨⟨q0', q1', q2', q3', q4', q5'⟩, g0, g1, g2, g3, g4, g5⟩ := cells6 HP5.out
          by_cases e1 : s5.endE = 0
          · have b1 : (s5.endE != 0) = false := by simp [e1]
            rw [if_neg (by simp [e1])] at hD
            clear e1
            go_wp2_with (go_at_call 32; have hop := rend HS5.out; refine hop.mono ?_; rintro e wq ⟨rfl, rfl⟩; clear hop)
            refine (rosetteref22_right.calls 3 2 ep q1 0 0 (some ⟨w6.heap.size, 0, none⟩) cd (d) (pkright ⟨2, ep, q1, 0, 0, d⟩) _ (HHy.out.C (by have := HC.out; omega)) HC.out.1 (rright_pk (by decide) ⟨2, ep, q1, 0, 0, d⟩)).mono ?_
            rintro e w8 ⟨rfl, hX⟩
            clear p0 p1 p2 p3 p4 p5 f0 f1 f2 f3 f4 f5 q0' q1' q2' q3' q4' q5' g0 g1 g2 g3 g4 g5
            have HB8 := Aside0.mk (below_via4 HB5.out hX)
            have HZ8 := Aside0.mk (vkeepB HZ5.out hX)
            have HP8 := Aside0.mk (vkeepB HP5.out hX)
            have HH8 := Aside0.mk (HHy.out.below hX)
            clear hX HB5 HZ5 HP5 HHy HS5
            obtain ⟨⟨p0, p1, p2, p3, p4, p5⟩, f0, f1, f2, f3, f4, f5⟩ := cells6 HZ8.out
            obtain ⟨⟨q0', q1', q2', q3', q4', q5'⟩, g0, g1, g2, g3, g4, g5⟩ := cells6 HP8.out
            by_cases r : pkright ⟨2, ep, q1, 0, 0, d⟩ = true
            · rw [if_pos r] at hD
              have HD := Aside0.mk hD
              rw [r]
              clear hD r
              go_wp2
              have hz := put6 HZ8.out HB8.out (Nat.le_refl _) (.int .i64 2) (.int .i64 ep) (.int .i64 q1) (.int .i64 0) (.int .u32 0) (.slice (some ⟨w6.heap.size, 0, none⟩) d.length cd)
              refine bodyPost_ret (results_ct rfl _ _ w.heap.size 25 _ (0, 0) _ rfl hz.1 Try.underlying25 rfl info_pack) rfl ?_
              exact ⟨(some ⟨w6.heap.size, 0, none⟩), cd, by rw [HD.out]; rfl, by rw [HD.out]; exact (hz.2.2 _ _ (fun k => gp < k) (by have := SZ.out; omega) HH8.out).mono (fun k hk => by have := SZ.out; omega), by rw [HD.out]; exact HC.out.1, HC.out.2, hz.2.1⟩
            · have r' : pkright ⟨2, ep, q1, 0, 0, d⟩ = false := by simpa using r
              rw [if_neg r] at hD
              have HD := Aside0.mk hD
              rw [r']
              clear hD r r'
              go_wp2
              have hz := put6 HZ8.out HB8.out (Nat.le_refl _) (.int .i64 0) (.int .i64 0) (.int .i64 0) (.int .i64 0) (.int .u32 0) (.slice none 0 0)
              refine bodyPost_ret (results_ct rfl _ _ w.heap.size 25 _ (0, 0) _ rfl hz.1 Try.underlying25 rfl info_pack) rfl ?_
              exact ⟨none, 0, by rw [HD.out]; rfl, by rw [HD.out]; exact HeldT.nil, by rw [HD.out]; simp [pk0], by decide, hz.2.1⟩
          · have b1 : (s5.endE != 0) = true := by simp [e1]
            rw [if_pos e1] at hD
            have HD := Aside0.mk hD
            clear e1 hD
            go_wp2_with (go_at_call 32; have hop := rend HS5.out; refine hop.mono ?_; rintro e wq ⟨rfl, rfl⟩; clear hop)
            have hz := put6 HZ5.out HB5.out (Nat.le_refl _) (.int .i64 0) (.int .i64 0) (.int .i64 0) (.int .i64 0) (.int .u32 0) (.slice none 0 0)
            refine bodyPost_ret (results_ct rfl _ _ w.heap.size 25 _ (0, 0) _ rfl hz.1 Try.underlying25 rfl info_pack) rfl ?_
            exact ⟨none, 0, by rw [HD.out]; rfl, by rw [HD.out]; exact HeldT.nil, by rw [HD.out]; simp [pk0], by decide, hz.2.1⟩
        · by_cases k3 : o = 3
          · subst k3
            have HE : Aside0 (s.pack = (⟨3, ep, (s3.upto 1048576).1, 0, 0, []⟩, (s3.upto 1048576).2)) := ⟨HPK.out⟩
            clear HPK
            go_wp2_with fail
            refine (rupto H5.out.scn 1048576 (by decide)).mono ?_
            rintro e w5 ⟨rfl, hs, hg⟩
            have H6a := Aside0.mk (H5.out.call hs hg)
            clear hs hg H5 c0 c1 c2 c3 c4 c5 f0 f1 f2 f3 f4 f5
            generalize (s3.upto 1048576).1 = q1 at HE ⊢
            generalize (s3.upto 1048576).2 = s4 at HE H6a
            obtain ⟨⟨c0, c1, c2, c3, c4, c5⟩, f0, f1, f2, f3, f4, f5⟩ := H6a.out.cells6
            have H6 := Aside0.mk (H6a.out.store 2 (.int .i64 q1))
            simp only [List.setIfInBounds_toArray, List.set_cons_zero, List.set_cons_succ] at H6
            clear H6a
            go_upto_region 22 with fail
            have HHy : Aside0 (HeldT (w5.setCell ⟨wp.heap.size, 2, none⟩ (.int .i64 q1)) (fun k => wp.heap.size < k) none []) := ⟨HeldT.nil⟩
            have HC : Aside0 (([] : List Int).length ≤ 0 ∧ 0 ≤ 9223372036854775807) := ⟨by decide⟩
            generalize w5.setCell ⟨wp.heap.size, 2, none⟩ (.int .i64 q1) = wy at H6 HHy ⊢
            clear c0 c1 c2 c3 c4 c5 f0 f1 f2 f3 f4 f5
            have HZ5 := Aside0.mk (vkeepG HZ3.out H6.out.grown (Nat.ne_of_lt LT.out))
            have HB5 := Aside0.mk (below_of_grown HB3.out H6.out.grown (Nat.le_of_lt LT.out))
            have HP5 := Aside0.mk H6.out.heap
            have HS5 := Aside0.mk H6.out.scn
            clear H6 HB3 HZ3
            rw [HE.out] at hD
            simp only at hD
            generalize wp.heap.size = gp at HP5 HHy SZ ⊢
            obtain ⟨⟨p0, p1, p2, p3, p4, p5⟩, f0, f1, f2, f3, f4, f5⟩ := cells6 HZ5.out
            obtain ⟨⟨q0', q1', q2', q3', q4', q5'⟩, g0, g1, g2, g3, g4, g5⟩ := cells6 HP5.out
            by_cases e1 : s4.endE = 0
            · have b1 : (s4.endE != 0) = false := by simp [e1]
              rw [if_neg (by simp [e1])] at hD
              clear e1
              go_wp2_with (go_at_call 32; have hop := rend HS5.out; refine hop.mono ?_; rintro e wq ⟨rfl, rfl⟩; clear hop)
              refine (rosetteref22_right.calls 3 3 ep q1 0 0 none 0 (([] : List Int)) (pkright ⟨3, ep, q1, 0, 0, ([] : List Int)⟩) _ (HHy.out.C (by have := HC.out; omega)) HC.out.1 (rright_pk (by decide) ⟨3, ep, q1, 0, 0, ([] : List Int)⟩)).mono ?_
              rintro e w8 ⟨rfl, hX⟩
              clear p0 p1 p2 p3 p4 p5 f0 f1 f2 f3 f4 f5 q0' q1' q2' q3' q4' q5' g0 g1 g2 g3 g4 g5
              have HB8 := Aside0.mk (below_via4 HB5.out hX)
              have HZ8 := Aside0.mk (vkeepB HZ5.out hX)
              have HP8 := Aside0.mk (vkeepB HP5.out hX)
              have HH8 := Aside0.mk (HHy.out.below hX)
              clear hX HB5 HZ5 HP5 HHy HS5
              obtain ⟨⟨p0, p1, p2, p3, p4, p5⟩, f0, f1, f2, f3, f4, f5⟩ := cells6 HZ8.out
              obtain ⟨⟨q0', q1', q2', q3', q4', q5'⟩, g0, g1, g2, g3, g4, g5⟩ := cells6 HP8.out
              by_cases r : pkright ⟨3, ep, q1, 0, 0, ([] : List Int)⟩ = true
              · rw [if_pos r] at hD
                have HD := Aside0.mk hD
                rw [r]
                clear hD r
                go_wp2
                have hz := put6 HZ8.out HB8.out (Nat.le_refl _) (.int .i64 3) (.int .i64 ep) (.int .i64 q1) (.int .i64 0) (.int .u32 0) (.slice none 0 0)
                refine bodyPost_ret (results_ct rfl _ _ w.heap.size 25 _ (0, 0) _ rfl hz.1 Try.underlying25 rfl info_pack) rfl ?_
                exact ⟨none, 0, by rw [HD.out]; rfl, by rw [HD.out]; exact (hz.2.2 _ _ (fun k => gp < k) (by have := SZ.out; omega) HH8.out).mono (fun k hk => by have := SZ.out; omega), by rw [HD.out]; exact HC.out.1, HC.out.2, hz.2.1⟩
              · have r' : pkright ⟨3, ep, q1, 0, 0, ([] : List Int)⟩ = false := by simpa using r
                rw [if_neg r] at hD
                have HD := Aside0.mk hD
                rw [r']
                clear hD r r'
                go_wp2
                have hz := put6 HZ8.out HB8.out (Nat.le_refl _) (.int .i64 0) (.int .i64 0) (.int .i64 0) (.int .i64 0) (.int .u32 0) (.slice none 0 0)
                refine bodyPost_ret (results_ct rfl _ _ w.heap.size 25 _ (0, 0) _ rfl hz.1 Try.underlying25 rfl info_pack) rfl ?_
                exact ⟨none, 0, by rw [HD.out]; rfl, by rw [HD.out]; exact HeldT.nil, by rw [HD.out]; simp [pk0], by decide, hz.2.1⟩
            · have b1 : (s4.endE != 0) = true := by simp [e1]
              rw [if_pos e1] at hD
              have HD := Aside0.mk hD
              clear e1 hD
              go_wp2_with (go_at_call 32; have hop := rend HS5.out; refine hop.mono ?_; rintro e wq ⟨rfl, rfl⟩; clear hop)
              have hz := put6 HZ5.out HB5.out (Nat.le_refl _) (.int .i64 0) (.int .i64 0) (.int .i64 0) (.int .i64 0) (.int .u32 0) (.slice none 0 0)
              refine bodyPost_ret (results_ct rfl _ _ w.heap.size 25 _ (0, 0) _ rfl hz.1 Try.underlying25 rfl info_pack) rfl ?_
              exact ⟨none, 0, by rw [HD.out]; rfl, by rw [HD.out]; exact HeldT.nil, by rw [HD.out]; simp [pk0], by decide, hz.2.1⟩
          · by_cases k4 : o = 4
            · subst k4
              have HE : Aside0 (s.pack = (⟨4, ep, 0, 0, 0, (s3.text 4096).1⟩, (s3.text 4096).2)) := ⟨HPK.out⟩
              clear HPK
              go_wp2_with fail
              have hdu := text_u8s s3 4096 H5.out.scn.u8
              have hdl := text_short s3 4096 (by decide) (by decide) H5.out.scn.u8
              refine (rtext H5.out.scn 4096 (by decide)).mono ?_
              rintro e w6 ⟨rfl, hs, hg⟩
              have H6a := Aside0.mk (H5.out.call hs hg)
              clear hs hg H5 c0 c1 c2 c3 c4 c5 f0 f1 f2 f3 f4 f5
              generalize (s3.text 4096).1 = d at HE hdu hdl ⊢
              generalize (s3.text 4096).2 = s5 at HE H6a
              obtain ⟨wb, cd, hconv, hc1, hc2, hB, hH, hsz⟩ := conv_freshT hdu (by rcases hdl with h | h; omega; rw [h]; simp) w6
              have H6b := Aside0.mk (H6a.out.below hB)
              have HH : Aside0 (HeldT wb (fun k => wp.heap.size < k) (some ⟨w6.heap.size, 0, none⟩) d) := ⟨hH.mono (fun k hk => by rw [hk]; exact lt_of_heap H6a.out.heap)⟩
              have HC := Aside0.mk (And.intro hc1 hc2)
              clear hc1 hc2 hB hH hsz hdu hdl H6a
              obtain ⟨⟨c0, c1, c2, c3, c4, c5⟩, f0, f1, f2, f3, f4, f5⟩ := H6b.out.cells6
              have H6 := Aside0.mk (H6b.out.store 5 (.slice (some ⟨w6.heap.size, 0, none⟩) d.length cd))
              simp only [List.setIfInBounds_toArray, List.set_cons_zero, List.set_cons_succ] at H6
              clear H6b
              go_upto_region 22 with fail
              have HHy := Aside0.mk (held_set HH.out (j := 5) (v := (.slice (some ⟨w6.heap.size, 0, none⟩) d.length cd)))
              generalize wb.setCell ⟨wp.heap.size, 5, none⟩ (.slice (some ⟨w6.heap.size, 0, none⟩) d.length cd) = wy at H6 HHy ⊢
              clear c0 c1 c2 c3 c4 c5 f0 f1 f2 f3 f4 f5 hconv HH
              have HZ5 := Aside0.mk (vkeepG HZ3.out H6.out.grown (Nat.ne_of_lt LT.out))
              have HB5 := Aside0.mk (below_of_grown HB3.out H6.out.grown (Nat.le_of_lt LT.out))
              have HP5 := Aside0.mk H6.out.heap
              have HS5 := Aside0.mk H6.out.scn
              clear H6 HB3 HZ3
              rw [HE.out] at hD
              simp only at hD
              generalize wp.heap.size = gp at HP5 HHy SZ ⊢
              obtain ⟨⟨p0, p1, p2, p3, p4, p5⟩, f0, f1, f2, f3, f4, f5⟩ := cells6 HZ5.out
              obtain ⟨⟨q0', q1', q2', q3', q4', q5'⟩, g0, g1, g2, g3, g4, g5⟩ := cells6 HP5.out
              by_cases e1 : s5.endE = 0
              · have b1 : (s5.endE != 0) = false := by simp [e1]
                rw [if_neg (by simp [e1])] at hD
                clear e1
                go_wp2_with (go_at_call 32; have hop := rend HS5.out; refine hop.mono ?_; rintro e wq ⟨rfl, rfl⟩; clear hop)
                refine (rosetteref22_right.calls 3 4 ep 0 0 0 (some ⟨w6.heap.size, 0, none⟩) cd (d) (pkright ⟨4, ep, 0, 0, 0, d⟩) _ (HHy.out.C (by have := HC.out; omega)) HC.out.1 (rright_pk (by decide) ⟨4, ep, 0, 0, 0, d⟩)).mono ?_
                rintro e w8 ⟨rfl, hX⟩
                clear p0 p1 p2 p3 p4 p5 f0 f1 f2 f3 f4 f5 q0' q1' q2' q3' q4' q5' g0 g1 g2 g3 g4 g5
                have HB8 := Aside0.mk (below_via4 HB5.out hX)
                have HZ8 := Aside0.mk (vkeepB HZ5.out hX)
                have HP8 := Aside0.mk (vkeepB HP5.out hX)
                have HH8 := Aside0.mk (HHy.out.below hX)
                clear hX HB5 HZ5 HP5 HHy HS5
                obtain ⟨⟨p0, p1, p2, p3, p4, p5⟩, f0, f1, f2, f3, f4, f5⟩ := cells6 HZ8.out
                obtain ⟨⟨q0', q1', q2', q3', q4', q5'⟩, g0, g1, g2, g3, g4, g5⟩ := cells6 HP8.out
                by_cases r : pkright ⟨4, ep, 0, 0, 0, d⟩ = true
                · rw [if_pos r] at hD
                  have HD := Aside0.mk hD
                  rw [r]
                  clear hD r
                  go_wp2
                  have hz := put6 HZ8.out HB8.out (Nat.le_refl _) (.int .i64 4) (.int .i64 ep) (.int .i64 0) (.int .i64 0) (.int .u32 0) (.slice (some ⟨w6.heap.size, 0, none⟩) d.length cd)
                  refine bodyPost_ret (results_ct rfl _ _ w.heap.size 25 _ (0, 0) _ rfl hz.1 Try.underlying25 rfl info_pack) rfl ?_
                  exact ⟨(some ⟨w6.heap.size, 0, none⟩), cd, by rw [HD.out]; rfl, by rw [HD.out]; exact (hz.2.2 _ _ (fun k => gp < k) (by have := SZ.out; omega) HH8.out).mono (fun k hk => by have := SZ.out; omega), by rw [HD.out]; exact HC.out.1, HC.out.2, hz.2.1⟩
                · have r' : pkright ⟨4, ep, 0, 0, 0, d⟩ = false := by simpa using r
                  rw [if_neg r] at hD
                  have HD := Aside0.mk hD
                  rw [r']
                  clear hD r r'
                  go_wp2
                  have hz := put6 HZ8.out HB8.out (Nat.le_refl _) (.int .i64 0) (.int .i64 0) (.int .i64 0) (.int .i64 0) (.int .u32 0) (.slice none 0 0)
                  refine bodyPost_ret (results_ct rfl _ _ w.heap.size 25 _ (0, 0) _ rfl hz.1 Try.underlying25 rfl info_pack) rfl ?_
                  exact ⟨none, 0, by rw [HD.out]; rfl, by rw [HD.out]; exact HeldT.nil, by rw [HD.out]; simp [pk0], by decide, hz.2.1⟩
              · have b1 : (s5.endE != 0) = true := by simp [e1]
                rw [if_pos e1] at hD
                have HD := Aside0.mk hD
                clear e1 hD
                go_wp2_with (go_at_call 32; have hop := rend HS5.out; refine hop.mono ?_; rintro e wq ⟨rfl, rfl⟩; clear hop)
                have hz := put6 HZ5.out HB5.out (Nat.le_refl _) (.int .i64 0) (.int .i64 0) (.int .i64 0) (.int .i64 0) (.int .u32 0) (.slice none 0 0)
                refine bodyPost_ret (results_ct rfl _ _ w.heap.size 25 _ (0, 0) _ rfl hz.1 Try.underlying25 rfl info_pack) rfl ?_
                exact ⟨none, 0, by rw [HD.out]; rfl, by rw [HD.out]; exact HeldT.nil, by rw [HD.out]; simp [pk0], by decide, hz.2.1⟩
            · have HE : Aside0 (s.pack = (⟨o, ep, 0, 0, 0, []⟩, s3)) := ⟨by rw [HPK.out, Sc.k2, if_neg k1, if_neg k2, if_neg k3, if_neg k4]⟩
              clear HPK
              go_upto_region 22 with fail
              have HHy : Aside0 (HeldT (w4.setCell ⟨wp.heap.size, 1, none⟩ (.int .i64 ep)) (fun k => wp.heap.size < k) none []) := ⟨HeldT.nil⟩
              have HC : Aside0 (([] : List Int).length ≤ 0 ∧ 0 ≤ 9223372036854775807) := ⟨by decide⟩
              generalize w4.setCell ⟨wp.heap.size, 1, none⟩ (.int .i64 ep) = wy at H5 HHy ⊢
              clear c0 c1 c2 c3 c4 c5 f0 f1 f2 f3 f4 f5
              have HZ5 := Aside0.mk (vkeepG HZ3.out H5.out.grown (Nat.ne_of_lt LT.out))
              have HB5 := Aside0.mk (below_of_grown HB3.out H5.out.grown (Nat.le_of_lt LT.out))
              have HP5 := Aside0.mk H5.out.heap
              have HS5 := Aside0.mk H5.out.scn
              clear H5 HB3 HZ3
              rw [HE.out] at hD
              simp only at hD
              generalize wp.heap.size = gp at HP5 HHy SZ ⊢
              obtain ⟨⟨p0, p1, p2, p3, p4, p5⟩, f0, f1, f2, f3, f4, f5⟩ := cells6 HZ5.out
              obtain ⟨⟨q0', q1', q2', q3', q4', q5'⟩, g0, g1, g2, g3, g4, g5⟩ := cells6 HP5.out
              by_cases e1 : s3.endE = 0
              · have b1 : (s3.endE != 0) = false := by simp [e1]
                rw [if_neg (by simp [e1])] at hD
                clear e1
                go_wp2_with (go_at_call 32; have hop := rend HS5.out; refine hop.mono ?_; rintro e wq ⟨rfl, rfl⟩; clear hop)
                refine (rosetteref22_right.calls 3 o ep 0 0 0 none 0 (([] : List Int)) (pkright ⟨o, ep, 0, 0, 0, ([] : List Int)⟩) _ (HHy.out.C (by have := HC.out; omega)) HC.out.1 (rright_pk (by decide) ⟨o, ep, 0, 0, 0, ([] : List Int)⟩)).mono ?_
                rintro e w8 ⟨rfl, hX⟩
                clear p0 p1 p2 p3 p4 p5 f0 f1 f2 f3 f4 f5 q0' q1' q2' q3' q4' q5' g0 g1 g2 g3 g4 g5
                have HB8 := Aside0.mk (below_via4 HB5.out hX)
                have HZ8 := Aside0.mk (vkeepB HZ5.out hX)
                have HP8 := Aside0.mk (vkeepB HP5.out hX)
                have HH8 := Aside0.mk (HHy.out.below hX)
                clear hX HB5 HZ5 HP5 HHy HS5
                obtain ⟨⟨p0, p1, p2, p3, p4, p5⟩, f0, f1, f2, f3, f4, f5⟩ := cells6 HZ8.out
                obtain ⟨⟨q0', q1', q2', q3', q4', q5'⟩, g0, g1, g2, g3, g4, g5⟩ := cells6 HP8.out
                by_cases r : pkright ⟨o, ep, 0, 0, 0, ([] : List Int)⟩ = true
                · rw [if_pos r] at hD
                  have HD := Aside0.mk hD
                  rw [r]
                  clear hD r
                  go_wp2
                  have hz := put6 HZ8.out HB8.out (Nat.le_refl _) (.int .i64 o) (.int .i64 ep) (.int .i64 0) (.int .i64 0) (.int .u32 0) (.slice none 0 0)
                  refine bodyPost_ret (results_ct rfl _ _ w.heap.size 25 _ (0, 0) _ rfl hz.1 Try.underlying25 rfl info_pack) rfl ?_
                  exact ⟨none, 0, by rw [HD.out]; rfl, by rw [HD.out]; exact (hz.2.2 _ _ (fun k => gp < k) (by have := SZ.out; omega) HH8.out).mono (fun k hk => by have := SZ.out; omega), by rw [HD.out]; exact HC.out.1, HC.out.2, hz.2.1⟩
                · have r' : pkright ⟨o, ep, 0, 0, 0, ([] : List Int)⟩ = false := by simpa using r
                  rw [if_neg r] at hD
                  have HD := Aside0.mk hD
                  rw [r']
                  clear hD r r'
                  go_wp2
                  have hz := put6 HZ8.out HB8.out (Nat.le_refl _) (.int .i64 0) (.int .i64 0) (.int .i64 0) (.int .i64 0) (.int .u32 0) (.slice none 0 0)
                  refine bodyPost_ret (results_ct rfl _ _ w.heap.size 25 _ (0, 0) _ rfl hz.1 Try.underlying25 rfl info_pack) rfl ?_
                  exact ⟨none, 0, by rw [HD.out]; rfl, by rw [HD.out]; exact HeldT.nil, by rw [HD.out]; simp [pk0], by decide, hz.2.1⟩
              · have b1 : (s3.endE != 0) = true := by simp [e1]
                rw [if_pos e1] at hD
                have HD := Aside0.mk hD
                clear e1 hD
                go_wp2_with (go_at_call 32; have hop := rend HS5.out; refine hop.mono ?_; rintro e wq ⟨rfl, rfl⟩; clear hop)
                have hz := put6 HZ5.out HB5.out (Nat.le_refl _) (.int .i64 0) (.int .i64 0) (.int .i64 0) (.int .i64 0) (.int .u32 0) (.slice none 0 0)
                refine bodyPost_ret (results_ct rfl _ _ w.heap.size 25 _ (0, 0) _ rfl hz.1 Try.underlying25 rfl info_pack) rfl ?_
                exact ⟨none, 0, by rw [HD.out]; rfl, by rw [HD.out]; exact HeldT.nil, by rw [HD.out]; simp [pk0], by decide, hz.2.1⟩
  · have HD : Aside0 (dec l0.length x n err = (pk0, err)) := ⟨by unfold dec; rw [if_pos e0]⟩
    have b0 : (err != 0) = true := by simp [e0]
    go_wp2
    have hz := put6 HZ1.out HB1.out (Nat.le_refl _) (.int .i64 0) (.int .i64 0) (.int .i64 0) (.int .i64 0) (.int .u32 0) (.slice none 0 0)
    refine bodyPost_ret (results_ct rfl _ _ w.heap.size 25 _ (0, 0) _ rfl hz.1 Try.underlying25 rfl info_pack) rfl ?_
    exact ⟨none, 0, by rw [HD.out]; rfl, by rw [HD.out]; exact HeldT.nil, by rw [HD.out]; simp [pk0], by decide, hz.2.1⟩
end Go.Proofs.Yticpcjjgdkbcjaa
end

section
/- a row of bytes that was read out of a scan: it reads, its block is of bytes and none of the caller's (no row of the call's own: a conversion's block bears a mark) -/
set_option linter.unusedVariables false
set_option linter.unusedSimpArgs false
set_option autoImplicit false
namespace Go.Proofs.Yticpcjjgdkbcjaa
open Go.RowKit Go.Proofs.YticpcjjgdkbcjaaW.PrintWords Go.Proofs.YticpcjjgdkbcjaaW.PrintLast Go.Proofs.YticpcjjgdkbcjaaW.PrintMore Go.Proofs.Yticpcjjgdkbcjaa.G

def Rs (e : Nat) (w : World) (base : Nat) (ok : Nat → Prop) (v : Value) (xs : List Int) : Prop :=
  e = 5 ∧ ∃ A c, v = .slice A xs.length c ∧ xs.length ≤ c ∧ c ≤ 9223372036854775807 ∧ HeldT w (fun k => ok k ∧ base ≤ k) A xs
section
variable {e : Nat} {w w1 W : World} {base b : Nat} {ok ok' : Nat → Prop} {v u : Value} {xs : List Int}
theorem Rs.own (h : Rs e w base ok v xs) : ∀ k, v.ownBlock = some k → ok k ∧ base ≤ k ∧ k < w.heap.size ∧ ∃ cells fr, w.heap[k]? = some (.cells cells 5 fr) := by
  obtain ⟨_, A, c, rfl, _, _, hH⟩ := h
  intro k hk
  cases A with
  | none => simp [Value.ownBlock] at hk
  | some ad =>
    have hk' : ad.block = k := by simpa [Value.ownBlock] using hk
    subst hk'
    obtain ⟨h1, h2, _⟩ := hH.2 ad rfl
    obtain ⟨cs, fr, hh⟩ := h2
    exact ⟨h1.1, h1.2, (Array.getElem?_eq_some_iff.1 hh).1, cs, fr, hh⟩
theorem Rs_mono (h : Rs e w base ok v xs) (hok : ∀ k, ok k → ok' k) : Rs e w base ok' v xs := by
  obtain ⟨he, A, c, hv, h1, h2, hH⟩ := h
  exact ⟨he, A, c, hv, h1, h2, hH.mono fun k hk => ⟨hok k hk.1, hk.2⟩⟩
theorem Rs_lower {base' : Nat} (h : Rs e w base ok v xs) (hb : base' ≤ base) : Rs e w base' ok v xs := by
  obtain ⟨he, A, c, hv, h1, h2, hH⟩ := h
  exact ⟨he, A, c, hv, h1, h2, hH.mono fun k hk => ⟨hk.1, Nat.le_trans hb hk.2⟩⟩
theorem Rs_below (h : Rs e w base ok v xs) (hb : Below w.heap.size w w1) : Rs e w1 base ok v xs := by
  obtain ⟨he, A, c, hv, h1, h2, hH⟩ := h
  exact ⟨he, A, c, hv, h1, h2, hH.below hb⟩
theorem Rs_alloc (h : Rs e w base ok v xs) (o : Obj) : Rs e (w.alloc o) base ok v xs := Rs_below h (below_alloc (Below.refl _ _) o)
theorem Rs_drew (h : Rs e w base ok v xs) : Rs e w.drew base ok v xs := Rs_below h (below_drew (Below.refl _ _))
theorem Rs_drewN (h : Rs e w base ok v xs) (m : Nat) : Rs e (w.drewN m) base ok v xs := Rs_below h (pw_below_drewN (Below.refl _ _) m)
theorem Rs_far (h : Rs e w base ok v xs) {p : Addr} (hok : ∀ k, ok k → k ≠ p.block) (x : Value) : Rs e (w.setCell p x) base ok v xs := by
  obtain ⟨he, A, c, hv, h1, h2, hH⟩ := h
  exact ⟨he, A, c, hv, h1, h2, hH.set (fun k hk => hok k hk.1) x⟩
theorem Rs_grown (h : Rs e w base ok v xs) {row : Option Nat} (hg : w.grownBy w1 row) (hok : ∀ k, ok k → some k ≠ row) : Rs e w1 base ok v xs := by
  obtain ⟨he, A, c, hv, h1, h2, hH⟩ := h
  exact ⟨he, A, c, hv, h1, h2, hH.keep fun k hl hk => hg.block k hl (hok k hk.1)⟩
theorem Rs_types (h : Rs e w base ok v xs) {g t : Nat} {cells : Array Value} (hb : w.heap[g]? = some (.cells cells t (0, 0))) (ht : ∀ q, q ∈ e :: (Kd.int .u8).E → q ≠ t) : Rs e w base (fun k => ok k ∧ k ≠ g) v xs := by
  obtain ⟨he, A, c, hv, h1, h2, hH⟩ := h
  refine ⟨he, A, c, hv, h1, h2, hH.bound.mono fun k hk => ⟨⟨hk.1.1, ?_⟩, hk.1.2⟩⟩
  obtain ⟨_, _, cs, fr, hc⟩ := hk
  rintro rfl
  rw [hc] at hb
  injection hb with hb
  injection hb with _ hb
  exact ht e List.mem_cons_self (he.trans hb)
theorem Rs_lt (h : Rs e w base ok v xs) : ∀ k, v.ownBlock = some k → k < w.heap.size := fun k hk => (h.own k hk).2.2.1
theorem Rs_base (h : Rs e w base ok v xs) : ∀ k, v.ownBlock = some k → base ≤ k := fun k hk => (h.own k hk).2.1
theorem Rs_new' (h : Rs e w1 W.heap.size ok v xs) (hu : ∀ k, u.ownBlock = some k → k < W.heap.size) : Rs e w1 W.heap.size (fun k => ok k ∧ some k ≠ u.ownBlock) v xs := by
  obtain ⟨he, A, c, hv, h1, h2, hH⟩ := h
  exact ⟨he, A, c, hv, h1, h2, hH.mono fun k hk => ⟨⟨hk.1, fun e => by have := hu k e.symm; omega⟩, hk.2⟩⟩
theorem Rs_elder' (hu : Rs e W b ok u xs) (h : ∀ k, v.ownBlock = some k → W.heap.size ≤ k) (hb : Below W.heap.size W w1) : Rs e w1 b (fun k => ok k ∧ some k ≠ v.ownBlock) u xs := by
  obtain ⟨he, A, c, hv, h1, h2, hH⟩ := hu
  exact ⟨he, A, c, hv, h1, h2, (hH.bound.keep fun k hl hk => hb.block k hl).mono fun k hk => ⟨⟨hk.1.1, fun e => by have := h k e.symm; have := hk.2.1; omega⟩, hk.1.2⟩⟩
theorem Rs_slice (h : Rs e w base ok v xs) : ∃ A c, v = .slice A xs.length c := by
  obtain ⟨_, A, c, hv, _⟩ := h
  exact ⟨A, c, hv⟩
theorem Rs_reads' {A : Option Addr} {n c : Nat} (h : Rs e w base ok (.slice A n c) xs) : n = xs.length ∧ n ≤ c ∧ (Kd.int .u8).C w A xs.length xs := by
  obtain ⟨_, A', c', he, h1, h2, hH⟩ := h
  injection he with q1 q2 q3
  subst q1
  exact ⟨q2, by omega, hH.C (by omega)⟩
theorem Rs_of {A : Option Addr} {c : Nat} (h : HeldT w (fun k => base ≤ k) A xs) (h1 : xs.length ≤ c) (h2 : c ≤ 9223372036854775807) : Rs 5 w base (fun _ => True) (.slice A xs.length c) xs :=
  ⟨rfl, A, c, rfl, h1, h2, h.mono fun k hk => ⟨trivial, hk⟩⟩
end
/-- what is decoded, as the print takes results -/
def Pk.r (p : Pk) (e : Int) : Int × Int × Int × Int × Int × List Int × Int := (p.k, p.e, p.s, p.t, p.u, p.d, e)
end Go.Proofs.Yticpcjjgdkbcjaa
end

section
-- Written by a program of this session (wip/tools/myprint.py), over the kit's print.
namespace Go.Proofs.Yticpcjjgdkbcjaa.G
open Go.RowKit Go.Proofs.YticpcjjgdkbcjaaW.PrintWords Go.Proofs.YticpcjjgdkbcjaaW.PrintLast Go.Proofs.YticpcjjgdkbcjaaW.PrintMore
attribute [local go_sem] max2_int min2_int max_two min_two max_three min_three max_four min_four   -- for this text's walks alone
set_option linter.unusedVariables false
set_option linter.unusedSimpArgs false

-- BY HAND
def putGo : Nat → Int → List Int
  | 0, n => [n % 256]
  | f + 1, n => if n < 128 then [n % 256] else (n % 128 + 128) :: putGo f (n / 128)
def putL (n : Int) : List Int := putGo 9 n
def wire_Put.f (l0 : List Int) (a1 : Int) : Option (List Int) := if 0 ≤ a1 ∧ a1 < 18446744073709551616 ∧ l0.length ≤ 140737488355300 then some (l0 ++ putL a1) else none
theorem info_u8_put : (Try.prog.info? 5).map (fun i => (i.zero, i.size, i.bytes)) = some (some (.int .u8 0), 1, 1) := by kernel_rfl
theorem or128 (m : Int) (h0 : 0 ≤ m) : bits .or .u8 (m % 256) 128 = m % 128 + 128 := by
  obtain ⟨n, rfl⟩ := Int.eq_ofNat_of_zero_le h0
  rw [show ((n : Int) % 256) = ((n % 256 : Nat) : Int) by omega, show (128 : Int) = ((128 : Nat) : Int) from rfl, u8_or_nat _ _ (by omega) (by decide)]
  have e : (n % 256) ||| 128 = n % 128 + 128 := by
    have h1 : n % 256 = 2 ^ 7 * (n % 256 / 128) + n % 256 % 128 := by omega
    have h2 : n % 256 % 128 < 2 ^ 7 := by omega
    rw [h1, Nat.two_pow_add_eq_or_of_lt h2, Nat.or_assoc, Nat.or_comm (n % 256 % 128), ← Nat.or_assoc, show (128 : Nat) = 2 ^ 7 * 1 from rfl]
    have h3 : n % 256 / (2 ^ 7 * 1) = 0 ∨ n % 256 / (2 ^ 7 * 1) = 1 := by omega
    have h4 : 2 ^ 7 * (n % 256 / (2 ^ 7 * 1)) ||| 2 ^ 7 * 1 = 2 ^ 7 * 1 := by
      rcases h3 with h3 | h3 <;> rw [h3] <;> decide
    rw [h4, ← Nat.two_pow_add_eq_or_of_lt (by omega)]
    omega
  rw [e]; omega
theorem clip_any (A : Option Addr) (n c : Nat) (h : n ≤ c) (w : World) : Calls Try.prog 36 #[.slice A n c] w fun e w' => e = .returned (.slice A n n) ∧ w' = w := by
  go_enter Try.func36, Try.ntmps36
  go_wp2_with fail
  go_ret
  exact ⟨rfl, rfl⟩
set_option maxRecDepth 100000 in
set_option maxHeartbeats 1000000 in
theorem wire_Put.calls (A0 : Option Addr) (c0 : Nat) (l0 : List Int) (a1 : Int) (r : List Int) (w : World) (hr0 : Kd.C (Kd.int .u8) w A0 l0.length l0) (hc0 : l0.length ≤ c0) (h : wire_Put.f l0 a1 = some r) :
    Calls Try.prog 18 #[.slice A0 l0.length c0, .int .u64 a1] w fun e w' => ∃ v0_ : Value, e = .returned (v0_) ∧ Kd.R (Kd.int .u8) 5 w' w.heap.size (fun _ => True) v0_ r ∧ Below w.heap.size w w' := by
  have hh := h
  clear h
  unfold wire_Put.f at hh
  split at hh
  · rename_i hcond
    obtain ⟨ha0, ha1, hl⟩ := hcond
    have HRES := Aside0.mk (Option.some.inj hh)
    clear hh
    have hcl := Aside0.mk (show slices_Clone_byte_byte.f l0 = some l0 by unfold slices_Clone_byte_byte.f; rw [if_pos (by omega)])
    go_enter Try.func18, Try.ntmps18
    go_wp2_with fail
    refine (slices_Clone_byte_byte.calls _ _ l0 l0 _ hr0 hc0 hcl.out).mono ?_
    rintro e w1 ⟨v1, rfl, hR1, hB1⟩
    obtain ⟨A1, n1, rfl, hc1, hC1⟩ := own_C hR1
    have hA1 : A1 = none → l0.length = 0 := by
      rintro rfl
      apply Classical.byContradiction
      intro hne
      obtain ⟨_, _, hr⟩ := Kd.reads_of_C (d := (0 : Int)) hC1
      obtain ⟨ad, h2, _⟩ := hr (by omega)
      cases h2
    have HOUT : Outs .u8 5 w1 w.heap.size (.slice A1 l0.length l0.length) l0 := .inr ⟨A1, rfl, hC1, hA1⟩
    have HO1 := Aside0.mk HOUT
    clear HOUT hC1 hR1 hA1 hr0
    go_wp2_with fail
    refine (clip_any A1 l0.length n1 hc1 w1).mono ?_
    rintro e w2 ⟨rfl, rfl⟩
    have HBB := Aside0.mk hB1
    clear hB1
    go_wp2_with fail
    go_loopw [1, 5] (fun n v wr => ∃ (f : Nat) (m : Int) (xs : List Int), n = .int .u64 m ∧ 0 ≤ m ∧ f ≤ 9 ∧ Aside0 (m < 128 ^ (f + 1)) ∧ m < 18446744073709551616 ∧ Aside0 (xs ++ putGo f m = r) ∧ Aside0 (xs.length + f ≤ 140737488355309) ∧ Aside0 (Outs .u8 5 wr w.heap.size v xs) ∧ Below w.heap.size w wr) (fun n _ _ => (intOf n).toNat)
    case atStart => exact ⟨9, a1, l0, rfl, ha0, Nat.le_refl _, ⟨by omega⟩, ha1, ⟨HRES.out⟩, ⟨by omega⟩, ⟨HO1.out⟩, HBB.out⟩
    case round =>
      obtain ⟨f, m, xs, rfl, hm0, hf, HM, hm64, HX, HL, HO, hBr⟩ := hrel
      by_cases hlt : 128 ≤ m
      · go_wp2_with (at_builtin; refine app_outs (w0 := w) w.heap.size rfl (.tmp 13) (.tmp 17) 23 5 .u8 1 rfl Try.underlying23 info_u8_put (by decide) u5 xs (bits .or .u8 (m % 256) 128) rfl rfl HO.out hBr hBr.size (by have := HL.out; omega) ?_; intro v1 w1 HO2 hB2; clear HO hBr)
        have hm1 := HM.out
        cases f with
        | zero => exact absurd hm1 (by simp; omega)
        | succ f =>
          have hx := HX.out
          have hL := HL.out
          rw [putGo, if_neg (by omega)] at hx
          refine ⟨⟨f, m / 128, xs ++ [bits .or .u8 (m % 256) 128], rfl, by omega, by omega, ⟨?_⟩, by omega, ⟨?_⟩, ⟨?_⟩, ⟨.inl HO2.out⟩, hB2⟩, ?_⟩
          · rw [Int.pow_succ] at hm1
            exact Int.ediv_lt_of_lt_mul (by decide) hm1
          · rw [or128 m hm0, List.append_assoc]; exact hx
          · simp only [List.length_append, List.length_singleton]; omega
          · simp only [intOf]; omega
      · go_wp2_with (at_builtin; refine app_outs (w0 := w) w.heap.size rfl (.tmp 19) (.tmp 22) 23 5 .u8 1 rfl Try.underlying23 info_u8_put (by decide) u5 xs m rfl rfl HO.out hBr hBr.size (by have := HL.out; omega) ?_; intro v1 w1 HO2 hB2; clear HO hBr)
        have hx := HX.out
        have hp : putGo f m = [m] := by
          cases f with
          | zero => rw [putGo]; rw [Int.emod_eq_of_lt hm0 (by omega)]
          | succ f => rw [putGo, if_pos (by omega)]; rw [Int.emod_eq_of_lt hm0 (by omega)]
        rw [hp] at hx
        subst hx
        go_ret
        exact ⟨v1, rfl, HO2.out, hB2⟩
  · cases hh

end Go.Proofs.Yticpcjjgdkbcjaa.G
end

section
-- Written by a program of this session (wip/tools/myprint.py), over the kit's print.
namespace Go.Proofs.Yticpcjjgdkbcjaa.G
open Go.RowKit Go.Proofs.YticpcjjgdkbcjaaW.PrintWords Go.Proofs.YticpcjjgdkbcjaaW.PrintLast Go.Proofs.YticpcjjgdkbcjaaW.PrintMore
attribute [local go_sem] max2_int min2_int max_two min_two max_three min_three max_four min_four   -- for this text's walks alone
set_option linter.unusedVariables false
set_option linter.unusedSimpArgs false

/-! ### wire_PutText: function 19 -/
def wire_PutText.f (l0 : List Int) (a1 : ByteArray) : Option (List Int) := (wire_Put.f l0 (IntKind.u64.wrap ((a1.size : Int)))).bind fun t104 => (if t104.length + a1.size < 140737488355328 then (some (t104 ++ bytesOf a1)) else (none))
set_option maxHeartbeats 8000000 in
set_option maxRecDepth 100000 in
theorem wire_PutText.calls (A0 : Option Addr) (c0 : Nat) (l0 : List Int) (a1 : ByteArray) (r : List Int) (w : World) (hr0 : Kd.C (Kd.int .u8) w A0 l0.length l0) (hc0 : l0.length ≤ c0) (h : wire_PutText.f l0 a1 = some r) :
    Calls Try.prog 19 #[.slice A0 l0.length c0, .string a1] w fun e w' => ∃ v0_ : Value, e = .returned (v0_) ∧ Kd.R (Kd.int .u8) 5 w' w.heap.size (fun _ => True) v0_ r ∧ Below w.heap.size w w' := by
  have HR0 := Aside0.mk hr0
  have HC0 := Aside0.mk hc0
  clear hr0 hc0
  have HB := Aside0.mk (Below.refl w.heap.size w)
  have H : ((wire_Put.f l0 (IntKind.u64.wrap ((a1.size : Int)))).bind fun t104 => (if t104.length + a1.size < 140737488355328 then (some (t104 ++ bytesOf a1)) else (none))) = some r := h
  clear h
  replace H := Option.bind_eq_some_iff.mp H
  obtain ⟨t104, A30, H⟩ := H
  replace H : (if t104.length + a1.size < 140737488355328 then (some (t104 ++ bytesOf a1)) else (none)) = some r := H
  have A3 := Aside0.mk A30
  clear A30
  by_cases c4 : t104.length + a1.size < 140737488355328
  · rw [if_pos c4] at H
    have LMc4 := Aside0.mk c4
    clear c4
    obtain ⟨y107, hy107⟩ : ∃ y_ : List Int, y_ = (t104 ++ bytesOf a1) := ⟨_, rfl⟩
    replace H : (some y107) = some r := by first | (rw [hy107]; with_reducible exact H) | (have H2_ := (Option.bind_some _ _).symm.trans H; rw [hy107]; with_reducible exact H2_) | (have H2_ := (Option.bind_some _ _).symm.trans H; with_reducible exact H2_) | with_reducible exact H | (rw [hy107]; exact H) | exact H
    have Ny107 := Aside0.mk hy107
    clear hy107
    obtain rfl := Option.some.inj H
    go_enter Try.func19, Try.ntmps19
    go_wp2_with (first | ((with_reducible refine gate_callee (f := 18) rfl ?_); refine goesL_ (some 9) rfl rfl Try.func18 (by kernel_rfl) rfl #[.slice A0 l0.length c0, .int .u64 (IntKind.u64.wrap ((a1.size : Int)))] rfl (by (try simp only [List.map_toArray, List.map_cons, List.map_nil]); first | done | rfl | (simp only [List.length_drop, List.length_take]; rfl)) ?_; (with_reducible refine (wire_Put.calls _ _ l0 (IntKind.u64.wrap ((a1.size : Int))) t104 _ ?side1 ?side2 A3.out).mono ?_); (case side1 => repeat (first | exact HR0.out | (with_reducible refine Kd.C_alloc ?_ _) | (with_reducible refine Kd.C_drewN ?_ _) | (with_reducible refine Kd.C_drew ?_))); (case side2 => exact HC0.out); rintro e w5 ⟨v105, rfl, ho0, hb⟩; refine ⟨_, rfl, ?_⟩; have n0_ := Aside0.mk (Kd.R_lower ho0 (below_size (by repeat (first | (with_reducible first | exact HB.out | apply below_alloc | apply pw_below_drewN | apply below_drew1) | exact HB.out)))); have n1_ := Aside0.mk (below_step (by repeat (first | (with_reducible first | exact HB.out | apply below_alloc | apply pw_below_drewN | apply below_drew1) | exact HB.out)) hb); clear HB; have HO106 := n0_; have HB := n1_; clear n0_ n1_; (try clear hb); (try clear hb2); (try clear hk); (try clear hi); (try clear ho0)) | (at_builtin; refine print_append_str (w0 := w) w.heap.size rfl (.tmp 9) _ 23 9 5 rfl Try.underlying23 Try.underlying9 info5 v105 t104 a1 rfl rfl ?aO ?aB ?aS ?aL ?_; (case aB => exact (by repeat (first | (with_reducible first | exact HB.out | apply below_alloc | apply pw_below_drewN | apply below_drew1) | exact HB.out))); (case aO => exact (Kd.own_of_R (by (with_reducible repeat (first | apply Kd.R_alloc | apply Kd.R_drewN | apply Kd.R_drew)); exact HO106.out))); (case aS => exact (below_size (by repeat (first | (with_reducible first | exact HB.out | apply below_alloc | apply pw_below_drewN | apply below_drew1) | exact HB.out)))); (case aL => have := LMc4.out; omega); intro v108 w6 ho0 hb hg; have ho := Kd.R_of_own (h1 := fun _ => rfl) (ok := fun _ => True) ho0 (fun _ _ => trivial); clear ho0; have hat := True.intro; rw [← Ny107.out] at ho; change Kd.R (Kd.int .u8) 5 w6 w.heap.size (fun _ => True) v108 y107 at ho; have n0_ := Aside0.mk (hb); have n1_ := Aside0.mk (ho); clear HB; clear HO106; have HB := n0_; have HO109 := n1_; clear n0_ n1_; clear ho hb hg hat))
    go_ret
    exact ⟨_, by first | rfl | (simp [errW_none, errW_some] <;> rfl) | (simp [*, errW_none, errW_some] <;> rfl), by (with_reducible repeat (first | apply Kd.R_alloc | apply Kd.R_drewN | apply Kd.R_drew)); exact HO109.out, by repeat (first | (with_reducible first | exact HB.out | apply below_alloc | apply pw_below_drewN | apply below_drew1) | exact HB.out)⟩
  · rw [if_neg c4] at H
    exact absurd H (by simp)

end Go.Proofs.Yticpcjjgdkbcjaa.G
end

section
-- Written by a program of this session (wip/tools/myprint.py), over the kit's print.
namespace Go.Proofs.Yticpcjjgdkbcjaa.G
open Go.RowKit Go.Proofs.YticpcjjgdkbcjaaW.PrintWords Go.Proofs.YticpcjjgdkbcjaaW.PrintLast Go.Proofs.YticpcjjgdkbcjaaW.PrintMore
attribute [local go_sem] max2_int min2_int max_two min_two max_three min_three max_four min_four   -- for this text's walks alone
set_option linter.unusedVariables false
set_option linter.unusedSimpArgs false

-- BY HAND
-- IMPORT YticpcjjgdkbcjaaConcat
-- over: crc_Seal.f
def frame_Make.f (l0 : List Int) : Option (List Int × Int) := if 8192 < l0.length then some ([], 4) else (crc_Seal.f [(l0.length : Int) % 256, (l0.length : Int) / 256]).bind fun h => (crc_Seal.f l0).bind fun t => if h.length ≤ 40000 ∧ t.length ≤ 40000 then some (h ++ t, 0) else none
set_option maxRecDepth 100000 in
set_option maxHeartbeats 2000000 in
theorem frame_Make.calls (A0 : Option Addr) (c0 : Nat) (l0 : List Int) (r1 : List Int) (r2 : Int) (w : World) (hr0 : Kd.C (Kd.int .u8) w A0 l0.length l0) (hc0 : l0.length ≤ c0) (h : frame_Make.f l0 = some (r1, r2)) :
    Calls Try.prog 20 #[.slice A0 l0.length c0] w fun e w' => ∃ v0_ : Value, e = .returned (.tuple #[v0_, .int .i64 r2]) ∧ Kd.R (Kd.int .u8) 5 w' w.heap.size (fun _ => True) v0_ r1 ∧ Below w.heap.size w w' := by
  unfold frame_Make.f at h
  by_cases hbig : 8192 < l0.length
  · rw [if_pos hbig] at h
    obtain ⟨rfl, rfl⟩ := Prod.mk.inj (Option.some.inj h)
    clear h
    go_enter Try.func20, Try.ntmps20
    go_wp2
    go_ret2
    exact ⟨_, rfl, Kd.R_nil _ _ _ _ _, Below.refl _ _⟩
  · rw [if_neg hbig] at h
    obtain ⟨hd, h1, h⟩ := Option.bind_eq_some_iff.mp h
    obtain ⟨tl, h2, h⟩ := Option.bind_eq_some_iff.mp h
    split at h
    · rename_i hlen
      obtain ⟨rfl, rfl⟩ := Prod.mk.inj (Option.some.inj h)
      clear h
      have HR := Aside0.mk (HeldB.low hr0)
      have E1 := Aside0.mk h1
      have E2 := Aside0.mk h2
      have HL := Aside0.mk hlen
      clear hr0 h1 h2 hlen
      have hsmall : l0.length ≤ 8192 := by omega
      go_enter Try.func20, Try.ntmps20
      go_wp2_with fail
      refine (crc_Seal.calls _ _ [(l0.length : Int) % 256, (l0.length : Int) / 256] hd _ (lit_C w 5 .u8 [(l0.length : Int) % 256, (l0.length : Int) / 256] (by simp)) (Nat.le_refl _) E1.out).mono ?_
      rintro e w2 ⟨v2, rfl, hRr, hB⟩
      obtain ⟨Ah, ch, rfl, hch, _, hH, _⟩ := held_own hRr
      have HB2 : Aside0 (Below w.heap.size w w2) := ⟨((Below.refl _ _).alloc (Nat.le_refl _) _).trans (hB.mono (by simp))⟩
      have HR2 := Aside0.mk ((HR.out.below ((Below.refl _ _).alloc (Nat.le_refl _) _)).below hB)
      have HH2 := Aside0.mk (hH.mono (S' := fun k => k < w2.heap.size) (fun k hk => hk.2))
      clear hRr hB hH HR
      go_wp2_with fail
      refine (crc_Seal.calls _ _ l0 tl _ (HR2.out.C (by omega)) hc0 E2.out).mono ?_
      rintro e w3 ⟨v3, rfl, hRr, hB⟩
      obtain ⟨At, ct, rfl, hct, _, hH, _⟩ := held_own hRr
      have HB3 : Aside0 (Below w.heap.size w w3) := ⟨HB2.out.trans (hB.mono HB2.out.size)⟩
      have hs3 := hB.size
      have HH3 := Aside0.mk ((HH2.out.below hB).mono (S' := fun k => k < w3.heap.size) (fun k hk => by omega))
      have HT3 := Aside0.mk (hH.mono (S' := fun k => k < w3.heap.size) (fun k hk => hk.2))
      clear hRr hB hH HR2 HB2 HH2 hs3
      go_wp2_with fail
      have hba := (Below.refl w3.heap.size w3).alloc (Nat.le_refl _) (.cells #[.slice Ah hd.length ch, .slice At tl.length ct] 23)
      have hcell := heap_alloc_new w3 (.cells #[.slice Ah hd.length ch, .slice At tl.length ct] 23)
      refine (concat_two w3.heap.size 2 Ah ch hd At ct tl _ hcell ((HH3.out.below hba).mono (fun k hk => by simp; omega)) ((HT3.out.below hba).mono (fun k hk => by simp; omega)) HL.out.1 HL.out.2).mono ?_
      rintro e w4 ⟨v4, rfl, hRr, hB⟩
      have HB4 : Aside0 (Below w.heap.size w w4) := ⟨(HB3.out.alloc HB3.out.size _).trans (hB.mono (by have := HB3.out.size; simp; omega))⟩
      have hRl := Kd.R_lower hRr (base' := w.heap.size) (by have := HB3.out.size; simp; omega)
      clear hRr hB hba hcell
      go_wp2
      go_ret2
      exact ⟨_, rfl, hRl, HB4.out⟩
    · cases h

end Go.Proofs.Yticpcjjgdkbcjaa.G
end

section
-- Written by a program of this session (wip/tools/myprint.py), over the kit's print.
namespace Go.Proofs.Yticpcjjgdkbcjaa.G
open Go.RowKit Go.Proofs.YticpcjjgdkbcjaaW.PrintWords Go.Proofs.YticpcjjgdkbcjaaW.PrintLast Go.Proofs.YticpcjjgdkbcjaaW.PrintMore
attribute [local go_sem] max2_int min2_int max_two min_two max_three min_three max_four min_four   -- for this text's walks alone
set_option linter.unusedVariables false
set_option linter.unusedSimpArgs false

/-! ### packet_Encode: function 9 -/
mutual
def packet_Encode.j0 : Nat → List Int → Int → Int → Int → Int → Int → List Int → Option (List Int × Bool)
  | 0, _, _, _, _, _, _, _ => none
  | k + 1, x4, x113000, x113001, x113002, x113003, x113004, x113005 => if x113000 = 2 then (packet_Encode.j1 k x4 true x113000 x113001 x113002 x113003 x113004 x113005) else (packet_Encode.j1 k x4 (x113000 == 3) x113000 x113001 x113002 x113003 x113004 x113005)
def packet_Encode.j1 : Nat → List Int → Bool → Int → Int → Int → Int → Int → List Int → Option (List Int × Bool)
  | 0, _, _, _, _, _, _, _, _ => none
  | k + 1, x4, x37, x113000, x113001, x113002, x113003, x113004, x113005 => if x37 = true then ((wire_Put.f x4 (IntKind.u64.wrap (x113002))).bind fun t126 => (packet_Encode.j2 k t126 x113000 x113001 x113002 x113003 x113004 x113005)) else (packet_Encode.j2 k x4 x113000 x113001 x113002 x113003 x113004 x113005)
def packet_Encode.j2 : Nat → List Int → Int → Int → Int → Int → Int → List Int → Option (List Int × Bool)
  | 0, _, _, _, _, _, _, _ => none
  | k + 1, x4, x113000, x113001, x113002, x113003, x113004, x113005 => if (x113005.length : Int) > 0 then ((wire_PutText.f x4 (strOfNums x113005)).bind fun t129 => ((frame_Make.f t129).bind fun bt132 => (some (bt132.1, (bt132.2 == 0))))) else ((frame_Make.f x4).bind fun bt136 => (some (bt136.1, (bt136.2 == 0))))
end
def packet_Encode.f (k : Nat) (a0_0 : Int) (a0_1 : Int) (a0_2 : Int) (a0_3 : Int) (a0_4 : Int) (l0_5 : List Int) : Option (List Int × Bool) := (packet_right.f a0_0 a0_1 a0_2 a0_3 a0_4 l0_5).bind fun t113 => (if t113 = true then ((wire_Put.f ([] : List Int) (IntKind.u64.wrap (a0_0))).bind fun t114 => ((wire_Put.f t114 (IntKind.u64.wrap (a0_1))).bind fun t117 => (if a0_0 = 1 then ((wire_Put.f t117 (IntKind.u64.wrap (a0_3))).bind fun t120 => ((wire_Put.f t120 (IntKind.u64.wrap (a0_4))).bind fun t123 => (packet_Encode.j0 k t123 a0_0 a0_1 a0_2 a0_3 a0_4 l0_5))) else (packet_Encode.j0 k t117 a0_0 a0_1 a0_2 a0_3 a0_4 l0_5)))) else (some (([] : List Int), false)))
theorem packet_Encode.mono_l : ∀ k, (∀ y0 y1 y2 y3 y4 y5 y6, LeO (packet_Encode.j0 k y0 y1 y2 y3 y4 y5 y6) (packet_Encode.j0 (k + 1) y0 y1 y2 y3 y4 y5 y6)) ∧ (∀ y0 y1 y2 y3 y4 y5 y6 y7, LeO (packet_Encode.j1 k y0 y1 y2 y3 y4 y5 y6 y7) (packet_Encode.j1 (k + 1) y0 y1 y2 y3 y4 y5 y6 y7)) ∧ (∀ y0 y1 y2 y3 y4 y5 y6, LeO (packet_Encode.j2 k y0 y1 y2 y3 y4 y5 y6) (packet_Encode.j2 (k + 1) y0 y1 y2 y3 y4 y5 y6))
  | 0 => ⟨fun _ _ _ _ _ _ _ r h => by simp [packet_Encode.j0] at h, fun _ _ _ _ _ _ _ _ r h => by simp [packet_Encode.j1] at h, fun _ _ _ _ _ _ _ r h => by simp [packet_Encode.j2] at h⟩
  | k + 1 => by
    obtain ⟨ih0, ih1, ih2⟩ := packet_Encode.mono_l k
    refine ⟨?_, ?_, ?_⟩
    · intro y0 y1 y2 y3 y4 y5 y6
      unfold packet_Encode.j0
      repeat' first
      | (with_reducible exact ih0 _ _ _ _ _ _ _)
      | (with_reducible exact ih1 _ _ _ _ _ _ _ _)
      | (with_reducible exact ih2 _ _ _ _ _ _ _)
      | (with_reducible exact LeO.refl _)
      | (with_reducible exact LeO.none _)
      | (with_reducible refine LeO.ite ?_ ?_)
      | (with_reducible refine LeO.bind ?_ (fun _ => ?_))
      | exact ih0 _ _ _ _ _ _ _
      | exact ih1 _ _ _ _ _ _ _ _
      | exact ih2 _ _ _ _ _ _ _
      | exact LeO.none _
      | refine LeO.ite ?_ ?_
      | refine LeO.bind ?_ (fun _ => ?_)
    · intro y0 y1 y2 y3 y4 y5 y6 y7
      unfold packet_Encode.j1
      repeat' first
      | (with_reducible exact ih0 _ _ _ _ _ _ _)
      | (with_reducible exact ih1 _ _ _ _ _ _ _ _)
      | (with_reducible exact ih2 _ _ _ _ _ _ _)
      | (with_reducible exact LeO.refl _)
      | (with_reducible exact LeO.none _)
      | (with_reducible refine LeO.ite ?_ ?_)
      | (with_reducible refine LeO.bind ?_ (fun _ => ?_))
      | exact ih0 _ _ _ _ _ _ _
      | exact ih1 _ _ _ _ _ _ _ _
      | exact ih2 _ _ _ _ _ _ _
      | exact LeO.none _
      | refine LeO.ite ?_ ?_
      | refine LeO.bind ?_ (fun _ => ?_)
    · intro y0 y1 y2 y3 y4 y5 y6
      unfold packet_Encode.j2
      repeat' first
      | (with_reducible exact ih0 _ _ _ _ _ _ _)
      | (with_reducible exact ih1 _ _ _ _ _ _ _ _)
      | (with_reducible exact ih2 _ _ _ _ _ _ _)
      | (with_reducible exact LeO.refl _)
      | (with_reducible exact LeO.none _)
      | (with_reducible refine LeO.ite ?_ ?_)
      | (with_reducible refine LeO.bind ?_ (fun _ => ?_))
      | exact ih0 _ _ _ _ _ _ _
      | exact ih1 _ _ _ _ _ _ _ _
      | exact ih2 _ _ _ _ _ _ _
      | exact LeO.none _
      | refine LeO.ite ?_ ?_
      | refine LeO.bind ?_ (fun _ => ?_)
theorem packet_Encode.mono : ∀ a0 a1 a2 a3 a4 a5 k, LeO (packet_Encode.f k a0 a1 a2 a3 a4 a5) (packet_Encode.f (k + 1) a0 a1 a2 a3 a4 a5) := by
  intro a0 a1 a2 a3 a4 a5 k
  obtain ⟨ih0, ih1, ih2⟩ := packet_Encode.mono_l k
  unfold packet_Encode.f
  repeat' first
      | (with_reducible exact ih0 _ _ _ _ _ _ _)
      | (with_reducible exact ih1 _ _ _ _ _ _ _ _)
      | (with_reducible exact ih2 _ _ _ _ _ _ _)
      | (with_reducible exact LeO.refl _)
      | (with_reducible exact LeO.none _)
      | (with_reducible refine LeO.ite ?_ ?_)
      | (with_reducible refine LeO.bind ?_ (fun _ => ?_))
      | exact ih0 _ _ _ _ _ _ _
      | exact ih1 _ _ _ _ _ _ _ _
      | exact ih2 _ _ _ _ _ _ _
      | exact LeO.none _
      | refine LeO.ite ?_ ?_
      | refine LeO.bind ?_ (fun _ => ?_)
def packet_Encode.T3 : Bool × List (List Nat × List Nat) := (true, [([], []), ([0], [0]), ([1], [1]), ([2], [2]), ([], []), ([4], [4]), ([5], [5]), ([3, 6, 3], [3, 6]), ([7, 7, 0, 1, 2, 3, 4, 5, 6, 7], [7])])
def packet_Encode.B3 : List Nat := [0, 1, 3, 7, 0, 16, 48, 127, 255]
theorem packet_Encode.tab3 : rtab .any (opsOf Try.f9 3) = packet_Encode.T3 := by kernel_rfl
theorem packet_Encode.bits3 : waitsOk packet_Encode.T3.2 packet_Encode.B3 = true := by kernel_rfl
def packet_Encode.T5 : Bool × List (List Nat × List Nat) := (true, [([], []), ([], []), ([1], [1]), ([2], [2]), ([0, 3], [0, 3]), ([], []), ([5], [5]), ([6], [6]), ([4, 7, 4], [4, 7]), ([8, 8, 0, 1, 2, 3, 4, 5, 6, 7, 8], [0, 8])])
def packet_Encode.B5 : List Nat := [0, 0, 2, 6, 15, 0, 32, 96, 255, 511]
theorem packet_Encode.tab5 : rtab .any (opsOf Try.f9 5) = packet_Encode.T5 := by kernel_rfl
theorem packet_Encode.bits5 : waitsOk packet_Encode.T5.2 packet_Encode.B5 = true := by kernel_rfl
set_option maxHeartbeats 8000000 in
set_option maxRecDepth 100000 in
theorem packet_Encode.calls (k : Nat) (a0_0 : Int) (a0_1 : Int) (a0_2 : Int) (a0_3 : Int) (a0_4 : Int) (A0_5 : Option Addr) (c0_5 : Nat) (l0_5 : List Int) (r1 : List Int) (r2 : Bool) (w : World) (hr0_5 : Kd.C (Kd.int .u8) w A0_5 l0_5.length l0_5) (hc0_5 : l0_5.length ≤ c0_5) (h : packet_Encode.f k a0_0 a0_1 a0_2 a0_3 a0_4 l0_5 = some (r1, r2)) :
    Calls Try.prog 9 #[.agg #[.int .i64 a0_0, .int .i64 a0_1, .int .i64 a0_2, .int .i64 a0_3, .int .u32 a0_4, .slice A0_5 l0_5.length c0_5]] w fun e w' => ∃ v0_ : Value, e = .returned (.tuple #[v0_, .bool r2]) ∧ Kd.R (Kd.int .u8) 5 w' w.heap.size (fun _ => True) v0_ r1 ∧ Below w.heap.size w w' := by
  have hu25 := Try.underlying25
  have HR0_5 := Aside0.mk hr0_5
  have HC0_5 := Aside0.mk hc0_5
  clear hr0_5 hc0_5
  have HB := Aside0.mk (Below.refl w.heap.size w)
  have H : ((packet_right.f a0_0 a0_1 a0_2 a0_3 a0_4 l0_5).bind fun t113 => (if t113 = true then ((wire_Put.f ([] : List Int) (IntKind.u64.wrap (a0_0))).bind fun t114 => ((wire_Put.f t114 (IntKind.u64.wrap (a0_1))).bind fun t117 => (if a0_0 = 1 then ((wire_Put.f t117 (IntKind.u64.wrap (a0_3))).bind fun t120 => ((wire_Put.f t120 (IntKind.u64.wrap (a0_4))).bind fun t123 => (packet_Encode.j0 k t123 a0_0 a0_1 a0_2 a0_3 a0_4 l0_5))) else (packet_Encode.j0 k t117 a0_0 a0_1 a0_2 a0_3 a0_4 l0_5)))) else (some (([] : List Int), false)))) = some (r1, r2) := h
  clear h
  replace H := Option.bind_eq_some_iff.mp H
  obtain ⟨t113, A20, H⟩ := H
  replace H : (if t113 = true then ((wire_Put.f ([] : List Int) (IntKind.u64.wrap (a0_0))).bind fun t114 => ((wire_Put.f t114 (IntKind.u64.wrap (a0_1))).bind fun t117 => (if a0_0 = 1 then ((wire_Put.f t117 (IntKind.u64.wrap (a0_3))).bind fun t120 => ((wire_Put.f t120 (IntKind.u64.wrap (a0_4))).bind fun t123 => (packet_Encode.j0 k t123 a0_0 a0_1 a0_2 a0_3 a0_4 l0_5))) else (packet_Encode.j0 k t117 a0_0 a0_1 a0_2 a0_3 a0_4 l0_5)))) else (some (([] : List Int), false))) = some (r1, r2) := H
  have A2 := Aside0.mk A20
  clear A20
  by_cases c3 : t113 = true
  · subst c3
    have H1 : ((wire_Put.f ([] : List Int) (IntKind.u64.wrap (a0_0))).bind fun t114 => ((wire_Put.f t114 (IntKind.u64.wrap (a0_1))).bind fun t117 => (if a0_0 = 1 then ((wire_Put.f t117 (IntKind.u64.wrap (a0_3))).bind fun t120 => ((wire_Put.f t120 (IntKind.u64.wrap (a0_4))).bind fun t123 => (packet_Encode.j0 k t123 a0_0 a0_1 a0_2 a0_3 a0_4 l0_5))) else (packet_Encode.j0 k t117 a0_0 a0_1 a0_2 a0_3 a0_4 l0_5)))) = some (r1, r2) := by rw [if_pos rfl] at H; exact H
    clear H
    have H := H1
    clear H1
    replace H := Option.bind_eq_some_iff.mp H
    obtain ⟨t114, A40, H⟩ := H
    replace H : ((wire_Put.f t114 (IntKind.u64.wrap (a0_1))).bind fun t117 => (if a0_0 = 1 then ((wire_Put.f t117 (IntKind.u64.wrap (a0_3))).bind fun t120 => ((wire_Put.f t120 (IntKind.u64.wrap (a0_4))).bind fun t123 => (packet_Encode.j0 k t123 a0_0 a0_1 a0_2 a0_3 a0_4 l0_5))) else (packet_Encode.j0 k t117 a0_0 a0_1 a0_2 a0_3 a0_4 l0_5))) = some (r1, r2) := H
    have A4 := Aside0.mk A40
    clear A40
    replace H := Option.bind_eq_some_iff.mp H
    obtain ⟨t117, A50, H⟩ := H
    replace H : (if a0_0 = 1 then ((wire_Put.f t117 (IntKind.u64.wrap (a0_3))).bind fun t120 => ((wire_Put.f t120 (IntKind.u64.wrap (a0_4))).bind fun t123 => (packet_Encode.j0 k t123 a0_0 a0_1 a0_2 a0_3 a0_4 l0_5))) else (packet_Encode.j0 k t117 a0_0 a0_1 a0_2 a0_3 a0_4 l0_5)) = some (r1, r2) := H
    have A5 := Aside0.mk A50
    clear A50
    have HC6 := Aside0.mk H
    clear H
    go_enter Try.func9, Try.ntmps9
    try go_wp2_with (first | ((with_reducible refine gate_dst (N := 1) rfl ?_); refine box_event ?hg (N := 1) ?hd (cs := #[.int .i64 a0_0, .int .i64 a0_1, .int .i64 a0_2, .int .i64 a0_3, .int .u32 a0_4, .slice A0_5 l0_5.length c0_5]) (t := 25) ?hr ?_; (case hd => rfl); (case hg => rfl); (case hr => first | (go_simp; done) | (go_simp; rfl)); intro gb112 hg w7 hbox hb; have n0_ := Aside0.mk (below_step (by repeat (first | (with_reducible first | exact HB.out | apply below_alloc | apply pw_below_drewN | apply below_drew1) | exact HB.out)) hb); have n1_ := Aside0.mk (hbox); have n2_ := Aside0.mk ((by rw [hg]; exact (below_size (by repeat (first | (with_reducible first | exact HB.out | apply below_alloc | apply pw_below_drewN | apply below_drew1) | exact HB.out))) : w.heap.size ≤ gb112)); have n3_ := Aside0.mk ((by rw [hg]; exact (below_size (by repeat (first | (with_reducible first | exact HB.out | apply below_alloc | apply pw_below_drewN | apply below_drew1) | exact HB.out))) : w.heap.size ≤ gb112)); clear HB; have HB := n0_; have BK112 := n1_; have GW112 := n2_; have GE112 := n3_; clear n0_ n1_ n2_ n3_; clear hb hbox hg; have hcz8_0 : w7.cell? ⟨gb112, 0, none⟩ = some (.int .i64 a0_0) := (blk_cell BK112.out 0).trans rfl; have hcz8_1 : w7.cell? ⟨gb112, 1, none⟩ = some (.int .i64 a0_1) := (blk_cell BK112.out 1).trans rfl; have hcz8_2 : w7.cell? ⟨gb112, 2, none⟩ = some (.int .i64 a0_2) := (blk_cell BK112.out 2).trans rfl; have hcz8_3 : w7.cell? ⟨gb112, 3, none⟩ = some (.int .i64 a0_3) := (blk_cell BK112.out 3).trans rfl; have hcz8_4 : w7.cell? ⟨gb112, 4, none⟩ = some (.int .u32 a0_4) := (blk_cell BK112.out 4).trans rfl; have hcz8_5 : w7.cell? ⟨gb112, 5, none⟩ = some (.slice A0_5 l0_5.length c0_5) := (blk_cell BK112.out 5).trans rfl; have hfz8_0 := blk_frozen BK112.out 0; have hfz8_1 := blk_frozen BK112.out 1; have hfz8_2 := blk_frozen BK112.out 2; have hfz8_3 := blk_frozen BK112.out 3; have hfz8_4 := blk_frozen BK112.out 4; have hfz8_5 := blk_frozen BK112.out 5) | ((with_reducible refine gate_callee (f := 17) rfl ?_); refine goesL_ (some 8) rfl rfl Try.func17 (by kernel_rfl) rfl #[.agg #[.int .i64 a0_0, .int .i64 a0_1, .int .i64 a0_2, .int .i64 a0_3, .int .u32 a0_4, .slice A0_5 l0_5.length c0_5]] rfl (by (try simp only [List.map_toArray, List.map_cons, List.map_nil]); first | done | rfl | (simp only [List.length_drop, List.length_take]; rfl)) ?_; (with_reducible refine (packet_right.calls a0_0 a0_1 a0_2 a0_3 a0_4 _ _ l0_5 true _ ?side1 ?side2 A2.out).mono ?_); (case side1 => repeat (first | exact (Kd.C_below HR0_5.out HB.out) | (with_reducible refine Kd.C_alloc ?_ _) | (with_reducible refine Kd.C_drewN ?_ _) | (with_reducible refine Kd.C_drew ?_))); (case side2 => exact HC0_5.out); rintro e w9 ⟨rfl, hb⟩; refine ⟨_, rfl, ?_⟩; have n0_ := Aside0.mk (blk_below (g := gb112) (o := .cells #[.int .i64 a0_0, .int .i64 a0_1, .int .i64 a0_2, .int .i64 a0_3, .int .u32 a0_4, .slice A0_5 l0_5.length c0_5] 25 (0, 0)) (by (with_reducible repeat (first | refine blk_drewN ?_ _ | refine blk_drew ?_ | refine blk_alloc ?_ _)); exact BK112.out) hb); have n1_ := Aside0.mk (below_step (by repeat (first | (with_reducible first | exact HB.out | apply below_alloc | apply pw_below_drewN | apply below_drew1 | refine below_set ?_ GE112.out) | exact HB.out)) hb); clear BK112; clear HB; have BK112 := n0_; have HB := n1_; clear n0_ n1_; (try clear hb); (try clear hb2); (try clear hk); (try clear hi)))
    have n0_ := Aside0.mk (blk_drew BK112.out)
    have n1_ := Aside0.mk (below_drew1 HB.out)
    clear BK112
    clear HB
    have BK112 := n0_
    have HB := n1_
    clear n0_ n1_
    refine start_ (n := 9) (S := fun w' => w'.cell? ⟨gb112, 0, none⟩ = some (.int .i64 a0_0) ∧ w'.cell? ⟨gb112, 1, none⟩ = some (.int .i64 a0_1) ∧ w'.cell? ⟨gb112, 2, none⟩ = some (.int .i64 a0_2) ∧ w'.cell? ⟨gb112, 3, none⟩ = some (.int .i64 a0_3) ∧ w'.cell? ⟨gb112, 4, none⟩ = some (.int .u32 a0_4) ∧ w'.cell? ⟨gb112, 5, none⟩ = some (.slice A0_5 l0_5.length c0_5)) (ds := []) #[false, false, false, false, false, false, false, false, false] (by kernel_rfl) rfl rfl ⟨(blk_cell BK112.out 0).trans rfl, (blk_cell BK112.out 1).trans rfl, (blk_cell BK112.out 2).trans rfl, (blk_cell BK112.out 3).trans rfl, (blk_cell BK112.out 4).trans rfl, (blk_cell BK112.out 5).trans rfl⟩ (fun hHeld => ?_); refine with_tabW packet_Encode.tab3 packet_Encode.bits3 (fun HT_ HW_ => ?_)
    generalize w9.drew = w10 at BK112 HB hHeld ⊢
    refine pure_ (i := 0) (N := some 10) (v := ?_) (a' := ?_) #[true, false, false, false, false, false, false, false, false] rfl rfl (any_of HT_.out (by kernel_rfl)) (fun _ _ _ h => h) (Or.inl ⟨by rfl, ?_⟩) ?_ ?_
    rotate_left
    · intro w'
      go_simp
      with_reducible rfl
    rotate_left
    · simp only [Act.put, List.setIfInBounds_toArray, List.set_cons_zero, List.set_cons_succ, i64_w, i32_w]
      rfl
    refine pure_ (i := 4) (N := some 14) (v := ?_) (a' := ?_) #[true, false, false, false, true, false, false, false, false] rfl rfl (any_of HT_.out (by kernel_rfl)) (fun _ _ _ h => h) (Or.inl ⟨by rfl, ?_⟩) ?_ ?_
    rotate_left
    · intro w'
      go_simp
      with_reducible rfl
    rotate_left
    · simp only [Act.put, List.setIfInBounds_toArray, List.set_cons_zero, List.set_cons_succ, i64_w, i32_w]
      rfl
    refine take_ (i := 1) (N := some 11) (v := ?_) (a' := ?_) #[true, true, false, false, true, false, false, false, false] rfl rfl (take_ofW HT_.out HW_.out (by kernel_rfl)) (fun _ _ _ h => h) (Or.inl ⟨by rfl, ?_⟩) hHeld ?_ ?_
    rotate_left
    · rintro w' ⟨s0, s1, s2, s3, s4, s5⟩
      go_simp
      with_reducible rfl
    rotate_left
    · simp only [Act.put, List.setIfInBounds_toArray, List.set_cons_zero, List.set_cons_succ, i64_w, i32_w]
      rfl
    refine pure_ (i := 2) (N := some 12) (v := ?_) (a' := ?_) #[true, true, true, false, true, false, false, false, false] rfl rfl (any_of HT_.out (by kernel_rfl)) (fun _ _ _ h => h) (Or.inl ⟨by rfl, ?_⟩) ?_ ?_
    rotate_left
    · intro w'
      go_simp
      with_reducible rfl
    rotate_left
    · simp only [Act.put, List.setIfInBounds_toArray, List.set_cons_zero, List.set_cons_succ, i64_w, i32_w]
      rfl
    refine take_ (i := 5) (N := some 15) (v := ?_) (a' := ?_) #[true, true, true, false, true, true, false, false, false] rfl rfl (take_ofW HT_.out HW_.out (by kernel_rfl)) (fun _ _ _ h => h) (Or.inl ⟨by rfl, ?_⟩) hHeld ?_ ?_
    rotate_left
    · rintro w' ⟨s0, s1, s2, s3, s4, s5⟩
      go_simp
      with_reducible rfl
    rotate_left
    · simp only [Act.put, List.setIfInBounds_toArray, List.set_cons_zero, List.set_cons_succ, i64_w, i32_w]
      rfl
    refine pure_ (i := 6) (N := some 16) (v := ?_) (a' := ?_) #[true, true, true, false, true, true, true, false, false] rfl rfl (any_of HT_.out (by kernel_rfl)) (fun _ _ _ h => h) (Or.inl ⟨by rfl, ?_⟩) ?_ ?_
    rotate_left
    · intro w'
      go_simp
      with_reducible rfl
    rotate_left
    · simp only [Act.put, List.setIfInBounds_toArray, List.set_cons_zero, List.set_cons_succ, i64_w, i32_w]
      rfl
    refine one_ (i := 3) (N := some 13) #[true, true, true, true, true, true, true, false, false] rfl rfl (one_of HT_.out (by kernel_rfl)) (by decide) (fun K hK => ?_)
    refine goes_ Try.func18 (by kernel_rfl) rfl #[.slice none 0 0, .int .u64 (IntKind.u64.wrap (a0_0))] (by rfl) rfl rfl (by (try simp only [List.map_toArray, List.map_cons, List.map_nil]); first | done | rfl | (simp only [List.length_drop, List.length_take]; rfl)) ?_
    refine (wire_Put.calls _ _ ([] : List Int) (IntKind.u64.wrap (a0_0)) t114 _ ?side1 ?side2 A4.out).mono ?_
    (case side1 => exact Kd.C_nil _ _)
    (case side2 => exact Nat.le_refl _)
    rintro e w11 ⟨v115, rfl, ho0, hb⟩
    refine ⟨_, rfl, ?_⟩
    have n0_ := Aside0.mk (Kd.R_lower ho0 (below_size (by repeat (first | (with_reducible first | exact HB.out | apply below_alloc | apply pw_below_drewN | apply below_drew1 | refine below_set ?_ GE112.out) | exact HB.out))))
    have n1_ := Aside0.mk (blk_below (g := gb112) (o := .cells #[.int .i64 a0_0, .int .i64 a0_1, .int .i64 a0_2, .int .i64 a0_3, .int .u32 a0_4, .slice A0_5 l0_5.length c0_5] 25 (0, 0)) (by (with_reducible repeat (first | refine blk_drewN ?_ _ | refine blk_drew ?_ | refine blk_alloc ?_ _)); exact BK112.out) hb)
    have n2_ := Aside0.mk (below_step (by repeat (first | (with_reducible first | exact HB.out | apply below_alloc | apply pw_below_drewN | apply below_drew1 | refine below_set ?_ GE112.out) | exact HB.out)) hb)
    clear BK112
    clear HB
    have HO116 := n0_
    have BK112 := n1_
    have HB := n2_
    clear n0_ n1_ n2_
    (try clear hb)
    (try clear hb2)
    (try clear hk)
    (try clear hi)
    (try clear ho0)
    obtain ⟨Ao12, co12, eo12⟩ := Kd.R_slice HO116.out
    (first | subst eo12 | (injection eo12 with f1_ f2_ f3_; have f4_ := f1_.symm; have f5_ := f3_.symm; clear f1_ f2_ f3_; subst f4_; subst f5_))
    refine hK.out _ _ ⟨(blk_cell BK112.out 0).trans rfl, (blk_cell BK112.out 1).trans rfl, (blk_cell BK112.out 2).trans rfl, (blk_cell BK112.out 3).trans rfl, (blk_cell BK112.out 4).trans rfl, (blk_cell BK112.out 5).trans rfl⟩ (fun hHeld => ?_)
    clear hK K
    refine norm_ (a' := ?_) ?_ ?_
    rotate_left
    · show Act.put _ (some 13) _ = _
      simp only [Act.put, List.setIfInBounds_toArray, List.set_cons_zero, List.set_cons_succ, i64_w, i32_w]
      rfl
    refine one_ (i := 7) (N := some 17) #[true, true, true, true, true, true, true, true, false] rfl rfl (one_of HT_.out (by kernel_rfl)) (by decide) (fun K hK => ?_)
    refine goes_ Try.func18 (by kernel_rfl) rfl #[.slice Ao12 t114.length co12, .int .u64 (IntKind.u64.wrap (a0_1))] (by rfl) rfl rfl (by (try simp only [List.map_toArray, List.map_cons, List.map_nil]); first | done | rfl | (simp only [List.length_drop, List.length_take]; rfl)) ?_
    with_reducible refine (wire_Put.calls _ _ t114 (IntKind.u64.wrap (a0_1)) t117 _ ?side1 ?side2 A5.out).mono ?_
    (case side1 => repeat (first | exact (Kd.R_reads' HO116.out).2.2 | (with_reducible refine Kd.C_alloc ?_ _) | (with_reducible refine Kd.C_drewN ?_ _) | (with_reducible refine Kd.C_drew ?_)))
    (case side2 => exact (Kd.R_reads' HO116.out).2.1)
    rintro e w13 ⟨v118, rfl, ho0, hb⟩
    refine ⟨_, rfl, ?_⟩
    have n0_ := Aside0.mk (Kd.R_elder' (by (with_reducible repeat (first | apply Kd.R_alloc | apply Kd.R_drewN | apply Kd.R_drew)); exact HO116.out) (Kd.R_base ho0) hb)
    have n1_ := Aside0.mk (Kd.R_lower (Kd.R_new' ho0 (Kd.R_lt (by (with_reducible repeat (first | apply Kd.R_alloc | apply Kd.R_drewN | apply Kd.R_drew)); exact HO116.out))) (below_size (by repeat (first | (with_reducible first | exact HB.out | apply below_alloc | apply pw_below_drewN | apply below_drew1 | refine below_set ?_ GE112.out) | exact HB.out))))
    have n2_ := Aside0.mk (blk_below (g := gb112) (o := .cells #[.int .i64 a0_0, .int .i64 a0_1, .int .i64 a0_2, .int .i64 a0_3, .int .u32 a0_4, .slice A0_5 l0_5.length c0_5] 25 (0, 0)) (by (with_reducible repeat (first | refine blk_drewN ?_ _ | refine blk_drew ?_ | refine blk_alloc ?_ _)); exact BK112.out) hb)
    have n3_ := Aside0.mk (below_step (by repeat (first | (with_reducible first | exact HB.out | apply below_alloc | apply pw_below_drewN | apply below_drew1 | refine below_set ?_ GE112.out) | exact HB.out)) hb)
    clear HO116
    clear BK112
    clear HB
    have HO116 := n0_
    have HO119 := n1_
    have BK112 := n2_
    have HB := n3_
    clear n0_ n1_ n2_ n3_
    (try clear hb)
    (try clear hb2)
    (try clear hk)
    (try clear hi)
    (try clear ho0)
    refine hK.out _ _ ⟨(blk_cell BK112.out 0).trans rfl, (blk_cell BK112.out 1).trans rfl, (blk_cell BK112.out 2).trans rfl, (blk_cell BK112.out 3).trans rfl, (blk_cell BK112.out 4).trans rfl, (blk_cell BK112.out 5).trans rfl⟩ (fun hHeld => ?_)
    clear hK K
    refine norm_ (a' := ?_) ?_ ?_
    rotate_left
    · show Act.put _ (some 17) _ = _
      simp only [Act.put, List.setIfInBounds_toArray, List.set_cons_zero, List.set_cons_succ, i64_w, i32_w]
      rfl
    refine pure_ (i := 8) (N := some 4) (v := ?_) (a' := ?_) #[true, true, true, true, true, true, true, true, true] rfl rfl (any_of HT_.out (by kernel_rfl)) (fun _ _ _ h => h) (Or.inl ⟨by rfl, ?_⟩) ?_ ?_
    rotate_left
    · intro w'
      go_simp
      with_reducible rfl
    rotate_left
    · simp only [Act.put, List.setIfInBounds_toArray, List.set_cons_zero, List.set_cons_succ, i64_w, i32_w]
      rfl
    refine done_ (done_of HT_.out (by kernel_rfl)) ?_
    have hcz14_0 : w13.cell? ⟨gb112, 0, none⟩ = some (.int .i64 a0_0) := (blk_cell BK112.out 0).trans rfl
    have hcz14_1 : w13.cell? ⟨gb112, 1, none⟩ = some (.int .i64 a0_1) := (blk_cell BK112.out 1).trans rfl
    have hcz14_2 : w13.cell? ⟨gb112, 2, none⟩ = some (.int .i64 a0_2) := (blk_cell BK112.out 2).trans rfl
    have hcz14_3 : w13.cell? ⟨gb112, 3, none⟩ = some (.int .i64 a0_3) := (blk_cell BK112.out 3).trans rfl
    have hcz14_4 : w13.cell? ⟨gb112, 4, none⟩ = some (.int .u32 a0_4) := (blk_cell BK112.out 4).trans rfl
    have hcz14_5 : w13.cell? ⟨gb112, 5, none⟩ = some (.slice A0_5 l0_5.length c0_5) := (blk_cell BK112.out 5).trans rfl
    have hfz14_0 := blk_frozen BK112.out 0
    have hfz14_1 := blk_frozen BK112.out 1
    have hfz14_2 := blk_frozen BK112.out 2
    have hfz14_3 := blk_frozen BK112.out 3
    have hfz14_4 := blk_frozen BK112.out 4
    have hfz14_5 := blk_frozen BK112.out 5
    go_upto_if 20 with (fail)
    go_cut [4] (fun v4 wc => ∃ (kq : Nat) (x4_5 : List Int), Aside0 (packet_Encode.j0 kq x4_5 a0_0 a0_1 a0_2 a0_3 a0_4 l0_5 = some (r1, r2)) ∧ Aside0 (kq ≤ k) ∧ Aside0 (Kd.R (Kd.int .u8) 5 wc w.heap.size (fun _ => True) v4 x4_5) ∧ Aside0 (wc.heap[gb112]? = some (.cells #[.int .i64 a0_0, .int .i64 a0_1, .int .i64 a0_2, .int .i64 a0_3, .int .u32 a0_4, (.slice A0_5 l0_5.length c0_5)] 25 (0, 0))) ∧ Aside0 (Below w.heap.size w wc))
    case first =>
      have H := HC6.out
      clear HC6
      by_cases c15 : a0_0 = 1
      · rw [if_pos c15] at H
        have c15b0 : (a0_0 == 1) = true := beq_iff_eq.mpr c15
        have c15b1 : (a0_0 != 1) = false := bne_eq_false_iff_eq.mpr c15
        clear c15
        (first | rw [c15b0] | (simp only [i64_w, i32_w]; rw [c15b0]) | skip)
        replace H := Option.bind_eq_some_iff.mp H
        obtain ⟨t120, A160, H⟩ := H
        replace H : ((wire_Put.f t120 (IntKind.u64.wrap (a0_4))).bind fun t123 => (packet_Encode.j0 k t123 a0_0 a0_1 a0_2 a0_3 a0_4 l0_5)) = some (r1, r2) := H
        have A16 := Aside0.mk A160
        clear A160
        replace H := Option.bind_eq_some_iff.mp H
        obtain ⟨t123, A170, H⟩ := H
        replace H : (packet_Encode.j0 k t123 a0_0 a0_1 a0_2 a0_3 a0_4 l0_5) = some (r1, r2) := H
        have A17 := Aside0.mk A170
        clear A170
        have H' := Aside0.mk H
        clear H
        try go_wp2
        have n0_ := Aside0.mk (Kd.R_drew HO116.out)
        have n1_ := Aside0.mk (Kd.R_drew HO119.out)
        have n2_ := Aside0.mk (blk_drew BK112.out)
        have n3_ := Aside0.mk (below_drew1 HB.out)
        clear HO116
        clear HO119
        clear BK112
        clear HB
        have HO116 := n0_
        have HO119 := n1_
        have BK112 := n2_
        have HB := n3_
        clear n0_ n1_ n2_ n3_
        obtain ⟨Ao19, co19, eo19⟩ := Kd.R_slice HO119.out
        (first | subst eo19 | (injection eo19 with f1_ f2_ f3_; have f4_ := f1_.symm; have f5_ := f3_.symm; clear f1_ f2_ f3_; subst f4_; subst f5_))
        refine start_ (n := 10) (S := fun w' => w'.cell? ⟨gb112, 0, none⟩ = some (.int .i64 a0_0) ∧ w'.cell? ⟨gb112, 1, none⟩ = some (.int .i64 a0_1) ∧ w'.cell? ⟨gb112, 2, none⟩ = some (.int .i64 a0_2) ∧ w'.cell? ⟨gb112, 3, none⟩ = some (.int .i64 a0_3) ∧ w'.cell? ⟨gb112, 4, none⟩ = some (.int .u32 a0_4) ∧ w'.cell? ⟨gb112, 5, none⟩ = some (.slice A0_5 l0_5.length c0_5)) (ds := []) #[false, false, false, false, false, false, false, false, false, false] (by kernel_rfl) rfl rfl ⟨(blk_cell BK112.out 0).trans rfl, (blk_cell BK112.out 1).trans rfl, (blk_cell BK112.out 2).trans rfl, (blk_cell BK112.out 3).trans rfl, (blk_cell BK112.out 4).trans rfl, (blk_cell BK112.out 5).trans rfl⟩ (fun hHeld => ?_); refine with_tabW packet_Encode.tab5 packet_Encode.bits5 (fun HT_ HW_ => ?_)
        generalize w13.drew = w18 at HO116 HO119 BK112 HB hHeld ⊢
        refine pure_ (i := 0) (N := some 21) (v := ?_) (a' := ?_) #[true, false, false, false, false, false, false, false, false, false] rfl rfl (any_of HT_.out (by kernel_rfl)) (fun _ _ _ h => h) (Or.inl ⟨by rfl, ?_⟩) ?_ ?_
        rotate_left
        · intro w'
          go_simp
          with_reducible rfl
        rotate_left
        · simp only [Act.put, List.setIfInBounds_toArray, List.set_cons_zero, List.set_cons_succ, i64_w, i32_w]
          rfl
        refine pure_ (i := 1) (N := some 22) (v := ?_) (a' := ?_) #[true, true, false, false, false, false, false, false, false, false] rfl rfl (any_of HT_.out (by kernel_rfl)) (fun _ _ _ h => h) (Or.inl ⟨by rfl, ?_⟩) ?_ ?_
        rotate_left
        · intro w'
          go_simp
          with_reducible rfl
        rotate_left
        · simp only [Act.put, List.setIfInBounds_toArray, List.set_cons_zero, List.set_cons_succ, i64_w, i32_w]
          rfl
        refine pure_ (i := 5) (N := some 26) (v := ?_) (a' := ?_) #[true, true, false, false, false, true, false, false, false, false] rfl rfl (any_of HT_.out (by kernel_rfl)) (fun _ _ _ h => h) (Or.inl ⟨by rfl, ?_⟩) ?_ ?_
        rotate_left
        · intro w'
          go_simp
          with_reducible rfl
        rotate_left
        · simp only [Act.put, List.setIfInBounds_toArray, List.set_cons_zero, List.set_cons_succ, i64_w, i32_w]
          rfl
        refine take_ (i := 2) (N := some 23) (v := ?_) (a' := ?_) #[true, true, true, false, false, true, false, false, false, false] rfl rfl (take_ofW HT_.out HW_.out (by kernel_rfl)) (fun _ _ _ h => h) (Or.inl ⟨by rfl, ?_⟩) hHeld ?_ ?_
        rotate_left
        · rintro w' ⟨s0, s1, s2, s3, s4, s5⟩
          go_simp
          with_reducible rfl
        rotate_left
        · simp only [Act.put, List.setIfInBounds_toArray, List.set_cons_zero, List.set_cons_succ, i64_w, i32_w]
          rfl
        refine pure_ (i := 3) (N := some 24) (v := ?_) (a' := ?_) #[true, true, true, true, false, true, false, false, false, false] rfl rfl (any_of HT_.out (by kernel_rfl)) (fun _ _ _ h => h) (Or.inl ⟨by rfl, ?_⟩) ?_ ?_
        rotate_left
        · intro w'
          go_simp
          with_reducible rfl
        rotate_left
        · simp only [Act.put, List.setIfInBounds_toArray, List.set_cons_zero, List.set_cons_succ, i64_w, i32_w]
          rfl
        refine take_ (i := 6) (N := some 27) (v := ?_) (a' := ?_) #[true, true, true, true, false, true, true, false, false, false] rfl rfl (take_ofW HT_.out HW_.out (by kernel_rfl)) (fun _ _ _ h => h) (Or.inl ⟨by rfl, ?_⟩) hHeld ?_ ?_
        rotate_left
        · rintro w' ⟨s0, s1, s2, s3, s4, s5⟩
          go_simp
          with_reducible rfl
        rotate_left
        · simp only [Act.put, List.setIfInBounds_toArray, List.set_cons_zero, List.set_cons_succ, i64_w, i32_w]
          rfl
        refine pure_ (i := 7) (N := some 28) (v := ?_) (a' := ?_) #[true, true, true, true, false, true, true, true, false, false] rfl rfl (any_of HT_.out (by kernel_rfl)) (fun _ _ _ h => h) (Or.inl ⟨by rfl, ?_⟩) ?_ ?_
        rotate_left
        · intro w'
          go_simp
          with_reducible rfl
        rotate_left
        · simp only [Act.put, List.setIfInBounds_toArray, List.set_cons_zero, List.set_cons_succ, i64_w, i32_w]
          rfl
        refine one_ (i := 4) (N := some 25) #[true, true, true, true, true, true, true, true, false, false] rfl rfl (one_of HT_.out (by kernel_rfl)) (by decide) (fun K hK => ?_)
        refine goes_ Try.func18 (by kernel_rfl) rfl #[.slice Ao19 t117.length co19, .int .u64 (IntKind.u64.wrap (a0_3))] (by rfl) rfl rfl (by (try simp only [List.map_toArray, List.map_cons, List.map_nil]); first | done | rfl | (simp only [List.length_drop, List.length_take]; rfl)) ?_
        with_reducible refine (wire_Put.calls _ _ t117 (IntKind.u64.wrap (a0_3)) t120 _ ?side1 ?side2 A16.out).mono ?_
        (case side1 => repeat (first | exact (Kd.R_reads' HO119.out).2.2 | (with_reducible refine Kd.C_alloc ?_ _) | (with_reducible refine Kd.C_drewN ?_ _) | (with_reducible refine Kd.C_drew ?_)))
        (case side2 => exact (Kd.R_reads' HO119.out).2.1)
        rintro e w20 ⟨v121, rfl, ho0, hb⟩
        refine ⟨_, rfl, ?_⟩
        have n0_ := Aside0.mk (Kd.R_elder' (by (with_reducible repeat (first | apply Kd.R_alloc | apply Kd.R_drewN | apply Kd.R_drew)); exact HO116.out) (Kd.R_base ho0) hb)
        have n1_ := Aside0.mk (Kd.R_elder' (by (with_reducible repeat (first | apply Kd.R_alloc | apply Kd.R_drewN | apply Kd.R_drew)); exact HO119.out) (Kd.R_base ho0) hb)
        have n2_ := Aside0.mk (Kd.R_lower (Kd.R_new' (Kd.R_new' ho0 (Kd.R_lt (by (with_reducible repeat (first | apply Kd.R_alloc | apply Kd.R_drewN | apply Kd.R_drew)); exact HO116.out))) (Kd.R_lt (by (with_reducible repeat (first | apply Kd.R_alloc | apply Kd.R_drewN | apply Kd.R_drew)); exact HO119.out))) (below_size (by repeat (first | (with_reducible first | exact HB.out | apply below_alloc | apply pw_below_drewN | apply below_drew1 | refine below_set ?_ GE112.out) | exact HB.out))))
        have n3_ := Aside0.mk (blk_below (g := gb112) (o := .cells #[.int .i64 a0_0, .int .i64 a0_1, .int .i64 a0_2, .int .i64 a0_3, .int .u32 a0_4, .slice A0_5 l0_5.length c0_5] 25 (0, 0)) (by (with_reducible repeat (first | refine blk_drewN ?_ _ | refine blk_drew ?_ | refine blk_alloc ?_ _)); exact BK112.out) hb)
        have n4_ := Aside0.mk (below_step (by repeat (first | (with_reducible first | exact HB.out | apply below_alloc | apply pw_below_drewN | apply below_drew1 | refine below_set ?_ GE112.out) | exact HB.out)) hb)
        clear HO116
        clear HO119
        clear BK112
        clear HB
        have HO116 := n0_
        have HO119 := n1_
        have HO122 := n2_
        have BK112 := n3_
        have HB := n4_
        clear n0_ n1_ n2_ n3_ n4_
        (try clear hb)
        (try clear hb2)
        (try clear hk)
        (try clear hi)
        (try clear ho0)
        obtain ⟨Ao21, co21, eo21⟩ := Kd.R_slice HO122.out
        (first | subst eo21 | (injection eo21 with f1_ f2_ f3_; have f4_ := f1_.symm; have f5_ := f3_.symm; clear f1_ f2_ f3_; subst f4_; subst f5_))
        refine hK.out _ _ ⟨(blk_cell BK112.out 0).trans rfl, (blk_cell BK112.out 1).trans rfl, (blk_cell BK112.out 2).trans rfl, (blk_cell BK112.out 3).trans rfl, (blk_cell BK112.out 4).trans rfl, (blk_cell BK112.out 5).trans rfl⟩ (fun hHeld => ?_)
        clear hK K
        refine norm_ (a' := ?_) ?_ ?_
        rotate_left
        · show Act.put _ (some 25) _ = _
          simp only [Act.put, List.setIfInBounds_toArray, List.set_cons_zero, List.set_cons_succ, i64_w, i32_w]
          rfl
        refine one_ (i := 8) (N := some 29) #[true, true, true, true, true, true, true, true, true, false] rfl rfl (one_of HT_.out (by kernel_rfl)) (by decide) (fun K hK => ?_)
        refine goes_ Try.func18 (by kernel_rfl) rfl #[.slice Ao21 t120.length co21, .int .u64 (IntKind.u64.wrap (a0_4))] (by rfl) rfl rfl (by (try simp only [List.map_toArray, List.map_cons, List.map_nil]); first | done | rfl | (simp only [List.length_drop, List.length_take]; rfl)) ?_
        with_reducible refine (wire_Put.calls _ _ t120 (IntKind.u64.wrap (a0_4)) t123 _ ?side1 ?side2 A17.out).mono ?_
        (case side1 => repeat (first | exact (Kd.R_reads' HO122.out).2.2 | (with_reducible refine Kd.C_alloc ?_ _) | (with_reducible refine Kd.C_drewN ?_ _) | (with_reducible refine Kd.C_drew ?_)))
        (case side2 => exact (Kd.R_reads' HO122.out).2.1)
        rintro e w22 ⟨v124, rfl, ho0, hb⟩
        refine ⟨_, rfl, ?_⟩
        have n0_ := Aside0.mk (Kd.R_elder' (by (with_reducible repeat (first | apply Kd.R_alloc | apply Kd.R_drewN | apply Kd.R_drew)); exact HO116.out) (Kd.R_base ho0) hb)
        have n1_ := Aside0.mk (Kd.R_elder' (by (with_reducible repeat (first | apply Kd.R_alloc | apply Kd.R_drewN | apply Kd.R_drew)); exact HO119.out) (Kd.R_base ho0) hb)
        have n2_ := Aside0.mk (Kd.R_elder' (by (with_reducible repeat (first | apply Kd.R_alloc | apply Kd.R_drewN | apply Kd.R_drew)); exact HO122.out) (Kd.R_base ho0) hb)
        have n3_ := Aside0.mk (Kd.R_lower (Kd.R_new' (Kd.R_new' (Kd.R_new' ho0 (Kd.R_lt (by (with_reducible repeat (first | apply Kd.R_alloc | apply Kd.R_drewN | apply Kd.R_drew)); exact HO116.out))) (Kd.R_lt (by (with_reducible repeat (first | apply Kd.R_alloc | apply Kd.R_drewN | apply Kd.R_drew)); exact HO119.out))) (Kd.R_lt (by (with_reducible repeat (first | apply Kd.R_alloc | apply Kd.R_drewN | apply Kd.R_drew)); exact HO122.out))) (below_size (by repeat (first | (with_reducible first | exact HB.out | apply below_alloc | apply pw_below_drewN | apply below_drew1 | refine below_set ?_ GE112.out) | exact HB.out))))
        have n4_ := Aside0.mk (blk_below (g := gb112) (o := .cells #[.int .i64 a0_0, .int .i64 a0_1, .int .i64 a0_2, .int .i64 a0_3, .int .u32 a0_4, .slice A0_5 l0_5.length c0_5] 25 (0, 0)) (by (with_reducible repeat (first | refine blk_drewN ?_ _ | refine blk_drew ?_ | refine blk_alloc ?_ _)); exact BK112.out) hb)
        have n5_ := Aside0.mk (below_step (by repeat (first | (with_reducible first | exact HB.out | apply below_alloc | apply pw_below_drewN | apply below_drew1 | refine below_set ?_ GE112.out) | exact HB.out)) hb)
        clear HO116
        clear HO119
        clear HO122
        clear BK112
        clear HB
        have HO116 := n0_
        have HO119 := n1_
        have HO122 := n2_
        have HO125 := n3_
        have BK112 := n4_
        have HB := n5_
        clear n0_ n1_ n2_ n3_ n4_ n5_
        (try clear hb)
        (try clear hb2)
        (try clear hk)
        (try clear hi)
        (try clear ho0)
        refine hK.out _ _ ⟨(blk_cell BK112.out 0).trans rfl, (blk_cell BK112.out 1).trans rfl, (blk_cell BK112.out 2).trans rfl, (blk_cell BK112.out 3).trans rfl, (blk_cell BK112.out 4).trans rfl, (blk_cell BK112.out 5).trans rfl⟩ (fun hHeld => ?_)
        clear hK K
        refine norm_ (a' := ?_) ?_ ?_
        rotate_left
        · show Act.put _ (some 29) _ = _
          simp only [Act.put, List.setIfInBounds_toArray, List.set_cons_zero, List.set_cons_succ, i64_w, i32_w]
          rfl
        refine pure_ (i := 9) (N := some 4) (v := ?_) (a' := ?_) #[true, true, true, true, true, true, true, true, true, true] rfl rfl (any_of HT_.out (by kernel_rfl)) (fun _ _ _ h => h) (Or.inl ⟨by rfl, ?_⟩) ?_ ?_
        rotate_left
        · intro w'
          go_simp
          with_reducible rfl
        rotate_left
        · simp only [Act.put, List.setIfInBounds_toArray, List.set_cons_zero, List.set_cons_succ, i64_w, i32_w]
          rfl
        refine done_ (done_of HT_.out (by kernel_rfl)) ?_
        try go_wp2
        go_meet
        case rel => exact ⟨_, (t123), H', ⟨by first | omega | exact Nat.le_refl _⟩, ⟨by (with_reducible repeat (first | apply Kd.R_alloc | apply Kd.R_drewN | apply Kd.R_drew)); exact Kd.R_mono HO125.out (fun _ hk => trivial)⟩, ⟨by (with_reducible repeat (first | refine blk_drewN ?_ _ | refine blk_drew ?_ | refine blk_alloc ?_ _)); exact BK112.out⟩, ⟨by repeat (first | (with_reducible first | exact HB.out | apply below_alloc | apply pw_below_drewN | apply below_drew1 | refine below_set ?_ GE112.out) | exact HB.out)⟩⟩
      · rw [if_neg c15] at H
        have c15b0 : (a0_0 == 1) = false := beq_eq_false_iff_ne.mpr c15
        have c15b1 : (a0_0 != 1) = true := bne_iff_ne.mpr c15
        (first | rw [c15b0] | (simp only [i64_w, i32_w]; rw [c15b0]) | skip)
        have H' := Aside0.mk H
        clear H
        go_wp2
        go_meet
        case rel => exact ⟨_, (t117), H', ⟨by first | omega | exact Nat.le_refl _⟩, ⟨by (with_reducible repeat (first | apply Kd.R_alloc | apply Kd.R_drewN | apply Kd.R_drew)); exact Kd.R_mono HO119.out (fun _ hk => trivial)⟩, ⟨by (with_reducible repeat (first | refine blk_drewN ?_ _ | refine blk_drew ?_ | refine blk_alloc ?_ _)); exact BK112.out⟩, ⟨by repeat (first | (with_reducible first | exact HB.out | apply below_alloc | apply pw_below_drewN | apply below_drew1 | refine below_set ?_ GE112.out) | exact HB.out)⟩⟩
    case rest =>
      clear HC6
      try clear c1
      try clear p2
      try clear c3
      try clear c9
      try clear c15
      try clear c15b0
      try clear c15b1
      try clear c17
      try clear c18
      try clear hcz14_0
      try clear hcz14_1
      try clear hcz14_2
      try clear hcz14_3
      try clear hcz14_4
      try clear hcz14_5
      try clear hcz8_0
      try clear hcz8_1
      try clear hcz8_2
      try clear hcz8_3
      try clear hcz8_4
      try clear hcz8_5
      try clear hfz14_0
      try clear hfz14_1
      try clear hfz14_2
      try clear hfz14_3
      try clear hfz14_4
      try clear hfz14_5
      try clear hfz8_0
      try clear hfz8_1
      try clear hfz8_2
      try clear hfz8_3
      try clear hfz8_4
      try clear hfz8_5
      obtain ⟨kq, x4_5, HA, HJ5, HO_4, BK112, HB⟩ := hcut
      cases kq with
      | zero => exact absurd HA.out (by simp [packet_Encode.j0])
      | succ kj5 =>
        have H := HA.out
        clear HA
        simp only [packet_Encode.j0] at H
        have HC23 := Aside0.mk H
        clear H
        go_upto_region 6 with (fail)
        go_cut [37] (fun v37 wc => ∃ (kq : Nat) (x37_22 : Bool), v37 = .bool x37_22 ∧ Aside0 (packet_Encode.j1 kq x4_5 x37_22 a0_0 a0_1 a0_2 a0_3 a0_4 l0_5 = some (r1, r2)) ∧ Aside0 (kq ≤ kj5) ∧ Aside0 (Kd.R (Kd.int .u8) 5 wc w.heap.size (fun _ => True) u4 x4_5) ∧ Aside0 (wc.heap[gb112]? = some (.cells #[.int .i64 a0_0, .int .i64 a0_1, .int .i64 a0_2, .int .i64 a0_3, .int .u32 a0_4, (.slice A0_5 l0_5.length c0_5)] 25 (0, 0))) ∧ Aside0 (Below w.heap.size w wc))
        case first =>
          have H := HC23.out
          clear HC23
          by_cases c24 : a0_0 = 2
          · rw [if_pos c24] at H
            have c24b0 : (a0_0 == 2) = true := beq_iff_eq.mpr c24
            have c24b1 : (a0_0 != 2) = false := bne_eq_false_iff_eq.mpr c24
            clear c24
            (first | rw [c24b0] | (simp only [i64_w, i32_w]; rw [c24b0]) | skip)
            have H' := Aside0.mk H
            clear H
            have hcz25_0 : wc.cell? ⟨gb112, 0, none⟩ = some (.int .i64 a0_0) := (blk_cell BK112.out 0).trans rfl
            have hcz25_1 : wc.cell? ⟨gb112, 1, none⟩ = some (.int .i64 a0_1) := (blk_cell BK112.out 1).trans rfl
            have hcz25_2 : wc.cell? ⟨gb112, 2, none⟩ = some (.int .i64 a0_2) := (blk_cell BK112.out 2).trans rfl
            have hcz25_3 : wc.cell? ⟨gb112, 3, none⟩ = some (.int .i64 a0_3) := (blk_cell BK112.out 3).trans rfl
            have hcz25_4 : wc.cell? ⟨gb112, 4, none⟩ = some (.int .u32 a0_4) := (blk_cell BK112.out 4).trans rfl
            have hcz25_5 : wc.cell? ⟨gb112, 5, none⟩ = some (.slice A0_5 l0_5.length c0_5) := (blk_cell BK112.out 5).trans rfl
            have hfz25_0 := blk_frozen BK112.out 0
            have hfz25_1 := blk_frozen BK112.out 1
            have hfz25_2 := blk_frozen BK112.out 2
            have hfz25_3 := blk_frozen BK112.out 3
            have hfz25_4 := blk_frozen BK112.out 4
            have hfz25_5 := blk_frozen BK112.out 5
            go_wp2
            go_meet
            case rel => exact ⟨_, (true), (by first | rfl | (simp; done) | (simp [*]; done)), H', ⟨by have := HJ5.out; first | omega | exact Nat.le_refl _⟩, ⟨by (with_reducible repeat (first | apply Kd.R_alloc | apply Kd.R_drewN | apply Kd.R_drew)); exact HO_4.out⟩, ⟨by (with_reducible repeat (first | refine blk_drewN ?_ _ | refine blk_drew ?_ | refine blk_alloc ?_ _)); exact BK112.out⟩, ⟨by repeat (first | (with_reducible first | exact HB.out | apply below_alloc | apply pw_below_drewN | apply below_drew1 | refine below_set ?_ GE112.out) | exact HB.out)⟩⟩
          · rw [if_neg c24] at H
            have c24b0 : (a0_0 == 2) = false := beq_eq_false_iff_ne.mpr c24
            have c24b1 : (a0_0 != 2) = true := bne_iff_ne.mpr c24
            (first | rw [c24b0] | (simp only [i64_w, i32_w]; rw [c24b0]) | skip)
            have H' := Aside0.mk H
            clear H
            have hcz26_0 : wc.cell? ⟨gb112, 0, none⟩ = some (.int .i64 a0_0) := (blk_cell BK112.out 0).trans rfl
            have hcz26_1 : wc.cell? ⟨gb112, 1, none⟩ = some (.int .i64 a0_1) := (blk_cell BK112.out 1).trans rfl
            have hcz26_2 : wc.cell? ⟨gb112, 2, none⟩ = some (.int .i64 a0_2) := (blk_cell BK112.out 2).trans rfl
            have hcz26_3 : wc.cell? ⟨gb112, 3, none⟩ = some (.int .i64 a0_3) := (blk_cell BK112.out 3).trans rfl
            have hcz26_4 : wc.cell? ⟨gb112, 4, none⟩ = some (.int .u32 a0_4) := (blk_cell BK112.out 4).trans rfl
            have hcz26_5 : wc.cell? ⟨gb112, 5, none⟩ = some (.slice A0_5 l0_5.length c0_5) := (blk_cell BK112.out 5).trans rfl
            have hfz26_0 := blk_frozen BK112.out 0
            have hfz26_1 := blk_frozen BK112.out 1
            have hfz26_2 := blk_frozen BK112.out 2
            have hfz26_3 := blk_frozen BK112.out 3
            have hfz26_4 := blk_frozen BK112.out 4
            have hfz26_5 := blk_frozen BK112.out 5
            go_wp2
            go_meet
            case rel => exact ⟨_, ((a0_0 == 3)), (by first | rfl | (simp; done) | (simp [*]; done)), H', ⟨by have := HJ5.out; first | omega | exact Nat.le_refl _⟩, ⟨by (with_reducible repeat (first | apply Kd.R_alloc | apply Kd.R_drewN | apply Kd.R_drew)); exact HO_4.out⟩, ⟨by (with_reducible repeat (first | refine blk_drewN ?_ _ | refine blk_drew ?_ | refine blk_alloc ?_ _)); exact BK112.out⟩, ⟨by repeat (first | (with_reducible first | exact HB.out | apply below_alloc | apply pw_below_drewN | apply below_drew1 | refine below_set ?_ GE112.out) | exact HB.out)⟩⟩
        case rest =>
          clear HC23
          try clear c1
          try clear c2
          try clear p2
          try clear c3
          try clear c9
          try clear c15
          try clear c15b0
          try clear c15b1
          try clear c17
          try clear c18
          try clear c24
          try clear c24b0
          try clear c24b1
          try clear hcz14_0
          try clear hcz14_1
          try clear hcz14_2
          try clear hcz14_3
          try clear hcz14_4
          try clear hcz14_5
          try clear hcz25_0
          try clear hcz25_1
          try clear hcz25_2
          try clear hcz25_3
          try clear hcz25_4
          try clear hcz25_5
          try clear hcz26_0
          try clear hcz26_1
          try clear hcz26_2
          try clear hcz26_3
          try clear hcz26_4
          try clear hcz26_5
          try clear hcz8_0
          try clear hcz8_1
          try clear hcz8_2
          try clear hcz8_3
          try clear hcz8_4
          try clear hcz8_5
          try clear hfz14_0
          try clear hfz14_1
          try clear hfz14_2
          try clear hfz14_3
          try clear hfz14_4
          try clear hfz14_5
          try clear hfz25_0
          try clear hfz25_1
          try clear hfz25_2
          try clear hfz25_3
          try clear hfz25_4
          try clear hfz25_5
          try clear hfz26_0
          try clear hfz26_1
          try clear hfz26_2
          try clear hfz26_3
          try clear hfz26_4
          try clear hfz26_5
          try clear hfz8_0
          try clear hfz8_1
          try clear hfz8_2
          try clear hfz8_3
          try clear hfz8_4
          try clear hfz8_5
          try clear p2
          obtain ⟨kq, x37_22, rfl, HA, HJ22, HO_4, BK112, HB⟩ := hcut
          cases kq with
          | zero => exact absurd HA.out (by simp [packet_Encode.j1])
          | succ kj22 =>
            have H := HA.out
            clear HA
            simp only [packet_Encode.j1] at H
            have HC27 := Aside0.mk H
            clear H
            go_upto_if 37 with (fail)
            go_cut [4] (fun v4 wc => ∃ (kq : Nat) (x4_26 : List Int), Aside0 (packet_Encode.j2 kq x4_26 a0_0 a0_1 a0_2 a0_3 a0_4 l0_5 = some (r1, r2)) ∧ Aside0 (kq ≤ kj22) ∧ Aside0 (Kd.R (Kd.int .u8) 5 wc w.heap.size (fun _ => True) v4 x4_26) ∧ Aside0 (wc.heap[gb112]? = some (.cells #[.int .i64 a0_0, .int .i64 a0_1, .int .i64 a0_2, .int .i64 a0_3, .int .u32 a0_4, (.slice A0_5 l0_5.length c0_5)] 25 (0, 0))) ∧ Aside0 (Below w.heap.size w wc))
            case first =>
              have H := HC27.out
              clear HC27
              by_cases c28 : x37_22 = true
              · subst c28
                have H1 : ((wire_Put.f x4_5 (IntKind.u64.wrap (a0_2))).bind fun t126 => (packet_Encode.j2 kj22 t126 a0_0 a0_1 a0_2 a0_3 a0_4 l0_5)) = some (r1, r2) := by rw [if_pos rfl] at H; exact H
                clear H
                have H := H1
                clear H1
                replace H := Option.bind_eq_some_iff.mp H
                obtain ⟨t126, A290, H⟩ := H
                replace H : (packet_Encode.j2 kj22 t126 a0_0 a0_1 a0_2 a0_3 a0_4 l0_5) = some (r1, r2) := H
                have A29 := Aside0.mk A290
                clear A290
                have H' := Aside0.mk H
                clear H
                have hcz30_0 : wc.cell? ⟨gb112, 0, none⟩ = some (.int .i64 a0_0) := (blk_cell BK112.out 0).trans rfl
                have hcz30_1 : wc.cell? ⟨gb112, 1, none⟩ = some (.int .i64 a0_1) := (blk_cell BK112.out 1).trans rfl
                have hcz30_2 : wc.cell? ⟨gb112, 2, none⟩ = some (.int .i64 a0_2) := (blk_cell BK112.out 2).trans rfl
                have hcz30_3 : wc.cell? ⟨gb112, 3, none⟩ = some (.int .i64 a0_3) := (blk_cell BK112.out 3).trans rfl
                have hcz30_4 : wc.cell? ⟨gb112, 4, none⟩ = some (.int .u32 a0_4) := (blk_cell BK112.out 4).trans rfl
                have hcz30_5 : wc.cell? ⟨gb112, 5, none⟩ = some (.slice A0_5 l0_5.length c0_5) := (blk_cell BK112.out 5).trans rfl
                have hfz30_0 := blk_frozen BK112.out 0
                have hfz30_1 := blk_frozen BK112.out 1
                have hfz30_2 := blk_frozen BK112.out 2
                have hfz30_3 := blk_frozen BK112.out 3
                have hfz30_4 := blk_frozen BK112.out 4
                have hfz30_5 := blk_frozen BK112.out 5
                obtain ⟨Ao31, co31, eo31⟩ := Kd.R_slice HO_4.out
                subst eo31
                go_wp2_with (first | ((with_reducible refine gate_callee (f := 18) rfl ?_); refine goesL_ (some 42) rfl rfl Try.func18 (by kernel_rfl) rfl #[.slice Ao31 x4_5.length co31, .int .u64 (IntKind.u64.wrap (a0_2))] rfl (by (try simp only [List.map_toArray, List.map_cons, List.map_nil]); first | done | rfl | (simp only [List.length_drop, List.length_take]; rfl)) ?_; (with_reducible refine (wire_Put.calls _ _ x4_5 (IntKind.u64.wrap (a0_2)) t126 _ ?side1 ?side2 A29.out).mono ?_); (case side1 => repeat (first | exact (Kd.R_reads' HO_4.out).2.2 | (with_reducible refine Kd.C_alloc ?_ _) | (with_reducible refine Kd.C_drewN ?_ _) | (with_reducible refine Kd.C_drew ?_))); (case side2 => exact (Kd.R_reads' HO_4.out).2.1); rintro e w32 ⟨v127, rfl, ho0, hb⟩; refine ⟨_, rfl, ?_⟩; have n0_ := Aside0.mk (Kd.R_elder' (by (with_reducible repeat (first | apply Kd.R_alloc | apply Kd.R_drewN | apply Kd.R_drew)); exact HO_4.out) (Kd.R_base ho0) hb); have n1_ := Aside0.mk (Kd.R_lower (Kd.R_new' ho0 (Kd.R_lt (by (with_reducible repeat (first | apply Kd.R_alloc | apply Kd.R_drewN | apply Kd.R_drew)); exact HO_4.out))) (below_size (by repeat (first | (with_reducible first | exact HB.out | apply below_alloc | apply pw_below_drewN | apply below_drew1 | refine below_set ?_ GE112.out) | exact HB.out)))); have n2_ := Aside0.mk (blk_below (g := gb112) (o := .cells #[.int .i64 a0_0, .int .i64 a0_1, .int .i64 a0_2, .int .i64 a0_3, .int .u32 a0_4, .slice A0_5 l0_5.length c0_5] 25 (0, 0)) (by (with_reducible repeat (first | refine blk_drewN ?_ _ | refine blk_drew ?_ | refine blk_alloc ?_ _)); exact BK112.out) hb); have n3_ := Aside0.mk (below_step (by repeat (first | (with_reducible first | exact HB.out | apply below_alloc | apply pw_below_drewN | apply below_drew1 | refine below_set ?_ GE112.out) | exact HB.out)) hb); clear HO_4; clear BK112; clear HB; have HO_4 := n0_; have HO128 := n1_; have BK112 := n2_; have HB := n3_; clear n0_ n1_ n2_ n3_; (try clear hb); (try clear hb2); (try clear hk); (try clear hi); (try clear ho0)))
                go_meet
                case rel => exact ⟨_, (t126), H', ⟨by have := HJ5.out; have := HJ22.out; first | omega | exact Nat.le_refl _⟩, ⟨by (with_reducible repeat (first | apply Kd.R_alloc | apply Kd.R_drewN | apply Kd.R_drew)); exact Kd.R_mono HO128.out (fun _ hk => trivial)⟩, ⟨by (with_reducible repeat (first | refine blk_drewN ?_ _ | refine blk_drew ?_ | refine blk_alloc ?_ _)); exact BK112.out⟩, ⟨by repeat (first | (with_reducible first | exact HB.out | apply below_alloc | apply pw_below_drewN | apply below_drew1 | refine below_set ?_ GE112.out) | exact HB.out)⟩⟩
              · replace c28 := Bool.eq_false_iff.mpr c28
                subst c28
                have H1 : (packet_Encode.j2 kj22 x4_5 a0_0 a0_1 a0_2 a0_3 a0_4 l0_5) = some (r1, r2) := by rw [if_neg (show ¬ (false = true) by decide)] at H; exact H
                clear H
                have H := H1
                clear H1
                have H' := Aside0.mk H
                clear H
                go_wp2
                go_meet
                case rel => exact ⟨_, (x4_5), H', ⟨by have := HJ5.out; have := HJ22.out; first | omega | exact Nat.le_refl _⟩, ⟨by (with_reducible repeat (first | apply Kd.R_alloc | apply Kd.R_drewN | apply Kd.R_drew)); exact HO_4.out⟩, ⟨by (with_reducible repeat (first | refine blk_drewN ?_ _ | refine blk_drew ?_ | refine blk_alloc ?_ _)); exact BK112.out⟩, ⟨by repeat (first | (with_reducible first | exact HB.out | apply below_alloc | apply pw_below_drewN | apply below_drew1 | refine below_set ?_ GE112.out) | exact HB.out)⟩⟩
            case rest =>
              clear HC27
              try clear c1
              try clear c2
              try clear p2
              try clear c3
              try clear c9
              try clear c15
              try clear c15b0
              try clear c15b1
              try clear c17
              try clear c18
              try clear c24
              try clear c24b0
              try clear c24b1
              try clear c28
              try clear hcz14_0
              try clear hcz14_1
              try clear hcz14_2
              try clear hcz14_3
              try clear hcz14_4
              try clear hcz14_5
              try clear hcz25_0
              try clear hcz25_1
              try clear hcz25_2
              try clear hcz25_3
              try clear hcz25_4
              try clear hcz25_5
              try clear hcz26_0
              try clear hcz26_1
              try clear hcz26_2
              try clear hcz26_3
              try clear hcz26_4
              try clear hcz26_5
              try clear hcz30_0
              try clear hcz30_1
              try clear hcz30_2
              try clear hcz30_3
              try clear hcz30_4
              try clear hcz30_5
              try clear hcz8_0
              try clear hcz8_1
              try clear hcz8_2
              try clear hcz8_3
              try clear hcz8_4
              try clear hcz8_5
              try clear hfz14_0
              try clear hfz14_1
              try clear hfz14_2
              try clear hfz14_3
              try clear hfz14_4
              try clear hfz14_5
              try clear hfz25_0
              try clear hfz25_1
              try clear hfz25_2
              try clear hfz25_3
              try clear hfz25_4
              try clear hfz25_5
              try clear hfz26_0
              try clear hfz26_1
              try clear hfz26_2
              try clear hfz26_3
              try clear hfz26_4
              try clear hfz26_5
              try clear hfz30_0
              try clear hfz30_1
              try clear hfz30_2
              try clear hfz30_3
              try clear hfz30_4
              try clear hfz30_5
              try clear hfz8_0
              try clear hfz8_1
              try clear hfz8_2
              try clear hfz8_3
              try clear hfz8_4
              try clear hfz8_5
              try clear p2
              obtain ⟨kq, x4_26, HA, HJ26, HO_4, BK112, HB⟩ := hcut
              cases kq with
              | zero => exact absurd HA.out (by simp [packet_Encode.j2])
              | succ kj26 =>
                have H := HA.out
                clear HA
                simp only [packet_Encode.j2] at H
                by_cases c33 : (l0_5.length : Int) > 0
                · rw [if_pos c33] at H
                  have c33b0 : decide (0 < (l0_5.length : Int)) = true := decide_eq_true c33
                  have c33b1 : decide (0 < l0_5.length) = true := decide_eq_true (by omega)
                  clear c33
                  replace H := Option.bind_eq_some_iff.mp H
                  obtain ⟨t129, A340, H⟩ := H
                  replace H : ((frame_Make.f t129).bind fun bt132 => (some (bt132.1, (bt132.2 == 0)))) = some (r1, r2) := H
                  have A34 := Aside0.mk A340
                  clear A340
                  replace H := Option.bind_eq_some_iff.mp H
                  obtain ⟨⟨t132, t133⟩, A350, H⟩ := H
                  replace H : (some (t132, (t133 == 0))) = some (r1, r2) := H
                  have A35 := Aside0.mk A350
                  clear A350
                  simp only [Option.some.injEq, Prod.mk.injEq] at H
                  obtain ⟨rfl, rfl⟩ := H
                  have hcz36_0 : wc.cell? ⟨gb112, 0, none⟩ = some (.int .i64 a0_0) := (blk_cell BK112.out 0).trans rfl
                  have hcz36_1 : wc.cell? ⟨gb112, 1, none⟩ = some (.int .i64 a0_1) := (blk_cell BK112.out 1).trans rfl
                  have hcz36_2 : wc.cell? ⟨gb112, 2, none⟩ = some (.int .i64 a0_2) := (blk_cell BK112.out 2).trans rfl
                  have hcz36_3 : wc.cell? ⟨gb112, 3, none⟩ = some (.int .i64 a0_3) := (blk_cell BK112.out 3).trans rfl
                  have hcz36_4 : wc.cell? ⟨gb112, 4, none⟩ = some (.int .u32 a0_4) := (blk_cell BK112.out 4).trans rfl
                  have hcz36_5 : wc.cell? ⟨gb112, 5, none⟩ = some (.slice A0_5 l0_5.length c0_5) := (blk_cell BK112.out 5).trans rfl
                  have hfz36_0 := blk_frozen BK112.out 0
                  have hfz36_1 := blk_frozen BK112.out 1
                  have hfz36_2 := blk_frozen BK112.out 2
                  have hfz36_3 := blk_frozen BK112.out 3
                  have hfz36_4 := blk_frozen BK112.out 4
                  have hfz36_5 := blk_frozen BK112.out 5
                  have hcv37 := Kd.C_string (P := Try.prog) (A := A0_5) (c := c0_5) Try.underlying23 Try.underlying5 Try.underlying9 (Kd.C_below HR0_5.out HB.out)
                  obtain ⟨Ao38, co38, eo38⟩ := Kd.R_slice HO_4.out
                  subst eo38
                  go_wp2_with (first | ((with_reducible refine gate_callee (f := 19) rfl ?_); refine goesL_ (some 51) rfl rfl Try.func19 (by kernel_rfl) rfl #[.slice Ao38 x4_26.length co38, .string (strOfNums l0_5)] rfl (by (try simp only [List.map_toArray, List.map_cons, List.map_nil]); first | done | rfl | (simp only [List.length_drop, List.length_take]; rfl)) ?_; (with_reducible refine (wire_PutText.calls _ _ x4_26 (strOfNums l0_5) t129 _ ?side1 ?side2 A34.out).mono ?_); (case side1 => repeat (first | exact (Kd.R_reads' HO_4.out).2.2 | (with_reducible refine Kd.C_alloc ?_ _) | (with_reducible refine Kd.C_drewN ?_ _) | (with_reducible refine Kd.C_drew ?_))); (case side2 => exact (Kd.R_reads' HO_4.out).2.1); rintro e w39 ⟨v130, rfl, ho0, hb⟩; refine ⟨_, rfl, ?_⟩; have n0_ := Aside0.mk (Kd.R_elder' (by (with_reducible repeat (first | apply Kd.R_alloc | apply Kd.R_drewN | apply Kd.R_drew)); exact HO_4.out) (Kd.R_base ho0) hb); have n1_ := Aside0.mk (Kd.R_lower (Kd.R_new' ho0 (Kd.R_lt (by (with_reducible repeat (first | apply Kd.R_alloc | apply Kd.R_drewN | apply Kd.R_drew)); exact HO_4.out))) (below_size (by repeat (first | (with_reducible first | exact HB.out | apply below_alloc | apply pw_below_drewN | apply below_drew1 | refine below_set ?_ GE112.out) | exact HB.out)))); have n2_ := Aside0.mk (blk_below (g := gb112) (o := .cells #[.int .i64 a0_0, .int .i64 a0_1, .int .i64 a0_2, .int .i64 a0_3, .int .u32 a0_4, .slice A0_5 l0_5.length c0_5] 25 (0, 0)) (by (with_reducible repeat (first | refine blk_drewN ?_ _ | refine blk_drew ?_ | refine blk_alloc ?_ _)); exact BK112.out) hb); have n3_ := Aside0.mk (below_step (by repeat (first | (with_reducible first | exact HB.out | apply below_alloc | apply pw_below_drewN | apply below_drew1 | refine below_set ?_ GE112.out) | exact HB.out)) hb); clear HO_4; clear BK112; clear HB; have HO_4 := n0_; have HO131 := n1_; have BK112 := n2_; have HB := n3_; clear n0_ n1_ n2_ n3_; (try clear hb); (try clear hb2); (try clear hk); (try clear hi); (try clear ho0); obtain ⟨Ao40, co40, eo40⟩ := Kd.R_slice HO131.out; subst eo40) | ((with_reducible refine gate_callee (f := 20) rfl ?_); refine goesL_ (some 54) rfl rfl Try.func20 (by kernel_rfl) rfl #[.slice Ao40 t129.length co40] rfl (by (try simp only [List.map_toArray, List.map_cons, List.map_nil]); first | done | rfl | (simp only [List.length_drop, List.length_take]; rfl)) ?_; (with_reducible refine (frame_Make.calls _ _ t129 t132 t133 _ ?side1 ?side2 A35.out).mono ?_); (case side1 => repeat (first | exact (Kd.R_reads' HO131.out).2.2 | (with_reducible refine Kd.C_alloc ?_ _) | (with_reducible refine Kd.C_drewN ?_ _) | (with_reducible refine Kd.C_drew ?_))); (case side2 => exact (Kd.R_reads' HO131.out).2.1); rintro e w41 ⟨v134, rfl, ho0, hb⟩; refine ⟨_, rfl, ?_⟩; have n0_ := Aside0.mk (Kd.R_elder' (by (with_reducible repeat (first | apply Kd.R_alloc | apply Kd.R_drewN | apply Kd.R_drew)); exact HO_4.out) (Kd.R_base ho0) hb); have n1_ := Aside0.mk (Kd.R_elder' (by (with_reducible repeat (first | apply Kd.R_alloc | apply Kd.R_drewN | apply Kd.R_drew)); exact HO131.out) (Kd.R_base ho0) hb); have n2_ := Aside0.mk (Kd.R_lower (Kd.R_new' (Kd.R_new' ho0 (Kd.R_lt (by (with_reducible repeat (first | apply Kd.R_alloc | apply Kd.R_drewN | apply Kd.R_drew)); exact HO_4.out))) (Kd.R_lt (by (with_reducible repeat (first | apply Kd.R_alloc | apply Kd.R_drewN | apply Kd.R_drew)); exact HO131.out))) (below_size (by repeat (first | (with_reducible first | exact HB.out | apply below_alloc | apply pw_below_drewN | apply below_drew1 | refine below_set ?_ GE112.out) | exact HB.out)))); have n3_ := Aside0.mk (blk_below (g := gb112) (o := .cells #[.int .i64 a0_0, .int .i64 a0_1, .int .i64 a0_2, .int .i64 a0_3, .int .u32 a0_4, .slice A0_5 l0_5.length c0_5] 25 (0, 0)) (by (with_reducible repeat (first | refine blk_drewN ?_ _ | refine blk_drew ?_ | refine blk_alloc ?_ _)); exact BK112.out) hb); have n4_ := Aside0.mk (below_step (by repeat (first | (with_reducible first | exact HB.out | apply below_alloc | apply pw_below_drewN | apply below_drew1 | refine below_set ?_ GE112.out) | exact HB.out)) hb); clear HO_4; clear HO131; clear BK112; clear HB; have HO_4 := n0_; have HO131 := n1_; have HO135 := n2_; have BK112 := n3_; have HB := n4_; clear n0_ n1_ n2_ n3_ n4_; (try clear hb); (try clear hb2); (try clear hk); (try clear hi); (try clear ho0)))
                  go_ret2
                  exact ⟨_, by first | rfl | (simp [errW_none, errW_some] <;> rfl) | (simp [*, errW_none, errW_some] <;> rfl), by (with_reducible repeat (first | apply Kd.R_alloc | apply Kd.R_drewN | apply Kd.R_drew)); exact Kd.R_mono HO135.out (fun _ hk => trivial), by repeat (first | (with_reducible first | exact HB.out | apply below_alloc | apply pw_below_drewN | apply below_drew1 | refine below_set ?_ GE112.out) | exact HB.out)⟩
                · rw [if_neg c33] at H
                  have c33b0 : decide (0 < (l0_5.length : Int)) = false := decide_eq_false c33
                  have c33b1 : decide (0 < l0_5.length) = false := decide_eq_false (by omega)
                  clear c33
                  replace H := Option.bind_eq_some_iff.mp H
                  obtain ⟨⟨t136, t137⟩, A420, H⟩ := H
                  replace H : (some (t136, (t137 == 0))) = some (r1, r2) := H
                  have A42 := Aside0.mk A420
                  clear A420
                  simp only [Option.some.injEq, Prod.mk.injEq] at H
                  obtain ⟨rfl, rfl⟩ := H
                  have hcz43_0 : wc.cell? ⟨gb112, 0, none⟩ = some (.int .i64 a0_0) := (blk_cell BK112.out 0).trans rfl
                  have hcz43_1 : wc.cell? ⟨gb112, 1, none⟩ = some (.int .i64 a0_1) := (blk_cell BK112.out 1).trans rfl
                  have hcz43_2 : wc.cell? ⟨gb112, 2, none⟩ = some (.int .i64 a0_2) := (blk_cell BK112.out 2).trans rfl
                  have hcz43_3 : wc.cell? ⟨gb112, 3, none⟩ = some (.int .i64 a0_3) := (blk_cell BK112.out 3).trans rfl
                  have hcz43_4 : wc.cell? ⟨gb112, 4, none⟩ = some (.int .u32 a0_4) := (blk_cell BK112.out 4).trans rfl
                  have hcz43_5 : wc.cell? ⟨gb112, 5, none⟩ = some (.slice A0_5 l0_5.length c0_5) := (blk_cell BK112.out 5).trans rfl
                  have hfz43_0 := blk_frozen BK112.out 0
                  have hfz43_1 := blk_frozen BK112.out 1
                  have hfz43_2 := blk_frozen BK112.out 2
                  have hfz43_3 := blk_frozen BK112.out 3
                  have hfz43_4 := blk_frozen BK112.out 4
                  have hfz43_5 := blk_frozen BK112.out 5
                  obtain ⟨Ao44, co44, eo44⟩ := Kd.R_slice HO_4.out
                  subst eo44
                  go_wp2_with (first | ((with_reducible refine gate_callee (f := 20) rfl ?_); refine goesL_ (some 54) rfl rfl Try.func20 (by kernel_rfl) rfl #[.slice Ao44 x4_26.length co44] rfl (by (try simp only [List.map_toArray, List.map_cons, List.map_nil]); first | done | rfl | (simp only [List.length_drop, List.length_take]; rfl)) ?_; (with_reducible refine (frame_Make.calls _ _ x4_26 t136 t137 _ ?side1 ?side2 A42.out).mono ?_); (case side1 => repeat (first | exact (Kd.R_reads' HO_4.out).2.2 | (with_reducible refine Kd.C_alloc ?_ _) | (with_reducible refine Kd.C_drewN ?_ _) | (with_reducible refine Kd.C_drew ?_))); (case side2 => exact (Kd.R_reads' HO_4.out).2.1); rintro e w45 ⟨v138, rfl, ho0, hb⟩; refine ⟨_, rfl, ?_⟩; have n0_ := Aside0.mk (Kd.R_elder' (by (with_reducible repeat (first | apply Kd.R_alloc | apply Kd.R_drewN | apply Kd.R_drew)); exact HO_4.out) (Kd.R_base ho0) hb); have n1_ := Aside0.mk (Kd.R_lower (Kd.R_new' ho0 (Kd.R_lt (by (with_reducible repeat (first | apply Kd.R_alloc | apply Kd.R_drewN | apply Kd.R_drew)); exact HO_4.out))) (below_size (by repeat (first | (with_reducible first | exact HB.out | apply below_alloc | apply pw_below_drewN | apply below_drew1 | refine below_set ?_ GE112.out) | exact HB.out)))); have n2_ := Aside0.mk (blk_below (g := gb112) (o := .cells #[.int .i64 a0_0, .int .i64 a0_1, .int .i64 a0_2, .int .i64 a0_3, .int .u32 a0_4, .slice A0_5 l0_5.length c0_5] 25 (0, 0)) (by (with_reducible repeat (first | refine blk_drewN ?_ _ | refine blk_drew ?_ | refine blk_alloc ?_ _)); exact BK112.out) hb); have n3_ := Aside0.mk (below_step (by repeat (first | (with_reducible first | exact HB.out | apply below_alloc | apply pw_below_drewN | apply below_drew1 | refine below_set ?_ GE112.out) | exact HB.out)) hb); clear HO_4; clear BK112; clear HB; have HO_4 := n0_; have HO139 := n1_; have BK112 := n2_; have HB := n3_; clear n0_ n1_ n2_ n3_; (try clear hb); (try clear hb2); (try clear hk); (try clear hi); (try clear ho0)))
                  go_ret2
                  exact ⟨_, by first | rfl | (simp [errW_none, errW_some] <;> rfl) | (simp [*, errW_none, errW_some] <;> rfl), by (with_reducible repeat (first | apply Kd.R_alloc | apply Kd.R_drewN | apply Kd.R_drew)); exact Kd.R_mono HO139.out (fun _ hk => trivial), by repeat (first | (with_reducible first | exact HB.out | apply below_alloc | apply pw_below_drewN | apply below_drew1 | refine below_set ?_ GE112.out) | exact HB.out)⟩
  · replace c3 := Bool.eq_false_iff.mpr c3
    subst c3
    have H1 : (some (([] : List Int), false)) = some (r1, r2) := by rw [if_neg (show ¬ (false = true) by decide)] at H; exact H
    clear H
    have H := H1
    clear H1
    simp only [Option.some.injEq, Prod.mk.injEq] at H
    obtain ⟨rfl, rfl⟩ := H
    go_enter Try.func9, Try.ntmps9
    go_wp2_with (first | ((with_reducible refine gate_dst (N := 1) rfl ?_); refine box_event ?hg (N := 1) ?hd (cs := #[.int .i64 a0_0, .int .i64 a0_1, .int .i64 a0_2, .int .i64 a0_3, .int .u32 a0_4, .slice A0_5 l0_5.length c0_5]) (t := 25) ?hr ?_; (case hd => rfl); (case hg => rfl); (case hr => first | (go_simp; done) | (go_simp; rfl)); intro gb112 hg w46 hbox hb; have n0_ := Aside0.mk (below_step (by repeat (first | (with_reducible first | exact HB.out | apply below_alloc | apply pw_below_drewN | apply below_drew1) | exact HB.out)) hb); have n1_ := Aside0.mk (hbox); have n2_ := Aside0.mk ((by rw [hg]; exact (below_size (by repeat (first | (with_reducible first | exact HB.out | apply below_alloc | apply pw_below_drewN | apply below_drew1) | exact HB.out))) : w.heap.size ≤ gb112)); have n3_ := Aside0.mk ((by rw [hg]; exact (below_size (by repeat (first | (with_reducible first | exact HB.out | apply below_alloc | apply pw_below_drewN | apply below_drew1) | exact HB.out))) : w.heap.size ≤ gb112)); clear HB; have HB := n0_; have BK112 := n1_; have GW112 := n2_; have GE112 := n3_; clear n0_ n1_ n2_ n3_; clear hb hbox hg; have hcz47_0 : w46.cell? ⟨gb112, 0, none⟩ = some (.int .i64 a0_0) := (blk_cell BK112.out 0).trans rfl; have hcz47_1 : w46.cell? ⟨gb112, 1, none⟩ = some (.int .i64 a0_1) := (blk_cell BK112.out 1).trans rfl; have hcz47_2 : w46.cell? ⟨gb112, 2, none⟩ = some (.int .i64 a0_2) := (blk_cell BK112.out 2).trans rfl; have hcz47_3 : w46.cell? ⟨gb112, 3, none⟩ = some (.int .i64 a0_3) := (blk_cell BK112.out 3).trans rfl; have hcz47_4 : w46.cell? ⟨gb112, 4, none⟩ = some (.int .u32 a0_4) := (blk_cell BK112.out 4).trans rfl; have hcz47_5 : w46.cell? ⟨gb112, 5, none⟩ = some (.slice A0_5 l0_5.length c0_5) := (blk_cell BK112.out 5).trans rfl; have hfz47_0 := blk_frozen BK112.out 0; have hfz47_1 := blk_frozen BK112.out 1; have hfz47_2 := blk_frozen BK112.out 2; have hfz47_3 := blk_frozen BK112.out 3; have hfz47_4 := blk_frozen BK112.out 4; have hfz47_5 := blk_frozen BK112.out 5) | ((with_reducible refine gate_callee (f := 17) rfl ?_); refine goesL_ (some 8) rfl rfl Try.func17 (by kernel_rfl) rfl #[.agg #[.int .i64 a0_0, .int .i64 a0_1, .int .i64 a0_2, .int .i64 a0_3, .int .u32 a0_4, .slice A0_5 l0_5.length c0_5]] rfl (by (try simp only [List.map_toArray, List.map_cons, List.map_nil]); first | done | rfl | (simp only [List.length_drop, List.length_take]; rfl)) ?_; (with_reducible refine (packet_right.calls a0_0 a0_1 a0_2 a0_3 a0_4 _ _ l0_5 false _ ?side1 ?side2 A2.out).mono ?_); (case side1 => repeat (first | exact (Kd.C_below HR0_5.out HB.out) | (with_reducible refine Kd.C_alloc ?_ _) | (with_reducible refine Kd.C_drewN ?_ _) | (with_reducible refine Kd.C_drew ?_))); (case side2 => exact HC0_5.out); rintro e w48 ⟨rfl, hb⟩; refine ⟨_, rfl, ?_⟩; have n0_ := Aside0.mk (blk_below (g := gb112) (o := .cells #[.int .i64 a0_0, .int .i64 a0_1, .int .i64 a0_2, .int .i64 a0_3, .int .u32 a0_4, .slice A0_5 l0_5.length c0_5] 25 (0, 0)) (by (with_reducible repeat (first | refine blk_drewN ?_ _ | refine blk_drew ?_ | refine blk_alloc ?_ _)); exact BK112.out) hb); have n1_ := Aside0.mk (below_step (by repeat (first | (with_reducible first | exact HB.out | apply below_alloc | apply pw_below_drewN | apply below_drew1 | refine below_set ?_ GE112.out) | exact HB.out)) hb); clear BK112; clear HB; have BK112 := n0_; have HB := n1_; clear n0_ n1_; (try clear hb); (try clear hb2); (try clear hk); (try clear hi)))
    go_ret2
    exact ⟨_, by first | rfl | (simp [errW_none, errW_some] <;> rfl) | (simp [*, errW_none, errW_some] <;> rfl), by first | exact Kd.R_nil _ _ _ _ _ | exact Kd.N_nil _ _ _ _ _ | exact Kd.V_nil _ _ _ _ _ | exact Kd.Q_nil _ _ _ _ _ | exact Kd.S_nil _ _ _ _ _, by repeat (first | (with_reducible first | exact HB.out | apply below_alloc | apply pw_below_drewN | apply below_drew1 | refine below_set ?_ GE112.out) | exact HB.out)⟩

end Go.Proofs.Yticpcjjgdkbcjaa.G
end

section
-- Written by a program of this session (wip/tools/myprint.py), over the kit's print.
namespace Go.Proofs.Yticpcjjgdkbcjaa.G
open Go.RowKit Go.Proofs.YticpcjjgdkbcjaaW.PrintWords Go.Proofs.YticpcjjgdkbcjaaW.PrintLast Go.Proofs.YticpcjjgdkbcjaaW.PrintMore
attribute [local go_sem] max2_int min2_int max_two min_two max_three min_three max_four min_four   -- for this text's walks alone
set_option linter.unusedVariables false
set_option linter.unusedSimpArgs false

-- BY HAND
-- IMPORT YticpcjjgdkbcjaaPackRs
def packet_Decode.f (l0 : List Int) : Option (Int × Int × Int × Int × Int × List Int × Int) :=
  (frame_Next.f l0).bind fun r => if u8s r.1 ∧ r.1.length ≤ 140737488355300 then some ((dec l0.length r.1 r.2.1 r.2.2).1.r (dec l0.length r.1 r.2.1 r.2.2).2) else none
theorem packet_Decode.calls (A0 : Option Addr) (c0 : Nat) (l0 : List Int) (r1 r2 r3 r4 r5 : Int) (r6 : List Int) (r7 : Int) (w : World) (hr0 : Kd.C (Kd.int .u8) w A0 l0.length l0) (hc0 : l0.length ≤ c0) (h : packet_Decode.f l0 = some (r1, r2, r3, r4, r5, r6, r7)) :
    Calls Try.prog 11 #[.slice A0 l0.length c0] w fun e w' => ∃ v1_ : Value, e = .returned (.tuple #[.agg #[.int .i64 r1, .int .i64 r2, .int .i64 r3, .int .i64 r4, .int .u32 r5, v1_], .int .i64 r7]) ∧ Rs 5 w' w.heap.size (fun _ => True) v1_ r6 ∧ Below w.heap.size w w' := by
  unfold packet_Decode.f at h
  obtain ⟨⟨x, n, er⟩, hN, h⟩ := Option.bind_eq_some_iff.mp h
  simp only at h
  split at h
  case isFalse => cases h
  case isTrue hu =>
    have h := Option.some.inj h
    refine (wdecode A0 c0 l0 x n er w hr0 hc0 hr0.2.1 hu.1 hu.2 hN).mono ?_
    rintro e w' ⟨A, c, rfl, hH, h1, h2, hB⟩
    generalize dec l0.length x n er = q at h hH h1 ⊢
    obtain ⟨p, er'⟩ := q
    simp only [Pk.r, Prod.mk.injEq] at h
    obtain ⟨rfl, rfl, rfl, rfl, rfl, rfl, rfl⟩ := h
    exact ⟨_, rfl, Rs_of hH h1 h2, hB⟩

end Go.Proofs.Yticpcjjgdkbcjaa.G
end

section
-- Written by a program of this session (wip/tools/myprint.py), over the kit's print.
namespace Go.Proofs.Yticpcjjgdkbcjaa.G
open Go.RowKit Go.Proofs.YticpcjjgdkbcjaaW.PrintWords Go.Proofs.YticpcjjgdkbcjaaW.PrintLast Go.Proofs.YticpcjjgdkbcjaaW.PrintMore
attribute [local go_sem] max2_int min2_int max_two min_two max_three min_three max_four min_four   -- for this text's walks alone
set_option linter.unusedVariables false
set_option linter.unusedSimpArgs false

/-! ### rosetteref22_Same: function 13 -/
def rosetteref22_Same.f (a0_0 : Int) (a0_1 : Int) (a0_2 : Int) (a0_3 : Int) (a0_4 : Int) (l0_5 : List Int) (a1_0 : Int) (a1_1 : Int) (a1_2 : Int) (a1_3 : Int) (a1_4 : Int) (l1_5 : List Int) : Option (Bool) := if a0_0 = a1_0 then (if a0_1 = a1_1 then (if a0_2 = a1_2 then (if a0_3 = a1_3 then (if a0_4 = a1_4 then (some ((strOfNums l0_5).toList == (strOfNums l1_5).toList)) else (some false)) else (some false)) else (some false)) else (some false)) else (some false)
set_option maxHeartbeats 8000000 in
set_option maxRecDepth 100000 in
theorem rosetteref22_Same.calls (a0_0 : Int) (a0_1 : Int) (a0_2 : Int) (a0_3 : Int) (a0_4 : Int) (A0_5 : Option Addr) (c0_5 : Nat) (l0_5 : List Int) (a1_0 : Int) (a1_1 : Int) (a1_2 : Int) (a1_3 : Int) (a1_4 : Int) (A1_5 : Option Addr) (c1_5 : Nat) (l1_5 : List Int) (r : Bool) (w : World) (hr0_5 : Kd.C (Kd.int .u8) w A0_5 l0_5.length l0_5) (hc0_5 : l0_5.length ≤ c0_5) (hr1_5 : Kd.C (Kd.int .u8) w A1_5 l1_5.length l1_5) (hc1_5 : l1_5.length ≤ c1_5) (h : rosetteref22_Same.f a0_0 a0_1 a0_2 a0_3 a0_4 l0_5 a1_0 a1_1 a1_2 a1_3 a1_4 l1_5 = some r) :
    Calls Try.prog 13 #[.agg #[.int .i64 a0_0, .int .i64 a0_1, .int .i64 a0_2, .int .i64 a0_3, .int .u32 a0_4, .slice A0_5 l0_5.length c0_5], .agg #[.int .i64 a1_0, .int .i64 a1_1, .int .i64 a1_2, .int .i64 a1_3, .int .u32 a1_4, .slice A1_5 l1_5.length c1_5]] w fun e w' => e = .returned (.bool r) ∧ Below w.heap.size w w' := by
  have hu25 := Try.underlying25
  have HR0_5 := Aside0.mk hr0_5
  have HC0_5 := Aside0.mk hc0_5
  clear hr0_5 hc0_5
  have HR1_5 := Aside0.mk hr1_5
  have HC1_5 := Aside0.mk hc1_5
  clear hr1_5 hc1_5
  have HB := Aside0.mk (Below.refl w.heap.size w)
  have H : (if a0_0 = a1_0 then (if a0_1 = a1_1 then (if a0_2 = a1_2 then (if a0_3 = a1_3 then (if a0_4 = a1_4 then (some ((strOfNums l0_5).toList == (strOfNums l1_5).toList)) else (some false)) else (some false)) else (some false)) else (some false)) else (some false)) = some r := h
  clear h
  by_cases c3 : a0_0 = a1_0
  · rw [if_pos c3] at H
    have c3b0 : (a0_0 == a1_0) = true := beq_iff_eq.mpr c3
    have c3b1 : (a0_0 != a1_0) = false := bne_eq_false_iff_eq.mpr c3
    clear c3
    by_cases c4 : a0_1 = a1_1
    · rw [if_pos c4] at H
      have c4b0 : (a0_1 == a1_1) = true := beq_iff_eq.mpr c4
      have c4b1 : (a0_1 != a1_1) = false := bne_eq_false_iff_eq.mpr c4
      clear c4
      by_cases c5 : a0_2 = a1_2
      · rw [if_pos c5] at H
        have c5b0 : (a0_2 == a1_2) = true := beq_iff_eq.mpr c5
        have c5b1 : (a0_2 != a1_2) = false := bne_eq_false_iff_eq.mpr c5
        clear c5
        by_cases c6 : a0_3 = a1_3
        · rw [if_pos c6] at H
          have c6b0 : (a0_3 == a1_3) = true := beq_iff_eq.mpr c6
          have c6b1 : (a0_3 != a1_3) = false := bne_eq_false_iff_eq.mpr c6
          clear c6
          by_cases c7 : a0_4 = a1_4
          · rw [if_pos c7] at H
            have c7b0 : (a0_4 == a1_4) = true := beq_iff_eq.mpr c7
            have c7b1 : (a0_4 != a1_4) = false := bne_eq_false_iff_eq.mpr c7
            clear c7
            obtain rfl := Option.some.inj H
            go_enter Try.func13, Try.ntmps13
            go_wp2_with (first | ((with_reducible refine gate_dst (N := 2) rfl ?_); refine box_event ?hg (N := 2) ?hd (cs := #[.int .i64 a0_0, .int .i64 a0_1, .int .i64 a0_2, .int .i64 a0_3, .int .u32 a0_4, .slice A0_5 l0_5.length c0_5]) (t := 25) ?hr ?_; (case hd => rfl); (case hg => rfl); (case hr => first | (go_simp; done) | (go_simp; rfl)); intro gb159 hg w8 hbox hb; have n0_ := Aside0.mk (below_step (by repeat (first | (with_reducible first | exact HB.out | apply below_alloc | apply pw_below_drewN | apply below_drew1) | exact HB.out)) hb); have n1_ := Aside0.mk (hbox); have n2_ := Aside0.mk ((by rw [hg]; exact (below_size (by repeat (first | (with_reducible first | exact HB.out | apply below_alloc | apply pw_below_drewN | apply below_drew1) | exact HB.out))) : w.heap.size ≤ gb159)); have n3_ := Aside0.mk ((by rw [hg]; exact (below_size (by repeat (first | (with_reducible first | exact HB.out | apply below_alloc | apply pw_below_drewN | apply below_drew1) | exact HB.out))) : w.heap.size ≤ gb159)); clear HB; have HB := n0_; have BK159 := n1_; have GW159 := n2_; have GE159 := n3_; clear n0_ n1_ n2_ n3_; clear hb hbox hg) | ((with_reducible refine gate_dst (N := 3) rfl ?_); refine box_event ?hg (N := 3) ?hd (cs := #[.int .i64 a1_0, .int .i64 a1_1, .int .i64 a1_2, .int .i64 a1_3, .int .u32 a1_4, .slice A1_5 l1_5.length c1_5]) (t := 25) ?hr ?_; (case hd => rfl); (case hg => rfl); (case hr => first | (go_simp; done) | (go_simp; rfl)); intro gb160 hg w9 hbox hb; have n0_ := Aside0.mk (blk_below (g := gb159) (o := .cells #[.int .i64 a0_0, .int .i64 a0_1, .int .i64 a0_2, .int .i64 a0_3, .int .u32 a0_4, .slice A0_5 l0_5.length c0_5] 25 (0, 0)) (by (with_reducible repeat (first | refine blk_drewN ?_ _ | refine blk_drew ?_ | refine blk_alloc ?_ _)); exact BK159.out) hb); have n1_ := Aside0.mk (below_step (by repeat (first | (with_reducible first | exact HB.out | apply below_alloc | apply pw_below_drewN | apply below_drew1 | refine below_set ?_ GE159.out) | exact HB.out)) hb); have n2_ := Aside0.mk (hbox); have n3_ := Aside0.mk ((by rw [hg]; exact (below_size (by repeat (first | (with_reducible first | exact HB.out | apply below_alloc | apply pw_below_drewN | apply below_drew1 | refine below_set ?_ GE159.out) | exact HB.out))) : w.heap.size ≤ gb160)); have n4_ := Aside0.mk ((by rw [hg]; exact (below_size (by repeat (first | (with_reducible first | exact HB.out | apply below_alloc | apply pw_below_drewN | apply below_drew1 | refine below_set ?_ GE159.out) | exact HB.out))) : w.heap.size ≤ gb160)); have n5_ := Aside0.mk ((by rw [hg]; exact Nat.ne_of_lt (blk_lt (g := gb159) (o := .cells #[.int .i64 a0_0, .int .i64 a0_1, .int .i64 a0_2, .int .i64 a0_3, .int .u32 a0_4, .slice A0_5 l0_5.length c0_5] 25 (0, 0)) (by (with_reducible repeat (first | refine blk_drewN ?_ _ | refine blk_drew ?_ | refine blk_alloc ?_ _)); exact BK159.out)) : gb159 ≠ gb160)); have n6_ := Aside0.mk ((by rw [hg]; exact Nat.ne_of_gt (blk_lt (g := gb159) (o := .cells #[.int .i64 a0_0, .int .i64 a0_1, .int .i64 a0_2, .int .i64 a0_3, .int .u32 a0_4, .slice A0_5 l0_5.length c0_5] 25 (0, 0)) (by (with_reducible repeat (first | refine blk_drewN ?_ _ | refine blk_drew ?_ | refine blk_alloc ?_ _)); exact BK159.out)) : gb160 ≠ gb159)); clear BK159; clear HB; have BK159 := n0_; have HB := n1_; have BK160 := n2_; have GW160 := n3_; have GE160 := n4_; have NB159_160 := n5_; have NB160_159 := n6_; clear n0_ n1_ n2_ n3_ n4_ n5_ n6_; clear hb hbox hg; have hnb10 := NB159_160.out; have hnc10 := NB160_159.out; have hcz11_0 : w9.cell? ⟨gb159, 0, none⟩ = some (.int .i64 a0_0) := (blk_cell BK159.out 0).trans rfl; have hcz11_1 : w9.cell? ⟨gb159, 1, none⟩ = some (.int .i64 a0_1) := (blk_cell BK159.out 1).trans rfl; have hcz11_2 : w9.cell? ⟨gb159, 2, none⟩ = some (.int .i64 a0_2) := (blk_cell BK159.out 2).trans rfl; have hcz11_3 : w9.cell? ⟨gb159, 3, none⟩ = some (.int .i64 a0_3) := (blk_cell BK159.out 3).trans rfl; have hcz11_4 : w9.cell? ⟨gb159, 4, none⟩ = some (.int .u32 a0_4) := (blk_cell BK159.out 4).trans rfl; have hcz11_5 : w9.cell? ⟨gb159, 5, none⟩ = some (.slice A0_5 l0_5.length c0_5) := (blk_cell BK159.out 5).trans rfl; have hfz11_0 := blk_frozen BK159.out 0; have hfz11_1 := blk_frozen BK159.out 1; have hfz11_2 := blk_frozen BK159.out 2; have hfz11_3 := blk_frozen BK159.out 3; have hfz11_4 := blk_frozen BK159.out 4; have hfz11_5 := blk_frozen BK159.out 5; have hcz12_0 : w9.cell? ⟨gb160, 0, none⟩ = some (.int .i64 a1_0) := (blk_cell BK160.out 0).trans rfl; have hcz12_1 : w9.cell? ⟨gb160, 1, none⟩ = some (.int .i64 a1_1) := (blk_cell BK160.out 1).trans rfl; have hcz12_2 : w9.cell? ⟨gb160, 2, none⟩ = some (.int .i64 a1_2) := (blk_cell BK160.out 2).trans rfl; have hcz12_3 : w9.cell? ⟨gb160, 3, none⟩ = some (.int .i64 a1_3) := (blk_cell BK160.out 3).trans rfl; have hcz12_4 : w9.cell? ⟨gb160, 4, none⟩ = some (.int .u32 a1_4) := (blk_cell BK160.out 4).trans rfl; have hcz12_5 : w9.cell? ⟨gb160, 5, none⟩ = some (.slice A1_5 l1_5.length c1_5) := (blk_cell BK160.out 5).trans rfl; have hfz12_0 := blk_frozen BK160.out 0; have hfz12_1 := blk_frozen BK160.out 1; have hfz12_2 := blk_frozen BK160.out 2; have hfz12_3 := blk_frozen BK160.out 3; have hfz12_4 := blk_frozen BK160.out 4; have hfz12_5 := blk_frozen BK160.out 5; have hcv13 := Kd.C_string (P := Try.prog) (A := A0_5) (c := c0_5) Try.underlying23 Try.underlying5 Try.underlying9 (Kd.C_below HR0_5.out HB.out); have hcv14 := Kd.C_string (P := Try.prog) (A := A1_5) (c := c1_5) Try.underlying23 Try.underlying5 Try.underlying9 (Kd.C_below HR1_5.out HB.out)))
            go_ret
            exact ⟨by first | rfl | (simp [errW_none, errW_some] <;> rfl) | (simp [*, errW_none, errW_some] <;> rfl), by repeat (first | (with_reducible first | exact HB.out | apply below_alloc | apply pw_below_drewN | apply below_drew1 | refine below_set ?_ GE159.out | refine below_set ?_ GE160.out) | exact HB.out)⟩
          · rw [if_neg c7] at H
            have c7b0 : (a0_4 == a1_4) = false := beq_eq_false_iff_ne.mpr c7
            have c7b1 : (a0_4 != a1_4) = true := bne_iff_ne.mpr c7
            obtain rfl := Option.some.inj H
            go_enter Try.func13, Try.ntmps13
            go_wp2_with (first | ((with_reducible refine gate_dst (N := 2) rfl ?_); refine box_event ?hg (N := 2) ?hd (cs := #[.int .i64 a0_0, .int .i64 a0_1, .int .i64 a0_2, .int .i64 a0_3, .int .u32 a0_4, .slice A0_5 l0_5.length c0_5]) (t := 25) ?hr ?_; (case hd => rfl); (case hg => rfl); (case hr => first | (go_simp; done) | (go_simp; rfl)); intro gb159 hg w15 hbox hb; have n0_ := Aside0.mk (below_step (by repeat (first | (with_reducible first | exact HB.out | apply below_alloc | apply pw_below_drewN | apply below_drew1) | exact HB.out)) hb); have n1_ := Aside0.mk (hbox); have n2_ := Aside0.mk ((by rw [hg]; exact (below_size (by repeat (first | (with_reducible first | exact HB.out | apply below_alloc | apply pw_below_drewN | apply below_drew1) | exact HB.out))) : w.heap.size ≤ gb159)); have n3_ := Aside0.mk ((by rw [hg]; exact (below_size (by repeat (first | (with_reducible first | exact HB.out | apply below_alloc | apply pw_below_drewN | apply below_drew1) | exact HB.out))) : w.heap.size ≤ gb159)); clear HB; have HB := n0_; have BK159 := n1_; have GW159 := n2_; have GE159 := n3_; clear n0_ n1_ n2_ n3_; clear hb hbox hg) | ((with_reducible refine gate_dst (N := 3) rfl ?_); refine box_event ?hg (N := 3) ?hd (cs := #[.int .i64 a1_0, .int .i64 a1_1, .int .i64 a1_2, .int .i64 a1_3, .int .u32 a1_4, .slice A1_5 l1_5.length c1_5]) (t := 25) ?hr ?_; (case hd => rfl); (case hg => rfl); (case hr => first | (go_simp; done) | (go_simp; rfl)); intro gb160 hg w16 hbox hb; have n0_ := Aside0.mk (blk_below (g := gb159) (o := .cells #[.int .i64 a0_0, .int .i64 a0_1, .int .i64 a0_2, .int .i64 a0_3, .int .u32 a0_4, .slice A0_5 l0_5.length c0_5] 25 (0, 0)) (by (with_reducible repeat (first | refine blk_drewN ?_ _ | refine blk_drew ?_ | refine blk_alloc ?_ _)); exact BK159.out) hb); have n1_ := Aside0.mk (below_step (by repeat (first | (with_reducible first | exact HB.out | apply below_alloc | apply pw_below_drewN | apply below_drew1 | refine below_set ?_ GE159.out) | exact HB.out)) hb); have n2_ := Aside0.mk (hbox); have n3_ := Aside0.mk ((by rw [hg]; exact (below_size (by repeat (first | (with_reducible first | exact HB.out | apply below_alloc | apply pw_below_drewN | apply below_drew1 | refine below_set ?_ GE159.out) | exact HB.out))) : w.heap.size ≤ gb160)); have n4_ := Aside0.mk ((by rw [hg]; exact (below_size (by repeat (first | (with_reducible first | exact HB.out | apply below_alloc | apply pw_below_drewN | apply below_drew1 | refine below_set ?_ GE159.out) | exact HB.out))) : w.heap.size ≤ gb160)); have n5_ := Aside0.mk ((by rw [hg]; exact Nat.ne_of_lt (blk_lt (g := gb159) (o := .cells #[.int .i64 a0_0, .int .i64 a0_1, .int .i64 a0_2, .int .i64 a0_3, .int .u32 a0_4, .slice A0_5 l0_5.length c0_5] 25 (0, 0)) (by (with_reducible repeat (first | refine blk_drewN ?_ _ | refine blk_drew ?_ | refine blk_alloc ?_ _)); exact BK159.out)) : gb159 ≠ gb160)); have n6_ := Aside0.mk ((by rw [hg]; exact Nat.ne_of_gt (blk_lt (g := gb159) (o := .cells #[.int .i64 a0_0, .int .i64 a0_1, .int .i64 a0_2, .int .i64 a0_3, .int .u32 a0_4, .slice A0_5 l0_5.length c0_5] 25 (0, 0)) (by (with_reducible repeat (first | refine blk_drewN ?_ _ | refine blk_drew ?_ | refine blk_alloc ?_ _)); exact BK159.out)) : gb160 ≠ gb159)); clear BK159; clear HB; have BK159 := n0_; have HB := n1_; have BK160 := n2_; have GW160 := n3_; have GE160 := n4_; have NB159_160 := n5_; have NB160_159 := n6_; clear n0_ n1_ n2_ n3_ n4_ n5_ n6_; clear hb hbox hg; have hnb17 := NB159_160.out; have hnc17 := NB160_159.out; have hcz18_0 : w16.cell? ⟨gb159, 0, none⟩ = some (.int .i64 a0_0) := (blk_cell BK159.out 0).trans rfl; have hcz18_1 : w16.cell? ⟨gb159, 1, none⟩ = some (.int .i64 a0_1) := (blk_cell BK159.out 1).trans rfl; have hcz18_2 : w16.cell? ⟨gb159, 2, none⟩ = some (.int .i64 a0_2) := (blk_cell BK159.out 2).trans rfl; have hcz18_3 : w16.cell? ⟨gb159, 3, none⟩ = some (.int .i64 a0_3) := (blk_cell BK159.out 3).trans rfl; have hcz18_4 : w16.cell? ⟨gb159, 4, none⟩ = some (.int .u32 a0_4) := (blk_cell BK159.out 4).trans rfl; have hcz18_5 : w16.cell? ⟨gb159, 5, none⟩ = some (.slice A0_5 l0_5.length c0_5) := (blk_cell BK159.out 5).trans rfl; have hfz18_0 := blk_frozen BK159.out 0; have hfz18_1 := blk_frozen BK159.out 1; have hfz18_2 := blk_frozen BK159.out 2; have hfz18_3 := blk_frozen BK159.out 3; have hfz18_4 := blk_frozen BK159.out 4; have hfz18_5 := blk_frozen BK159.out 5; have hcz19_0 : w16.cell? ⟨gb160, 0, none⟩ = some (.int .i64 a1_0) := (blk_cell BK160.out 0).trans rfl; have hcz19_1 : w16.cell? ⟨gb160, 1, none⟩ = some (.int .i64 a1_1) := (blk_cell BK160.out 1).trans rfl; have hcz19_2 : w16.cell? ⟨gb160, 2, none⟩ = some (.int .i64 a1_2) := (blk_cell BK160.out 2).trans rfl; have hcz19_3 : w16.cell? ⟨gb160, 3, none⟩ = some (.int .i64 a1_3) := (blk_cell BK160.out 3).trans rfl; have hcz19_4 : w16.cell? ⟨gb160, 4, none⟩ = some (.int .u32 a1_4) := (blk_cell BK160.out 4).trans rfl; have hcz19_5 : w16.cell? ⟨gb160, 5, none⟩ = some (.slice A1_5 l1_5.length c1_5) := (blk_cell BK160.out 5).trans rfl; have hfz19_0 := blk_frozen BK160.out 0; have hfz19_1 := blk_frozen BK160.out 1; have hfz19_2 := blk_frozen BK160.out 2; have hfz19_3 := blk_frozen BK160.out 3; have hfz19_4 := blk_frozen BK160.out 4; have hfz19_5 := blk_frozen BK160.out 5))
            go_ret
            exact ⟨by first | rfl | (simp [errW_none, errW_some] <;> rfl) | (simp [*, errW_none, errW_some] <;> rfl), by repeat (first | (with_reducible first | exact HB.out | apply below_alloc | apply pw_below_drewN | apply below_drew1 | refine below_set ?_ GE159.out | refine below_set ?_ GE160.out) | exact HB.out)⟩
        · rw [if_neg c6] at H
          have c6b0 : (a0_3 == a1_3) = false := beq_eq_false_iff_ne.mpr c6
          have c6b1 : (a0_3 != a1_3) = true := bne_iff_ne.mpr c6
          obtain rfl := Option.some.inj H
          go_enter Try.func13, Try.ntmps13
          go_wp2_with (first | ((with_reducible refine gate_dst (N := 2) rfl ?_); refine box_event ?hg (N := 2) ?hd (cs := #[.int .i64 a0_0, .int .i64 a0_1, .int .i64 a0_2, .int .i64 a0_3, .int .u32 a0_4, .slice A0_5 l0_5.length c0_5]) (t := 25) ?hr ?_; (case hd => rfl); (case hg => rfl); (case hr => first | (go_simp; done) | (go_simp; rfl)); intro gb159 hg w20 hbox hb; have n0_ := Aside0.mk (below_step (by repeat (first | (with_reducible first | exact HB.out | apply below_alloc | apply pw_below_drewN | apply below_drew1) | exact HB.out)) hb); have n1_ := Aside0.mk (hbox); have n2_ := Aside0.mk ((by rw [hg]; exact (below_size (by repeat (first | (with_reducible first | exact HB.out | apply below_alloc | apply pw_below_drewN | apply below_drew1) | exact HB.out))) : w.heap.size ≤ gb159)); have n3_ := Aside0.mk ((by rw [hg]; exact (below_size (by repeat (first | (with_reducible first | exact HB.out | apply below_alloc | apply pw_below_drewN | apply below_drew1) | exact HB.out))) : w.heap.size ≤ gb159)); clear HB; have HB := n0_; have BK159 := n1_; have GW159 := n2_; have GE159 := n3_; clear n0_ n1_ n2_ n3_; clear hb hbox hg) | ((with_reducible refine gate_dst (N := 3) rfl ?_); refine box_event ?hg (N := 3) ?hd (cs := #[.int .i64 a1_0, .int .i64 a1_1, .int .i64 a1_2, .int .i64 a1_3, .int .u32 a1_4, .slice A1_5 l1_5.length c1_5]) (t := 25) ?hr ?_; (case hd => rfl); (case hg => rfl); (case hr => first | (go_simp; done) | (go_simp; rfl)); intro gb160 hg w21 hbox hb; have n0_ := Aside0.mk (blk_below (g := gb159) (o := .cells #[.int .i64 a0_0, .int .i64 a0_1, .int .i64 a0_2, .int .i64 a0_3, .int .u32 a0_4, .slice A0_5 l0_5.length c0_5] 25 (0, 0)) (by (with_reducible repeat (first | refine blk_drewN ?_ _ | refine blk_drew ?_ | refine blk_alloc ?_ _)); exact BK159.out) hb); have n1_ := Aside0.mk (below_step (by repeat (first | (with_reducible first | exact HB.out | apply below_alloc | apply pw_below_drewN | apply below_drew1 | refine below_set ?_ GE159.out) | exact HB.out)) hb); have n2_ := Aside0.mk (hbox); have n3_ := Aside0.mk ((by rw [hg]; exact (below_size (by repeat (first | (with_reducible first | exact HB.out | apply below_alloc | apply pw_below_drewN | apply below_drew1 | refine below_set ?_ GE159.out) | exact HB.out))) : w.heap.size ≤ gb160)); have n4_ := Aside0.mk ((by rw [hg]; exact (below_size (by repeat (first | (with_reducible first | exact HB.out | apply below_alloc | apply pw_below_drewN | apply below_drew1 | refine below_set ?_ GE159.out) | exact HB.out))) : w.heap.size ≤ gb160)); have n5_ := Aside0.mk ((by rw [hg]; exact Nat.ne_of_lt (blk_lt (g := gb159) (o := .cells #[.int .i64 a0_0, .int .i64 a0_1, .int .i64 a0_2, .int .i64 a0_3, .int .u32 a0_4, .slice A0_5 l0_5.length c0_5] 25 (0, 0)) (by (with_reducible repeat (first | refine blk_drewN ?_ _ | refine blk_drew ?_ | refine blk_alloc ?_ _)); exact BK159.out)) : gb159 ≠ gb160)); have n6_ := Aside0.mk ((by rw [hg]; exact Nat.ne_of_gt (blk_lt (g := gb159) (o := .cells #[.int .i64 a0_0, .int .i64 a0_1, .int .i64 a0_2, .int .i64 a0_3, .int .u32 a0_4, .slice A0_5 l0_5.length c0_5] 25 (0, 0)) (by (with_reducible repeat (first | refine blk_drewN ?_ _ | refine blk_drew ?_ | refine blk_alloc ?_ _)); exact BK159.out)) : gb160 ≠ gb159)); clear BK159; clear HB; have BK159 := n0_; have HB := n1_; have BK160 := n2_; have GW160 := n3_; have GE160 := n4_; have NB159_160 := n5_; have NB160_159 := n6_; clear n0_ n1_ n2_ n3_ n4_ n5_ n6_; clear hb hbox hg; have hnb22 := NB159_160.out; have hnc22 := NB160_159.out; have hcz23_0 : w21.cell? ⟨gb159, 0, none⟩ = some (.int .i64 a0_0) := (blk_cell BK159.out 0).trans rfl; have hcz23_1 : w21.cell? ⟨gb159, 1, none⟩ = some (.int .i64 a0_1) := (blk_cell BK159.out 1).trans rfl; have hcz23_2 : w21.cell? ⟨gb159, 2, none⟩ = some (.int .i64 a0_2) := (blk_cell BK159.out 2).trans rfl; have hcz23_3 : w21.cell? ⟨gb159, 3, none⟩ = some (.int .i64 a0_3) := (blk_cell BK159.out 3).trans rfl; have hcz23_4 : w21.cell? ⟨gb159, 4, none⟩ = some (.int .u32 a0_4) := (blk_cell BK159.out 4).trans rfl; have hcz23_5 : w21.cell? ⟨gb159, 5, none⟩ = some (.slice A0_5 l0_5.length c0_5) := (blk_cell BK159.out 5).trans rfl; have hfz23_0 := blk_frozen BK159.out 0; have hfz23_1 := blk_frozen BK159.out 1; have hfz23_2 := blk_frozen BK159.out 2; have hfz23_3 := blk_frozen BK159.out 3; have hfz23_4 := blk_frozen BK159.out 4; have hfz23_5 := blk_frozen BK159.out 5; have hcz24_0 : w21.cell? ⟨gb160, 0, none⟩ = some (.int .i64 a1_0) := (blk_cell BK160.out 0).trans rfl; have hcz24_1 : w21.cell? ⟨gb160, 1, none⟩ = some (.int .i64 a1_1) := (blk_cell BK160.out 1).trans rfl; have hcz24_2 : w21.cell? ⟨gb160, 2, none⟩ = some (.int .i64 a1_2) := (blk_cell BK160.out 2).trans rfl; have hcz24_3 : w21.cell? ⟨gb160, 3, none⟩ = some (.int .i64 a1_3) := (blk_cell BK160.out 3).trans rfl; have hcz24_4 : w21.cell? ⟨gb160, 4, none⟩ = some (.int .u32 a1_4) := (blk_cell BK160.out 4).trans rfl; have hcz24_5 : w21.cell? ⟨gb160, 5, none⟩ = some (.slice A1_5 l1_5.length c1_5) := (blk_cell BK160.out 5).trans rfl; have hfz24_0 := blk_frozen BK160.out 0; have hfz24_1 := blk_frozen BK160.out 1; have hfz24_2 := blk_frozen BK160.out 2; have hfz24_3 := blk_frozen BK160.out 3; have hfz24_4 := blk_frozen BK160.out 4; have hfz24_5 := blk_frozen BK160.out 5))
          go_ret
          exact ⟨by first | rfl | (simp [errW_none, errW_some] <;> rfl) | (simp [*, errW_none, errW_some] <;> rfl), by repeat (first | (with_reducible first | exact HB.out | apply below_alloc | apply pw_below_drewN | apply below_drew1 | refine below_set ?_ GE159.out | refine below_set ?_ GE160.out) | exact HB.out)⟩
      · rw [if_neg c5] at H
        have c5b0 : (a0_2 == a1_2) = false := beq_eq_false_iff_ne.mpr c5
        have c5b1 : (a0_2 != a1_2) = true := bne_iff_ne.mpr c5
        obtain rfl := Option.some.inj H
        go_enter Try.func13, Try.ntmps13
        go_wp2_with (first | ((with_reducible refine gate_dst (N := 2) rfl ?_); refine box_event ?hg (N := 2) ?hd (cs := #[.int .i64 a0_0, .int .i64 a0_1, .int .i64 a0_2, .int .i64 a0_3, .int .u32 a0_4, .slice A0_5 l0_5.length c0_5]) (t := 25) ?hr ?_; (case hd => rfl); (case hg => rfl); (case hr => first | (go_simp; done) | (go_simp; rfl)); intro gb159 hg w25 hbox hb; have n0_ := Aside0.mk (below_step (by repeat (first | (with_reducible first | exact HB.out | apply below_alloc | apply pw_below_drewN | apply below_drew1) | exact HB.out)) hb); have n1_ := Aside0.mk (hbox); have n2_ := Aside0.mk ((by rw [hg]; exact (below_size (by repeat (first | (with_reducible first | exact HB.out | apply below_alloc | apply pw_below_drewN | apply below_drew1) | exact HB.out))) : w.heap.size ≤ gb159)); have n3_ := Aside0.mk ((by rw [hg]; exact (below_size (by repeat (first | (with_reducible first | exact HB.out | apply below_alloc | apply pw_below_drewN | apply below_drew1) | exact HB.out))) : w.heap.size ≤ gb159)); clear HB; have HB := n0_; have BK159 := n1_; have GW159 := n2_; have GE159 := n3_; clear n0_ n1_ n2_ n3_; clear hb hbox hg) | ((with_reducible refine gate_dst (N := 3) rfl ?_); refine box_event ?hg (N := 3) ?hd (cs := #[.int .i64 a1_0, .int .i64 a1_1, .int .i64 a1_2, .int .i64 a1_3, .int .u32 a1_4, .slice A1_5 l1_5.length c1_5]) (t := 25) ?hr ?_; (case hd => rfl); (case hg => rfl); (case hr => first | (go_simp; done) | (go_simp; rfl)); intro gb160 hg w26 hbox hb; have n0_ := Aside0.mk (blk_below (g := gb159) (o := .cells #[.int .i64 a0_0, .int .i64 a0_1, .int .i64 a0_2, .int .i64 a0_3, .int .u32 a0_4, .slice A0_5 l0_5.length c0_5] 25 (0, 0)) (by (with_reducible repeat (first | refine blk_drewN ?_ _ | refine blk_drew ?_ | refine blk_alloc ?_ _)); exact BK159.out) hb); have n1_ := Aside0.mk (below_step (by repeat (first | (with_reducible first | exact HB.out | apply below_alloc | apply pw_below_drewN | apply below_drew1 | refine below_set ?_ GE159.out) | exact HB.out)) hb); have n2_ := Aside0.mk (hbox); have n3_ := Aside0.mk ((by rw [hg]; exact (below_size (by repeat (first | (with_reducible first | exact HB.out | apply below_alloc | apply pw_below_drewN | apply below_drew1 | refine below_set ?_ GE159.out) | exact HB.out))) : w.heap.size ≤ gb160)); have n4_ := Aside0.mk ((by rw [hg]; exact (below_size (by repeat (first | (with_reducible first | exact HB.out | apply below_alloc | apply pw_below_drewN | apply below_drew1 | refine below_set ?_ GE159.out) | exact HB.out))) : w.heap.size ≤ gb160)); have n5_ := Aside0.mk ((by rw [hg]; exact Nat.ne_of_lt (blk_lt (g := gb159) (o := .cells #[.int .i64 a0_0, .int .i64 a0_1, .int .i64 a0_2, .int .i64 a0_3, .int .u32 a0_4, .slice A0_5 l0_5.length c0_5] 25 (0, 0)) (by (with_reducible repeat (first | refine blk_drewN ?_ _ | refine blk_drew ?_ | refine blk_alloc ?_ _)); exact BK159.out)) : gb159 ≠ gb160)); have n6_ := Aside0.mk ((by rw [hg]; exact Nat.ne_of_gt (blk_lt (g := gb159) (o := .cells #[.int .i64 a0_0, .int .i64 a0_1, .int .i64 a0_2, .int .i64 a0_3, .int .u32 a0_4, .slice A0_5 l0_5.length c0_5] 25 (0, 0)) (by (with_reducible repeat (first | refine blk_drewN ?_ _ | refine blk_drew ?_ | refine blk_alloc ?_ _)); exact BK159.out)) : gb160 ≠ gb159)); clear BK159; clear HB; have BK159 := n0_; have HB := n1_; have BK160 := n2_; have GW160 := n3_; have GE160 := n4_; have NB159_160 := n5_; have NB160_159 := n6_; clear n0_ n1_ n2_ n3_ n4_ n5_ n6_; clear hb hbox hg; have hnb27 := NB159_160.out; have hnc27 := NB160_159.out; have hcz28_0 : w26.cell? ⟨gb159, 0, none⟩ = some (.int .i64 a0_0) := (blk_cell BK159.out 0).trans rfl; have hcz28_1 : w26.cell? ⟨gb159, 1, none⟩ = some (.int .i64 a0_1) := (blk_cell BK159.out 1).trans rfl; have hcz28_2 : w26.cell? ⟨gb159, 2, none⟩ = some (.int .i64 a0_2) := (blk_cell BK159.out 2).trans rfl; have hcz28_3 : w26.cell? ⟨gb159, 3, none⟩ = some (.int .i64 a0_3) := (blk_cell BK159.out 3).trans rfl; have hcz28_4 : w26.cell? ⟨gb159, 4, none⟩ = some (.int .u32 a0_4) := (blk_cell BK159.out 4).trans rfl; have hcz28_5 : w26.cell? ⟨gb159, 5, none⟩ = some (.slice A0_5 l0_5.length c0_5) := (blk_cell BK159.out 5).trans rfl; have hfz28_0 := blk_frozen BK159.out 0; have hfz28_1 := blk_frozen BK159.out 1; have hfz28_2 := blk_frozen BK159.out 2; have hfz28_3 := blk_frozen BK159.out 3; have hfz28_4 := blk_frozen BK159.out 4; have hfz28_5 := blk_frozen BK159.out 5; have hcz29_0 : w26.cell? ⟨gb160, 0, none⟩ = some (.int .i64 a1_0) := (blk_cell BK160.out 0).trans rfl; have hcz29_1 : w26.cell? ⟨gb160, 1, none⟩ = some (.int .i64 a1_1) := (blk_cell BK160.out 1).trans rfl; have hcz29_2 : w26.cell? ⟨gb160, 2, none⟩ = some (.int .i64 a1_2) := (blk_cell BK160.out 2).trans rfl; have hcz29_3 : w26.cell? ⟨gb160, 3, none⟩ = some (.int .i64 a1_3) := (blk_cell BK160.out 3).trans rfl; have hcz29_4 : w26.cell? ⟨gb160, 4, none⟩ = some (.int .u32 a1_4) := (blk_cell BK160.out 4).trans rfl; have hcz29_5 : w26.cell? ⟨gb160, 5, none⟩ = some (.slice A1_5 l1_5.length c1_5) := (blk_cell BK160.out 5).trans rfl; have hfz29_0 := blk_frozen BK160.out 0; have hfz29_1 := blk_frozen BK160.out 1; have hfz29_2 := blk_frozen BK160.out 2; have hfz29_3 := blk_frozen BK160.out 3; have hfz29_4 := blk_frozen BK160.out 4; have hfz29_5 := blk_frozen BK160.out 5))
        go_ret
        exact ⟨by first | rfl | (simp [errW_none, errW_some] <;> rfl) | (simp [*, errW_none, errW_some] <;> rfl), by repeat (first | (with_reducible first | exact HB.out | apply below_alloc | apply pw_below_drewN | apply below_drew1 | refine below_set ?_ GE159.out | refine below_set ?_ GE160.out) | exact HB.out)⟩
    · rw [if_neg c4] at H
      have c4b0 : (a0_1 == a1_1) = false := beq_eq_false_iff_ne.mpr c4
      have c4b1 : (a0_1 != a1_1) = true := bne_iff_ne.mpr c4
      obtain rfl := Option.some.inj H
      go_enter Try.func13, Try.ntmps13
      go_wp2_with (first | ((with_reducible refine gate_dst (N := 2) rfl ?_); refine box_event ?hg (N := 2) ?hd (cs := #[.int .i64 a0_0, .int .i64 a0_1, .int .i64 a0_2, .int .i64 a0_3, .int .u32 a0_4, .slice A0_5 l0_5.length c0_5]) (t := 25) ?hr ?_; (case hd => rfl); (case hg => rfl); (case hr => first | (go_simp; done) | (go_simp; rfl)); intro gb159 hg w30 hbox hb; have n0_ := Aside0.mk (below_step (by repeat (first | (with_reducible first | exact HB.out | apply below_alloc | apply pw_below_drewN | apply below_drew1) | exact HB.out)) hb); have n1_ := Aside0.mk (hbox); have n2_ := Aside0.mk ((by rw [hg]; exact (below_size (by repeat (first | (with_reducible first | exact HB.out | apply below_alloc | apply pw_below_drewN | apply below_drew1) | exact HB.out))) : w.heap.size ≤ gb159)); have n3_ := Aside0.mk ((by rw [hg]; exact (below_size (by repeat (first | (with_reducible first | exact HB.out | apply below_alloc | apply pw_below_drewN | apply below_drew1) | exact HB.out))) : w.heap.size ≤ gb159)); clear HB; have HB := n0_; have BK159 := n1_; have GW159 := n2_; have GE159 := n3_; clear n0_ n1_ n2_ n3_; clear hb hbox hg) | ((with_reducible refine gate_dst (N := 3) rfl ?_); refine box_event ?hg (N := 3) ?hd (cs := #[.int .i64 a1_0, .int .i64 a1_1, .int .i64 a1_2, .int .i64 a1_3, .int .u32 a1_4, .slice A1_5 l1_5.length c1_5]) (t := 25) ?hr ?_; (case hd => rfl); (case hg => rfl); (case hr => first | (go_simp; done) | (go_simp; rfl)); intro gb160 hg w31 hbox hb; have n0_ := Aside0.mk (blk_below (g := gb159) (o := .cells #[.int .i64 a0_0, .int .i64 a0_1, .int .i64 a0_2, .int .i64 a0_3, .int .u32 a0_4, .slice A0_5 l0_5.length c0_5] 25 (0, 0)) (by (with_reducible repeat (first | refine blk_drewN ?_ _ | refine blk_drew ?_ | refine blk_alloc ?_ _)); exact BK159.out) hb); have n1_ := Aside0.mk (below_step (by repeat (first | (with_reducible first | exact HB.out | apply below_alloc | apply pw_below_drewN | apply below_drew1 | refine below_set ?_ GE159.out) | exact HB.out)) hb); have n2_ := Aside0.mk (hbox); have n3_ := Aside0.mk ((by rw [hg]; exact (below_size (by repeat (first | (with_reducible first | exact HB.out | apply below_alloc | apply pw_below_drewN | apply below_drew1 | refine below_set ?_ GE159.out) | exact HB.out))) : w.heap.size ≤ gb160)); have n4_ := Aside0.mk ((by rw [hg]; exact (below_size (by repeat (first | (with_reducible first | exact HB.out | apply below_alloc | apply pw_below_drewN | apply below_drew1 | refine below_set ?_ GE159.out) | exact HB.out))) : w.heap.size ≤ gb160)); have n5_ := Aside0.mk ((by rw [hg]; exact Nat.ne_of_lt (blk_lt (g := gb159) (o := .cells #[.int .i64 a0_0, .int .i64 a0_1, .int .i64 a0_2, .int .i64 a0_3, .int .u32 a0_4, .slice A0_5 l0_5.length c0_5] 25 (0, 0)) (by (with_reducible repeat (first | refine blk_drewN ?_ _ | refine blk_drew ?_ | refine blk_alloc ?_ _)); exact BK159.out)) : gb159 ≠ gb160)); have n6_ := Aside0.mk ((by rw [hg]; exact Nat.ne_of_gt (blk_lt (g := gb159) (o := .cells #[.int .i64 a0_0, .int .i64 a0_1, .int .i64 a0_2, .int .i64 a0_3, .int .u32 a0_4, .slice A0_5 l0_5.length c0_5] 25 (0, 0)) (by (with_reducible repeat (first | refine blk_drewN ?_ _ | refine blk_drew ?_ | refine blk_alloc ?_ _)); exact BK159.out)) : gb160 ≠ gb159)); clear BK159; clear HB; have BK159 := n0_; have HB := n1_; have BK160 := n2_; have GW160 := n3_; have GE160 := n4_; have NB159_160 := n5_; have NB160_159 := n6_; clear n0_ n1_ n2_ n3_ n4_ n5_ n6_; clear hb hbox hg; have hnb32 := NB159_160.out; have hnc32 := NB160_159.out; have hcz33_0 : w31.cell? ⟨gb159, 0, none⟩ = some (.int .i64 a0_0) := (blk_cell BK159.out 0).trans rfl; have hcz33_1 : w31.cell? ⟨gb159, 1, none⟩ = some (.int .i64 a0_1) := (blk_cell BK159.out 1).trans rfl; have hcz33_2 : w31.cell? ⟨gb159, 2, none⟩ = some (.int .i64 a0_2) := (blk_cell BK159.out 2).trans rfl; have hcz33_3 : w31.cell? ⟨gb159, 3, none⟩ = some (.int .i64 a0_3) := (blk_cell BK159.out 3).trans rfl; have hcz33_4 : w31.cell? ⟨gb159, 4, none⟩ = some (.int .u32 a0_4) := (blk_cell BK159.out 4).trans rfl; have hcz33_5 : w31.cell? ⟨gb159, 5, none⟩ = some (.slice A0_5 l0_5.length c0_5) := (blk_cell BK159.out 5).trans rfl; have hfz33_0 := blk_frozen BK159.out 0; have hfz33_1 := blk_frozen BK159.out 1; have hfz33_2 := blk_frozen BK159.out 2; have hfz33_3 := blk_frozen BK159.out 3; have hfz33_4 := blk_frozen BK159.out 4; have hfz33_5 := blk_frozen BK159.out 5; have hcz34_0 : w31.cell? ⟨gb160, 0, none⟩ = some (.int .i64 a1_0) := (blk_cell BK160.out 0).trans rfl; have hcz34_1 : w31.cell? ⟨gb160, 1, none⟩ = some (.int .i64 a1_1) := (blk_cell BK160.out 1).trans rfl; have hcz34_2 : w31.cell? ⟨gb160, 2, none⟩ = some (.int .i64 a1_2) := (blk_cell BK160.out 2).trans rfl; have hcz34_3 : w31.cell? ⟨gb160, 3, none⟩ = some (.int .i64 a1_3) := (blk_cell BK160.out 3).trans rfl; have hcz34_4 : w31.cell? ⟨gb160, 4, none⟩ = some (.int .u32 a1_4) := (blk_cell BK160.out 4).trans rfl; have hcz34_5 : w31.cell? ⟨gb160, 5, none⟩ = some (.slice A1_5 l1_5.length c1_5) := (blk_cell BK160.out 5).trans rfl; have hfz34_0 := blk_frozen BK160.out 0; have hfz34_1 := blk_frozen BK160.out 1; have hfz34_2 := blk_frozen BK160.out 2; have hfz34_3 := blk_frozen BK160.out 3; have hfz34_4 := blk_frozen BK160.out 4; have hfz34_5 := blk_frozen BK160.out 5))
      go_ret
      exact ⟨by first | rfl | (simp [errW_none, errW_some] <;> rfl) | (simp [*, errW_none, errW_some] <;> rfl), by repeat (first | (with_reducible first | exact HB.out | apply below_alloc | apply pw_below_drewN | apply below_drew1 | refine below_set ?_ GE159.out | refine below_set ?_ GE160.out) | exact HB.out)⟩
  · rw [if_neg c3] at H
    have c3b0 : (a0_0 == a1_0) = false := beq_eq_false_iff_ne.mpr c3
    have c3b1 : (a0_0 != a1_0) = true := bne_iff_ne.mpr c3
    obtain rfl := Option.some.inj H
    go_enter Try.func13, Try.ntmps13
    go_wp2_with (first | ((with_reducible refine gate_dst (N := 2) rfl ?_); refine box_event ?hg (N := 2) ?hd (cs := #[.int .i64 a0_0, .int .i64 a0_1, .int .i64 a0_2, .int .i64 a0_3, .int .u32 a0_4, .slice A0_5 l0_5.length c0_5]) (t := 25) ?hr ?_; (case hd => rfl); (case hg => rfl); (case hr => first | (go_simp; done) | (go_simp; rfl)); intro gb159 hg w35 hbox hb; have n0_ := Aside0.mk (below_step (by repeat (first | (with_reducible first | exact HB.out | apply below_alloc | apply pw_below_drewN | apply below_drew1) | exact HB.out)) hb); have n1_ := Aside0.mk (hbox); have n2_ := Aside0.mk ((by rw [hg]; exact (below_size (by repeat (first | (with_reducible first | exact HB.out | apply below_alloc | apply pw_below_drewN | apply below_drew1) | exact HB.out))) : w.heap.size ≤ gb159)); have n3_ := Aside0.mk ((by rw [hg]; exact (below_size (by repeat (first | (with_reducible first | exact HB.out | apply below_alloc | apply pw_below_drewN | apply below_drew1) | exact HB.out))) : w.heap.size ≤ gb159)); clear HB; have HB := n0_; have BK159 := n1_; have GW159 := n2_; have GE159 := n3_; clear n0_ n1_ n2_ n3_; clear hb hbox hg) | ((with_reducible refine gate_dst (N := 3) rfl ?_); refine box_event ?hg (N := 3) ?hd (cs := #[.int .i64 a1_0, .int .i64 a1_1, .int .i64 a1_2, .int .i64 a1_3, .int .u32 a1_4, .slice A1_5 l1_5.length c1_5]) (t := 25) ?hr ?_; (case hd => rfl); (case hg => rfl); (case hr => first | (go_simp; done) | (go_simp; rfl)); intro gb160 hg w36 hbox hb; have n0_ := Aside0.mk (blk_below (g := gb159) (o := .cells #[.int .i64 a0_0, .int .i64 a0_1, .int .i64 a0_2, .int .i64 a0_3, .int .u32 a0_4, .slice A0_5 l0_5.length c0_5] 25 (0, 0)) (by (with_reducible repeat (first | refine blk_drewN ?_ _ | refine blk_drew ?_ | refine blk_alloc ?_ _)); exact BK159.out) hb); have n1_ := Aside0.mk (below_step (by repeat (first | (with_reducible first | exact HB.out | apply below_alloc | apply pw_below_drewN | apply below_drew1 | refine below_set ?_ GE159.out) | exact HB.out)) hb); have n2_ := Aside0.mk (hbox); have n3_ := Aside0.mk ((by rw [hg]; exact (below_size (by repeat (first | (with_reducible first | exact HB.out | apply below_alloc | apply pw_below_drewN | apply below_drew1 | refine below_set ?_ GE159.out) | exact HB.out))) : w.heap.size ≤ gb160)); have n4_ := Aside0.mk ((by rw [hg]; exact (below_size (by repeat (first | (with_reducible first | exact HB.out | apply below_alloc | apply pw_below_drewN | apply below_drew1 | refine below_set ?_ GE159.out) | exact HB.out))) : w.heap.size ≤ gb160)); have n5_ := Aside0.mk ((by rw [hg]; exact Nat.ne_of_lt (blk_lt (g := gb159) (o := .cells #[.int .i64 a0_0, .int .i64 a0_1, .int .i64 a0_2, .int .i64 a0_3, .int .u32 a0_4, .slice A0_5 l0_5.length c0_5] 25 (0, 0)) (by (with_reducible repeat (first | refine blk_drewN ?_ _ | refine blk_drew ?_ | refine blk_alloc ?_ _)); exact BK159.out)) : gb159 ≠ gb160)); have n6_ := Aside0.mk ((by rw [hg]; exact Nat.ne_of_gt (blk_lt (g := gb159) (o := .cells #[.int .i64 a0_0, .int .i64 a0_1, .int .i64 a0_2, .int .i64 a0_3, .int .u32 a0_4, .slice A0_5 l0_5.length c0_5] 25 (0, 0)) (by (with_reducible repeat (first | refine blk_drewN ?_ _ | refine blk_drew ?_ | refine blk_alloc ?_ _)); exact BK159.out)) : gb160 ≠ gb159)); clear BK159; clear HB; have BK159 := n0_; have HB := n1_; have BK160 := n2_; have GW160 := n3_; have GE160 := n4_; have NB159_160 := n5_; have NB160_159 := n6_; clear n0_ n1_ n2_ n3_ n4_ n5_ n6_; clear hb hbox hg; have hnb37 := NB159_160.out; have hnc37 := NB160_159.out; have hcz38_0 : w36.cell? ⟨gb159, 0, none⟩ = some (.int .i64 a0_0) := (blk_cell BK159.out 0).trans rfl; have hcz38_1 : w36.cell? ⟨gb159, 1, none⟩ = some (.int .i64 a0_1) := (blk_cell BK159.out 1).trans rfl; have hcz38_2 : w36.cell? ⟨gb159, 2, none⟩ = some (.int .i64 a0_2) := (blk_cell BK159.out 2).trans rfl; have hcz38_3 : w36.cell? ⟨gb159, 3, none⟩ = some (.int .i64 a0_3) := (blk_cell BK159.out 3).trans rfl; have hcz38_4 : w36.cell? ⟨gb159, 4, none⟩ = some (.int .u32 a0_4) := (blk_cell BK159.out 4).trans rfl; have hcz38_5 : w36.cell? ⟨gb159, 5, none⟩ = some (.slice A0_5 l0_5.length c0_5) := (blk_cell BK159.out 5).trans rfl; have hfz38_0 := blk_frozen BK159.out 0; have hfz38_1 := blk_frozen BK159.out 1; have hfz38_2 := blk_frozen BK159.out 2; have hfz38_3 := blk_frozen BK159.out 3; have hfz38_4 := blk_frozen BK159.out 4; have hfz38_5 := blk_frozen BK159.out 5; have hcz39_0 : w36.cell? ⟨gb160, 0, none⟩ = some (.int .i64 a1_0) := (blk_cell BK160.out 0).trans rfl; have hcz39_1 : w36.cell? ⟨gb160, 1, none⟩ = some (.int .i64 a1_1) := (blk_cell BK160.out 1).trans rfl; have hcz39_2 : w36.cell? ⟨gb160, 2, none⟩ = some (.int .i64 a1_2) := (blk_cell BK160.out 2).trans rfl; have hcz39_3 : w36.cell? ⟨gb160, 3, none⟩ = some (.int .i64 a1_3) := (blk_cell BK160.out 3).trans rfl; have hcz39_4 : w36.cell? ⟨gb160, 4, none⟩ = some (.int .u32 a1_4) := (blk_cell BK160.out 4).trans rfl; have hcz39_5 : w36.cell? ⟨gb160, 5, none⟩ = some (.slice A1_5 l1_5.length c1_5) := (blk_cell BK160.out 5).trans rfl; have hfz39_0 := blk_frozen BK160.out 0; have hfz39_1 := blk_frozen BK160.out 1; have hfz39_2 := blk_frozen BK160.out 2; have hfz39_3 := blk_frozen BK160.out 3; have hfz39_4 := blk_frozen BK160.out 4; have hfz39_5 := blk_frozen BK160.out 5))
    go_ret
    exact ⟨by first | rfl | (simp [errW_none, errW_some] <;> rfl) | (simp [*, errW_none, errW_some] <;> rfl), by repeat (first | (with_reducible first | exact HB.out | apply below_alloc | apply pw_below_drewN | apply below_drew1 | refine below_set ?_ GE159.out | refine below_set ?_ GE160.out) | exact HB.out)⟩

end Go.Proofs.Yticpcjjgdkbcjaa.G
end

section
-- Written by a program of this session (wip/tools/myprint.py), over the kit's print.
namespace Go.Proofs.Yticpcjjgdkbcjaa.G
open Go.RowKit Go.Proofs.YticpcjjgdkbcjaaW.PrintWords Go.Proofs.YticpcjjgdkbcjaaW.PrintLast Go.Proofs.YticpcjjgdkbcjaaW.PrintMore
attribute [local go_sem] max2_int min2_int max_two min_two max_three min_three max_four min_four   -- for this text's walks alone
set_option linter.unusedVariables false
set_option linter.unusedSimpArgs false

/-! ### rosetteref01_Seal: function 33 -/
def rosetteref01_Seal.f (k : Nat) (l0 : List Int) : Option (List Int) := (some (([] : List Int) : List Int)).bind fun y167 => (if y167.length + l0.length < 140737488355328 then ((some (y167 ++ l0 : List Int)).bind fun y170 => ((rosetteref01_Sum.f k l0).bind fun t173 => ((rosetteref01_Low.f t173).bind fun t174 => (if y170.length + t174.length < 140737488355328 then (some (y170 ++ t174)) else (none))))) else (none))
theorem rosetteref01_Seal.mono : ∀ a0 k, LeO (rosetteref01_Seal.f k a0) (rosetteref01_Seal.f (k + 1) a0) := by
  intro a0 k
  unfold rosetteref01_Seal.f
  repeat' first
      | (with_reducible exact rosetteref01_Sum.mono _ _)
      | (with_reducible exact LeO.refl _)
      | (with_reducible exact LeO.none _)
      | (with_reducible refine LeO.ite ?_ ?_)
      | (with_reducible refine LeO.bind ?_ (fun _ => ?_))
      | exact rosetteref01_Sum.mono _ _
      | exact LeO.none _
      | refine LeO.ite ?_ ?_
      | refine LeO.bind ?_ (fun _ => ?_)
set_option maxHeartbeats 8000000 in
set_option maxRecDepth 100000 in
theorem rosetteref01_Seal.calls (k : Nat) (A0 : Option Addr) (c0 : Nat) (l0 : List Int) (r : List Int) (w : World) (hr0 : Kd.C (Kd.int .u8) w A0 l0.length l0) (hc0 : l0.length ≤ c0) (h : rosetteref01_Seal.f k l0 = some r) :
    Calls Try.prog 33 #[.slice A0 l0.length c0] w fun e w' => ∃ v0_ : Value, e = .returned (v0_) ∧ Kd.R (Kd.int .u8) 5 w' w.heap.size (fun _ => True) v0_ r ∧ Below w.heap.size w w' := by
  have HR0 := Aside0.mk hr0
  have HC0 := Aside0.mk hc0
  clear hr0 hc0
  have HB := Aside0.mk (Below.refl w.heap.size w)
  have H : ((some (([] : List Int) : List Int)).bind fun y167 => (if y167.length + l0.length < 140737488355328 then ((some (y167 ++ l0 : List Int)).bind fun y170 => ((rosetteref01_Sum.f k l0).bind fun t173 => ((rosetteref01_Low.f t173).bind fun t174 => (if y170.length + t174.length < 140737488355328 then (some (y170 ++ t174)) else (none))))) else (none))) = some r := h
  clear h
  obtain ⟨y167, hy167⟩ : ∃ y_ : List Int, y_ = (([] : List Int)) := ⟨_, rfl⟩
  replace H : (if y167.length + l0.length < 140737488355328 then ((some (y167 ++ l0 : List Int)).bind fun y170 => ((rosetteref01_Sum.f k l0).bind fun t173 => ((rosetteref01_Low.f t173).bind fun t174 => (if y170.length + t174.length < 140737488355328 then (some (y170 ++ t174)) else (none))))) else (none)) = some r := by first | (rw [hy167]; with_reducible exact H) | (have H2_ := (Option.bind_some _ _).symm.trans H; rw [hy167]; with_reducible exact H2_) | (have H2_ := (Option.bind_some _ _).symm.trans H; with_reducible exact H2_) | with_reducible exact H | (rw [hy167]; exact H) | exact H
  have Ny167 := Aside0.mk hy167
  clear hy167
  by_cases c2 : y167.length + l0.length < 140737488355328
  · rw [if_pos c2] at H
    have LMc2 := Aside0.mk c2
    clear c2
    obtain ⟨y170, hy170⟩ : ∃ y_ : List Int, y_ = (y167 ++ l0) := ⟨_, rfl⟩
    replace H : ((rosetteref01_Sum.f k l0).bind fun t173 => ((rosetteref01_Low.f t173).bind fun t174 => (if y170.length + t174.length < 140737488355328 then (some (y170 ++ t174)) else (none)))) = some r := by first | (rw [hy170]; with_reducible exact H) | (have H2_ := (Option.bind_some _ _).symm.trans H; rw [hy170]; with_reducible exact H2_) | (have H2_ := (Option.bind_some _ _).symm.trans H; with_reducible exact H2_) | with_reducible exact H | (rw [hy170]; exact H) | exact H
    have Ny170 := Aside0.mk hy170
    clear hy170
    replace H := Option.bind_eq_some_iff.mp H
    obtain ⟨t173, A30, H⟩ := H
    replace H : ((rosetteref01_Low.f t173).bind fun t174 => (if y170.length + t174.length < 140737488355328 then (some (y170 ++ t174)) else (none))) = some r := H
    have A3 := Aside0.mk A30
    clear A30
    replace H := Option.bind_eq_some_iff.mp H
    obtain ⟨t174, A40, H⟩ := H
    replace H : (if y170.length + t174.length < 140737488355328 then (some (y170 ++ t174)) else (none)) = some r := H
    have A4 := Aside0.mk A40
    clear A40
    by_cases c5 : y170.length + t174.length < 140737488355328
    · rw [if_pos c5] at H
      have LMc5 := Aside0.mk c5
      clear c5
      obtain ⟨y177, hy177⟩ : ∃ y_ : List Int, y_ = (y170 ++ t174) := ⟨_, rfl⟩
      replace H : (some y177) = some r := by first | (rw [hy177]; with_reducible exact H) | (have H2_ := (Option.bind_some _ _).symm.trans H; rw [hy177]; with_reducible exact H2_) | (have H2_ := (Option.bind_some _ _).symm.trans H; with_reducible exact H2_) | with_reducible exact H | (rw [hy177]; exact H) | exact H
      have Ny177 := Aside0.mk hy177
      clear hy177
      obtain rfl := Option.some.inj H
      go_enter Try.func33, Try.ntmps33
      go_wp2_with (first | ((with_reducible refine gate_dst (N := 3) rfl ?_); refine Kd.R_lit (Kd.int .u8) _ 5 ?hg (N := 3) ?hd (xs := ([] : List Int)) (inner := []) (ok := fun _ => True) (okp := fun _ => True) ?hr ?hp (fun _ hk => hk) trivial (Below.refl _ _) (Nat.le_refl _) (by simp) ?_; (case hd => rfl); (case hg => rfl); (case hr => first | (go_simp; done) | (go_simp; rfl)); (case hp => exact (Reps.none _ _)); intro v168 w6 ho7 hb hg_ hnew_; clear hg_ hnew_; (first | rw [← Ny167.out] at ho7 | (simp only [Int.reduceToNat] at ho7; rw [← Ny167.out] at ho7)); have n0_ := Aside0.mk (Kd.R_lower ho7 (below_size (by repeat (first | (with_reducible first | exact HB.out | apply below_alloc | apply pw_below_drewN | apply below_drew1) | exact HB.out)))); have n1_ := Aside0.mk (below_step (by repeat (first | (with_reducible first | exact HB.out | apply below_alloc | apply pw_below_drewN | apply below_drew1) | exact HB.out)) hb); clear HB; have HO169 := n0_; have HB := n1_; clear n0_ n1_; clear hb ho7) | ((with_reducible refine gate_builtin (b := .append) (xs := #[.tmp 3, .tmp 4]) rfl ?_); at_builtin; refine Kd.R_append_rows (Kd.int .u8) (w0 := w) w.heap.size rfl (.tmp 3) (.tmp 4) 23 5 (.int .u8 0) 1 rfl Try.underlying23 info5 rfl (by decide) (by decide) v168 y167 l0 _ _ _ (fun _ => True) (fun _ => False) rfl rfl ?aO ?aR (fun _ _ h => h) (fun _ h => h.elim) ?aF ?aB ?aS ?aL ?_; (case aR => repeat (first | exact (Kd.C_below HR0.out HB.out) | (with_reducible refine Kd.C_alloc ?_ _) | (with_reducible refine Kd.C_drewN ?_ _) | (with_reducible refine Kd.C_drew ?_))); (case aB => exact (by repeat (first | (with_reducible first | exact HB.out | apply below_alloc | apply pw_below_drewN | apply below_drew1) | exact HB.out))); (case aF => exact (fun _ _ => trivial)); (case aO => exact (by (with_reducible repeat (first | apply Kd.R_alloc | apply Kd.R_drewN | apply Kd.R_drew)); exact HO169.out)); (case aS => exact (below_size (by repeat (first | (with_reducible first | exact HB.out | apply below_alloc | apply pw_below_drewN | apply below_drew1) | exact HB.out)))); (case aL => have := LMc2.out; omega); intro v171 w8 ho hb hg hat; rw [← Ny170.out] at ho; have n0_ := Aside0.mk (hb); have n1_ := Aside0.mk (ho); clear HB; clear HO169; have HB := n0_; have HO172 := n1_; clear n0_ n1_; clear ho hb hg hat) | ((with_reducible refine gate_callee (f := 47) rfl ?_); refine goesL_ (some 7) rfl rfl Try.func47 (by kernel_rfl) rfl #[.slice A0 l0.length c0] rfl (by (try simp only [List.map_toArray, List.map_cons, List.map_nil]); first | done | rfl | (simp only [List.length_drop, List.length_take]; rfl)) ?_; (with_reducible refine (rosetteref01_Sum.calls k _ _ l0 t173 _ ?side1 ?side2 A3.out).mono ?_); (case side1 => repeat (first | exact (Kd.C_below HR0.out HB.out) | (with_reducible refine Kd.C_alloc ?_ _) | (with_reducible refine Kd.C_drewN ?_ _) | (with_reducible refine Kd.C_drew ?_))); (case side2 => exact HC0.out); rintro e w' ⟨rfl, ⟨nd, rfl⟩⟩; refine ⟨_, rfl, ?_⟩) | ((with_reducible refine gate_callee (f := 46) rfl ?_); refine goesL_ (some 8) rfl rfl Try.func46 (by kernel_rfl) rfl #[.int .u32 t173] rfl (by (try simp only [List.map_toArray, List.map_cons, List.map_nil]); first | done | rfl | (simp only [List.length_drop, List.length_take]; rfl)) ?_; (with_reducible refine (rosetteref01_Low.calls t173 t174 _ A4.out).mono ?_); rintro e w9 ⟨v175, rfl, ho0, hb⟩; refine ⟨_, rfl, ?_⟩; have n0_ := Aside0.mk (Kd.R_elder' (by (with_reducible repeat (first | apply Kd.R_alloc | apply Kd.R_drewN | apply Kd.R_drew)); exact HO172.out) (Kd.R_base ho0) hb); have n1_ := Aside0.mk (Kd.R_lower (Kd.R_new' ho0 (Kd.R_lt (by (with_reducible repeat (first | apply Kd.R_alloc | apply Kd.R_drewN | apply Kd.R_drew)); exact HO172.out))) (below_size (by repeat (first | (with_reducible first | exact HB.out | apply below_alloc | apply pw_below_drewN | apply below_drew1) | exact HB.out)))); have n2_ := Aside0.mk (below_step (by repeat (first | (with_reducible first | exact HB.out | apply below_alloc | apply pw_below_drewN | apply below_drew1) | exact HB.out)) hb); clear HO172; clear HB; have HO172 := n0_; have HO176 := n1_; have HB := n2_; clear n0_ n1_ n2_; (try clear hb); (try clear hb2); (try clear hk); (try clear hi); (try clear ho0); obtain ⟨Ao11, co11, eo11⟩ := Kd.R_slice HO176.out; subst eo11) | ((with_reducible refine gate_builtin (b := .append) (xs := #[.tmp 5, .tmp 8]) rfl ?_); at_builtin; refine Kd.R_append_rows (Kd.int .u8) (w0 := w) w.heap.size rfl (.tmp 5) (.tmp 8) 23 5 (.int .u8 0) 1 rfl Try.underlying23 info5 rfl (by decide) (by decide) v171 y170 t174 _ _ _ (fun k_ => some k_ ≠ (.slice Ao11 t174.length co11 : Value).ownBlock) (fun _ => False) rfl rfl ?aO ?aR (fun _ _ h => h) (fun _ h => h.elim) ?aF ?aB ?aS ?aL ?_; (case aR => repeat (first | exact (Kd.R_reads' HO176.out).2.2 | (with_reducible refine Kd.C_alloc ?_ _) | (with_reducible refine Kd.C_drewN ?_ _) | (with_reducible refine Kd.C_drew ?_))); (case aB => exact (by repeat (first | (with_reducible first | exact HB.out | apply below_alloc | apply pw_below_drewN | apply below_drew1) | exact HB.out))); (case aF => exact (fun k_ hk => Kd.fresh' (Kd.R_lt (by (with_reducible repeat (first | apply Kd.R_alloc | apply Kd.R_drewN | apply Kd.R_drew)); exact HO176.out)) k_ hk)); (case aO => exact (by (with_reducible repeat (first | apply Kd.R_alloc | apply Kd.R_drewN | apply Kd.R_drew)); exact Kd.R_mono HO172.out (fun _ hk => hk.2))); (case aS => exact (below_size (by repeat (first | (with_reducible first | exact HB.out | apply below_alloc | apply pw_below_drewN | apply below_drew1) | exact HB.out)))); (case aL => have := LMc5.out; omega); intro v178 w10 ho hb hg hat; rw [← Ny177.out] at ho; have n0_ := Aside0.mk (Kd.R_after (ok := (fun _ => True)) (by (with_reducible repeat (first | apply Kd.R_alloc | apply Kd.R_drewN | apply Kd.R_drew)); exact HO176.out) hg hat); have n1_ := Aside0.mk (hb); have n2_ := Aside0.mk (ho); clear HO176; clear HB; clear HO172; have HO176 := n0_; have HB := n1_; have HO179 := n2_; clear n0_ n1_ n2_; clear ho hb hg hat))
      go_ret
      exact ⟨_, by first | rfl | (simp [errW_none, errW_some] <;> rfl) | (simp [*, errW_none, errW_some] <;> rfl), by (with_reducible repeat (first | apply Kd.R_alloc | apply Kd.R_drewN | apply Kd.R_drew)); exact Kd.R_mono HO179.out (fun _ hk => trivial), by repeat (first | (with_reducible first | exact HB.out | apply below_alloc | apply pw_below_drewN | apply below_drew1) | exact HB.out)⟩
    · rw [if_neg c5] at H
      exact absurd H (by simp)
  · rw [if_neg c2] at H
    exact absurd H (by simp)

end Go.Proofs.Yticpcjjgdkbcjaa.G
end

section
-- Written by a program of this session (wip/tools/myprint.py), over the kit's print.
namespace Go.Proofs.Yticpcjjgdkbcjaa.G
open Go.RowKit Go.Proofs.YticpcjjgdkbcjaaW.PrintWords Go.Proofs.YticpcjjgdkbcjaaW.PrintLast Go.Proofs.YticpcjjgdkbcjaaW.PrintMore
attribute [local go_sem] max2_int min2_int max_two min_two max_three min_three max_four min_four   -- for this text's walks alone
set_option linter.unusedVariables false
set_option linter.unusedSimpArgs false

/-! ### rosetteref03_Make: function 16 -/
def rosetteref03_Make.f (k : Nat) (l0 : List Int) : Option (List Int × Int) := if (l0.length : Int) > 8192 then (some (([] : List Int), 4)) else ((rosetteref01_Seal.f k (([(l0.length : Int) % 256, (wrap64 ((l0.length : Int) / 256)) % 256] : List Int))).bind fun t183 => ((rosetteref01_Seal.f k l0).bind fun t186 => (if t183.length + t186.length < 140737488355328 then (some ((t183 ++ t186), 0)) else (none))))
theorem rosetteref03_Make.mono : ∀ a0 k, LeO (rosetteref03_Make.f k a0) (rosetteref03_Make.f (k + 1) a0) := by
  intro a0 k
  unfold rosetteref03_Make.f
  repeat' first
      | (with_reducible exact rosetteref01_Seal.mono _ _)
      | (with_reducible exact LeO.refl _)
      | (with_reducible exact LeO.none _)
      | (with_reducible refine LeO.ite ?_ ?_)
      | (with_reducible refine LeO.bind ?_ (fun _ => ?_))
      | exact rosetteref01_Seal.mono _ _
      | exact LeO.none _
      | refine LeO.ite ?_ ?_
      | refine LeO.bind ?_ (fun _ => ?_)
set_option maxHeartbeats 8000000 in
set_option maxRecDepth 100000 in
theorem rosetteref03_Make.calls (k : Nat) (A0 : Option Addr) (c0 : Nat) (l0 : List Int) (r1 : List Int) (r2 : Int) (w : World) (hr0 : Kd.C (Kd.int .u8) w A0 l0.length l0) (hc0 : l0.length ≤ c0) (h : rosetteref03_Make.f k l0 = some (r1, r2)) :
    Calls Try.prog 16 #[.slice A0 l0.length c0] w fun e w' => ∃ v0_ : Value, e = .returned (.tuple #[v0_, .int .i64 r2]) ∧ Kd.R (Kd.int .u8) 5 w' w.heap.size (fun _ => True) v0_ r1 ∧ Below w.heap.size w w' := by
  have HR0 := Aside0.mk hr0
  have HC0 := Aside0.mk hc0
  clear hr0 hc0
  have HB := Aside0.mk (Below.refl w.heap.size w)
  have H : (if (l0.length : Int) > 8192 then (some (([] : List Int), 4)) else ((rosetteref01_Seal.f k (([(l0.length : Int) % 256, (wrap64 ((l0.length : Int) / 256)) % 256] : List Int))).bind fun t183 => ((rosetteref01_Seal.f k l0).bind fun t186 => (if t183.length + t186.length < 140737488355328 then (some ((t183 ++ t186), 0)) else (none))))) = some (r1, r2) := h
  clear h
  by_cases c2 : (l0.length : Int) > 8192
  · rw [if_pos c2] at H
    have c2b0 : decide (8192 < (l0.length : Int)) = true := decide_eq_true c2
    have c2b1 : decide (8192 < l0.length) = true := decide_eq_true (by omega)
    clear c2
    simp only [Option.some.injEq, Prod.mk.injEq] at H
    obtain ⟨rfl, rfl⟩ := H
    go_enter Try.func16, Try.ntmps16
    go_wp2
    go_ret2
    exact ⟨_, by first | rfl | (simp [errW_none, errW_some] <;> rfl) | (simp [*, errW_none, errW_some] <;> rfl), by first | exact Kd.R_nil _ _ _ _ _ | exact Kd.N_nil _ _ _ _ _ | exact Kd.V_nil _ _ _ _ _ | exact Kd.Q_nil _ _ _ _ _ | exact Kd.S_nil _ _ _ _ _, by repeat (first | (with_reducible first | exact HB.out | apply below_alloc | apply pw_below_drewN | apply below_drew1) | exact HB.out)⟩
  · rw [if_neg c2] at H
    have c2b0 : decide (8192 < (l0.length : Int)) = false := decide_eq_false c2
    have c2b1 : decide (8192 < l0.length) = false := decide_eq_false (by omega)
    clear c2
    obtain ⟨y180, hy180⟩ : ∃ y_ : List Int, y_ = (([(l0.length : Int) % 256, (wrap64 ((l0.length : Int) / 256)) % 256] : List Int)) := ⟨_, rfl⟩
    replace H : ((rosetteref01_Seal.f k y180).bind fun t183 => ((rosetteref01_Seal.f k l0).bind fun t186 => (if t183.length + t186.length < 140737488355328 then (some ((t183 ++ t186), 0)) else (none)))) = some (r1, r2) := by first | (rw [hy180]; with_reducible exact H) | (have H2_ := (Option.bind_some _ _).symm.trans H; rw [hy180]; with_reducible exact H2_) | (have H2_ := (Option.bind_some _ _).symm.trans H; with_reducible exact H2_) | with_reducible exact H | (rw [hy180]; exact H) | exact H
    have Ny180 := Aside0.mk hy180
    clear hy180
    replace H := Option.bind_eq_some_iff.mp H
    obtain ⟨t183, A30, H⟩ := H
    replace H : ((rosetteref01_Seal.f k l0).bind fun t186 => (if t183.length + t186.length < 140737488355328 then (some ((t183 ++ t186), 0)) else (none))) = some (r1, r2) := H
    have A3 := Aside0.mk A30
    clear A30
    replace H := Option.bind_eq_some_iff.mp H
    obtain ⟨t186, A40, H⟩ := H
    replace H : (if t183.length + t186.length < 140737488355328 then (some ((t183 ++ t186), 0)) else (none)) = some (r1, r2) := H
    have A4 := Aside0.mk A40
    clear A40
    by_cases c5 : t183.length + t186.length < 140737488355328
    · rw [if_pos c5] at H
      have LMc5 := Aside0.mk c5
      clear c5
      obtain ⟨y189, hy189⟩ : ∃ y_ : List Int, y_ = (t183 ++ t186) := ⟨_, rfl⟩
      replace H : (some (y189, 0)) = some (r1, r2) := by first | (rw [hy189]; with_reducible exact H) | (have H2_ := (Option.bind_some _ _).symm.trans H; rw [hy189]; with_reducible exact H2_) | (have H2_ := (Option.bind_some _ _).symm.trans H; with_reducible exact H2_) | with_reducible exact H | (rw [hy189]; exact H) | exact H
      have Ny189 := Aside0.mk hy189
      clear hy189
      simp only [Option.some.injEq, Prod.mk.injEq] at H
      obtain ⟨rfl, rfl⟩ := H
      go_enter Try.func16, Try.ntmps16
      go_wp2_with (first | ((with_reducible refine gate_dst (N := 16) rfl ?_); refine Kd.R_lit (Kd.int .u8) _ 5 ?hg (N := 16) ?hd (xs := ([(l0.length : Int) % 256, (wrap64 ((l0.length : Int) / 256)) % 256] : List Int)) (inner := [.int .u8 ((l0.length : Int) % 256), .int .u8 ((wrap64 ((l0.length : Int) / 256)) % 256)]) (ok := fun _ => True) (okp := fun _ => True) ?hr ?hp (fun _ hk => hk) trivial (Below.refl _ _) (Nat.le_refl _) (by simp) ?_; (case hd => rfl); (case hg => rfl); (case hr => first | (go_simp; done) | (go_simp; rfl)); (case hp => exact (Reps.one (show Kd.M (Kd.int .u8) _ _ _ ((l0.length : Int) % 256) [.int .u8 ((l0.length : Int) % 256)] from rfl) (Reps.one (show Kd.M (Kd.int .u8) _ _ _ ((wrap64 ((l0.length : Int) / 256)) % 256) [.int .u8 ((wrap64 ((l0.length : Int) / 256)) % 256)] from rfl) (Reps.none _ _)))); intro v181 w6 ho7 hb hg_ hnew_; clear hg_ hnew_; (first | rw [← Ny180.out] at ho7 | (simp only [Int.reduceToNat] at ho7; rw [← Ny180.out] at ho7)); have n0_ := Aside0.mk (Kd.R_lower ho7 (below_size (by repeat (first | (with_reducible first | exact HB.out | apply below_alloc | apply pw_below_drewN | apply below_drew1) | exact HB.out)))); have n1_ := Aside0.mk (below_step (by repeat (first | (with_reducible first | exact HB.out | apply below_alloc | apply pw_below_drewN | apply below_drew1) | exact HB.out)) hb); clear HB; have HO182 := n0_; have HB := n1_; clear n0_ n1_; clear hb ho7; obtain ⟨Ao8, co8, eo8⟩ := Kd.R_slice HO182.out; subst eo8) | ((with_reducible refine gate_callee (f := 33) rfl ?_); refine goesL_ (some 17) rfl rfl Try.func33 (by kernel_rfl) rfl #[.slice Ao8 y180.length co8] rfl (by (try simp only [List.map_toArray, List.map_cons, List.map_nil]); first | done | rfl | (simp only [List.length_drop, List.length_take]; rfl)) ?_; (with_reducible refine (rosetteref01_Seal.calls k _ _ y180 t183 _ ?side1 ?side2 A3.out).mono ?_); (case side1 => repeat (first | exact (Kd.R_reads' HO182.out).2.2 | (with_reducible refine Kd.C_alloc ?_ _) | (with_reducible refine Kd.C_drewN ?_ _) | (with_reducible refine Kd.C_drew ?_))); (case side2 => exact (Kd.R_reads' HO182.out).2.1); rintro e w9 ⟨v184, rfl, ho0, hb⟩; refine ⟨_, rfl, ?_⟩; have n0_ := Aside0.mk (Kd.R_elder' (by (with_reducible repeat (first | apply Kd.R_alloc | apply Kd.R_drewN | apply Kd.R_drew)); exact HO182.out) (Kd.R_base ho0) hb); have n1_ := Aside0.mk (Kd.R_lower (Kd.R_new' ho0 (Kd.R_lt (by (with_reducible repeat (first | apply Kd.R_alloc | apply Kd.R_drewN | apply Kd.R_drew)); exact HO182.out))) (below_size (by repeat (first | (with_reducible first | exact HB.out | apply below_alloc | apply pw_below_drewN | apply below_drew1) | exact HB.out)))); have n2_ := Aside0.mk (below_step (by repeat (first | (with_reducible first | exact HB.out | apply below_alloc | apply pw_below_drewN | apply below_drew1) | exact HB.out)) hb); clear HO182; clear HB; have HO182 := n0_; have HO185 := n1_; have HB := n2_; clear n0_ n1_ n2_; (try clear hb); (try clear hb2); (try clear hk); (try clear hi); (try clear ho0)) | ((with_reducible refine gate_callee (f := 33) rfl ?_); refine goesL_ (some 20) rfl rfl Try.func33 (by kernel_rfl) rfl #[.slice A0 l0.length c0] rfl (by (try simp only [List.map_toArray, List.map_cons, List.map_nil]); first | done | rfl | (simp only [List.length_drop, List.length_take]; rfl)) ?_; (with_reducible refine (rosetteref01_Seal.calls k _ _ l0 t186 _ ?side1 ?side2 A4.out).mono ?_); (case side1 => repeat (first | exact (Kd.C_below HR0.out HB.out) | (with_reducible refine Kd.C_alloc ?_ _) | (with_reducible refine Kd.C_drewN ?_ _) | (with_reducible refine Kd.C_drew ?_))); (case side2 => exact HC0.out); rintro e w10 ⟨v187, rfl, ho0, hb⟩; refine ⟨_, rfl, ?_⟩; have n0_ := Aside0.mk (Kd.R_elder' (by (with_reducible repeat (first | apply Kd.R_alloc | apply Kd.R_drewN | apply Kd.R_drew)); exact HO182.out) (Kd.R_base ho0) hb); have n1_ := Aside0.mk (Kd.R_elder' (by (with_reducible repeat (first | apply Kd.R_alloc | apply Kd.R_drewN | apply Kd.R_drew)); exact HO185.out) (Kd.R_base ho0) hb); have n2_ := Aside0.mk (Kd.R_lower (Kd.R_new' (Kd.R_new' ho0 (Kd.R_lt (by (with_reducible repeat (first | apply Kd.R_alloc | apply Kd.R_drewN | apply Kd.R_drew)); exact HO182.out))) (Kd.R_lt (by (with_reducible repeat (first | apply Kd.R_alloc | apply Kd.R_drewN | apply Kd.R_drew)); exact HO185.out))) (below_size (by repeat (first | (with_reducible first | exact HB.out | apply below_alloc | apply pw_below_drewN | apply below_drew1) | exact HB.out)))); have n3_ := Aside0.mk (below_step (by repeat (first | (with_reducible first | exact HB.out | apply below_alloc | apply pw_below_drewN | apply below_drew1) | exact HB.out)) hb); clear HO182; clear HO185; clear HB; have HO182 := n0_; have HO185 := n1_; have HO188 := n2_; have HB := n3_; clear n0_ n1_ n2_ n3_; (try clear hb); (try clear hb2); (try clear hk); (try clear hi); (try clear ho0); obtain ⟨Ao12, co12, eo12⟩ := Kd.R_slice HO188.out; subst eo12) | ((with_reducible refine gate_builtin (b := .append) (xs := #[.tmp 18, .tmp 20]) rfl ?_); at_builtin; refine Kd.R_append_rows (Kd.int .u8) (w0 := w) w.heap.size rfl (.tmp 18) (.tmp 20) 23 5 (.int .u8 0) 1 rfl Try.underlying23 info5 rfl (by decide) (by decide) v184 t183 t186 _ _ _ (fun k_ => some k_ ≠ (.slice Ao8 y180.length co8 : Value).ownBlock ∧ some k_ ≠ (.slice Ao12 t186.length co12 : Value).ownBlock) (fun _ => False) rfl rfl ?aO ?aR (fun _ _ h => h) (fun _ h => h.elim) ?aF ?aB ?aS ?aL ?_; (case aR => repeat (first | exact (Kd.R_reads' HO188.out).2.2 | (with_reducible refine Kd.C_alloc ?_ _) | (with_reducible refine Kd.C_drewN ?_ _) | (with_reducible refine Kd.C_drew ?_))); (case aB => exact (by repeat (first | (with_reducible first | exact HB.out | apply below_alloc | apply pw_below_drewN | apply below_drew1) | exact HB.out))); (case aF => exact (fun k_ hk => ⟨Kd.fresh' (Kd.R_lt (by (with_reducible repeat (first | apply Kd.R_alloc | apply Kd.R_drewN | apply Kd.R_drew)); exact HO182.out)) k_ hk, Kd.fresh' (Kd.R_lt (by (with_reducible repeat (first | apply Kd.R_alloc | apply Kd.R_drewN | apply Kd.R_drew)); exact HO188.out)) k_ hk⟩)); (case aO => exact (by (with_reducible repeat (first | apply Kd.R_alloc | apply Kd.R_drewN | apply Kd.R_drew)); exact Kd.R_mono HO185.out (fun _ hk => ⟨hk.1.2, hk.2⟩))); (case aS => exact (below_size (by repeat (first | (with_reducible first | exact HB.out | apply below_alloc | apply pw_below_drewN | apply below_drew1) | exact HB.out)))); (case aL => have := LMc5.out; omega); intro v190 w11 ho hb hg hat; rw [← Ny189.out] at ho; have n0_ := Aside0.mk (Kd.R_after (ok := (fun k_ => some k_ ≠ (.slice Ao12 t186.length co12 : Value).ownBlock)) (by (with_reducible repeat (first | apply Kd.R_alloc | apply Kd.R_drewN | apply Kd.R_drew)); exact Kd.R_mono HO182.out (fun _ hk => ⟨hk.2, hk.1.2⟩)) hg hat); have n1_ := Aside0.mk (Kd.R_after (ok := (fun k_ => some k_ ≠ (.slice Ao8 y180.length co8 : Value).ownBlock)) (by (with_reducible repeat (first | apply Kd.R_alloc | apply Kd.R_drewN | apply Kd.R_drew)); exact Kd.R_mono HO188.out (fun _ hk => ⟨hk.1.2, hk.2⟩)) hg hat); have n2_ := Aside0.mk (hb); have n3_ := Aside0.mk (ho); clear HO182; clear HO188; clear HB; clear HO185; have HO182 := n0_; have HO188 := n1_; have HB := n2_; have HO191 := n3_; clear n0_ n1_ n2_ n3_; clear ho hb hg hat))
      go_ret2
      exact ⟨_, by first | rfl | (simp [errW_none, errW_some] <;> rfl) | (simp [*, errW_none, errW_some] <;> rfl), by (with_reducible repeat (first | apply Kd.R_alloc | apply Kd.R_drewN | apply Kd.R_drew)); exact Kd.R_mono HO191.out (fun _ hk => trivial), by repeat (first | (with_reducible first | exact HB.out | apply below_alloc | apply pw_below_drewN | apply below_drew1) | exact HB.out)⟩
    · rw [if_neg c5] at H
      exact absurd H (by simp)

end Go.Proofs.Yticpcjjgdkbcjaa.G
end

section
/- the small case of the packets' laws, walked -/
set_option linter.unusedVariables false
set_option linter.unusedSimpArgs false
set_option autoImplicit false
namespace Go.Proofs.Yticpcjjgdkbcjaa
open Go.RowKit Go.Proofs.YticpcjjgdkbcjaaW.PrintWords Go.Proofs.YticpcjjgdkbcjaaW.PrintLast Go.Proofs.YticpcjjgdkbcjaaW.PrintMore Go.Proofs.Yticpcjjgdkbcjaa.G

instance d7 : DecidableEq (Int × Int × Int × Int × Int × List Int × Int) := fun a b => if h : a.1 = b.1 ∧ a.2.1 = b.2.1 ∧ a.2.2.1 = b.2.2.1 ∧ a.2.2.2.1 = b.2.2.2.1 ∧ a.2.2.2.2.1 = b.2.2.2.2.1 ∧ a.2.2.2.2.2.1 = b.2.2.2.2.2.1 ∧ a.2.2.2.2.2.2 = b.2.2.2.2.2.2 then .isTrue (by obtain ⟨a1, a2, a3, a4, a5, a6, a7⟩ := a; obtain ⟨b1, b2, b3, b4, b5, b6, b7⟩ := b; simp only at h; obtain ⟨rfl, rfl, rfl, rfl, rfl, rfl, rfl⟩ := h; rfl) else .isFalse (fun e => h (by subst e; exact ⟨rfl, rfl, rfl, rfl, rfl, rfl, rfl⟩))
def FP : List Int := [7, 0, 56, 132, 152, 14, 2, 172, 2, 2, 2, 97, 98, 213, 10, 58, 104]
theorem sm1 : packet_Encode.f 20 2 300 2 0 0 [97, 98] = some (FP, true) := by decide +kernel
theorem sm2 : packet_Decode.f FP = some (2, 300, 2, 0, 0, [97, 98], 0) := by decide +kernel
theorem sm3 : rosetteref03_Make.f 20 [2, 172, 2, 2, 2, 97, 98] = some (FP, 0) := by decide +kernel
theorem sm4 : packet_Encode.f 20 3 0 0 1 0 [] = some ([], false) := by decide +kernel
theorem sm5 : packet_Decode.f (FP ++ [0]) = some (0, 0, 0, 0, 0, [], 5) := by decide +kernel
theorem sm6 : packet_Decode.f [] = some (0, 0, 0, 0, 0, [], 2) := by decide +kernel
theorem sm7 : rosetteref22_Same.f 2 300 2 0 0 [97, 98] 2 300 2 0 0 [97, 98] = some true := by decide +kernel
theorem sm8 : packet_Pieces.f 65 = some 2 := by decide +kernel
theorem sm9 : packet_Pieces.f 64 = some 1 := by decide +kernel
theorem sm10 : packet_Pieces.f 0 = some 0 := by decide +kernel
theorem conv_b (W : World) (C : Array Value) (n c : Nat) : (convert 23 23 (.slice (some ⟨W.heap.size, 0, none⟩) n c)).run Try.prog (W.alloc (.cells C 5)) = .ok (.slice (some ⟨W.heap.size, 0, none⟩) n c) (W.alloc (.cells C 5 (C.size, C.size + 1))) := Lib.run_convert_bytes_const W 23 5 C n c Try.underlying23 Try.underlying5
theorem own_empty (W : World) : (W.alloc (.cells #[] 5)).ownsRow W.heap.size 5 1 (.slice (some ⟨W.heap.size, 0, none⟩) 0 0) ([] : List Int).length (nums .u8 []) :=
  ⟨by simp [nums], .inr ⟨W.heap.size, 0, #[], rfl, Nat.le_refl _, heap_alloc_new W _, by simp, by simp [maxLen], by simp, by simp [nums]⟩⟩
theorem ldec {l : List Int} {n : Nat} (hn : l.length = n) (A0 : Option Addr) (c0 : Nat) (r1 r2 r3 r4 r5 : Int) (r6 : List Int) (r7 : Int) (w : World) (hr0 : Kd.C (Kd.int .u8) w A0 l.length l) (hc0 : n ≤ c0) (h : packet_Decode.f l = some (r1, r2, r3, r4, r5, r6, r7)) :
    Calls Try.prog 11 #[.slice A0 n c0] w fun e w' => ∃ v1_ : Value, e = .returned (.tuple #[.agg #[.int .i64 r1, .int .i64 r2, .int .i64 r3, .int .i64 r4, .int .u32 r5, v1_], .int .i64 r7]) ∧ Rs 5 w' w.heap.size (fun _ => True) v1_ r6 ∧ Below w.heap.size w w' := by
  subst hn
  exact packet_Decode.calls A0 c0 l r1 r2 r3 r4 r5 r6 r7 w hr0 hc0 h
set_option maxRecDepth 100000 in
set_option maxHeartbeats 8000000 in
theorem small_any (w : World) : Calls Try.prog 8 #[] w fun e w' => e = .returned (.bool true) ∧ Below w.heap.size w w' := by
  have hcv := conv_b
  obtain ⟨F, hF⟩ : ∃ F, F = FP := ⟨_, rfl⟩
  have hFl : F.length = 17 := by rw [hF]; rfl
  have EF := Aside0.mk hF
  have LF := Aside0.mk hFl
  clear hF hFl
  have HC1 := Aside0.mk (Kd.C_alloc (lit_C w 5 .u8 [97, 98] (by decide) (2, 3)) (.cells #[.int .i64 2, .int .i64 300, .int .i64 2, .int .i64 0, .int .u32 0, .slice (some ⟨w.heap.size, 0, none⟩) 2 2] 25 (0, 0)))
  have hP := heap_alloc_new (w.alloc (.cells #[.int .u8 97, .int .u8 98] 5 (2, 3))) (.cells #[.int .i64 2, .int .i64 300, .int .i64 2, .int .i64 0, .int .u32 0, .slice (some ⟨w.heap.size, 0, none⟩) 2 2] 25 (0, 0))
  rw [World.size_alloc] at hP
  have KP1 := Aside0.mk hP
  have HB1 := Aside0.mk (((Below.refl w.heap.size w).alloc (Nat.le_refl _) (.cells #[.int .u8 97, .int .u8 98] 5 (2, 3))).alloc (by simp) (.cells #[.int .i64 2, .int .i64 300, .int .i64 2, .int .i64 0, .int .u32 0, .slice (some ⟨w.heap.size, 0, none⟩) 2 2] 25 (0, 0)))
  clear hP
  go_enter Try.func8, Try.ntmps8
  go_upto_region 2 with fail
  change Aside0 (Kd.C (Kd.int .u8) ((w.alloc (.cells #[.int .u8 97, .int .u8 98] 5 (2, 3))).alloc (.cells #[.int .i64 2, .int .i64 300, .int .i64 2, .int .i64 0, .int .u32 0, .slice (some ⟨w.heap.size, 0, none⟩) 2 2] 25 (0, 0))) (some ⟨w.heap.size, 0, none⟩) 2 [97, 98]) at HC1
  generalize (w.alloc (.cells #[.int .u8 97, .int .u8 98] 5 (2, 3))).alloc (.cells #[.int .i64 2, .int .i64 300, .int .i64 2, .int .i64 0, .int .u32 0, .slice (some ⟨w.heap.size, 0, none⟩) 2 2] 25 (0, 0)) = w1 at HC1 KP1 HB1 ⊢
  obtain ⟨⟨p0, p1, p2, p3, p4, p5⟩, gp0, gp1, gp2, gp3, gp4, gp5⟩ := cells6 KP1.out
  go_wp2_with fail
  refine (packet_Encode.calls 20 2 300 2 0 0 (some ⟨w.heap.size, 0, none⟩) 2 [97, 98] F true w1 HC1.out (Nat.le_refl _) (by rw [EF.out]; exact sm1)).mono ?_
  rintro e w2 ⟨v1, rfl, hR, hX⟩
  obtain ⟨Aa, na, rfl, hna, _, hH, _⟩ := held_own hR
  clear p0 p1 p2 p3 p4 p5 gp0 gp1 gp2 gp3 gp4 gp5
  have KP2 := Aside0.mk (vkeepB KP1.out hX)
  have HC2 := Aside0.mk (Kd.C_below HC1.out hX)
  have HB2 := Aside0.mk (HB1.out.trans ((hX).mono HB1.out.size))
  clear KP1 HC1 HB1
  have HA2 := Aside0.mk (hH.mono (S' := fun _ => True) (fun _ _ => trivial))
  clear hR hX hH
  go_wp2_with fail
  refine (packet_Decode.calls Aa na F 2 300 2 0 0 [97, 98] 0 w2 (HA2.out.C (by have := LF.out; omega)) hna (by rw [EF.out]; exact sm2)).mono ?_
  rintro e w3 ⟨v2, rfl, ⟨_, Aq, cq, rfl, hq1, hq2, hHq⟩, hX⟩
  have KP3 := Aside0.mk (vkeepB KP2.out hX)
  have HC3 := Aside0.mk (Kd.C_below HC2.out hX)
  have HB3 := Aside0.mk (HB2.out.trans ((hX).mono HB2.out.size))
  have HA3 := Aside0.mk (HeldB.below HA2.out hX)
  clear KP2 HC2 HB2 HA2
  have HQ3 := Aside0.mk hHq
  clear hX hHq
  have HQL := Aside0.mk hq1
  clear hq1 hq2
  have hb := (Below.refl w3.heap.size w3).alloc (Nat.le_refl _) (.cells #[.int .i64 2, .int .i64 300, .int .i64 2, .int .i64 0, .int .u32 0, .slice Aq 2 cq] 25 (0, 0))
  have hN := heap_alloc_new w3 (.cells #[.int .i64 2, .int .i64 300, .int .i64 2, .int .i64 0, .int .u32 0, .slice Aq 2 cq] 25 (0, 0))
  go_upto_region 4 with fail
  have KP4 := Aside0.mk (vkeepB KP3.out hb)
  have HC4 := Aside0.mk (Kd.C_below HC3.out hb)
  have HB4 := Aside0.mk (HB3.out.trans ((hb).mono HB3.out.size))
  have HA4 := Aside0.mk (HeldB.below HA3.out hb)
  have HQ4 := Aside0.mk (HeldT.below HQ3.out hb)
  clear KP3 HC3 HB3 HA3 HQ3
  have KQ4 := Aside0.mk hN
  clear hb hN
  generalize w3.alloc (.cells #[.int .i64 2, .int .i64 300, .int .i64 2, .int .i64 0, .int .u32 0, .slice Aq 2 cq] 25 (0, 0)) = w4 at KP4 HC4 HB4 HA4 HQ4 KQ4 ⊢
  generalize w3.heap.size = bKQ at KQ4 ⊢
  go_wp2_with fail
  refine (rosetteref03_Make.calls 20 _ _ [2, 172, 2, 2, 2, 97, 98] F 0 _ (lit_C w4 5 .u8 [2, 172, 2, 2, 2, 97, 98] (by decide) _) (Nat.le_refl _) (by rw [EF.out]; exact sm3)).mono ?_
  rintro e w5 ⟨v3, rfl, hR, hX0⟩
  obtain ⟨Ax, nx, rfl, hnx, _, hH, _⟩ := held_own hR
  have hX : Below w4.heap.size w4 w5 := ((Below.refl _ _).alloc (Nat.le_refl _) _).trans (hX0.mono (by simp))
  have KP5 := Aside0.mk (vkeepB KP4.out hX)
  have HC5 := Aside0.mk (Kd.C_below HC4.out hX)
  have HB5 := Aside0.mk (HB4.out.trans ((hX).mono HB4.out.size))
  have HA5 := Aside0.mk (HeldB.below HA4.out hX)
  have HQ5 := Aside0.mk (HeldT.below HQ4.out hX)
  have KQ5 := Aside0.mk (vkeepB KQ4.out hX)
  clear KP4 HC4 HB4 HA4 HQ4 KQ4
  have HX5 := Aside0.mk (hH.mono (S' := fun _ => True) (fun _ _ => trivial))
  clear hR hX hX0 hH
  go_wp2_with fail
  refine (packet_Encode.calls 20 3 0 0 1 0 none 0 [] [] false _ (nil_C _ .u8) (Nat.le_refl _) sm4).mono ?_
  rintro e w6 ⟨v4, rfl, hR, hX⟩
  have KP6 := Aside0.mk (vkeepB KP5.out hX)
  have HC6 := Aside0.mk (Kd.C_below HC5.out hX)
  have HB6 := Aside0.mk (HB5.out.trans ((hX).mono HB5.out.size))
  have HA6 := Aside0.mk (HeldB.below HA5.out hX)
  have HQ6 := Aside0.mk (HeldT.below HQ5.out hX)
  have KQ6 := Aside0.mk (vkeepB KQ5.out hX)
  have HX6 := Aside0.mk (HeldB.below HX5.out hX)
  clear KP5 HC5 HB5 HA5 HQ5 KQ5 HX5
  clear hR hX
  have b6 := Aside0.mk ((Below.refl w6.heap.size w6).alloc (Nat.le_refl _) (.cells #[] 5))
  go_wp2_with (first
    | (at_builtin; refine print_append_row (w0 := w6) w6.heap.size rfl (.tmp 38) (.tmp 39) 23 5 .u8 1 rfl Try.underlying23 info_b8 (by decide) (.slice (some ⟨w6.heap.size, 0, none⟩) 0 0) [] F Aa F.length na rfl rfl (own_empty w6) (Kd.reads_of_C (d := (0 : Int)) ((HA6.out.below b6.out).C (by have := LF.out; omega))) b6.out (by simp) (by have := LF.out; simp; omega) ?_; intro va wa hoa hBa _ _; rw [List.nil_append] at hoa; obtain ⟨A3, n3, rfl, _, _⟩ := own_C (kd_R hoa))
    | (at_builtin; refine print_append_num (w0 := w6) w6.heap.size rfl (.tmp 40) (.tmp 41) 23 5 .u8 1 rfl Try.underlying23 info_b8 (by decide) (.slice A3 F.length n3) F 0 rfl rfl hoa hBa (by have := hBa.size; omega) (by have := LF.out; omega) ?_; intro vb w7 hob hX _ _; obtain ⟨A4, n4, rfl, hn4, _, hH4, hC4⟩ := held_own (kd_R hob)))
  have KP7 := Aside0.mk (vkeepB KP6.out hX)
  have HC7 := Aside0.mk (Kd.C_below HC6.out hX)
  have HB7 := Aside0.mk (HB6.out.trans ((hX).mono HB6.out.size))
  have HA7 := Aside0.mk (HeldB.below HA6.out hX)
  have HQ7 := Aside0.mk (HeldT.below HQ6.out hX)
  have KQ7 := Aside0.mk (vkeepB KQ6.out hX)
  have HX7 := Aside0.mk (HeldB.below HX6.out hX)
  clear KP6 HC6 HB6 HA6 HQ6 KQ6 HX6
  have hC4' := hC4
  clear hX hoa hBa hob hC4 b6
  refine (ldec (l := F ++ [0]) (n := F.length + 1) (by simp) A4 n4 0 0 0 0 0 [] 5 w7 hC4' (by simpa using hn4) (by rw [EF.out]; exact sm5)).mono ?_
  rintro e w8 ⟨v5, rfl, ⟨_, Ar, cr, rfl, _, _, _⟩, hX⟩
  have KP8 := Aside0.mk (vkeepB KP7.out hX)
  have HC8 := Aside0.mk (Kd.C_below HC7.out hX)
  have HB8 := Aside0.mk (HB7.out.trans ((hX).mono HB7.out.size))
  have HA8 := Aside0.mk (HeldB.below HA7.out hX)
  have HQ8 := Aside0.mk (HeldT.below HQ7.out hX)
  have KQ8 := Aside0.mk (vkeepB KQ7.out hX)
  have HX8 := Aside0.mk (HeldB.below HX7.out hX)
  clear KP7 HC7 HB7 HA7 HQ7 KQ7 HX7
  clear hX hH4 hC4'
  have hb := (Below.refl w8.heap.size w8).alloc (Nat.le_refl _) (.cells #[.int .i64 0, .int .i64 0, .int .i64 0, .int .i64 0, .int .u32 0, .slice Ar 0 cr] 25 (0, 0))
  have hN := heap_alloc_new w8 (.cells #[.int .i64 0, .int .i64 0, .int .i64 0, .int .i64 0, .int .u32 0, .slice Ar 0 cr] 25 (0, 0))
  go_upto_region 7 with fail
  have KP9 := Aside0.mk (vkeepB KP8.out hb)
  have HC9 := Aside0.mk (Kd.C_below HC8.out hb)
  have HB9 := Aside0.mk (HB8.out.trans ((hb).mono HB8.out.size))
  have HA9 := Aside0.mk (HeldB.below HA8.out hb)
  have HQ9 := Aside0.mk (HeldT.below HQ8.out hb)
  have KQ9 := Aside0.mk (vkeepB KQ8.out hb)
  have HX9 := Aside0.mk (HeldB.below HX8.out hb)
  clear KP8 HC8 HB8 HA8 HQ8 KQ8 HX8
  clear hb hN
  generalize w8.alloc (.cells #[.int .i64 0, .int .i64 0, .int .i64 0, .int .i64 0, .int .u32 0, .slice Ar 0 cr] 25 (0, 0)) = w9 at KP9 HC9 HB9 HA9 HQ9 KQ9 HX9 ⊢
  go_wp2_with fail
  refine (packet_Decode.calls none 0 [] 0 0 0 0 0 [] 2 w9 (nil_C _ .u8) (Nat.le_refl _) sm6).mono ?_
  rintro e w10 ⟨v6, rfl, ⟨_, As, cs, rfl, _, _, _⟩, hX⟩
  have KP10 := Aside0.mk (vkeepB KP9.out hX)
  have HC10 := Aside0.mk (Kd.C_below HC9.out hX)
  have HB10 := Aside0.mk (HB9.out.trans ((hX).mono HB9.out.size))
  have HA10 := Aside0.mk (HeldB.below HA9.out hX)
  have HQ10 := Aside0.mk (HeldT.below HQ9.out hX)
  have KQ10 := Aside0.mk (vkeepB KQ9.out hX)
  have HX10 := Aside0.mk (HeldB.below HX9.out hX)
  clear KP9 HC9 HB9 HA9 HQ9 KQ9 HX9
  clear hX
  have hb := (Below.refl w10.heap.size w10).alloc (Nat.le_refl _) (.cells #[.int .i64 0, .int .i64 0, .int .i64 0, .int .i64 0, .int .u32 0, .slice As 0 cs] 25 (0, 0))
  have hN := heap_alloc_new w10 (.cells #[.int .i64 0, .int .i64 0, .int .i64 0, .int .i64 0, .int .u32 0, .slice As 0 cs] 25 (0, 0))
  go_upto_region 8 with fail
  have KP11 := Aside0.mk (vkeepB KP10.out hb)
  have HC11 := Aside0.mk (Kd.C_below HC10.out hb)
  have HB11 := Aside0.mk (HB10.out.trans ((hb).mono HB10.out.size))
  have HA11 := Aside0.mk (HeldB.below HA10.out hb)
  have HQ11 := Aside0.mk (HeldT.below HQ10.out hb)
  have KQ11 := Aside0.mk (vkeepB KQ10.out hb)
  have HX11 := Aside0.mk (HeldB.below HX10.out hb)
  clear KP10 HC10 HB10 HA10 HQ10 KQ10 HX10
  clear hb hN
  generalize w10.alloc (.cells #[.int .i64 0, .int .i64 0, .int .i64 0, .int .i64 0, .int .u32 0, .slice As 0 cs] 25 (0, 0)) = w11 at KP11 HC11 HB11 HA11 HQ11 KQ11 HX11 ⊢
  have hs1 : (convert 23 9 (.slice Aa F.length na)).run Try.prog w11 = .ok (.string (strOfNums F)) w11 := Kd.C_string (P := Try.prog) (A := Aa) (c := na) Try.underlying23 Try.underlying5 Try.underlying9 (HA11.out.C (by have := LF.out; omega))
  have hs2 : (convert 23 9 (.slice Ax F.length nx)).run Try.prog w11 = .ok (.string (strOfNums F)) w11 := Kd.C_string (P := Try.prog) (A := Ax) (c := nx) Try.underlying23 Try.underlying5 Try.underlying9 (HX11.out.C (by have := LF.out; omega))
  obtain ⟨⟨p0, p1, p2, p3, p4, p5⟩, gp0, gp1, gp2, gp3, gp4, gp5⟩ := cells6 KP11.out
  obtain ⟨⟨q0, q1, q2, q3, q4, q5⟩, gq0, gq1, gq2, gq3, gq4, gq5⟩ := cells6 KQ11.out
  go_wp2_with fail
  refine (rosetteref22_Same.calls 2 300 2 0 0 (some ⟨w.heap.size, 0, none⟩) 2 [97, 98] 2 300 2 0 0 Aq cq [97, 98] true w11 HC11.out (Nat.le_refl _) (HQ11.out.C (by decide)) HQL.out sm7).mono ?_
  rintro e w12 ⟨rfl, hX⟩
  clear p0 p1 p2 p3 p4 p5 gp0 gp1 gp2 gp3 gp4 gp5 q0 q1 q2 q3 q4 q5 gq0 gq1 gq2 gq3 gq4 gq5
  clear hs1 hs2
  have KP12 := Aside0.mk (vkeepB KP11.out hX)
  have HC12 := Aside0.mk (Kd.C_below HC11.out hX)
  have HB12 := Aside0.mk (HB11.out.trans ((hX).mono HB11.out.size))
  have HA12 := Aside0.mk (HeldB.below HA11.out hX)
  have HQ12 := Aside0.mk (HeldT.below HQ11.out hX)
  have KQ12 := Aside0.mk (vkeepB KQ11.out hX)
  have HX12 := Aside0.mk (HeldB.below HX11.out hX)
  clear KP11 HC11 HB11 HA11 HQ11 KQ11 HX11
  clear hX
  go_wp2_with fail
  refine (packet_Pieces.calls 65 2 _ sm8).mono ?_
  rintro e w' ⟨rfl, ⟨nd, rfl⟩⟩
  go_wp2_with fail
  refine (packet_Pieces.calls 64 1 _ sm9).mono ?_
  rintro e w' ⟨rfl, ⟨nd, rfl⟩⟩
  go_wp2_with fail
  refine (packet_Pieces.calls 0 0 _ sm10).mono ?_
  rintro e w' ⟨rfl, ⟨nd, rfl⟩⟩
  go_wp2_with fail
  go_ret
  exact ⟨rfl, by repeat (first | exact HB12.out | apply pw_below_drewN | apply below_drew1)⟩
end Go.Proofs.Yticpcjjgdkbcjaa
end

section
-- Written by a program of this session (wip/tools/myprint.py), over the kit's print.
namespace Go.Proofs.Yticpcjjgdkbcjaa.G
open Go.RowKit Go.Proofs.YticpcjjgdkbcjaaW.PrintWords Go.Proofs.YticpcjjgdkbcjaaW.PrintLast Go.Proofs.YticpcjjgdkbcjaaW.PrintMore
attribute [local go_sem] max2_int min2_int max_two min_two max_three min_three max_four min_four   -- for this text's walks alone
set_option linter.unusedVariables false
set_option linter.unusedSimpArgs false

-- BY HAND
-- IMPORT YticpcjjgdkbcjaaSmall22
def rosettelaw22_small.f : Option Bool := some true
theorem rosettelaw22_small.calls (r : Bool) (w : World) (h : rosettelaw22_small.f = some r) :
    Calls Try.prog 8 #[] w fun e w' => e = .returned (.bool r) ∧ Below w.heap.size w w' := by
  obtain rfl : true = r := Option.some.inj h
  exact small_any w

end Go.Proofs.Yticpcjjgdkbcjaa.G
end

section
-- Written by a program of this session (wip/tools/myprint.py), over the kit's print.
namespace Go.Proofs.Yticpcjjgdkbcjaa.G
open Go.RowKit Go.Proofs.YticpcjjgdkbcjaaW.PrintWords Go.Proofs.YticpcjjgdkbcjaaW.PrintLast Go.Proofs.YticpcjjgdkbcjaaW.PrintMore
attribute [local go_sem] max2_int min2_int max_two min_two max_three min_three max_four min_four   -- for this text's walks alone
set_option linter.unusedVariables false
set_option linter.unusedSimpArgs false

/-! ### rosettelaw22_PacketPieces: function 6 -/
def rosettelaw22_PacketPieces.f (a0 : Int) : Option (Bool) := (rosettelaw22_small.f).bind fun t353 => ((packet_Pieces.f a0).bind fun t354 => (if a0 < 1 then (if t353 = true then (some (t354 == 0)) else (some false)) else (if t353 = true then (if t354 ≥ 1 then (if t354 ≤ a0 then (if t354 > 1125899906842624 then (some true) else (if (wrap64 (64 * t354)) ≥ a0 then (some (decide ((wrap64 (64 * (wrap64 (t354 - 1)))) < a0))) else (some false))) else (some false)) else (some false)) else (some false))))
set_option maxHeartbeats 8000000 in
set_option maxRecDepth 100000 in
theorem rosettelaw22_PacketPieces.calls (a0 : Int) (r : Bool) (w : World) (h : rosettelaw22_PacketPieces.f a0 = some r) :
    Calls Try.prog 6 #[.int .i64 a0] w fun e w' => e = .returned (.bool r) ∧ Below w.heap.size w w' := by
  have HB := Aside0.mk (Below.refl w.heap.size w)
  have H : ((rosettelaw22_small.f).bind fun t353 => ((packet_Pieces.f a0).bind fun t354 => (if a0 < 1 then (if t353 = true then (some (t354 == 0)) else (some false)) else (if t353 = true then (if t354 ≥ 1 then (if t354 ≤ a0 then (if t354 > 1125899906842624 then (some true) else (if (wrap64 (64 * t354)) ≥ a0 then (some (decide ((wrap64 (64 * (wrap64 (t354 - 1)))) < a0))) else (some false))) else (some false)) else (some false)) else (some false))))) = some r := h
  clear h
  replace H := Option.bind_eq_some_iff.mp H
  obtain ⟨t353, A20, H⟩ := H
  replace H : ((packet_Pieces.f a0).bind fun t354 => (if a0 < 1 then (if t353 = true then (some (t354 == 0)) else (some false)) else (if t353 = true then (if t354 ≥ 1 then (if t354 ≤ a0 then (if t354 > 1125899906842624 then (some true) else (if (wrap64 (64 * t354)) ≥ a0 then (some (decide ((wrap64 (64 * (wrap64 (t354 - 1)))) < a0))) else (some false))) else (some false)) else (some false)) else (some false)))) = some r := H
  have A2 := Aside0.mk A20
  clear A20
  replace H := Option.bind_eq_some_iff.mp H
  obtain ⟨t354, A30, H⟩ := H
  replace H : (if a0 < 1 then (if t353 = true then (some (t354 == 0)) else (some false)) else (if t353 = true then (if t354 ≥ 1 then (if t354 ≤ a0 then (if t354 > 1125899906842624 then (some true) else (if (wrap64 (64 * t354)) ≥ a0 then (some (decide ((wrap64 (64 * (wrap64 (t354 - 1)))) < a0))) else (some false))) else (some false)) else (some false)) else (some false))) = some r := H
  have A3 := Aside0.mk A30
  clear A30
  by_cases c4 : a0 < 1
  · rw [if_pos c4] at H
    have c4b0 : decide (a0 < 1) = true := decide_eq_true c4
    clear c4
    by_cases c5 : t353 = true
    · subst c5
      have H1 : (some (t354 == 0)) = some r := by rw [if_pos rfl] at H; exact H
      clear H
      have H := H1
      clear H1
      obtain rfl := Option.some.inj H
      go_enter Try.func6, Try.ntmps6
      go_wp2_with (first | ((with_reducible refine gate_callee (f := 8) rfl ?_); refine goesL_ (some 5) rfl rfl Try.func8 (by kernel_rfl) rfl #[] rfl (by (try simp only [List.map_toArray, List.map_cons, List.map_nil]); first | done | rfl | (simp only [List.length_drop, List.length_take]; rfl)) ?_; (with_reducible refine (rosettelaw22_small.calls  true _ A2.out).mono ?_); rintro e w6 ⟨rfl, hb⟩; refine ⟨_, rfl, ?_⟩; have n0_ := Aside0.mk (below_step (by repeat (first | (with_reducible first | exact HB.out | apply below_alloc | apply pw_below_drewN | apply below_drew1) | exact HB.out)) hb); clear HB; have HB := n0_; clear n0_; (try clear hb); (try clear hb2); (try clear hk); (try clear hi)) | ((with_reducible refine gate_callee (f := 14) rfl ?_); refine goesL_ (some 7) rfl rfl Try.func14 (by kernel_rfl) rfl #[.int .i64 a0] rfl (by (try simp only [List.map_toArray, List.map_cons, List.map_nil]); first | done | rfl | (simp only [List.length_drop, List.length_take]; rfl)) ?_; (with_reducible refine (packet_Pieces.calls a0 t354 _ A3.out).mono ?_); rintro e w' ⟨rfl, ⟨nd, rfl⟩⟩; refine ⟨_, rfl, ?_⟩))
      go_ret
      exact ⟨by first | rfl | (simp [errW_none, errW_some] <;> rfl) | (simp [*, errW_none, errW_some] <;> rfl), by repeat (first | (with_reducible first | exact HB.out | apply below_alloc | apply pw_below_drewN | apply below_drew1) | exact HB.out)⟩
    · replace c5 := Bool.eq_false_iff.mpr c5
      subst c5
      have H1 : (some false) = some r := by rw [if_neg (show ¬ (false = true) by decide)] at H; exact H
      clear H
      have H := H1
      clear H1
      obtain rfl := Option.some.inj H
      go_enter Try.func6, Try.ntmps6
      go_wp2_with (first | ((with_reducible refine gate_callee (f := 8) rfl ?_); refine goesL_ (some 5) rfl rfl Try.func8 (by kernel_rfl) rfl #[] rfl (by (try simp only [List.map_toArray, List.map_cons, List.map_nil]); first | done | rfl | (simp only [List.length_drop, List.length_take]; rfl)) ?_; (with_reducible refine (rosettelaw22_small.calls  false _ A2.out).mono ?_); rintro e w7 ⟨rfl, hb⟩; refine ⟨_, rfl, ?_⟩; have n0_ := Aside0.mk (below_step (by repeat (first | (with_reducible first | exact HB.out | apply below_alloc | apply pw_below_drewN | apply below_drew1) | exact HB.out)) hb); clear HB; have HB := n0_; clear n0_; (try clear hb); (try clear hb2); (try clear hk); (try clear hi)) | ((with_reducible refine gate_callee (f := 14) rfl ?_); refine goesL_ (some 7) rfl rfl Try.func14 (by kernel_rfl) rfl #[.int .i64 a0] rfl (by (try simp only [List.map_toArray, List.map_cons, List.map_nil]); first | done | rfl | (simp only [List.length_drop, List.length_take]; rfl)) ?_; (with_reducible refine (packet_Pieces.calls a0 t354 _ A3.out).mono ?_); rintro e w' ⟨rfl, ⟨nd, rfl⟩⟩; refine ⟨_, rfl, ?_⟩))
      go_ret
      exact ⟨by first | rfl | (simp [errW_none, errW_some] <;> rfl) | (simp [*, errW_none, errW_some] <;> rfl), by repeat (first | (with_reducible first | exact HB.out | apply below_alloc | apply pw_below_drewN | apply below_drew1) | exact HB.out)⟩
  · rw [if_neg c4] at H
    have c4b0 : decide (a0 < 1) = false := decide_eq_false c4
    clear c4
    by_cases c8 : t353 = true
    · subst c8
      have H1 : (if t354 ≥ 1 then (if t354 ≤ a0 then (if t354 > 1125899906842624 then (some true) else (if (wrap64 (64 * t354)) ≥ a0 then (some (decide ((wrap64 (64 * (wrap64 (t354 - 1)))) < a0))) else (some false))) else (some false)) else (some false)) = some r := by rw [if_pos rfl] at H; exact H
      clear H
      have H := H1
      clear H1
      by_cases c9 : t354 ≥ 1
      · rw [if_pos c9] at H
        have c9b0 : decide (1 ≤ t354) = true := decide_eq_true c9
        clear c9
        by_cases c10 : t354 ≤ a0
        · rw [if_pos c10] at H
          have c10b0 : decide (t354 ≤ a0) = true := decide_eq_true c10
          clear c10
          by_cases c11 : t354 > 1125899906842624
          · rw [if_pos c11] at H
            have c11b0 : decide (1125899906842624 < t354) = true := decide_eq_true c11
            clear c11
            obtain rfl := Option.some.inj H
            go_enter Try.func6, Try.ntmps6
            go_wp2_with (first | ((with_reducible refine gate_callee (f := 8) rfl ?_); refine goesL_ (some 5) rfl rfl Try.func8 (by kernel_rfl) rfl #[] rfl (by (try simp only [List.map_toArray, List.map_cons, List.map_nil]); first | done | rfl | (simp only [List.length_drop, List.length_take]; rfl)) ?_; (with_reducible refine (rosettelaw22_small.calls  true _ A2.out).mono ?_); rintro e w12 ⟨rfl, hb⟩; refine ⟨_, rfl, ?_⟩; have n0_ := Aside0.mk (below_step (by repeat (first | (with_reducible first | exact HB.out | apply below_alloc | apply pw_below_drewN | apply below_drew1) | exact HB.out)) hb); clear HB; have HB := n0_; clear n0_; (try clear hb); (try clear hb2); (try clear hk); (try clear hi)) | ((with_reducible refine gate_callee (f := 14) rfl ?_); refine goesL_ (some 7) rfl rfl Try.func14 (by kernel_rfl) rfl #[.int .i64 a0] rfl (by (try simp only [List.map_toArray, List.map_cons, List.map_nil]); first | done | rfl | (simp only [List.length_drop, List.length_take]; rfl)) ?_; (with_reducible refine (packet_Pieces.calls a0 t354 _ A3.out).mono ?_); rintro e w' ⟨rfl, ⟨nd, rfl⟩⟩; refine ⟨_, rfl, ?_⟩))
            go_ret
            exact ⟨by first | rfl | (simp [errW_none, errW_some] <;> rfl) | (simp [*, errW_none, errW_some] <;> rfl), by repeat (first | (with_reducible first | exact HB.out | apply below_alloc | apply pw_below_drewN | apply below_drew1) | exact HB.out)⟩
          · rw [if_neg c11] at H
            have c11b0 : decide (1125899906842624 < t354) = false := decide_eq_false c11
            clear c11
            by_cases c13 : (wrap64 (64 * t354)) ≥ a0
            · rw [if_pos c13] at H
              have c13b0 : decide (a0 ≤ (wrap64 (64 * t354))) = true := decide_eq_true c13
              clear c13
              obtain rfl := Option.some.inj H
              go_enter Try.func6, Try.ntmps6
              go_wp2_with (first | ((with_reducible refine gate_callee (f := 8) rfl ?_); refine goesL_ (some 5) rfl rfl Try.func8 (by kernel_rfl) rfl #[] rfl (by (try simp only [List.map_toArray, List.map_cons, List.map_nil]); first | done | rfl | (simp only [List.length_drop, List.length_take]; rfl)) ?_; (with_reducible refine (rosettelaw22_small.calls  true _ A2.out).mono ?_); rintro e w14 ⟨rfl, hb⟩; refine ⟨_, rfl, ?_⟩; have n0_ := Aside0.mk (below_step (by repeat (first | (with_reducible first | exact HB.out | apply below_alloc | apply pw_below_drewN | apply below_drew1) | exact HB.out)) hb); clear HB; have HB := n0_; clear n0_; (try clear hb); (try clear hb2); (try clear hk); (try clear hi)) | ((with_reducible refine gate_callee (f := 14) rfl ?_); refine goesL_ (some 7) rfl rfl Try.func14 (by kernel_rfl) rfl #[.int .i64 a0] rfl (by (try simp only [List.map_toArray, List.map_cons, List.map_nil]); first | done | rfl | (simp only [List.length_drop, List.length_take]; rfl)) ?_; (with_reducible refine (packet_Pieces.calls a0 t354 _ A3.out).mono ?_); rintro e w' ⟨rfl, ⟨nd, rfl⟩⟩; refine ⟨_, rfl, ?_⟩))
              go_ret
              exact ⟨by first | rfl | (simp [errW_none, errW_some] <;> rfl) | (simp [*, errW_none, errW_some] <;> rfl), by repeat (first | (with_reducible first | exact HB.out | apply below_alloc | apply pw_below_drewN | apply below_drew1) | exact HB.out)⟩
            · rw [if_neg c13] at H
              have c13b0 : decide (a0 ≤ (wrap64 (64 * t354))) = false := decide_eq_false c13
              clear c13
              obtain rfl := Option.some.inj H
              go_enter Try.func6, Try.ntmps6
              go_wp2_with (first | ((with_reducible refine gate_callee (f := 8) rfl ?_); refine goesL_ (some 5) rfl rfl Try.func8 (by kernel_rfl) rfl #[] rfl (by (try simp only [List.map_toArray, List.map_cons, List.map_nil]); first | done | rfl | (simp only [List.length_drop, List.length_take]; rfl)) ?_; (with_reducible refine (rosettelaw22_small.calls  true _ A2.out).mono ?_); rintro e w15 ⟨rfl, hb⟩; refine ⟨_, rfl, ?_⟩; have n0_ := Aside0.mk (below_step (by repeat (first | (with_reducible first | exact HB.out | apply below_alloc | apply pw_below_drewN | apply below_drew1) | exact HB.out)) hb); clear HB; have HB := n0_; clear n0_; (try clear hb); (try clear hb2); (try clear hk); (try clear hi)) | ((with_reducible refine gate_callee (f := 14) rfl ?_); refine goesL_ (some 7) rfl rfl Try.func14 (by kernel_rfl) rfl #[.int .i64 a0] rfl (by (try simp only [List.map_toArray, List.map_cons, List.map_nil]); first | done | rfl | (simp only [List.length_drop, List.length_take]; rfl)) ?_; (with_reducible refine (packet_Pieces.calls a0 t354 _ A3.out).mono ?_); rintro e w' ⟨rfl, ⟨nd, rfl⟩⟩; refine ⟨_, rfl, ?_⟩))
              go_ret
              exact ⟨by first | rfl | (simp [errW_none, errW_some] <;> rfl) | (simp [*, errW_none, errW_some] <;> rfl), by repeat (first | (with_reducible first | exact HB.out | apply below_alloc | apply pw_below_drewN | apply below_drew1) | exact HB.out)⟩
        · rw [if_neg c10] at H
          have c10b0 : decide (t354 ≤ a0) = false := decide_eq_false c10
          clear c10
          obtain rfl := Option.some.inj H
          go_enter Try.func6, Try.ntmps6
          go_wp2_with (first | ((with_reducible refine gate_callee (f := 8) rfl ?_); refine goesL_ (some 5) rfl rfl Try.func8 (by kernel_rfl) rfl #[] rfl (by (try simp only [List.map_toArray, List.map_cons, List.map_nil]); first | done | rfl | (simp only [List.length_drop, List.length_take]; rfl)) ?_; (with_reducible refine (rosettelaw22_small.calls  true _ A2.out).mono ?_); rintro e w16 ⟨rfl, hb⟩; refine ⟨_, rfl, ?_⟩; have n0_ := Aside0.mk (below_step (by repeat (first | (with_reducible first | exact HB.out | apply below_alloc | apply pw_below_drewN | apply below_drew1) | exact HB.out)) hb); clear HB; have HB := n0_; clear n0_; (try clear hb); (try clear hb2); (try clear hk); (try clear hi)) | ((with_reducible refine gate_callee (f := 14) rfl ?_); refine goesL_ (some 7) rfl rfl Try.func14 (by kernel_rfl) rfl #[.int .i64 a0] rfl (by (try simp only [List.map_toArray, List.map_cons, List.map_nil]); first | done | rfl | (simp only [List.length_drop, List.length_take]; rfl)) ?_; (with_reducible refine (packet_Pieces.calls a0 t354 _ A3.out).mono ?_); rintro e w' ⟨rfl, ⟨nd, rfl⟩⟩; refine ⟨_, rfl, ?_⟩))
          go_ret
          exact ⟨by first | rfl | (simp [errW_none, errW_some] <;> rfl) | (simp [*, errW_none, errW_some] <;> rfl), by repeat (first | (with_reducible first | exact HB.out | apply below_alloc | apply pw_below_drewN | apply below_drew1) | exact HB.out)⟩
      · rw [if_neg c9] at H
        have c9b0 : decide (1 ≤ t354) = false := decide_eq_false c9
        clear c9
        obtain rfl := Option.some.inj H
        go_enter Try.func6, Try.ntmps6
        go_wp2_with (first | ((with_reducible refine gate_callee (f := 8) rfl ?_); refine goesL_ (some 5) rfl rfl Try.func8 (by kernel_rfl) rfl #[] rfl (by (try simp only [List.map_toArray, List.map_cons, List.map_nil]); first | done | rfl | (simp only [List.length_drop, List.length_take]; rfl)) ?_; (with_reducible refine (rosettelaw22_small.calls  true _ A2.out).mono ?_); rintro e w17 ⟨rfl, hb⟩; refine ⟨_, rfl, ?_⟩; have n0_ := Aside0.mk (below_step (by repeat (first | (with_reducible first | exact HB.out | apply below_alloc | apply pw_below_drewN | apply below_drew1) | exact HB.out)) hb); clear HB; have HB := n0_; clear n0_; (try clear hb); (try clear hb2); (try clear hk); (try clear hi)) | ((with_reducible refine gate_callee (f := 14) rfl ?_); refine goesL_ (some 7) rfl rfl Try.func14 (by kernel_rfl) rfl #[.int .i64 a0] rfl (by (try simp only [List.map_toArray, List.map_cons, List.map_nil]); first | done | rfl | (simp only [List.length_drop, List.length_take]; rfl)) ?_; (with_reducible refine (packet_Pieces.calls a0 t354 _ A3.out).mono ?_); rintro e w' ⟨rfl, ⟨nd, rfl⟩⟩; refine ⟨_, rfl, ?_⟩))
        go_ret
        exact ⟨by first | rfl | (simp [errW_none, errW_some] <;> rfl) | (simp [*, errW_none, errW_some] <;> rfl), by repeat (first | (with_reducible first | exact HB.out | apply below_alloc | apply pw_below_drewN | apply below_drew1) | exact HB.out)⟩
    · replace c8 := Bool.eq_false_iff.mpr c8
      subst c8
      have H1 : (some false) = some r := by rw [if_neg (show ¬ (false = true) by decide)] at H; exact H
      clear H
      have H := H1
      clear H1
      obtain rfl := Option.some.inj H
      go_enter Try.func6, Try.ntmps6
      go_wp2_with (first | ((with_reducible refine gate_callee (f := 8) rfl ?_); refine goesL_ (some 5) rfl rfl Try.func8 (by kernel_rfl) rfl #[] rfl (by (try simp only [List.map_toArray, List.map_cons, List.map_nil]); first | done | rfl | (simp only [List.length_drop, List.length_take]; rfl)) ?_; (with_reducible refine (rosettelaw22_small.calls  false _ A2.out).mono ?_); rintro e w18 ⟨rfl, hb⟩; refine ⟨_, rfl, ?_⟩; have n0_ := Aside0.mk (below_step (by repeat (first | (with_reducible first | exact HB.out | apply below_alloc | apply pw_below_drewN | apply below_drew1) | exact HB.out)) hb); clear HB; have HB := n0_; clear n0_; (try clear hb); (try clear hb2); (try clear hk); (try clear hi)) | ((with_reducible refine gate_callee (f := 14) rfl ?_); refine goesL_ (some 7) rfl rfl Try.func14 (by kernel_rfl) rfl #[.int .i64 a0] rfl (by (try simp only [List.map_toArray, List.map_cons, List.map_nil]); first | done | rfl | (simp only [List.length_drop, List.length_take]; rfl)) ?_; (with_reducible refine (packet_Pieces.calls a0 t354 _ A3.out).mono ?_); rintro e w' ⟨rfl, ⟨nd, rfl⟩⟩; refine ⟨_, rfl, ?_⟩))
      go_ret
      exact ⟨by first | rfl | (simp [errW_none, errW_some] <;> rfl) | (simp [*, errW_none, errW_some] <;> rfl), by repeat (first | (with_reducible first | exact HB.out | apply below_alloc | apply pw_below_drewN | apply below_drew1) | exact HB.out)⟩

/-- THE ONE PURE STATEMENT of rosettelaw22_PacketPieces: yours. -/
def rosettelaw22_PacketPieces.Pure : Prop := ∀ (a0 : Int), (Lit.int .i64 a0).wf = true → rosettelaw22_PacketPieces.f a0 = some true
theorem rosettelaw22_PacketPieces.walk (P : rosettelaw22_PacketPieces.Pure) (a0 : Int) (w : World) (w0 : (Lit.int .i64 a0).wf = true) :
    Calls Try.prog 6 #[.int .i64 a0] w fun e w' => e = .returned (.bool true) ∧ Below w.heap.size w w' := by
  have h := P a0 w0
  refine (rosettelaw22_PacketPieces.calls a0 true w h).mono ?_
  rintro e w' ⟨rfl, hd⟩
  exact ⟨rfl, hd⟩

end Go.Proofs.Yticpcjjgdkbcjaa.G
end

section
/- The statement PacketPieces over numbers: so many pieces are enough, and one fewer is not. -/
namespace Go.Proofs.Yticpcjjgdkbcjaa.Pure
open Go.RowKit Go.Proofs.Yticpcjjgdkbcjaa Go.Proofs.Yticpcjjgdkbcjaa.G Go.Proofs.YticpcjjgdkbcjaaW.PrintWords Go.Proofs.YticpcjjgdkbcjaaW.PrintLast

theorem i64_wf {n : Int} (h : (Lit.int .i64 n).wf = true) : -9223372036854775808 ≤ n ∧ n < 9223372036854775808 := by
  have := Go.bounds_i64 h
  omega
theorem PacketPieces : rosettelaw22_PacketPieces.Pure := by
  intro a0 h
  have hb := i64_wf h
  unfold rosettelaw22_PacketPieces.f rosettelaw22_small.f packet_Pieces.f
  simp only [Option.bind_some]
  by_cases h1 : a0 < 1
  · rw [if_pos h1]
    simp only [Option.bind_some]
    rw [if_pos h1]; rfl
  rw [if_neg h1]
  simp only [Option.bind_some]
  rw [if_neg h1, if_pos trivial]
  have e1 : wrap64 (a0 - 1) = a0 - 1 := by unfold wrap64; omega
  rw [e1]
  have e2 : Int.tdiv (a0 - 1) 64 = (a0 - 1) / 64 := Int.tdiv_eq_ediv_of_nonneg (by omega)
  rw [e2]
  have e3 : wrap64 ((a0 - 1) / 64) = (a0 - 1) / 64 := by unfold wrap64; omega
  rw [e3]
  have e4 : wrap64 ((a0 - 1) / 64 + 1) = (a0 - 1) / 64 + 1 := by unfold wrap64; omega
  rw [e4, if_pos (by omega), if_pos (by omega)]
  by_cases h2 : (a0 - 1) / 64 + 1 > 1125899906842624
  · rw [if_pos h2]
  rw [if_neg h2]
  have e5 : wrap64 (64 * ((a0 - 1) / 64 + 1)) = 64 * ((a0 - 1) / 64 + 1) := by unfold wrap64; omega
  have e6 : wrap64 ((a0 - 1) / 64 + 1 - 1) = (a0 - 1) / 64 := by unfold wrap64; omega
  have e7 : wrap64 (64 * ((a0 - 1) / 64)) = 64 * ((a0 - 1) / 64) := by unfold wrap64; omega
  rw [e5, e6, e7, if_pos (by omega), decide_eq_true (by omega)]
end Go.Proofs.Yticpcjjgdkbcjaa.Pure
end

section
-- Written by a program of this session (wip/tools/myprint.py), over the kit's print.
namespace Go.Proofs.Yticpcjjgdkbcjaa.packetPieces
open Go.ChangeShapes Go.WideShapes Go.ChangeAt Go.RowKit
open Go.ChangeMaps (open_string shut_string)
set_option linter.unusedVariables false
theorem own : ownKnob Try.prog.godebug = none := by kernel_rfl
set_option maxRecDepth 100000 in
theorem lifted (os : Os) (started : os.Started) (H : Type) (enc : TypeId × Value → H) :
    ReturnsInHanded {} Try.checked os 6 .any (Rows.packetPiecesSpec.pre6 enc Try.prog Try.f6 Rows.packetPiecesRow.domain false) (Rows.packetPiecesSpec.post enc Try.prog Try.f6 false true false false) := by
  refine returnsInHanded_of_change_sized (C := Try.checked) own started (by kernel_rfl) Try.func6
    (ChangeSpec.witness6 (enc := enc) (C := Try.checked) false ⟨#[], #[.int .i64 0], []⟩ 8 (by kernel_rfl) (by kernel_rfl) (by kernel_rfl) (by kernel_rfl)) ?_
  intro W base args ds gs before hval0 hW hcnd hsz0 _
  have hsz : (DataW.weightsEach Try.prog (Try.f6.params.toList ++ Rows.packetPiecesSpec.plain.varTypes Try.prog) (ds ++ gs)).all (· ≤ reachBytes) = true := hsz0
  have hval : ∀ (j : Nat) t v, Try.f6.params[j]? = some t → args[j]? = some v → Value.okWide Try.prog W .any base t v := hval0
  have hW' := hW
  obtain ⟨p, q, hA0, hV, rfl, hfz, hnd⟩ := hW
  have hA : DataW.TrodAll enc Try.prog W 0 (fun _ => true) true Try.f6.params.toList args.toList ds p := hA0
  rw [Try.params6] at hA hval hsz
  obtain ⟨v0, vs0, d0, ds0, p0, q0, hargs, rfl, rfl, h0, r0⟩ := trodAll_cons hA
  obtain ⟨rfl, rfl, rfl⟩ := trodAll_nil r0
  obtain rfl : args = #[v0] := by cases args; simp_all
  obtain ⟨rfl, rfl⟩ := trodVars_none hV
  obtain ⟨a0, rfl, rfl, rfl, w0⟩ := open_int Try.underlying3 (hval 0 3 v0 rfl rfl) h0
  clear hA0 hval0 hsz0 hsz
  refine (G.rosettelaw22_PacketPieces.walk Pure.PacketPieces a0 W w0).mono fun e W' ⟨he, bel⟩ => ?_
  subst he
  exact ⟨_, rfl, _, _, _, [], _, [], hW', trodAll_mk1 (shut_bool Try.underlying4 _), (trodAll_cons_mk (shut_int Try.underlying3 w0) trodAll_mk0), rfl, bel.frame _, fun h => by cases h⟩
theorem over : Rows.packetPiecesRow.holds Try.pinned (OpenSpec.ofChange Rows.packetPiecesSpec) :=
  OpenClaim.holds_of_wide 6 Try.f6 rfl rfl rfl rfl rfl rfl rfl ⟨rfl, rfl, rfl, rfl, rfl⟩ rfl rfl rfl rfl rfl (by kernel_rfl) Try.func6 (by kernel_rfl)
    (of_decide_eq_true (by kernel_rfl)) (by unfold Func.isWrapper; first | (rw [if_pos (by decide +kernel)]; kernel_rfl) | (rw [if_neg (by decide +kernel)]; exact ⟨rfl, rfl⟩))
    (fun os started H enc _ => lifted os started H enc)
theorem proved : Rows.PacketPiecesSaid := over
#print axioms proved
end Go.Proofs.Yticpcjjgdkbcjaa.packetPieces
namespace Go.Proofs.Yticpcjjgdkbcjaa
/-- The row, under a short name, for the claim. -/
theorem packetPieces_holds : Rows.PacketPiecesSaid := packetPieces.proved
end Go.Proofs.Yticpcjjgdkbcjaa
end
