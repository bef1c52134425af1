/- Compare puts all values in one order; the law's walk. -/
import Derived.Test.YtiodpbenjbdcfaaValPut
import Derived.Test.YtiodpbenjbdcfaaSmall04
set_option linter.unusedVariables false
set_option linter.unusedSimpArgs false
set_option autoImplicit false
namespace Go.Proofs.Ytiodpbenjbdcfaa
open Go.RowKit Go.Proofs.YtiodpbenjbdcfaaW.PrintWords Go.Proofs.YtiodpbenjbdcfaaW.PrintLast Go.Proofs.YtiodpbenjbdcfaaW.PrintMore Go.Proofs.Ytiodpbenjbdcfaa.G

theorem cmpB_neg : ∀ (a b : List UInt8), Lib.compareBytes b a = -Lib.compareBytes a b
  | [], [] => rfl
  | [], _ :: _ => rfl
  | _ :: _, [] => rfl
  | x :: a, y :: b => by
    have ih := cmpB_neg a b
    simp only [Lib.compareBytes, UInt8.lt_iff_toNat_lt]
    by_cases h1 : x.toNat < y.toNat
    · simp [h1, show ¬ y.toNat < x.toNat by omega]
    · by_cases h2 : y.toNat < x.toNat
      · simp [h1, h2]
      · simp [h1, h2, ih]
theorem cmpB_trans : ∀ (a b c : List UInt8), Lib.compareBytes a b ≤ 0 → Lib.compareBytes b c ≤ 0 → Lib.compareBytes a c ≤ 0
  | [], _, [] => fun _ _ => by simp [Lib.compareBytes]
  | [], _, _ :: _ => fun _ _ => by simp [Lib.compareBytes]
  | x :: a, [], c => fun h _ => by simp [Lib.compareBytes] at h
  | x :: a, y :: b, [] => fun _ h => by simp [Lib.compareBytes] at h
  | x :: a, y :: b, z :: c => by
    have ih := cmpB_trans a b c
    simp only [Lib.compareBytes, UInt8.lt_iff_toNat_lt]
    by_cases h1 : x.toNat < y.toNat
    · rw [if_pos h1]
      by_cases h3 : y.toNat < z.toNat
      · intro _ _; rw [if_pos (by omega)]; decide
      · rw [if_neg h3]
        by_cases h4 : z.toNat < y.toNat
        · rw [if_pos h4]; intro _ h; omega
        · rw [if_neg h4]; intro _ _; rw [if_pos (by omega)]; decide
    · rw [if_neg h1]
      by_cases h2 : y.toNat < x.toNat
      · rw [if_pos h2]; intro h; omega
      · rw [if_neg h2]
        by_cases h3 : y.toNat < z.toNat
        · intro _ _; rw [if_pos (by omega)]; decide
        · rw [if_neg h3]
          by_cases h4 : z.toNat < y.toNat
          · rw [if_pos h4]; intro _ h; omega
          · rw [if_neg h4, if_neg (by omega), if_neg (by omega)]; exact ih
structure V3 where
  k : Int
  i : Int
  t : ByteArray
def vc (a b : V3) : Int := vcmp a.k a.i a.t b.k b.i b.t
theorem vc_in (a b : V3) : vc a b = -1 ∨ vc a b = 0 ∨ vc a b = 1 := by
  have h := cmpB_in a.t.data.toList b.t.data.toList
  unfold vc vcmp or3 cmpI
  generalize Lib.compareBytes a.t.data.toList b.t.data.toList = z at *
  split <;> split <;> (try split) <;> (try split) <;> (try split) <;> (try split) <;> omega
theorem vc_neg (a b : V3) : vc b a = -vc a b := by
  have h := cmpB_neg a.t.data.toList b.t.data.toList
  unfold vc vcmp or3 cmpI
  rw [h]
  generalize Lib.compareBytes a.t.data.toList b.t.data.toList = z at *
  by_cases h1 : a.k < b.k
  · simp [h1, show ¬ b.k < a.k by omega]
  · by_cases h2 : b.k < a.k
    · simp [h1, h2]
    · by_cases h3 : a.i < b.i
      · simp [h1, h2, h3, show ¬ b.i < a.i by omega]
      · by_cases h4 : b.i < a.i <;> simp [h1, h2, h3, h4]
theorem vc_zero (a b : V3) : vc a b = 0 ↔ (a.k = b.k ∧ a.i = b.i ∧ a.t.data.toList = b.t.data.toList) := by
  have h := cmpB_zero a.t.data.toList b.t.data.toList
  rw [← h]
  unfold vc vcmp or3 cmpI
  generalize Lib.compareBytes a.t.data.toList b.t.data.toList = z at *
  by_cases h1 : a.k < b.k
  · simp [h1]; omega
  · by_cases h2 : b.k < a.k
    · simp [h1, h2]; omega
    · by_cases h3 : a.i < b.i
      · simp [h1, h2, h3]; omega
      · by_cases h4 : b.i < a.i
        · simp [h1, h2, h3, h4]; omega
        · simp [h1, h2, h3, h4]; omega
theorem vc_trans (a b c : V3) : vc a b ≤ 0 → vc b c ≤ 0 → vc a c ≤ 0 := by
  have h := cmpB_trans a.t.data.toList b.t.data.toList c.t.data.toList
  unfold vc vcmp or3 cmpI
  generalize Lib.compareBytes a.t.data.toList b.t.data.toList = x at *
  generalize Lib.compareBytes b.t.data.toList c.t.data.toList = y at *
  generalize Lib.compareBytes a.t.data.toList c.t.data.toList = z at *
  intro h1 h2
  by_cases k1 : a.k < c.k
  · simp [k1]
  · by_cases k2 : b.k < a.k
    · simp [k2, show ¬ a.k < b.k by omega] at h1
    · by_cases k3 : c.k < b.k
      · simp [k3, show ¬ b.k < c.k by omega] at h2
      · have e1 : a.k = b.k := by omega
        have e2 : b.k = c.k := by omega
        simp only [e1, e2, Int.lt_irrefl, if_false, if_true, gt_iff_lt] at h1 h2 ⊢
        by_cases i1 : a.i < c.i
        · simp [i1]
        · by_cases i2 : b.i < a.i
          · simp [i2, show ¬ a.i < b.i by omega] at h1
          · by_cases i3 : c.i < b.i
            · simp [i3, show ¬ b.i < c.i by omega] at h2
            · have f1 : a.i = b.i := by omega
              have f2 : b.i = c.i := by omega
              simp only [f1, f2, Int.lt_irrefl, if_false, if_true, gt_iff_lt] at h1 h2 ⊢
              exact h h1 h2
theorem vc_same (a b c : V3) (h : vc a b = 0) : vc a c = vc b c := by
  obtain ⟨h1, h2, h3⟩ := (vc_zero a b).1 h
  unfold vc vcmp
  rw [h1, h2, h3]
theorem below_via2 {w W W' : World} (h0 : Below w.heap.size w W) (h : Below W.heap.size W W') : Below w.heap.size w W' := h0.trans (h.mono h0.size)
theorem alloc3 (w : World) (A B C : Obj) : (((w.alloc A).alloc B).alloc C).heap[w.heap.size]? = some A ∧ (((w.alloc A).alloc B).alloc C).heap[w.heap.size + 1]? = some B ∧ (((w.alloc A).alloc B).alloc C).heap[w.heap.size + 1 + 1]? = some C ∧ Below w.heap.size w (((w.alloc A).alloc B).alloc C) := by
  have h : (((w.alloc A).alloc B).alloc C).heap = ((w.heap.push A).push B).push C := rfl
  have b1 := (Below.refl w.heap.size w).alloc (Nat.le_refl _) A
  have b2 := b1.alloc b1.size B
  rw [h]
  refine ⟨?_, ?_, ?_, b2.alloc b2.size C⟩
  · rw [Array.getElem?_push, if_neg (by simp; omega), Array.getElem?_push, if_neg (by simp), Array.getElem?_push, if_pos rfl]
  · rw [Array.getElem?_push, if_neg (by simp), Array.getElem?_push, if_pos (by simp)]
  · rw [Array.getElem?_push, if_pos (by simp)]
theorem ofList {a b : ByteArray} (h : a.data.toList = b.data.toList) : a = b := by
  cases a with
  | mk x => cases b with
    | mk y => cases x; cases y; simp only at h; rw [h]
set_option maxRecDepth 100000 in
set_option maxHeartbeats 8000000 in
theorem valueOrder_any (a0_0 a0_1 : Int) (a0_2 : ByteArray) (a1_0 a1_1 : Int) (a1_2 : ByteArray) (a2_0 a2_1 : Int) (a2_2 : ByteArray) (w : World) :
    Calls Try.prog 4 #[.agg #[.int .i64 a0_0, .int .i64 a0_1, .string a0_2], .agg #[.int .i64 a1_0, .int .i64 a1_1, .string a1_2], .agg #[.int .i64 a2_0, .int .i64 a2_1, .string a2_2]] w fun e w' => e = .returned (.bool true) ∧ Below w.heap.size w w' := by
  obtain ⟨hA, hB, hC, hb⟩ := alloc3 w (.cells #[.int .i64 a0_0, .int .i64 a0_1, .string a0_2] 23) (.cells #[.int .i64 a1_0, .int .i64 a1_1, .string a1_2] 23) (.cells #[.int .i64 a2_0, .int .i64 a2_1, .string a2_2] 23)
  have HA := Aside0.mk hA
  have HB := Aside0.mk hB
  have HC := Aside0.mk hC
  have HW := Aside0.mk hb
  clear hA hB hC hb
  have hin1 := vc_in ⟨a0_0, a0_1, a0_2⟩ ⟨a1_0, a1_1, a1_2⟩
  have hin2 := vc_in ⟨a1_0, a1_1, a1_2⟩ ⟨a2_0, a2_1, a2_2⟩
  have hin3 := vc_in ⟨a0_0, a0_1, a0_2⟩ ⟨a2_0, a2_1, a2_2⟩
  have hneg := vc_neg ⟨a0_0, a0_1, a0_2⟩ ⟨a1_0, a1_1, a1_2⟩
  have hzero := vc_zero ⟨a0_0, a0_1, a0_2⟩ ⟨a1_0, a1_1, a1_2⟩
  have htr := vc_trans ⟨a0_0, a0_1, a0_2⟩ ⟨a1_0, a1_1, a1_2⟩ ⟨a2_0, a2_1, a2_2⟩
  have hsame := vc_same ⟨a0_0, a0_1, a0_2⟩ ⟨a1_0, a1_1, a1_2⟩ ⟨a2_0, a2_1, a2_2⟩
  unfold vc at hin1 hin2 hin3 hneg hzero htr hsame
  simp only at hin1 hin2 hin3 hneg hzero htr hsame
  have c1 := compare_f 4 (by decide) a0_0 a0_1 a0_2 a1_0 a1_1 a1_2
  have c2 := compare_f 4 (by decide) a1_0 a1_1 a1_2 a2_0 a2_1 a2_2
  have c3 := compare_f 4 (by decide) a0_0 a0_1 a0_2 a2_0 a2_1 a2_2
  have c4 := compare_f 4 (by decide) a1_0 a1_1 a1_2 a0_0 a0_1 a0_2
  rw [hneg] at c4
  clear hneg
  generalize vcmp a0_0 a0_1 a0_2 a1_0 a1_1 a1_2 = AB at *
  generalize vcmp a1_0 a1_1 a1_2 a2_0 a2_1 a2_2 = BC at *
  generalize vcmp a0_0 a0_1 a0_2 a2_0 a2_1 a2_2 = AC at *
  have C1 := Aside0.mk c1
  have C2 := Aside0.mk c2
  have C3 := Aside0.mk c3
  have C4 := Aside0.mk c4
  have HALL := Aside0.mk (show (AB = -1 ∨ AB = 0 ∨ AB = 1) ∧ (BC = -1 ∨ BC = 0 ∨ BC = 1) ∧ (AC = -1 ∨ AC = 0 ∨ AC = 1) ∧ (AB ≤ 0 → BC ≤ 0 → AC ≤ 0) ∧ (AB = 0 → AC = BC) from ⟨hin1, hin2, hin3, htr, hsame⟩)
  have HZ := Aside0.mk hzero
  clear c1 c2 c3 c4 hin1 hin2 hin3 htr hsame hzero
  go_enter Try.func4, Try.ntmps4
  go_upto_region 1 with fail
  generalize (((w.alloc (.cells #[.int .i64 a0_0, .int .i64 a0_1, .string a0_2] 23)).alloc (.cells #[.int .i64 a1_0, .int .i64 a1_1, .string a1_2] 23)).alloc (.cells #[.int .i64 a2_0, .int .i64 a2_1, .string a2_2] 23)) = wa at HA HB HC HW ⊢
  go_wp2_with fail
  refine (small_any _).mono ?_
  rintro e w4 ⟨rfl, hX⟩
  have HW4 : Aside0 (Below w.heap.size w w4) := ⟨below_via2 HW.out hX⟩
  have HA4 := Aside0.mk (vkeepB HA.out hX)
  have HB4 := Aside0.mk (vkeepB HB.out hX)
  have HC4 := Aside0.mk (vkeepB HC.out hX)
  clear hX HW HA HB HC
  obtain ⟨p0, p1, p2⟩ := vcells HA4.out
  obtain ⟨q0, q1, q2⟩ := vcells HB4.out
  obtain ⟨r0, r1, r2⟩ := vcells HC4.out
  by_cases g1 : a0_2.size ≤ 300
  · by_cases g2 : a1_2.size ≤ 300
    · by_cases g3 : a2_2.size ≤ 300
      · go_wp2_with fail
        refine (value_Compare.calls 4 _ _ _ _ _ _ _ _ C1.out).mono ?_
        rintro e w5 ⟨rfl, hX⟩
        clear p0 p1 p2 q0 q1 q2 r0 r1 r2
        have HW5 : Aside0 (Below w.heap.size w w5) := ⟨below_via2 HW4.out hX⟩
        have HA5 := Aside0.mk (vkeepB HA4.out hX)
        have HB5 := Aside0.mk (vkeepB HB4.out hX)
        have HC5 := Aside0.mk (vkeepB HC4.out hX)
        clear hX HW4 HA4 HB4 HC4
        obtain ⟨p0, p1, p2⟩ := vcells HA5.out
        obtain ⟨q0, q1, q2⟩ := vcells HB5.out
        obtain ⟨r0, r1, r2⟩ := vcells HC5.out
        go_wp2_with fail
        refine (value_Compare.calls 4 _ _ _ _ _ _ _ _ C2.out).mono ?_
        rintro e w6 ⟨rfl, hX⟩
        clear p0 p1 p2 q0 q1 q2 r0 r1 r2
        have HW6 : Aside0 (Below w.heap.size w w6) := ⟨below_via2 HW5.out hX⟩
        have HA6 := Aside0.mk (vkeepB HA5.out hX)
        have HB6 := Aside0.mk (vkeepB HB5.out hX)
        have HC6 := Aside0.mk (vkeepB HC5.out hX)
        clear hX HW5 HA5 HB5 HC5
        obtain ⟨p0, p1, p2⟩ := vcells HA6.out
        obtain ⟨q0, q1, q2⟩ := vcells HB6.out
        obtain ⟨r0, r1, r2⟩ := vcells HC6.out
        go_wp2_with fail
        refine (value_Compare.calls 4 _ _ _ _ _ _ _ _ C3.out).mono ?_
        rintro e w7 ⟨rfl, hX⟩
        clear p0 p1 p2 q0 q1 q2 r0 r1 r2
        have HW7 : Aside0 (Below w.heap.size w w7) := ⟨below_via2 HW6.out hX⟩
        have HA7 := Aside0.mk (vkeepB HA6.out hX)
        have HB7 := Aside0.mk (vkeepB HB6.out hX)
        have HC7 := Aside0.mk (vkeepB HC6.out hX)
        clear hX HW6 HA6 HB6 HC6
        obtain ⟨p0, p1, p2⟩ := vcells HA7.out
        obtain ⟨q0, q1, q2⟩ := vcells HB7.out
        obtain ⟨r0, r1, r2⟩ := vcells HC7.out
        go_wp2_with fail
        refine (value_Compare.calls 4 _ _ _ _ _ _ _ _ C4.out).mono ?_
        rintro e w8 ⟨rfl, hX⟩
        clear p0 p1 p2 q0 q1 q2 r0 r1 r2
        have HW8 : Aside0 (Below w.heap.size w w8) := ⟨below_via2 HW7.out hX⟩
        have HA8 := Aside0.mk (vkeepB HA7.out hX)
        have HB8 := Aside0.mk (vkeepB HB7.out hX)
        have HC8 := Aside0.mk (vkeepB HC7.out hX)
        clear hX HW7 HA7 HB7 HC7
        obtain ⟨p0, p1, p2⟩ := vcells HA8.out
        obtain ⟨q0, q1, q2⟩ := vcells HB8.out
        obtain ⟨r0, r1, r2⟩ := vcells HC8.out
        have hall := HALL.out
        have hz := HZ.out
        clear HALL HZ C1 C2 C3 C4
        obtain ⟨ha, hb, hc, h4, h5⟩ := hall
        rcases ha with rfl | rfl | rfl
        · have hE : ¬ (a0_0 = a1_0 ∧ a0_1 = a1_1 ∧ a0_2 = a1_2) := fun h => absurd (hz.2 ⟨h.1, h.2.1, by rw [h.2.2]⟩) (by decide)
          clear hz
          by_cases n1 : a0_0 = a1_0
          · subst n1
            by_cases n2 : a0_1 = a1_1
            · subst n2
              have n3 : ¬ a0_2 = a1_2 := fun h => hE ⟨rfl, rfl, h⟩
              have f1 : (a0_2.toList == a1_2.toList) = false := by
                rw [beq_eq_false_iff_ne]
                intro h
                rw [ByteArray.toList_eq, ByteArray.toList_eq] at h
                exact n3 (ofList h)
              have f3 : decide (a0_2 = a1_2) = false := decide_eq_false n3
              clear hE
              rcases hb with rfl | rfl | rfl
              · rcases hc with rfl | rfl | rfl
                · go_wp2
                  go_ret
                  exact ⟨rfl, HW8.out⟩
                · go_wp2
                  go_ret
                  exact ⟨rfl, HW8.out⟩
                · exact absurd (h4 (by decide) (by decide)) (by decide)
              · rcases hc with rfl | rfl | rfl
                · go_wp2
                  go_ret
                  exact ⟨rfl, HW8.out⟩
                · go_wp2
                  go_ret
                  exact ⟨rfl, HW8.out⟩
                · exact absurd (h4 (by decide) (by decide)) (by decide)
              · go_wp2
                go_ret
                exact ⟨rfl, HW8.out⟩
            · have f1 : (a0_1 == a1_1) = false := by simpa using n2
              clear hE
              rcases hb with rfl | rfl | rfl
              · rcases hc with rfl | rfl | rfl
                · go_wp2
                  go_ret
                  exact ⟨rfl, HW8.out⟩
                · go_wp2
                  go_ret
                  exact ⟨rfl, HW8.out⟩
                · exact absurd (h4 (by decide) (by decide)) (by decide)
              · rcases hc with rfl | rfl | rfl
                · go_wp2
                  go_ret
                  exact ⟨rfl, HW8.out⟩
                · go_wp2
                  go_ret
                  exact ⟨rfl, HW8.out⟩
                · exact absurd (h4 (by decide) (by decide)) (by decide)
              · go_wp2
                go_ret
                exact ⟨rfl, HW8.out⟩
          · have f1 : (a0_0 == a1_0) = false := by simpa using n1
            clear hE
            rcases hb with rfl | rfl | rfl
            · rcases hc with rfl | rfl | rfl
              · go_wp2
                go_ret
                exact ⟨rfl, HW8.out⟩
              · go_wp2
                go_ret
                exact ⟨rfl, HW8.out⟩
              · exact absurd (h4 (by decide) (by decide)) (by decide)
            · rcases hc with rfl | rfl | rfl
              · go_wp2
                go_ret
                exact ⟨rfl, HW8.out⟩
              · go_wp2
                go_ret
                exact ⟨rfl, HW8.out⟩
              · exact absurd (h4 (by decide) (by decide)) (by decide)
            · go_wp2
              go_ret
              exact ⟨rfl, HW8.out⟩
        · obtain ⟨e1, e2, e3⟩ := hz.1 rfl
          obtain rfl := e1
          obtain rfl := e2
          obtain rfl := ofList e3
          obtain rfl := h5 rfl
          clear hz h4 h5 e3
          rcases hb with rfl | rfl | rfl
          · go_wp2
            go_ret
            exact ⟨rfl, HW8.out⟩
          · go_wp2
            go_ret
            exact ⟨rfl, HW8.out⟩
          · go_wp2
            go_ret
            exact ⟨rfl, HW8.out⟩
        · have hE : ¬ (a0_0 = a1_0 ∧ a0_1 = a1_1 ∧ a0_2 = a1_2) := fun h => absurd (hz.2 ⟨h.1, h.2.1, by rw [h.2.2]⟩) (by decide)
          clear hz
          by_cases n1 : a0_0 = a1_0
          · subst n1
            by_cases n2 : a0_1 = a1_1
            · subst n2
              have n3 : ¬ a0_2 = a1_2 := fun h => hE ⟨rfl, rfl, h⟩
              have f1 : (a0_2.toList == a1_2.toList) = false := by
                rw [beq_eq_false_iff_ne]
                intro h
                rw [ByteArray.toList_eq, ByteArray.toList_eq] at h
                exact n3 (ofList h)
              have f3 : decide (a0_2 = a1_2) = false := decide_eq_false n3
              clear hE
              go_wp2
              go_ret
              exact ⟨rfl, HW8.out⟩
            · have f1 : (a0_1 == a1_1) = false := by simpa using n2
              clear hE
              go_wp2
              go_ret
              exact ⟨rfl, HW8.out⟩
          · have f1 : (a0_0 == a1_0) = false := by simpa using n1
            clear hE
            go_wp2
            go_ret
            exact ⟨rfl, HW8.out⟩
      · go_wp2
        go_ret
        exact ⟨rfl, HW4.out⟩
    · go_wp2
      go_ret
      exact ⟨rfl, HW4.out⟩
  · go_wp2
    go_ret
    exact ⟨rfl, HW4.out⟩
end Go.Proofs.Ytiodpbenjbdcfaa
namespace Go.Proofs.Ytiodpbenjbdcfaa.G
open Go.RowKit
def rosettelaw04_ValueOrder.f (a0_0 a0_1 : Int) (a0_2 : ByteArray) (a1_0 a1_1 : Int) (a1_2 : ByteArray) (a2_0 a2_1 : Int) (a2_2 : ByteArray) : Option Bool := some true
theorem rosettelaw04_ValueOrder.calls (a0_0 a0_1 : Int) (a0_2 : ByteArray) (a1_0 a1_1 : Int) (a1_2 : ByteArray) (a2_0 a2_1 : Int) (a2_2 : ByteArray) (r : Bool) (w : World) (h : rosettelaw04_ValueOrder.f a0_0 a0_1 a0_2 a1_0 a1_1 a1_2 a2_0 a2_1 a2_2 = some r) :
    Calls Try.prog 4 #[.agg #[.int .i64 a0_0, .int .i64 a0_1, .string a0_2], .agg #[.int .i64 a1_0, .int .i64 a1_1, .string a1_2], .agg #[.int .i64 a2_0, .int .i64 a2_1, .string a2_2]] w fun e w' => e = .returned (.bool r) ∧ Below w.heap.size w w' := by
  obtain rfl : true = r := Option.some.inj h
  exact valueOrder_any _ _ _ _ _ _ _ _ _ w
end Go.Proofs.Ytiodpbenjbdcfaa.G
