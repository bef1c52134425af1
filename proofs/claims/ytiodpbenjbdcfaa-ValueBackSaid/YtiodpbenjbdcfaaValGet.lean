import Derived.Test.YtiodpbenjbdcfaaScanR
import Derived.Test.YtiodpbenjbdcfaaScanW
import Derived.Deep.CutRange
set_option linter.unusedVariables false
set_option linter.unusedSimpArgs false
set_option autoImplicit false
namespace Go.Proofs.Ytiodpbenjbdcfaa
open Go.RowKit Go.Proofs.YtiodpbenjbdcfaaW.PrintWords Go.Proofs.YtiodpbenjbdcfaaW.PrintLast Go.Proofs.YtiodpbenjbdcfaaW.PrintMore

/-- a value that is read: its kind, its int, its text; and the scan behind it -/
structure Vl where
  k : Int
  i : Int
  t : ByteArray
deriving DecidableEq
def Vl.v (x : Vl) : Value := .agg #[.int .i64 x.k, .int .i64 x.i, .string x.t]
def Sc.val0k (k : Int) (s : Sc) : Vl × Sc :=
  if k = 1 then (⟨1, s.int.1, ByteArray.empty⟩, s.int.2)
  else if k = 2 then (⟨2, 0, strOfNums (s.text 64).1⟩, (s.text 64).2)
  else if k = 3 then (⟨3, (s.upto 1).1, ByteArray.empty⟩, (s.upto 1).2)
  else (⟨k, 0, ByteArray.empty⟩, s.fail 3)
def Sc.val0 (s : Sc) : Vl × Sc := Sc.val0k (s.upto 3).1 (s.upto 3).2
def Sc.val (s : Sc) : Vl × Sc := if s.val0.2.e = 0 then s.val0 else (⟨0, 0, ByteArray.empty⟩, s.val0.2)

theorem Scn.low {T : Nat} {S : Nat → Prop} {w : World} {g : Nat} {s : Sc} (h : Scn T S w g s) : Scn T (fun k => S k ∧ k < w.heap.size) w g s := by
  obtain ⟨h1, h2, h3, h4, h5, A, c, h6, h7, h8, h9⟩ := h
  refine ⟨h1, h2, fun h => h3 h.1, h4, h5, A, c, h6, h7, h8, fun h0 => ?_⟩
  obtain ⟨ad, rfl, hS, hc⟩ := h9 h0
  have := World.block_lt_of_cell? _ _ (hc 0 h0)
  rw [add_block] at this
  exact ⟨ad, rfl, ⟨hS, this⟩, hc⟩

/-- a scan, and a block of one's own behind all that lay -/
structure Own1 (T : Nat) (U : Nat) (S : Nat → Prop) (w wx : World) (g : Nat) (s : Sc) (c : Array Value) : Prop where
  heap : wx.heap[w.heap.size]? = some (.cells c U (0, 0))
  scn : Scn T S wx g s
  low : ∀ k, S k → k < w.heap.size
  lt : g < w.heap.size
  grown : w.grownBy wx (some g)
theorem Own1.start {T U : Nat} {S : Nat → Prop} {w : World} {g : Nat} {s : Sc} (h : Scn T S w g s) (c : Array Value) : Own1 T U (fun k => S k ∧ k < w.heap.size) w (w.alloc (.cells c U (0, 0))) g s c :=
  ⟨heap_alloc_new w _, h.low.below ((Below.refl _ _).alloc (Nat.le_refl _) _), fun _ h => h.2, h.lt, World.grownBy_alloc w _ _⟩
theorem Own1.store {T U : Nat} {S : Nat → Prop} {w wx : World} {g : Nat} {s : Sc} {c : Array Value} (h : Own1 T U S w wx g s c) (i : Nat) (v : Value) : Own1 T U S w (wx.setCell ⟨w.heap.size, i, none⟩ v) g s (c.setIfInBounds i v) := by
  have hl := h.lt
  refine ⟨heap_setCell_same _ _ _ _ _ _ h.heap, h.scn.keep fun k hk hs => heap_setCell_other _ _ _ _ ?_, h.low, h.lt, ?_⟩
  · rcases hs with rfl | hs
    · simp; omega
    · have := h.low k hs; simp; omega
  · refine ⟨h.grown.os, h.grown.tape, h.grown.output, by simpa using h.grown.size, fun k hk hne => ?_⟩
    rw [heap_setCell_other _ _ _ _ (by simp; omega)]
    exact h.grown.block k hk hne
theorem Own1.call {T U : Nat} {S : Nat → Prop} {w wx wy : World} {g : Nat} {s s' : Sc} {c : Array Value} (h : Own1 T U S w wx g s c) (hs : Scn T S wy g s') (hg : wx.grownBy wy (some g)) : Own1 T U S w wy g s' c := by
  have hl := h.lt
  refine ⟨?_, hs, h.low, h.lt, grown_trans h.grown hg⟩
  rw [hg.block _ (lt_of_heap h.heap) (fun e => by cases e; omega)]
  exact h.heap
theorem Own1.done {T U : Nat} {S : Nat → Prop} {w wx : World} {g : Nat} {s : Sc} {c : Array Value} (h : Own1 T U (fun k => S k ∧ k < w.heap.size) w wx g s c) (hg : ¬ S g) : Scn T S wx g s ∧ w.grownBy wx (some g) := ⟨h.scn.mono (fun _ h => h.1) hg, h.grown⟩
theorem Own1.cells {T U : Nat} {S : Nat → Prop} {w wx : World} {g : Nat} {s : Sc} {a b d : Value} (h : Own1 T U S w wx g s #[a, b, d]) :
    wx.cell? ⟨w.heap.size, 0, none⟩ = some a ∧ wx.cell? ⟨w.heap.size, 1, none⟩ = some b ∧ wx.cell? ⟨w.heap.size, 2, none⟩ = some d ∧ wx.frozen? ⟨w.heap.size, 0, none⟩ = false ∧ wx.frozen? ⟨w.heap.size, 1, none⟩ = false ∧ wx.frozen? ⟨w.heap.size, 2, none⟩ = false :=
  ⟨by rw [cell_of_row _ _ _ _ _ _ h.heap]; rfl, by rw [cell_of_row _ _ _ _ _ _ h.heap]; rfl, by rw [cell_of_row _ _ _ _ _ _ h.heap]; rfl, frozen_of_row _ _ _ _ _ h.heap, frozen_of_row _ _ _ _ _ h.heap, frozen_of_row _ _ _ _ _ h.heap⟩

theorem Own1.three {T U : Nat} {S : Nat → Prop} {w wx : World} {g : Nat} {s : Sc} {a b d : Value} (h : Own1 T U (fun k => S k ∧ k < w.heap.size) w wx g s #[a, b, d]) (hg : ¬ S g) (x y z : Value) :
    (((wx.setCell ⟨w.heap.size, 0, none⟩ x).setCell ⟨w.heap.size, 1, none⟩ y).setCell ⟨w.heap.size, 2, none⟩ z).heap[w.heap.size]? = some (.cells #[x, y, z] U (0, 0)) ∧ Scn T S (((wx.setCell ⟨w.heap.size, 0, none⟩ x).setCell ⟨w.heap.size, 1, none⟩ y).setCell ⟨w.heap.size, 2, none⟩ z) g s ∧ w.grownBy (((wx.setCell ⟨w.heap.size, 0, none⟩ x).setCell ⟨w.heap.size, 1, none⟩ y).setCell ⟨w.heap.size, 2, none⟩ z) (some g) :=
  ⟨(((h.store 0 x).store 1 y).store 2 z).heap, (((h.store 0 x).store 1 y).store 2 z).done hg⟩
theorem info_val : (Try.prog.info? 23).map (·.size) = some 3 := by kernel_rfl

set_option maxRecDepth 100000 in
set_option maxHeartbeats 4000000 in
theorem wget {S : Nat → Prop} {w : World} {g : Nat} {s : Sc} (h : Scn 53 S w g s) :
    Calls Try.prog 16 #[.pointer (some ⟨g, 0, none⟩)] w fun r w' => r = .returned s.val.1.v ∧ Scn 53 S w' g s.val.2 ∧ w.grownBy w' (some g) := by
  have hne := Aside0.mk h.ne
  have H0 := Aside0.mk (Own1.start (U := 23) h #[.int .i64 0, .int .i64 0, .string ByteArray.empty])
  clear h
  go_enter Try.func16, Try.ntmps16
  go_wp2_with fail
  refine (wupto H0.out.scn 3 (by decide)).mono ?_
  rintro e w1 ⟨rfl, hs, hg⟩
  have H1 := Aside0.mk (H0.out.call hs hg)
  have hV : s.val0 = Sc.val0k (s.upto 3).1 (s.upto 3).2 := rfl
  obtain ⟨k, hk⟩ : ∃ k, (s.upto 3).1 = k := ⟨_, rfl⟩
  obtain ⟨s1, hs1⟩ : ∃ s1, (s.upto 3).2 = s1 := ⟨_, rfl⟩
  rw [hk, hs1] at hV
  rw [hs1] at H1
  rw [hk]
  have HV := Aside0.mk hV
  clear hs hg H0 hk hs1 hV
  obtain ⟨c0, c1, c2, f0, f1, f2⟩ := H1.out.cells
  have H2 := Aside0.mk (H1.out.store 0 (.int .i64 k))
  simp only [List.setIfInBounds_toArray, List.set_cons_zero] at H2
  clear H1
  by_cases k1 : k = 1
  · have b1 : (k == 1) = true := by simp [k1]
    have HV1 : Aside0 (s.val0 = (⟨1, (s1.int).1, ByteArray.empty⟩, (s1.int).2)) := ⟨by rw [HV.out, Sc.val0k, if_pos k1]⟩
    subst k1
    clear HV
    go_wp2_with fail
    refine (wint H2.out.scn).mono ?_
    rintro e w3 ⟨rfl, hs, hg⟩
    have H3 := Aside0.mk (H2.out.call hs hg)
    clear hs hg c0 c1 c2 f0 f1 f2 H2
    obtain ⟨c0, c1, c2, f0, f1, f2⟩ := H3.out.cells
    obtain ⟨s3, hs3⟩ : ∃ s3, (s1.int).2 = s3 := ⟨_, rfl⟩
    obtain ⟨i3, hi3⟩ : ∃ i3, (s1.int).1 = i3 := ⟨_, rfl⟩
    rw [hi3]
    rw [hs3] at H3 HV1
    rw [hi3] at HV1
    have H4 := Aside0.mk (H3.out.store 1 (.int .i64 i3))
    simp only [List.setIfInBounds_toArray, List.set_cons_zero, List.set_cons_succ] at H4
    clear hs3 hi3 H3
    by_cases e0 : s3.e = 0
    · have b2 : (s3.e != 0) = false := by simp [e0]
      have HE : Aside0 (s.val = (⟨1, i3, ByteArray.empty⟩, s3)) := ⟨by rw [Sc.val, HV1.out, if_pos e0]⟩
      clear e0
      go_wp2_with (go_at_call 19; refine (werr H4.out.scn).mono ?_; rintro e w5 ⟨rfl, rfl⟩)
      have hz := H4.out.three hne.out (.int .i64 1) (.int .i64 i3) (.string ByteArray.empty)
      refine bodyPost_ret (results_cell_row (P := Try.prog) (ty := 23) (p := 2) rfl _ _ w.heap.size 23 _ (0, 0) _ rfl hz.1 Try.underlying23 rfl info_val) rfl ?_
      exact ⟨by rw [HE.out]; rfl, by rw [HE.out]; exact hz.2.1, hz.2.2⟩
    · have b2 : (s3.e != 0) = true := by simp [e0]
      have HE : Aside0 (s.val = (⟨0, 0, ByteArray.empty⟩, s3)) := ⟨by rw [Sc.val, HV1.out, if_neg e0]⟩
      clear e0
      go_wp2_with (go_at_call 19; refine (werr H4.out.scn).mono ?_; rintro e w5 ⟨rfl, rfl⟩)
      have hz := H4.out.three hne.out (.int .i64 0) (.int .i64 0) (.string ByteArray.empty)
      refine bodyPost_ret (results_cell_row (P := Try.prog) (ty := 23) (p := 2) rfl _ _ w.heap.size 23 _ (0, 0) _ rfl hz.1 Try.underlying23 rfl info_val) rfl ?_
      exact ⟨by rw [HE.out]; rfl, by rw [HE.out]; exact hz.2.1, hz.2.2⟩
  have n1 := Aside0.mk k1
  have m1 : (k == 1) = false := by simp [k1]
  clear k1
  by_cases k1 : k = 2
  · have b1 : (k == 2) = true := by simp [k1]
    have HV1 : Aside0 (s.val0 = (⟨2, 0, strOfNums (s1.text 64).1⟩, (s1.text 64).2)) := ⟨by rw [HV.out, Sc.val0k, if_neg n1.out, if_pos k1]⟩
    subst k1
    clear HV
    go_wp2_with fail
    refine (wtext H2.out.scn 64 (by decide)).mono ?_
    rintro e w3 ⟨rfl, hs, hg⟩
    have H3 := Aside0.mk (H2.out.call hs hg)
    clear hs hg c0 c1 c2 f0 f1 f2 H2
    obtain ⟨c0, c1, c2, f0, f1, f2⟩ := H3.out.cells
    obtain ⟨s3, hs3⟩ : ∃ s3, (s1.text 64).2 = s3 := ⟨_, rfl⟩
    obtain ⟨i3, hi3⟩ : ∃ i3, (s1.text 64).1 = i3 := ⟨_, rfl⟩
    rw [hi3]
    rw [hs3] at H3 HV1
    rw [hi3] at HV1
    have H4 := Aside0.mk (H3.out.store 2 (.string (strOfNums i3)))
    simp only [List.setIfInBounds_toArray, List.set_cons_zero, List.set_cons_succ] at H4
    clear hs3 hi3 H3
    by_cases e0 : s3.e = 0
    · have b2 : (s3.e != 0) = false := by simp [e0]
      have HE : Aside0 (s.val = (⟨2, 0, strOfNums i3⟩, s3)) := ⟨by rw [Sc.val, HV1.out, if_pos e0]⟩
      clear e0
      go_wp2_with (go_at_call 19; refine (werr H4.out.scn).mono ?_; rintro e w5 ⟨rfl, rfl⟩)
      have hz := H4.out.three hne.out (.int .i64 2) (.int .i64 0) (.string (strOfNums i3))
      refine bodyPost_ret (results_cell_row (P := Try.prog) (ty := 23) (p := 2) rfl _ _ w.heap.size 23 _ (0, 0) _ rfl hz.1 Try.underlying23 rfl info_val) rfl ?_
      exact ⟨by rw [HE.out]; rfl, by rw [HE.out]; exact hz.2.1, hz.2.2⟩
    · have b2 : (s3.e != 0) = true := by simp [e0]
      have HE : Aside0 (s.val = (⟨0, 0, ByteArray.empty⟩, s3)) := ⟨by rw [Sc.val, HV1.out, if_neg e0]⟩
      clear e0
      go_wp2_with (go_at_call 19; refine (werr H4.out.scn).mono ?_; rintro e w5 ⟨rfl, rfl⟩)
      have hz := H4.out.three hne.out (.int .i64 0) (.int .i64 0) (.string ByteArray.empty)
      refine bodyPost_ret (results_cell_row (P := Try.prog) (ty := 23) (p := 2) rfl _ _ w.heap.size 23 _ (0, 0) _ rfl hz.1 Try.underlying23 rfl info_val) rfl ?_
      exact ⟨by rw [HE.out]; rfl, by rw [HE.out]; exact hz.2.1, hz.2.2⟩
  have n2 := Aside0.mk k1
  have m2 : (k == 2) = false := by simp [k1]
  clear k1
  by_cases k1 : k = 3
  · have b1 : (k == 3) = true := by simp [k1]
    have HV1 : Aside0 (s.val0 = (⟨3, (s1.upto 1).1, ByteArray.empty⟩, (s1.upto 1).2)) := ⟨by rw [HV.out, Sc.val0k, if_neg n1.out, if_neg n2.out, if_pos k1]⟩
    subst k1
    clear HV
    go_wp2_with fail
    refine (wupto H2.out.scn 1 (by decide)).mono ?_
    rintro e w3 ⟨rfl, hs, hg⟩
    have H3 := Aside0.mk (H2.out.call hs hg)
    clear hs hg c0 c1 c2 f0 f1 f2 H2
    obtain ⟨c0, c1, c2, f0, f1, f2⟩ := H3.out.cells
    obtain ⟨s3, hs3⟩ : ∃ s3, (s1.upto 1).2 = s3 := ⟨_, rfl⟩
    obtain ⟨i3, hi3⟩ : ∃ i3, (s1.upto 1).1 = i3 := ⟨_, rfl⟩
    rw [hi3]
    rw [hs3] at H3 HV1
    rw [hi3] at HV1
    have H4 := Aside0.mk (H3.out.store 1 (.int .i64 i3))
    simp only [List.setIfInBounds_toArray, List.set_cons_zero, List.set_cons_succ] at H4
    clear hs3 hi3 H3
    by_cases e0 : s3.e = 0
    · have b2 : (s3.e != 0) = false := by simp [e0]
      have HE : Aside0 (s.val = (⟨3, i3, ByteArray.empty⟩, s3)) := ⟨by rw [Sc.val, HV1.out, if_pos e0]⟩
      clear e0
      go_wp2_with (go_at_call 19; refine (werr H4.out.scn).mono ?_; rintro e w5 ⟨rfl, rfl⟩)
      have hz := H4.out.three hne.out (.int .i64 3) (.int .i64 i3) (.string ByteArray.empty)
      refine bodyPost_ret (results_cell_row (P := Try.prog) (ty := 23) (p := 2) rfl _ _ w.heap.size 23 _ (0, 0) _ rfl hz.1 Try.underlying23 rfl info_val) rfl ?_
      exact ⟨by rw [HE.out]; rfl, by rw [HE.out]; exact hz.2.1, hz.2.2⟩
    · have b2 : (s3.e != 0) = true := by simp [e0]
      have HE : Aside0 (s.val = (⟨0, 0, ByteArray.empty⟩, s3)) := ⟨by rw [Sc.val, HV1.out, if_neg e0]⟩
      clear e0
      go_wp2_with (go_at_call 19; refine (werr H4.out.scn).mono ?_; rintro e w5 ⟨rfl, rfl⟩)
      have hz := H4.out.three hne.out (.int .i64 0) (.int .i64 0) (.string ByteArray.empty)
      refine bodyPost_ret (results_cell_row (P := Try.prog) (ty := 23) (p := 2) rfl _ _ w.heap.size 23 _ (0, 0) _ rfl hz.1 Try.underlying23 rfl info_val) rfl ?_
      exact ⟨by rw [HE.out]; rfl, by rw [HE.out]; exact hz.2.1, hz.2.2⟩
  have n3 := Aside0.mk k1
  have m3 : (k == 3) = false := by simp [k1]
  clear k1
  have HV1 : Aside0 (s.val0 = (⟨k, 0, ByteArray.empty⟩, s1.fail 3)) := ⟨by rw [HV.out, Sc.val0k, if_neg n1.out, if_neg n2.out, if_neg n3.out]⟩
  clear HV
  go_wp2_with fail
  refine (wfail H2.out.scn 3 (by decide)).mono ?_
  rintro e w3 ⟨rfl, hs, hg⟩
  have H4 := Aside0.mk (H2.out.call hs hg)
  clear hs hg c0 c1 c2 f0 f1 f2 H2
  obtain ⟨c0, c1, c2, f0, f1, f2⟩ := H4.out.cells
  obtain ⟨s3, hs3⟩ : ∃ s3, s1.fail 3 = s3 := ⟨_, rfl⟩
  rw [hs3] at H4 HV1
  clear hs3
  by_cases e0 : s3.e = 0
  · have b2 : (s3.e != 0) = false := by simp [e0]
    have HE : Aside0 (s.val = (⟨k, 0, ByteArray.empty⟩, s3)) := ⟨by rw [Sc.val, HV1.out, if_pos e0]⟩
    clear e0
    go_wp2_with (go_at_call 19; refine (werr H4.out.scn).mono ?_; rintro e w5 ⟨rfl, rfl⟩)
    have hz := H4.out.three hne.out (.int .i64 k) (.int .i64 0) (.string ByteArray.empty)
    refine bodyPost_ret (results_cell_row (P := Try.prog) (ty := 23) (p := 2) rfl _ _ w.heap.size 23 _ (0, 0) _ rfl hz.1 Try.underlying23 rfl info_val) rfl ?_
    exact ⟨by rw [HE.out]; rfl, by rw [HE.out]; exact hz.2.1, hz.2.2⟩
  · have b2 : (s3.e != 0) = true := by simp [e0]
    have HE : Aside0 (s.val = (⟨0, 0, ByteArray.empty⟩, s3)) := ⟨by rw [Sc.val, HV1.out, if_neg e0]⟩
    clear e0
    go_wp2_with (go_at_call 19; refine (werr H4.out.scn).mono ?_; rintro e w5 ⟨rfl, rfl⟩)
    have hz := H4.out.three hne.out (.int .i64 0) (.int .i64 0) (.string ByteArray.empty)
    refine bodyPost_ret (results_cell_row (P := Try.prog) (ty := 23) (p := 2) rfl _ _ w.heap.size 23 _ (0, 0) _ rfl hz.1 Try.underlying23 rfl info_val) rfl ?_
    exact ⟨by rw [HE.out]; rfl, by rw [HE.out]; exact hz.2.1, hz.2.2⟩
theorem Sc.upto_in (s : Sc) (hu : u8s s.l) (hne : s.e ≠ 0 → s.l = []) : 0 ≤ (s.upto 3).1 ∧ (s.upto 3).1 ≤ 3 := by
  have h := s.num_lt hu
  have hz := s.num_zero hne
  unfold Sc.upto
  by_cases he : s.num.2.e = 0
  · by_cases h3 : 3 < s.num.1
    · rw [if_pos ⟨he, .inr h3⟩]; simp
    · rw [if_neg (fun hh => by rcases hh.2 with hh | hh <;> omega)]
      unfold wrap64
      simp only
      omega
  · rw [if_neg (fun hh => he hh.1), hz he]
    simp only
    unfold wrap64
    omega

set_option maxRecDepth 100000 in
set_option maxHeartbeats 4000000 in
theorem rget {S : Nat → Prop} {w : World} {g : Nat} {s : Sc} (h : Scn 37 S w g s) :
    Calls Try.prog 17 #[.pointer (some ⟨g, 0, none⟩)] w fun r w' => r = .returned s.val.1.v ∧ Scn 37 S w' g s.val.2 ∧ w.grownBy w' (some g) := by
  have hne := Aside0.mk h.ne
  have hb := s.upto_in h.u8 h.err
  have HZ := Aside0.mk (Own1.start (U := 23) h #[.int .i64 0, .int .i64 0, .string ByteArray.empty])
  clear h
  go_enter Try.func17, Try.ntmps17
  go_wp2_with fail
  refine (rupto HZ.out.scn 3 (by decide)).mono ?_
  rintro e w1 ⟨rfl, hs, hg⟩
  have H0 := Aside0.mk (HZ.out.call hs hg)
  have hV : s.val0 = Sc.val0k (s.upto 3).1 (s.upto 3).2 := rfl
  obtain ⟨k, hk⟩ : ∃ k, (s.upto 3).1 = k := ⟨_, rfl⟩
  obtain ⟨s1, hs1⟩ : ∃ s1, (s.upto 3).2 = s1 := ⟨_, rfl⟩
  rw [hk] at hb
  rw [hk, hs1] at hV
  rw [hs1] at H0
  rw [hk]
  have HV := Aside0.mk hV
  clear hs hg HZ hk hs1 hV
  have H1 := Aside0.mk (Own1.start (U := 23) H0.out.scn #[.int .i64 k, .int .i64 0, .string ByteArray.empty])
  have hg1 : g < w1.heap.size := H0.out.scn.lt
  have hg2 : (w1.heap.size = g) = False := by simp; omega
  have hg3 : (g = w1.heap.size) = False := by simp; omega
  have hg0 := lt_of_heap H0.out.heap
  have hg4 : (w1.heap.size = w.heap.size) = False := by simp; omega
  have hg5 : (w.heap.size = w1.heap.size) = False := by simp; omega
  have hq := Aside0.mk (show ¬ (S g ∧ g < w.heap.size) from fun h => hne.out h.1)
  clear hg1 hg0
  by_cases k0 : k = 0
  · have b1 : (k == 0) = true := by simp [k0]
    have HV1 : Aside0 (s.val0 = (⟨0, 0, ByteArray.empty⟩, s1.fail 3)) := ⟨by rw [HV.out, k0]; rfl⟩
    subst k0
    clear HV
    go_wp2_with fail
    refine (rfail H1.out.scn 3 (by decide)).mono ?_
    rintro e w3 ⟨rfl, hs, hg⟩
    have H4 := Aside0.mk (H1.out.call hs hg)
    clear hs hg H1
    obtain ⟨d0, d1, d2, p0, p1, p2⟩ := H4.out.cells
    obtain ⟨r0, r1, r2, q0, q1, q2⟩ := (H0.out.call (H4.out.scn.mono (fun _ h => h.1) hq.out) H4.out.grown).cells
    obtain ⟨s3, hs3⟩ : ∃ s3, s1.fail 3 = s3 := ⟨_, rfl⟩
    rw [hs3] at H4 HV1
    obtain ⟨A, c, hb0, _, _, hh, c0, c1, f0, f1⟩ := H4.out.scn.cells
    clear hb0 hh hs3
    by_cases e0 : s3.e = 0
    · have b2 : (s3.e != 0) = false := by simp [e0]
      have HE : Aside0 (s.val = (⟨0, 0, ByteArray.empty⟩, s3)) := ⟨by rw [Sc.val, HV1.out, if_pos e0]⟩
      clear e0
      go_wp2
      have hz := (H0.out.call (H4.out.scn.mono (fun _ h => h.1) hq.out) H4.out.grown).three hne.out (.int .i64 0) (.int .i64 0) (.string ByteArray.empty)
      refine bodyPost_ret (results_cell_row (P := Try.prog) (ty := 23) (p := 2) rfl _ _ w.heap.size 23 _ (0, 0) _ rfl hz.1 Try.underlying23 rfl info_val) rfl ?_
      exact ⟨by rw [HE.out]; rfl, by rw [HE.out]; exact hz.2.1, hz.2.2⟩
    · have b2 : (s3.e != 0) = true := by simp [e0]
      have HE : Aside0 (s.val = (⟨0, 0, ByteArray.empty⟩, s3)) := ⟨by rw [Sc.val, HV1.out, if_neg e0]⟩
      clear e0
      go_wp2
      have hz := (H0.out.call (H4.out.scn.mono (fun _ h => h.1) hq.out) H4.out.grown).three hne.out (.int .i64 0) (.int .i64 0) (.string ByteArray.empty)
      refine bodyPost_ret (results_cell_row (P := Try.prog) (ty := 23) (p := 2) rfl _ _ w.heap.size 23 _ (0, 0) _ rfl hz.1 Try.underlying23 rfl info_val) rfl ?_
      exact ⟨by rw [HE.out]; rfl, by rw [HE.out]; exact hz.2.1, hz.2.2⟩
  have m0 : (k == 0) = false := by simp [k0]
  by_cases k1 : k = 1
  · have b1 : (k == 1) = true := by simp [k1]
    have HV1 : Aside0 (s.val0 = (⟨1, (s1.int).1, ByteArray.empty⟩, (s1.int).2)) := ⟨by rw [HV.out, Sc.val0k, if_pos k1]⟩
    subst k1
    clear HV
    go_wp2_with fail
    refine (rint H1.out.scn).mono ?_
    rintro e w3 ⟨rfl, hs, hg⟩
    have H3 := Aside0.mk (H1.out.call hs hg)
    clear hs hg H1
    obtain ⟨d0, d1, d2, p0, p1, p2⟩ := H3.out.cells
    obtain ⟨r0, r1, r2, q0, q1, q2⟩ := (H0.out.call (H3.out.scn.mono (fun _ h => h.1) hq.out) H3.out.grown).cells
    obtain ⟨s3, hs3⟩ : ∃ s3, (s1.int).2 = s3 := ⟨_, rfl⟩
    obtain ⟨i3, hi3⟩ : ∃ i3, (s1.int).1 = i3 := ⟨_, rfl⟩
    rw [hi3]
    rw [hs3] at H3 HV1
    rw [hi3] at HV1
    obtain ⟨A, c, hb0, _, _, hh, c0, c1, f0, f1⟩ := H3.out.scn.cells
    have H4 := Aside0.mk (H3.out.store 1 (.int .i64 i3))
    clear hb0 hh hs3 hi3 H3
    by_cases e0 : s3.e = 0
    · have b2 : (s3.e != 0) = false := by simp [e0]
      have HE : Aside0 (s.val = (⟨1, i3, ByteArray.empty⟩, s3)) := ⟨by rw [Sc.val, HV1.out, if_pos e0]⟩
      clear e0
      go_wp2
      have hz := (H0.out.call (H4.out.scn.mono (fun _ h => h.1) hq.out) H4.out.grown).three hne.out (.int .i64 1) (.int .i64 i3) (.string ByteArray.empty)
      refine bodyPost_ret (results_cell_row (P := Try.prog) (ty := 23) (p := 2) rfl _ _ w.heap.size 23 _ (0, 0) _ rfl hz.1 Try.underlying23 rfl info_val) rfl ?_
      exact ⟨by rw [HE.out]; rfl, by rw [HE.out]; exact hz.2.1, hz.2.2⟩
    · have b2 : (s3.e != 0) = true := by simp [e0]
      have HE : Aside0 (s.val = (⟨0, 0, ByteArray.empty⟩, s3)) := ⟨by rw [Sc.val, HV1.out, if_neg e0]⟩
      clear e0
      go_wp2
      have hz := (H0.out.call (H4.out.scn.mono (fun _ h => h.1) hq.out) H4.out.grown).three hne.out (.int .i64 0) (.int .i64 0) (.string ByteArray.empty)
      refine bodyPost_ret (results_cell_row (P := Try.prog) (ty := 23) (p := 2) rfl _ _ w.heap.size 23 _ (0, 0) _ rfl hz.1 Try.underlying23 rfl info_val) rfl ?_
      exact ⟨by rw [HE.out]; rfl, by rw [HE.out]; exact hz.2.1, hz.2.2⟩
  have n1 := Aside0.mk k1
  have m1 : (k == 1) = false := by simp [k1]
  by_cases k2 : k = 2
  · have b1 : (k == 2) = true := by simp [k2]
    have HV1 : Aside0 (s.val0 = (⟨2, 0, strOfNums (s1.text 64).1⟩, (s1.text 64).2)) := ⟨by rw [HV.out, Sc.val0k, if_neg n1.out, if_pos k2]⟩
    subst k2
    clear HV
    go_wp2_with fail
    refine (rtext H1.out.scn 64 (by decide)).mono ?_
    rintro e w3 ⟨rfl, hs, hg⟩
    have H3 := Aside0.mk (H1.out.call hs hg)
    clear hs hg H1
    obtain ⟨d0, d1, d2, p0, p1, p2⟩ := H3.out.cells
    obtain ⟨r0, r1, r2, q0, q1, q2⟩ := (H0.out.call (H3.out.scn.mono (fun _ h => h.1) hq.out) H3.out.grown).cells
    obtain ⟨s3, hs3⟩ : ∃ s3, (s1.text 64).2 = s3 := ⟨_, rfl⟩
    obtain ⟨i3, hi3⟩ : ∃ i3, (s1.text 64).1 = i3 := ⟨_, rfl⟩
    rw [hi3]
    rw [hs3] at H3 HV1
    rw [hi3] at HV1
    obtain ⟨A, c, hb0, _, _, hh, c0, c1, f0, f1⟩ := H3.out.scn.cells
    have H4 := Aside0.mk (H3.out.store 2 (.string (strOfNums i3)))
    clear hb0 hh hs3 hi3 H3
    by_cases e0 : s3.e = 0
    · have b2 : (s3.e != 0) = false := by simp [e0]
      have HE : Aside0 (s.val = (⟨2, 0, strOfNums i3⟩, s3)) := ⟨by rw [Sc.val, HV1.out, if_pos e0]⟩
      clear e0
      go_wp2
      have hz := (H0.out.call (H4.out.scn.mono (fun _ h => h.1) hq.out) H4.out.grown).three hne.out (.int .i64 2) (.int .i64 0) (.string (strOfNums i3))
      refine bodyPost_ret (results_cell_row (P := Try.prog) (ty := 23) (p := 2) rfl _ _ w.heap.size 23 _ (0, 0) _ rfl hz.1 Try.underlying23 rfl info_val) rfl ?_
      exact ⟨by rw [HE.out]; rfl, by rw [HE.out]; exact hz.2.1, hz.2.2⟩
    · have b2 : (s3.e != 0) = true := by simp [e0]
      have HE : Aside0 (s.val = (⟨0, 0, ByteArray.empty⟩, s3)) := ⟨by rw [Sc.val, HV1.out, if_neg e0]⟩
      clear e0
      go_wp2
      have hz := (H0.out.call (H4.out.scn.mono (fun _ h => h.1) hq.out) H4.out.grown).three hne.out (.int .i64 0) (.int .i64 0) (.string ByteArray.empty)
      refine bodyPost_ret (results_cell_row (P := Try.prog) (ty := 23) (p := 2) rfl _ _ w.heap.size 23 _ (0, 0) _ rfl hz.1 Try.underlying23 rfl info_val) rfl ?_
      exact ⟨by rw [HE.out]; rfl, by rw [HE.out]; exact hz.2.1, hz.2.2⟩
  have n2 := Aside0.mk k2
  have m2 : (k == 2) = false := by simp [k2]
  have k3 : k = 3 := by omega
  clear k0 k1 k2 hb
  have b1 : (k == 3) = true := by simp [k3]
  have HV1 : Aside0 (s.val0 = (⟨3, (s1.upto 1).1, ByteArray.empty⟩, (s1.upto 1).2)) := ⟨by rw [HV.out, Sc.val0k, if_neg n1.out, if_neg n2.out, if_pos k3]⟩
  subst k3
  clear HV
  go_wp2_with fail
  refine (rupto H1.out.scn 1 (by decide)).mono ?_
  rintro e w3 ⟨rfl, hs, hg⟩
  have H3 := Aside0.mk (H1.out.call hs hg)
  clear hs hg H1
  obtain ⟨d0, d1, d2, p0, p1, p2⟩ := H3.out.cells
  obtain ⟨r0, r1, r2, q0, q1, q2⟩ := (H0.out.call (H3.out.scn.mono (fun _ h => h.1) hq.out) H3.out.grown).cells
  obtain ⟨s3, hs3⟩ : ∃ s3, (s1.upto 1).2 = s3 := ⟨_, rfl⟩
  obtain ⟨i3, hi3⟩ : ∃ i3, (s1.upto 1).1 = i3 := ⟨_, rfl⟩
  rw [hi3]
  rw [hs3] at H3 HV1
  rw [hi3] at HV1
  obtain ⟨A, c, hb0, _, _, hh, c0, c1, f0, f1⟩ := H3.out.scn.cells
  have H4 := Aside0.mk (H3.out.store 1 (.int .i64 i3))
  clear hb0 hh hs3 hi3 H3
  by_cases e0 : s3.e = 0
  · have b2 : (s3.e != 0) = false := by simp [e0]
    have HE : Aside0 (s.val = (⟨3, i3, ByteArray.empty⟩, s3)) := ⟨by rw [Sc.val, HV1.out, if_pos e0]⟩
    clear e0
    go_wp2
    have hz := (H0.out.call (H4.out.scn.mono (fun _ h => h.1) hq.out) H4.out.grown).three hne.out (.int .i64 3) (.int .i64 i3) (.string ByteArray.empty)
    refine bodyPost_ret (results_cell_row (P := Try.prog) (ty := 23) (p := 2) rfl _ _ w.heap.size 23 _ (0, 0) _ rfl hz.1 Try.underlying23 rfl info_val) rfl ?_
    exact ⟨by rw [HE.out]; rfl, by rw [HE.out]; exact hz.2.1, hz.2.2⟩
  · have b2 : (s3.e != 0) = true := by simp [e0]
    have HE : Aside0 (s.val = (⟨0, 0, ByteArray.empty⟩, s3)) := ⟨by rw [Sc.val, HV1.out, if_neg e0]⟩
    clear e0
    go_wp2
    have hz := (H0.out.call (H4.out.scn.mono (fun _ h => h.1) hq.out) H4.out.grown).three hne.out (.int .i64 0) (.int .i64 0) (.string ByteArray.empty)
    refine bodyPost_ret (results_cell_row (P := Try.prog) (ty := 23) (p := 2) rfl _ _ w.heap.size 23 _ (0, 0) _ rfl hz.1 Try.underlying23 rfl info_val) rfl ?_
    exact ⟨by rw [HE.out]; rfl, by rw [HE.out]; exact hz.2.1, hz.2.2⟩
end Go.Proofs.Ytiodpbenjbdcfaa
