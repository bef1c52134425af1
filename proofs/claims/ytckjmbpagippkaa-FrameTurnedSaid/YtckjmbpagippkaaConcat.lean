/- slices.Grow of nothing, and slices.Concat of two rows of bytes. -/
import Derived.Test.YtckjmbpagippkaaHeld
import Derived.Lib.AppendZeros
set_option linter.unusedVariables false
set_option linter.unusedSimpArgs false
set_option autoImplicit false
namespace Go.Proofs.Ytckjmbpagippkaa
open Go.RowKit Go.Proofs.YtckjmbpagippkaaW.PrintWords Go.Proofs.YtckjmbpagippkaaW.PrintLast Go.Proofs.YtckjmbpagippkaaW.PrintMore

set_option maxRecDepth 100000 in
set_option maxHeartbeats 1000000 in
theorem grow_nil (n : Nat) (hn : n ≤ 100000) (w : World) :
    Calls Try.prog 25 #[.slice none 0 0, .int .i64 n] w fun e w' => ∃ v, e = .returned v ∧ (Kd.int .u8).R 5 w' w.heap.size (fun _ => True) v [] ∧ Below w.heap.size w w' := by
  have hw : wrap64 ((n : Int) - 0) = (n : Int) := by unfold wrap64; omega
  go_enter Try.func25, Try.ntmps25
  by_cases h0 : 0 < n
  · have hinfo : ∃ i : TypeInfo, Try.prog.info? 5 = some i ∧ i.zero = some (.int .u8 0) ∧ i.size = 1 ∧ i.bytes = 1 := ⟨_, rfl, rfl, rfl, rfl⟩
    obtain ⟨i0, hi, hz, hs, hb⟩ := hinfo
    have hrun := fun W => Lib.run_append_nil_zeros (P := Try.prog) W 22 3 22 5 i0 (.int .u8 0) .i64 .i64 Try.underlying22 Try.underlying3 hi hz n h0 (by omega) (by omega) (by rw [hb]; omega)
    clear hi hz hs hb
    go_wp2_with (at_builtin; refine Lib.wpList_append_run _ rfl _ _ _ _ rfl _ _ rfl rfl _ _ (hrun _) ?_)
    go_ret
    refine ⟨_, rfl, ?_, (Below.refl _ _).alloc (Nat.le_refl _) _ |> below_drew⟩
    refine kd_R ⟨by simp [nums], .inr ⟨w.heap.size, grownCap w n 0 5, _, rfl, Nat.le_refl _, heap_alloc_new w _, Nat.zero_le _, grownCap_le_maxLen w n 0 _ (by unfold maxLen; omega), ?_, by simp [nums]⟩⟩
    have hg := grownCap_ge w n 0 5
    rw [Array.size_append, size_zeroCells, size_zeroCells]
    simp
    omega
  · obtain rfl : n = 0 := by omega
    go_wp2
    go_ret
    exact ⟨_, rfl, Kd.R_nil _ _ _ _ _, Below.refl _ _⟩
theorem info_b8 : (Try.prog.info? 5).map (fun i => (i.zero, i.size, i.bytes)) = some (some (.int .u8 0), 1, 1) := by kernel_rfl
theorem HeldB.mono {w : World} {S S' : Nat → Prop} {A : Option Addr} {l : List Int} (h : HeldB w S A l) (hS : ∀ k, S k → S' k) : HeldB w S' A l := by
  intro h0
  obtain ⟨ad, h1, h2, h3⟩ := h h0
  exact ⟨ad, h1, hS _ h2, h3⟩
theorem two_cells {W : World} {b T : Nat} {x y : Value} (h : W.heap[b]? = some (.cells #[x, y] T (0, 0))) :
    W.cell? ⟨b, 0, none⟩ = some x ∧ W.cell? ⟨b, 1, none⟩ = some y :=
  ⟨by rw [cell_of_row _ _ _ _ _ _ h]; rfl, by rw [cell_of_row _ _ _ _ _ _ h]; rfl⟩
theorem vkeepB {W W' : World} {b : Nat} {o : Obj} (h : W.heap[b]? = some o) (hB : Below W.heap.size W W') : W'.heap[b]? = some o := by rw [hB.block _ (lt_of_heap h)]; exact h
theorem vkeepO {W W' : World} {b base : Nat} {o : Obj} (h : W.heap[b]? = some o) (hB : Below base W W') (hb : b < base) : W'.heap[b]? = some o := by rw [hB.block _ hb]; exact h
set_option maxRecDepth 100000 in
set_option maxHeartbeats 2000000 in
theorem concat_two (gc cc : Nat) (A1 : Option Addr) (c1 : Nat) (l1 : List Int) (A2 : Option Addr) (c2 : Nat) (l2 : List Int) (w : World) (hcell : w.heap[gc]? = some (.cells #[.slice A1 l1.length c1, .slice A2 l2.length c2] 22 (0, 0)))
    (h1 : HeldB w (fun k => k < w.heap.size) A1 l1) (h2 : HeldB w (fun k => k < w.heap.size) A2 l2) (hl1 : l1.length ≤ 40000) (hl2 : l2.length ≤ 40000) :
    Calls Try.prog 18 #[.slice (some ⟨gc, 0, none⟩) 2 cc] w fun e w' => ∃ v, e = .returned v ∧ (Kd.int .u8).R 5 w' w.heap.size (fun _ => True) v (l1 ++ l2) ∧ Below w.heap.size w w' := by
  have hgc := lt_of_heap hcell
  obtain ⟨k0, k1⟩ := two_cells hcell
  have HC := Aside0.mk hcell
  have H1 := Aside0.mk h1
  have H2 := Aside0.mk h2
  have HGC := Aside0.mk hgc
  clear hcell h1 h2 hgc
  go_enter Try.func18, Try.ntmps18
  go_wp2_with fail
  go_loop [3, 11] (fun s i => (i = .int .i64 0 ∧ s = .int .i64 0) ∨ (i = .int .i64 1 ∧ s = .int .i64 l1.length) ∨ (i = .int .i64 2 ∧ s = .int .i64 (l1.length + l2.length : Nat))) (fun _ i => 2 - (intOf i).toNat)
  case atStart => exact .inl ⟨rfl, rfl⟩
  case round =>
    rcases hrel with ⟨rfl, rfl⟩ | ⟨rfl, rfl⟩ | ⟨rfl, rfl⟩
    · go_wp2_with fail
      exact ⟨.inr (.inl ⟨rfl, rfl⟩), by simp [intOf]⟩
    · go_wp2_with fail
      exact ⟨.inr (.inr ⟨rfl, by simp⟩), by simp [intOf]⟩
    · go_wp2_with fail
      refine (grow_nil (l1.length + l2.length) (by omega) w).mono ?_
      rintro e w2 ⟨v0, rfl, hR, hB⟩
      have HB2 := Aside0.mk hB
      have HC2 := Aside0.mk (vkeepB HC.out hB)
      have H12 := Aside0.mk (H1.out.below hB)
      have H22 := Aside0.mk (H2.out.below hB)
      have HO2 := Aside0.mk hR
      clear hB hR HC H1 H2 k0 k1
      go_wp2_with fail
      go_loopw [6, 27] (fun v i wr => ∃ (k : Nat) (xs : List Int), k ≤ 2 ∧ i = .int .i64 k ∧ Aside0 (xs = if k = 0 then [] else if k = 1 then l1 else l1 ++ l2) ∧ Aside0 ((Kd.int .u8).R 5 wr w.heap.size (fun _ => True) v xs) ∧ Aside0 (wr.heap[gc]? = some (.cells #[.slice A1 l1.length c1, .slice A2 l2.length c2] 22 (0, 0))) ∧ Aside0 (HeldB wr (fun k => k < w.heap.size) A1 l1) ∧ Aside0 (HeldB wr (fun k => k < w.heap.size) A2 l2) ∧ Below w.heap.size w wr) (fun _ i _ => 2 - (intOf i).toNat)
      case atStart => exact ⟨0, [], by omega, rfl, ⟨rfl⟩, ⟨HO2.out⟩, ⟨HC2.out⟩, ⟨H12.out⟩, ⟨H22.out⟩, HB2.out⟩
      case round =>
        clear HO2 HC2 H12 H22 HB2
        obtain ⟨k, xs, hk, rfl, HX, HO, HC, H1, H2, hBr⟩ := hrel
        have HBR := Aside0.mk hBr
        clear hBr
        obtain ⟨k0, k1⟩ := two_cells HC.out
        have hk3 : k = 0 ∨ k = 1 ∨ k = 2 := by omega
        clear hk
        obtain ⟨Ab, cb, rfl, hcb, _⟩ := own_C HO.out
        rcases hk3 with rfl | rfl | rfl
        · have hx : xs = [] := HX.out
          subst hx
          go_wp2_with (at_builtin; refine print_append_row (w0 := w) w.heap.size rfl (.tmp 31) (.tmp 32) 22 5 .u8 1 rfl Try.underlying22 info_b8 (by decide) (.slice Ab 0 cb) ([] : List Int) l1 A1 l1.length c1 rfl rfl (kd_own HO.out) (Kd.reads_of_C (d := (0 : Int)) (H1.out.C (by omega))) HBR.out HBR.out.size (by simp; omega) ?_; intro v3 w3 ho3 hB3 hG3 _)
          have HK : Aside0 (∀ k, k < w.heap.size → w3.heap[k]? = wr.heap[k]?) := ⟨fun k hk => by rw [hB3.block k hk, HBR.out.block k hk]⟩
          have HC3 : Aside0 (w3.heap[gc]? = some (.cells #[.slice A1 l1.length c1, .slice A2 l2.length c2] 22 (0, 0))) := ⟨by rw [HK.out gc HGC.out]; exact HC.out⟩
          have H13 := Aside0.mk (H1.out.keep fun k _ hs => HK.out k hs)
          have H23 := Aside0.mk (H2.out.keep fun k _ hs => HK.out k hs)
          have HO3 := Aside0.mk (kd_R ho3)
          have HB3 := Aside0.mk hB3
          clear ho3 hB3 hG3 HO HC H1 H2 HBR k0 k1
          go_wp2_with fail
          exact ⟨⟨1, _, by omega, rfl, ⟨by simp⟩, ⟨HO3.out⟩, ⟨HC3.out⟩, ⟨H13.out⟩, ⟨H23.out⟩, HB3.out⟩, by simp [intOf]⟩
        · have hx : xs = l1 := HX.out
          subst hx
          go_wp2_with (at_builtin; refine print_append_row (w0 := w) w.heap.size rfl (.tmp 31) (.tmp 32) 22 5 .u8 1 rfl Try.underlying22 info_b8 (by decide) (.slice Ab xs.length cb) xs l2 A2 l2.length c2 rfl rfl (kd_own HO.out) (Kd.reads_of_C (d := (0 : Int)) (H2.out.C (by omega))) HBR.out HBR.out.size (by simp; omega) ?_; intro v3 w3 ho3 hB3 hG3 _)
          have HK : Aside0 (∀ k, k < w.heap.size → w3.heap[k]? = wr.heap[k]?) := ⟨fun k hk => by rw [hB3.block k hk, HBR.out.block k hk]⟩
          have HC3 : Aside0 (w3.heap[gc]? = some (.cells #[.slice A1 xs.length c1, .slice A2 l2.length c2] 22 (0, 0))) := ⟨by rw [HK.out gc HGC.out]; exact HC.out⟩
          have H13 := Aside0.mk (H1.out.keep fun k _ hs => HK.out k hs)
          have H23 := Aside0.mk (H2.out.keep fun k _ hs => HK.out k hs)
          have HO3 := Aside0.mk (kd_R ho3)
          have HB3 := Aside0.mk hB3
          clear ho3 hB3 hG3 HO HC H1 H2 HBR k0 k1
          go_wp2_with fail
          exact ⟨⟨2, _, by omega, rfl, ⟨by simp⟩, ⟨HO3.out⟩, ⟨HC3.out⟩, ⟨H13.out⟩, ⟨H23.out⟩, HB3.out⟩, by simp [intOf]⟩
        · have hx : xs = l1 ++ l2 := HX.out
          go_wp2_with fail
          go_ret
          exact ⟨_, rfl, by rw [← hx]; exact HO.out, HBR.out⟩
end Go.Proofs.Ytckjmbpagippkaa
