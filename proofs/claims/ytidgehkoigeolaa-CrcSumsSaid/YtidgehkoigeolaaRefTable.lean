/- The document's own table, walked. -/
import Derived.Test.YtidgehkoigeolaaCrcRef
import Derived.Test.YtidgehkoigeolaaG2
import Derived.Stop.BytesEq
set_option linter.unusedVariables false
set_option linter.unusedSimpArgs false
set_option autoImplicit false
namespace Go.Proofs.Ytidgehkoigeolaa
open Go.RowKit Go.Proofs.YtidgehkoigeolaaW.PrintWords Go.Proofs.YtidgehkoigeolaaW.PrintLast Go.Proofs.Ytidgehkoigeolaa.G
set_option maxRecDepth 100000 in
set_option maxHeartbeats 400000 in
theorem reftable_any (w : World) : Calls Try.prog 15 #[] w fun e w' => e = .returned (.agg (tabArr (T 256))) ∧ Below w.heap.size w w' := by
  have hz := zero28
  go_enter Try.func15, Try.ntmps15
  go_wp2_with fail
  clear hz
  have h0 : ((w.alloc (.cells (tabArr fun _ => 0) 28)).alloc (.cells (tabArr fun _ => 0) 28)).heap[w.heap.size]? = some (.cells (tabArr fun _ => 0) 28 (0, 0)) := by
    rw [((Below.refl _ _).alloc (Nat.le_refl (w.alloc (.cells (tabArr fun _ => 0) 28)).heap.size) _).block _ (by simp)]
    exact heap_alloc_new w _
  have h1 : ((w.alloc (.cells (tabArr fun _ => 0) 28)).alloc (.cells (tabArr fun _ => 0) 28)).heap[w.heap.size + 1]? = some (.cells (tabArr (T 0)) 28 (0, 0)) := by
    rw [T_zero, show w.heap.size + 1 = (w.alloc (.cells (tabArr fun _ => 0) 28)).heap.size by simp]
    exact heap_alloc_new _ _
  have hB : Below w.heap.size w ((w.alloc (.cells (tabArr fun _ => 0) 28)).alloc (.cells (tabArr fun _ => 0) 28)) := ((Below.refl _ _).alloc (Nat.le_refl _) _).alloc (by simp) _
  go_loopw [2] (fun i wr => ∃ k : Nat, k ≤ 256 ∧ i = .int .i64 k ∧ Aside0 (wr.heap[w.heap.size]? = some (.cells (tabArr fun _ => 0) 28 (0, 0))) ∧ wr.heap[w.heap.size + 1]? = some (.cells (tabArr (T k)) 28 (0, 0)) ∧ Below w.heap.size w wr) (fun i _ => 256 - (intOf i).toNat)
  case atStart => exact ⟨0, by omega, rfl, ⟨h0⟩, h1, hB⟩
  case round =>
    clear h0 h1 hB
    obtain ⟨k, hk, rfl, H0, hb, hB⟩ := hrel
    by_cases hlt : k < 256
    · have HT := Aside0.mk (Pure.turned_some 9 k (by omega) (by omega))
      have HB := Aside0.mk hB
      have Hb := Aside0.mk hb
      clear hB hb
      go_wp2_with fail
      refine (rosetteref01_turned.calls 9 k _ _ HT.out).mono ?_
      rintro e w2 ⟨rfl, hD⟩
      have hB2 := hD.below
      have hsz : w.heap.size + 1 < wr.heap.size := (Array.getElem?_eq_some_iff.1 Hb.out).1
      have hb2 : w2.heap[w.heap.size + 1]? = some (.cells (tabArr (T k)) 28 (0, 0)) := by rw [hB2.block _ hsz]; exact Hb.out
      have H02 : Aside0 (w2.heap[w.heap.size]? = some (.cells (tabArr fun _ => 0) 28 (0, 0))) := ⟨by rw [hB2.block _ (by omega)]; exact H0.out⟩
      have HB2 : Aside0 (Below w.heap.size w w2) := ⟨HB.out.trans (hB2.mono HB.out.size)⟩
      have hc : w2.cell? ⟨w.heap.size + 1, k, none⟩ = some (.int .u32 (T k k)) := by rw [cell_of_row w2 _ _ _ _ _ hb2, tabArr_get _ _ hlt]
      have hf : w2.frozen? ⟨w.heap.size + 1, k, none⟩ = false := frozen_of_row w2 _ _ _ _ hb2
      have Hb2 := Aside0.mk hb2
      clear hb2 hB2 hD hsz H0 Hb HB
      go_wp2_with fail
      exact ⟨⟨k + 1, by omega, by simp, ⟨by rw [heap_setCell_other _ _ _ _ (by simp)]; exact H02.out⟩, by rw [heap_setCell_same _ _ _ _ _ _ Hb2.out, tabArr_set, T_succ], HB2.out.setCell (Nat.le_succ _) _⟩, by simp [intOf]; omega⟩
    · obtain rfl : k = 256 := by omega
      have hsr := setRow_heap wr w.heap.size _ (tabArr (T 256)) _ _ H0.out
      go_wp2_with (first | (with_reducible refine wpList_load_row rfl 28 _ rfl (w.heap.size + 1) rfl 28 (tabArr (T 256)) (0, 0) _ hb Try.underlying28 rfl (by rw [tabArr_size]; exact size28) ?_) | (with_reducible refine wpList_store_row rfl 28 _ _ rfl w.heap.size (tabArr (T 256)) rfl rfl 28 (tabArr fun _ => 0) H0.out (by rw [tabArr_size]; exact size28) rfl (tabArr_one _) ?_))
      refine bodyPost_ret (results_cell_row (P := Try.prog) (ty := 28) (p := 0) rfl _ _ w.heap.size 28 (tabArr (T 256)) (0, 0) _ rfl hsr Try.underlying28 rfl (by rw [tabArr_size]; exact size28)) rfl ⟨rfl, hB.trans ⟨rfl, rfl, rfl, by simp, fun k hk => setRow_other _ _ _ _ (by omega)⟩⟩
/-- a table is the same as itself -/
theorem eql_tab (f : Nat → Int) (w : World) : (binOp .eql 28 (.agg (tabArr f)) (.agg (tabArr f))).run Try.prog w = .ok (.bool true) w := by
  have hsz : ∀ w, (sizeOf 22).run Try.prog w = .ok 1 w := fun w => by kernel_rfl
  have he : (Op.equalIn 10000 28 (.agg (tabArr f)) (.agg (tabArr f))).run Try.prog w = .ok true w := by
    rw [Op.equalIn]
    simp only [Sem.run_bind, run_underlying Try.underlying28, Result.andThen_ok, hsz, Std.Legacy.Range.forIn_eq_forIn_range', Std.Legacy.Range.size, Nat.sub_zero, Nat.add_sub_cancel, Nat.div_one]
    have hl : ∀ i ∈ List.range' 0 256 1, i < 256 := fun i hi => by simpa using (List.mem_range'_1.1 hi).2
    generalize List.range' 0 256 1 = l at hl ⊢
    induction l with
    | nil => simp
    | cons i l ih =>
      have hi : i < 256 := hl i (by simp)
      have px : (part 22 (tabArr f) (i * 1)).run Try.prog w = .ok (.int .u32 (f i)) w := by
        simp [part, isAgg, run_underlying Try.underlying22, tabArr_get f i hi]
      have pe : (Op.equalIn 9999 22 (.int .u32 (f i)) (.int .u32 (f i))).run Try.prog w = .ok true w := by
        rw [run_equalIn_int w 9998 22 .u32 .u32 _ _ Try.underlying22]
        simp
      simp only [List.forIn_cons, Sem.run_bind, px, pe, Result.andThen_ok, Bool.not_true, Bool.false_eq_true, if_false, Sem.run_pure]
      exact ih fun j hj => hl j (by simp [hj])
  rw [run_eql_struct, he]
  rfl
end Go.Proofs.Ytidgehkoigeolaa
