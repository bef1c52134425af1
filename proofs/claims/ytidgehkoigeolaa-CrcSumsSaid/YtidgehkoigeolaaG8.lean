-- Written by a program of this session (wip/tools/myprint.py), over the kit's print.
import Derived.Test.YtidgehkoigeolaaG0
import Derived.Test.YtidgehkoigeolaaG2
import Derived.Test.YtidgehkoigeolaaG3
import Derived.Test.YtidgehkoigeolaaG4
import Derived.Test.YtidgehkoigeolaaG7
namespace Go.Proofs.Ytidgehkoigeolaa.G
open Go.RowKit Go.Proofs.YtidgehkoigeolaaW.PrintWords Go.Proofs.YtidgehkoigeolaaW.PrintLast Go.Proofs.YtidgehkoigeolaaW.PrintMore
attribute [local go_sem] max2_int min2_int max_two min_two max_three min_three max_four min_four   -- for this text's walks alone
set_option linter.unusedVariables false
set_option linter.unusedSimpArgs false

-- BY HAND
def rosettelaw01_small.f : Option Bool := some true
def abSealed : List Int := [97, 98, 109, 72, 131, 158]
theorem seal_ab : crc_Seal.f [97, 98] = some abSealed := by decide +kernel
theorem open_ab : crc_Open.f abSealed = some ([97, 98], true) := by decide +kernel
theorem open_123 : crc_Open.f [1, 2, 3] = some ([], false) := by decide +kernel
theorem sum_digits : crc_Sum.f [49, 50, 51, 52, 53, 54, 55, 56, 57] = some 3421780262 := by decide +kernel
theorem sum_nil : crc_Sum.f [] = some 0 := by decide +kernel
theorem T_1 : T 256 1 = 1996959894 := by decide +kernel
theorem T_255 : T 256 255 = 755167117 := by decide +kernel
theorem conv_bytes (W : World) (C : Array Value) (n c : Nat) : (convert 23 23 (.slice (some ⟨W.heap.size, 0, none⟩) n c)).run Try.prog (W.alloc (.cells C 5)) = .ok (.slice (some ⟨W.heap.size, 0, none⟩) n c) (W.alloc (.cells C 5 (C.size, C.size + 1))) := Lib.run_convert_bytes_const W 23 5 C n c Try.underlying23 Try.underlying5
set_option maxRecDepth 100000 in
set_option maxHeartbeats 1000000 in
theorem rosettelaw01_small.calls (r : Bool) (w : World) (h : rosettelaw01_small.f = some r) :
    Calls Try.prog 9 #[] w fun e w' => e = .returned (.bool r) ∧ Below w.heap.size w w' := by
  obtain rfl : true = r := Option.some.inj h
  have hz := zero28
  have hcv := conv_bytes
  go_enter Try.func9, Try.ntmps9
  go_upto_region 2 with (first | (go_at_call 14; refine (table_any _).mono ?_; rintro e w1 ⟨rfl, hB1⟩) | (with_reducible refine wpList_store_row rfl 28 _ _ rfl w1.heap.size (tabArr (T 256)) rfl rfl 28 (tabArr fun _ => 0) (heap_alloc_new w1 _) (by rw [tabArr_size]; exact size28) rfl (tabArr_one _) ?_) | (go_at_call 10; fail))
  have hb : ((w1.alloc (.cells (tabArr fun _ => 0) 28)).setRow w1.heap.size (tabArr (T 256))).heap[w1.heap.size]? = some (.cells (tabArr (T 256)) 28 (0, 0)) := setRow_heap _ _ _ _ _ _ (heap_alloc_new w1 _)
  have hB : Below w.heap.size w ((w1.alloc (.cells (tabArr fun _ => 0) 28)).setRow w1.heap.size (tabArr (T 256))) := (hB1.alloc hB1.size _).trans ⟨rfl, rfl, rfl, by simp, fun k hk => setRow_other _ _ _ _ (by have := hB1.size; omega)⟩
  have hsz : ((w1.alloc (.cells (tabArr fun _ => 0) 28)).setRow w1.heap.size (tabArr (T 256))).heap.size = w1.heap.size + 1 := by simp
  generalize hw2 : ((w1.alloc (.cells (tabArr fun _ => 0) 28)).setRow w1.heap.size (tabArr (T 256))) = w2 at hb hB hsz ⊢
  clear hw2 hz
  have c1 : w2.cell? ⟨w1.heap.size, 1, none⟩ = some (.int .u32 (T 256 1)) := by rw [cell_of_row _ _ _ _ _ _ hb, tabArr_get _ _ (by omega)]
  have c2 : w2.cell? ⟨w1.heap.size, 255, none⟩ = some (.int .u32 (T 256 255)) := by rw [cell_of_row _ _ _ _ _ _ hb, tabArr_get _ _ (by omega)]
  rw [T_1] at c1
  rw [T_255] at c2
  clear hb hB1
  have hlt : w1.heap.size < w2.heap.size := by omega
  clear hsz
  generalize w1.heap.size = g at c1 c2 hlt ⊢
  go_wp2_with fail
  refine (crc_Seal.calls _ _ [97, 98] abSealed _ (lit_C w2 5 .u8 [97, 98] (by decide) _) (Nat.le_refl _) seal_ab).mono ?_
  rintro e w3 ⟨v3, rfl, hR3, hB3⟩
  obtain ⟨A3, n3, rfl, hc3, hC3⟩ := own_C hR3
  have HB3 := (hB.alloc hB.size _).trans (hB3.mono (by have := hB.size; simp; omega))
  have K3 : Below w2.heap.size w2 w3 := ((Below.refl _ _).alloc (Nat.le_refl _) _).trans (hB3.mono (by simp))
  clear hB hB3 hR3
  go_wp2_with fail
  refine (crc_Open.calls _ _ abSealed [97, 98] true _ hC3 hc3 open_ab).mono ?_
  rintro e w4 ⟨v4, rfl, hR4, hB4⟩
  obtain ⟨A4, n4, rfl, hc4, hC4⟩ := own_C hR4
  have HB4 := HB3.trans (hB4.mono HB3.size)
  have K4 : Below w2.heap.size w2 w4 := K3.trans (hB4.mono K3.size)
  clear HB3 K3 hB4 hR4
  go_wp2_with fail
  refine (crc_Open.calls _ _ [1, 2, 3] [] false _ (lit_C w4 5 .u8 [1, 2, 3] (by decide)) (Nat.le_refl _) open_123).mono ?_
  rintro e w5 ⟨v5, rfl, hR5, hB5⟩
  have HB5 := (HB4.alloc HB4.size _).trans (hB5.mono (by have := HB4.size; simp; omega))
  have K5 : Below w2.heap.size w2 w5 := (K4.alloc K4.size _).trans (hB5.mono (by have := K4.size; simp; omega))
  have HC5 := Aside0.mk (Kd.C_below hC4 (((Below.refl _ _).alloc (Nat.le_refl _) _).trans (hB5.mono (by simp))))
  clear HB4 K4 hB5 hR5 hC4
  go_wp2_with fail
  refine (crc_Sum.calls _ _ [49, 50, 51, 52, 53, 54, 55, 56, 57] 3421780262 _ (lit_C w5 5 .u8 [49, 50, 51, 52, 53, 54, 55, 56, 57] (by decide) _) (Nat.le_refl _) sum_digits).mono ?_
  rintro e w6 ⟨rfl, hB6⟩
  have L5 : Below w5.heap.size w5 w6 := ((Below.refl _ _).alloc (Nat.le_refl _) _).trans (hB6.mono (by simp))
  have HB6 := HB5.trans (L5.mono HB5.size)
  have K6 : Below w2.heap.size w2 w6 := K5.trans (L5.mono K5.size)
  have HC6 := Aside0.mk (Kd.C_below HC5.out L5)
  clear HB5 K5 hB6 L5 HC5
  go_wp2_with fail
  refine (crc_Sum.calls _ _ [] 0 _ (nil_C w6 .u8) (Nat.le_refl _) sum_nil).mono ?_
  rintro e w7 ⟨rfl, hB7⟩
  have HB7 := HB6.trans (hB7.mono HB6.size)
  have K7 : Below w2.heap.size w2 w7 := K6.trans (hB7.mono K6.size)
  have HC7 := Kd.C_below HC6.out hB7
  have d1 : w7.cell? ⟨g, 1, none⟩ = some (.int .u32 1996959894) := (K7.cell (p := ⟨g, 1, none⟩) hlt).trans c1
  have d2 : w7.cell? ⟨g, 255, none⟩ = some (.int .u32 755167117) := (K7.cell (p := ⟨g, 255, none⟩) hlt).trans c2
  have hcs : (convert 23 9 (.slice A4 2 n4)).run Try.prog w7 = .ok (.string ⟨#[97, 98]⟩) w7 := Kd.C_string (P := Try.prog) (A := A4) (c := n4) Try.underlying23 Try.underlying5 Try.underlying9 HC7
  have hlen : abSealed.length = 6 := rfl
  clear HB6 K6 hB7 HC6 K7 HC7 c1 c2 hcv
  go_wp2
  go_ret
  exact ⟨rfl, HB7⟩

end Go.Proofs.Ytidgehkoigeolaa.G
