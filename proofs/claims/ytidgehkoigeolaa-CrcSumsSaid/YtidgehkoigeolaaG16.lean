-- Written by a program of this session (wip/tools/myprint.py), over the kit's print.
import Derived.Test.YtidgehkoigeolaaG0
import Derived.Test.YtidgehkoigeolaaG2
import Derived.Test.YtidgehkoigeolaaG3
import Derived.Test.YtidgehkoigeolaaG4
import Derived.Test.YtidgehkoigeolaaG7
import Derived.Test.YtidgehkoigeolaaG8
import Derived.Test.YtidgehkoigeolaaG10
import Derived.Test.YtidgehkoigeolaaG11
import Derived.Test.YtidgehkoigeolaaG13
import Derived.Test.YtidgehkoigeolaaG14
import Derived.Test.YtidgehkoigeolaaRefTable
import Derived.Test.YtidgehkoigeolaaHeld
import Derived.Deep.RegionWith
import Derived.Deep.CutRange
namespace Go.Proofs.Ytidgehkoigeolaa.G
open Go.RowKit Go.Proofs.YtidgehkoigeolaaW.PrintWords Go.Proofs.YtidgehkoigeolaaW.PrintLast Go.Proofs.YtidgehkoigeolaaW.PrintMore
attribute [local go_sem] max2_int min2_int max_two min_two max_three min_three max_four min_four   -- for this text's walks alone
set_option linter.unusedVariables false
set_option linter.unusedSimpArgs false

-- BY HAND
-- IMPORT YtidgehkoigeolaaRefTable
-- IMPORT YtidgehkoigeolaaHeld
-- LIB Derived.Deep.RegionWith
-- LIB Derived.Deep.CutRange
-- over: crc_Seal.f crc_Open.f crc_Sum.f crc_Add.f rosetteref01_Seal.f rosetteref01_Open.f rosetteref01_Sum.f rosetteref01_Add.f
open Go.Proofs.Ytidgehkoigeolaa.Pure
def rosettelaw01_CrcSums.f (a0 : Int) (l1 l2 : List Int) : Option Bool := if (0 ≤ a0 ∧ a0 < 4294967296) ∧ l1.length ≤ 140737488351232 ∧ u8s l1 ∧ l2.length ≤ 140737488351232 ∧ u8s l2 then some true else none
set_option maxRecDepth 100000 in
set_option maxHeartbeats 4000000 in
theorem rosettelaw01_CrcSums.calls (a0 : Int) (A1 : Option Addr) (c1 : Nat) (l1 : List Int) (A2 : Option Addr) (c2 : Nat) (l2 : List Int) (r : Bool) (w : World) (hr1 : Kd.C (Kd.int .u8) w A1 l1.length l1) (hc1 : l1.length ≤ c1) (hr2 : Kd.C (Kd.int .u8) w A2 l2.length l2) (hc2 : l2.length ≤ c2) (h : rosettelaw01_CrcSums.f a0 l1 l2 = some r) :
    Calls Try.prog 3 #[.int .u32 a0, .slice A1 l1.length c1, .slice A2 l2.length c2] w fun e w' => e = .returned (.bool r) ∧ Below w.heap.size w w' := by
  unfold rosettelaw01_CrcSums.f at h
  split at h
  · rename_i hcond
    obtain rfl : true = r := Option.some.inj h
    obtain ⟨X, hX⟩ : ∃ X, X = zof (CrcM.sealB (nats l1)) := ⟨_, rfl⟩
    have hXL : X.length = l1.length + 4 := by rw [hX, zof_length, CrcM.sealB_length, nats_length]
    obtain ⟨n0, rfl⟩ := Int.eq_ofNat_of_zero_le hcond.1.1
    have hn0 : n0 < 4294967296 := by omega
    have ESum := Aside0.mk (refsum_some hcond.2.2.1 hcond.2.1 (l1.length + 10) (Nat.le_refl _))
    have ESum' : Aside0 (crc_Sum.f l1 = some ((CrcM.sum (nats l1) : Nat) : Int)) := ⟨by unfold crc_Sum.f; have := add_some hcond.2.2.1 0 (by decide); rw [show ((0 : Nat) : Int) = 0 from rfl] at this; rw [this]; rfl⟩
    have EAdd := Aside0.mk (refadd_some hcond.2.2.1 hcond.2.1 (l1.length + 10) n0 hn0 (Nat.le_refl _))
    have EAdd' := Aside0.mk (add_some hcond.2.2.1 n0 hn0)
    have ESeal := Aside0.mk (refseal_some hcond.2.2.1 hcond.2.1 (l1.length + 10) (Nat.le_refl _))
    have ESeal' := Aside0.mk (seal_some hcond.2.2.1 hcond.2.1)
    rw [← hX] at ESeal ESeal'
    have EOpen := refopen_some hcond.2.2.2.2 hcond.2.2.2.1 (l2.length + 10) (Nat.le_refl _)
    have EOpen' := open_some' hcond.2.2.2.2 hcond.2.2.2.1
    obtain ⟨P, q, hO⟩ : ∃ P q, opened (CrcM.openB (nats l2)) = (P, q) := ⟨_, _, rfl⟩
    rw [hO] at EOpen EOpen'
    have EO := Aside0.mk EOpen
    have EO' := Aside0.mk EOpen'
    generalize CrcM.sum (nats l1) = u0 at ESum ESum'
    generalize CrcM.add n0 (nats l1) = u1 at EAdd EAdd'
    have HXL := Aside0.mk hXL
    clear hX hXL EOpen EOpen' hO
    have HC0 := Aside0.mk hcond
    have HR0 := Aside0.mk (HeldB.low hr1)
    have HQ0 := Aside0.mk (HeldB.low hr2)
    clear h hcond hr1 hr2
    go_enter Try.func3, Try.ntmps3
    go_wp2_with fail
    refine (rosettelaw01_small.calls true _ rfl).mono ?_
    rintro e w1 ⟨rfl, hB⟩
    have HB1 : Aside0 (Below w.heap.size w w1) := ⟨hB⟩
    have HR1 := Aside0.mk (HR0.out.below hB)
    have HQ1 := Aside0.mk (HQ0.out.below hB)
    clear hB HR0 HQ0
    by_cases hg1 : l1.length ≤ 1000
    · by_cases hg2 : l2.length ≤ 1000
      · have hmk := make_cap (P := Try.prog) 23 5 .u8 1 Try.underlying23 info_u8 (l1.length : Int) ((l1.length : Int) + 8) (by omega) (by omega) (by omega) (by omega) w1
        have hsz8 : (Try.prog.info? 5).map (·.size) = some 1 := by kernel_rfl
        go_wp2_with ((refine copy_made (w0 := w1) w1.heap.size rfl (.tmp 32) (.tmp 33) 23 23 5 .u8 rfl Try.underlying23 hsz8 w1.heap.size l1.length (l1.length + 8) (l1.length + 8) A1 c1 l1 rfl rfl rfl (heap_alloc_new w1 _) rfl (by omega) (by unfold maxLen; omega) ((HR1.out.below ((Below.refl _ _).alloc (Nat.le_refl _) _)).C (by omega)) ((Below.refl _ _).alloc (Nat.le_refl _) _) (Nat.le_refl _) ?_); intro w2 HO2 hB2; clear hmk)
        obtain ⟨As, ns, e0, hcs, _, hHs, hCs⟩ := held_own HO2.out
        simp only [Value.slice.injEq] at e0
        obtain ⟨rfl, _, rfl⟩ := e0
        have HB2 : Aside0 (Below w.heap.size w w2) := ⟨HB1.out.trans (hB2.mono HB1.out.size)⟩
        have HR2 := Aside0.mk (HR1.out.below hB2)
        have HQ2 := Aside0.mk (HQ1.out.below hB2)
        have HS2 := Aside0.mk hHs
        clear hB2 HB1 HR1 HQ1 hHs hCs HO2
        refine (crc_Seal.calls _ _ l1 X _ (HS2.out.C (by omega)) hcs ESeal'.out).mono ?_
        rintro e w3 ⟨v, rfl, hR, hB⟩
        obtain ⟨Ax, nx, rfl, hcx, hmx, hH, _⟩ := held_own hR
        have HB3 : Aside0 (Below w.heap.size w w3) := ⟨HB2.out.trans (hB.mono HB2.out.size)⟩
        have HR3 := Aside0.mk (HR2.out.below hB)
        have HQ3 := Aside0.mk (HQ2.out.below hB)
        have HS3 := Aside0.mk (HS2.out.below hB)
        have HX3 := Aside0.mk hH
        have HXR3 := Aside0.mk (Kd.R_mono (ok' := fun k => w2.heap.size ≤ k ∧ k < w3.heap.size) (Kd.R_bound hR) (fun k hk => ⟨hk.2.1, hk.2.2.1⟩))
        have HG3 := Aside0.mk (show w.heap.size ≤ w2.heap.size ∧ w2.heap.size ≤ w3.heap.size from ⟨HB2.out.size, hB.size⟩)
        clear hR hB hH HB2 HR2 HQ2 HS2
        have HL := Aside0.mk (show X.length ≤ 9223372036854775807 from by omega)
        have S5 : Aside0 (∀ W : World, Below w3.heap.size w3 W → (∀ c : Nat, (convert 23 9 (.slice Ax X.length c)).run Try.prog W = .ok (.string (strOfNums X)) W)) := ⟨fun W hW => fun c => strA ((HX3.out.below hW).C HL.out) c⟩
        go_upto_region 7 with fail
        go_cut [10] from 37 to 42 (fun s wx => s = .bool true ∧ Below w3.heap.size w3 wx)
        case first =>
          have k1 := S5.out w3.drew (below_drew (Below.refl _ _))
          go_region_with ((go_at_call 11; refine Calls.mono (rosetteref01_Seal.calls (l1.length + 10) A1 c1 l1 X _ ((HR3.out.below (by first | assumption | exact below_drew (Below.refl _ _))).C (by omega)) hc1 ESeal.out) ?_; rintro e w6 ⟨v, rfl, hR, hB⟩; obtain ⟨Ar, nr, rfl, _, _, hH, _⟩ := held_own hR; have hb6 := below_via hB (by first | assumption | exact below_drew (Below.refl _ _)); have hc6 := strA (hH.C (by omega)) nr; clear k1; have k1 := S5.out _ hb6; clear hR hB hH))
          all_goals (go_wp2_with fail; go_meet; exact ⟨rfl, by assumption⟩)
        case rest =>
          obtain ⟨rfl, hBc⟩ := hcut
          have HB6 : Aside0 (Below w.heap.size w wc) := ⟨HB3.out.trans (hBc.mono HB3.out.size)⟩
          have HR6 := Aside0.mk (HR3.out.below hBc)
          have HQ6 := Aside0.mk (HQ3.out.below hBc)
          have HS6 := Aside0.mk (HS3.out.below hBc)
          have HXR6 := Aside0.mk (Kd.R_below HXR3.out hBc)
          clear HX3 HXR3 HR3 HQ3 HS3 HB3 S5 hBc
          go_wp2_with fail
          go_loopw [11] (fun i wr => ∃ (k : Nat) (xs : List Int), k ≤ X.length ∧ i = .int .i64 k ∧ Aside0 (xs.length = X.length) ∧ Aside0 ((Kd.int .u8).R 5 wr w2.heap.size (fun k => w2.heap.size ≤ k ∧ k < w3.heap.size) (.slice Ax X.length nx) xs) ∧ Aside0 (HeldB wr (fun k => k < w.heap.size) A1 l1) ∧ Aside0 (HeldB wr (fun k => k < w.heap.size) A2 l2) ∧ Aside0 (HeldB wr (fun k => w1.heap.size ≤ k ∧ k < w2.heap.size) (some ⟨w1.heap.size, 0, none⟩) l1) ∧ Below w.heap.size w wr) (fun i _ => X.length - (intOf i).toNat)
          case atStart => exact ⟨0, X, Nat.zero_le _, rfl, ⟨rfl⟩, ⟨HXR6.out⟩, ⟨HR6.out⟩, ⟨HQ6.out⟩, ⟨HS6.out⟩, HB6.out⟩
          case round =>
            clear HXR6 HR6 HQ6 HS6 HB6
            obtain ⟨k, xs, hk, rfl, HXL, HXR, HR, HQ, HS, hBr⟩ := hrel
            have HBR := Aside0.mk hBr
            clear hBr
            by_cases hlt : k < X.length
            · obtain ⟨gi, rfl, hgi⟩ : ∃ gi, Ax = some ⟨gi, 0, none⟩ ∧ w2.heap.size ≤ gi ∧ gi < w3.heap.size := by
                obtain ⟨_, ho⟩ := kd_own HXR.out
                have hx := HXL.out
                rcases ho with ⟨h1, h2⟩ | ⟨g, cap, cur, h1, h2, h3, h4, h5, h6, h7⟩
                · omega
                · simp only [Value.slice.injEq] at h1
                  obtain ⟨rfl, _, rfl⟩ := h1
                  exact ⟨g, rfl, HXR.out.1 g rfl⟩
              have hx := HXL.out
              have HI' := HXR.out
              rw [← hx] at HI'
              obtain ⟨hd1, hf1⟩ := Kd.R_cell (d := (0 : Int)) HI' (k : Int) (by omega) (by omega)
              obtain ⟨hI2, hG2⟩ := Kd.R_put HI' (k : Int) (7 : Int)
              rw [hx] at hI2
              rw [Int.toNat_natCast] at hd1 hf1 hI2 hG2
              have HI2 := Aside0.mk hI2
              have HG2 := Aside0.mk hG2
              have HGI := Aside0.mk hgi
              clear hx HI' hI2 hG2 hgi
              go_wp2_with fail
              have hg := HG3.out
              have hgi := HGI.out
              exact ⟨⟨k + 1, _, by omega, by simp, ⟨by rw [List.length_set]; exact HXL.out⟩, ⟨HI2.out⟩, ⟨HR.out.grown HG2.out (by omega)⟩, ⟨HQ.out.grown HG2.out (by omega)⟩, ⟨HS.out.grown HG2.out (by omega)⟩, below_of_grown HBR.out HG2.out (by omega)⟩, by simp [intOf]; omega⟩
            · obtain rfl : k = X.length := by omega
              go_wp2_with fail
              refine (crc_Open.calls _ _ l2 P q _ (HQ.out.C (by omega)) hc2 EO'.out).mono ?_
              rintro e w4 ⟨v4, rfl, hR, hB⟩
              obtain ⟨Ay, ny, rfl, hcy, hmy, hH, _⟩ := held_own hR
              have HB4 : Aside0 (Below w.heap.size w w4) := ⟨HBR.out.trans (hB.mono HBR.out.size)⟩
              have HR4 := Aside0.mk (HR.out.below hB)
              have HQ4 := Aside0.mk (HQ.out.below hB)
              have HS4 := Aside0.mk (HS.out.below hB)
              have HY4 := Aside0.mk hH
              clear hR hB hH HBR HR HQ HS HXR HXL
              go_wp2_with fail
              refine (rosetteref01_Open.calls _ _ _ l2 P q _ (HQ4.out.C (by omega)) hc2 EO.out).mono ?_
              rintro e w5 ⟨v5, rfl, hR, hB⟩
              obtain ⟨Az, nz, rfl, hcz, hmz, hH, _⟩ := held_own hR
              have HB5 : Aside0 (Below w.heap.size w w5) := ⟨HB4.out.trans (hB.mono HB4.out.size)⟩
              have HR5 := Aside0.mk (HR4.out.below hB)
              have HS5 := Aside0.mk (HS4.out.below hB)
              have HY5 := Aside0.mk (HY4.out.below hB)
              have HZ5 := Aside0.mk hH
              clear hR hB hH HB4 HR4 HQ4 HS4 HY4
              have k1 := fun c => strA (HS5.out.C (by omega)) c
              have k2 := fun c => strA (HR5.out.C (by omega)) c
              have het := eql_tab (T 256)
              go_wp2_with (first | (go_at_call 14; refine (table_any _).mono ?_; rintro e w6 ⟨rfl, hB⟩; have HB6 := Aside0.mk hB; clear hB) | (go_at_call 15; refine (reftable_any _).mono ?_; rintro e w7 ⟨rfl, hB⟩; have HB7 : Aside0 (Below w5.heap.size w5 w7) := ⟨below_via hB HB6.out⟩; clear hB) | (go_at_call 16; refine (crc_Sum.calls A1 c1 l1 _ _ ((HR5.out.below HB7.out).C (by omega)) hc1 ESum'.out).mono ?_; rintro e w8 ⟨rfl, hB⟩; have HB8 : Aside0 (Below w5.heap.size w5 w8) := ⟨below_via hB HB7.out⟩; clear hB) | (go_at_call 17; refine (rosetteref01_Sum.calls _ A1 c1 l1 _ _ ((HR5.out.below HB8.out).C (by omega)) hc1 ESum.out).mono ?_; rintro e w9 ⟨rfl, hB⟩; have HB9 : Aside0 (Below w5.heap.size w5 w9) := ⟨below_via hB.below HB8.out⟩; clear hB) | (go_at_call 18; refine (crc_Add.calls _ A1 c1 l1 _ _ ((HR5.out.below HB9.out).C (by omega)) hc1 EAdd'.out).mono ?_; rintro e w10 ⟨rfl, hB⟩; have HB10 : Aside0 (Below w5.heap.size w5 w10) := ⟨below_via hB HB9.out⟩; clear hB) | (go_at_call 19; refine (rosetteref01_Add.calls _ _ A1 c1 l1 _ _ ((HR5.out.below HB10.out).C (by omega)) hc1 EAdd.out).mono ?_; rintro e w11 ⟨rfl, hB⟩; have HB11 : Aside0 (Below w5.heap.size w5 w11) := ⟨below_via hB.below HB10.out⟩; clear hB; have k3 := fun c => strA ((HY5.out.below HB11.out).C (by omega)) c; have k4 := fun c => strA ((HZ5.out.below HB11.out).C (by omega)) c))
              go_ret
              exact ⟨rfl, below_via HB11.out HB5.out⟩
      · go_wp2
        go_ret
        exact ⟨rfl, HB1.out⟩
    · go_wp2
      go_ret
      exact ⟨rfl, HB1.out⟩
  · cases h

/-- THE ONE PURE STATEMENT of rosettelaw01_CrcSums: yours. -/
def rosettelaw01_CrcSums.Pure : Prop := ∀ (a0 : Int) (l1 : List Int) (l2 : List Int), (Lit.int .u32 a0).wf = true → l1.length ≤ maxLen → l1.length * 1 ≤ 140737488351232 → (∀ x ∈ l1, (Lit.int .u8 x).wf = true) → l2.length ≤ maxLen → l2.length * 1 ≤ 140737488351232 → (∀ x ∈ l2, (Lit.int .u8 x).wf = true) → rosettelaw01_CrcSums.f a0 l1 l2 = some true
theorem rosettelaw01_CrcSums.walk (P : rosettelaw01_CrcSums.Pure) (a0 : Int) (a1 : Option Addr) (len1 cap1 : Nat) (z1 : List Int) (a2 : Option Addr) (len2 cap2 : Nat) (z2 : List Int) (w : World) (w0 : (Lit.int .u32 a0).wf = true) (w1 : (a1 = none ∧ len1 = 0 ∧ cap1 = 0 ∧ z1 = []) ∨ ∃ x, a1 = some x ∧ len1 ≤ cap1 ∧ cap1 ≤ maxLen ∧ z1.length = cap1 ∧ (∀ i, i < z1.length → w.cell? (x.add i) = some (.int .u8 (z1.getD i 0))) ∧ ∀ n ∈ z1, (Lit.int .u8 n).wf = true) (y1 : len1 * 1 ≤ 140737488351232) (w2 : (a2 = none ∧ len2 = 0 ∧ cap2 = 0 ∧ z2 = []) ∨ ∃ x, a2 = some x ∧ len2 ≤ cap2 ∧ cap2 ≤ maxLen ∧ z2.length = cap2 ∧ (∀ i, i < z2.length → w.cell? (x.add i) = some (.int .u8 (z2.getD i 0))) ∧ ∀ n ∈ z2, (Lit.int .u8 n).wf = true) (y2 : len2 * 1 ≤ 140737488351232) :
    Calls Try.prog 3 #[.int .u32 a0, .slice a1 len1 cap1, .slice a2 len2 cap2] w fun e w' => e = .returned (.bool true) ∧ Below w.heap.size w w' := by
  obtain ⟨l1, rfl, hr1, hm1, hw1, hc1⟩ := ReadsInt.ofRowC w1
  obtain ⟨l2, rfl, hr2, hm2, hw2, hc2⟩ := ReadsInt.ofRowC w2
  have h := P a0 l1 l2 w0 hm1 y1 hw1 hm2 y2 hw2
  refine (rosettelaw01_CrcSums.calls a0 _ _ l1 _ _ l2 true w (Kd.C_of_reads (d := (0 : Int)) (h1 := fun _ => rfl) hr1) hc1 (Kd.C_of_reads (d := (0 : Int)) (h1 := fun _ => rfl) hr2) hc2 h).mono ?_
  rintro e w' ⟨rfl, hd⟩
  exact ⟨rfl, hd⟩

end Go.Proofs.Ytidgehkoigeolaa.G
