import Derived.Test.YtkbpkoiihgkkiaaWireFailsW
set_option linter.unusedVariables false
set_option linter.unusedSimpArgs false
set_option autoImplicit false
namespace Go.Proofs.Ytkbpkoiihgkkiaa
open Go.RowKit Go.Proofs.YtkbpkoiihgkkiaaW.PrintWords Go.Proofs.YtkbpkoiihgkkiaaW.PrintLast Go.Proofs.YtkbpkoiihgkkiaaW.PrintMore Go.Proofs.Ytkbpkoiihgkkiaa.G

theorem rendq {S : Nat → Prop} {w : World} {g : Nat} {s : Sc} (h : Scn 35 S w g s) (n : Nat) :
    Calls Try.prog 29 #[.pointer (some ⟨g, 0, none⟩)] (w.drewN n) fun r w' => r = .returned (.int .i64 s.endE) ∧ ∃ m, w' = w.drewN m := (rend (h.drewN n)).mono fun _ _ ⟨a, b⟩ => ⟨a, n, b.symm⟩
theorem ofScn {T : Nat} {S : Nat → Prop} {w : World} {g : Nat} {s : Sc} (h : Scn T S w g s) : s.l.length ≤ 9223372036854775807 := by have := h.short; omega
set_option maxRecDepth 100000 in
set_option maxHeartbeats 6000000 in
theorem wireScans_any (A0 : Option Addr) (c0 : Nat) (l0 : List Int) (A2 : Option Addr) (n2 c2 : Nat) (D N : Nat → Int) (w : World) (hr0 : (Kd.int .u8).C w A0 l0.length l0) (hc0 : l0.length ≤ c0) (hcm : c0 ≤ 9223372036854775807) (hl0 : l0.length ≤ 140737488351232) (hu0 : u8s l0)
    (hp : Pairs w.heap.size w A2 n2 D N) (hn : ∀ i, i < n2 → -9223372036854775808 ≤ N i ∧ N i < 9223372036854775808) (hn2 : n2 ≤ 9223372036854775807) :
    Calls Try.prog 4 #[.slice A0 l0.length c0, .slice A2 n2 c2] w fun e w' => e = .returned (.bool true) ∧ Below w.heap.size w w' := by
  have HR0 := Aside0.mk (HeldB.low hr0)
  have HU := Aside0.mk hu0
  have HP0 := Aside0.mk hp
  have HN := Aside0.mk hn
  have HN2 := Aside0.mk hn2
  have HL0 := Aside0.mk hl0
  have HCM := Aside0.mk hcm
  clear hr0 hu0 hp hn hn2 hl0 hcm
  go_enter Try.func4, Try.ntmps4
  go_wp2_with fail
  refine (small_any _).mono ?_
  rintro e w1 ⟨rfl, hB⟩
  have HB1 : Aside0 (Below w.heap.size w w1) := ⟨hB⟩
  have HR1 := Aside0.mk (HR0.out.below hB)
  have HP1 := Aside0.mk (HP0.out.below hB (Nat.le_refl _))
  clear hB HR0 HP0
  go_wp2_with (at_builtin; refine print_append_row (w0 := w1) w1.heap.size rfl (.tmp 14) (.tmp 15) 22 5 .u8 1 rfl Try.underlying22 info_u8 (by decide) (.slice (some ⟨w1.heap.size, 0, none⟩) 0 0) [] l0 A0 l0.length c0 rfl rfl ⟨by simp [nums], .inr ⟨w1.heap.size, 0, #[], rfl, Nat.le_refl _, heap_alloc_new w1 _, by simp, by simp [maxLen], by simp, by simp [nums]⟩⟩ (Kd.reads_of_C (d := (0 : Int)) ((HR1.out.below ((Below.refl _ _).alloc (Nat.le_refl _) _)).C (by have := HL0.out; omega))) ((Below.refl _ _).alloc (Nat.le_refl _) _) (by simp) (by have := HL0.out; simp; omega) ?_; intro v2 w2 ho2 hB2 _ _; rw [List.nil_append] at ho2; obtain ⟨Ai, ci, rfl, hci, hCi⟩ := own_C (kd_R ho2); have HO2 := Aside0.mk ho2; have HB12 := Aside0.mk hB2; have HCI := Aside0.mk hCi; clear ho2 hB2 hCi)
  have HB2 : Aside0 (Below w.heap.size w w2) := ⟨HB1.out.trans (HB12.out.mono HB1.out.size)⟩
  have HR2 := Aside0.mk (HR1.out.below HB12.out)
  have HP2 := Aside0.mk (HP1.out.below HB12.out HB1.out.size)
  refine (won Ai ci l0 w2 HCI.out hci HU.out (by have := HL0.out; omega)).mono ?_
  rintro e w3 ⟨gs, rfl, hg, hS, hB⟩
  have HB3 : Aside0 (Below w.heap.size w w3) := ⟨HB2.out.trans (hB.mono HB2.out.size)⟩
  have HR3 := Aside0.mk (HR2.out.below hB)
  have HP3 := Aside0.mk (HP2.out.below hB HB2.out.size)
  have HS3 := Aside0.mk hS
  have HI3 : Aside0 ((Kd.int .u8).R 5 w3 w1.heap.size (fun k => w1.heap.size ≤ k ∧ k < w2.heap.size) (.slice Ai l0.length ci) l0) := ⟨Kd.R_below (Kd.R_mono (Kd.R_bound (kd_R HO2.out)) (fun k hk => ⟨hk.2.1, hk.2.2.1⟩)) hB⟩
  have HG := Aside0.mk (show w.heap.size ≤ w1.heap.size ∧ w1.heap.size ≤ w2.heap.size ∧ w2.heap.size ≤ gs from ⟨HB1.out.size, HB12.out.size, hg⟩)
  clear hg hS hB HB12 HB1 HR1 HP1 HO2 HCI HB2 HR2 HP2
  by_cases hg1 : l0.length ≤ 300
  · by_cases hg2 : n2 ≤ 60
    · go_wp2_with fail
      have HX3 : Aside0 (Scn 35 (fun k => k < w.heap.size) (w3.alloc (.cells #[.slice A0 l0.length c0, .int .i64 0] 35)) w3.heap.size ⟨l0, 0⟩) := ⟨⟨HU.out, fun h => absurd rfl h, (by have := HB3.out.size; omega), (by have := HL0.out; simp only; omega), (by simp), A0, c0, heap_alloc_new w3 _, hc0, HCM.out, HR3.out.below ((Below.refl _ _).alloc (Nat.le_refl _) _)⟩⟩
      have HB4 : Aside0 (Below w.heap.size w (w3.alloc (.cells #[.slice A0 l0.length c0, .int .i64 0] 35))) := ⟨HB3.out.alloc HB3.out.size _⟩
      have HP4 : Aside0 (Pairs w.heap.size (w3.alloc (.cells #[.slice A0 l0.length c0, .int .i64 0] 35)) A2 n2 D N) := ⟨HP3.out.below ((Below.refl _ _).alloc (Nat.le_refl _) _) HB3.out.size⟩
      have HS4 : Aside0 (Scn 55 (fun k => w2.heap.size ≤ k ∧ k < gs) (w3.alloc (.cells #[.slice A0 l0.length c0, .int .i64 0] 35)) gs ⟨l0, 0⟩) := ⟨HS3.out.below ((Below.refl _ _).alloc (Nat.le_refl _) _)⟩
      have HI4 : Aside0 ((Kd.int .u8).R 5 (w3.alloc (.cells #[.slice A0 l0.length c0, .int .i64 0] 35)) w1.heap.size (fun k => w1.heap.size ≤ k ∧ k < w2.heap.size) (.slice Ai l0.length ci) l0) := ⟨Kd.R_below HI3.out ((Below.refl _ _).alloc (Nat.le_refl _) _)⟩
      have HGX := Aside0.mk (show gs < w3.heap.size from HS3.out.lt)
      generalize w3.alloc (.cells #[.slice A0 l0.length c0, .int .i64 0] 35) = w4 at HX3 HB4 HP4 HS4 HI4 ⊢
      generalize w3.heap.size = gx at HX3 HGX ⊢
      clear HB3 HP3 HS3 HI3 HR3
      go_loopw [9] (fun i wr => ∃ (k : Nat) (xs : List Int), k ≤ l0.length ∧ i = .int .i64 k ∧ Aside0 (xs.length = l0.length) ∧ Aside0 ((Kd.int .u8).R 5 wr w1.heap.size (fun k => w1.heap.size ≤ k ∧ k < w2.heap.size) (.slice Ai l0.length ci) xs) ∧ Aside0 (Pairs w.heap.size wr A2 n2 D N) ∧ Aside0 (Scn 55 (fun k => w2.heap.size ≤ k ∧ k < gs) wr gs ⟨l0, 0⟩) ∧ Aside0 (Scn 35 (fun k => k < w.heap.size) wr gx ⟨l0, 0⟩) ∧ Below w.heap.size w wr) (fun i _ => l0.length - (intOf i).toNat)
      case atStart => exact ⟨0, l0, Nat.zero_le _, rfl, ⟨rfl⟩, ⟨HI4.out⟩, ⟨HP4.out⟩, ⟨HS4.out⟩, ⟨HX3.out⟩, HB4.out⟩
      case round =>
        clear HX3 HB4 HP4 HS4 HI4
        obtain ⟨k, xs, hk, rfl, HXL, HI, HP, HS, HX, hBr⟩ := hrel
        have HBR := Aside0.mk hBr
        clear hBr
        by_cases hlt : k < l0.length
        · obtain ⟨gi, rfl, hgi⟩ : ∃ gi, Ai = some ⟨gi, 0, none⟩ ∧ w1.heap.size ≤ gi ∧ gi < w2.heap.size := by
            obtain ⟨_, ho⟩ := kd_own HI.out
            have hx := HXL.out
            rcases ho with ⟨h1, h2⟩ | ⟨g, cap, cur, h1, h2, h3, h4, h5, h6, h7⟩
            · omega
            · simp only [Value.slice.injEq] at h1
              obtain ⟨rfl, _, rfl⟩ := h1
              exact ⟨g, rfl, HI.out.1 g rfl⟩
          have hx := HXL.out
          have HI' := HI.out
          rw [← hx] at HI'
          obtain ⟨hc1, hf1⟩ := Kd.R_cell (d := (0 : Int)) HI' (k : Int) (by omega) (by omega)
          obtain ⟨hI2, hG2⟩ := Kd.R_put HI' (k : Int) (7 : Int)
          rw [hx] at hI2
          rw [Int.toNat_natCast] at hc1 hf1 hI2 hG2
          have HI2 := Aside0.mk hI2
          have HG2 := Aside0.mk hG2
          have HGI := Aside0.mk hgi
          clear hx HI' hI2 hG2 hgi
          go_wp2_with fail
          have hg := HG.out
          have hgi := HGI.out
          have hgx := HGX.out
          have hsz := HBR.out.size
          exact ⟨⟨k + 1, _, by omega, by simp, ⟨by rw [List.length_set]; exact HXL.out⟩, ⟨HI2.out⟩, ⟨HP.out.grown HG2.out hsz (by omega)⟩, ⟨HS.out.grown HG2.out (by omega) (by omega)⟩, ⟨HX.out.grown HG2.out (by omega) (by omega)⟩, below_of_grown HBR.out HG2.out (by omega)⟩, by simp [intOf]; omega⟩
        · obtain rfl : k = l0.length := by omega
          go_wp2_with fail
          go_loopw [10] (fun i wr => ∃ (k : Nat) (s : Sc), k ≤ n2 ∧ i = .int .i64 k ∧ Aside0 (Pairs w.heap.size wr A2 n2 D N) ∧ Aside0 (Scn 55 (fun k => w2.heap.size ≤ k ∧ k < gs) wr gs s) ∧ Aside0 (Scn 35 (fun k => k < w.heap.size) wr gx s) ∧ Below w.heap.size w wr) (fun i _ => n2 - (intOf i).toNat)
          case atStart => exact ⟨0, _, Nat.zero_le _, rfl, ⟨HP.out⟩, ⟨HS.out⟩, ⟨HX.out⟩, HBR.out⟩
          case round =>
            clear HXL HI HP HS HX HBR
            obtain ⟨k, s, hk2, rfl, HP, HS, HX, hBr⟩ := hrel
            have HBR := Aside0.mk hBr
            clear hBr
            by_cases hlt2 : k < n2
            · obtain ⟨a, rfl, hal, hc1, hc2⟩ := HP.out k hlt2
              have HAL := Aside0.mk hal
              have HNK := Aside0.mk (HN.out k hlt2)
              have hc3 : wr.cell? ⟨(a.add (k * 2)).block, (a.add (k * 2)).off + 1, none⟩ = some (.int .i64 (N k)) := by rw [← add_pos _ 1 (by decide), add_add]; exact hc2
              clear hal hc2
              go_wp2_with (first | (go_at_call 16; refine (wnum HS.out).mono ?_; rintro e w5 ⟨rfl, hz, hG⟩; have hg := HG.out; have hbr := HBR.out; have hgx := HGX.out; have HB5 : Aside0 (Below w.heap.size w w5) := ⟨below_of_grown hbr hG (by omega)⟩; have HP5 := Aside0.mk (HP.out.grown hG hbr.size (by omega)); have HX5 := Aside0.mk (HX.out.grown hG (by omega) (by omega)); have HS5 := Aside0.mk hz; clear hz hG hg hbr hgx) | (go_at_call 17; refine (rnum HX5.out).mono ?_; rintro e w6 ⟨rfl, hz, hG⟩; have hg := HG.out; have hbr := HB5.out; have hgx := HGX.out; have HB6 : Aside0 (Below w.heap.size w w6) := ⟨below_of_grown hbr hG (by omega)⟩; have HP6 := Aside0.mk (HP5.out.grown hG hbr.size (by omega)); have HS6 := Aside0.mk (HS5.out.grown hG (by omega) (by omega)); have HX6 := Aside0.mk hz; clear hz hG hg hbr hgx) | (go_at_call 18; refine (wupto HS.out (N k) HNK.out).mono ?_; rintro e w5 ⟨rfl, hz, hG⟩; have hg := HG.out; have hbr := HBR.out; have hgx := HGX.out; have HB5 : Aside0 (Below w.heap.size w w5) := ⟨below_of_grown hbr hG (by omega)⟩; have HP5 := Aside0.mk (HP.out.grown hG hbr.size (by omega)); have HX5 := Aside0.mk (HX.out.grown hG (by omega) (by omega)); have HS5 := Aside0.mk hz; clear hz hG hg hbr hgx) | (go_at_call 19; refine (rupto HX5.out (N k) HNK.out).mono ?_; rintro e w6 ⟨rfl, hz, hG⟩; have hg := HG.out; have hbr := HB5.out; have hgx := HGX.out; have HB6 : Aside0 (Below w.heap.size w w6) := ⟨below_of_grown hbr hG (by omega)⟩; have HP6 := Aside0.mk (HP5.out.grown hG hbr.size (by omega)); have HS6 := Aside0.mk (HS5.out.grown hG (by omega) (by omega)); have HX6 := Aside0.mk hz; clear hz hG hg hbr hgx) | (go_at_call 20; refine (wint HS.out).mono ?_; rintro e w5 ⟨rfl, hz, hG⟩; have hg := HG.out; have hbr := HBR.out; have hgx := HGX.out; have HB5 : Aside0 (Below w.heap.size w w5) := ⟨below_of_grown hbr hG (by omega)⟩; have HP5 := Aside0.mk (HP.out.grown hG hbr.size (by omega)); have HX5 := Aside0.mk (HX.out.grown hG (by omega) (by omega)); have HS5 := Aside0.mk hz; clear hz hG hg hbr hgx) | (go_at_call 21; refine (rint HX5.out).mono ?_; rintro e w6 ⟨rfl, hz, hG⟩; have hg := HG.out; have hbr := HB5.out; have hgx := HGX.out; have HB6 : Aside0 (Below w.heap.size w w6) := ⟨below_of_grown hbr hG (by omega)⟩; have HP6 := Aside0.mk (HP5.out.grown hG hbr.size (by omega)); have HS6 := Aside0.mk (HS5.out.grown hG (by omega) (by omega)); have HX6 := Aside0.mk hz; clear hz hG hg hbr hgx) | (go_at_call 22; refine (wtext HS.out (N k) HNK.out).mono ?_; rintro e w5 ⟨rfl, hz, hG⟩; have hg := HG.out; have hbr := HBR.out; have hgx := HGX.out; have HB5 : Aside0 (Below w.heap.size w w5) := ⟨below_of_grown hbr hG (by omega)⟩; have HP5 := Aside0.mk (HP.out.grown hG hbr.size (by omega)); have HX5 := Aside0.mk (HX.out.grown hG (by omega) (by omega)); have HS5 := Aside0.mk hz; clear hz hG hg hbr hgx) | (go_at_call 23; refine (rtext HX5.out (N k) HNK.out).mono ?_; rintro e w6 ⟨rfl, hz, hG⟩; have hg := HG.out; have hbr := HB5.out; have hgx := HGX.out; have HB6 : Aside0 (Below w.heap.size w w6) := ⟨below_of_grown hbr hG (by omega)⟩; have HP6 := Aside0.mk (HP5.out.grown hG hbr.size (by omega)); have HS6 := Aside0.mk (HS5.out.grown hG (by omega) (by omega)); have HX6 := Aside0.mk hz; clear hz hG hg hbr hgx) | (go_at_call 24; refine (wfail HS.out (N k) HNK.out).mono ?_; rintro e w5 ⟨rfl, hz, hG⟩; have hg := HG.out; have hbr := HBR.out; have hgx := HGX.out; have HB5 : Aside0 (Below w.heap.size w w5) := ⟨below_of_grown hbr hG (by omega)⟩; have HP5 := Aside0.mk (HP.out.grown hG hbr.size (by omega)); have HX5 := Aside0.mk (HX.out.grown hG (by omega) (by omega)); have HS5 := Aside0.mk hz; clear hz hG hg hbr hgx) | (go_at_call 25; refine (rfail HX5.out (N k) HNK.out).mono ?_; rintro e w6 ⟨rfl, hz, hG⟩; have hg := HG.out; have hbr := HB5.out; have hgx := HGX.out; have HB6 : Aside0 (Below w.heap.size w w6) := ⟨below_of_grown hbr hG (by omega)⟩; have HP6 := Aside0.mk (HP5.out.grown hG hbr.size (by omega)); have HS6 := Aside0.mk (HS5.out.grown hG (by omega) (by omega)); have HX6 := Aside0.mk hz; clear hz hG hg hbr hgx))
              all_goals first
              | (obtain ⟨Ax, cx, hxb, _, _, hxh, e0, e1, _, _⟩ := HX6.out.cells
                 clear hxb hxh
                 go_quiet (first | (go_at_call 26; exact wleftq HS6.out _) | (go_at_call 27; exact werrq HS6.out _) | (go_at_call 28; exact wendq HS6.out _) | (go_at_call 29; exact rendq HX6.out _))
                 go_wp2
                 exact ⟨⟨k + 1, _, by omega, by simp, ⟨HP6.out.below (pw_below_drewN (Below.refl _ _) _) HB6.out.size⟩, ⟨HS6.out.drewN _⟩, ⟨HX6.out.drewN _⟩, pw_below_drewN HB6.out _⟩, by simp [intOf]; omega⟩)
              | (obtain ⟨Ax, cx, hxb, _, _, hxh, e0, e1, _, _⟩ := HX.out.cells
                 clear hxb hxh
                 go_quiet (first | (go_at_call 26; exact wleftq HS.out _) | (go_at_call 27; exact werrq HS.out _) | (go_at_call 28; exact wendq HS.out _) | (go_at_call 29; exact rendq HX.out _))
                 go_wp2
                 exact ⟨⟨k + 1, _, by omega, by simp, ⟨HP.out.below (pw_below_drewN (Below.refl _ _) _) HBR.out.size⟩, ⟨HS.out.drewN _⟩, ⟨HX.out.drewN _⟩, pw_below_drewN HBR.out _⟩, by simp [intOf]; omega⟩)
            · go_wp2
              go_ret
              exact ⟨rfl, HBR.out⟩
    · go_wp2
      go_ret
      exact ⟨rfl, HB3.out⟩
  · go_wp2
    go_ret
    exact ⟨rfl, HB3.out⟩
end Go.Proofs.Ytkbpkoiihgkkiaa
