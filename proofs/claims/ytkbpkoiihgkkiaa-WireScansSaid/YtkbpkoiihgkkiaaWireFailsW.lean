import Derived.Test.YtkbpkoiihgkkiaaSmall02
import Derived.Test.YtkbpkoiihgkkiaaWirePure
import Derived.Deep.SlicePairs
import Derived.OpenShut
set_option linter.unusedVariables false
set_option linter.unusedSimpArgs false
set_option autoImplicit false
namespace Go.Proofs.Ytkbpkoiihgkkiaa
open Go.RowKit Go.Proofs.YtkbpkoiihgkkiaaW.PrintWords Go.Proofs.YtkbpkoiihgkkiaaW.PrintLast Go.Proofs.YtkbpkoiihgkkiaaW.PrintMore Go.Proofs.Ytkbpkoiihgkkiaa.G

/-- a row of calls, as it came in -/
def Pairs (B : Nat) (w : World) (A : Option Addr) (n : Nat) (D N : Nat → Int) : Prop :=
  ∀ i, i < n → ∃ a, A = some a ∧ a.block < B ∧ w.cell? (a.add (i * 2)) = some (.int .i64 (D i)) ∧ w.cell? (a.add (i * 2 + 1)) = some (.int .i64 (N i))
theorem Pairs.keep {w w' : World} {A : Option Addr} {n : Nat} {D N : Nat → Int} {B : Nat} (h : Pairs B w A n D N) (hb : ∀ k, k < B → w'.heap[k]? = w.heap[k]?) : Pairs B w' A n D N := by
  intro i hi
  obtain ⟨a, h1, h2, h3, h4⟩ := h i hi
  refine ⟨a, h1, h2, ?_, ?_⟩
  · rw [World.cell?_of_block (w := w) (by rw [add_block]; exact hb _ h2)]; exact h3
  · rw [World.cell?_of_block (w := w) (by rw [add_block]; exact hb _ h2)]; exact h4
theorem Pairs.below {w w' : World} {A : Option Addr} {n : Nat} {D N : Nat → Int} {B : Nat} (h : Pairs B w A n D N) (hb : Below w.heap.size w w') (hB : B ≤ w.heap.size) : Pairs B w' A n D N := h.keep fun k hk => hb.block k (by omega)
theorem Pairs.grown {w w' : World} {A : Option Addr} {n : Nat} {D N : Nat → Int} {B g : Nat} (h : Pairs B w A n D N) (hb : w.grownBy w' (some g)) (hB : B ≤ w.heap.size) (hg : B ≤ g) : Pairs B w' A n D N := h.keep fun k hk => hb.block k (by omega) (fun e => by cases e; omega)
theorem pairs_of {H : Type} {enc : TypeId × Value → H} {P : Program} {W : World} {base : Nat} {held : Bool} {t e : TypeId} {f0 f1 : Field} {A : Option Addr} {len cap : Nat} {d : DataW H} {pl : List MemPlace} (ht : P.underlying t = some (.slice e)) (he : P.underlying e = some (.struct #[f0, f1]))
    (ce : P.cellsOf e = 2) (o0 : f0.offset = 0) (o1 : f1.offset = 1) (c0 : P.cellsOf f0.type = 1) (c1 : P.cellsOf f1.type = 1) (t0 : P.underlying f0.type = some (.int .i64)) (t1 : P.underlying f1.type = some (.int .i64))
    (h : ∃ fuel, DataW.trod enc P W base (fun _ => true) held fuel t (Value.slice A len cap).cells.toList = some (d, pl)) :
    ∃ D N : Nat → Int, Pairs W.heap.size W A len D N ∧ len ≤ maxLen ∧ ∀ i, i < len → (Lit.int .i64 (D i)).wf = true ∧ (Lit.int .i64 (N i)).wf = true := by
  obtain ⟨fuel, hf⟩ := h
  rcases Go.Deep.open_slice_pairs ht he ce o0 o1 c0 c1 hf with ⟨hcs, _⟩ | ⟨a, len', cap', m, n, V0, V1, D0, D1, P0, P1, hcs, _, hl, hm, hmm, _, hall⟩
  · simp [Value.cells] at hcs
    obtain ⟨rfl, rfl, rfl⟩ := hcs
    exact ⟨fun _ => 0, fun _ => 0, fun i hi => by omega, by simp [maxLen], fun i hi => by omega⟩
  · simp [Value.cells] at hcs
    obtain ⟨rfl, rfl, rfl⟩ := hcs
    have hmm' : m = cap := by simpa using hmm
    have each : ∀ i, ∃ q : Int × Int, i < len → W.cell? (a.add (i * 2)) = some (.int .i64 q.1) ∧ W.cell? (a.add (i * 2 + 1)) = some (.int .i64 q.2) ∧ (Lit.int .i64 q.1).wf = true ∧ (Lit.int .i64 q.2).wf = true := by
      intro i
      by_cases hi : i < len
      · obtain ⟨h1, h2, h3, h4⟩ := hall i (by omega)
        obtain ⟨x, e1, _, w1⟩ := DataW.trod_int t0 h3
        obtain ⟨y, e2, _, w2⟩ := DataW.trod_int t1 h4
        simp only [List.cons.injEq, and_true] at e1 e2
        exact ⟨(x, y), fun _ => ⟨by rw [h1, e1], by rw [h2, e2], w1, w2⟩⟩
      · exact ⟨(0, 0), fun h => absurd h hi⟩
    refine ⟨fun i => (Classical.choose (each i)).1, fun i => (Classical.choose (each i)).2, fun i hi => ?_, by omega, fun i hi => ?_⟩
    · obtain ⟨h1, h2, _, _⟩ := Classical.choose_spec (each i) hi
      have hb := World.block_lt_of_cell? _ _ h1
      rw [add_block] at hb
      exact ⟨a, rfl, hb, h1, h2⟩
    · obtain ⟨_, _, h3, h4⟩ := Classical.choose_spec (each i) hi
      exact ⟨h3, h4⟩
theorem failed_num (e : Int) (he : e ≠ 0) : Sc.num ⟨[], e⟩ = (0, ⟨[], e⟩) := by unfold Sc.num; rw [if_neg he]
theorem failed_upto (e n : Int) (he : e ≠ 0) : Sc.upto ⟨[], e⟩ n = (0, ⟨[], e⟩) := by unfold Sc.upto; rw [failed_num e he, if_neg (fun h => he h.1)]; simp [wrap64]
theorem failed_int (e : Int) (he : e ≠ 0) : Sc.int ⟨[], e⟩ = (0, ⟨[], e⟩) := by unfold Sc.int; rw [failed_num e he]; rfl
theorem failed_text (e n : Int) (he : e ≠ 0) : Sc.text ⟨[], e⟩ n = ([], ⟨[], e⟩) := by unfold Sc.text; rw [failed_upto e n he, if_neg he]
theorem failed_fail (e n : Int) (he : e ≠ 0) : Sc.fail ⟨[], e⟩ n = ⟨[], e⟩ := by unfold Sc.fail; split <;> simp [he]
theorem failed_end (e : Int) (he : e ≠ 0) : Sc.endE ⟨[], e⟩ = e := by unfold Sc.endE; rw [if_neg (fun h => he h.1)]

set_option maxRecDepth 100000 in
set_option maxHeartbeats 4000000 in
theorem wireFails_any (A0 : Option Addr) (c0 : Nat) (l0 : List Int) (e0 : Int) (A2 : Option Addr) (n2 c2 : Nat) (D N : Nat → Int) (w : World) (hr0 : (Kd.int .u8).C w A0 l0.length l0) (hc0 : l0.length ≤ c0) (hl0 : l0.length ≤ 140737488351232) (hu0 : u8s l0)
    (he0 : -9223372036854775808 ≤ e0 ∧ e0 < 9223372036854775808) (hp : Pairs w.heap.size w A2 n2 D N) (hn : ∀ i, i < n2 → -9223372036854775808 ≤ N i ∧ N i < 9223372036854775808) (hd : ∀ i, i < n2 → -9223372036854775808 ≤ D i ∧ D i < 9223372036854775808) (hn2 : n2 ≤ 9223372036854775807) :
    Calls Try.prog 7 #[.slice A0 l0.length c0, .int .i64 e0, .slice A2 n2 c2] w fun e w' => e = .returned (.bool true) ∧ Below w.heap.size w w' := by
  have HR0 := Aside0.mk hr0
  have HU := Aside0.mk hu0
  have HP0 := Aside0.mk hp
  have HN := Aside0.mk hn
  have HD := Aside0.mk hd
  have HE := Aside0.mk he0
  have HN2 := Aside0.mk hn2
  have HL0 := Aside0.mk hl0
  clear hr0 hu0 hp hn hd he0 hn2 hl0
  go_enter Try.func7, Try.ntmps7
  go_wp2_with fail
  refine (small_any _).mono ?_
  rintro e w1 ⟨rfl, hB⟩
  have HB1 : Aside0 (Below w.heap.size w w1) := ⟨hB⟩
  have HR1 := Aside0.mk (Kd.C_below HR0.out hB)
  have HP1 := Aside0.mk (HP0.out.below hB (Nat.le_refl _))
  clear hB HR0 HP0
  go_wp2_with fail
  refine (won _ _ l0 w1 HR1.out hc0 HU.out (by have := HL0.out; omega)).mono ?_
  rintro e w2 ⟨gs, rfl, hg, hS, hB⟩
  have HB2 : Aside0 (Below w.heap.size w w2) := ⟨HB1.out.trans (hB.mono HB1.out.size)⟩
  have HP2 := Aside0.mk (HP1.out.below hB HB1.out.size)
  have HS2 := Aside0.mk hS
  have HG := Aside0.mk (show w.heap.size ≤ w1.heap.size ∧ w1.heap.size ≤ gs from ⟨HB1.out.size, hg⟩)
  clear hB hS hg HR1 HB1 HP1
  by_cases hg1 : l0.length ≤ 300
  · by_cases hg2 : n2 ≤ 60
    · by_cases hg3' : e0 = 0
      · subst hg3'
        go_wp2
        go_ret
        exact ⟨rfl, HB2.out⟩
      · have d0 : (e0 == 0) = false := beq_eq_false_iff_ne.2 hg3'
        have HG3 := Aside0.mk hg3'
        clear hg3'
        go_wp2_with fail
        refine (wfail HS2.out e0 HE.out).mono ?_
        rintro e w3 ⟨rfl, hz, hG⟩
        have hg := HG.out
        rw [show Sc.fail ⟨l0, 0⟩ e0 = ⟨[], e0⟩ by unfold Sc.fail; rw [if_neg HG3.out]; rfl] at hz
        have HB3 : Aside0 (Below w.heap.size w w3) := ⟨below_of_grown HB2.out hG (by omega)⟩
        have HS3 := Aside0.mk hz
        have HP3 := Aside0.mk (HP2.out.grown hG (by have := HB2.out.size; omega) (by omega))
        clear hz hG hg HB2 HS2 HP2
        go_wp2_with fail
        go_loopw [9] (fun i wr => ∃ k : Nat, k ≤ n2 ∧ i = .int .i64 k ∧ Aside0 (Pairs w.heap.size wr A2 n2 D N) ∧ Aside0 (Scn 55 (fun k => w1.heap.size ≤ k ∧ k < gs) wr gs ⟨[], e0⟩) ∧ Below w.heap.size w wr) (fun i _ => n2 - (intOf i).toNat)
        case atStart => exact ⟨0, Nat.zero_le _, rfl, ⟨HP3.out⟩, ⟨HS3.out⟩, HB3.out⟩
        case round =>
          obtain ⟨k, hk, rfl, HP, HS, hBr⟩ := hrel
          have HBR := Aside0.mk hBr
          clear hBr
          by_cases hlt : k < n2
          · obtain ⟨a, rfl, hal, hc1, hc2⟩ := HP.out k hlt
            have HAL := Aside0.mk hal
            have HNK := Aside0.mk (HN.out k hlt)
            have hc3 : wr.cell? ⟨(a.add (k * 2)).block, (a.add (k * 2)).off + 1, none⟩ = some (.int .i64 (N k)) := by rw [← add_pos _ 1 (by decide), add_add]; exact hc2
            have hs0 : strOfNums [] = ⟨#[]⟩ := rfl
            clear hal hc2
            go_wp2_with (first | (go_at_call 16; have hop := wnum HS.out; rw [failed_num e0 HG3.out] at hop; refine hop.mono ?_; rintro e w4 ⟨rfl, hz, hG⟩; have hg := HG.out; have hbr := HBR.out; have HB4 : Aside0 (Below w.heap.size w w4) := ⟨below_of_grown hbr hG (by omega)⟩; have HP4 := Aside0.mk (HP.out.grown hG hbr.size (by omega)); have HS4 := Aside0.mk hz; clear hop hz hG hg hbr) | (go_at_call 18; have hop := wupto HS.out (N k) HNK.out; rw [failed_upto e0 _ HG3.out] at hop; refine hop.mono ?_; rintro e w4 ⟨rfl, hz, hG⟩; have hg := HG.out; have hbr := HBR.out; have HB4 : Aside0 (Below w.heap.size w w4) := ⟨below_of_grown hbr hG (by omega)⟩; have HP4 := Aside0.mk (HP.out.grown hG hbr.size (by omega)); have HS4 := Aside0.mk hz; clear hop hz hG hg hbr) | (go_at_call 20; have hop := wint HS.out; rw [failed_int e0 HG3.out] at hop; refine hop.mono ?_; rintro e w4 ⟨rfl, hz, hG⟩; have hg := HG.out; have hbr := HBR.out; have HB4 : Aside0 (Below w.heap.size w w4) := ⟨below_of_grown hbr hG (by omega)⟩; have HP4 := Aside0.mk (HP.out.grown hG hbr.size (by omega)); have HS4 := Aside0.mk hz; clear hop hz hG hg hbr) | (go_at_call 22; have hop := wtext HS.out (N k) HNK.out; rw [failed_text e0 _ HG3.out] at hop; refine hop.mono ?_; rintro e w4 ⟨rfl, hz, hG⟩; have hg := HG.out; have hbr := HBR.out; have HB4 : Aside0 (Below w.heap.size w w4) := ⟨below_of_grown hbr hG (by omega)⟩; have HP4 := Aside0.mk (HP.out.grown hG hbr.size (by omega)); have HS4 := Aside0.mk hz; clear hop hz hG hg hbr) | (go_at_call 24; have hop := wfail HS.out (N k) HNK.out; rw [failed_fail e0 _ HG3.out] at hop; refine hop.mono ?_; rintro e w4 ⟨rfl, hz, hG⟩; have hg := HG.out; have hbr := HBR.out; have HB4 : Aside0 (Below w.heap.size w w4) := ⟨below_of_grown hbr hG (by omega)⟩; have HP4 := Aside0.mk (HP.out.grown hG hbr.size (by omega)); have HS4 := Aside0.mk hz; clear hop hz hG hg hbr))
            all_goals go_wp2_with (first | (go_at_call 26; first | (have hop := wleft HS4.out; refine hop.mono ?_; rintro e w5 ⟨rfl, rfl⟩; clear hop) | (have hop := wleft HS.out; refine hop.mono ?_; rintro e w5 ⟨rfl, rfl⟩; clear hop)) | (go_at_call 27; first | (have hop := werr HS4.out; refine hop.mono ?_; rintro e w5 ⟨rfl, rfl⟩; clear hop) | (have hop := werr HS.out; refine hop.mono ?_; rintro e w5 ⟨rfl, rfl⟩; clear hop)) | (go_at_call 28; first | (have hop := wend HS4.out; rw [failed_end e0 HG3.out] at hop; refine hop.mono ?_; rintro e w5 ⟨rfl, rfl⟩; clear hop) | (have hop := wend HS.out; rw [failed_end e0 HG3.out] at hop; refine hop.mono ?_; rintro e w5 ⟨rfl, rfl⟩; clear hop)))
            all_goals first
              | exact ⟨⟨k + 1, by omega, by simp, ⟨HP4.out⟩, ⟨HS4.out⟩, HB4.out⟩, by simp [intOf]; omega⟩
              | exact ⟨⟨k + 1, by omega, by simp, ⟨HP.out⟩, ⟨HS.out⟩, HBR.out⟩, by simp [intOf]; omega⟩
          · go_wp2_with (go_at_call 27; have hop := werr HS.out; refine hop.mono ?_; rintro e w5 ⟨rfl, rfl⟩; clear hop)
            go_ret
            exact ⟨rfl, HBR.out⟩
    · go_wp2
      go_ret
      exact ⟨rfl, HB2.out⟩
  · go_wp2
    go_ret
    exact ⟨rfl, HB2.out⟩
theorem wireFails_walk (a0 : Option Addr) (len0 cap0 : Nat) (z0 : List Int) (e0 : Int) (A2 : Option Addr) (n2 c2 : Nat) (D N : Nat → Int) (w : World) (w0 : (a0 = none ∧ len0 = 0 ∧ cap0 = 0 ∧ z0 = []) ∨ ∃ x, a0 = some x ∧ len0 ≤ cap0 ∧ cap0 ≤ maxLen ∧ z0.length = cap0 ∧ (∀ i, i < z0.length → w.cell? (x.add i) = some (.int .u8 (z0.getD i 0))) ∧ ∀ n ∈ z0, (Lit.int .u8 n).wf = true) (y0 : len0 * 1 ≤ 140737488351232)
    (w1 : (Lit.int .i64 e0).wf = true) (w2 : Pairs w.heap.size w A2 n2 D N) (y2 : n2 ≤ maxLen) (z2 : ∀ i, i < n2 → (Lit.int .i64 (D i)).wf = true ∧ (Lit.int .i64 (N i)).wf = true) :
    Calls Try.prog 7 #[.slice a0 len0 cap0, .int .i64 e0, .slice A2 n2 c2] w fun e w' => e = .returned (.bool true) ∧ Below w.heap.size w w' := by
  obtain ⟨l0, rfl, hr0, hm0, hw0, hc0⟩ := ReadsInt.ofRowC w0
  have hb := Go.bounds_i64 w1
  exact wireFails_any a0 cap0 l0 e0 A2 n2 c2 D N w (Kd.C_of_reads (d := (0 : Int)) (h1 := fun _ => rfl) hr0) hc0 (by omega) (u8s_wf hw0) (by omega) w2 (fun i hi => by have := Go.bounds_i64 (z2 i hi).2; omega) (fun i hi => by have := Go.bounds_i64 (z2 i hi).1; omega) (by simpa [maxLen] using y2)
end Go.Proofs.Ytkbpkoiihgkkiaa
