/- The statement IndexMeets over numbers and lists: which entries an event meets, and how many predicates there are. -/
import Derived.Test.YtbcnknmgljdmlaaZIndexMeets4
import Derived.WalkKit
import Derived.Test.YtbcnknmgljdmlaaZIndexMeets0
import Derived.Deep.Slices
import Derived.DataReads
import Derived.ChangeShapes
import Derived.WideLaws
import Derived.SizedLaws
import Derived.Test.YtbcnknmgljdmlaaProg
import Derived.Test.YtbcnknmgljdmlaaRows
import Derived.ProofKit
import Derived.OpenShut
import Derived.ShutString
import Derived.ChangeOld
import Derived.Below
import Derived.Lib.SmallJoins
section
/- IndexMeets, walked -/
set_option linter.unusedVariables false
set_option linter.unusedSimpArgs false
set_option autoImplicit false
namespace Go.Proofs.Ytbcnknmgljdmlaa.G
open Go Go.RowKit Go.Proofs.Ytbcnknmgljdmlaa Go.Proofs.YtbcnknmgljdmlaaW.PrintWords Go.Proofs.YtbcnknmgljdmlaaW.PrintLast Go.Proofs.YtbcnknmgljdmlaaW.PrintMore

def okE (k : Nat) (l : List S41) (e : List S49) : Bool := match rosettelaw05_Few.f k e with
  | some f5 => decide (f5 = true → GoodE e ∧ (rightE e = true → rosetteref12_Meet.f k l e = some (tellL l e) ∧ rosetteref11_Ints.f k (tellL l e) (tellL l e) = some true))
  | none => false
theorem okE_open {k : Nat} {l : List S41} {e : List S49} (h : okE k l e = true) : ∃ f5, rosettelaw05_Few.f k e = some f5 ∧ (f5 = true → GoodE e ∧ (rightE e = true → rosetteref12_Meet.f k l e = some (tellL l e) ∧ rosetteref11_Ints.f k (tellL l e) (tellL l e) = some true)) := by
  unfold okE at h
  cases hf : rosettelaw05_Few.f k e with
  | none => rw [hf] at h; cases h
  | some f5 => rw [hf] at h; exact ⟨f5, rfl, of_decide_eq_true h⟩
def rosettelaw12_IndexMeets.f (k : Nat) (l0 : List S41) (l1 : List (List S49)) : Option Bool :=
  (rosettelaw09_Few.f k l0).bind fun f9 => if f9 = true → l1.length ≤ 20 → EntOk l0 ∧ rosetteref12_Size.f k l0 = some (sizeL l0 : Int) ∧ ∀ e ∈ l1, okE k l0 e = true then some true else none
theorem at_ev {w : World} {A : Option Addr} {es : List (List S49)} (h : Kd.C (Kd.slice 49 k49) w A es.length es) (i : Nat) (hi : i < es.length) :
    ∃ ad Ae ce, A = some ad ∧ w.cell? (ad.add i) = some (.slice Ae es[i].length ce) ∧ es[i].length ≤ ce ∧ Kd.C k49 w Ae es[i].length es[i] := by
  obtain ⟨_, _, hr⟩ := h
  obtain ⟨ad, rfl, hc⟩ := hr (by omega)
  obtain ⟨cs, _, ⟨Ae, ce, rfl, hle, hC⟩, hcell⟩ := hc i es[i] (List.getElem?_eq_getElem hi)
  refine ⟨ad, Ae, ce, rfl, ?_, hle, hC⟩
  have h0 := hcell 0 _ rfl
  rw [show i * (Kd.slice 49 k49).sz + 0 = i by show i * 1 + 0 = i; omega] at h0
  exact h0
theorem emeet2 (l : List S41) (hl : EntOk l) {w0 : World} (A1 : Option Addr) (c1 : Nat) (e : List S49) (ta : List Int) (hta : tellL l e = ta) (w : World) (h : IxQ w0 w [] (pairsFrom 0 l) (l.map (·.f0)) (l.map fun e => (e.f2.length : Int))) (hr1 : Kd.C k49 w A1 e.length e) (hc1 : e.length ≤ c1) (hg : GoodE e) :
    Calls Try.prog 15 #[.pointer (some ⟨w0.heap.size + 2, 0, none⟩), .slice A1 e.length c1] w fun e' w' => ∃ A c, e' = .returned (.slice A ta.length c) ∧ ta.length ≤ c ∧ (Kd.int .i64).C w' A ta.length ta ∧ (Kd.int .i64).R 3 w' w.heap.size (fun _ => True) (.slice A ta.length c) ta ∧ Below w.heap.size w w' := by
  subst hta
  exact emeet l hl A1 c1 e w h hr1 hc1 hg
/-- a row of the call's own, whatever it holds -/
def OwnB (base : Nat) (W : World) (A : Option Addr) (n : Nat) : Prop := n = 0 ∨ ∃ g cur, A = some ⟨g, 0, none⟩ ∧ base ≤ g ∧ W.heap[g]? = some (.cells cur 3 (0, 0)) ∧ n ≤ cur.size
theorem ownB_of {base : Nat} {W : World} {A : Option Addr} {c : Nat} {xs : List Int} (h : (Kd.int .i64).R 3 W base (fun _ => True) (.slice A xs.length c) xs) : OwnB base W A xs.length := by
  obtain ⟨_, cs, ho, _⟩ := h
  rcases ho.2 with ⟨_, h0⟩ | ⟨g, cap, cur, he, hb, hg, hn, _, hsz, _⟩
  · exact .inl h0
  · injection he with e1 _ _
    exact .inr ⟨g, cur, e1, hb, hg, by rw [hsz]; show xs.length ≤ cap * 1; omega⟩
theorem OwnB.step {base : Nat} {W W' : World} {A : Option Addr} {n : Nat} (h : OwnB base W A n) (hB : Below W.heap.size W W') : OwnB base W' A n := by
  rcases h with h | ⟨g, cur, rfl, h1, h2, h3⟩
  · exact .inl h
  · exact .inr ⟨g, cur, rfl, h1, vkeepBm h2 hB, h3⟩
theorem OwnB.at_ {base : Nat} {W : World} {A : Option Addr} {n : Nat} (h : OwnB base W A n) (m : Nat) (hm : m < n) : ∃ g, A = some ⟨g, 0, none⟩ ∧ (∃ v, W.cell? ⟨g, m, none⟩ = some v) ∧ W.frozen? ⟨g, m, none⟩ = false ∧ ∀ v w, Below base w W → OwnB base (W.setCell ⟨g, m, none⟩ v) A n ∧ Below base w (W.setCell ⟨g, m, none⟩ v) := by
  rcases h with h | ⟨g, cur, rfl, h1, h2, h3⟩
  · omega
  · refine ⟨g, rfl, ⟨cur[m]'(by omega), by rw [cell_of_row _ _ _ _ _ _ h2]; simp [show m < cur.size by omega]⟩, frozen_of_row _ _ _ _ _ h2, fun v w hB => ⟨.inr ⟨g, _, rfl, h1, heap_setCell_same _ _ _ _ _ _ h2, by simpa using h3⟩, hB.setCell h1 _⟩⟩
set_option maxRecDepth 100000 in
set_option maxHeartbeats 1000000 in
theorem rosettelaw12_IndexMeets.calls (k : Nat) (A0 : Option Addr) (c0 : Nat) (l0 : List S41) (A1 : Option Addr) (c1 : Nat) (l1 : List (List S49)) (r : Bool) (w : World) (hr0 : Kd.C k41 w A0 l0.length l0) (hc0 : l0.length ≤ c0) (hr1 : Kd.C (Kd.slice 49 k49) w A1 l1.length l1) (hc1 : l1.length ≤ c1) (h : rosettelaw12_IndexMeets.f k l0 l1 = some r) :
    Calls Try.prog 3 #[.slice A0 l0.length c0, .slice A1 l1.length c1] w fun e w' => e = .returned (.bool r) ∧ Below w.heap.size w w' := by
  unfold rosettelaw12_IndexMeets.f at h
  obtain ⟨f9, h9, h⟩ := Option.bind_eq_some_iff.mp h
  split at h
  case isFalse => cases h
  case isTrue hall =>
    obtain rfl := Option.some.inj h
    have HALL := Aside0.mk hall
    have H9 := Aside0.mk h9
    have HC := Aside0.mk (And.intro hc0 hc1)
    have hl0 := hr0.2.1
    have hle := hr1.2.1
    have HL0 := Aside0.mk hr0
    have HE0 := Aside0.mk hr1
    have HB0 := Aside0.mk (Below.refl w.heap.size w)
    clear h hall h9 hr0 hc0 hr1 hc1
    go_enter Try.func3, Try.ntmps3
    obtain ⟨w0, hw0⟩ : ∃ x, x = w := ⟨_, rfl⟩
    go_wp2_with fail
    refine (small_any w).mono ?_
    rintro e w1 ⟨rfl, hX⟩
    have HL1 := Aside0.mk (Kd.C_below HL0.out hX)
    have HE1 := Aside0.mk (Kd.C_below HE0.out hX)
    have HB1 := Aside0.mk (HB0.out.trans ((hX).mono HB0.out.size))
    clear HL0 HE0 HB0
    clear hX hw0
    go_wp2_with fail
    refine (rosettelaw09_Few.calls k A0 c0 l0 f9 w1 HL1.out HC.out.1 H9.out).mono ?_
    rintro e w2 ⟨rfl, hX⟩
    have HL2 := Aside0.mk (Kd.C_below HL1.out hX)
    have HE2 := Aside0.mk (Kd.C_below HE1.out hX)
    have HB2 := Aside0.mk (HB1.out.trans ((hX).mono HB1.out.size))
    clear HL1 HE1 HB1
    clear hX
    cases f9 with
    | false =>
      go_wp2_with fail
      go_ret
      exact ⟨rfl, HB2.out⟩
    | true =>
      by_cases h20 : l1.length > 20
      case pos =>
        go_wp2_with fail
        go_ret
        exact ⟨rfl, HB2.out⟩
      obtain ⟨hG, hS, hE⟩ := HALL.out rfl (by omega)
      have HG := Aside0.mk hG
      have HSZ := Aside0.mk hS
      have HES := Aside0.mk hE
      clear hG hS hE HALL H9
      go_wp2_with fail
      refine (lbuild (l0) (m := l0.length) rfl A0 c0 w2 HL2.out HC.out.1 HG.out).mono ?_
      rintro e w3 ⟨rfl, hQ⟩
      have hX := ixq_below hQ
      have HL3 := Aside0.mk (Kd.C_below HL2.out hX)
      have HE3 := Aside0.mk (Kd.C_below HE2.out hX)
      have HB3 := Aside0.mk (HB2.out.trans ((hX).mono HB2.out.size))
      clear HL2 HE2 HB2
      have HQx3 := Aside0.mk hQ
      clear hX hQ
      have hss : (((sizeL l0 : Nat) : Int) != ((sizeL l0 : Nat) : Int)) = false := by simp
      go_wp2_with fail
      refine (wsize HQx3.out).mono ?_
      rintro e wz ⟨rfl, hw⟩
      obtain rfl : w3 = wz := hw.symm
      rw [show (keysOf (pairsFrom 0 (l0))).length = sizeL (l0) from rfl]
      go_wp2_with fail
      refine (rosetteref12_Size.calls k A0 c0 l0 _ w3 HL3.out HC.out.1 HSZ.out).mono ?_
      rintro e w4 ⟨rfl, hX⟩
      have HL4 := Aside0.mk (Kd.C_below HL3.out hX)
      have HE4 := Aside0.mk (Kd.C_below HE3.out hX)
      have HB4 := Aside0.mk (HB3.out.trans ((hX).mono HB3.out.size))
      have HQx4 := Aside0.mk (IxQ.step HQx3.out hX)
      clear HL3 HE3 HB3 HQx3
      clear hX HSZ
      go_wp2_with fail
      clear hss h20
      go_loopw [8] (fun i wr => ∃ m : Nat, m ≤ l1.length ∧ i = .int .i64 m ∧ Aside0 (Below w4.heap.size w4 wr)) (fun i _ => l1.length - (intOf i).toNat)
      case atStart => exact ⟨0, Nat.zero_le _, rfl, ⟨Below.refl _ _⟩⟩
      case round =>
        obtain ⟨m, hm, rfl, HW0⟩ := hrel
        by_cases hlt : m < l1.length
        case neg =>
          obtain rfl : m = l1.length := by omega
          go_wp2_with fail
          go_ret
          exact ⟨rfl, HB4.out.trans (HW0.out.mono HB4.out.size)⟩
        obtain ⟨ad, Ae, ce, hA, h0, hlc, hCe⟩ := at_ev HE4.out m hlt
        subst hA
        replace h0 := below_cellE HW0.out h0
        have hok := HES.out l1[m] (List.getElem_mem hlt)
        generalize l1[m] = e at h0 hlc hCe hok
        obtain ⟨f5, hf5, hall⟩ := okE_open hok
        have HALL := Aside0.mk hall
        have HF5 := Aside0.mk hf5
        have HCE := Aside0.mk hCe
        have HLC := Aside0.mk hlc
        have hee := hCe.2.1
        clear hok hall hf5 hCe hlc
        go_wp2_with fail
        refine (rosettelaw05_Few.calls k Ae ce e f5 wr (Kd.C_below HCE.out HW0.out) HLC.out HF5.out).mono ?_
        rintro e_ y1 ⟨rfl, hD⟩
        have hX := drawn_belowI hD
        have HW1 := Aside0.mk (HW0.out.trans ((hX).mono HW0.out.size))
        replace h0 := below_cellE (hX) h0
        clear HW0
        clear hD hX HF5
        cases f5 with
        | false =>
          go_wp2_with fail
          go_ret
          exact ⟨rfl, HB4.out.trans (HW1.out.mono HB4.out.size)⟩
        | true =>
          obtain ⟨hg, hrt⟩ := HALL.out rfl
          have HGE := Aside0.mk hg
          have HRT := Aside0.mk hrt
          clear hg hrt HALL
          go_wp2_with fail
          refine (wrightE Ae ce e y1 (Kd.C_below HCE.out HW1.out) (fun a ha => (HGE.out.2 a ha).1)).mono ?_
          rintro e_ y2 ⟨rfl, hX⟩
          have HW2 := Aside0.mk (HW1.out.trans ((hX).mono HW1.out.size))
          replace h0 := below_cellE (hX) h0
          clear HW1
          clear hX
          obtain ⟨re, hre⟩ : ∃ x, rightE e = x := ⟨_, rfl⟩
          rw [hre]
          have HRE := Aside0.mk hre
          clear hre
          cases re with
          | false =>
            go_wp2_with fail
            go_ret
            exact ⟨rfl, HB4.out.trans (HW2.out.mono HB4.out.size)⟩
          | true =>
            have HM := Aside0.mk (HRT.out HRE.out)
            clear HRT HRE
            have HTL := Aside0.mk (show (tellL l0 e).length ≤ 100000 by have := tell_len l0 e; have := HG.out.1; omega)
            obtain ⟨ta, hta⟩ : ∃ x, tellL l0 e = x := ⟨_, rfl⟩
            rw [hta] at HM HTL
            have HTA := Aside0.mk hta
            clear hta
            have htl := HTL.out
            go_wp2_with fail
            refine (emeet2 l0 HG.out Ae ce e ta HTA.out y2 (IxQ.step HQx4.out HW2.out) (Kd.C_below HCE.out HW2.out) HLC.out HGE.out).mono ?_
            rintro e_ y3 ⟨Am, cm, rfl, hlc, hCm, hRm, hX⟩
            have HWb := HW2
            have h0b := Aside0.mk h0
            have HO3 := Aside0.mk (ownB_of hRm)
            have HX3 := Aside0.mk hX
            have HCm := Aside0.mk hCm
            have HLm := Aside0.mk hlc
            have HW3 := Aside0.mk (HW2.out.trans ((hX).mono HW2.out.size))
            replace h0 := below_cellE (hX) h0
            clear HW2
            clear hlc hCm hRm hX
            go_wp2_with fail
            refine (rosetteref12_Meet.calls k A0 c0 l0 Ae ce e ta y3 (Kd.C_below HL4.out HW3.out) HC.out.1 (Kd.C_below HCE.out HW3.out) HLC.out HM.out.1).mono ?_
            rintro e_ y4 ⟨v, rfl, hR, hX⟩
            obtain ⟨Ar, cr, rfl, hlr, hCr⟩ := own_C hR
            have HO4 := Aside0.mk (HO3.out.step hX)
            have HX4 := Aside0.mk (below_via12 HX3.out hX)
            have HCm4 := Aside0.mk (Kd.C_below HCm.out hX)
            have HCr := Aside0.mk hCr
            have HLr := Aside0.mk hlr
            have HW4 := Aside0.mk (HW3.out.trans ((hX).mono HW3.out.size))
            replace h0 := below_cellE (hX) h0
            clear HW3
            clear hR hX hCr hlr HO3 HX3 HCm
            go_wp2_with fail
            refine (rosetteref11_Ints.calls k Am cm ta Ar cr ta true y4 HCm4.out HLm.out HCr.out HLr.out HM.out.2).mono ?_
            rintro e_ y5 ⟨rfl, hD⟩
            have hX := drawn_belowI hD
            have HO5 := Aside0.mk (HO4.out.step hX)
            have HX5 := Aside0.mk (below_via12 HX4.out hX)
            have HW5 := Aside0.mk (HW4.out.trans ((hX).mono HW4.out.size))
            replace h0 := below_cellE (hX) h0
            clear HW4
            clear hD hX HO4 HX4 HCm4 HLm HCr HLr
            go_wp2_with fail
            go_loopw [12] (fun i wq => ∃ j : Nat, j ≤ ta.length ∧ i = .int .i64 j ∧ Aside0 (OwnB y2.heap.size wq Am ta.length) ∧ Aside0 (Below y2.heap.size y2 wq)) (fun i _ => ta.length - (intOf i).toNat)
            case atStart => exact ⟨0, Nat.zero_le _, rfl, HO5, HX5⟩
            case round =>
              clear HO5 HX5 h0 HW5
              obtain ⟨j, hj, rfl, HO, HX⟩ := hrel
              by_cases hjt : j < ta.length
              case pos =>
                obtain ⟨g, hA, ⟨cv, hcv⟩, hfz, hst⟩ := HO.out.at_ j hjt
                subst hA
                have HS := Aside0.mk (hst (.int .i64 (-7)) y2 HX.out)
                clear hst HO HX
                go_wp2_with fail
                exact ⟨⟨j + 1, by omega, by go_num, ⟨HS.out.1⟩, ⟨HS.out.2⟩⟩, by simp [intOf]; omega⟩
              obtain rfl : j = ta.length := by omega
              have HZ := Aside0.mk (HWb.out.trans (HX.out.mono HWb.out.size))
              have h0 := below_cellE HX.out h0b.out
              clear HO HX HWb h0b hjt hj
              go_upto_region 20 with fail
              have HZc := Aside0.mk (below_drew HZ.out)
              have h0c := below_cellE (below_drew (Below.refl _ _)) h0
              clear HZ h0
              refine wp_region_held_drew (S := (fun W => W.cell? (ad.add m) = some (.slice Ae e.length ce))) (by kernel_rfl) h0c (fun hHeld => ?_)
              refine wpAnyH_take (i := 0) (oi := { dst := some 80, op := Op.move (Operand.tmp 11), type := 4, pos := "law.go:49", after := #[], guard := none }) (v := ?_) rfl (by kernel_rfl) (by kernel_rfl) (by kernel_rfl) (fun _ _ _ h => h) (Or.inl ⟨by rfl, ?_⟩) (by assumption) ?_
              rotate_left
              · intro w hSw
                try dsimp only at hSw
                go_simp
                all_goals with_reducible rfl
              try simp only [Act.put, List.setIfInBounds_toArray, List.set_cons_zero, List.set_cons_succ]
              refine wpAnyH_take (i := 1) (oi := { dst := some 81, op := Op.unOp UnOp.not 4 (Operand.tmp 80), type := 4, pos := "law.go:49", after := #[{ on := 0, ground := Ground.data }], guard := none }) (v := ?_) rfl (by kernel_rfl) (by kernel_rfl) (by kernel_rfl) (fun _ _ _ h => h) (Or.inl ⟨by rfl, ?_⟩) (by assumption) ?_
              rotate_left
              · intro w hSw
                try dsimp only at hSw
                go_simp
                all_goals with_reducible rfl
              try simp only [Act.put, List.setIfInBounds_toArray, List.set_cons_zero, List.set_cons_succ]
              refine wpAnyH_take (i := 2) (oi := { dst := some 82, op := Op.move (Operand.tmp 81), type := 4, pos := "law.go:49", after := #[{ on := 1, ground := Ground.data }], guard := none }) (v := ?_) rfl (by kernel_rfl) (by kernel_rfl) (by kernel_rfl) (fun _ _ _ h => h) (Or.inl ⟨by rfl, ?_⟩) (by assumption) ?_
              rotate_left
              · intro w hSw
                try dsimp only at hSw
                go_simp
                all_goals with_reducible rfl
              try simp only [Act.put, List.setIfInBounds_toArray, List.set_cons_zero, List.set_cons_succ]
              refine wpAnyH_take (i := 3) (oi := { dst := some 83, op := Op.move (Operand.tmp 7), type := 26, pos := "law.go:49", after := #[{ on := 2, ground := Ground.guard }], guard := some (2, false) }) (v := ?_) rfl (by kernel_rfl) (by kernel_rfl) (by kernel_rfl) (fun _ _ _ h => h) (Or.inl ⟨by rfl, ?_⟩) (by assumption) ?_
              rotate_left
              · intro w hSw
                try dsimp only at hSw
                go_simp
                all_goals with_reducible rfl
              try simp only [Act.put, List.setIfInBounds_toArray, List.set_cons_zero, List.set_cons_succ]
              refine wpAnyH_take (i := 4) (oi := { dst := some 84, op := Op.move (Operand.tmp 1), type := 23, pos := "law.go:49", after := #[{ on := 2, ground := Ground.guard }], guard := some (2, false) }) (v := ?_) rfl (by kernel_rfl) (by kernel_rfl) (by kernel_rfl) (fun _ _ _ h => h) (Or.inl ⟨by rfl, ?_⟩) (by assumption) ?_
              rotate_left
              · intro w hSw
                try dsimp only at hSw
                go_simp
                all_goals with_reducible rfl
              try simp only [Act.put, List.setIfInBounds_toArray, List.set_cons_zero, List.set_cons_succ]
              refine wpAnyH_take (i := 5) (oi := { dst := some 85, op := Op.move (Operand.tmp 8), type := 3, pos := "law.go:49", after := #[{ on := 2, ground := Ground.guard }], guard := some (2, false) }) (v := ?_) rfl (by kernel_rfl) (by kernel_rfl) (by kernel_rfl) (fun _ _ _ h => h) (Or.inl ⟨by rfl, ?_⟩) (by assumption) ?_
              rotate_left
              · intro w hSw
                try dsimp only at hSw
                go_simp
                all_goals with_reducible rfl
              try simp only [Act.put, List.setIfInBounds_toArray, List.set_cons_zero, List.set_cons_succ]
              refine wpAnyH_take (i := 6) (oi := { dst := some 86, op := Op.indexAddr 23 (Operand.tmp 84) (Operand.tmp 85), type := 0, pos := "law.go:49", after := #[{ on := 4, ground := Ground.data }, { on := 5, ground := Ground.data }, { on := 2, ground := Ground.guard }], guard := some (2, false) }) (v := ?_) rfl (by kernel_rfl) (by kernel_rfl) (by kernel_rfl) (fun _ _ _ h => h) (Or.inl ⟨by rfl, ?_⟩) (by assumption) ?_
              rotate_left
              · intro w hSw
                try dsimp only at hSw
                go_simp
                all_goals with_reducible rfl
              try simp only [Act.put, List.setIfInBounds_toArray, List.set_cons_zero, List.set_cons_succ]
              refine wpAnyH_take (i := 7) (oi := { dst := some 87, op := Op.load 31 (Operand.tmp 86), type := 31, pos := "law.go:49", after := #[{ on := 6, ground := Ground.data }, { on := 2, ground := Ground.guard }], guard := some (2, false) }) (v := ?_) rfl (by kernel_rfl) (by kernel_rfl) (by kernel_rfl) (fun _ _ _ h => h) (Or.inl ⟨by rfl, ?_⟩) (by assumption) ?_
              rotate_left
              · intro w hSw
                try dsimp only at hSw
                go_simp
                all_goals with_reducible rfl
              try simp only [Act.put, List.setIfInBounds_toArray, List.set_cons_zero, List.set_cons_succ]
              refine wpAnyH_take (i := 9) (oi := { dst := some 89, op := Op.move (Operand.tmp 0), type := 22, pos := "law.go:49", after := #[{ on := 2, ground := Ground.guard }], guard := some (2, false) }) (v := ?_) rfl (by kernel_rfl) (by kernel_rfl) (by kernel_rfl) (fun _ _ _ h => h) (Or.inl ⟨by rfl, ?_⟩) (by assumption) ?_
              rotate_left
              · intro w hSw
                try dsimp only at hSw
                go_simp
                all_goals with_reducible rfl
              try simp only [Act.put, List.setIfInBounds_toArray, List.set_cons_zero, List.set_cons_succ]
              refine wpAnyH_take (i := 10) (oi := { dst := some 90, op := Op.move (Operand.tmp 1), type := 23, pos := "law.go:49", after := #[{ on := 2, ground := Ground.guard }], guard := some (2, false) }) (v := ?_) rfl (by kernel_rfl) (by kernel_rfl) (by kernel_rfl) (fun _ _ _ h => h) (Or.inl ⟨by rfl, ?_⟩) (by assumption) ?_
              rotate_left
              · intro w hSw
                try dsimp only at hSw
                go_simp
                all_goals with_reducible rfl
              try simp only [Act.put, List.setIfInBounds_toArray, List.set_cons_zero, List.set_cons_succ]
              refine wpAnyH_take (i := 11) (oi := { dst := some 91, op := Op.move (Operand.tmp 8), type := 3, pos := "law.go:49", after := #[{ on := 2, ground := Ground.guard }], guard := some (2, false) }) (v := ?_) rfl (by kernel_rfl) (by kernel_rfl) (by kernel_rfl) (fun _ _ _ h => h) (Or.inl ⟨by rfl, ?_⟩) (by assumption) ?_
              rotate_left
              · intro w hSw
                try dsimp only at hSw
                go_simp
                all_goals with_reducible rfl
              try simp only [Act.put, List.setIfInBounds_toArray, List.set_cons_zero, List.set_cons_succ]
              refine wpAnyH_take (i := 12) (oi := { dst := some 92, op := Op.indexAddr 23 (Operand.tmp 90) (Operand.tmp 91), type := 0, pos := "law.go:49", after := #[{ on := 10, ground := Ground.data }, { on := 11, ground := Ground.data }, { on := 2, ground := Ground.guard }], guard := some (2, false) }) (v := ?_) rfl (by kernel_rfl) (by kernel_rfl) (by kernel_rfl) (fun _ _ _ h => h) (Or.inl ⟨by rfl, ?_⟩) (by assumption) ?_
              rotate_left
              · intro w hSw
                try dsimp only at hSw
                go_simp
                all_goals with_reducible rfl
              try simp only [Act.put, List.setIfInBounds_toArray, List.set_cons_zero, List.set_cons_succ]
              refine wpAnyH_take (i := 13) (oi := { dst := some 93, op := Op.load 31 (Operand.tmp 92), type := 31, pos := "law.go:49", after := #[{ on := 12, ground := Ground.data }, { on := 2, ground := Ground.guard }], guard := some (2, false) }) (v := ?_) rfl (by kernel_rfl) (by kernel_rfl) (by kernel_rfl) (fun _ _ _ h => h) (Or.inl ⟨by rfl, ?_⟩) (by assumption) ?_
              rotate_left
              · intro w hSw
                try dsimp only at hSw
                go_simp
                all_goals with_reducible rfl
              try simp only [Act.put, List.setIfInBounds_toArray, List.set_cons_zero, List.set_cons_succ]
              refine wpAnyH_ready (rs := [8]) (by kernel_rfl) (by simp) ?_
              refine AllReadyH.cons (o := { dst := some 88, op := Op.call { callee := Callee.value (Operand.func 15), args := #[Operand.tmp 83, Operand.tmp 87], argTypes := #[26, 31] }, type := 32, pos := "law.go:49", after := #[{ on := 3, ground := Ground.data }, { on := 7, ground := Ground.data }, { on := 2, ground := Ground.chain }, { on := 2, ground := Ground.guard }], guard := some (2, false) }) rfl (fun K hK => ?_) AllReadyH.nil
              (go_simp; refine (emeet2 l0 HG.out Ae ce e ta HTA.out _ (IxQ.step HQx4.out HZc.out) (Kd.C_below HCE.out HZc.out) HLC.out HGE.out).mono ?_; rintro e_ z1 ⟨Am2, cm2, rfl, hlc, hCm, hRm, hX⟩; have HCm := Aside0.mk hCm; have HLm := Aside0.mk hlc; have HZd := Aside0.mk (HZc.out.trans (hX.mono HZc.out.size)); have h0c := below_cellE hX h0c; clear hlc hCm hRm hX HZc; have HZc := HZd; clear HZd; go_wp2_with fail)
              refine hK.out _ _ h0c (fun hHeld => ?_)
              clear hK K
              try simp only [Act.put, List.setIfInBounds_toArray, List.set_cons_zero, List.set_cons_succ]
              refine wpAnyH_ready (rs := [14]) (by kernel_rfl) (by simp) ?_
              refine AllReadyH.cons (o := { dst := some 94, op := Op.call { callee := Callee.value (Operand.func 17), args := #[Operand.tmp 89, Operand.tmp 93], argTypes := #[22, 31] }, type := 32, pos := "law.go:49", after := #[{ on := 9, ground := Ground.data }, { on := 13, ground := Ground.data }, { on := 8, ground := Ground.chain }, { on := 2, ground := Ground.guard }], guard := some (2, false) }) rfl (fun K hK => ?_) AllReadyH.nil
              (go_simp; refine (rosetteref12_Meet.calls k A0 c0 l0 Ae ce e ta _ (Kd.C_below HL4.out HZc.out) HC.out.1 (Kd.C_below HCE.out HZc.out) HLC.out HM.out.1).mono ?_; rintro e_ z2 ⟨v, rfl, hR, hX⟩; obtain ⟨Ar2, cr2, rfl, hlr, hCr⟩ := own_C hR; have HCm4 := Aside0.mk (Kd.C_below HCm.out hX); have HCr := Aside0.mk hCr; have HLr := Aside0.mk hlr; have HZd := Aside0.mk (HZc.out.trans (hX.mono HZc.out.size)); have h0c := below_cellE hX h0c; clear hR hX hCr hlr HZc; have HZc := HZd; clear HZd; go_wp2_with fail)
              refine hK.out _ _ h0c (fun hHeld => ?_)
              clear hK K
              try simp only [Act.put, List.setIfInBounds_toArray, List.set_cons_zero, List.set_cons_succ]
              refine wpAnyH_ready (rs := [15]) (by kernel_rfl) (by simp) ?_
              refine AllReadyH.cons (o := { dst := some 95, op := Op.call { callee := Callee.value (Operand.func 16), args := #[Operand.tmp 88, Operand.tmp 94], argTypes := #[32, 32] }, type := 4, pos := "law.go:49", after := #[{ on := 8, ground := Ground.data }, { on := 14, ground := Ground.data }, { on := 14, ground := Ground.chain }, { on := 2, ground := Ground.guard }], guard := some (2, false) }) rfl (fun K hK => ?_) AllReadyH.nil
              (go_simp; refine (rosetteref11_Ints.calls k Am2 cm2 ta Ar2 cr2 ta true _ HCm4.out HLm.out HCr.out HLr.out HM.out.2).mono ?_; rintro e_ z3 ⟨rfl, hD⟩; have hX := drawn_belowI hD; have HZd := Aside0.mk (HZc.out.trans (hX.mono HZc.out.size)); have h0c := below_cellE hX h0c; clear hD hX HZc; have HZc := HZd; clear HZd; go_wp2_with fail)
              refine hK.out _ _ h0c (fun hHeld => ?_)
              clear hK K
              try simp only [Act.put, List.setIfInBounds_toArray, List.set_cons_zero, List.set_cons_succ]
              refine wpAnyH_take (i := 16) (oi := { dst := some 96, op := Op.unOp UnOp.not 4 (Operand.tmp 95), type := 4, pos := "law.go:49", after := #[{ on := 15, ground := Ground.data }, { on := 2, ground := Ground.guard }], guard := some (2, false) }) (v := ?_) rfl (by kernel_rfl) (by kernel_rfl) (by kernel_rfl) (fun _ _ _ h => h) (Or.inl ⟨by rfl, ?_⟩) (by assumption) ?_
              rotate_left
              · intro w hSw
                try dsimp only at hSw
                go_simp
                all_goals with_reducible rfl
              try simp only [Act.put, List.setIfInBounds_toArray, List.set_cons_zero, List.set_cons_succ]
              refine wpAnyH_take (i := 17) (oi := { dst := some 97, op := Op.pick (Operand.tmp 82) (Operand.const (Value.bool true)) (Operand.tmp 96), type := 4, pos := "law.go:49", after := #[{ on := 2, ground := Ground.data }, { on := 16, ground := Ground.data }], guard := none }) (v := ?_) rfl (by kernel_rfl) (by kernel_rfl) (by kernel_rfl) (fun _ _ _ h => h) (Or.inl ⟨by rfl, ?_⟩) (by assumption) ?_
              rotate_left
              · intro w hSw
                try dsimp only at hSw
                go_simp
                all_goals with_reducible rfl
              try simp only [Act.put, List.setIfInBounds_toArray, List.set_cons_zero, List.set_cons_succ]
              refine wpAnyH_done (by kernel_rfl) ?_ _
              go_wp2_with fail
              exact ⟨⟨m + 1, by omega, by go_num, HZc⟩, by simp [intOf]; omega⟩
end Go.Proofs.Ytbcnknmgljdmlaa.G
end

section
namespace Go.Proofs.Ytbcnknmgljdmlaa.G
open Go.RowKit Go.Proofs.Ytbcnknmgljdmlaa Go.Proofs.Ytbcnknmgljdmlaa.G Go.Proofs.YtbcnknmgljdmlaaW.PrintWords Go.Proofs.YtbcnknmgljdmlaaW.PrintLast

/-- The pure statement of rosettelaw12_IndexMeets. -/
def rosettelaw12_IndexMeets.Pure : Prop := ∀ (l0 : (List S41)) (l1 : (List (List S49))), ((l0.length ≤ maxLen ∧ l0.length * 40 ≤ 140737488351232) ∧ ∀ x0 ∈ l0, ((Lit.int .i64 x0.f0).wf = true ∧ ((Lit.int .i64 x0.f1).wf = true ∧ ((x0.f2.length ≤ maxLen ∧ x0.f2.length * 56 ≤ 140737488351232) ∧ ∀ x1 ∈ x0.f2, (x1.f0.size ≤ 140737488351232 ∧ ((Lit.int .i64 x1.f1).wf = true ∧ ((Lit.int .i64 x1.f2.f0).wf = true ∧ ((Lit.int .i64 x1.f2.f1).wf = true ∧ x1.f2.f2.size ≤ 140737488351232)))))))) → ((l1.length ≤ maxLen ∧ l1.length * 24 ≤ 140737488351232) ∧ ∀ x0 ∈ l1, ((x0.length ≤ maxLen ∧ x0.length * 48 ≤ 140737488351232) ∧ ∀ x1 ∈ x0, (x1.f0.size ≤ 140737488351232 ∧ ((Lit.int .i64 x1.f1.f0).wf = true ∧ ((Lit.int .i64 x1.f1.f1).wf = true ∧ x1.f1.f2.size ≤ 140737488351232))))) → ∃ k, rosettelaw12_IndexMeets.f k l0 l1 = some true
end Go.Proofs.Ytbcnknmgljdmlaa.G
end

section
/- entries are few, events are short: what the laws of the index ask holds; plain laws -/
set_option linter.unusedVariables false
set_option linter.unusedSimpArgs false
set_option autoImplicit false
namespace Go.Proofs.Ytbcnknmgljdmlaa
open Go Go.RowKit Go.Proofs.YtbcnknmgljdmlaaW.PrintWords Go.Proofs.YtbcnknmgljdmlaaW.PrintLast Go.Proofs.Ytbcnknmgljdmlaa.G

def tot (l : List S41) : Nat := (l.map fun e => e.f2.length).sum
theorem tot_pairs : ∀ (l : List S41) (s : Nat), (pairsFrom s l).length = tot l := by
  intro l
  induction l with
  | nil => intro s; rfl
  | cons e l ih => intro s; rw [pairsFrom, List.length_append, List.length_map, ih]; simp [tot]
theorem few9_in (l : List S41) (hs : l.length ≤ 4611686018427387904) (hr : ∀ x ∈ l, x.f2.length ≤ 140737488351232) (i : Nat) (hi : i < l.length) (x3 : Int) (Q : Prop)
    (h0 : ∃ k b, rosettelaw09_Few.l0 k l x3 ((i + 1 : Nat) : Int) = some b ∧ (b = true → Q)) : ∀ (d j : Nat), j + d = (rd_T41 l (i : Int)).f2.length → ∃ k b, rosettelaw09_Few.l1 k l x3 (i : Int) (j : Int) = some b ∧ (b = true → Q) := by
  have hx : (rd_T41 l (i : Int)).f2.length ≤ 140737488351232 := by
    have e : rd_T41 l (i : Int) = l[i] := by simp [rd_T41, List.getD_eq_getElem?_getD, hi]
    rw [e]
    exact hr _ (List.getElem_mem hi)
  intro d
  induction d with
  | zero =>
    intro j hj
    obtain ⟨k, b, h, hb⟩ := h0
    refine ⟨k + 1, b, ?_, hb⟩
    simp only [rosettelaw09_Few.l1]
    rw [if_pos (by omega), if_pos (by omega), if_neg (by omega), show wrap64 ((i : Int) + 1) = ((i + 1 : Nat) : Int) by unfold wrap64; omega]
    exact h
  | succ d ih =>
    intro j hj
    obtain ⟨k, b, h, hb⟩ := ih (j + 1) (by omega)
    by_cases hq : ((rd_T47 ((rd_T41 l (i : Int)).f2) (j : Int)).f0.size : Int) > 100
    · refine ⟨k + 1, false, ?_, fun hh => by cases hh⟩
      simp only [rosettelaw09_Few.l1]
      rw [if_pos (by omega), if_pos (by omega), if_pos (by omega), if_pos (by omega), if_pos hq]
    · by_cases hq2 : ((rd_T47 ((rd_T41 l (i : Int)).f2) (j : Int)).f2.f2.size : Int) > 100
      · refine ⟨k + 1, false, ?_, fun hh => by cases hh⟩
        simp only [rosettelaw09_Few.l1]
        rw [if_pos (by omega), if_pos (by omega), if_pos (by omega), if_pos (by omega), if_neg hq, if_pos hq2]
      · refine ⟨k + 1, b, ?_, hb⟩
        simp only [rosettelaw09_Few.l1]
        rw [if_pos (by omega), if_pos (by omega), if_pos (by omega), if_pos (by omega), if_neg hq, if_neg hq2, show wrap64 ((j : Int) + 1) = ((j + 1 : Nat) : Int) by unfold wrap64; omega]
        exact h
theorem tot_bound (l : List S41) (hr : ∀ x ∈ l, x.f2.length ≤ 140737488351232) : tot l ≤ l.length * 140737488351232 := by
  induction l with
  | nil => simp [tot]
  | cons e l ih =>
    have h1 := hr e (by simp)
    have h2 := ih fun x hx => hr x (by simp [hx])
    have : tot (e :: l) = e.f2.length + tot l := by simp [tot]
    rw [this, List.length_cons, Nat.add_mul]
    omega
theorem tot_snoc (l : List S41) (i : Nat) (hi : i < l.length) : tot (l.take (i + 1)) = tot (l.take i) + (rd_T41 l (i : Int)).f2.length := by
  have e : l.take (i + 1) = l.take i ++ [rd_T41 l (i : Int)] := by rw [List.take_add_one]; simp [rd_T41, List.getD_eq_getElem?_getD, hi]
  rw [e]
  simp [tot]
theorem few9_out (l : List S41) (hs : l.length ≤ 4611686018427387904) (hr : ∀ x ∈ l, x.f2.length ≤ 140737488351232) : ∀ (d i : Nat), i + d = l.length → ∀ x3 : Int, (l.length ≤ 80 → x3 = (tot (l.take i) : Int)) →
    ∃ k b, rosettelaw09_Few.l0 k l x3 (i : Int) = some b ∧ (b = true → l.length ≤ 80 ∧ tot l ≤ 300) := by
  intro d
  induction d with
  | zero =>
    intro i hi x3 hx
    by_cases h80 : l.length ≤ 80
    · refine ⟨1, decide (x3 ≤ 300), ?_, fun hb => ⟨h80, ?_⟩⟩
      · simp only [rosettelaw09_Few.l0]
        rw [if_neg (by omega), if_pos (by omega)]
      · have h1 := hx h80
        rw [List.take_of_length_le (by omega)] at h1
        have := of_decide_eq_true hb
        omega
    · refine ⟨1, false, ?_, fun hb => by cases hb⟩
      simp only [rosettelaw09_Few.l0]
      rw [if_neg (by omega), if_neg (by omega)]
  | succ d ih =>
    intro i hi x3 hx
    obtain ⟨k, b, h, hb⟩ := few9_in l hs hr i (by omega) (wrap64 (x3 + (((rd_T41 l (i : Int)).f2).length : Int))) _ (ih (i + 1) (by omega) _ (fun h80 => by
      have h1 := hx h80
      have h2 := tot_snoc l i (by omega)
      have h3 := tot_bound (l.take (i + 1)) (fun x hx => hr x (List.mem_of_mem_take hx))
      have h4 : (l.take (i + 1)).length ≤ 80 := by rw [List.length_take]; omega
      have h5 : (l.take (i + 1)).length * 140737488351232 ≤ 80 * 140737488351232 := Nat.mul_le_mul_right _ h4
      unfold wrap64
      omega)) (rd_T41 l (i : Int)).f2.length 0 (by omega)
    refine ⟨k + 1, b, ?_, hb⟩
    simp only [rosettelaw09_Few.l0]
    rw [if_pos (by omega), if_pos (by omega)]
    exact h
theorem few9_some (l : List S41) (hs : l.length ≤ 4611686018427387904) (hr : ∀ x ∈ l, x.f2.length ≤ 140737488351232) : ∃ k b, rosettelaw09_Few.f k l = some b ∧ (b = true → l.length ≤ 80 ∧ tot l ≤ 300) :=
  few9_out l hs hr l.length 0 (by omega) 0 (fun _ => by simp [tot])
theorem few5_go (e : List S49) (he : e.length ≤ 4611686018427387904) : ∀ (d k i : Nat), i + d = e.length → d < k → ∃ b, rosettelaw05_Few.l0 k e (i : Int) = some b ∧ (b = true → e.length ≤ 40) := by
  intro d
  induction d with
  | zero =>
    intro k i hi hk
    obtain ⟨k, rfl⟩ : ∃ m, k = m + 1 := ⟨k - 1, by omega⟩
    simp only [rosettelaw05_Few.l0]
    rw [if_neg (by omega)]
    exact ⟨_, rfl, fun h => by have := of_decide_eq_true h; omega⟩
  | succ d ih =>
    intro k i hi hk
    obtain ⟨k, rfl⟩ : ∃ m, k = m + 1 := ⟨k - 1, by omega⟩
    simp only [rosettelaw05_Few.l0]
    rw [if_pos (by omega), if_pos (by omega)]
    split
    · exact ⟨_, rfl, fun h => by cases h⟩
    · split
      · exact ⟨_, rfl, fun h => by cases h⟩
      · rw [show wrap64 ((i : Int) + 1) = ((i + 1 : Nat) : Int) by unfold wrap64; omega]
        exact ih k (i + 1) (by omega) (by omega)
theorem ints_self (l : List Int) (hl : l.length ≤ 4611686018427387904) : ∀ (d k i : Nat), i + d = l.length → d < k → rosetteref11_Ints.l0 k l l (i : Int) = some true := by
  intro d
  induction d with
  | zero =>
    intro k i hi hk
    obtain ⟨k, rfl⟩ : ∃ m, k = m + 1 := ⟨k - 1, by omega⟩
    simp only [rosetteref11_Ints.l0]
    rw [if_neg (by omega)]
  | succ d ih =>
    intro k i hi hk
    obtain ⟨k, rfl⟩ : ∃ m, k = m + 1 := ⟨k - 1, by omega⟩
    simp only [rosetteref11_Ints.l0]
    rw [if_pos (by omega), if_pos (by omega), if_pos (by omega), if_pos trivial, show wrap64 ((i : Int) + 1) = ((i + 1 : Nat) : Int) by unfold wrap64; omega]
    exact ih k (i + 1) (by omega) (by omega)
theorem ints_same (l : List Int) (hl : l.length ≤ 4611686018427387904) (k : Nat) (hk : l.length + 1 < k) : rosetteref11_Ints.f k l l = some true := by
  unfold rosetteref11_Ints.f
  obtain ⟨k, rfl⟩ : ∃ m, k = m + 1 := ⟨k - 1, by omega⟩
  first
    | exact ints_self l hl l.length (k + 1) 0 (by omega) (by omega)
    | (rw [if_neg (by simp)]; exact ints_self l hl l.length (k + 1) 0 (by omega) (by omega))
    | (simp only [ne_eq, not_true_eq_false, if_false, if_true]; exact ints_self l hl l.length (k + 1) 0 (by omega) (by omega))
theorem fuel_up {α : Type} {f : Nat → Option α} (h : ∀ k, LeO (f k) (f (k + 1))) {k : Nat} {b : α} (hb : f k = some b) : ∀ d, f (k + d) = some b := by
  intro d
  induction d with
  | zero => exact hb
  | succ d ih => exact h _ _ ih
/-- what comes in reads so -/
def GoodL (l : List S41) : Prop := (l.length ≤ maxLen ∧ l.length * 40 ≤ 140737488351232) ∧ ∀ x0 ∈ l, ((Lit.int .i64 x0.f0).wf = true ∧ ((Lit.int .i64 x0.f1).wf = true ∧ ((x0.f2.length ≤ maxLen ∧ x0.f2.length * 56 ≤ 140737488351232) ∧ ∀ x1 ∈ x0.f2, (x1.f0.size ≤ 140737488351232 ∧ ((Lit.int .i64 x1.f1).wf = true ∧ ((Lit.int .i64 x1.f2.f0).wf = true ∧ ((Lit.int .i64 x1.f2.f1).wf = true ∧ x1.f2.f2.size ≤ 140737488351232)))))))
def GoodA (e : List S49) : Prop := (e.length ≤ maxLen ∧ e.length * 48 ≤ 140737488351232) ∧ ∀ x0 ∈ e, (x0.f0.size ≤ 140737488351232 ∧ ((Lit.int .i64 x0.f1.f0).wf = true ∧ ((Lit.int .i64 x0.f1.f1).wf = true ∧ x0.f1.f2.size ≤ 140737488351232)))
theorem ent_of {l : List S41} (h : GoodL l) (h80 : l.length ≤ 80) (ht : tot l ≤ 300) : EntOk l := by
  refine ⟨by omega, by rw [tot_pairs]; omega, fun e he p hp => ?_⟩
  obtain ⟨h1, h2, h3, h4, h5⟩ := (h.2 e he).2.2.2 p hp
  exact ⟨⟨by simp only [maxLen]; omega, h2⟩, ⟨h3, h4⟩, by simp only [maxLen]; omega⟩
theorem ent_sub {l l' : List S41} (h : EntOk l) (hs : l'.Sublist l) : EntOk l' := by
  have ht : tot l' ≤ tot l := by
    induction hs with
    | slnil => exact Nat.le_refl _
    | cons a _ ih => have := ih ⟨by have := h.1; simp at this; omega, by have := h.2.1; rw [tot_pairs] at this ⊢; simp [tot] at this ⊢; omega, fun e he => h.2.2 e (by simp [he])⟩; simp [tot] at this ⊢; omega
    | cons_cons a _ ih => have := ih ⟨by have := h.1; simp at this; omega, by have := h.2.1; rw [tot_pairs] at this ⊢; simp [tot] at this ⊢; omega, fun e he => h.2.2 e (by simp [he])⟩; simp [tot] at this ⊢; omega
  refine ⟨Nat.le_trans hs.length_le h.1, ?_, fun e he => h.2.2 e (hs.subset he)⟩
  have := h.2.1
  rw [tot_pairs] at this ⊢
  omega
theorem good_of {e : List S49} (h : GoodA e) (h40 : e.length ≤ 40) : GoodE e :=
  ⟨by omega, fun a ha => ⟨by have := (h.2 a ha).1; simp only [maxLen]; omega, (h.2 a ha).2.2.1⟩⟩
/-- a law of the common form holds, if what it says of right inputs does -/
theorem lawF_some {l : List S41} {e : List S49} (hl : GoodL l) (he : GoodA e) (C : Bool) (OK : Nat → Prop) (D : ∀ k, Decidable (OK k)) (K : Nat)
    (h : ∀ k, K ≤ k → EntOk l → GoodE e → rightE e = true → C = true → OK k) : ∃ k, @lawF k l e C (OK k) (D k) = some true := by
  obtain ⟨k1, b1, h1, g1⟩ := few9_some l (by have := hl.1.2; omega) (fun x hx => by have := (hl.2 x hx).2.2.1.2; omega)
  obtain ⟨b2, h2, g2⟩ := few5_go e (by have := he.1.2; omega) e.length (e.length + 1) 0 (by omega) (by omega)
  refine ⟨k1 + (e.length + 1 + K), ?_⟩
  unfold lawF
  rw [fuel_up (f := fun k => rosettelaw09_Few.f k l) (fun k => rosettelaw09_Few.mono _ _) h1 (e.length + 1 + K)]
  have h3 : rosettelaw05_Few.f (k1 + (e.length + 1 + K)) e = some b2 := by
    have := fuel_up (f := fun k => rosettelaw05_Few.f k e) (fun k => rosettelaw05_Few.mono _ _) (k := e.length + 1) (b := b2) h2 (k1 + K)
    rw [show k1 + (e.length + 1 + K) = e.length + 1 + (k1 + K) by omega]
    exact this
  simp only [Option.bind_some]
  rw [h3]
  simp only [Option.bind_some]
  refine if_pos ?_
  rintro ⟨rfl, rfl⟩
  have ge := good_of he (g2 rfl)
  have gl := ent_of hl (g1 rfl).1 (g1 rfl).2
  exact ⟨gl, ge, fun hr hc => h _ (by omega) gl ge hr hc⟩
end Go.Proofs.Ytbcnknmgljdmlaa
end

section
/- the reference's index: what it tells and how large it is; plain laws -/
set_option linter.unusedVariables false
set_option linter.unusedSimpArgs false
set_option autoImplicit false
namespace Go.Proofs.Ytbcnknmgljdmlaa
open Go Go.RowKit Go.Proofs.YtbcnknmgljdmlaaW.PrintWords Go.Proofs.YtbcnknmgljdmlaaW.PrintLast Go.Proofs.Ytbcnknmgljdmlaa.G

/-- from some fuel on -/
def Ev (P : Nat → Prop) : Prop := ∃ K, ∀ k, K ≤ k → P k
theorem Ev.and {P Q : Nat → Prop} (h1 : Ev P) (h2 : Ev Q) : Ev fun k => P k ∧ Q k := by
  obtain ⟨a, h1⟩ := h1
  obtain ⟨b, h2⟩ := h2
  exact ⟨a + b, fun k hk => ⟨h1 k (by omega), h2 k (by omega)⟩⟩
theorem Ev.succ {P Q : Nat → Prop} (h1 : Ev P) (h : ∀ k, P k → Q (k + 1)) : Ev Q := by
  obtain ⟨a, h1⟩ := h1
  refine ⟨a + 1, fun k hk => ?_⟩
  obtain ⟨k, rfl⟩ : ∃ m, k = m + 1 := ⟨k - 1, by omega⟩
  exact h k (h1 k (by omega))
theorem Ev.mono {P Q : Nat → Prop} (h1 : Ev P) (h : ∀ k, P k → Q k) : Ev Q := by
  obtain ⟨a, h1⟩ := h1
  exact ⟨a, fun k hk => h k (h1 k hk)⟩
theorem Ev.now {P : Nat → Prop} (h : ∀ k, P (k + 1)) : Ev P := ⟨1, fun k hk => by
  obtain ⟨k, rfl⟩ : ∃ m, k = m + 1 := ⟨k - 1, by omega⟩
  exact h k⟩
theorem Ev.list {α : Type} {P : Nat → α → Prop} : ∀ es : List α, (∀ e ∈ es, Ev fun k => P k e) → Ev fun k => ∀ e ∈ es, P k e := by
  intro es
  induction es with
  | nil => intro _; exact ⟨0, fun k _ e he => by cases he⟩
  | cons a es ih =>
    intro h
    refine ((h a (by simp)).and (ih fun e he => h e (by simp [he]))).mono fun k hk e he => ?_
    rcases List.mem_cons.1 he with rfl | he
    · exact hk.1
    · exact hk.2 e he
theorem w_next (i : Nat) (h : i ≤ 4611686018427387904) : wrap64 ((i : Int) + 1) = ((i + 1 : Nat) : Int) := by unfold wrap64; omega

/-! ### an attribute's value -/
def rgv (n : ByteArray) : List S49 → Int × Int × ByteArray × Bool
  | [] => (0, 0, ⟨#[]⟩, false)
  | a :: e => if a.f0.toList = n.toList then (a.f1.f0, a.f1.f1, a.f1.f2, true) else rgv n e
theorem get_ev (e : List S49) (n : ByteArray) (he : e.length ≤ 4611686018427387904) : ∀ (d i : Nat), i + d = e.length → Ev fun k => rosetteref05_Get.l0 k e n (i : Int) = some (rgv n (e.drop i)) := by
  intro d
  induction d with
  | zero =>
    intro i hi
    refine Ev.now fun k => ?_
    simp only [rosetteref05_Get.l0]
    rw [if_neg (by omega), List.drop_eq_nil_of_le (by omega)]
    rfl
  | succ d ih =>
    intro i hi
    refine (ih (i + 1) (by omega)).succ fun k hk => ?_
    have hlt : i < e.length := by omega
    have hx : rd_T49 e (i : Int) = e[i] := by simp [rd_T49, List.getD_eq_getElem?_getD, hlt]
    simp only [rosetteref05_Get.l0]
    rw [if_pos (by omega), if_pos (by omega), hx, List.drop_eq_getElem_cons hlt, rgv, w_next i (by omega), hk]
    split <;> rfl
theorem toList_inj12' {a b : ByteArray} (e : a.toList = b.toList) : a = b := by
  rw [ByteArray.toList_eq, ByteArray.toList_eq] at e
  have h := Array.toList_inj.1 e
  cases a; cases b; simp at h; rw [h]
theorem rgv_met (p : S47) : ∀ e : List S49, ((rgv p.f0 e).2.2.2 = false ∧ metB p e = false) ∨ ((rgv p.f0 e).2.2.2 = true ∧ ∃ a ∈ e, rgv p.f0 e = (a.f1.f0, a.f1.f1, a.f1.f2, true) ∧ metB p e = hbI p a.f1) := by
  intro e
  induction e with
  | nil => exact .inl ⟨rfl, rfl⟩
  | cons a e ih =>
    rw [rgv, metB]
    by_cases h : a.f0 = p.f0
    · rw [if_pos (by rw [h]), if_pos h]
      exact .inr ⟨rfl, a, by simp, rfl, rfl⟩
    · rw [if_neg (fun hh => h (toList_inj12' hh)), if_neg h]
      rcases ih with ih | ⟨h1, b, hb, h2, h3⟩
      · exact .inl ih
      · exact .inr ⟨h1, b, by simp [hb], h2, h3⟩
theorem meets6_ev (p : S47) (e : List S49) (hp : KeyOk p) (he : GoodA e) : Ev fun k => rosetteref06_Meets.f k p.f0 p.f1 p.f2.f0 p.f2.f1 p.f2.f2 e = some (metB p e) := by
  have h1 := get_ev e p.f0 (by have := he.1.2; omega) e.length 0 (by omega)
  rcases rgv_met p e with ⟨h2, h3⟩ | ⟨h2, a, ha, h3, h4⟩
  · refine h1.mono fun k hk => ?_
    have hk' : rosetteref05_Get.f k e p.f0 = some (rgv p.f0 e) := hk
    unfold rosetteref06_Meets.f
    rw [hk', Option.bind_some, h2, h3]
    rfl
  · obtain ⟨K, h1⟩ := h1
    refine ⟨K + 2 * a.f1.f2.size + 5, fun k hk => ?_⟩
    have hk' : rosetteref05_Get.f k e p.f0 = some (rgv p.f0 e) := h1 k (by omega)
    have g1 := Go.bounds_i64 hp.2.1.2
    have ga := he.2 a ha
    have g2 := Go.bounds_i64 ga.2.2.1
    show rosetteref06_Meets.f k p.f0 p.f1 p.f2.f0 p.f2.f1 p.f2.f2 e = some (metB p e)
    unfold rosetteref06_Meets.f
    rw [hk', Option.bind_some, h3, h4]
    simp only [if_true]
    rw [rholds_f _ _ _ _ _ _ _ _ (by omega) (by omega) (by omega) (by omega) (by omega) (by omega)]
    rfl
theorem meets8_ev (f : List S47) (e : List S49) (hf : f.length ≤ 100000) (hp : ∀ p ∈ f, KeyOk p) (he : GoodA e) : ∀ (d i : Nat), i + d = f.length → Ev fun k => rosetteref08_Meets.l0 k f e (i : Int) = some (metF (f.drop i) e) := by
  intro d
  induction d with
  | zero =>
    intro i hi
    refine Ev.now fun k => ?_
    simp only [rosetteref08_Meets.l0]
    rw [if_neg (by omega), List.drop_eq_nil_of_le (by omega)]
    rfl
  | succ d ih =>
    intro i hi
    have hlt : i < f.length := by omega
    have hx : rd_T47 f (i : Int) = f[i] := by simp [rd_T47, List.getD_eq_getElem?_getD, hlt]
    refine ((ih (i + 1) (by omega)).and (meets6_ev f[i] e (hp _ (List.getElem_mem hlt)) he)).succ fun k hk => ?_
    simp only [rosetteref08_Meets.l0]
    rw [if_pos (by omega), if_pos (by omega), hx, hk.2, Option.bind_some, w_next i (by omega), hk.1, List.drop_eq_getElem_cons hlt]
    unfold metF
    rw [List.all_cons]
    cases metB f[i] e <;> rfl
theorem meet12_ev (l : List S41) (e : List S49) (hl : EntOk l) (he : GoodA e) : ∀ (d i : Nat), i + d = l.length → ∀ acc : List Int, acc.length ≤ i → Ev fun k => rosetteref12_Meet.l0 k l e acc (i : Int) = some (acc ++ tellF (l.drop i) e) := by
  have h1 := hl.1
  intro d
  induction d with
  | zero =>
    intro i hi acc ha
    refine Ev.now fun k => ?_
    simp only [rosetteref12_Meet.l0]
    rw [if_neg (by omega), List.drop_eq_nil_of_le (by omega)]
    simp [tellF]
  | succ d ih =>
    intro i hi acc ha
    have hlt : i < l.length := by omega
    have hx : rd_T41 l (i : Int) = l[i] := by simp [rd_T41, List.getD_eq_getElem?_getD, hlt]
    have hm : l[i] ∈ l := List.getElem_mem hlt
    have h8 := meets8_ev l[i].f2 e (ent_len hl _ hm) (hl.2.2 _ hm) he l[i].f2.length 0 (by omega)
    refine (((ih (i + 1) (by omega) (acc ++ [l[i].f0]) (by rw [List.length_append]; simp only [List.length_cons, List.length_nil]; omega)).and (ih (i + 1) (by omega) acc (by omega))).and h8).succ fun k hk => ?_
    have h8' : rosetteref08_Meets.f k l[i].f2 e = some (metF l[i].f2 e) := hk.2
    simp only [rosetteref12_Meet.l0]
    rw [if_pos (by omega), if_pos (by omega), hx, h8', Option.bind_some, w_next i (by omega), hk.1.1, hk.1.2, List.drop_eq_getElem_cons hlt]
    unfold tellF
    rw [List.filter_cons]
    cases hb : metF l[i].f2 e with
    | true => simp only [if_true]; rw [if_pos (by omega)]; simp
    | false => simp
/-! ### how large it is -/
theorem pred_eq (q p : S47) : (q.f0.toList == p.f0.toList && (q.f1 == p.f1 && (q.f2.f0 == p.f2.f0 && (q.f2.f1 == p.f2.f1 && q.f2.f2.toList == p.f2.f2.toList)))) = decide (q = p) := by
  by_cases h : q = p
  · subst h; simp
  · rw [decide_eq_false h]
    apply Bool.eq_false_iff.2
    intro hh
    simp only [Bool.and_eq_true, beq_iff_eq] at hh
    obtain ⟨h1, h2, h3, h4, h5⟩ := hh
    obtain ⟨q0, q1, q2, q3, q4⟩ := q
    obtain ⟨p0, p1, p2, p3, p4⟩ := p
    simp only at h1 h2 h3 h4 h5
    rw [toList_inj12' h1, h2, h3, h4, toList_inj12' h5] at h
    exact h rfl
theorem size2_ev (l : List S41) (had : List S47) (hh : had.length ≤ 100000) (i j : Nat) (hj : j ≤ 100000) (p : S47) (v : Int) (hnext : Ev fun k => rosetteref12_Size.l1 k l (addK had p) (i : Int) ((j + 1 : Nat) : Int) = some v) : ∀ (d m : Nat), m + d = had.length → ∀ is : Bool, (is = true ↔ p ∈ had.take m) →
    Ev fun k => rosetteref12_Size.l2 k l had (i : Int) (j : Int) is (m : Int) p.f0 p.f1 p.f2.f0 p.f2.f1 p.f2.f2 = some v := by
  intro d
  induction d with
  | zero =>
    intro m hm is his
    refine hnext.succ fun k hk => ?_
    simp only [rosetteref12_Size.l2]
    rw [if_neg (by omega)]
    rw [List.take_of_length_le (by omega)] at his
    unfold addK at hk
    cases is with
    | true =>
      rw [if_pos (his.1 rfl)] at hk
      simp only [if_true]
      rw [w_next j (by omega)]
      exact hk
    | false =>
      rw [if_neg (fun h => by cases his.2 h)] at hk
      simp only [Bool.false_eq_true, if_false]
      rw [if_pos (by omega), w_next j (by omega)]
      exact hk
  | succ d ih =>
    intro m hm is his
    have hlt : m < had.length := by omega
    have hx : rd_T47 had (m : Int) = had[m] := by simp [rd_T47, List.getD_eq_getElem?_getD, hlt]
    have htk : had.take (m + 1) = had.take m ++ [had[m]] := by rw [List.take_add_one]; simp [hlt]
    cases is with
    | true =>
      refine (ih (m + 1) (by omega) true ⟨fun _ => by rw [htk]; exact List.mem_append_left _ (his.1 rfl), fun _ => rfl⟩).succ fun k hk => ?_
      simp only [rosetteref12_Size.l2]
      rw [if_pos (by omega)]
      simp only [if_true]
      rw [w_next m (by omega)]
      exact hk
    | false =>
      refine (ih (m + 1) (by omega) (decide (had[m] = p)) (by
        have hn : ¬ p ∈ had.take m := fun h => by cases his.2 h
        rw [htk, List.mem_append, decide_eq_true_iff, List.mem_singleton]
        exact ⟨fun h => .inr h.symm, fun h => by rcases h with h | h; exact absurd h hn; exact h.symm⟩)).succ fun k hk => ?_
      simp only [rosetteref12_Size.l2]
      rw [if_pos (by omega)]
      simp only [Bool.false_eq_true, if_false]
      rw [if_pos (by omega), w_next m (by omega), hx, pred_eq]
      exact hk
theorem addK_le (ks : List S47) (p : S47) : (addK ks p).length ≤ ks.length + 1 := by unfold addK; split <;> simp
theorem size1_ev (l : List S41) (i : Nat) (hi : i < l.length) (hl : l.length ≤ 100000) (v : Int) (n : Nat) (hn : n + l[i].f2.length ≤ 100000)
    (h0 : ∀ had : List S47, had = (l[i].f2.foldl addK had) → True) : ∀ (d j : Nat), j + d = l[i].f2.length → ∀ had : List S47, had.length ≤ n + j → Ev (fun k => rosetteref12_Size.l0 k l ((l[i].f2.drop j).foldl addK had) ((i + 1 : Nat) : Int) = some v) → Ev fun k => rosetteref12_Size.l1 k l had (i : Int) (j : Int) = some v := by
  have hx : rd_T41 l (i : Int) = l[i] := by simp [rd_T41, List.getD_eq_getElem?_getD, hi]
  intro d
  induction d with
  | zero =>
    intro j hj had hh hnext
    rw [List.drop_eq_nil_of_le (by omega)] at hnext
    refine hnext.succ fun k hk => ?_
    simp only [rosetteref12_Size.l1]
    rw [if_pos (by omega), if_pos (by omega), hx, if_neg (by omega), w_next i (by omega)]
    exact hk
  | succ d ih =>
    intro j hj had hh hnext
    have hlt : j < l[i].f2.length := by omega
    have hy : rd_T47 l[i].f2 (j : Int) = l[i].f2[j] := by simp [rd_T47, List.getD_eq_getElem?_getD, hlt]
    rw [List.drop_eq_getElem_cons hlt, List.foldl_cons] at hnext
    have h2 := size2_ev l had (by omega) i j (by omega) l[i].f2[j] v (ih (j + 1) (by omega) (addK had l[i].f2[j]) (by have := addK_le had l[i].f2[j]; omega) hnext) had.length 0 (by omega) false (by simp)
    refine h2.succ fun k hk => ?_
    simp only [rosetteref12_Size.l1]
    rw [if_pos (by omega), if_pos (by omega), hx, if_pos (by omega), if_pos (by omega), hy]
    exact hk
theorem foldK_len (ps : List S47) : ∀ had : List S47, (ps.foldl addK had).length ≤ had.length + ps.length := by
  induction ps with
  | nil => intro had; simp
  | cons p ps ih => intro had; rw [List.foldl_cons]; have := ih (addK had p); have := addK_le had p; simp only [List.length_cons]; omega
theorem fold_pairs : ∀ (l : List S41) (s : Nat) (had : List S47), (pairsFrom s l).foldl (fun ks x => addK ks x.2) had = (l.flatMap (·.f2)).foldl addK had := by
  intro l
  induction l with
  | nil => intro s had; rfl
  | cons e l ih =>
    intro s had
    rw [pairsFrom, List.foldl_append, List.flatMap_cons, List.foldl_append, ih, List.foldl_map]
theorem size0_ev (l : List S41) (hl : l.length ≤ 100000) (ht : tot l ≤ 100000) : ∀ (d i : Nat), i + d = l.length → ∀ had : List S47, had.length + tot (l.drop i) ≤ 100000 → Ev fun k => rosetteref12_Size.l0 k l had (i : Int) = some ((((l.drop i).flatMap (·.f2)).foldl addK had).length : Int) := by
  intro d
  induction d with
  | zero =>
    intro i hi had hh
    refine Ev.now fun k => ?_
    simp only [rosetteref12_Size.l0]
    rw [if_neg (by omega), List.drop_eq_nil_of_le (by omega)]
    rfl
  | succ d ih =>
    intro i hi had hh
    have hlt : i < l.length := by omega
    rw [List.drop_eq_getElem_cons hlt] at hh ⊢
    have htt : tot (l[i] :: l.drop (i + 1)) = l[i].f2.length + tot (l.drop (i + 1)) := by unfold tot; rw [List.map_cons, List.sum_cons]
    rw [htt] at hh
    rw [List.flatMap_cons, List.foldl_append]
    have h1 := size1_ev l i hlt hl _ had.length (by omega) (fun _ _ => trivial) l[i].f2.length 0 (by omega) had (by omega) (ih (i + 1) (by omega) (l[i].f2.foldl addK had) (by have := foldK_len l[i].f2 had; omega))
    refine h1.succ fun k hk => ?_
    simp only [rosetteref12_Size.l0]
    rw [if_pos (by omega)]
    exact hk
theorem size12_ev (l : List S41) (hl : EntOk l) : Ev fun k => rosetteref12_Size.f k l = some (sizeL l : Int) := by
  have ht := hl.2.1
  rw [tot_pairs] at ht
  have h := size0_ev l hl.1 ht l.length 0 (by omega) [] (by simpa using ht)
  refine h.mono fun k hk => ?_
  unfold rosetteref12_Size.f sizeL keysOf
  rw [fold_pairs]
  exact hk
end Go.Proofs.Ytbcnknmgljdmlaa
end

section
/- The statement IndexMeets over numbers and lists: which entries an event meets, and how many predicates there are. -/
namespace Go.Proofs.Ytbcnknmgljdmlaa.Pure
open Go.RowKit Go.Proofs.Ytbcnknmgljdmlaa Go.Proofs.Ytbcnknmgljdmlaa.G Go.Proofs.YtbcnknmgljdmlaaW.PrintWords Go.Proofs.YtbcnknmgljdmlaaW.PrintLast

theorem okE_ev (l : List S41) (hl : EntOk l) (e : List S49) (he : GoodA e) : Ev fun k => okE k l e = true := by
  obtain ⟨K, hM⟩ := meet12_ev l e hl he l.length 0 (by omega) [] (Nat.le_refl _)
  refine ⟨K + e.length + l.length + 10, fun k hk => ?_⟩
  obtain ⟨b, hb, h40⟩ := few5_go e (by have := he.1.2; omega) e.length k 0 (by omega) (by omega)
  have hb' : rosettelaw05_Few.f k e = some b := hb
  show okE k l e = true
  unfold okE
  rw [hb']
  refine decide_eq_true fun ht => ⟨good_of he (h40 ht), fun hr => ?_⟩
  have ht2 := tell_eq l e (right_nodup hr)
  have hlen := tell_len l e
  have hl1 := hl.1
  refine ⟨?_, ints_same _ (by omega) k (by omega)⟩
  have h1 : rosetteref12_Meet.f k l e = some ([] ++ tellF (l.drop 0) e) := hM k (by omega)
  rw [h1, ht2]
  rfl
theorem IndexMeets : rosettelaw12_IndexMeets.Pure := by
  intro l0 l1 hl he
  obtain ⟨k1, b1, h1, g1⟩ := few9_some l0 (by have := hl.1.2; omega) (fun x hx => by have := (hl.2 x hx).2.2.1.2; omega)
  have hup := fun d => fuel_up (f := fun k => rosettelaw09_Few.f k l0) (fun k => rosettelaw09_Few.mono _ _) h1 d
  cases b1 with
  | false =>
    refine ⟨k1, ?_⟩
    unfold rosettelaw12_IndexMeets.f
    rw [h1, Option.bind_some]
    exact if_pos fun h => by cases h
  | true =>
    have gl := ent_of (l := l0) hl (g1 rfl).1 (g1 rfl).2
    obtain ⟨K, hK⟩ := (size12_ev l0 gl).and (Ev.list l1 fun e h => okE_ev l0 gl e (he.2 e h))
    refine ⟨k1 + K, ?_⟩
    obtain ⟨h2, h3⟩ := hK (k1 + K) (by omega)
    have h4 : rosettelaw09_Few.f (k1 + K) l0 = some true := hup K
    unfold rosettelaw12_IndexMeets.f
    rw [h4, Option.bind_some]
    exact if_pos fun _ _ => ⟨gl, h2, h3⟩
end Go.Proofs.Ytbcnknmgljdmlaa.Pure
end

section
/- What comes in, opened kind by kind: a datum that is read whole reads as a list, a structure, a number; and no slice and no text of it is longer than the form's reach. -/
set_option linter.unusedVariables false
set_option linter.unusedSimpArgs false
set_option autoImplicit false
namespace Go.Proofs.Ytbcnknmgljdmlaa.Op
open Go.RowKit Go.Deep Go.ChangeShapes Go.WideShapes Go.Proofs.YtbcnknmgljdmlaaW.PrintWords

section
variable {H α β : Type} (enc : TypeId × Value → H) (P : Program) (W : World)
/-- no part of a datum is longer than the reach -/
def Lite (P : Program) (t : TypeId) (d : DataW H) : Prop := ∀ n ∈ d.weights P t, n ≤ 140737488351232
/-- whatever is read at type t, and is no longer than the reach, is of the kind d, and good -/
def Opens (t : TypeId) (d : Kd α) (good : α → Prop) : Prop :=
  ∀ fuel (cs : List Value) x, DataW.trod enc P W 0 (fun _ => true) true fuel t cs = some x → Lite P t x.1 → ∃ a, d.K W a cs ∧ good a
def OpensF (fs : List Field) (o : Nat) (d : Kd α) (good : α → Prop) : Prop :=
  ∀ fuel (cs : List Value) xs, (fs.mapM fun f => DataW.trod enc P W 0 (fun _ => true) true fuel f.type ((cs.drop f.offset).take (P.cellsOf f.type))) = some xs → (∀ n ∈ DataW.weightsEach P (fs.map (·.type)) (xs.map (·.1)), n ≤ 140737488351232) → cs.length = o + d.sz → ∃ a, d.K W a (cs.drop o) ∧ good a
variable {enc P W}
theorem opens_int {t : TypeId} {k : IntKind} (ht : P.underlying t = some (.int k)) : Opens enc P W t (Kd.int k) (fun n => (Lit.int k n).wf = true) := by
  intro fuel cs x h _
  obtain ⟨n, h1, _, h2⟩ := DataW.trod_int ht h
  exact ⟨n, h1, h2⟩
theorem opens_bool {t : TypeId} (ht : P.underlying t = some .bool) : Opens enc P W t Kd.bool (fun _ => True) := by
  intro fuel cs x h _
  obtain ⟨n, h1, _⟩ := DataW.trod_bool ht h
  exact ⟨n, h1, trivial⟩
theorem opens_str {t : TypeId} (ht : P.underlying t = some .string) : Opens enc P W t Kd.string (fun s => s.size ≤ 140737488351232) := by
  intro fuel cs x h hl
  obtain ⟨s, h1, h2, _⟩ := DataW.trod_string ht h
  refine ⟨s, h1, ?_⟩
  rw [h2] at hl
  have := hl s.data.toList.length (by simp [DataW.weights])
  rw [Array.length_toList] at this
  exact this
theorem weightsAll_mem {e : TypeId} : ∀ {ds : List (DataW H)} {d : DataW H}, d ∈ ds → ∀ n ∈ d.weights P e, n ∈ DataW.weightsAll P e ds := by
  intro ds
  induction ds with
  | nil => intro d h; cases h
  | cons y ys ih =>
    intro d h n hn
    rw [DataW.weightsAll]
    rcases List.mem_cons.1 h with rfl | h
    · exact List.mem_append_left _ hn
    · exact List.mem_append_right _ (ih h n hn)
theorem opens_slice {t e : TypeId} {d : Kd α} {good : α → Prop} {B : Nat} (ht : P.underlying t = some (.slice e)) (hs : P.cellsOf e = d.sz) (hB : P.bytesOf e = B) (h : Opens enc P W e d good) :
    Opens enc P W t (Kd.slice e d) (fun xs => (xs.length ≤ maxLen ∧ xs.length * B ≤ 140737488351232) ∧ ∀ x ∈ xs, good x) := by
  intro fuel cs x hx hw
  rcases open_slice ht hx with ⟨rfl, _⟩ | ⟨a, len, cap, m, n, D, Pl, rfl, hb, hl, hm, hmm, rfl, hel⟩
  · exact ⟨[], ⟨none, 0, rfl, Nat.le_refl _, Kd.C_nil _ _⟩, ⟨Nat.zero_le _, by simp⟩, fun _ h => by cases h⟩
  · simp only [if_true] at hmm
    have hwt : ∀ n ∈ (len + (m - len)) * P.bytesOf e :: (DataW.weightsAll P e ((List.range len).map D) ++ DataW.weightsAll P e ((List.range (m - len)).map fun j => D (len + j))), n ≤ 140737488351232 := by
      have h1 := hw
      unfold Lite at h1
      rw [DataW.weights] at h1
      simp only [ht, List.length_map, List.length_range] at h1
      exact h1
    have hlenB : len * B ≤ 140737488351232 := by
      have h1 := hwt _ List.mem_cons_self
      rw [hB] at h1
      exact Nat.le_trans (Nat.mul_le_mul_right _ (by omega)) h1
    have hlite : ∀ i, i < len → Lite P e (D i) := fun i hi n hn => hwt n (List.mem_cons_of_mem _ (List.mem_append_left _ (weightsAll_mem (List.mem_map.2 ⟨i, List.mem_range.2 hi, rfl⟩) n hn)))
    have each : ∀ i, i < len → ∃ y : α, ∃ c, W.cells? 0 (a.add (i * P.cellsOf e)) (P.cellsOf e) = some c ∧ d.K W y c ∧ good y := by
      intro i hi
      obtain ⟨c, h1, h2⟩ := hel i (by omega)
      obtain ⟨y, h3, h4⟩ := h _ _ _ h2 (hlite i hi)
      exact ⟨y, c, h1, h3, h4⟩
    have build : ∃ xs : List α, xs.length = len ∧ ∀ i y, xs[i]? = some y → ∃ c, W.cells? 0 (a.add (i * P.cellsOf e)) (P.cellsOf e) = some c ∧ d.K W y c ∧ good y := by
      clear hx hel hm hl hb hmm hw hwt hlenB hlite
      induction len with
      | zero => exact ⟨[], rfl, fun i y h => by simp at h⟩
      | succ len ih =>
        obtain ⟨xs, h1, h2⟩ := ih (fun i hi => each i (by omega))
        obtain ⟨y, c, h3, h4, h5⟩ := each len (by omega)
        refine ⟨xs ++ [y], by simp [h1], fun i z hz => ?_⟩
        by_cases hi : i < len
        · exact h2 i z (by rw [List.getElem?_append_left (by omega)] at hz; exact hz)
        · have hi2 : i < (xs ++ [y]).length := (List.getElem?_eq_some_iff.1 hz).1
          have : i = len := by rw [List.length_append, List.length_singleton] at hi2; omega
          subst this
          rw [List.getElem?_append_right (by omega), h1, Nat.sub_self] at hz
          simp only [List.getElem?_cons_zero, Option.some.injEq] at hz
          subst hz
          exact ⟨c, h3, h4, h5⟩
    obtain ⟨xs, h1, h2⟩ := build
    refine ⟨xs, ⟨some a, cap, by rw [h1], by omega, rfl, by rw [h1]; simp only [maxLen] at hm; omega, fun h0 => ⟨a, rfl, fun j p hj => ?_⟩⟩, ⟨by omega, by rw [h1]; exact hlenB⟩, fun y hy => ?_⟩
    · obtain ⟨c, h3, h4, h5⟩ := h2 j p hj
      obtain ⟨_, hlen, hcell⟩ := World.cells?_some h3
      refine ⟨c, by rw [hlen, hs], h4, fun i u hu => ?_⟩
      have hi : i < P.cellsOf e := by rw [← hlen]; exact (List.getElem?_eq_some_iff.1 hu).1
      have := hcell i hi
      rw [hu, Go.Proofs.YtbcnknmgljdmlaaW.PrintWords.add_add, hs] at this
      exact this
    · obtain ⟨i, hi⟩ := List.getElem?_of_mem hy
      obtain ⟨c, _, _, h5⟩ := h2 i y hi
      exact h5
theorem opensF_one {f : Field} {o : Nat} {d : Kd α} {good : α → Prop} (ho : f.offset = o) (hc : P.cellsOf f.type = d.sz) (h : Opens enc P W f.type d good) : OpensF enc P W [f] o d good := by
  intro fuel cs xs hx hw hl
  simp only [List.mapM_cons, List.mapM_nil, Option.pure_def, Option.bind_eq_bind, Option.bind_eq_some_iff] at hx
  obtain ⟨y, h1, z, hz, hxs⟩ := hx
  simp only [Option.some.injEq] at hz hxs
  subst hz
  subst hxs
  obtain ⟨a, h2, h3⟩ := h _ _ _ h1 (fun n hn => hw n (by simp [DataW.weightsEach, hn]))
  rw [ho, hc, List.take_of_length_le (by rw [List.length_drop]; omega)] at h2
  exact ⟨a, h2, h3⟩
theorem opensF_cons {f : Field} {fs : List Field} {o : Nat} {d : Kd α} {e : Kd β} {g1 : α → Prop} {g2 : β → Prop} (ho : f.offset = o) (hc : P.cellsOf f.type = d.sz) (h : Opens enc P W f.type d g1) (hr : OpensF enc P W fs (o + d.sz) e g2) :
    OpensF enc P W (f :: fs) o (Kd.pair d e) (fun p => g1 p.1 ∧ g2 p.2) := by
  intro fuel cs xs hx hw hl
  simp only [List.mapM_cons, Option.pure_def, Option.bind_eq_bind, Option.bind_eq_some_iff] at hx
  obtain ⟨y, h1, ys, h2, hxs⟩ := hx
  simp only [Option.some.injEq] at hxs
  subst hxs
  have hsz : (Kd.pair d e).sz = d.sz + e.sz := rfl
  obtain ⟨a, h3, h4⟩ := h _ _ _ h1 (fun n hn => hw n (by simp [DataW.weightsEach, hn]))
  obtain ⟨b, h5, h6⟩ := hr _ _ _ h2 (fun n hn => hw n (by rw [List.map_cons, List.map_cons, DataW.weightsEach]; exact List.mem_append_right _ hn)) (by omega)
  rw [ho, hc] at h3
  refine ⟨(a, b), ⟨_, _, ?_, h3, h5⟩, h4, h6⟩
  rw [← List.drop_drop, List.take_append_drop]
theorem opens_struct {t : TypeId} {fs : Array Field} {d : Kd α} {good : α → Prop} (ht : P.underlying t = some (.struct fs)) (hc : P.cellsOf t = d.sz) (h : OpensF enc P W fs.toList 0 d good) : Opens enc P W t d good := by
  intro fuel cs x hx hw
  cases fuel with
  | zero => simp [DataW.trod] at hx
  | succ fuel =>
    have key : cs.length = P.cellsOf t ∧ ∃ xs, (fs.toList.mapM fun f => DataW.trod enc P W 0 (fun _ => true) true fuel f.type ((cs.drop f.offset).take (P.cellsOf f.type))) = some xs ∧ x.1 = .agg (xs.map (·.1)) := by
      unfold DataW.trod at hx
      rw [ht] at hx
      simp only at hx
      split at hx
      · rename_i hl
        rw [Option.map_eq_some_iff] at hx
        obtain ⟨xs, h1, h2⟩ := hx
        exact ⟨hl, xs, h1, by rw [← h2]⟩
      · cases hx
    obtain ⟨h1, xs, h2, h3⟩ := key
    have hw2 : ∀ n ∈ DataW.weightsEach P (fs.toList.map (·.type)) (xs.map (·.1)), n ≤ 140737488351232 := by
      unfold Lite at hw
      rw [h3, DataW.weights] at hw
      simp only [ht] at hw
      exact hw
    obtain ⟨a, h4, h5⟩ := h _ _ _ h2 hw2 (by omega)
    exact ⟨a, by simpa using h4, h5⟩
theorem opens_iso {t : TypeId} {d : Kd α} {good : α → Prop} (f : β → α) (g : α → β) (hfg : ∀ a, f (g a) = a) (h : Opens enc P W t d good) : Opens enc P W t (Kd.iso d f) (fun x => good (f x)) := by
  intro fuel cs x hx hw
  obtain ⟨a, h1, h2⟩ := h _ _ _ hx hw
  refine ⟨g a, ?_, by show good (f (g a)); rw [hfg]; exact h2⟩
  show d.K W (f (g a)) cs
  rw [hfg]
  exact h1
/-- the weight of an argument -/
theorem lite_arg {ts : List TypeId} {ds : List (DataW H)} (hsz : (DataW.weightsEach P ts ds).all (· ≤ reachBytes) = true) {j : Nat} {t : TypeId} {d : DataW H} (ht : ts[j]? = some t) (hd : ds[j]? = some d) : Lite P t d := by
  intro n hn
  have := List.all_eq_true.1 hsz n (DataW.weights_mem_each ht hd n hn)
  have h2 : n ≤ reachBytes := by simpa using this
  exact Nat.le_trans h2 (by decide)
/-- a slice that is handed in -/
theorem open_arg {t e : TypeId} {d : Kd α} {good : α → Prop} {B : Nat} (ht : P.underlying t = some (.slice e)) (hs : P.cellsOf e = d.sz) (hB : P.bytesOf e = B) (h : Opens enc P W e d good) {A : Option Addr} {n c : Nat} {y : DataW H} {p : List MemPlace}
    (hl : Lite P t y) (hx : DataW.Trod enc P W 0 (fun _ => true) true t (.slice A n c) y p) : ∃ xs : List α, n = xs.length ∧ xs.length ≤ c ∧ c ≤ maxLen ∧ d.C W A xs.length xs ∧ (xs.length ≤ maxLen ∧ xs.length * B ≤ 140737488351232) ∧ ∀ x ∈ xs, good x := by
  obtain ⟨fuel, hf⟩ := hx
  have hcap : c ≤ maxLen := by
    rcases open_slice ht hf with ⟨hcs, _⟩ | ⟨a, len, cap, m, n, D, Pl, hcs, hb, hl, hm, hmm, _, hel⟩
    · simp only [Value.cells, List.cons.injEq, Value.slice.injEq, and_true] at hcs
      omega
    · simp only [Value.cells, List.cons.injEq, Value.slice.injEq, and_true] at hcs
      omega
  obtain ⟨xs, ⟨A', c', h1, h2, h3⟩, h4, h5⟩ := opens_slice ht hs hB h _ _ _ hf hl
  simp only [Value.cells, List.cons.injEq, Value.slice.injEq, and_true] at h1
  obtain ⟨rfl, rfl, rfl⟩ := h1
  exact ⟨xs, rfl, h2, hcap, h3, h4, h5⟩
/-- a text that is handed in -/
theorem lite_str {t : TypeId} {s : ByteArray} (hl : Lite (H := H) P t (.lit (.string s.data.toList))) : s.size ≤ 140737488351232 := by
  have := hl s.data.toList.length (by simp [DataW.weights])
  rw [Array.length_toList] at this
  exact this
end
end Go.Proofs.Ytbcnknmgljdmlaa.Op
end

section
namespace Go.Proofs.Ytbcnknmgljdmlaa.indexMeets
open Go.ChangeShapes Go.WideShapes Go.ChangeAt Go.RowKit Go.Proofs.Ytbcnknmgljdmlaa Go.Proofs.Ytbcnknmgljdmlaa.G Go.Proofs.YtbcnknmgljdmlaaW.PrintWords Go.Proofs.YtbcnknmgljdmlaaW.PrintLast Go.Proofs.YtbcnknmgljdmlaaW.PrintMore
open Go.ChangeMaps (open_string shut_string)
set_option linter.unusedVariables false
set_option linter.unusedSimpArgs false
theorem own : ownKnob Try.prog.godebug = none := by kernel_rfl
theorem laidOut : laidOutB Try.prog = true := by kernel_rfl
set_option maxRecDepth 100000 in
theorem lifted (os : Os) (started : os.Started) (H : Type) (enc : TypeId × Value → H) :
    ReturnsInHanded {} Try.checked os 3 .any (Rows.indexMeetsSpec.pre6 enc Try.prog Try.f3 Rows.indexMeetsRow.domain false) (Rows.indexMeetsSpec.post enc Try.prog Try.f3 false true false false) := by
  refine returnsInHanded_of_change_sized (C := Try.checked) own started (by kernel_rfl) Try.func3
    (ChangeSpec.witness6 (enc := enc) (C := Try.checked) false ⟨#[], #[.slice none 0 0, .slice none 0 0], []⟩ 8 (by kernel_rfl) (by kernel_rfl) (by kernel_rfl) (by kernel_rfl)) ?_
  intro W base args ds gs before hval0 hW hcnd hsz0 _
  have hsz : (DataW.weightsEach Try.prog (Try.f3.params.toList ++ Rows.indexMeetsSpec.plain.varTypes Try.prog) (ds ++ gs)).all (· ≤ reachBytes) = true := hsz0
  have hval : ∀ (j : Nat) t v, Try.f3.params[j]? = some t → args[j]? = some v → Value.okWide Try.prog W .any base t v := hval0
  have hW' := hW
  obtain ⟨p, q, hA0, hV, rfl, hfz, hnd⟩ := hW
  have hA : DataW.TrodAll enc Try.prog W 0 (fun _ => true) true Try.f3.params.toList args.toList ds p := hA0
  rw [Try.params3] at hA hval hsz
  obtain ⟨v0, vs0, d0, ds0, p0, q0, hargs, rfl, rfl, h0, r0⟩ := trodAll_cons hA
  obtain ⟨v1, vs1, d1, ds1, p1, q1, rfl, rfl, rfl, h1, r1⟩ := trodAll_cons r0
  obtain ⟨rfl, rfl, rfl⟩ := trodAll_nil r1
  obtain rfl : args = #[v0, v1] := by cases args; simp_all
  obtain ⟨rfl, rfl⟩ := trodVars_none hV
  have k0 := h0
  have lt0 : ∀ x ∈ p0, x.block < W.heap.size := by obtain ⟨m, hm⟩ := k0; exact DataW.trod_lt m _ _ _ hm
  obtain ⟨A0, len0, cap0, rfl⟩ := okWide_slice Try.underlying22 (hval 0 22 v0 rfl rfl)
  have q0 := Op.lite_arg hsz (j := 0) (t := 22) rfl rfl
  obtain ⟨l0, rfl, hc0, hk0, hr0, hg0⟩ := Op.open_arg Try.underlying22 (by kernel_rfl) (by kernel_rfl : _ = 40) (Op.opens_iso (fun x : S41 => (x.f0, x.f1, x.f2)) (fun p => (⟨p.1, p.2.1, p.2.2⟩ : S41)) (fun _ => rfl) (Op.opens_struct Try.underlying41 (by kernel_rfl) (Op.opensF_cons rfl (by kernel_rfl) (Op.opens_int Try.underlying3) (Op.opensF_cons rfl (by kernel_rfl) (Op.opens_int Try.underlying3) (Op.opensF_one rfl (by kernel_rfl) (Op.opens_slice Try.underlying39 (by kernel_rfl) (by kernel_rfl : _ = 56) (Op.opens_iso (fun x : S47 => (x.f0, x.f1, x.f2)) (fun p => (⟨p.1, p.2.1, p.2.2⟩ : S47)) (fun _ => rfl) (Op.opens_struct Try.underlying47 (by kernel_rfl) (Op.opensF_cons rfl (by kernel_rfl) (Op.opens_str Try.underlying9) (Op.opensF_cons rfl (by kernel_rfl) (Op.opens_int Try.underlying3) (Op.opensF_one rfl (by kernel_rfl) (Op.opens_iso (fun x : S45 => (x.f0, x.f1, x.f2)) (fun p => (⟨p.1, p.2.1, p.2.2⟩ : S45)) (fun _ => rfl) (Op.opens_struct Try.underlying45 (by kernel_rfl) (Op.opensF_cons rfl (by kernel_rfl) (Op.opens_int Try.underlying3) (Op.opensF_cons rfl (by kernel_rfl) (Op.opens_int Try.underlying3) (Op.opensF_one rfl (by kernel_rfl) (Op.opens_str Try.underlying9))))))))))))))))) q0 h0
  have k1 := h1
  have lt1 : ∀ x ∈ p1, x.block < W.heap.size := by obtain ⟨m, hm⟩ := k1; exact DataW.trod_lt m _ _ _ hm
  obtain ⟨A1, len1, cap1, rfl⟩ := okWide_slice Try.underlying23 (hval 1 23 v1 rfl rfl)
  have q1 := Op.lite_arg hsz (j := 1) (t := 23) rfl rfl
  obtain ⟨l1, rfl, hc1, hk1, hr1, hg1⟩ := Op.open_arg Try.underlying23 (by kernel_rfl) (by kernel_rfl : _ = 24) (Op.opens_slice Try.underlying31 (by kernel_rfl) (by kernel_rfl : _ = 48) (Op.opens_iso (fun x : S49 => (x.f0, x.f1)) (fun p => (⟨p.1, p.2⟩ : S49)) (fun _ => rfl) (Op.opens_struct Try.underlying49 (by kernel_rfl) (Op.opensF_cons rfl (by kernel_rfl) (Op.opens_str Try.underlying9) (Op.opensF_one rfl (by kernel_rfl) (Op.opens_iso (fun x : S45 => (x.f0, x.f1, x.f2)) (fun p => (⟨p.1, p.2.1, p.2.2⟩ : S45)) (fun _ => rfl) (Op.opens_struct Try.underlying45 (by kernel_rfl) (Op.opensF_cons rfl (by kernel_rfl) (Op.opens_int Try.underlying3) (Op.opensF_cons rfl (by kernel_rfl) (Op.opens_int Try.underlying3) (Op.opensF_one rfl (by kernel_rfl) (Op.opens_str Try.underlying9))))))))))) q1 h1
  clear hA0 hval0 hsz0 hsz
  obtain ⟨k, h⟩ := Pure.IndexMeets l0 l1 hg0 hg1
  refine (rosettelaw12_IndexMeets.calls k A0 cap0 l0 A1 cap1 l1 true W hr0 hc0 hr1 hc1 h).mono fun e W' ⟨he, bel⟩ => ?_
  subst he
  exact ⟨_, rfl, _, _, _, [], _, [], hW', trodAll_mk1 (shut_bool Try.underlying4 _), (trodAll_cons_mk (Below.trod laidOut (by kernel_rfl) (of_decide_eq_true (by kernel_rfl)) k0 bel lt0) (trodAll_cons_mk (Below.trod laidOut (by kernel_rfl) (of_decide_eq_true (by kernel_rfl)) k1 bel lt1) trodAll_mk0)), rfl, bel.frame _, fun h => by cases h⟩
theorem over : Rows.indexMeetsRow.holds Try.pinned (OpenSpec.ofChange Rows.indexMeetsSpec) :=
  OpenClaim.holds_of_wide 3 Try.f3 rfl rfl rfl rfl rfl rfl rfl ⟨rfl, rfl, rfl, rfl, rfl⟩ rfl rfl rfl rfl rfl (by kernel_rfl) Try.func3 (by kernel_rfl)
    (of_decide_eq_true (by kernel_rfl)) (by unfold Func.isWrapper; first | (rw [if_pos (by decide +kernel)]; kernel_rfl) | (rw [if_neg (by decide +kernel)]; exact ⟨rfl, rfl⟩))
    (fun os started H enc _ => lifted os started H enc)
theorem proved : Rows.IndexMeetsSaid := over
#print axioms proved
end Go.Proofs.Ytbcnknmgljdmlaa.indexMeets
namespace Go.Proofs.Ytbcnknmgljdmlaa
/-- The row, under a short name, for the claim. -/
theorem indexMeets_holds : Rows.IndexMeetsSaid := indexMeets.proved
end Go.Proofs.Ytbcnknmgljdmlaa
end
