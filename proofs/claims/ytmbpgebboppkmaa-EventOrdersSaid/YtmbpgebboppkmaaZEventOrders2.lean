import Derived.Test.YtmbpgebboppkmaaZEventOrders0
import Derived.Test.YtmbpgebboppkmaaZEventOrders1
import Derived.Deep.Slices
import Derived.DataReads
import Derived.ChangeShapes
import Derived.WideLaws
import Derived.SizedLaws
import Derived.Test.YtmbpgebboppkmaaProg
section
-- Written by a program of this session (wip/tools/myprint.py), over the kit's print.
namespace Go.Proofs.Ytmbpgebboppkmaa.G
open Go.RowKit Go.Proofs.YtmbpgebboppkmaaW.PrintWords Go.Proofs.YtmbpgebboppkmaaW.PrintLast Go.Proofs.YtmbpgebboppkmaaW.PrintMore
attribute [local go_sem] max2_int min2_int max_two min_two max_three min_three max_four min_four   -- for this text's walks alone
set_option linter.unusedVariables false
set_option linter.unusedSimpArgs false

/-! ### rosetteref05_Get: function 16 -/
def rosetteref05_Get.l0 : Nat → List (S32) → ByteArray → Int → Option (Int × Int × ByteArray × Bool)
  | 0, _, _, _ => none
  | k + 1, x0, x1, x6 => if x6 < (x0.length : Int) then (if 0 ≤ x6 then (if ((rd_T32 x0 x6).f0).toList = x1.toList then (some ((rd_T32 x0 x6).f1.f0, (rd_T32 x0 x6).f1.f1, (rd_T32 x0 x6).f1.f2, true)) else (rosetteref05_Get.l0 k x0 x1 (wrap64 (x6 + 1)))) else (none)) else (some (0, 0, (⟨#[]⟩ : ByteArray), false))
def rosetteref05_Get.f (k : Nat) (l0 : List (S32)) (a1 : ByteArray) : Option (Int × Int × ByteArray × Bool) := rosetteref05_Get.l0 k l0 a1 0
theorem rosetteref05_Get.mono_l : ∀ k, (∀ y0 y1 y2, LeO (rosetteref05_Get.l0 k y0 y1 y2) (rosetteref05_Get.l0 (k + 1) y0 y1 y2))
  | 0 => fun _ _ _ r h => by simp [rosetteref05_Get.l0] at h
  | k + 1 => by
    have ih0 := rosetteref05_Get.mono_l k
    · intro y0 y1 y2
      unfold rosetteref05_Get.l0
      repeat' first
      | (with_reducible exact ih0 _ _ _)
      | (with_reducible exact LeO.refl _)
      | (with_reducible exact LeO.none _)
      | (with_reducible refine LeO.ite ?_ ?_)
      | (with_reducible refine LeO.bind ?_ (fun _ => ?_))
      | exact ih0 _ _ _
      | exact LeO.none _
      | refine LeO.ite ?_ ?_
      | refine LeO.bind ?_ (fun _ => ?_)
theorem rosetteref05_Get.mono : ∀ a0 a1 k, LeO (rosetteref05_Get.f k a0 a1) (rosetteref05_Get.f (k + 1) a0 a1) := by
  intro a0 a1 k
  have ih0 := rosetteref05_Get.mono_l k
  unfold rosetteref05_Get.f
  repeat' first
      | (with_reducible exact ih0 _ _ _)
      | (with_reducible exact LeO.refl _)
      | (with_reducible exact LeO.none _)
      | (with_reducible refine LeO.ite ?_ ?_)
      | (with_reducible refine LeO.bind ?_ (fun _ => ?_))
      | exact ih0 _ _ _
      | exact LeO.none _
      | refine LeO.ite ?_ ?_
      | refine LeO.bind ?_ (fun _ => ?_)
set_option maxHeartbeats 8000000 in
set_option maxRecDepth 100000 in
theorem rosetteref05_Get.calls (k : Nat) (A0 : Option Addr) (c0 : Nat) (l0 : List (S32)) (a1 : ByteArray) (r1 : Int) (r2 : Int) (r3 : ByteArray) (r4 : Bool) (w : World) (hr0 : Kd.C k32 w A0 l0.length l0) (hc0 : l0.length ≤ c0) (h : rosetteref05_Get.f k l0 a1 = some (r1, r2, r3, r4)) :
    Calls Try.prog 16 #[.slice A0 l0.length c0, .string a1] w fun e w' => e = .returned (.tuple #[.agg #[.int .i64 r1, .int .i64 r2, .string r3], .bool r4]) ∧ Below w.heap.size w w' := by
  have hu30 := Try.underlying30
  have HR0 := Aside0.mk hr0
  have HC0 := Aside0.mk hc0
  clear hr0 hc0
  have HB := Aside0.mk (Below.refl w.heap.size w)
  have H : (rosetteref05_Get.l0 k l0 a1 0) = some (r1, r2, r3, r4) := h
  clear h
  have H' := Aside0.mk H
  clear H
  go_enter Try.func16, Try.ntmps16
  go_wp2_with (first | ((with_reducible refine gate_dst (N := 4) rfl ?_); refine box_event ?hg (N := 4) ?hd (cs := #[.int .i64 0, .int .i64 0, .string (⟨#[]⟩ : ByteArray)]) (t := 30) ?hr ?_; (case hd => rfl); (case hg => rfl); (case hr => first | (go_simp; done) | (go_simp; rfl)); intro gb192 hg w3 hbox hb; have n0_ := Aside0.mk (below_step (by repeat (first | (with_reducible first | exact HB.out | apply below_alloc | apply pw_below_drewN | apply below_drew1) | exact HB.out)) hb); have n1_ := Aside0.mk (hbox); have n2_ := Aside0.mk ((by rw [hg]; exact (below_size (by repeat (first | (with_reducible first | exact HB.out | apply below_alloc | apply pw_below_drewN | apply below_drew1) | exact HB.out))) : w.heap.size ≤ gb192)); have n3_ := Aside0.mk ((by rw [hg]; exact (below_size (by repeat (first | (with_reducible first | exact HB.out | apply below_alloc | apply pw_below_drewN | apply below_drew1) | exact HB.out))) : w.heap.size ≤ gb192)); clear HB; have HB := n0_; have BK192 := n1_; have GW192 := n2_; have GE192 := n3_; clear n0_ n1_ n2_ n3_; clear hb hbox hg))
  go_loopg [6] k (fun kq v6 w' => ∃ (x6_1 : Int) (x193000_1 : Int) (x193001_1 : Int) (x193002_1 : ByteArray), v6 = .int .i64 x6_1 ∧ Aside0 (rosetteref05_Get.l0 kq l0 a1 x6_1 = some (r1, r2, r3, r4)) ∧ Aside0 (kq ≤ k) ∧ Aside0 (w'.heap[gb192]? = some (.cells #[.int .i64 x193000_1, .int .i64 x193001_1, .string x193002_1] 30 (0, 0))) ∧ Aside0 (Below w.heap.size w w'))
  case atStart => exact ⟨(0), (0), (0), ((⟨#[]⟩ : ByteArray)), (by first | rfl | (simp; done) | (simp [*]; done)), H', ⟨Nat.le_refl _⟩, ⟨by (with_reducible repeat (first | refine blk_drewN ?_ _ | refine blk_drew ?_ | refine blk_alloc ?_ _)); exact BK192.out⟩, ⟨by repeat (first | (with_reducible first | exact HB.out | apply below_alloc | apply pw_below_drewN | apply below_drew1 | refine below_set ?_ GE192.out) | exact HB.out)⟩⟩
  case round =>
    clear H'
    try clear c1
    try clear p2
    obtain ⟨x6_1, x193000_1, x193001_1, x193002_1, rfl, HA, HK1, BK192, HB⟩ := hrel
    cases gk with
    | zero => exact absurd HA.out (by simp [rosetteref05_Get.l0])
    | succ k1 =>
      have H := HA.out
      clear HA
      simp only [rosetteref05_Get.l0] at H
      by_cases c4 : x6_1 < (l0.length : Int)
      · rw [if_pos c4] at H
        have c4b0 : decide (x6_1 < (l0.length : Int)) = true := decide_eq_true c4
        clear c4
        by_cases c5 : 0 ≤ x6_1
        · rw [if_pos c5] at H
          have c5b0 : decide (0 ≤ x6_1) = true := decide_eq_true c5
          clear c5
          by_cases c6 : ((rd_T32 l0 x6_1).f0).toList = a1.toList
          · rw [if_pos c6] at H
            have c6b0 : (((rd_T32 l0 x6_1).f0).toList == a1.toList) = true := beq_iff_eq.mpr c6
            have c6b1 : (((rd_T32 l0 x6_1).f0).toList != a1.toList) = false := bne_eq_false_iff_eq.mpr c6
            clear c6
            simp only [Option.some.injEq, Prod.mk.injEq] at H
            obtain ⟨rfl, rfl, rfl, rfl⟩ := H
            have p193 : 0 ≤ (x6_1 : Int) := of_decide_eq_true (by first | (with_reducible assumption) | assumption)
            have q193 : x6_1 < (l0.length : Int) := of_decide_eq_true (by first | (with_reducible assumption) | assumption)
            obtain ⟨ad193, e193, hx193_0, hx193_1, hx193_2, hx193_3⟩ := at_T32 HR0.out x6_1 p193 q193
            cases e193
            replace hx193_0 := (HB.out.cell (World.block_lt_of_cell? w _ hx193_0)).trans hx193_0
            replace hx193_1 := (HB.out.cell (World.block_lt_of_cell? w _ hx193_1)).trans hx193_1
            replace hx193_2 := (HB.out.cell (World.block_lt_of_cell? w _ hx193_2)).trans hx193_2
            replace hx193_3 := (HB.out.cell (World.block_lt_of_cell? w _ hx193_3)).trans hx193_3
            replace p193 := eq_true p193
            replace q193 := eq_true q193
            have p194 : 0 ≤ (x6_1 : Int) := of_decide_eq_true (by first | (with_reducible assumption) | assumption)
            have q194 : x6_1 < (l0.length : Int) := of_decide_eq_true (by first | (with_reducible assumption) | assumption)
            obtain ⟨ad194, e194, hx194_0, hx194_1, hx194_2, hx194_3⟩ := at_T32 HR0.out x6_1 p194 q194
            obtain rfl : ad193 = ad194 := (by injection e194)
            replace hx194_0 := (HB.out.cell (World.block_lt_of_cell? w _ hx194_0)).trans hx194_0
            replace hx194_1 := (HB.out.cell (World.block_lt_of_cell? w _ hx194_1)).trans hx194_1
            replace hx194_2 := (HB.out.cell (World.block_lt_of_cell? w _ hx194_2)).trans hx194_2
            replace hx194_3 := (HB.out.cell (World.block_lt_of_cell? w _ hx194_3)).trans hx194_3
            replace p194 := eq_true p194
            replace q194 := eq_true q194
            have hcz7_0 : wr.cell? ⟨gb192, 0, none⟩ = some (.int .i64 x193000_1) := (blk_cell BK192.out 0).trans rfl
            have hcz7_1 : wr.cell? ⟨gb192, 1, none⟩ = some (.int .i64 x193001_1) := (blk_cell BK192.out 1).trans rfl
            have hcz7_2 : wr.cell? ⟨gb192, 2, none⟩ = some (.string x193002_1) := (blk_cell BK192.out 2).trans rfl
            have hfz7_0 := blk_frozen BK192.out 0
            have hfz7_1 := blk_frozen BK192.out 1
            have hfz7_2 := blk_frozen BK192.out 2
            go_wp2
            refine bodyPost_ret (results_ct rfl _ _ gb192 30 #[.int .i64 ((rd_T32 l0 x6_1).f1.f0), .int .i64 ((rd_T32 l0 x6_1).f1.f1), .string ((rd_T32 l0 x6_1).f1.f2)] (0, 0) _ rfl (by (with_reducible repeat (first | refine blk_drewN ?_ _ | refine blk_drew ?_ | refine blk_alloc ?_ _)); refine blk_put (cs := #[.int .i64 ((rd_T32 l0 x6_1).f1.f0), .int .i64 ((rd_T32 l0 x6_1).f1.f1), .string x193002_1]) ?_ 2 _ rfl; (with_reducible repeat (first | refine blk_drewN ?_ _ | refine blk_drew ?_ | refine blk_alloc ?_ _)); refine blk_put (cs := #[.int .i64 ((rd_T32 l0 x6_1).f1.f0), .int .i64 x193001_1, .string x193002_1]) ?_ 1 _ rfl; (with_reducible repeat (first | refine blk_drewN ?_ _ | refine blk_drew ?_ | refine blk_alloc ?_ _)); refine blk_put (cs := #[.int .i64 x193000_1, .int .i64 x193001_1, .string x193002_1]) ?_ 0 _ rfl; (with_reducible repeat (first | refine blk_drewN ?_ _ | refine blk_drew ?_ | refine blk_alloc ?_ _)); exact BK192.out) Try.underlying30 rfl (by kernel_rfl)) rfl ?_
            exact ⟨by first | rfl | (simp [errW_none, errW_some] <;> rfl) | (simp [*, errW_none, errW_some] <;> rfl), by repeat (first | (with_reducible first | exact HB.out | apply below_alloc | apply pw_below_drewN | apply below_drew1 | refine below_set ?_ GE192.out) | exact HB.out)⟩
          · rw [if_neg c6] at H
            have c6b0 : (((rd_T32 l0 x6_1).f0).toList == a1.toList) = false := beq_eq_false_iff_ne.mpr c6
            have c6b1 : (((rd_T32 l0 x6_1).f0).toList != a1.toList) = true := bne_iff_ne.mpr c6
            have H' := Aside0.mk H
            clear H
            have p193 : 0 ≤ (x6_1 : Int) := of_decide_eq_true (by first | (with_reducible assumption) | assumption)
            have q193 : x6_1 < (l0.length : Int) := of_decide_eq_true (by first | (with_reducible assumption) | assumption)
            obtain ⟨ad193, e193, hx193_0, hx193_1, hx193_2, hx193_3⟩ := at_T32 HR0.out x6_1 p193 q193
            cases e193
            replace hx193_0 := (HB.out.cell (World.block_lt_of_cell? w _ hx193_0)).trans hx193_0
            replace hx193_1 := (HB.out.cell (World.block_lt_of_cell? w _ hx193_1)).trans hx193_1
            replace hx193_2 := (HB.out.cell (World.block_lt_of_cell? w _ hx193_2)).trans hx193_2
            replace hx193_3 := (HB.out.cell (World.block_lt_of_cell? w _ hx193_3)).trans hx193_3
            replace p193 := eq_true p193
            replace q193 := eq_true q193
            go_wp2
            go_roundg k1
            case measure => have := HK1.out; omega
            case rel => exact ⟨(wrap64 (x6_1 + 1)), (x193000_1), (x193001_1), (x193002_1), (by first | rfl | (simp; done) | (simp [*]; done)), H', ⟨by have := HK1.out; omega⟩, ⟨by (with_reducible repeat (first | refine blk_drewN ?_ _ | refine blk_drew ?_ | refine blk_alloc ?_ _)); exact BK192.out⟩, ⟨by repeat (first | (with_reducible first | exact HB.out | apply below_alloc | apply pw_below_drewN | apply below_drew1 | refine below_set ?_ GE192.out) | exact HB.out)⟩⟩
        · rw [if_neg c5] at H
          exact absurd H (by simp)
      · rw [if_neg c4] at H
        have c4b0 : decide (x6_1 < (l0.length : Int)) = false := decide_eq_false c4
        clear c4
        simp only [Option.some.injEq, Prod.mk.injEq] at H
        obtain ⟨rfl, rfl, rfl, rfl⟩ := H
        have hcz8_0 : wr.cell? ⟨gb192, 0, none⟩ = some (.int .i64 x193000_1) := (blk_cell BK192.out 0).trans rfl
        have hcz8_1 : wr.cell? ⟨gb192, 1, none⟩ = some (.int .i64 x193001_1) := (blk_cell BK192.out 1).trans rfl
        have hcz8_2 : wr.cell? ⟨gb192, 2, none⟩ = some (.string x193002_1) := (blk_cell BK192.out 2).trans rfl
        have hfz8_0 := blk_frozen BK192.out 0
        have hfz8_1 := blk_frozen BK192.out 1
        have hfz8_2 := blk_frozen BK192.out 2
        go_wp2
        refine bodyPost_ret (results_ct rfl _ _ gb192 30 #[.int .i64 0, .int .i64 0, .string (⟨#[]⟩ : ByteArray)] (0, 0) _ rfl (by (with_reducible repeat (first | refine blk_drewN ?_ _ | refine blk_drew ?_ | refine blk_alloc ?_ _)); refine blk_put (cs := #[.int .i64 0, .int .i64 0, .string x193002_1]) ?_ 2 _ rfl; (with_reducible repeat (first | refine blk_drewN ?_ _ | refine blk_drew ?_ | refine blk_alloc ?_ _)); refine blk_put (cs := #[.int .i64 0, .int .i64 x193001_1, .string x193002_1]) ?_ 1 _ rfl; (with_reducible repeat (first | refine blk_drewN ?_ _ | refine blk_drew ?_ | refine blk_alloc ?_ _)); refine blk_put (cs := #[.int .i64 x193000_1, .int .i64 x193001_1, .string x193002_1]) ?_ 0 _ rfl; (with_reducible repeat (first | refine blk_drewN ?_ _ | refine blk_drew ?_ | refine blk_alloc ?_ _)); exact BK192.out) Try.underlying30 rfl (by kernel_rfl)) rfl ?_
        exact ⟨by first | rfl | (simp [errW_none, errW_some] <;> rfl) | (simp [*, errW_none, errW_some] <;> rfl), by repeat (first | (with_reducible first | exact HB.out | apply below_alloc | apply pw_below_drewN | apply below_drew1 | refine below_set ?_ GE192.out) | exact HB.out)⟩

end Go.Proofs.Ytmbpgebboppkmaa.G
end

section
/- what the reference looks up; plain laws -/
set_option linter.unusedVariables false
set_option linter.unusedSimpArgs false
set_option autoImplicit false
namespace Go.Proofs.Ytmbpgebboppkmaa
open Go Go.RowKit Go.Proofs.YtmbpgebboppkmaaW.PrintWords Go.Proofs.YtmbpgebboppkmaaW.PrintLast Go.Proofs.Ytmbpgebboppkmaa.G

theorem w_next (i : Nat) (h : i ≤ 4611686018427387904) : wrap64 ((i : Int) + 1) = ((i + 1 : Nat) : Int) := by unfold wrap64; omega
theorem get_ev (e : List S32) (n : ByteArray) (he : e.length ≤ 4611686018427387904) : ∀ (d i : Nat), i + d = e.length → Ev fun k => rosetteref05_Get.l0 k e n (i : Int) = event_Get.f (e.drop i) n := by
  intro d
  induction d with
  | zero =>
    intro i hi
    refine Ev.now fun k => ?_
    simp only [rosetteref05_Get.l0]
    rw [if_neg (by omega), List.drop_eq_nil_of_le (by omega)]
    rfl
  | succ d ih =>
    intro i hi
    refine (ih (i + 1) (by omega)).succ fun k hk => ?_
    have hlt : i < e.length := by omega
    have hx : rd_T32 e (i : Int) = e[i] := by simp [rd_T32, List.getD_eq_getElem?_getD, hlt]
    simp only [rosetteref05_Get.l0]
    rw [if_pos (by omega), if_pos (by omega), hx, List.drop_eq_getElem_cons hlt, w_next i (by omega), hk]
    unfold event_Get.f
    rw [List.find?_cons]
    by_cases h : e[i].f0.toList = n.toList
    · rw [if_pos h]; simp [h]
    · rw [if_neg h, show (e[i].f0.toList == n.toList) = false by simpa using h]
theorem get5_ev (e : List S32) (n : ByteArray) (he : GoodA e) : Ev fun k => rosetteref05_Get.f k e n = event_Get.f e n :=
  (get_ev e n (by have := he.1.2; omega) e.length 0 (by omega)).mono fun k hk => hk
end Go.Proofs.Ytmbpgebboppkmaa
end

section
-- Written by a program of this session (wip/tools/myprint.py), over the kit's print.
namespace Go.Proofs.Ytmbpgebboppkmaa.G
open Go.RowKit Go.Proofs.YtmbpgebboppkmaaW.PrintWords Go.Proofs.YtmbpgebboppkmaaW.PrintLast Go.Proofs.YtmbpgebboppkmaaW.PrintMore
attribute [local go_sem] max2_int min2_int max_two min_two max_three min_three max_four min_four   -- for this text's walks alone
set_option linter.unusedVariables false
set_option linter.unusedSimpArgs false

/-! ### rosetteref04_less: function 34 -/
mutual
def rosetteref04_less.l0 : Nat → ByteArray → ByteArray → Int → Option (Bool)
  | 0, _, _, _ => none
  | k + 1, x0, x1, x5 => if x5 < (x0.size : Int) then (rosetteref04_less.j1 k x0 x1 x5 (decide (x5 < (x1.size : Int)))) else (rosetteref04_less.j1 k x0 x1 x5 false)
def rosetteref04_less.j1 : Nat → ByteArray → ByteArray → Int → Bool → Option (Bool)
  | 0, _, _, _, _ => none
  | k + 1, x0, x1, x5, x15 => if x15 = true then (if 0 ≤ x5 then (if x5 < (x0.size : Int) then (if x5 < (x1.size : Int) then (if (bt x0 x5) = (bt x1 x5) then (rosetteref04_less.l0 k x0 x1 (wrap64 (x5 + 1))) else (some (decide ((bt x0 x5) < (bt x1 x5))))) else (none)) else (none)) else (none)) else (some (decide ((x0.size : Int) < (x1.size : Int))))
end
def rosetteref04_less.f (k : Nat) (a0 : ByteArray) (a1 : ByteArray) : Option (Bool) := rosetteref04_less.l0 k a0 a1 0
theorem rosetteref04_less.mono_l : ∀ k, (∀ y0 y1 y2, LeO (rosetteref04_less.l0 k y0 y1 y2) (rosetteref04_less.l0 (k + 1) y0 y1 y2)) ∧ (∀ y0 y1 y2 y3, LeO (rosetteref04_less.j1 k y0 y1 y2 y3) (rosetteref04_less.j1 (k + 1) y0 y1 y2 y3))
  | 0 => ⟨fun _ _ _ r h => by simp [rosetteref04_less.l0] at h, fun _ _ _ _ r h => by simp [rosetteref04_less.j1] at h⟩
  | k + 1 => by
    obtain ⟨ih0, ih1⟩ := rosetteref04_less.mono_l k
    refine ⟨?_, ?_⟩
    · intro y0 y1 y2
      unfold rosetteref04_less.l0
      repeat' first
      | (with_reducible exact ih0 _ _ _)
      | (with_reducible exact ih1 _ _ _ _)
      | (with_reducible exact LeO.refl _)
      | (with_reducible exact LeO.none _)
      | (with_reducible refine LeO.ite ?_ ?_)
      | (with_reducible refine LeO.bind ?_ (fun _ => ?_))
      | exact ih0 _ _ _
      | exact ih1 _ _ _ _
      | exact LeO.none _
      | refine LeO.ite ?_ ?_
      | refine LeO.bind ?_ (fun _ => ?_)
    · intro y0 y1 y2 y3
      unfold rosetteref04_less.j1
      repeat' first
      | (with_reducible exact ih0 _ _ _)
      | (with_reducible exact ih1 _ _ _ _)
      | (with_reducible exact LeO.refl _)
      | (with_reducible exact LeO.none _)
      | (with_reducible refine LeO.ite ?_ ?_)
      | (with_reducible refine LeO.bind ?_ (fun _ => ?_))
      | exact ih0 _ _ _
      | exact ih1 _ _ _ _
      | exact LeO.none _
      | refine LeO.ite ?_ ?_
      | refine LeO.bind ?_ (fun _ => ?_)
theorem rosetteref04_less.mono : ∀ a0 a1 k, LeO (rosetteref04_less.f k a0 a1) (rosetteref04_less.f (k + 1) a0 a1) := by
  intro a0 a1 k
  obtain ⟨ih0, ih1⟩ := rosetteref04_less.mono_l k
  unfold rosetteref04_less.f
  repeat' first
      | (with_reducible exact ih0 _ _ _)
      | (with_reducible exact ih1 _ _ _ _)
      | (with_reducible exact LeO.refl _)
      | (with_reducible exact LeO.none _)
      | (with_reducible refine LeO.ite ?_ ?_)
      | (with_reducible refine LeO.bind ?_ (fun _ => ?_))
      | exact ih0 _ _ _
      | exact ih1 _ _ _ _
      | exact LeO.none _
      | refine LeO.ite ?_ ?_
      | refine LeO.bind ?_ (fun _ => ?_)
set_option maxHeartbeats 8000000 in
set_option maxRecDepth 100000 in
theorem rosetteref04_less.calls (k : Nat) (a0 : ByteArray) (a1 : ByteArray) (r : Bool) (w : World) (h : rosetteref04_less.f k a0 a1 = some r) :
    Calls Try.prog 34 #[.string a0, .string a1] w fun e w' => e = .returned (.bool r) ∧ Drawn0 w w' := by
  have H : (rosetteref04_less.l0 k a0 a1 0) = some r := h
  clear h
  have H' := Aside0.mk H
  clear H
  go_enter Try.func34, Try.ntmps34
  go_wp2
  repeat (go_quiet (fail); try go_wp2)
  go_loopg [5] k (fun kq v5 w' => ∃ (x5_1 : Int), v5 = .int .i64 x5_1 ∧ Aside0 (rosetteref04_less.l0 kq a0 a1 x5_1 = some r) ∧ Aside0 (kq ≤ k) ∧ Drawn0 w w')
  case atStart => exact ⟨(0), (by first | rfl | (simp; done) | (simp [*]; done)), H', ⟨Nat.le_refl _⟩, by repeat (first | exact Drawn0.refl _ | apply Drawn0.step)⟩
  case round =>
    clear H'
    try clear p2
    obtain ⟨x5_1, rfl, HA, HK1, ⟨m1, rfl⟩⟩ := hrel
    cases gk with
    | zero => exact absurd HA.out (by simp [rosetteref04_less.l0])
    | succ k1 =>
      have H := HA.out
      clear HA
      simp only [rosetteref04_less.l0] at H
      have HC3 := Aside0.mk H
      clear H
      go_upto_region 2 with (fail)
      repeat (go_quiet (fail); go_upto_region 2 with (fail))
      go_cut [15] (fun v15 wc => ∃ (kq : Nat) (x15_2 : Bool), v15 = .bool x15_2 ∧ Aside0 (rosetteref04_less.j1 kq a0 a1 x5_1 x15_2 = some r) ∧ Aside0 (kq ≤ k1) ∧ Drawn0 w wc)
      case first =>
        have H := HC3.out
        clear HC3
        by_cases c4 : x5_1 < (a0.size : Int)
        · rw [if_pos c4] at H
          have c4b0 : decide (x5_1 < (a0.size : Int)) = true := decide_eq_true c4
          clear c4
          (first | rw [c4b0] | (simp only [i64_w, i32_w]; rw [c4b0]) | skip)
          have H' := Aside0.mk H
          clear H
          go_wp2
          repeat (go_quiet (fail); try go_wp2)
          go_meet
          case rel => exact ⟨_, (decide (x5_1 < (a1.size : Int))), (by first | rfl | (simp; done) | (simp [*]; done)), H', ⟨by have := HK1.out; first | omega | exact Nat.le_refl _⟩, by repeat (first | exact Drawn0.refl _ | apply Drawn0.step)⟩
        · rw [if_neg c4] at H
          have c4b0 : decide (x5_1 < (a0.size : Int)) = false := decide_eq_false c4
          clear c4
          (first | rw [c4b0] | (simp only [i64_w, i32_w]; rw [c4b0]) | skip)
          have H' := Aside0.mk H
          clear H
          go_wp2
          repeat (go_quiet (fail); try go_wp2)
          go_meet
          case rel => exact ⟨_, (false), (by first | rfl | (simp; done) | (simp [*]; done)), H', ⟨by have := HK1.out; first | omega | exact Nat.le_refl _⟩, by repeat (first | exact Drawn0.refl _ | apply Drawn0.step)⟩
      case rest =>
        clear HC3
        try clear p2
        try clear c3
        try clear c4
        try clear c4b0
        try clear p2
        obtain ⟨kq, x15_2, rfl, HA, HJ2, ⟨mc2, rfl⟩⟩ := hcut
        cases kq with
        | zero => exact absurd HA.out (by simp [rosetteref04_less.j1])
        | succ kj2 =>
          have H := HA.out
          clear HA
          simp only [rosetteref04_less.j1] at H
          by_cases c5 : x15_2 = true
          · subst c5
            have H1 : (if 0 ≤ x5_1 then (if x5_1 < (a0.size : Int) then (if x5_1 < (a1.size : Int) then (if (bt a0 x5_1) = (bt a1 x5_1) then (rosetteref04_less.l0 kj2 a0 a1 (wrap64 (x5_1 + 1))) else (some (decide ((bt a0 x5_1) < (bt a1 x5_1))))) else (none)) else (none)) else (none)) = some r := by rw [if_pos rfl] at H; exact H
            clear H
            have H := H1
            clear H1
            by_cases c6 : 0 ≤ x5_1
            · rw [if_pos c6] at H
              have c6b0 : decide (0 ≤ x5_1) = true := decide_eq_true c6
              clear c6
              by_cases c7 : x5_1 < (a0.size : Int)
              · rw [if_pos c7] at H
                have c7b0 : decide (x5_1 < (a0.size : Int)) = true := decide_eq_true c7
                clear c7
                by_cases c9 : x5_1 < (a1.size : Int)
                · rw [if_pos c9] at H
                  have c9b0 : decide (x5_1 < (a1.size : Int)) = true := decide_eq_true c9
                  clear c9
                  by_cases c11 : (bt a0 x5_1) = (bt a1 x5_1)
                  · rw [if_pos c11] at H
                    have c11b0 : ((bt a0 x5_1) == (bt a1 x5_1)) = true := beq_iff_eq.mpr c11
                    have c11b1 : ((bt a0 x5_1) != (bt a1 x5_1)) = false := bne_eq_false_iff_eq.mpr c11
                    clear c11
                    have H' := Aside0.mk H
                    clear H
                    have p8 : 0 ≤ (x5_1 : Int) := of_decide_eq_true (by first | (with_reducible assumption) | assumption)
                    have q8 : x5_1 < (a0.size : Int) := of_decide_eq_true (by first | (with_reducible assumption) | assumption)
                    have hx8 := bt_at a0 x5_1
                    replace p8 := eq_true p8
                    replace q8 := eq_true q8
                    have p10 : 0 ≤ (x5_1 : Int) := of_decide_eq_true (by first | (with_reducible assumption) | assumption)
                    have q10 : x5_1 < (a1.size : Int) := of_decide_eq_true (by first | (with_reducible assumption) | assumption)
                    have hx10 := bt_at a1 x5_1
                    replace p10 := eq_true p10
                    replace q10 := eq_true q10
                    go_wp2
                    repeat (go_quiet (fail); try go_wp2)
                    go_roundg kj2
                    case measure => have := HK1.out; have := HJ2.out; omega
                    case rel => exact ⟨(wrap64 (x5_1 + 1)), (by first | rfl | (simp; done) | (simp [*]; done)), H', ⟨by have := HK1.out; have := HJ2.out; omega⟩, by repeat (first | exact Drawn0.refl _ | apply Drawn0.step)⟩
                  · rw [if_neg c11] at H
                    have c11b0 : ((bt a0 x5_1) == (bt a1 x5_1)) = false := beq_eq_false_iff_ne.mpr c11
                    have c11b1 : ((bt a0 x5_1) != (bt a1 x5_1)) = true := bne_iff_ne.mpr c11
                    obtain rfl := Option.some.inj H
                    have p8 : 0 ≤ (x5_1 : Int) := of_decide_eq_true (by first | (with_reducible assumption) | assumption)
                    have q8 : x5_1 < (a0.size : Int) := of_decide_eq_true (by first | (with_reducible assumption) | assumption)
                    have hx8 := bt_at a0 x5_1
                    replace p8 := eq_true p8
                    replace q8 := eq_true q8
                    have p10 : 0 ≤ (x5_1 : Int) := of_decide_eq_true (by first | (with_reducible assumption) | assumption)
                    have q10 : x5_1 < (a1.size : Int) := of_decide_eq_true (by first | (with_reducible assumption) | assumption)
                    have hx10 := bt_at a1 x5_1
                    replace p10 := eq_true p10
                    replace q10 := eq_true q10
                    have p12 : 0 ≤ (x5_1 : Int) := of_decide_eq_true (by first | (with_reducible assumption) | assumption)
                    have q12 : x5_1 < (a0.size : Int) := of_decide_eq_true (by first | (with_reducible assumption) | assumption)
                    have hx12 := bt_at a0 x5_1
                    replace p12 := eq_true p12
                    replace q12 := eq_true q12
                    have p13 : 0 ≤ (x5_1 : Int) := of_decide_eq_true (by first | (with_reducible assumption) | assumption)
                    have q13 : x5_1 < (a1.size : Int) := of_decide_eq_true (by first | (with_reducible assumption) | assumption)
                    have hx13 := bt_at a1 x5_1
                    replace p13 := eq_true p13
                    replace q13 := eq_true q13
                    go_wp2
                    repeat (go_quiet (fail); try go_wp2)
                    go_ret
                    exact ⟨by first | rfl | (simp; done) | (simp [*]; done), by repeat (first | exact Drawn0.refl _ | apply Drawn0.step)⟩
                · rw [if_neg c9] at H
                  exact absurd H (by simp)
              · rw [if_neg c7] at H
                exact absurd H (by simp)
            · rw [if_neg c6] at H
              exact absurd H (by simp)
          · replace c5 := Bool.eq_false_iff.mpr c5
            subst c5
            have H1 : (some (decide ((a0.size : Int) < (a1.size : Int)))) = some r := by rw [if_neg (show ¬ (false = true) by decide)] at H; exact H
            clear H
            have H := H1
            clear H1
            obtain rfl := Option.some.inj H
            go_wp2
            repeat (go_quiet (fail); try go_wp2)
            go_ret
            exact ⟨by first | rfl | (simp; done) | (simp [*]; done), by repeat (first | exact Drawn0.refl _ | apply Drawn0.step)⟩

end Go.Proofs.Ytmbpgebboppkmaa.G
end

section
-- Written by a program of this session (wip/tools/myprint.py), over the kit's print.
namespace Go.Proofs.Ytmbpgebboppkmaa.G
open Go.RowKit Go.Proofs.YtmbpgebboppkmaaW.PrintWords Go.Proofs.YtmbpgebboppkmaaW.PrintLast Go.Proofs.YtmbpgebboppkmaaW.PrintMore
attribute [local go_sem] max2_int min2_int max_two min_two max_three min_three max_four min_four   -- for this text's walks alone
set_option linter.unusedVariables false
set_option linter.unusedSimpArgs false

/-! ### rosetteref04_Text: function 25 -/
def rosetteref04_Text.f (k : Nat) (a0 : ByteArray) (a1 : ByteArray) : Option (Int) := if a0.toList = a1.toList then (some 0) else ((rosetteref04_less.f k a0 a1).bind fun t116 => (if t116 = true then (some (-1)) else (some 1)))
theorem rosetteref04_Text.mono : ∀ a0 a1 k, LeO (rosetteref04_Text.f k a0 a1) (rosetteref04_Text.f (k + 1) a0 a1) := by
  intro a0 a1 k
  unfold rosetteref04_Text.f
  repeat' first
      | (with_reducible exact rosetteref04_less.mono _ _ _)
      | (with_reducible exact LeO.refl _)
      | (with_reducible exact LeO.none _)
      | (with_reducible refine LeO.ite ?_ ?_)
      | (with_reducible refine LeO.bind ?_ (fun _ => ?_))
      | exact rosetteref04_less.mono _ _ _
      | exact LeO.none _
      | refine LeO.ite ?_ ?_
      | refine LeO.bind ?_ (fun _ => ?_)
set_option maxHeartbeats 8000000 in
set_option maxRecDepth 100000 in
theorem rosetteref04_Text.calls (k : Nat) (a0 : ByteArray) (a1 : ByteArray) (r : Int) (w : World) (h : rosetteref04_Text.f k a0 a1 = some r) :
    Calls Try.prog 25 #[.string a0, .string a1] w fun e w' => e = .returned (.int .i64 r) ∧ Drawn0 w w' := by
  have H : (if a0.toList = a1.toList then (some 0) else ((rosetteref04_less.f k a0 a1).bind fun t116 => (if t116 = true then (some (-1)) else (some 1)))) = some r := h
  clear h
  by_cases c3 : a0.toList = a1.toList
  · rw [if_pos c3] at H
    have c3b0 : (a0.toList == a1.toList) = true := beq_iff_eq.mpr c3
    have c3b1 : (a0.toList != a1.toList) = false := bne_eq_false_iff_eq.mpr c3
    clear c3
    obtain rfl := Option.some.inj H
    go_enter Try.func25, Try.ntmps25
    go_wp2
    go_ret
    exact ⟨by first | rfl | (simp; done) | (simp [*]; done), by repeat (first | exact Drawn0.refl _ | apply Drawn0.step)⟩
  · rw [if_neg c3] at H
    have c3b0 : (a0.toList == a1.toList) = false := beq_eq_false_iff_ne.mpr c3
    have c3b1 : (a0.toList != a1.toList) = true := bne_iff_ne.mpr c3
    replace H := Option.bind_eq_some_iff.mp H
    obtain ⟨t116, A40, H⟩ := H
    replace H : (if t116 = true then (some (-1)) else (some 1)) = some r := H
    have A4 := Aside0.mk A40
    clear A40
    by_cases c5 : t116 = true
    · subst c5
      have H1 : (some (-1)) = some r := by rw [if_pos rfl] at H; exact H
      clear H
      have H := H1
      clear H1
      obtain rfl := Option.some.inj H
      go_enter Try.func25, Try.ntmps25
      go_wp2_with (first | ((with_reducible refine gate_callee (f := 34) rfl ?_); refine goesL_ (some 10) rfl rfl Try.func34 (by kernel_rfl) rfl #[.string a0, .string a1] rfl (by (try simp only [List.map_toArray, List.map_cons, List.map_nil]); first | done | rfl | (simp only [List.length_drop, List.length_take]; rfl)) ?_; (with_reducible refine (rosetteref04_less.calls k a0 a1 true _ A4.out).mono ?_); rintro e w' ⟨rfl, ⟨nd, rfl⟩⟩; refine ⟨_, rfl, ?_⟩))
      go_ret
      exact ⟨by first | rfl | (simp; done) | (simp [*]; done), by repeat (first | exact Drawn0.refl _ | apply Drawn0.step)⟩
    · replace c5 := Bool.eq_false_iff.mpr c5
      subst c5
      have H1 : (some 1) = some r := by rw [if_neg (show ¬ (false = true) by decide)] at H; exact H
      clear H
      have H := H1
      clear H1
      obtain rfl := Option.some.inj H
      go_enter Try.func25, Try.ntmps25
      go_wp2_with (first | ((with_reducible refine gate_callee (f := 34) rfl ?_); refine goesL_ (some 10) rfl rfl Try.func34 (by kernel_rfl) rfl #[.string a0, .string a1] rfl (by (try simp only [List.map_toArray, List.map_cons, List.map_nil]); first | done | rfl | (simp only [List.length_drop, List.length_take]; rfl)) ?_; (with_reducible refine (rosetteref04_less.calls k a0 a1 false _ A4.out).mono ?_); rintro e w' ⟨rfl, ⟨nd, rfl⟩⟩; refine ⟨_, rfl, ?_⟩))
      go_ret
      exact ⟨by first | rfl | (simp; done) | (simp [*]; done), by repeat (first | exact Drawn0.refl _ | apply Drawn0.step)⟩

end Go.Proofs.Ytmbpgebboppkmaa.G
end

section
-- Written by a program of this session (wip/tools/myprint.py), over the kit's print.
namespace Go.Proofs.Ytmbpgebboppkmaa.G
open Go.RowKit Go.Proofs.YtmbpgebboppkmaaW.PrintWords Go.Proofs.YtmbpgebboppkmaaW.PrintLast Go.Proofs.YtmbpgebboppkmaaW.PrintMore
attribute [local go_sem] max2_int min2_int max_two min_two max_three min_three max_four min_four   -- for this text's walks alone
set_option linter.unusedVariables false
set_option linter.unusedSimpArgs false

/-! ### rosetteref05_Right: function 14 -/
def rosetteref05_Right.l0 : Nat → List (S32) → Int → Option (Bool)
  | 0, _, _ => none
  | k + 1, x0, x3 => if x3 < (x0.length : Int) then (if 0 ≤ x3 then ((rosetteref05_one.f ((rd_T32 x0 x3).f0) ((rd_T32 x0 x3).f1.f0) ((rd_T32 x0 x3).f1.f1) ((rd_T32 x0 x3).f1.f2)).bind fun t167 => (if t167 = true then (if x3 > 0 then (if 0 ≤ (wrap64 (x3 - 1)) then (if (wrap64 (x3 - 1)) < (x0.length : Int) then ((rosetteref04_Text.f k ((rd_T32 x0 (wrap64 (x3 - 1))).f0) ((rd_T32 x0 x3).f0)).bind fun t170 => (if t170 ≥ 0 then (some false) else (rosetteref05_Right.l0 k x0 (wrap64 (x3 + 1))))) else (none)) else (none)) else (rosetteref05_Right.l0 k x0 (wrap64 (x3 + 1)))) else (some false))) else (none)) else (some (decide ((x0.length : Int) ≤ 24)))
def rosetteref05_Right.f (k : Nat) (l0 : List (S32)) : Option (Bool) := rosetteref05_Right.l0 k l0 0
theorem rosetteref05_Right.mono_l : ∀ k, (∀ y0 y1, LeO (rosetteref05_Right.l0 k y0 y1) (rosetteref05_Right.l0 (k + 1) y0 y1))
  | 0 => fun _ _ r h => by simp [rosetteref05_Right.l0] at h
  | k + 1 => by
    have ih0 := rosetteref05_Right.mono_l k
    · intro y0 y1
      unfold rosetteref05_Right.l0
      repeat' first
      | (with_reducible exact ih0 _ _)
      | (with_reducible exact rosetteref04_Text.mono _ _ _)
      | (with_reducible exact LeO.refl _)
      | (with_reducible exact LeO.none _)
      | (with_reducible refine LeO.ite ?_ ?_)
      | (with_reducible refine LeO.bind ?_ (fun _ => ?_))
      | exact ih0 _ _
      | exact rosetteref04_Text.mono _ _ _
      | exact LeO.none _
      | refine LeO.ite ?_ ?_
      | refine LeO.bind ?_ (fun _ => ?_)
theorem rosetteref05_Right.mono : ∀ a0 k, LeO (rosetteref05_Right.f k a0) (rosetteref05_Right.f (k + 1) a0) := by
  intro a0 k
  have ih0 := rosetteref05_Right.mono_l k
  unfold rosetteref05_Right.f
  repeat' first
      | (with_reducible exact ih0 _ _)
      | (with_reducible exact rosetteref04_Text.mono _ _ _)
      | (with_reducible exact LeO.refl _)
      | (with_reducible exact LeO.none _)
      | (with_reducible refine LeO.ite ?_ ?_)
      | (with_reducible refine LeO.bind ?_ (fun _ => ?_))
      | exact ih0 _ _
      | exact rosetteref04_Text.mono _ _ _
      | exact LeO.none _
      | refine LeO.ite ?_ ?_
      | refine LeO.bind ?_ (fun _ => ?_)
set_option maxHeartbeats 8000000 in
set_option maxRecDepth 100000 in
theorem rosetteref05_Right.calls (k : Nat) (A0 : Option Addr) (c0 : Nat) (l0 : List (S32)) (r : Bool) (w : World) (hr0 : Kd.C k32 w A0 l0.length l0) (hc0 : l0.length ≤ c0) (h : rosetteref05_Right.f k l0 = some r) :
    Calls Try.prog 14 #[.slice A0 l0.length c0] w fun e w' => e = .returned (.bool r) ∧ Below w.heap.size w w' := by
  have hu32 := Try.underlying32
  have HR0 := Aside0.mk hr0
  have HC0 := Aside0.mk hc0
  clear hr0 hc0
  have HB := Aside0.mk (Below.refl w.heap.size w)
  have H : (rosetteref05_Right.l0 k l0 0) = some r := h
  clear h
  have H' := Aside0.mk H
  clear H
  go_enter Try.func14, Try.ntmps14
  go_wp2
  repeat (go_quiet (fail); try go_wp2)
  go_loopg [3] k (fun kq v3 w' => ∃ (x3_1 : Int), v3 = .int .i64 x3_1 ∧ Aside0 (rosetteref05_Right.l0 kq l0 x3_1 = some r) ∧ Aside0 (kq ≤ k) ∧ Aside0 (Below w.heap.size w w'))
  case atStart => exact ⟨(0), (by first | rfl | (simp; done) | (simp [*]; done)), H', ⟨Nat.le_refl _⟩, ⟨by repeat (first | (with_reducible first | exact HB.out | apply below_alloc | apply pw_below_drewN | apply below_drew1) | exact HB.out)⟩⟩
  case round =>
    clear H'
    try clear c1
    obtain ⟨x3_1, rfl, HA, HK1, HB⟩ := hrel
    cases gk with
    | zero => exact absurd HA.out (by simp [rosetteref05_Right.l0])
    | succ k1 =>
      have H := HA.out
      clear HA
      simp only [rosetteref05_Right.l0] at H
      by_cases c2 : x3_1 < (l0.length : Int)
      · rw [if_pos c2] at H
        have c2b0 : decide (x3_1 < (l0.length : Int)) = true := decide_eq_true c2
        clear c2
        by_cases c3 : 0 ≤ x3_1
        · rw [if_pos c3] at H
          have c3b0 : decide (0 ≤ x3_1) = true := decide_eq_true c3
          clear c3
          replace H := Option.bind_eq_some_iff.mp H
          obtain ⟨t167, A40, H⟩ := H
          replace H : (if t167 = true then (if x3_1 > 0 then (if 0 ≤ (wrap64 (x3_1 - 1)) then (if (wrap64 (x3_1 - 1)) < (l0.length : Int) then ((rosetteref04_Text.f k1 ((rd_T32 l0 (wrap64 (x3_1 - 1))).f0) ((rd_T32 l0 x3_1).f0)).bind fun t170 => (if t170 ≥ 0 then (some false) else (rosetteref05_Right.l0 k1 l0 (wrap64 (x3_1 + 1))))) else (none)) else (none)) else (rosetteref05_Right.l0 k1 l0 (wrap64 (x3_1 + 1)))) else (some false)) = some r := H
          have A4 := Aside0.mk A40
          clear A40
          by_cases c5 : t167 = true
          · subst c5
            have H1 : (if x3_1 > 0 then (if 0 ≤ (wrap64 (x3_1 - 1)) then (if (wrap64 (x3_1 - 1)) < (l0.length : Int) then ((rosetteref04_Text.f k1 ((rd_T32 l0 (wrap64 (x3_1 - 1))).f0) ((rd_T32 l0 x3_1).f0)).bind fun t170 => (if t170 ≥ 0 then (some false) else (rosetteref05_Right.l0 k1 l0 (wrap64 (x3_1 + 1))))) else (none)) else (none)) else (rosetteref05_Right.l0 k1 l0 (wrap64 (x3_1 + 1)))) = some r := by rw [if_pos rfl] at H; exact H
            clear H
            have H := H1
            clear H1
            by_cases c6 : x3_1 > 0
            · rw [if_pos c6] at H
              have c6b0 : decide (0 < x3_1) = true := decide_eq_true c6
              clear c6
              obtain ⟨ji7, hji7⟩ : ∃ j_ : Int, (wrap64 (x3_1 - 1)) = j_ := ⟨_, rfl⟩
              replace H : (if 0 ≤ (ji7) then (if (ji7) < (l0.length : Int) then ((rosetteref04_Text.f k1 ((rd_T32 l0 (ji7)).f0) ((rd_T32 l0 x3_1).f0)).bind fun t170 => (if t170 ≥ 0 then (some false) else (rosetteref05_Right.l0 k1 l0 (wrap64 (x3_1 + 1))))) else (none)) else (none)) = some r := by first | (rw [hji7] at H; exact H) | (simp only [hji7] at H ⊢; exact H)
              (try rw [hji7] at A4)
              have hji7w : (IntKind.i64.wrap (x3_1 - 1)) = ji7 := (i64_w _).trans hji7
              by_cases c8 : 0 ≤ (ji7)
              · rw [if_pos c8] at H
                have c8b0 : decide (0 ≤ (ji7)) = true := decide_eq_true c8
                clear c8
                by_cases c9 : (ji7) < (l0.length : Int)
                · rw [if_pos c9] at H
                  have c9b0 : decide ((ji7) < (l0.length : Int)) = true := decide_eq_true c9
                  clear c9
                  replace H := Option.bind_eq_some_iff.mp H
                  obtain ⟨t170, A100, H⟩ := H
                  replace H : (if t170 ≥ 0 then (some false) else (rosetteref05_Right.l0 k1 l0 (wrap64 (x3_1 + 1)))) = some r := H
                  have A10 := Aside0.mk A100
                  clear A100
                  by_cases c11 : t170 ≥ 0
                  · rw [if_pos c11] at H
                    have c11b0 : decide (0 ≤ t170) = true := decide_eq_true c11
                    clear c11
                    obtain rfl := Option.some.inj H
                    have p166 : 0 ≤ (x3_1 : Int) := of_decide_eq_true (by first | (with_reducible assumption) | assumption)
                    have q166 : x3_1 < (l0.length : Int) := of_decide_eq_true (by first | (with_reducible assumption) | assumption)
                    obtain ⟨ad166, e166, hx166_0, hx166_1, hx166_2, hx166_3⟩ := at_T32 HR0.out x3_1 p166 q166
                    cases e166
                    replace hx166_0 := (HB.out.cell (World.block_lt_of_cell? w _ hx166_0)).trans hx166_0
                    replace hx166_1 := (HB.out.cell (World.block_lt_of_cell? w _ hx166_1)).trans hx166_1
                    replace hx166_2 := (HB.out.cell (World.block_lt_of_cell? w _ hx166_2)).trans hx166_2
                    replace hx166_3 := (HB.out.cell (World.block_lt_of_cell? w _ hx166_3)).trans hx166_3
                    replace p166 := eq_true p166
                    replace q166 := eq_true q166
                    go_wp2_with (first | (go_at_call 24; (with_reducible refine (rosetteref05_one.calls ((rd_T32 l0 x3_1).f0) ((rd_T32 l0 x3_1).f1.f0) ((rd_T32 l0 x3_1).f1.f1) ((rd_T32 l0 x3_1).f1.f2) true _ A4.out).mono ?_); rintro e w12 ⟨rfl, hb⟩; have n0_ := Aside0.mk (below_step (by repeat (first | (with_reducible first | exact HB.out | apply below_alloc | apply pw_below_drewN | apply below_drew1) | exact HB.out)) hb); clear HB; have HB := n0_; clear n0_; (try clear hb); (try clear hb2); (try clear hk); (try clear hi); have p168 : 0 ≤ ((ji7) : Int) := of_decide_eq_true (by first | (with_reducible assumption) | assumption); have q168 : (ji7) < (l0.length : Int) := of_decide_eq_true (by first | (with_reducible assumption) | assumption); obtain ⟨ad168, e168, hx168_0, hx168_1, hx168_2, hx168_3⟩ := at_T32 HR0.out (ji7) p168 q168; obtain rfl : ad166 = ad168 := (by injection e168); replace hx168_0 := (HB.out.cell (World.block_lt_of_cell? w _ hx168_0)).trans hx168_0; replace hx168_1 := (HB.out.cell (World.block_lt_of_cell? w _ hx168_1)).trans hx168_1; replace hx168_2 := (HB.out.cell (World.block_lt_of_cell? w _ hx168_2)).trans hx168_2; replace hx168_3 := (HB.out.cell (World.block_lt_of_cell? w _ hx168_3)).trans hx168_3; replace p168 := eq_true p168; replace q168 := eq_true q168; have p169 : 0 ≤ (x3_1 : Int) := of_decide_eq_true (by first | (with_reducible assumption) | assumption); have q169 : x3_1 < (l0.length : Int) := of_decide_eq_true (by first | (with_reducible assumption) | assumption); obtain ⟨ad169, e169, hx169_0, hx169_1, hx169_2, hx169_3⟩ := at_T32 HR0.out x3_1 p169 q169; obtain rfl : ad166 = ad169 := (by injection e169); replace hx169_0 := (HB.out.cell (World.block_lt_of_cell? w _ hx169_0)).trans hx169_0; replace hx169_1 := (HB.out.cell (World.block_lt_of_cell? w _ hx169_1)).trans hx169_1; replace hx169_2 := (HB.out.cell (World.block_lt_of_cell? w _ hx169_2)).trans hx169_2; replace hx169_3 := (HB.out.cell (World.block_lt_of_cell? w _ hx169_3)).trans hx169_3; replace p169 := eq_true p169; replace q169 := eq_true q169) | (go_at_call 25; (with_reducible refine (rosetteref04_Text.calls k1 ((rd_T32 l0 (ji7)).f0) ((rd_T32 l0 x3_1).f0) t170 _ A10.out).mono ?_); rintro e w' ⟨rfl, ⟨nd, rfl⟩⟩; (try first | exact ⟨rfl, _, World.drewN_drewN _ _ _⟩ | exact ⟨rfl, _, Eq.trans (World.drewN_drewN _ _ _) (congrArg (World.drewN _) (Nat.add_assoc _ _ _))⟩)))
                    repeat (go_quiet (first | (go_at_call 24; (with_reducible refine (rosetteref05_one.calls ((rd_T32 l0 x3_1).f0) ((rd_T32 l0 x3_1).f1.f0) ((rd_T32 l0 x3_1).f1.f1) ((rd_T32 l0 x3_1).f1.f2) true _ A4.out).mono ?_); rintro e w12 ⟨rfl, hb⟩; have n0_ := Aside0.mk (below_step (by repeat (first | (with_reducible first | exact HB.out | apply below_alloc | apply pw_below_drewN | apply below_drew1) | exact HB.out)) hb); clear HB; have HB := n0_; clear n0_; (try clear hb); (try clear hb2); (try clear hk); (try clear hi); have p168 : 0 ≤ ((ji7) : Int) := of_decide_eq_true (by first | (with_reducible assumption) | assumption); have q168 : (ji7) < (l0.length : Int) := of_decide_eq_true (by first | (with_reducible assumption) | assumption); obtain ⟨ad168, e168, hx168_0, hx168_1, hx168_2, hx168_3⟩ := at_T32 HR0.out (ji7) p168 q168; obtain rfl : ad166 = ad168 := (by injection e168); replace hx168_0 := (HB.out.cell (World.block_lt_of_cell? w _ hx168_0)).trans hx168_0; replace hx168_1 := (HB.out.cell (World.block_lt_of_cell? w _ hx168_1)).trans hx168_1; replace hx168_2 := (HB.out.cell (World.block_lt_of_cell? w _ hx168_2)).trans hx168_2; replace hx168_3 := (HB.out.cell (World.block_lt_of_cell? w _ hx168_3)).trans hx168_3; replace p168 := eq_true p168; replace q168 := eq_true q168; have p169 : 0 ≤ (x3_1 : Int) := of_decide_eq_true (by first | (with_reducible assumption) | assumption); have q169 : x3_1 < (l0.length : Int) := of_decide_eq_true (by first | (with_reducible assumption) | assumption); obtain ⟨ad169, e169, hx169_0, hx169_1, hx169_2, hx169_3⟩ := at_T32 HR0.out x3_1 p169 q169; obtain rfl : ad166 = ad169 := (by injection e169); replace hx169_0 := (HB.out.cell (World.block_lt_of_cell? w _ hx169_0)).trans hx169_0; replace hx169_1 := (HB.out.cell (World.block_lt_of_cell? w _ hx169_1)).trans hx169_1; replace hx169_2 := (HB.out.cell (World.block_lt_of_cell? w _ hx169_2)).trans hx169_2; replace hx169_3 := (HB.out.cell (World.block_lt_of_cell? w _ hx169_3)).trans hx169_3; replace p169 := eq_true p169; replace q169 := eq_true q169) | (go_at_call 25; (with_reducible refine (rosetteref04_Text.calls k1 ((rd_T32 l0 (ji7)).f0) ((rd_T32 l0 x3_1).f0) t170 _ A10.out).mono ?_); rintro e w' ⟨rfl, ⟨nd, rfl⟩⟩; (try first | exact ⟨rfl, _, World.drewN_drewN _ _ _⟩ | exact ⟨rfl, _, Eq.trans (World.drewN_drewN _ _ _) (congrArg (World.drewN _) (Nat.add_assoc _ _ _))⟩))); try go_wp2_with (first | (go_at_call 24; (with_reducible refine (rosetteref05_one.calls ((rd_T32 l0 x3_1).f0) ((rd_T32 l0 x3_1).f1.f0) ((rd_T32 l0 x3_1).f1.f1) ((rd_T32 l0 x3_1).f1.f2) true _ A4.out).mono ?_); rintro e w12 ⟨rfl, hb⟩; have n0_ := Aside0.mk (below_step (by repeat (first | (with_reducible first | exact HB.out | apply below_alloc | apply pw_below_drewN | apply below_drew1) | exact HB.out)) hb); clear HB; have HB := n0_; clear n0_; (try clear hb); (try clear hb2); (try clear hk); (try clear hi); have p168 : 0 ≤ ((ji7) : Int) := of_decide_eq_true (by first | (with_reducible assumption) | assumption); have q168 : (ji7) < (l0.length : Int) := of_decide_eq_true (by first | (with_reducible assumption) | assumption); obtain ⟨ad168, e168, hx168_0, hx168_1, hx168_2, hx168_3⟩ := at_T32 HR0.out (ji7) p168 q168; obtain rfl : ad166 = ad168 := (by injection e168); replace hx168_0 := (HB.out.cell (World.block_lt_of_cell? w _ hx168_0)).trans hx168_0; replace hx168_1 := (HB.out.cell (World.block_lt_of_cell? w _ hx168_1)).trans hx168_1; replace hx168_2 := (HB.out.cell (World.block_lt_of_cell? w _ hx168_2)).trans hx168_2; replace hx168_3 := (HB.out.cell (World.block_lt_of_cell? w _ hx168_3)).trans hx168_3; replace p168 := eq_true p168; replace q168 := eq_true q168; have p169 : 0 ≤ (x3_1 : Int) := of_decide_eq_true (by first | (with_reducible assumption) | assumption); have q169 : x3_1 < (l0.length : Int) := of_decide_eq_true (by first | (with_reducible assumption) | assumption); obtain ⟨ad169, e169, hx169_0, hx169_1, hx169_2, hx169_3⟩ := at_T32 HR0.out x3_1 p169 q169; obtain rfl : ad166 = ad169 := (by injection e169); replace hx169_0 := (HB.out.cell (World.block_lt_of_cell? w _ hx169_0)).trans hx169_0; replace hx169_1 := (HB.out.cell (World.block_lt_of_cell? w _ hx169_1)).trans hx169_1; replace hx169_2 := (HB.out.cell (World.block_lt_of_cell? w _ hx169_2)).trans hx169_2; replace hx169_3 := (HB.out.cell (World.block_lt_of_cell? w _ hx169_3)).trans hx169_3; replace p169 := eq_true p169; replace q169 := eq_true q169) | (go_at_call 25; (with_reducible refine (rosetteref04_Text.calls k1 ((rd_T32 l0 (ji7)).f0) ((rd_T32 l0 x3_1).f0) t170 _ A10.out).mono ?_); rintro e w' ⟨rfl, ⟨nd, rfl⟩⟩; (try first | exact ⟨rfl, _, World.drewN_drewN _ _ _⟩ | exact ⟨rfl, _, Eq.trans (World.drewN_drewN _ _ _) (congrArg (World.drewN _) (Nat.add_assoc _ _ _))⟩))))
                    go_ret
                    exact ⟨by first | rfl | (simp [errW_none, errW_some] <;> rfl) | (simp only [← hji7]; first | rfl | (simp [errW_none, errW_some] <;> rfl)) | (simp [*, errW_none, errW_some] <;> rfl), by repeat (first | (with_reducible first | exact HB.out | apply below_alloc | apply pw_below_drewN | apply below_drew1) | exact HB.out)⟩
                  · rw [if_neg c11] at H
                    have c11b0 : decide (0 ≤ t170) = false := decide_eq_false c11
                    clear c11
                    have H' := Aside0.mk H
                    clear H
                    have p166 : 0 ≤ (x3_1 : Int) := of_decide_eq_true (by first | (with_reducible assumption) | assumption)
                    have q166 : x3_1 < (l0.length : Int) := of_decide_eq_true (by first | (with_reducible assumption) | assumption)
                    obtain ⟨ad166, e166, hx166_0, hx166_1, hx166_2, hx166_3⟩ := at_T32 HR0.out x3_1 p166 q166
                    cases e166
                    replace hx166_0 := (HB.out.cell (World.block_lt_of_cell? w _ hx166_0)).trans hx166_0
                    replace hx166_1 := (HB.out.cell (World.block_lt_of_cell? w _ hx166_1)).trans hx166_1
                    replace hx166_2 := (HB.out.cell (World.block_lt_of_cell? w _ hx166_2)).trans hx166_2
                    replace hx166_3 := (HB.out.cell (World.block_lt_of_cell? w _ hx166_3)).trans hx166_3
                    replace p166 := eq_true p166
                    replace q166 := eq_true q166
                    go_wp2_with (first | (go_at_call 24; (with_reducible refine (rosetteref05_one.calls ((rd_T32 l0 x3_1).f0) ((rd_T32 l0 x3_1).f1.f0) ((rd_T32 l0 x3_1).f1.f1) ((rd_T32 l0 x3_1).f1.f2) true _ A4.out).mono ?_); rintro e w13 ⟨rfl, hb⟩; have n0_ := Aside0.mk (below_step (by repeat (first | (with_reducible first | exact HB.out | apply below_alloc | apply pw_below_drewN | apply below_drew1) | exact HB.out)) hb); clear HB; have HB := n0_; clear n0_; (try clear hb); (try clear hb2); (try clear hk); (try clear hi); have p168 : 0 ≤ ((ji7) : Int) := of_decide_eq_true (by first | (with_reducible assumption) | assumption); have q168 : (ji7) < (l0.length : Int) := of_decide_eq_true (by first | (with_reducible assumption) | assumption); obtain ⟨ad168, e168, hx168_0, hx168_1, hx168_2, hx168_3⟩ := at_T32 HR0.out (ji7) p168 q168; obtain rfl : ad166 = ad168 := (by injection e168); replace hx168_0 := (HB.out.cell (World.block_lt_of_cell? w _ hx168_0)).trans hx168_0; replace hx168_1 := (HB.out.cell (World.block_lt_of_cell? w _ hx168_1)).trans hx168_1; replace hx168_2 := (HB.out.cell (World.block_lt_of_cell? w _ hx168_2)).trans hx168_2; replace hx168_3 := (HB.out.cell (World.block_lt_of_cell? w _ hx168_3)).trans hx168_3; replace p168 := eq_true p168; replace q168 := eq_true q168; have p169 : 0 ≤ (x3_1 : Int) := of_decide_eq_true (by first | (with_reducible assumption) | assumption); have q169 : x3_1 < (l0.length : Int) := of_decide_eq_true (by first | (with_reducible assumption) | assumption); obtain ⟨ad169, e169, hx169_0, hx169_1, hx169_2, hx169_3⟩ := at_T32 HR0.out x3_1 p169 q169; obtain rfl : ad166 = ad169 := (by injection e169); replace hx169_0 := (HB.out.cell (World.block_lt_of_cell? w _ hx169_0)).trans hx169_0; replace hx169_1 := (HB.out.cell (World.block_lt_of_cell? w _ hx169_1)).trans hx169_1; replace hx169_2 := (HB.out.cell (World.block_lt_of_cell? w _ hx169_2)).trans hx169_2; replace hx169_3 := (HB.out.cell (World.block_lt_of_cell? w _ hx169_3)).trans hx169_3; replace p169 := eq_true p169; replace q169 := eq_true q169) | (go_at_call 25; (with_reducible refine (rosetteref04_Text.calls k1 ((rd_T32 l0 (ji7)).f0) ((rd_T32 l0 x3_1).f0) t170 _ A10.out).mono ?_); rintro e w' ⟨rfl, ⟨nd, rfl⟩⟩; (try first | exact ⟨rfl, _, World.drewN_drewN _ _ _⟩ | exact ⟨rfl, _, Eq.trans (World.drewN_drewN _ _ _) (congrArg (World.drewN _) (Nat.add_assoc _ _ _))⟩)))
                    repeat (go_quiet (first | (go_at_call 24; (with_reducible refine (rosetteref05_one.calls ((rd_T32 l0 x3_1).f0) ((rd_T32 l0 x3_1).f1.f0) ((rd_T32 l0 x3_1).f1.f1) ((rd_T32 l0 x3_1).f1.f2) true _ A4.out).mono ?_); rintro e w13 ⟨rfl, hb⟩; have n0_ := Aside0.mk (below_step (by repeat (first | (with_reducible first | exact HB.out | apply below_alloc | apply pw_below_drewN | apply below_drew1) | exact HB.out)) hb); clear HB; have HB := n0_; clear n0_; (try clear hb); (try clear hb2); (try clear hk); (try clear hi); have p168 : 0 ≤ ((ji7) : Int) := of_decide_eq_true (by first | (with_reducible assumption) | assumption); have q168 : (ji7) < (l0.length : Int) := of_decide_eq_true (by first | (with_reducible assumption) | assumption); obtain ⟨ad168, e168, hx168_0, hx168_1, hx168_2, hx168_3⟩ := at_T32 HR0.out (ji7) p168 q168; obtain rfl : ad166 = ad168 := (by injection e168); replace hx168_0 := (HB.out.cell (World.block_lt_of_cell? w _ hx168_0)).trans hx168_0; replace hx168_1 := (HB.out.cell (World.block_lt_of_cell? w _ hx168_1)).trans hx168_1; replace hx168_2 := (HB.out.cell (World.block_lt_of_cell? w _ hx168_2)).trans hx168_2; replace hx168_3 := (HB.out.cell (World.block_lt_of_cell? w _ hx168_3)).trans hx168_3; replace p168 := eq_true p168; replace q168 := eq_true q168; have p169 : 0 ≤ (x3_1 : Int) := of_decide_eq_true (by first | (with_reducible assumption) | assumption); have q169 : x3_1 < (l0.length : Int) := of_decide_eq_true (by first | (with_reducible assumption) | assumption); obtain ⟨ad169, e169, hx169_0, hx169_1, hx169_2, hx169_3⟩ := at_T32 HR0.out x3_1 p169 q169; obtain rfl : ad166 = ad169 := (by injection e169); replace hx169_0 := (HB.out.cell (World.block_lt_of_cell? w _ hx169_0)).trans hx169_0; replace hx169_1 := (HB.out.cell (World.block_lt_of_cell? w _ hx169_1)).trans hx169_1; replace hx169_2 := (HB.out.cell (World.block_lt_of_cell? w _ hx169_2)).trans hx169_2; replace hx169_3 := (HB.out.cell (World.block_lt_of_cell? w _ hx169_3)).trans hx169_3; replace p169 := eq_true p169; replace q169 := eq_true q169) | (go_at_call 25; (with_reducible refine (rosetteref04_Text.calls k1 ((rd_T32 l0 (ji7)).f0) ((rd_T32 l0 x3_1).f0) t170 _ A10.out).mono ?_); rintro e w' ⟨rfl, ⟨nd, rfl⟩⟩; (try first | exact ⟨rfl, _, World.drewN_drewN _ _ _⟩ | exact ⟨rfl, _, Eq.trans (World.drewN_drewN _ _ _) (congrArg (World.drewN _) (Nat.add_assoc _ _ _))⟩))); try go_wp2_with (first | (go_at_call 24; (with_reducible refine (rosetteref05_one.calls ((rd_T32 l0 x3_1).f0) ((rd_T32 l0 x3_1).f1.f0) ((rd_T32 l0 x3_1).f1.f1) ((rd_T32 l0 x3_1).f1.f2) true _ A4.out).mono ?_); rintro e w13 ⟨rfl, hb⟩; have n0_ := Aside0.mk (below_step (by repeat (first | (with_reducible first | exact HB.out | apply below_alloc | apply pw_below_drewN | apply below_drew1) | exact HB.out)) hb); clear HB; have HB := n0_; clear n0_; (try clear hb); (try clear hb2); (try clear hk); (try clear hi); have p168 : 0 ≤ ((ji7) : Int) := of_decide_eq_true (by first | (with_reducible assumption) | assumption); have q168 : (ji7) < (l0.length : Int) := of_decide_eq_true (by first | (with_reducible assumption) | assumption); obtain ⟨ad168, e168, hx168_0, hx168_1, hx168_2, hx168_3⟩ := at_T32 HR0.out (ji7) p168 q168; obtain rfl : ad166 = ad168 := (by injection e168); replace hx168_0 := (HB.out.cell (World.block_lt_of_cell? w _ hx168_0)).trans hx168_0; replace hx168_1 := (HB.out.cell (World.block_lt_of_cell? w _ hx168_1)).trans hx168_1; replace hx168_2 := (HB.out.cell (World.block_lt_of_cell? w _ hx168_2)).trans hx168_2; replace hx168_3 := (HB.out.cell (World.block_lt_of_cell? w _ hx168_3)).trans hx168_3; replace p168 := eq_true p168; replace q168 := eq_true q168; have p169 : 0 ≤ (x3_1 : Int) := of_decide_eq_true (by first | (with_reducible assumption) | assumption); have q169 : x3_1 < (l0.length : Int) := of_decide_eq_true (by first | (with_reducible assumption) | assumption); obtain ⟨ad169, e169, hx169_0, hx169_1, hx169_2, hx169_3⟩ := at_T32 HR0.out x3_1 p169 q169; obtain rfl : ad166 = ad169 := (by injection e169); replace hx169_0 := (HB.out.cell (World.block_lt_of_cell? w _ hx169_0)).trans hx169_0; replace hx169_1 := (HB.out.cell (World.block_lt_of_cell? w _ hx169_1)).trans hx169_1; replace hx169_2 := (HB.out.cell (World.block_lt_of_cell? w _ hx169_2)).trans hx169_2; replace hx169_3 := (HB.out.cell (World.block_lt_of_cell? w _ hx169_3)).trans hx169_3; replace p169 := eq_true p169; replace q169 := eq_true q169) | (go_at_call 25; (with_reducible refine (rosetteref04_Text.calls k1 ((rd_T32 l0 (ji7)).f0) ((rd_T32 l0 x3_1).f0) t170 _ A10.out).mono ?_); rintro e w' ⟨rfl, ⟨nd, rfl⟩⟩; (try first | exact ⟨rfl, _, World.drewN_drewN _ _ _⟩ | exact ⟨rfl, _, Eq.trans (World.drewN_drewN _ _ _) (congrArg (World.drewN _) (Nat.add_assoc _ _ _))⟩))))
                    go_roundg k1
                    case measure => have := HK1.out; omega
                    case rel => exact ⟨(wrap64 (x3_1 + 1)), (by first | rfl | (simp; done) | (simp [*]; done)), H', ⟨by have := HK1.out; omega⟩, ⟨by repeat (first | (with_reducible first | exact HB.out | apply below_alloc | apply pw_below_drewN | apply below_drew1) | exact HB.out)⟩⟩
                · rw [if_neg c9] at H
                  exact absurd H (by simp)
              · rw [if_neg c8] at H
                exact absurd H (by simp)
            · rw [if_neg c6] at H
              have c6b0 : decide (0 < x3_1) = false := decide_eq_false c6
              clear c6
              have H' := Aside0.mk H
              clear H
              have p166 : 0 ≤ (x3_1 : Int) := of_decide_eq_true (by first | (with_reducible assumption) | assumption)
              have q166 : x3_1 < (l0.length : Int) := of_decide_eq_true (by first | (with_reducible assumption) | assumption)
              obtain ⟨ad166, e166, hx166_0, hx166_1, hx166_2, hx166_3⟩ := at_T32 HR0.out x3_1 p166 q166
              cases e166
              replace hx166_0 := (HB.out.cell (World.block_lt_of_cell? w _ hx166_0)).trans hx166_0
              replace hx166_1 := (HB.out.cell (World.block_lt_of_cell? w _ hx166_1)).trans hx166_1
              replace hx166_2 := (HB.out.cell (World.block_lt_of_cell? w _ hx166_2)).trans hx166_2
              replace hx166_3 := (HB.out.cell (World.block_lt_of_cell? w _ hx166_3)).trans hx166_3
              replace p166 := eq_true p166
              replace q166 := eq_true q166
              go_wp2_with (first | (go_at_call 24; (with_reducible refine (rosetteref05_one.calls ((rd_T32 l0 x3_1).f0) ((rd_T32 l0 x3_1).f1.f0) ((rd_T32 l0 x3_1).f1.f1) ((rd_T32 l0 x3_1).f1.f2) true _ A4.out).mono ?_); rintro e w14 ⟨rfl, hb⟩; have n0_ := Aside0.mk (below_step (by repeat (first | (with_reducible first | exact HB.out | apply below_alloc | apply pw_below_drewN | apply below_drew1) | exact HB.out)) hb); clear HB; have HB := n0_; clear n0_; (try clear hb); (try clear hb2); (try clear hk); (try clear hi)))
              repeat (go_quiet (first | (go_at_call 24; (with_reducible refine (rosetteref05_one.calls ((rd_T32 l0 x3_1).f0) ((rd_T32 l0 x3_1).f1.f0) ((rd_T32 l0 x3_1).f1.f1) ((rd_T32 l0 x3_1).f1.f2) true _ A4.out).mono ?_); rintro e w14 ⟨rfl, hb⟩; have n0_ := Aside0.mk (below_step (by repeat (first | (with_reducible first | exact HB.out | apply below_alloc | apply pw_below_drewN | apply below_drew1) | exact HB.out)) hb); clear HB; have HB := n0_; clear n0_; (try clear hb); (try clear hb2); (try clear hk); (try clear hi))); try go_wp2_with (first | (go_at_call 24; (with_reducible refine (rosetteref05_one.calls ((rd_T32 l0 x3_1).f0) ((rd_T32 l0 x3_1).f1.f0) ((rd_T32 l0 x3_1).f1.f1) ((rd_T32 l0 x3_1).f1.f2) true _ A4.out).mono ?_); rintro e w14 ⟨rfl, hb⟩; have n0_ := Aside0.mk (below_step (by repeat (first | (with_reducible first | exact HB.out | apply below_alloc | apply pw_below_drewN | apply below_drew1) | exact HB.out)) hb); clear HB; have HB := n0_; clear n0_; (try clear hb); (try clear hb2); (try clear hk); (try clear hi))))
              go_roundg k1
              case measure => have := HK1.out; omega
              case rel => exact ⟨(wrap64 (x3_1 + 1)), (by first | rfl | (simp; done) | (simp [*]; done)), H', ⟨by have := HK1.out; omega⟩, ⟨by repeat (first | (with_reducible first | exact HB.out | apply below_alloc | apply pw_below_drewN | apply below_drew1) | exact HB.out)⟩⟩
          · replace c5 := Bool.eq_false_iff.mpr c5
            subst c5
            have H1 : (some false) = some r := by rw [if_neg (show ¬ (false = true) by decide)] at H; exact H
            clear H
            have H := H1
            clear H1
            obtain rfl := Option.some.inj H
            have p166 : 0 ≤ (x3_1 : Int) := of_decide_eq_true (by first | (with_reducible assumption) | assumption)
            have q166 : x3_1 < (l0.length : Int) := of_decide_eq_true (by first | (with_reducible assumption) | assumption)
            obtain ⟨ad166, e166, hx166_0, hx166_1, hx166_2, hx166_3⟩ := at_T32 HR0.out x3_1 p166 q166
            cases e166
            replace hx166_0 := (HB.out.cell (World.block_lt_of_cell? w _ hx166_0)).trans hx166_0
            replace hx166_1 := (HB.out.cell (World.block_lt_of_cell? w _ hx166_1)).trans hx166_1
            replace hx166_2 := (HB.out.cell (World.block_lt_of_cell? w _ hx166_2)).trans hx166_2
            replace hx166_3 := (HB.out.cell (World.block_lt_of_cell? w _ hx166_3)).trans hx166_3
            replace p166 := eq_true p166
            replace q166 := eq_true q166
            go_wp2_with (first | (go_at_call 24; (with_reducible refine (rosetteref05_one.calls ((rd_T32 l0 x3_1).f0) ((rd_T32 l0 x3_1).f1.f0) ((rd_T32 l0 x3_1).f1.f1) ((rd_T32 l0 x3_1).f1.f2) false _ A4.out).mono ?_); rintro e w15 ⟨rfl, hb⟩; have n0_ := Aside0.mk (below_step (by repeat (first | (with_reducible first | exact HB.out | apply below_alloc | apply pw_below_drewN | apply below_drew1) | exact HB.out)) hb); clear HB; have HB := n0_; clear n0_; (try clear hb); (try clear hb2); (try clear hk); (try clear hi)))
            repeat (go_quiet (first | (go_at_call 24; (with_reducible refine (rosetteref05_one.calls ((rd_T32 l0 x3_1).f0) ((rd_T32 l0 x3_1).f1.f0) ((rd_T32 l0 x3_1).f1.f1) ((rd_T32 l0 x3_1).f1.f2) false _ A4.out).mono ?_); rintro e w15 ⟨rfl, hb⟩; have n0_ := Aside0.mk (below_step (by repeat (first | (with_reducible first | exact HB.out | apply below_alloc | apply pw_below_drewN | apply below_drew1) | exact HB.out)) hb); clear HB; have HB := n0_; clear n0_; (try clear hb); (try clear hb2); (try clear hk); (try clear hi))); try go_wp2_with (first | (go_at_call 24; (with_reducible refine (rosetteref05_one.calls ((rd_T32 l0 x3_1).f0) ((rd_T32 l0 x3_1).f1.f0) ((rd_T32 l0 x3_1).f1.f1) ((rd_T32 l0 x3_1).f1.f2) false _ A4.out).mono ?_); rintro e w15 ⟨rfl, hb⟩; have n0_ := Aside0.mk (below_step (by repeat (first | (with_reducible first | exact HB.out | apply below_alloc | apply pw_below_drewN | apply below_drew1) | exact HB.out)) hb); clear HB; have HB := n0_; clear n0_; (try clear hb); (try clear hb2); (try clear hk); (try clear hi))))
            go_ret
            exact ⟨by first | rfl | (simp [errW_none, errW_some] <;> rfl) | (simp [*, errW_none, errW_some] <;> rfl), by repeat (first | (with_reducible first | exact HB.out | apply below_alloc | apply pw_below_drewN | apply below_drew1) | exact HB.out)⟩
        · rw [if_neg c3] at H
          exact absurd H (by simp)
      · rw [if_neg c2] at H
        have c2b0 : decide (x3_1 < (l0.length : Int)) = false := decide_eq_false c2
        clear c2
        obtain rfl := Option.some.inj H
        go_wp2
        repeat (go_quiet (fail); try go_wp2)
        go_ret
        exact ⟨by first | rfl | (simp [errW_none, errW_some] <;> rfl) | (simp [*, errW_none, errW_some] <;> rfl), by repeat (first | (with_reducible first | exact HB.out | apply below_alloc | apply pw_below_drewN | apply below_drew1) | exact HB.out)⟩

end Go.Proofs.Ytmbpgebboppkmaa.G
end

section
/- the reference: which events are right; plain laws -/
set_option linter.unusedVariables false
set_option linter.unusedSimpArgs false
set_option autoImplicit false
namespace Go.Proofs.Ytmbpgebboppkmaa
open Go Go.RowKit Go.Shelf Go.Sort Go.Proofs.YtmbpgebboppkmaaW.PrintWords Go.Proofs.YtmbpgebboppkmaaW.PrintLast Go.Proofs.Ytmbpgebboppkmaa.G

theorem bt_list (s : ByteArray) (i : Nat) (h : i < s.data.toList.length) : bt s (i : Int) = (s.data.toList[i].toNat : Int) := by
  have hs : i < s.size := by rw [Array.length_toList] at h; exact h
  unfold bt
  rw [dif_pos (by rw [Int.toNat_natCast]; exact hs)]
  simp only [Int.toNat_natCast]
  rfl
theorem less_go (a b : ByteArray) (ha : a.size < 9223372036854775807) : ∀ (f i e : Nat), i ≤ a.size → i ≤ b.size → i + f = a.size → rosetteref04_less.l0 (2 * f + 2 + e) a b (i : Int) = some (decide (Lib.compareBytes (a.data.toList.drop i) (b.data.toList.drop i) = -1)) := by
  have hla : a.data.toList.length = a.size := by rw [Array.length_toList]; rfl
  have hlb : b.data.toList.length = b.size := by rw [Array.length_toList]; rfl
  intro f
  induction f with
  | zero =>
    intro i e hi hj h
    rw [show 2 * 0 + 2 + e = (e + 1) + 1 by omega, rosetteref04_less.l0, if_neg (by omega), rosetteref04_less.j1, if_neg (by decide)]
    rw [List.drop_of_length_le (by omega)]
    congr 1
    rw [Bool.eq_iff_iff]
    simp only [decide_eq_true_eq]
    by_cases hb : i < b.size
    · rw [List.drop_eq_getElem_cons (by omega)]
      simp only [Lib.compareBytes]
      exact ⟨fun _ => trivial, fun _ => by omega⟩
    · rw [List.drop_of_length_le (l := b.data.toList) (by omega)]
      simp only [Lib.compareBytes]
      exact ⟨fun h => by omega, fun h => absurd h (by decide)⟩
  | succ f ih =>
    intro i e hi hj h
    have hw : wrap64 ((i : Int) + 1) = ((i + 1 : Nat) : Int) := by unfold wrap64; omega
    rw [show 2 * (f + 1) + 2 + e = (2 * f + 2 + e + 1) + 1 by omega, rosetteref04_less.l0, if_pos (by omega), rosetteref04_less.j1]
    by_cases hb : i < b.size
    · rw [if_pos (by simpa using hb), if_pos (by omega), if_pos (by omega), if_pos (by omega), hw, bt_list a i (by omega), bt_list b i (by omega)]
      rw [List.drop_eq_getElem_cons (l := a.data.toList) (by omega), List.drop_eq_getElem_cons (l := b.data.toList) (by omega)]
      simp only [Lib.compareBytes, UInt8.lt_iff_toNat_lt]
      generalize ha' : (a.data.toList[i]'(by omega)).toNat = x
      generalize hb' : (b.data.toList[i]'(by omega)).toNat = y
      by_cases hxy : x = y
      · subst hxy
        rw [if_pos rfl, if_neg (by omega), if_neg (by omega)]
        exact ih (i + 1) e (by omega) (by omega) (by omega)
      · rw [if_neg (by omega)]
        congr 1
        rw [Bool.eq_iff_iff]
        simp only [decide_eq_true_eq]
        by_cases hlt : x < y
        · rw [if_pos hlt]; omega
        · rw [if_neg hlt, if_pos (by omega)]; omega
    · rw [if_neg (by simpa using hb)]
      rw [List.drop_of_length_le (l := b.data.toList) (by omega), List.drop_eq_getElem_cons (l := a.data.toList) (by omega)]
      congr 1
      rw [Bool.eq_iff_iff]
      simp [Lib.compareBytes]
      omega
theorem less_f (a b : ByteArray) (ha : a.size < 9223372036854775807) (k : Nat) (hk : 2 * a.size + 2 ≤ k) : rosetteref04_less.f k a b = some (decide (Lib.compareBytes a.data.toList b.data.toList = -1)) := by
  have := less_go a b ha a.size 0 (k - (2 * a.size + 2)) (Nat.zero_le _) (Nat.zero_le _) (by omega)
  rw [show 2 * a.size + 2 + (k - (2 * a.size + 2)) = k by omega] at this
  exact this
theorem text_f (a b : ByteArray) (ha : a.size < 9223372036854775807) (k : Nat) (hk : 2 * a.size + 2 ≤ k) : rosetteref04_Text.f k a b = some (Lib.compareBytes a.data.toList b.data.toList) := by
  unfold rosetteref04_Text.f
  have hz := cmpB_zero a.data.toList b.data.toList
  have hin := cmpB_in a.data.toList b.data.toList
  have e1 : (a.toList = b.toList) ↔ (a.data.toList = b.data.toList) := by rw [ByteArray.toList_eq, ByteArray.toList_eq]
  rw [less_f a b ha k hk]
  simp only [Option.bind_some]
  by_cases h : a.data.toList = b.data.toList
  · rw [if_pos (e1.2 h), hz.2 h]
  · rw [if_neg (fun hh => h (e1.1 hh))]
    have : Lib.compareBytes a.data.toList b.data.toList ≠ 0 := fun hh => h (hz.1 hh)
    by_cases h1 : Lib.compareBytes a.data.toList b.data.toList = -1
    · rw [if_pos (by simpa using h1), h1]
    · rw [if_neg (by simpa using h1)]
      congr 1
      omega
theorem text_ev (a b : ByteArray) (ha : a.size < 9223372036854775807) : Ev fun k => rosetteref04_Text.f k a b = some (Lib.compareBytes a.data.toList b.data.toList) := ⟨2 * a.size + 2, fun k hk => text_f a b ha k hk⟩
end Go.Proofs.Ytmbpgebboppkmaa
end

section
/- the reference: which events are right; plain laws -/
set_option linter.unusedVariables false
set_option linter.unusedSimpArgs false
set_option autoImplicit false
namespace Go.Proofs.Ytmbpgebboppkmaa
open Go Go.RowKit Go.Shelf Go.Sort Go.Proofs.YtmbpgebboppkmaaW.PrintWords Go.Proofs.YtmbpgebboppkmaaW.PrintLast Go.Proofs.Ytmbpgebboppkmaa.G

/-- strict neighbours -/
def StrN (l : List S32) : Prop := ∀ i (h : i + 1 < l.length), Lib.compareBytes l[i].f0.data.toList l[i + 1].f0.data.toList < 0
theorem cmpB_anti (a b : List UInt8) : Lib.compareBytes a b < 0 ↔ Lib.compareBytes b a > 0 := by
  have := cmpB_neg a b
  omega
theorem str_iff (l : List S32) : StrN l ↔ OrdN l ∧ (l.map (·.f0)).Nodup := by
  constructor
  · intro h
    have hp : ∀ d i (h2 : i + 1 + d < l.length), ltOf cmpN l[i] l[i + 1 + d] = true := by
      intro d
      induction d with
      | zero =>
        intro i h2
        exact (ltN _ _).2 (h i h2)
      | succ d ih =>
        intro i h2
        have h3 := ih i (by omega)
        have h4 : ltOf cmpN l[i + 1 + d] l[i + 1 + d + 1] = true := (ltN _ _).2 (h (i + 1 + d) h2)
        exact swoN.trans _ _ _ h3 h4
    constructor
    · unfold OrdN
      rw [List.pairwise_iff_getElem]
      intro i j hi hj hij
      have := hp (j - (i + 1)) i (by omega)
      have e : i + 1 + (j - (i + 1)) = j := by omega
      simp only [e] at this
      cases hb : ltOf cmpN l[j] l[i] with
      | false => rfl
      | true => have h5 := swoN.trans _ _ _ this hb; rw [swoN.irrefl] at h5; cases h5
    · unfold List.Nodup
      rw [List.pairwise_map, List.pairwise_iff_getElem]
      intro i j hi hj hij
      have := hp (j - (i + 1)) i (by omega)
      have e : i + 1 + (j - (i + 1)) = j := by omega
      simp only [e] at this
      intro he
      have h6 := (ltN _ _).1 this
      rw [he, (cmpB_zero _ _).2 rfl] at h6
      omega
  · rintro ⟨h1, h2⟩ i hi
    unfold OrdN at h1
    rw [List.pairwise_iff_getElem] at h1
    have h3 := h1 i (i + 1) (by omega) hi (by omega)
    have h4 := (ltN_f _ _).1 h3
    have h5 := cmpB_neg l[i].f0.data.toList l[i + 1].f0.data.toList
    by_cases hz : Lib.compareBytes l[i].f0.data.toList l[i + 1].f0.data.toList = 0
    · exfalso
      have he := (cmpB_zero _ _).1 hz
      have e1 : l[i].f0 = l[i + 1].f0 := toL_inj (by rw [ByteArray.toList_eq, ByteArray.toList_eq]; exact he)
      unfold List.Nodup at h2
      rw [List.pairwise_map, List.pairwise_iff_getElem] at h2
      exact h2 i (i + 1) (by omega) hi (by omega) e1
    · omega
def rightL (l : List S32) (i : Nat) : Bool := decide (l.length ≤ 24) && decide (∀ j (h : j < l.length), i ≤ j → wrongA l[j] = false ∧ (0 < j → Lib.compareBytes (l[j - 1]'(by omega)).f0.data.toList l[j].f0.data.toList < 0))
theorem rightL_0 (l : List S32) : rightL l 0 = rightE l := by
  rw [Bool.eq_iff_iff, right_iff, ← str_iff]
  unfold rightL
  rw [Bool.and_eq_true, decide_eq_true_eq, decide_eq_true_eq]
  constructor
  · rintro ⟨h1, h2⟩
    refine ⟨h1, ?_, ?_⟩
    · rw [List.any_eq_false]
      intro x hx
      obtain ⟨j, hj, rfl⟩ := List.getElem_of_mem hx
      rw [(h2 j hj (by omega)).1]
      decide
    · intro i hi
      have := (h2 (i + 1) hi (by omega)).2 (by omega)
      simpa using this
  · rintro ⟨h1, h2, h3⟩
    refine ⟨h1, fun j hj _ => ⟨?_, fun h0 => ?_⟩⟩
    · rw [List.any_eq_false] at h2
      have := h2 _ (List.getElem_mem hj)
      simpa using this
    · obtain ⟨i, rfl⟩ : ∃ i, j = i + 1 := ⟨j - 1, by omega⟩
      exact h3 i hj
theorem wfI64 {n : Int} (h : (Lit.int .i64 n).wf = true) : -9223372036854775808 ≤ n ∧ n < 9223372036854775808 := by
  simp only [Lit.wf, Bool.and_eq_true, decide_eq_true_eq] at h
  have h1 : IntKind.i64.min = -9223372036854775808 := rfl
  have h2 : IntKind.i64.max = 9223372036854775807 := rfl
  omega
theorem one_ev {l : List S32} (hg : GoodA l) (i : Nat) (hi : i < l.length) : rosetteref05_one.f l[i].f0 l[i].f1.f0 l[i].f1.f1 l[i].f1.f2 = some (!wrongA l[i]) := by
  obtain ⟨_, _, h, _⟩ := hg.2 l[i] (List.getElem_mem hi)
  have := wfI64 h
  exact one_f _ this.1 this.2
theorem size_ok {l : List S32} (hg : GoodA l) (i : Nat) (hi : i < l.length) : l[i].f0.size < 9223372036854775807 := by
  have := (hg.2 l[i] (List.getElem_mem hi)).1
  omega
theorem right_go {l : List S32} (hg : GoodA l) : ∀ (d i : Nat), i + d = l.length → Ev fun k => rosetteref05_Right.l0 k l (i : Int) = some (rightL l i) := by
  have hl : l.length ≤ 4611686018427387904 := by have := hg.1.2; omega
  intro d
  induction d with
  | zero =>
    intro i hi
    refine Ev.now fun k => ?_
    simp only [rosetteref05_Right.l0]
    rw [if_neg (by omega)]
    congr 1
    unfold rightL
    rw [decide_eq_true (p := ∀ j (h : j < l.length), _) (fun j hj hij => by omega), Bool.and_true]
    rw [Bool.eq_iff_iff, decide_eq_true_eq, decide_eq_true_eq]
    omega
  | succ d ih =>
    intro i hi
    have hlt : i < l.length := by omega
    have ht : Ev fun k => 0 < i → rosetteref04_Text.f k (l[i - 1]'(by omega)).f0 l[i].f0 = some (Lib.compareBytes (l[i - 1]'(by omega)).f0.data.toList l[i].f0.data.toList) :=
      (text_ev _ _ (size_ok hg (i - 1) (by omega))).mono fun k hk _ => hk
    refine (Ev.and (ih (i + 1) (by omega)) ht).succ fun k hk => ?_
    obtain ⟨hk1, hk2⟩ := hk
    have hstep : rightL l i = (!wrongA l[i] && (decide (i = 0) || decide (Lib.compareBytes (l[i - 1]'(by omega)).f0.data.toList l[i].f0.data.toList < 0)) && rightL l (i + 1)) := by
      rw [Bool.eq_iff_iff]
      unfold rightL
      simp only [Bool.and_eq_true, Bool.or_eq_true, decide_eq_true_eq, Bool.not_eq_true']
      constructor
      · rintro ⟨h1, h2⟩
        have h3 := h2 i hlt (Nat.le_refl _)
        refine ⟨⟨h3.1, ?_⟩, h1, fun j hj hij => h2 j hj (by omega)⟩
        by_cases h0 : i = 0
        · exact Or.inl h0
        · exact Or.inr (h3.2 (by omega))
      · rintro ⟨⟨h1, h2⟩, h3, h4⟩
        refine ⟨h3, fun j hj hij => ?_⟩
        by_cases e : j = i
        · subst e
          exact ⟨h1, fun h0 => h2.resolve_left (by omega)⟩
        · exact h4 j hj (by omega)
    rw [hstep]
    simp only [rosetteref05_Right.l0]
    rw [if_pos (by omega), if_pos (by omega), rdA l i hlt, one_ev hg i hlt, Option.bind_some]
    cases hw : wrongA l[i] with
    | true => rfl
    | false =>
      rw [if_pos (by decide), w_next i (by omega)]
      by_cases h0 : i = 0
      · subst h0
        rw [if_neg (by omega), hk1]
        simp
      · have hp : wrap64 ((i : Int) - 1) = ((i - 1 : Nat) : Int) := by unfold wrap64; omega
        rw [if_pos (by omega), hp, if_pos (by omega), if_pos (by omega), rdA l (i - 1) (by omega), hk2 (by omega), Option.bind_some, hk1]
        by_cases hc : Lib.compareBytes (l[i - 1]'(by omega)).f0.data.toList l[i].f0.data.toList ≥ 0
        · rw [if_pos hc, decide_eq_false h0, decide_eq_false (by omega)]; rfl
        · rw [if_neg hc, decide_eq_true (p := Lib.compareBytes _ _ < 0) (by omega)]; simp
theorem rref_ev {l : List S32} (hg : GoodA l) : Ev fun k => rosetteref05_Right.f k l = some (rightE l) :=
  (right_go hg l.length 0 (by omega)).mono fun k hk => by unfold rosetteref05_Right.f; rw [← rightL_0]; exact hk
end Go.Proofs.Ytmbpgebboppkmaa
end

section
-- Written by a program of this session (wip/tools/myprint.py), over the kit's print.
namespace Go.Proofs.Ytmbpgebboppkmaa.G
open Go.RowKit Go.Proofs.YtmbpgebboppkmaaW.PrintWords Go.Proofs.YtmbpgebboppkmaaW.PrintLast Go.Proofs.YtmbpgebboppkmaaW.PrintMore
attribute [local go_sem] max2_int min2_int max_two min_two max_three min_three max_four min_four   -- for this text's walks alone
set_option linter.unusedVariables false
set_option linter.unusedSimpArgs false

/-! ### rosetteref05_Make: function 11 -/
mutual
def rosetteref05_Make.l0 : Nat → List (S32) → Int → Option ((List (S32)) × Int)
  | 0, _, _ => none
  | k + 1, x0, x4 => if x4 < (x0.length : Int) then (if 0 ≤ x4 then ((rosetteref05_one.f ((rd_T32 x0 x4).f0) ((rd_T32 x0 x4).f1.f0) ((rd_T32 x0 x4).f1.f1) ((rd_T32 x0 x4).f1.f2)).bind fun t118 => (if t118 = true then (rosetteref05_Make.l0 k x0 (wrap64 (x4 + 1))) else (some (([] : List (S32)), 1)))) else (none)) else (rosetteref05_Make.l1 k x0 ([] : List (S32)) 0)
def rosetteref05_Make.l1 : Nat → List (S32) → List (S32) → Int → Option ((List (S32)) × Int)
  | 0, _, _, _ => none
  | k + 1, x0, x6, x7 => if x7 < (x0.length : Int) then (rosetteref05_Make.l2 k x0 x6 x7 0) else (some (x6, 0))
def rosetteref05_Make.l2 : Nat → List (S32) → List (S32) → Int → Int → Option ((List (S32)) × Int)
  | 0, _, _, _, _ => none
  | k + 1, x0, x6, x7, x8 => if x8 < (x6.length : Int) then (if 0 ≤ x8 then (if 0 ≤ x7 then (if x7 < (x0.length : Int) then ((rosetteref04_Text.f k ((rd_T32 x6 x8).f0) ((rd_T32 x0 x7).f0)).bind fun t121 => (if t121 < 0 then (rosetteref05_Make.l2 k x0 x6 x7 (wrap64 (x8 + 1))) else (if ((rd_T32 x6 x8).f0).toList = ((rd_T32 x0 x7).f0).toList then (some (([] : List (S32)), 8)) else ((some (([] : List (S32)) : List (S32))).bind fun y124 => (if x8 ≤ (x6.length : Int) then ((some (x6.take (x8 : Int).toNat : List (S32))).bind fun y127 => (if y124.length + y127.length < 2932031007402 then ((some (y124 ++ y127 : List (S32))).bind fun y131 => (if y131.length < 2932031007402 then ((some (y131 ++ [(⟨(rd_T32 x0 x7).f0, (⟨(rd_T32 x0 x7).f1.f0, (rd_T32 x0 x7).f1.f1, (rd_T32 x0 x7).f1.f2⟩ : S30)⟩ : S32)] : List (S32))).bind fun y135 => ((some (x6.drop (x8 : Int).toNat : List (S32))).bind fun y138 => (if y135.length + y138.length < 2932031007402 then (rosetteref05_Make.l1 k x0 (y135 ++ y138) (wrap64 (x7 + 1))) else (none)))) else (none))) else (none))) else (none)))))) else (none)) else (none)) else (none)) else ((some (([] : List (S32)) : List (S32))).bind fun y145 => (if 0 ≤ x8 then (if x8 ≤ (x6.length : Int) then ((some (x6.take (x8 : Int).toNat : List (S32))).bind fun y148 => (if y145.length + y148.length < 2932031007402 then ((some (y145 ++ y148 : List (S32))).bind fun y152 => (if 0 ≤ x7 then (if x7 < (x0.length : Int) then (if y152.length < 2932031007402 then ((some (y152 ++ [(⟨(rd_T32 x0 x7).f0, (⟨(rd_T32 x0 x7).f1.f0, (rd_T32 x0 x7).f1.f1, (rd_T32 x0 x7).f1.f2⟩ : S30)⟩ : S32)] : List (S32))).bind fun y156 => ((some (x6.drop (x8 : Int).toNat : List (S32))).bind fun y159 => (if y156.length + y159.length < 2932031007402 then (rosetteref05_Make.l1 k x0 (y156 ++ y159) (wrap64 (x7 + 1))) else (none)))) else (none)) else (none)) else (none))) else (none))) else (none)) else (none)))
end
def rosetteref05_Make.f (k : Nat) (l0 : List (S32)) : Option ((List (S32)) × Int) := if (l0.length : Int) > 24 then (some (([] : List (S32)), 4)) else (rosetteref05_Make.l0 k l0 0)
theorem rosetteref05_Make.mono_l : ∀ k, (∀ y0 y1, LeO (rosetteref05_Make.l0 k y0 y1) (rosetteref05_Make.l0 (k + 1) y0 y1)) ∧ (∀ y0 y1 y2, LeO (rosetteref05_Make.l1 k y0 y1 y2) (rosetteref05_Make.l1 (k + 1) y0 y1 y2)) ∧ (∀ y0 y1 y2 y3, LeO (rosetteref05_Make.l2 k y0 y1 y2 y3) (rosetteref05_Make.l2 (k + 1) y0 y1 y2 y3))
  | 0 => ⟨fun _ _ r h => by simp [rosetteref05_Make.l0] at h, fun _ _ _ r h => by simp [rosetteref05_Make.l1] at h, fun _ _ _ _ r h => by simp [rosetteref05_Make.l2] at h⟩
  | k + 1 => by
    obtain ⟨ih0, ih1, ih2⟩ := rosetteref05_Make.mono_l k
    refine ⟨?_, ?_, ?_⟩
    · intro y0 y1
      unfold rosetteref05_Make.l0
      repeat' first
      | (with_reducible exact ih0 _ _)
      | (with_reducible exact ih1 _ _ _)
      | (with_reducible exact ih2 _ _ _ _)
      | (with_reducible exact rosetteref04_Text.mono _ _ _)
      | (with_reducible exact LeO.refl _)
      | (with_reducible exact LeO.none _)
      | (with_reducible refine LeO.ite ?_ ?_)
      | (with_reducible refine LeO.bind ?_ (fun _ => ?_))
      | exact ih0 _ _
      | exact ih1 _ _ _
      | exact ih2 _ _ _ _
      | exact rosetteref04_Text.mono _ _ _
      | exact LeO.none _
      | refine LeO.ite ?_ ?_
      | refine LeO.bind ?_ (fun _ => ?_)
    · intro y0 y1 y2
      unfold rosetteref05_Make.l1
      repeat' first
      | (with_reducible exact ih0 _ _)
      | (with_reducible exact ih1 _ _ _)
      | (with_reducible exact ih2 _ _ _ _)
      | (with_reducible exact rosetteref04_Text.mono _ _ _)
      | (with_reducible exact LeO.refl _)
      | (with_reducible exact LeO.none _)
      | (with_reducible refine LeO.ite ?_ ?_)
      | (with_reducible refine LeO.bind ?_ (fun _ => ?_))
      | exact ih0 _ _
      | exact ih1 _ _ _
      | exact ih2 _ _ _ _
      | exact rosetteref04_Text.mono _ _ _
      | exact LeO.none _
      | refine LeO.ite ?_ ?_
      | refine LeO.bind ?_ (fun _ => ?_)
    · intro y0 y1 y2 y3
      unfold rosetteref05_Make.l2
      repeat' first
      | (with_reducible exact ih0 _ _)
      | (with_reducible exact ih1 _ _ _)
      | (with_reducible exact ih2 _ _ _ _)
      | (with_reducible exact rosetteref04_Text.mono _ _ _)
      | (with_reducible exact LeO.refl _)
      | (with_reducible exact LeO.none _)
      | (with_reducible refine LeO.ite ?_ ?_)
      | (with_reducible refine LeO.bind ?_ (fun _ => ?_))
      | exact ih0 _ _
      | exact ih1 _ _ _
      | exact ih2 _ _ _ _
      | exact rosetteref04_Text.mono _ _ _
      | exact LeO.none _
      | refine LeO.ite ?_ ?_
      | refine LeO.bind ?_ (fun _ => ?_)
theorem rosetteref05_Make.mono : ∀ a0 k, LeO (rosetteref05_Make.f k a0) (rosetteref05_Make.f (k + 1) a0) := by
  intro a0 k
  obtain ⟨ih0, ih1, ih2⟩ := rosetteref05_Make.mono_l k
  unfold rosetteref05_Make.f
  repeat' first
      | (with_reducible exact ih0 _ _)
      | (with_reducible exact ih1 _ _ _)
      | (with_reducible exact ih2 _ _ _ _)
      | (with_reducible exact rosetteref04_Text.mono _ _ _)
      | (with_reducible exact LeO.refl _)
      | (with_reducible exact LeO.none _)
      | (with_reducible refine LeO.ite ?_ ?_)
      | (with_reducible refine LeO.bind ?_ (fun _ => ?_))
      | exact ih0 _ _
      | exact ih1 _ _ _
      | exact ih2 _ _ _ _
      | exact rosetteref04_Text.mono _ _ _
      | exact LeO.none _
      | refine LeO.ite ?_ ?_
      | refine LeO.bind ?_ (fun _ => ?_)
set_option maxHeartbeats 8000000 in
set_option maxRecDepth 100000 in
theorem rosetteref05_Make.calls (k : Nat) (A0 : Option Addr) (c0 : Nat) (l0 : List (S32)) (r1 : List (S32)) (r2 : Int) (w : World) (hr0 : Kd.C k32 w A0 l0.length l0) (hc0 : l0.length ≤ c0) (h : rosetteref05_Make.f k l0 = some (r1, r2)) :
    Calls Try.prog 11 #[.slice A0 l0.length c0] w fun e w' => ∃ v0_ : Value, e = .returned (.tuple #[v0_, .int .i64 r2]) ∧ Kd.R k32 32 w' w.heap.size (fun _ => True) v0_ r1 ∧ Below w.heap.size w w' := by
  have hu32 := Try.underlying32
  have HR0 := Aside0.mk hr0
  have HC0 := Aside0.mk hc0
  clear hr0 hc0
  have HB := Aside0.mk (Below.refl w.heap.size w)
  have H : (if (l0.length : Int) > 24 then (some (([] : List (S32)), 4)) else (rosetteref05_Make.l0 k l0 0)) = some (r1, r2) := h
  clear h
  by_cases c2 : (l0.length : Int) > 24
  · rw [if_pos c2] at H
    have c2b0 : decide (24 < (l0.length : Int)) = true := decide_eq_true c2
    have c2b1 : decide (24 < l0.length) = true := decide_eq_true (by omega)
    clear c2
    simp only [Option.some.injEq, Prod.mk.injEq] at H
    obtain ⟨rfl, rfl⟩ := H
    go_enter Try.func11, Try.ntmps11
    go_wp2
    repeat (go_quiet (fail); try go_wp2)
    go_ret2
    exact ⟨_, by first | rfl | (simp [errW_none, errW_some] <;> rfl) | (simp [*, errW_none, errW_some] <;> rfl), by first | exact Kd.R_nil _ _ _ _ _ | exact Kd.N_nil _ _ _ _ _ | exact Kd.V_nil _ _ _ _ _ | exact Kd.Q_nil _ _ _ _ _ | exact Kd.S_nil _ _ _ _ _, by repeat (first | (with_reducible first | exact HB.out | apply below_alloc | apply pw_below_drewN | apply below_drew1) | exact HB.out)⟩
  · rw [if_neg c2] at H
    have c2b0 : decide (24 < (l0.length : Int)) = false := decide_eq_false c2
    have c2b1 : decide (24 < l0.length) = false := decide_eq_false (by omega)
    clear c2
    have H' := Aside0.mk H
    clear H
    go_enter Try.func11, Try.ntmps11
    go_wp2
    repeat (go_quiet (fail); try go_wp2)
    go_loopg [4] k (fun kq v4 w' => ∃ (x4_1 : Int), v4 = .int .i64 x4_1 ∧ Aside0 (rosetteref05_Make.l0 kq l0 x4_1 = some (r1, r2)) ∧ Aside0 (kq ≤ k) ∧ Aside0 (Below w.heap.size w w'))
    case atStart => exact ⟨(0), (by first | rfl | (simp; done) | (simp [*]; done)), H', ⟨Nat.le_refl _⟩, ⟨by repeat (first | (with_reducible first | exact HB.out | apply below_alloc | apply pw_below_drewN | apply below_drew1) | exact HB.out)⟩⟩
    case round =>
      clear H'
      try clear c1
      try clear c2
      try clear c2b0
      try clear c2b1
      try clear p2
      obtain ⟨x4_1, rfl, HA, HK1, HB⟩ := hrel
      cases gk with
      | zero => exact absurd HA.out (by simp [rosetteref05_Make.l0])
      | succ k1 =>
        have H := HA.out
        clear HA
        simp only [rosetteref05_Make.l0] at H
        by_cases c3 : x4_1 < (l0.length : Int)
        · rw [if_pos c3] at H
          have c3b0 : decide (x4_1 < (l0.length : Int)) = true := decide_eq_true c3
          clear c3
          by_cases c4 : 0 ≤ x4_1
          · rw [if_pos c4] at H
            have c4b0 : decide (0 ≤ x4_1) = true := decide_eq_true c4
            clear c4
            replace H := Option.bind_eq_some_iff.mp H
            obtain ⟨t118, A50, H⟩ := H
            replace H : (if t118 = true then (rosetteref05_Make.l0 k1 l0 (wrap64 (x4_1 + 1))) else (some (([] : List (S32)), 1))) = some (r1, r2) := H
            have A5 := Aside0.mk A50
            clear A50
            by_cases c6 : t118 = true
            · subst c6
              have H1 : (rosetteref05_Make.l0 k1 l0 (wrap64 (x4_1 + 1))) = some (r1, r2) := by rw [if_pos rfl] at H; exact H
              clear H
              have H := H1
              clear H1
              have H' := Aside0.mk H
              clear H
              have p117 : 0 ≤ (x4_1 : Int) := of_decide_eq_true (by first | (with_reducible assumption) | assumption)
              have q117 : x4_1 < (l0.length : Int) := of_decide_eq_true (by first | (with_reducible assumption) | assumption)
              obtain ⟨ad117, e117, hx117_0, hx117_1, hx117_2, hx117_3⟩ := at_T32 HR0.out x4_1 p117 q117
              cases e117
              replace hx117_0 := (HB.out.cell (World.block_lt_of_cell? w _ hx117_0)).trans hx117_0
              replace hx117_1 := (HB.out.cell (World.block_lt_of_cell? w _ hx117_1)).trans hx117_1
              replace hx117_2 := (HB.out.cell (World.block_lt_of_cell? w _ hx117_2)).trans hx117_2
              replace hx117_3 := (HB.out.cell (World.block_lt_of_cell? w _ hx117_3)).trans hx117_3
              replace p117 := eq_true p117
              replace q117 := eq_true q117
              go_wp2_with (first | (go_at_call 24; (with_reducible refine (rosetteref05_one.calls ((rd_T32 l0 x4_1).f0) ((rd_T32 l0 x4_1).f1.f0) ((rd_T32 l0 x4_1).f1.f1) ((rd_T32 l0 x4_1).f1.f2) true _ A5.out).mono ?_); rintro e w7 ⟨rfl, hb⟩; have n0_ := Aside0.mk (below_step (by repeat (first | (with_reducible first | exact HB.out | apply below_alloc | apply pw_below_drewN | apply below_drew1) | exact HB.out)) hb); clear HB; have HB := n0_; clear n0_; (try clear hb); (try clear hb2); (try clear hk); (try clear hi)))
              repeat (go_quiet (first | (go_at_call 24; (with_reducible refine (rosetteref05_one.calls ((rd_T32 l0 x4_1).f0) ((rd_T32 l0 x4_1).f1.f0) ((rd_T32 l0 x4_1).f1.f1) ((rd_T32 l0 x4_1).f1.f2) true _ A5.out).mono ?_); rintro e w7 ⟨rfl, hb⟩; have n0_ := Aside0.mk (below_step (by repeat (first | (with_reducible first | exact HB.out | apply below_alloc | apply pw_below_drewN | apply below_drew1) | exact HB.out)) hb); clear HB; have HB := n0_; clear n0_; (try clear hb); (try clear hb2); (try clear hk); (try clear hi))); try go_wp2_with (first | (go_at_call 24; (with_reducible refine (rosetteref05_one.calls ((rd_T32 l0 x4_1).f0) ((rd_T32 l0 x4_1).f1.f0) ((rd_T32 l0 x4_1).f1.f1) ((rd_T32 l0 x4_1).f1.f2) true _ A5.out).mono ?_); rintro e w7 ⟨rfl, hb⟩; have n0_ := Aside0.mk (below_step (by repeat (first | (with_reducible first | exact HB.out | apply below_alloc | apply pw_below_drewN | apply below_drew1) | exact HB.out)) hb); clear HB; have HB := n0_; clear n0_; (try clear hb); (try clear hb2); (try clear hk); (try clear hi))))
              go_roundg k1
              case measure => have := HK1.out; omega
              case rel => exact ⟨(wrap64 (x4_1 + 1)), (by first | rfl | (simp; done) | (simp [*]; done)), H', ⟨by have := HK1.out; omega⟩, ⟨by repeat (first | (with_reducible first | exact HB.out | apply below_alloc | apply pw_below_drewN | apply below_drew1) | exact HB.out)⟩⟩
            · replace c6 := Bool.eq_false_iff.mpr c6
              subst c6
              have H1 : (some (([] : List (S32)), 1)) = some (r1, r2) := by rw [if_neg (show ¬ (false = true) by decide)] at H; exact H
              clear H
              have H := H1
              clear H1
              simp only [Option.some.injEq, Prod.mk.injEq] at H
              obtain ⟨rfl, rfl⟩ := H
              have p117 : 0 ≤ (x4_1 : Int) := of_decide_eq_true (by first | (with_reducible assumption) | assumption)
              have q117 : x4_1 < (l0.length : Int) := of_decide_eq_true (by first | (with_reducible assumption) | assumption)
              obtain ⟨ad117, e117, hx117_0, hx117_1, hx117_2, hx117_3⟩ := at_T32 HR0.out x4_1 p117 q117
              cases e117
              replace hx117_0 := (HB.out.cell (World.block_lt_of_cell? w _ hx117_0)).trans hx117_0
              replace hx117_1 := (HB.out.cell (World.block_lt_of_cell? w _ hx117_1)).trans hx117_1
              replace hx117_2 := (HB.out.cell (World.block_lt_of_cell? w _ hx117_2)).trans hx117_2
              replace hx117_3 := (HB.out.cell (World.block_lt_of_cell? w _ hx117_3)).trans hx117_3
              replace p117 := eq_true p117
              replace q117 := eq_true q117
              go_wp2_with (first | (go_at_call 24; (with_reducible refine (rosetteref05_one.calls ((rd_T32 l0 x4_1).f0) ((rd_T32 l0 x4_1).f1.f0) ((rd_T32 l0 x4_1).f1.f1) ((rd_T32 l0 x4_1).f1.f2) false _ A5.out).mono ?_); rintro e w8 ⟨rfl, hb⟩; have n0_ := Aside0.mk (below_step (by repeat (first | (with_reducible first | exact HB.out | apply below_alloc | apply pw_below_drewN | apply below_drew1) | exact HB.out)) hb); clear HB; have HB := n0_; clear n0_; (try clear hb); (try clear hb2); (try clear hk); (try clear hi)))
              repeat (go_quiet (first | (go_at_call 24; (with_reducible refine (rosetteref05_one.calls ((rd_T32 l0 x4_1).f0) ((rd_T32 l0 x4_1).f1.f0) ((rd_T32 l0 x4_1).f1.f1) ((rd_T32 l0 x4_1).f1.f2) false _ A5.out).mono ?_); rintro e w8 ⟨rfl, hb⟩; have n0_ := Aside0.mk (below_step (by repeat (first | (with_reducible first | exact HB.out | apply below_alloc | apply pw_below_drewN | apply below_drew1) | exact HB.out)) hb); clear HB; have HB := n0_; clear n0_; (try clear hb); (try clear hb2); (try clear hk); (try clear hi))); try go_wp2_with (first | (go_at_call 24; (with_reducible refine (rosetteref05_one.calls ((rd_T32 l0 x4_1).f0) ((rd_T32 l0 x4_1).f1.f0) ((rd_T32 l0 x4_1).f1.f1) ((rd_T32 l0 x4_1).f1.f2) false _ A5.out).mono ?_); rintro e w8 ⟨rfl, hb⟩; have n0_ := Aside0.mk (below_step (by repeat (first | (with_reducible first | exact HB.out | apply below_alloc | apply pw_below_drewN | apply below_drew1) | exact HB.out)) hb); clear HB; have HB := n0_; clear n0_; (try clear hb); (try clear hb2); (try clear hk); (try clear hi))))
              go_ret2
              exact ⟨_, by first | rfl | (simp [errW_none, errW_some] <;> rfl) | (simp [*, errW_none, errW_some] <;> rfl), by first | exact Kd.R_nil _ _ _ _ _ | exact Kd.N_nil _ _ _ _ _ | exact Kd.V_nil _ _ _ _ _ | exact Kd.Q_nil _ _ _ _ _ | exact Kd.S_nil _ _ _ _ _, by repeat (first | (with_reducible first | exact HB.out | apply below_alloc | apply pw_below_drewN | apply below_drew1) | exact HB.out)⟩
          · rw [if_neg c4] at H
            exact absurd H (by simp)
        · rw [if_neg c3] at H
          have c3b0 : decide (x4_1 < (l0.length : Int)) = false := decide_eq_false c3
          clear c3
          have H' := Aside0.mk H
          clear H
          go_wp2
          repeat (go_quiet (fail); try go_wp2)
          go_loopg [6, 7] k1 (fun kq v6 v7 w' => ∃ (x6_2 : List (S32)) (x7_2 : Int), v7 = .int .i64 x7_2 ∧ Aside0 (rosetteref05_Make.l1 kq l0 x6_2 x7_2 = some (r1, r2)) ∧ Aside0 (kq ≤ k1) ∧ Aside0 (Kd.R k32 32 w' w.heap.size (fun _ => True) v6 x6_2) ∧ Aside0 (Below w.heap.size w w'))
          case atStart => exact ⟨(([] : List (S32))), (0), (by first | rfl | (simp; done) | (simp [*]; done)), H', ⟨Nat.le_refl _⟩, ⟨by first | exact Kd.R_nil _ _ _ _ _ | exact Kd.N_nil _ _ _ _ _ | exact Kd.V_nil _ _ _ _ _ | exact Kd.Q_nil _ _ _ _ _ | exact Kd.S_nil _ _ _ _ _⟩, ⟨by repeat (first | (with_reducible first | exact HB.out | apply below_alloc | apply pw_below_drewN | apply below_drew1) | exact HB.out)⟩⟩
          case round =>
            clear H'
            try clear c1
            try clear p1
            try clear q1
            try clear hx1
            try clear c2
            try clear c2b0
            try clear c2b1
            try clear p2
            try clear c3
            try clear c3b0
            try clear c4
            try clear c4b0
            try clear c6
            try clear p6
            try clear hx117_0
            try clear hx117_1
            try clear hx117_2
            try clear hx117_3
            try clear p117
            try clear p2
            try clear q117
            obtain ⟨x6_2, x7_2, rfl, HA, HK2, HO_6, HB⟩ := hrel
            cases gk with
            | zero => exact absurd HA.out (by simp [rosetteref05_Make.l1])
            | succ k2 =>
              have H := HA.out
              clear HA
              simp only [rosetteref05_Make.l1] at H
              by_cases c9 : x7_2 < (l0.length : Int)
              · rw [if_pos c9] at H
                have c9b0 : decide (x7_2 < (l0.length : Int)) = true := decide_eq_true c9
                clear c9
                have H' := Aside0.mk H
                clear H
                go_wp2
                repeat (go_quiet (fail); try go_wp2)
                go_loopg [8] k2 (fun kq v8 w' => ∃ (x8_3 : Int), v8 = .int .i64 x8_3 ∧ Aside0 (rosetteref05_Make.l2 kq l0 x6_2 x7_2 x8_3 = some (r1, r2)) ∧ Aside0 (kq ≤ k2) ∧ Aside0 (Kd.R k32 32 w' w.heap.size (fun _ => True) u6 x6_2) ∧ Aside0 (Below w.heap.size w w'))
                case atStart => exact ⟨(0), (by first | rfl | (simp; done) | (simp [*]; done)), H', ⟨Nat.le_refl _⟩, ⟨by (with_reducible repeat (first | apply Kd.R_alloc | apply Kd.R_drewN | apply Kd.R_drew)); exact HO_6.out⟩, ⟨by repeat (first | (with_reducible first | exact HB.out | apply below_alloc | apply pw_below_drewN | apply below_drew1) | exact HB.out)⟩⟩
                case round =>
                  clear H'
                  try clear c1
                  try clear p1
                  try clear q1
                  try clear hx1
                  try clear c2
                  try clear c2b0
                  try clear c2b1
                  try clear p2
                  try clear c3
                  try clear c3b0
                  try clear c4
                  try clear c4b0
                  try clear c6
                  try clear p6
                  try clear c9
                  try clear c9b0
                  try clear hx117_0
                  try clear hx117_1
                  try clear hx117_2
                  try clear hx117_3
                  try clear p1
                  try clear p117
                  try clear p2
                  try clear p6
                  try clear q1
                  try clear q117
                  obtain ⟨x8_3, rfl, HA, HK3, HO_6, HB⟩ := hrel
                  cases gk with
                  | zero => exact absurd HA.out (by simp [rosetteref05_Make.l2])
                  | succ k3 =>
                    have H := HA.out
                    clear HA
                    simp only [rosetteref05_Make.l2] at H
                    by_cases c10 : x8_3 < (x6_2.length : Int)
                    · rw [if_pos c10] at H
                      have c10b0 : decide (x8_3 < (x6_2.length : Int)) = true := decide_eq_true c10
                      clear c10
                      by_cases c11 : 0 ≤ x8_3
                      · rw [if_pos c11] at H
                        have c11b0 : decide (0 ≤ x8_3) = true := decide_eq_true c11
                        clear c11
                        by_cases c12 : 0 ≤ x7_2
                        · rw [if_pos c12] at H
                          have c12b0 : decide (0 ≤ x7_2) = true := decide_eq_true c12
                          clear c12
                          by_cases c13 : x7_2 < (l0.length : Int)
                          · rw [if_pos c13] at H
                            have c13b0 : decide (x7_2 < (l0.length : Int)) = true := decide_eq_true c13
                            clear c13
                            replace H := Option.bind_eq_some_iff.mp H
                            obtain ⟨t121, A140, H⟩ := H
                            replace H : (if t121 < 0 then (rosetteref05_Make.l2 k3 l0 x6_2 x7_2 (wrap64 (x8_3 + 1))) else (if ((rd_T32 x6_2 x8_3).f0).toList = ((rd_T32 l0 x7_2).f0).toList then (some (([] : List (S32)), 8)) else ((some (([] : List (S32)) : List (S32))).bind fun y124 => (if x8_3 ≤ (x6_2.length : Int) then ((some (x6_2.take (x8_3 : Int).toNat : List (S32))).bind fun y127 => (if y124.length + y127.length < 2932031007402 then ((some (y124 ++ y127 : List (S32))).bind fun y131 => (if y131.length < 2932031007402 then ((some (y131 ++ [(⟨(rd_T32 l0 x7_2).f0, (⟨(rd_T32 l0 x7_2).f1.f0, (rd_T32 l0 x7_2).f1.f1, (rd_T32 l0 x7_2).f1.f2⟩ : S30)⟩ : S32)] : List (S32))).bind fun y135 => ((some (x6_2.drop (x8_3 : Int).toNat : List (S32))).bind fun y138 => (if y135.length + y138.length < 2932031007402 then (rosetteref05_Make.l1 k3 l0 (y135 ++ y138) (wrap64 (x7_2 + 1))) else (none)))) else (none))) else (none))) else (none))))) = some (r1, r2) := H
                            have A14 := Aside0.mk A140
                            clear A140
                            by_cases c15 : t121 < 0
                            · rw [if_pos c15] at H
                              have c15b0 : decide (t121 < 0) = true := decide_eq_true c15
                              clear c15
                              have H' := Aside0.mk H
                              clear H
                              obtain ⟨Ao16, co16, eo16⟩ := Kd.R_slice HO_6.out
                              subst eo16
                              have p119 : 0 ≤ (x8_3 : Int) := of_decide_eq_true (by first | (with_reducible assumption) | assumption)
                              have q119 : x8_3 < (x6_2.length : Int) := of_decide_eq_true (by first | (with_reducible assumption) | assumption)
                              obtain ⟨ad119, e119, hx119_0, hx119_1, hx119_2, hx119_3⟩ := at_T32 (Kd.R_reads' HO_6.out).2.2 x8_3 p119 q119
                              cases e119
                              replace p119 := eq_true p119
                              replace q119 := eq_true q119
                              have p120 : 0 ≤ (x7_2 : Int) := of_decide_eq_true (by first | (with_reducible assumption) | assumption)
                              have q120 : x7_2 < (l0.length : Int) := of_decide_eq_true (by first | (with_reducible assumption) | assumption)
                              obtain ⟨ad120, e120, hx120_0, hx120_1, hx120_2, hx120_3⟩ := at_T32 HR0.out x7_2 p120 q120
                              cases e120
                              replace hx120_0 := (HB.out.cell (World.block_lt_of_cell? w _ hx120_0)).trans hx120_0
                              replace hx120_1 := (HB.out.cell (World.block_lt_of_cell? w _ hx120_1)).trans hx120_1
                              replace hx120_2 := (HB.out.cell (World.block_lt_of_cell? w _ hx120_2)).trans hx120_2
                              replace hx120_3 := (HB.out.cell (World.block_lt_of_cell? w _ hx120_3)).trans hx120_3
                              replace p120 := eq_true p120
                              replace q120 := eq_true q120
                              go_wp2_with (first | (go_at_call 25; (with_reducible refine (rosetteref04_Text.calls k3 ((rd_T32 x6_2 x8_3).f0) ((rd_T32 l0 x7_2).f0) t121 _ A14.out).mono ?_); rintro e w' ⟨rfl, ⟨nd, rfl⟩⟩; (try first | exact ⟨rfl, _, World.drewN_drewN _ _ _⟩ | exact ⟨rfl, _, Eq.trans (World.drewN_drewN _ _ _) (congrArg (World.drewN _) (Nat.add_assoc _ _ _))⟩)))
                              repeat (go_quiet (first | (go_at_call 25; (with_reducible refine (rosetteref04_Text.calls k3 ((rd_T32 x6_2 x8_3).f0) ((rd_T32 l0 x7_2).f0) t121 _ A14.out).mono ?_); rintro e w' ⟨rfl, ⟨nd, rfl⟩⟩; (try first | exact ⟨rfl, _, World.drewN_drewN _ _ _⟩ | exact ⟨rfl, _, Eq.trans (World.drewN_drewN _ _ _) (congrArg (World.drewN _) (Nat.add_assoc _ _ _))⟩))); try go_wp2_with (first | (go_at_call 25; (with_reducible refine (rosetteref04_Text.calls k3 ((rd_T32 x6_2 x8_3).f0) ((rd_T32 l0 x7_2).f0) t121 _ A14.out).mono ?_); rintro e w' ⟨rfl, ⟨nd, rfl⟩⟩; (try first | exact ⟨rfl, _, World.drewN_drewN _ _ _⟩ | exact ⟨rfl, _, Eq.trans (World.drewN_drewN _ _ _) (congrArg (World.drewN _) (Nat.add_assoc _ _ _))⟩))))
                              go_roundg k3
                              case measure => have := HK1.out; have := HK2.out; have := HK3.out; omega
                              case rel => exact ⟨(wrap64 (x8_3 + 1)), (by first | rfl | (simp; done) | (simp [*]; done)), H', ⟨by have := HK1.out; have := HK2.out; have := HK3.out; omega⟩, ⟨by (with_reducible repeat (first | apply Kd.R_alloc | apply Kd.R_drewN | apply Kd.R_drew)); exact HO_6.out⟩, ⟨by repeat (first | (with_reducible first | exact HB.out | apply below_alloc | apply pw_below_drewN | apply below_drew1) | exact HB.out)⟩⟩
                            · rw [if_neg c15] at H
                              have c15b0 : decide (t121 < 0) = false := decide_eq_false c15
                              clear c15
                              by_cases c17 : ((rd_T32 x6_2 x8_3).f0).toList = ((rd_T32 l0 x7_2).f0).toList
                              · rw [if_pos c17] at H
                                have c17b0 : (((rd_T32 x6_2 x8_3).f0).toList == ((rd_T32 l0 x7_2).f0).toList) = true := beq_iff_eq.mpr c17
                                have c17b1 : (((rd_T32 x6_2 x8_3).f0).toList != ((rd_T32 l0 x7_2).f0).toList) = false := bne_eq_false_iff_eq.mpr c17
                                clear c17
                                simp only [Option.some.injEq, Prod.mk.injEq] at H
                                obtain ⟨rfl, rfl⟩ := H
                                obtain ⟨Ao18, co18, eo18⟩ := Kd.R_slice HO_6.out
                                subst eo18
                                have p119 : 0 ≤ (x8_3 : Int) := of_decide_eq_true (by first | (with_reducible assumption) | assumption)
                                have q119 : x8_3 < (x6_2.length : Int) := of_decide_eq_true (by first | (with_reducible assumption) | assumption)
                                obtain ⟨ad119, e119, hx119_0, hx119_1, hx119_2, hx119_3⟩ := at_T32 (Kd.R_reads' HO_6.out).2.2 x8_3 p119 q119
                                cases e119
                                replace p119 := eq_true p119
                                replace q119 := eq_true q119
                                have p120 : 0 ≤ (x7_2 : Int) := of_decide_eq_true (by first | (with_reducible assumption) | assumption)
                                have q120 : x7_2 < (l0.length : Int) := of_decide_eq_true (by first | (with_reducible assumption) | assumption)
                                obtain ⟨ad120, e120, hx120_0, hx120_1, hx120_2, hx120_3⟩ := at_T32 HR0.out x7_2 p120 q120
                                cases e120
                                replace hx120_0 := (HB.out.cell (World.block_lt_of_cell? w _ hx120_0)).trans hx120_0
                                replace hx120_1 := (HB.out.cell (World.block_lt_of_cell? w _ hx120_1)).trans hx120_1
                                replace hx120_2 := (HB.out.cell (World.block_lt_of_cell? w _ hx120_2)).trans hx120_2
                                replace hx120_3 := (HB.out.cell (World.block_lt_of_cell? w _ hx120_3)).trans hx120_3
                                replace p120 := eq_true p120
                                replace q120 := eq_true q120
                                go_wp2_with (first | (go_at_call 25; (with_reducible refine (rosetteref04_Text.calls k3 ((rd_T32 x6_2 x8_3).f0) ((rd_T32 l0 x7_2).f0) t121 _ A14.out).mono ?_); rintro e w' ⟨rfl, ⟨nd, rfl⟩⟩; (try first | exact ⟨rfl, _, World.drewN_drewN _ _ _⟩ | exact ⟨rfl, _, Eq.trans (World.drewN_drewN _ _ _) (congrArg (World.drewN _) (Nat.add_assoc _ _ _))⟩); have p122 : 0 ≤ (x8_3 : Int) := of_decide_eq_true (by first | (with_reducible assumption) | assumption); have q122 : x8_3 < (x6_2.length : Int) := of_decide_eq_true (by first | (with_reducible assumption) | assumption); obtain ⟨ad122, e122, hx122_0, hx122_1, hx122_2, hx122_3⟩ := at_T32 (Kd.R_reads' HO_6.out).2.2 x8_3 p122 q122; obtain rfl : ad119 = ad122 := (by injection e122); replace p122 := eq_true p122; replace q122 := eq_true q122; have p123 : 0 ≤ (x7_2 : Int) := of_decide_eq_true (by first | (with_reducible assumption) | assumption); have q123 : x7_2 < (l0.length : Int) := of_decide_eq_true (by first | (with_reducible assumption) | assumption); obtain ⟨ad123, e123, hx123_0, hx123_1, hx123_2, hx123_3⟩ := at_T32 HR0.out x7_2 p123 q123; obtain rfl : ad120 = ad123 := (by injection e123); replace hx123_0 := (HB.out.cell (World.block_lt_of_cell? w _ hx123_0)).trans hx123_0; replace hx123_1 := (HB.out.cell (World.block_lt_of_cell? w _ hx123_1)).trans hx123_1; replace hx123_2 := (HB.out.cell (World.block_lt_of_cell? w _ hx123_2)).trans hx123_2; replace hx123_3 := (HB.out.cell (World.block_lt_of_cell? w _ hx123_3)).trans hx123_3; replace p123 := eq_true p123; replace q123 := eq_true q123))
                                repeat (go_quiet (first | (go_at_call 25; (with_reducible refine (rosetteref04_Text.calls k3 ((rd_T32 x6_2 x8_3).f0) ((rd_T32 l0 x7_2).f0) t121 _ A14.out).mono ?_); rintro e w' ⟨rfl, ⟨nd, rfl⟩⟩; (try first | exact ⟨rfl, _, World.drewN_drewN _ _ _⟩ | exact ⟨rfl, _, Eq.trans (World.drewN_drewN _ _ _) (congrArg (World.drewN _) (Nat.add_assoc _ _ _))⟩); have p122 : 0 ≤ (x8_3 : Int) := of_decide_eq_true (by first | (with_reducible assumption) | assumption); have q122 : x8_3 < (x6_2.length : Int) := of_decide_eq_true (by first | (with_reducible assumption) | assumption); obtain ⟨ad122, e122, hx122_0, hx122_1, hx122_2, hx122_3⟩ := at_T32 (Kd.R_reads' HO_6.out).2.2 x8_3 p122 q122; obtain rfl : ad119 = ad122 := (by injection e122); replace p122 := eq_true p122; replace q122 := eq_true q122; have p123 : 0 ≤ (x7_2 : Int) := of_decide_eq_true (by first | (with_reducible assumption) | assumption); have q123 : x7_2 < (l0.length : Int) := of_decide_eq_true (by first | (with_reducible assumption) | assumption); obtain ⟨ad123, e123, hx123_0, hx123_1, hx123_2, hx123_3⟩ := at_T32 HR0.out x7_2 p123 q123; obtain rfl : ad120 = ad123 := (by injection e123); replace hx123_0 := (HB.out.cell (World.block_lt_of_cell? w _ hx123_0)).trans hx123_0; replace hx123_1 := (HB.out.cell (World.block_lt_of_cell? w _ hx123_1)).trans hx123_1; replace hx123_2 := (HB.out.cell (World.block_lt_of_cell? w _ hx123_2)).trans hx123_2; replace hx123_3 := (HB.out.cell (World.block_lt_of_cell? w _ hx123_3)).trans hx123_3; replace p123 := eq_true p123; replace q123 := eq_true q123)); try go_wp2_with (first | (go_at_call 25; (with_reducible refine (rosetteref04_Text.calls k3 ((rd_T32 x6_2 x8_3).f0) ((rd_T32 l0 x7_2).f0) t121 _ A14.out).mono ?_); rintro e w' ⟨rfl, ⟨nd, rfl⟩⟩; (try first | exact ⟨rfl, _, World.drewN_drewN _ _ _⟩ | exact ⟨rfl, _, Eq.trans (World.drewN_drewN _ _ _) (congrArg (World.drewN _) (Nat.add_assoc _ _ _))⟩); have p122 : 0 ≤ (x8_3 : Int) := of_decide_eq_true (by first | (with_reducible assumption) | assumption); have q122 : x8_3 < (x6_2.length : Int) := of_decide_eq_true (by first | (with_reducible assumption) | assumption); obtain ⟨ad122, e122, hx122_0, hx122_1, hx122_2, hx122_3⟩ := at_T32 (Kd.R_reads' HO_6.out).2.2 x8_3 p122 q122; obtain rfl : ad119 = ad122 := (by injection e122); replace p122 := eq_true p122; replace q122 := eq_true q122; have p123 : 0 ≤ (x7_2 : Int) := of_decide_eq_true (by first | (with_reducible assumption) | assumption); have q123 : x7_2 < (l0.length : Int) := of_decide_eq_true (by first | (with_reducible assumption) | assumption); obtain ⟨ad123, e123, hx123_0, hx123_1, hx123_2, hx123_3⟩ := at_T32 HR0.out x7_2 p123 q123; obtain rfl : ad120 = ad123 := (by injection e123); replace hx123_0 := (HB.out.cell (World.block_lt_of_cell? w _ hx123_0)).trans hx123_0; replace hx123_1 := (HB.out.cell (World.block_lt_of_cell? w _ hx123_1)).trans hx123_1; replace hx123_2 := (HB.out.cell (World.block_lt_of_cell? w _ hx123_2)).trans hx123_2; replace hx123_3 := (HB.out.cell (World.block_lt_of_cell? w _ hx123_3)).trans hx123_3; replace p123 := eq_true p123; replace q123 := eq_true q123)))
                                go_ret2
                                exact ⟨_, by first | rfl | (simp [errW_none, errW_some] <;> rfl) | (simp [*, errW_none, errW_some] <;> rfl), by first | exact Kd.R_nil _ _ _ _ _ | exact Kd.N_nil _ _ _ _ _ | exact Kd.V_nil _ _ _ _ _ | exact Kd.Q_nil _ _ _ _ _ | exact Kd.S_nil _ _ _ _ _, by repeat (first | (with_reducible first | exact HB.out | apply below_alloc | apply pw_below_drewN | apply below_drew1) | exact HB.out)⟩
                              · rw [if_neg c17] at H
                                have c17b0 : (((rd_T32 x6_2 x8_3).f0).toList == ((rd_T32 l0 x7_2).f0).toList) = false := beq_eq_false_iff_ne.mpr c17
                                have c17b1 : (((rd_T32 x6_2 x8_3).f0).toList != ((rd_T32 l0 x7_2).f0).toList) = true := bne_iff_ne.mpr c17
                                obtain ⟨y124, hy124⟩ : ∃ y_ : List (S32), y_ = (([] : List (S32))) := ⟨_, rfl⟩
                                replace H : (if x8_3 ≤ (x6_2.length : Int) then ((some (x6_2.take (x8_3 : Int).toNat : List (S32))).bind fun y127 => (if y124.length + y127.length < 2932031007402 then ((some (y124 ++ y127 : List (S32))).bind fun y131 => (if y131.length < 2932031007402 then ((some (y131 ++ [(⟨(rd_T32 l0 x7_2).f0, (⟨(rd_T32 l0 x7_2).f1.f0, (rd_T32 l0 x7_2).f1.f1, (rd_T32 l0 x7_2).f1.f2⟩ : S30)⟩ : S32)] : List (S32))).bind fun y135 => ((some (x6_2.drop (x8_3 : Int).toNat : List (S32))).bind fun y138 => (if y135.length + y138.length < 2932031007402 then (rosetteref05_Make.l1 k3 l0 (y135 ++ y138) (wrap64 (x7_2 + 1))) else (none)))) else (none))) else (none))) else (none)) = some (r1, r2) := by first | (rw [hy124]; with_reducible exact H) | (have H2_ := (Option.bind_some _ _).symm.trans H; rw [hy124]; with_reducible exact H2_) | (have H2_ := (Option.bind_some _ _).symm.trans H; with_reducible exact H2_) | with_reducible exact H | (rw [hy124]; exact H) | exact H
                                have Ny124 := Aside0.mk hy124
                                clear hy124
                                have c19b0 := eq_true (of_decide_eq_true (by first | (with_reducible assumption) | assumption) : 0 ≤ x8_3)
                                by_cases c20 : x8_3 ≤ (x6_2.length : Int)
                                · rw [if_pos c20] at H
                                  have c20b0 := eq_true c20
                                  have c20b1 : decide (x8_3 ≤ (x6_2.length : Int)) = true := decide_eq_true c20
                                  clear c20
                                  obtain ⟨y127, hy127⟩ : ∃ y_ : List (S32), y_ = (x6_2.take (x8_3 : Int).toNat) := ⟨_, rfl⟩
                                  replace H : (if y124.length + y127.length < 2932031007402 then ((some (y124 ++ y127 : List (S32))).bind fun y131 => (if y131.length < 2932031007402 then ((some (y131 ++ [(⟨(rd_T32 l0 x7_2).f0, (⟨(rd_T32 l0 x7_2).f1.f0, (rd_T32 l0 x7_2).f1.f1, (rd_T32 l0 x7_2).f1.f2⟩ : S30)⟩ : S32)] : List (S32))).bind fun y135 => ((some (x6_2.drop (x8_3 : Int).toNat : List (S32))).bind fun y138 => (if y135.length + y138.length < 2932031007402 then (rosetteref05_Make.l1 k3 l0 (y135 ++ y138) (wrap64 (x7_2 + 1))) else (none)))) else (none))) else (none)) = some (r1, r2) := by first | (rw [hy127]; with_reducible exact H) | (have H2_ := (Option.bind_some _ _).symm.trans H; rw [hy127]; with_reducible exact H2_) | (have H2_ := (Option.bind_some _ _).symm.trans H; with_reducible exact H2_) | with_reducible exact H | (rw [hy127]; exact H) | exact H
                                  have Ny127 := Aside0.mk hy127
                                  clear hy127
                                  by_cases c21 : y124.length + y127.length < 2932031007402
                                  · rw [if_pos c21] at H
                                    have LMc21 := Aside0.mk c21
                                    clear c21
                                    obtain ⟨y131, hy131⟩ : ∃ y_ : List (S32), y_ = (y124 ++ y127) := ⟨_, rfl⟩
                                    replace H : (if y131.length < 2932031007402 then ((some (y131 ++ [(⟨(rd_T32 l0 x7_2).f0, (⟨(rd_T32 l0 x7_2).f1.f0, (rd_T32 l0 x7_2).f1.f1, (rd_T32 l0 x7_2).f1.f2⟩ : S30)⟩ : S32)] : List (S32))).bind fun y135 => ((some (x6_2.drop (x8_3 : Int).toNat : List (S32))).bind fun y138 => (if y135.length + y138.length < 2932031007402 then (rosetteref05_Make.l1 k3 l0 (y135 ++ y138) (wrap64 (x7_2 + 1))) else (none)))) else (none)) = some (r1, r2) := by first | (rw [hy131]; with_reducible exact H) | (have H2_ := (Option.bind_some _ _).symm.trans H; rw [hy131]; with_reducible exact H2_) | (have H2_ := (Option.bind_some _ _).symm.trans H; with_reducible exact H2_) | with_reducible exact H | (rw [hy131]; exact H) | exact H
                                    have Ny131 := Aside0.mk hy131
                                    clear hy131
                                    by_cases c22 : y131.length < 2932031007402
                                    · rw [if_pos c22] at H
                                      have LMc22 := Aside0.mk c22
                                      clear c22
                                      obtain ⟨y135, hy135⟩ : ∃ y_ : List (S32), y_ = (y131 ++ [(⟨(rd_T32 l0 x7_2).f0, (⟨(rd_T32 l0 x7_2).f1.f0, (rd_T32 l0 x7_2).f1.f1, (rd_T32 l0 x7_2).f1.f2⟩ : S30)⟩ : S32)]) := ⟨_, rfl⟩
                                      replace H : ((some (x6_2.drop (x8_3 : Int).toNat : List (S32))).bind fun y138 => (if y135.length + y138.length < 2932031007402 then (rosetteref05_Make.l1 k3 l0 (y135 ++ y138) (wrap64 (x7_2 + 1))) else (none))) = some (r1, r2) := by first | (rw [hy135]; with_reducible exact H) | (have H2_ := (Option.bind_some _ _).symm.trans H; rw [hy135]; with_reducible exact H2_) | (have H2_ := (Option.bind_some _ _).symm.trans H; with_reducible exact H2_) | with_reducible exact H | (rw [hy135]; exact H) | exact H
                                      have Ny135 := Aside0.mk hy135
                                      clear hy135
                                      have c23b0 := eq_true (of_decide_eq_true (by first | (with_reducible assumption) | assumption) : 0 ≤ x8_3)
                                      have c24b0 := eq_true (of_decide_eq_true (by first | (with_reducible assumption) | assumption) : x8_3 ≤ (x6_2.length : Int))
                                      obtain ⟨y138, hy138⟩ : ∃ y_ : List (S32), y_ = (x6_2.drop (x8_3 : Int).toNat) := ⟨_, rfl⟩
                                      replace H : (if y135.length + y138.length < 2932031007402 then (rosetteref05_Make.l1 k3 l0 (y135 ++ y138) (wrap64 (x7_2 + 1))) else (none)) = some (r1, r2) := by first | (rw [hy138]; with_reducible exact H) | (have H2_ := (Option.bind_some _ _).symm.trans H; rw [hy138]; with_reducible exact H2_) | (have H2_ := (Option.bind_some _ _).symm.trans H; with_reducible exact H2_) | with_reducible exact H | (rw [hy138]; exact H) | exact H
                                      have Ny138 := Aside0.mk hy138
                                      clear hy138
                                      by_cases c25 : y135.length + y138.length < 2932031007402
                                      · rw [if_pos c25] at H
                                        have LMc25 := Aside0.mk c25
                                        clear c25
                                        obtain ⟨y142, hy142⟩ : ∃ y_ : List (S32), y_ = (y135 ++ y138) := ⟨_, rfl⟩
                                        replace H : (rosetteref05_Make.l1 k3 l0 y142 (wrap64 (x7_2 + 1))) = some (r1, r2) := by first | (rw [hy142]; with_reducible exact H) | (have H2_ := (Option.bind_some _ _).symm.trans H; rw [hy142]; with_reducible exact H2_) | (have H2_ := (Option.bind_some _ _).symm.trans H; with_reducible exact H2_) | with_reducible exact H | (rw [hy142]; exact H) | exact H
                                        have Ny142 := Aside0.mk hy142
                                        clear hy142
                                        have H' := Aside0.mk H
                                        clear H
                                        obtain ⟨Ao26, co26, eo26⟩ := Kd.R_slice HO_6.out
                                        subst eo26
                                        have p119 : 0 ≤ (x8_3 : Int) := of_decide_eq_true (by first | (with_reducible assumption) | assumption)
                                        have q119 : x8_3 < (x6_2.length : Int) := of_decide_eq_true (by first | (with_reducible assumption) | assumption)
                                        obtain ⟨ad119, e119, hx119_0, hx119_1, hx119_2, hx119_3⟩ := at_T32 (Kd.R_reads' HO_6.out).2.2 x8_3 p119 q119
                                        cases e119
                                        replace p119 := eq_true p119
                                        replace q119 := eq_true q119
                                        have p120 : 0 ≤ (x7_2 : Int) := of_decide_eq_true (by first | (with_reducible assumption) | assumption)
                                        have q120 : x7_2 < (l0.length : Int) := of_decide_eq_true (by first | (with_reducible assumption) | assumption)
                                        obtain ⟨ad120, e120, hx120_0, hx120_1, hx120_2, hx120_3⟩ := at_T32 HR0.out x7_2 p120 q120
                                        cases e120
                                        replace hx120_0 := (HB.out.cell (World.block_lt_of_cell? w _ hx120_0)).trans hx120_0
                                        replace hx120_1 := (HB.out.cell (World.block_lt_of_cell? w _ hx120_1)).trans hx120_1
                                        replace hx120_2 := (HB.out.cell (World.block_lt_of_cell? w _ hx120_2)).trans hx120_2
                                        replace hx120_3 := (HB.out.cell (World.block_lt_of_cell? w _ hx120_3)).trans hx120_3
                                        replace p120 := eq_true p120
                                        replace q120 := eq_true q120
                                        go_wp2_with (first | (go_at_call 25; (with_reducible refine (rosetteref04_Text.calls k3 ((rd_T32 x6_2 x8_3).f0) ((rd_T32 l0 x7_2).f0) t121 _ A14.out).mono ?_); rintro e w' ⟨rfl, ⟨nd, rfl⟩⟩; (try first | exact ⟨rfl, _, World.drewN_drewN _ _ _⟩ | exact ⟨rfl, _, Eq.trans (World.drewN_drewN _ _ _) (congrArg (World.drewN _) (Nat.add_assoc _ _ _))⟩); have p122 : 0 ≤ (x8_3 : Int) := of_decide_eq_true (by first | (with_reducible assumption) | assumption); have q122 : x8_3 < (x6_2.length : Int) := of_decide_eq_true (by first | (with_reducible assumption) | assumption); obtain ⟨ad122, e122, hx122_0, hx122_1, hx122_2, hx122_3⟩ := at_T32 (Kd.R_reads' HO_6.out).2.2 x8_3 p122 q122; obtain rfl : ad119 = ad122 := (by injection e122); replace p122 := eq_true p122; replace q122 := eq_true q122; have p123 : 0 ≤ (x7_2 : Int) := of_decide_eq_true (by first | (with_reducible assumption) | assumption); have q123 : x7_2 < (l0.length : Int) := of_decide_eq_true (by first | (with_reducible assumption) | assumption); obtain ⟨ad123, e123, hx123_0, hx123_1, hx123_2, hx123_3⟩ := at_T32 HR0.out x7_2 p123 q123; obtain rfl : ad120 = ad123 := (by injection e123); replace hx123_0 := (HB.out.cell (World.block_lt_of_cell? w _ hx123_0)).trans hx123_0; replace hx123_1 := (HB.out.cell (World.block_lt_of_cell? w _ hx123_1)).trans hx123_1; replace hx123_2 := (HB.out.cell (World.block_lt_of_cell? w _ hx123_2)).trans hx123_2; replace hx123_3 := (HB.out.cell (World.block_lt_of_cell? w _ hx123_3)).trans hx123_3; replace p123 := eq_true p123; replace q123 := eq_true q123) | ((with_reducible refine gate_dst (N := 69) rfl ?_); refine Kd.R_lit k32 _ 32 ?hg (N := 69) ?hd (xs := ([] : List (S32))) (inner := []) (ok := fun _ => True) (okp := fun _ => True) ?hr ?hp (fun _ hk => hk) trivial (Below.refl _ _) (Nat.le_refl _) (by simp) ?_; (case hd => rfl); (case hg => rfl); (case hr => first | (go_simp; done) | (go_simp; rfl)); (case hp => exact (Reps.none _ _)); intro v125 w27 ho28 hb hg_ hnew_; clear hg_ hnew_; (first | rw [← Ny124.out] at ho28 | (simp only [Int.reduceToNat] at ho28; rw [← Ny124.out] at ho28)); have n0_ := Aside0.mk (Kd.R_elder' (by (with_reducible repeat (first | apply Kd.R_alloc | apply Kd.R_drewN | apply Kd.R_drew)); exact HO_6.out) (Kd.R_base ho28) hb); have n1_ := Aside0.mk (Kd.R_lower (Kd.R_new' ho28 (Kd.R_lt (by (with_reducible repeat (first | apply Kd.R_alloc | apply Kd.R_drewN | apply Kd.R_drew)); exact HO_6.out))) (below_size (by repeat (first | (with_reducible first | exact HB.out | apply below_alloc | apply pw_below_drewN | apply below_drew1) | exact HB.out)))); have n2_ := Aside0.mk (below_step (by repeat (first | (with_reducible first | exact HB.out | apply below_alloc | apply pw_below_drewN | apply below_drew1) | exact HB.out)) hb); clear HO_6; clear HB; have HO_6 := n0_; have HO126 := n1_; have HB := n2_; clear n0_ n1_ n2_; clear hb ho28; have q29 : (x8_3 : Int) ≤ ((x6_2.length : Int) : Int) := of_decide_eq_true (by first | (with_reducible assumption) | assumption); obtain ⟨i029, hi029, _, hsz29, _⟩ := info_parts info32; have hroom29 : x6_2.length ≤ co26 := (Kd.R_reads' HO_6.out).2.1; have hC29 : Kd.C k32 _ (some ad119) x6_2.length x6_2 := (Kd.R_reads' HO_6.out).2.2; have hcut29 := cut_to (P := Try.prog) 22 32 .i64 Try.underlying22 hi029 (some ad119) x6_2.length co26 x8_3 (of_decide_eq_true (by first | (with_reducible assumption) | assumption)) q29 hroom29; have hr29 := Kd.C_take (m := (x8_3 : Int).toNat) hC29 (by omega); have hy29 : y127.length = (x8_3 : Int).toNat := (by rw [Ny127.out, List.length_take]; omega); rw [← Ny127.out] at hr29; rw [← hy29] at hcut29; have HR130 := Aside0.mk hr29; have HC130 := Aside0.mk (show y127.length ≤ co26 from by omega); clear hr29 hC29 hroom29 hi029 hsz29; have KY29 := Aside0.mk hy29; clear hy29; have KL29 := Aside0.mk (show (x8_3 : Int).toNat ≤ x6_2.length from by omega); replace q29 := eq_true q29) | ((with_reducible refine gate_builtin (b := .append) (xs := #[.tmp 69, .tmp 72]) rfl ?_); at_builtin; refine Kd.R_append_rows k32 (w0 := w) w.heap.size rfl (.tmp 69) (.tmp 72) 22 32 (.agg #[(.string ⟨#[]⟩), (.int .i64 0), (.int .i64 0), (.string ⟨#[]⟩)]) 48 rfl Try.underlying22 info32 rfl (by decide) (by decide) v125 y124 y127 _ _ _ (fun k_ => some k_ ≠ (.slice (some ad119) x6_2.length co26 : Value).ownBlock) (fun _ => False) rfl rfl ?aO ?aR (fun _ _ h => h) (fun _ h => h.elim) ?aF ?aB ?aS ?aL ?_; (case aR => repeat (first | exact (by repeat (first | (with_reducible exact HR130.out) | (with_reducible refine Kd.C_alloc ?_ _) | (with_reducible refine Kd.C_drewN ?_ _) | (with_reducible refine Kd.C_drew ?_) | exact HR130.out)) | (with_reducible refine Kd.C_alloc ?_ _) | (with_reducible refine Kd.C_drewN ?_ _) | (with_reducible refine Kd.C_drew ?_))); (case aB => exact (by repeat (first | (with_reducible first | exact HB.out | apply below_alloc | apply pw_below_drewN | apply below_drew1) | exact HB.out))); (case aF => exact (fun k_ hk => Kd.fresh' (Kd.R_lt (by (with_reducible repeat (first | apply Kd.R_alloc | apply Kd.R_drewN | apply Kd.R_drew)); exact HO_6.out)) k_ hk)); (case aO => exact (by (with_reducible repeat (first | apply Kd.R_alloc | apply Kd.R_drewN | apply Kd.R_drew)); exact Kd.R_mono HO126.out (fun _ hk => hk.2))); (case aS => exact (below_size (by repeat (first | (with_reducible first | exact HB.out | apply below_alloc | apply pw_below_drewN | apply below_drew1) | exact HB.out)))); (case aL => have := LMc21.out; omega); intro v132 w30 ho hb hg hat; rw [← Ny131.out] at ho; have n0_ := Aside0.mk (Kd.R_after (ok := (fun _ => True)) (by (with_reducible repeat (first | apply Kd.R_alloc | apply Kd.R_drewN | apply Kd.R_drew)); exact HO_6.out) hg hat); have n1_ := Aside0.mk (hb); have n2_ := Aside0.mk ((show Kd.C k32 w30 (some ad119) y127.length y127 from by rw [Ny127.out]; exact Kd.C_take (m := (x8_3 : Int).toNat) ((Kd.R_reads' (Kd.R_after (ok := (fun _ => True)) (by (with_reducible repeat (first | apply Kd.R_alloc | apply Kd.R_drewN | apply Kd.R_drew)); exact HO_6.out) hg hat)).2.2) KL29.out)); have n3_ := Aside0.mk (ho); clear HO_6; clear HB; clear HR130; clear HO126; have HO_6 := n0_; have HB := n1_; have HR130 := n2_; have HO133 := n3_; clear n0_ n1_ n2_ n3_; clear ho hb hg hat; have p134 : 0 ≤ (x7_2 : Int) := of_decide_eq_true (by first | (with_reducible assumption) | assumption); have q134 : x7_2 < (l0.length : Int) := of_decide_eq_true (by first | (with_reducible assumption) | assumption); obtain ⟨ad134, e134, hx134_0, hx134_1, hx134_2, hx134_3⟩ := at_T32 HR0.out x7_2 p134 q134; obtain rfl : ad120 = ad134 := (by injection e134); replace hx134_0 := (HB.out.cell (World.block_lt_of_cell? w _ hx134_0)).trans hx134_0; replace hx134_1 := (HB.out.cell (World.block_lt_of_cell? w _ hx134_1)).trans hx134_1; replace hx134_2 := (HB.out.cell (World.block_lt_of_cell? w _ hx134_2)).trans hx134_2; replace hx134_3 := (HB.out.cell (World.block_lt_of_cell? w _ hx134_3)).trans hx134_3; replace p134 := eq_true p134; replace q134 := eq_true q134) | ((with_reducible refine gate_builtin (b := .append) (xs := #[.tmp 74, .tmp 79]) rfl ?_); at_builtin; refine Kd.R_append k32 (w0 := w) w.heap.size rfl (.tmp 74) (.tmp 79) 22 32 (.agg #[(.string ⟨#[]⟩), (.int .i64 0), (.int .i64 0), (.string ⟨#[]⟩)]) 48 rfl Try.underlying22 info32 rfl (by decide) (by decide) v132 y131 (⟨(rd_T32 l0 x7_2).f0, (⟨(rd_T32 l0 x7_2).f1.f0, (rd_T32 l0 x7_2).f1.f1, (rd_T32 l0 x7_2).f1.f2⟩ : S30)⟩ : S32) [.string ((rd_T32 l0 x7_2).f0), .int .i64 ((rd_T32 l0 x7_2).f1.f0), .int .i64 ((rd_T32 l0 x7_2).f1.f1), .string ((rd_T32 l0 x7_2).f1.f2)] (fun k_ => some k_ ≠ (.slice (some ad119) x6_2.length co26 : Value).ownBlock) (fun _ => False) rfl rfl ?aP (fun _ hk => hk.elim) ?aF ?aO ?aB ?aS ?aL ?_; (case aP => exact k32_mkM _ _ _ (⟨(rd_T32 l0 x7_2).f0, (⟨(rd_T32 l0 x7_2).f1.f0, (rd_T32 l0 x7_2).f1.f1, (rd_T32 l0 x7_2).f1.f2⟩ : S30)⟩ : S32)); (case aB => exact (by repeat (first | (with_reducible first | exact HB.out | apply below_alloc | apply pw_below_drewN | apply below_drew1) | exact HB.out))); (case aF => exact (fun k_ hk => Kd.fresh' (Kd.R_lt (by (with_reducible repeat (first | apply Kd.R_alloc | apply Kd.R_drewN | apply Kd.R_drew)); exact HO_6.out)) k_ hk)); (case aO => exact (by (with_reducible repeat (first | apply Kd.R_alloc | apply Kd.R_drewN | apply Kd.R_drew)); exact HO133.out)); (case aS => exact (below_size (by repeat (first | (with_reducible first | exact HB.out | apply below_alloc | apply pw_below_drewN | apply below_drew1) | exact HB.out)))); (case aL => have := LMc22.out; omega); intro v136 w31 ho hb hg hat; rw [← Ny135.out] at ho; have n0_ := Aside0.mk (Kd.R_after (ok := (fun _ => True)) (by (with_reducible repeat (first | apply Kd.R_alloc | apply Kd.R_drewN | apply Kd.R_drew)); exact HO_6.out) hg hat); have n1_ := Aside0.mk (hb); have n2_ := Aside0.mk ((show Kd.C k32 w31 (some ad119) y127.length y127 from by rw [Ny127.out]; exact Kd.C_take (m := (x8_3 : Int).toNat) ((Kd.R_reads' (Kd.R_after (ok := (fun _ => True)) (by (with_reducible repeat (first | apply Kd.R_alloc | apply Kd.R_drewN | apply Kd.R_drew)); exact HO_6.out) hg hat)).2.2) KL29.out)); have n3_ := Aside0.mk (ho); clear HO_6; clear HB; clear HR130; clear HO133; have HO_6 := n0_; have HB := n1_; have HR130 := n2_; have HO137 := n3_; clear n0_ n1_ n2_ n3_; clear ho hb hg hat; have q32 : (x8_3 : Int) ≤ ((x6_2.length : Int) : Int) := of_decide_eq_true (by first | (with_reducible assumption) | assumption); obtain ⟨i032, hi032, _, hsz32, _⟩ := info_parts info32; have hroom32 : x6_2.length ≤ co26 := (Kd.R_reads' HO_6.out).2.1; have hC32 : Kd.C k32 _ (some ad119) x6_2.length x6_2 := (Kd.R_reads' HO_6.out).2.2; have q032 : (0 : Int) ≤ (x8_3 : Int) := of_decide_eq_true (by first | (with_reducible assumption) | assumption); have hcut32 := cut_from (P := Try.prog) 22 32 .i64 Try.underlying22 hi032 4 hsz32 (some ad119) x6_2.length co26 x8_3 q032 q32; have hr32 := Kd.C_drop (m := (x8_3 : Int).toNat) (c := co26) hC32 (by omega) hroom32; obtain ⟨A32, hA32⟩ : ∃ A1, A1 = (if co26 = (x8_3 : Int).toNat then (some ad119) else ((some ad119) : Option Addr).map (·.add ((x8_3 : Int).toNat * 4))) := ⟨_, rfl⟩; obtain ⟨c32, hc32⟩ : ∃ c1, c1 = co26 - (x8_3 : Int).toNat := ⟨_, rfl⟩; have hy32 : y138.length = x6_2.length - (x8_3 : Int).toNat := (by rw [Ny138.out, List.length_drop] <;> omega); rw [show (x6_2).drop (x8_3 : Int).toNat = y138 from Ny138.out.symm] at hr32; replace hr32 : Kd.C k32 _ A32 y138.length y138 := (by rw [hA32]; exact hr32); rw [← hy32, ← hA32, ← hc32] at hcut32; have HR141 := Aside0.mk hr32; have HC141 := Aside0.mk (show y138.length ≤ c32 from by rw [hy32, hc32]; exact Nat.sub_le_sub_right hroom32 _); clear hr32 hC32 hroom32 hi032 hsz32 hc32; have KY32 := Aside0.mk hy32; have KA32 := Aside0.mk hA32; clear hy32 hA32; have KL32 := Aside0.mk (show (x8_3 : Int).toNat ≤ x6_2.length from by omega); replace q32 := eq_true q32) | ((with_reducible refine gate_builtin (b := .append) (xs := #[.tmp 81, .tmp 84]) rfl ?_); at_builtin; refine Kd.R_append_rows k32 (w0 := w) w.heap.size rfl (.tmp 81) (.tmp 84) 22 32 (.agg #[(.string ⟨#[]⟩), (.int .i64 0), (.int .i64 0), (.string ⟨#[]⟩)]) 48 rfl Try.underlying22 info32 rfl (by decide) (by decide) v136 y135 y138 _ _ _ (fun k_ => some k_ ≠ (.slice (some ad119) x6_2.length co26 : Value).ownBlock) (fun _ => False) rfl rfl ?aO ?aR (fun _ _ h => h) (fun _ h => h.elim) ?aF ?aB ?aS ?aL ?_; (case aR => repeat (first | exact (by repeat (first | (with_reducible exact HR141.out) | (with_reducible refine Kd.C_alloc ?_ _) | (with_reducible refine Kd.C_drewN ?_ _) | (with_reducible refine Kd.C_drew ?_) | exact HR141.out)) | (with_reducible refine Kd.C_alloc ?_ _) | (with_reducible refine Kd.C_drewN ?_ _) | (with_reducible refine Kd.C_drew ?_))); (case aB => exact (by repeat (first | (with_reducible first | exact HB.out | apply below_alloc | apply pw_below_drewN | apply below_drew1) | exact HB.out))); (case aF => exact (fun k_ hk => Kd.fresh' (Kd.R_lt (by (with_reducible repeat (first | apply Kd.R_alloc | apply Kd.R_drewN | apply Kd.R_drew)); exact HO_6.out)) k_ hk)); (case aO => exact (by (with_reducible repeat (first | apply Kd.R_alloc | apply Kd.R_drewN | apply Kd.R_drew)); exact HO137.out)); (case aS => exact (below_size (by repeat (first | (with_reducible first | exact HB.out | apply below_alloc | apply pw_below_drewN | apply below_drew1) | exact HB.out)))); (case aL => have := LMc25.out; omega); intro v143 w33 ho hb hg hat; rw [← Ny142.out] at ho; have n0_ := Aside0.mk (Kd.R_after (ok := (fun _ => True)) (by (with_reducible repeat (first | apply Kd.R_alloc | apply Kd.R_drewN | apply Kd.R_drew)); exact HO_6.out) hg hat); have n1_ := Aside0.mk (hb); have n2_ := Aside0.mk ((show Kd.C k32 w33 (some ad119) y127.length y127 from by rw [Ny127.out]; exact Kd.C_take (m := (x8_3 : Int).toNat) ((Kd.R_reads' (Kd.R_after (ok := (fun _ => True)) (by (with_reducible repeat (first | apply Kd.R_alloc | apply Kd.R_drewN | apply Kd.R_drew)); exact HO_6.out) hg hat)).2.2) KL29.out)); have n3_ := Aside0.mk ((show Kd.C k32 w33 A32 y138.length y138 from by rw [Ny138.out, KA32.out]; exact Kd.C_drop (m := (x8_3 : Int).toNat) (c := co26) ((Kd.R_reads' (Kd.R_after (ok := (fun _ => True)) (by (with_reducible repeat (first | apply Kd.R_alloc | apply Kd.R_drewN | apply Kd.R_drew)); exact HO_6.out) hg hat)).2.2) KL32.out ((Kd.R_reads' (Kd.R_after (ok := (fun _ => True)) (by (with_reducible repeat (first | apply Kd.R_alloc | apply Kd.R_drewN | apply Kd.R_drew)); exact HO_6.out) hg hat)).2.1))); have n4_ := Aside0.mk (ho); clear HO_6; clear HB; clear HR130; clear HR141; clear HO137; have HO_6 := n0_; have HB := n1_; have HR130 := n2_; have HR141 := n3_; have HO144 := n4_; clear n0_ n1_ n2_ n3_ n4_; clear ho hb hg hat))
                                        repeat (go_quiet (first | (go_at_call 25; (with_reducible refine (rosetteref04_Text.calls k3 ((rd_T32 x6_2 x8_3).f0) ((rd_T32 l0 x7_2).f0) t121 _ A14.out).mono ?_); rintro e w' ⟨rfl, ⟨nd, rfl⟩⟩; (try first | exact ⟨rfl, _, World.drewN_drewN _ _ _⟩ | exact ⟨rfl, _, Eq.trans (World.drewN_drewN _ _ _) (congrArg (World.drewN _) (Nat.add_assoc _ _ _))⟩); have p122 : 0 ≤ (x8_3 : Int) := of_decide_eq_true (by first | (with_reducible assumption) | assumption); have q122 : x8_3 < (x6_2.length : Int) := of_decide_eq_true (by first | (with_reducible assumption) | assumption); obtain ⟨ad122, e122, hx122_0, hx122_1, hx122_2, hx122_3⟩ := at_T32 (Kd.R_reads' HO_6.out).2.2 x8_3 p122 q122; obtain rfl : ad119 = ad122 := (by injection e122); replace p122 := eq_true p122; replace q122 := eq_true q122; have p123 : 0 ≤ (x7_2 : Int) := of_decide_eq_true (by first | (with_reducible assumption) | assumption); have q123 : x7_2 < (l0.length : Int) := of_decide_eq_true (by first | (with_reducible assumption) | assumption); obtain ⟨ad123, e123, hx123_0, hx123_1, hx123_2, hx123_3⟩ := at_T32 HR0.out x7_2 p123 q123; obtain rfl : ad120 = ad123 := (by injection e123); replace hx123_0 := (HB.out.cell (World.block_lt_of_cell? w _ hx123_0)).trans hx123_0; replace hx123_1 := (HB.out.cell (World.block_lt_of_cell? w _ hx123_1)).trans hx123_1; replace hx123_2 := (HB.out.cell (World.block_lt_of_cell? w _ hx123_2)).trans hx123_2; replace hx123_3 := (HB.out.cell (World.block_lt_of_cell? w _ hx123_3)).trans hx123_3; replace p123 := eq_true p123; replace q123 := eq_true q123) | ((with_reducible refine gate_dst (N := 69) rfl ?_); refine Kd.R_lit k32 _ 32 ?hg (N := 69) ?hd (xs := ([] : List (S32))) (inner := []) (ok := fun _ => True) (okp := fun _ => True) ?hr ?hp (fun _ hk => hk) trivial (Below.refl _ _) (Nat.le_refl _) (by simp) ?_; (case hd => rfl); (case hg => rfl); (case hr => first | (go_simp; done) | (go_simp; rfl)); (case hp => exact (Reps.none _ _)); intro v125 w27 ho28 hb hg_ hnew_; clear hg_ hnew_; (first | rw [← Ny124.out] at ho28 | (simp only [Int.reduceToNat] at ho28; rw [← Ny124.out] at ho28)); have n0_ := Aside0.mk (Kd.R_elder' (by (with_reducible repeat (first | apply Kd.R_alloc | apply Kd.R_drewN | apply Kd.R_drew)); exact HO_6.out) (Kd.R_base ho28) hb); have n1_ := Aside0.mk (Kd.R_lower (Kd.R_new' ho28 (Kd.R_lt (by (with_reducible repeat (first | apply Kd.R_alloc | apply Kd.R_drewN | apply Kd.R_drew)); exact HO_6.out))) (below_size (by repeat (first | (with_reducible first | exact HB.out | apply below_alloc | apply pw_below_drewN | apply below_drew1) | exact HB.out)))); have n2_ := Aside0.mk (below_step (by repeat (first | (with_reducible first | exact HB.out | apply below_alloc | apply pw_below_drewN | apply below_drew1) | exact HB.out)) hb); clear HO_6; clear HB; have HO_6 := n0_; have HO126 := n1_; have HB := n2_; clear n0_ n1_ n2_; clear hb ho28; have q29 : (x8_3 : Int) ≤ ((x6_2.length : Int) : Int) := of_decide_eq_true (by first | (with_reducible assumption) | assumption); obtain ⟨i029, hi029, _, hsz29, _⟩ := info_parts info32; have hroom29 : x6_2.length ≤ co26 := (Kd.R_reads' HO_6.out).2.1; have hC29 : Kd.C k32 _ (some ad119) x6_2.length x6_2 := (Kd.R_reads' HO_6.out).2.2; have hcut29 := cut_to (P := Try.prog) 22 32 .i64 Try.underlying22 hi029 (some ad119) x6_2.length co26 x8_3 (of_decide_eq_true (by first | (with_reducible assumption) | assumption)) q29 hroom29; have hr29 := Kd.C_take (m := (x8_3 : Int).toNat) hC29 (by omega); have hy29 : y127.length = (x8_3 : Int).toNat := (by rw [Ny127.out, List.length_take]; omega); rw [← Ny127.out] at hr29; rw [← hy29] at hcut29; have HR130 := Aside0.mk hr29; have HC130 := Aside0.mk (show y127.length ≤ co26 from by omega); clear hr29 hC29 hroom29 hi029 hsz29; have KY29 := Aside0.mk hy29; clear hy29; have KL29 := Aside0.mk (show (x8_3 : Int).toNat ≤ x6_2.length from by omega); replace q29 := eq_true q29) | ((with_reducible refine gate_builtin (b := .append) (xs := #[.tmp 69, .tmp 72]) rfl ?_); at_builtin; refine Kd.R_append_rows k32 (w0 := w) w.heap.size rfl (.tmp 69) (.tmp 72) 22 32 (.agg #[(.string ⟨#[]⟩), (.int .i64 0), (.int .i64 0), (.string ⟨#[]⟩)]) 48 rfl Try.underlying22 info32 rfl (by decide) (by decide) v125 y124 y127 _ _ _ (fun k_ => some k_ ≠ (.slice (some ad119) x6_2.length co26 : Value).ownBlock) (fun _ => False) rfl rfl ?aO ?aR (fun _ _ h => h) (fun _ h => h.elim) ?aF ?aB ?aS ?aL ?_; (case aR => repeat (first | exact (by repeat (first | (with_reducible exact HR130.out) | (with_reducible refine Kd.C_alloc ?_ _) | (with_reducible refine Kd.C_drewN ?_ _) | (with_reducible refine Kd.C_drew ?_) | exact HR130.out)) | (with_reducible refine Kd.C_alloc ?_ _) | (with_reducible refine Kd.C_drewN ?_ _) | (with_reducible refine Kd.C_drew ?_))); (case aB => exact (by repeat (first | (with_reducible first | exact HB.out | apply below_alloc | apply pw_below_drewN | apply below_drew1) | exact HB.out))); (case aF => exact (fun k_ hk => Kd.fresh' (Kd.R_lt (by (with_reducible repeat (first | apply Kd.R_alloc | apply Kd.R_drewN | apply Kd.R_drew)); exact HO_6.out)) k_ hk)); (case aO => exact (by (with_reducible repeat (first | apply Kd.R_alloc | apply Kd.R_drewN | apply Kd.R_drew)); exact Kd.R_mono HO126.out (fun _ hk => hk.2))); (case aS => exact (below_size (by repeat (first | (with_reducible first | exact HB.out | apply below_alloc | apply pw_below_drewN | apply below_drew1) | exact HB.out)))); (case aL => have := LMc21.out; omega); intro v132 w30 ho hb hg hat; rw [← Ny131.out] at ho; have n0_ := Aside0.mk (Kd.R_after (ok := (fun _ => True)) (by (with_reducible repeat (first | apply Kd.R_alloc | apply Kd.R_drewN | apply Kd.R_drew)); exact HO_6.out) hg hat); have n1_ := Aside0.mk (hb); have n2_ := Aside0.mk ((show Kd.C k32 w30 (some ad119) y127.length y127 from by rw [Ny127.out]; exact Kd.C_take (m := (x8_3 : Int).toNat) ((Kd.R_reads' (Kd.R_after (ok := (fun _ => True)) (by (with_reducible repeat (first | apply Kd.R_alloc | apply Kd.R_drewN | apply Kd.R_drew)); exact HO_6.out) hg hat)).2.2) KL29.out)); have n3_ := Aside0.mk (ho); clear HO_6; clear HB; clear HR130; clear HO126; have HO_6 := n0_; have HB := n1_; have HR130 := n2_; have HO133 := n3_; clear n0_ n1_ n2_ n3_; clear ho hb hg hat; have p134 : 0 ≤ (x7_2 : Int) := of_decide_eq_true (by first | (with_reducible assumption) | assumption); have q134 : x7_2 < (l0.length : Int) := of_decide_eq_true (by first | (with_reducible assumption) | assumption); obtain ⟨ad134, e134, hx134_0, hx134_1, hx134_2, hx134_3⟩ := at_T32 HR0.out x7_2 p134 q134; obtain rfl : ad120 = ad134 := (by injection e134); replace hx134_0 := (HB.out.cell (World.block_lt_of_cell? w _ hx134_0)).trans hx134_0; replace hx134_1 := (HB.out.cell (World.block_lt_of_cell? w _ hx134_1)).trans hx134_1; replace hx134_2 := (HB.out.cell (World.block_lt_of_cell? w _ hx134_2)).trans hx134_2; replace hx134_3 := (HB.out.cell (World.block_lt_of_cell? w _ hx134_3)).trans hx134_3; replace p134 := eq_true p134; replace q134 := eq_true q134) | ((with_reducible refine gate_builtin (b := .append) (xs := #[.tmp 74, .tmp 79]) rfl ?_); at_builtin; refine Kd.R_append k32 (w0 := w) w.heap.size rfl (.tmp 74) (.tmp 79) 22 32 (.agg #[(.string ⟨#[]⟩), (.int .i64 0), (.int .i64 0), (.string ⟨#[]⟩)]) 48 rfl Try.underlying22 info32 rfl (by decide) (by decide) v132 y131 (⟨(rd_T32 l0 x7_2).f0, (⟨(rd_T32 l0 x7_2).f1.f0, (rd_T32 l0 x7_2).f1.f1, (rd_T32 l0 x7_2).f1.f2⟩ : S30)⟩ : S32) [.string ((rd_T32 l0 x7_2).f0), .int .i64 ((rd_T32 l0 x7_2).f1.f0), .int .i64 ((rd_T32 l0 x7_2).f1.f1), .string ((rd_T32 l0 x7_2).f1.f2)] (fun k_ => some k_ ≠ (.slice (some ad119) x6_2.length co26 : Value).ownBlock) (fun _ => False) rfl rfl ?aP (fun _ hk => hk.elim) ?aF ?aO ?aB ?aS ?aL ?_; (case aP => exact k32_mkM _ _ _ (⟨(rd_T32 l0 x7_2).f0, (⟨(rd_T32 l0 x7_2).f1.f0, (rd_T32 l0 x7_2).f1.f1, (rd_T32 l0 x7_2).f1.f2⟩ : S30)⟩ : S32)); (case aB => exact (by repeat (first | (with_reducible first | exact HB.out | apply below_alloc | apply pw_below_drewN | apply below_drew1) | exact HB.out))); (case aF => exact (fun k_ hk => Kd.fresh' (Kd.R_lt (by (with_reducible repeat (first | apply Kd.R_alloc | apply Kd.R_drewN | apply Kd.R_drew)); exact HO_6.out)) k_ hk)); (case aO => exact (by (with_reducible repeat (first | apply Kd.R_alloc | apply Kd.R_drewN | apply Kd.R_drew)); exact HO133.out)); (case aS => exact (below_size (by repeat (first | (with_reducible first | exact HB.out | apply below_alloc | apply pw_below_drewN | apply below_drew1) | exact HB.out)))); (case aL => have := LMc22.out; omega); intro v136 w31 ho hb hg hat; rw [← Ny135.out] at ho; have n0_ := Aside0.mk (Kd.R_after (ok := (fun _ => True)) (by (with_reducible repeat (first | apply Kd.R_alloc | apply Kd.R_drewN | apply Kd.R_drew)); exact HO_6.out) hg hat); have n1_ := Aside0.mk (hb); have n2_ := Aside0.mk ((show Kd.C k32 w31 (some ad119) y127.length y127 from by rw [Ny127.out]; exact Kd.C_take (m := (x8_3 : Int).toNat) ((Kd.R_reads' (Kd.R_after (ok := (fun _ => True)) (by (with_reducible repeat (first | apply Kd.R_alloc | apply Kd.R_drewN | apply Kd.R_drew)); exact HO_6.out) hg hat)).2.2) KL29.out)); have n3_ := Aside0.mk (ho); clear HO_6; clear HB; clear HR130; clear HO133; have HO_6 := n0_; have HB := n1_; have HR130 := n2_; have HO137 := n3_; clear n0_ n1_ n2_ n3_; clear ho hb hg hat; have q32 : (x8_3 : Int) ≤ ((x6_2.length : Int) : Int) := of_decide_eq_true (by first | (with_reducible assumption) | assumption); obtain ⟨i032, hi032, _, hsz32, _⟩ := info_parts info32; have hroom32 : x6_2.length ≤ co26 := (Kd.R_reads' HO_6.out).2.1; have hC32 : Kd.C k32 _ (some ad119) x6_2.length x6_2 := (Kd.R_reads' HO_6.out).2.2; have q032 : (0 : Int) ≤ (x8_3 : Int) := of_decide_eq_true (by first | (with_reducible assumption) | assumption); have hcut32 := cut_from (P := Try.prog) 22 32 .i64 Try.underlying22 hi032 4 hsz32 (some ad119) x6_2.length co26 x8_3 q032 q32; have hr32 := Kd.C_drop (m := (x8_3 : Int).toNat) (c := co26) hC32 (by omega) hroom32; obtain ⟨A32, hA32⟩ : ∃ A1, A1 = (if co26 = (x8_3 : Int).toNat then (some ad119) else ((some ad119) : Option Addr).map (·.add ((x8_3 : Int).toNat * 4))) := ⟨_, rfl⟩; obtain ⟨c32, hc32⟩ : ∃ c1, c1 = co26 - (x8_3 : Int).toNat := ⟨_, rfl⟩; have hy32 : y138.length = x6_2.length - (x8_3 : Int).toNat := (by rw [Ny138.out, List.length_drop] <;> omega); rw [show (x6_2).drop (x8_3 : Int).toNat = y138 from Ny138.out.symm] at hr32; replace hr32 : Kd.C k32 _ A32 y138.length y138 := (by rw [hA32]; exact hr32); rw [← hy32, ← hA32, ← hc32] at hcut32; have HR141 := Aside0.mk hr32; have HC141 := Aside0.mk (show y138.length ≤ c32 from by rw [hy32, hc32]; exact Nat.sub_le_sub_right hroom32 _); clear hr32 hC32 hroom32 hi032 hsz32 hc32; have KY32 := Aside0.mk hy32; have KA32 := Aside0.mk hA32; clear hy32 hA32; have KL32 := Aside0.mk (show (x8_3 : Int).toNat ≤ x6_2.length from by omega); replace q32 := eq_true q32) | ((with_reducible refine gate_builtin (b := .append) (xs := #[.tmp 81, .tmp 84]) rfl ?_); at_builtin; refine Kd.R_append_rows k32 (w0 := w) w.heap.size rfl (.tmp 81) (.tmp 84) 22 32 (.agg #[(.string ⟨#[]⟩), (.int .i64 0), (.int .i64 0), (.string ⟨#[]⟩)]) 48 rfl Try.underlying22 info32 rfl (by decide) (by decide) v136 y135 y138 _ _ _ (fun k_ => some k_ ≠ (.slice (some ad119) x6_2.length co26 : Value).ownBlock) (fun _ => False) rfl rfl ?aO ?aR (fun _ _ h => h) (fun _ h => h.elim) ?aF ?aB ?aS ?aL ?_; (case aR => repeat (first | exact (by repeat (first | (with_reducible exact HR141.out) | (with_reducible refine Kd.C_alloc ?_ _) | (with_reducible refine Kd.C_drewN ?_ _) | (with_reducible refine Kd.C_drew ?_) | exact HR141.out)) | (with_reducible refine Kd.C_alloc ?_ _) | (with_reducible refine Kd.C_drewN ?_ _) | (with_reducible refine Kd.C_drew ?_))); (case aB => exact (by repeat (first | (with_reducible first | exact HB.out | apply below_alloc | apply pw_below_drewN | apply below_drew1) | exact HB.out))); (case aF => exact (fun k_ hk => Kd.fresh' (Kd.R_lt (by (with_reducible repeat (first | apply Kd.R_alloc | apply Kd.R_drewN | apply Kd.R_drew)); exact HO_6.out)) k_ hk)); (case aO => exact (by (with_reducible repeat (first | apply Kd.R_alloc | apply Kd.R_drewN | apply Kd.R_drew)); exact HO137.out)); (case aS => exact (below_size (by repeat (first | (with_reducible first | exact HB.out | apply below_alloc | apply pw_below_drewN | apply below_drew1) | exact HB.out)))); (case aL => have := LMc25.out; omega); intro v143 w33 ho hb hg hat; rw [← Ny142.out] at ho; have n0_ := Aside0.mk (Kd.R_after (ok := (fun _ => True)) (by (with_reducible repeat (first | apply Kd.R_alloc | apply Kd.R_drewN | apply Kd.R_drew)); exact HO_6.out) hg hat); have n1_ := Aside0.mk (hb); have n2_ := Aside0.mk ((show Kd.C k32 w33 (some ad119) y127.length y127 from by rw [Ny127.out]; exact Kd.C_take (m := (x8_3 : Int).toNat) ((Kd.R_reads' (Kd.R_after (ok := (fun _ => True)) (by (with_reducible repeat (first | apply Kd.R_alloc | apply Kd.R_drewN | apply Kd.R_drew)); exact HO_6.out) hg hat)).2.2) KL29.out)); have n3_ := Aside0.mk ((show Kd.C k32 w33 A32 y138.length y138 from by rw [Ny138.out, KA32.out]; exact Kd.C_drop (m := (x8_3 : Int).toNat) (c := co26) ((Kd.R_reads' (Kd.R_after (ok := (fun _ => True)) (by (with_reducible repeat (first | apply Kd.R_alloc | apply Kd.R_drewN | apply Kd.R_drew)); exact HO_6.out) hg hat)).2.2) KL32.out ((Kd.R_reads' (Kd.R_after (ok := (fun _ => True)) (by (with_reducible repeat (first | apply Kd.R_alloc | apply Kd.R_drewN | apply Kd.R_drew)); exact HO_6.out) hg hat)).2.1))); have n4_ := Aside0.mk (ho); clear HO_6; clear HB; clear HR130; clear HR141; clear HO137; have HO_6 := n0_; have HB := n1_; have HR130 := n2_; have HR141 := n3_; have HO144 := n4_; clear n0_ n1_ n2_ n3_ n4_; clear ho hb hg hat)); try go_wp2_with (first | (go_at_call 25; (with_reducible refine (rosetteref04_Text.calls k3 ((rd_T32 x6_2 x8_3).f0) ((rd_T32 l0 x7_2).f0) t121 _ A14.out).mono ?_); rintro e w' ⟨rfl, ⟨nd, rfl⟩⟩; (try first | exact ⟨rfl, _, World.drewN_drewN _ _ _⟩ | exact ⟨rfl, _, Eq.trans (World.drewN_drewN _ _ _) (congrArg (World.drewN _) (Nat.add_assoc _ _ _))⟩); have p122 : 0 ≤ (x8_3 : Int) := of_decide_eq_true (by first | (with_reducible assumption) | assumption); have q122 : x8_3 < (x6_2.length : Int) := of_decide_eq_true (by first | (with_reducible assumption) | assumption); obtain ⟨ad122, e122, hx122_0, hx122_1, hx122_2, hx122_3⟩ := at_T32 (Kd.R_reads' HO_6.out).2.2 x8_3 p122 q122; obtain rfl : ad119 = ad122 := (by injection e122); replace p122 := eq_true p122; replace q122 := eq_true q122; have p123 : 0 ≤ (x7_2 : Int) := of_decide_eq_true (by first | (with_reducible assumption) | assumption); have q123 : x7_2 < (l0.length : Int) := of_decide_eq_true (by first | (with_reducible assumption) | assumption); obtain ⟨ad123, e123, hx123_0, hx123_1, hx123_2, hx123_3⟩ := at_T32 HR0.out x7_2 p123 q123; obtain rfl : ad120 = ad123 := (by injection e123); replace hx123_0 := (HB.out.cell (World.block_lt_of_cell? w _ hx123_0)).trans hx123_0; replace hx123_1 := (HB.out.cell (World.block_lt_of_cell? w _ hx123_1)).trans hx123_1; replace hx123_2 := (HB.out.cell (World.block_lt_of_cell? w _ hx123_2)).trans hx123_2; replace hx123_3 := (HB.out.cell (World.block_lt_of_cell? w _ hx123_3)).trans hx123_3; replace p123 := eq_true p123; replace q123 := eq_true q123) | ((with_reducible refine gate_dst (N := 69) rfl ?_); refine Kd.R_lit k32 _ 32 ?hg (N := 69) ?hd (xs := ([] : List (S32))) (inner := []) (ok := fun _ => True) (okp := fun _ => True) ?hr ?hp (fun _ hk => hk) trivial (Below.refl _ _) (Nat.le_refl _) (by simp) ?_; (case hd => rfl); (case hg => rfl); (case hr => first | (go_simp; done) | (go_simp; rfl)); (case hp => exact (Reps.none _ _)); intro v125 w27 ho28 hb hg_ hnew_; clear hg_ hnew_; (first | rw [← Ny124.out] at ho28 | (simp only [Int.reduceToNat] at ho28; rw [← Ny124.out] at ho28)); have n0_ := Aside0.mk (Kd.R_elder' (by (with_reducible repeat (first | apply Kd.R_alloc | apply Kd.R_drewN | apply Kd.R_drew)); exact HO_6.out) (Kd.R_base ho28) hb); have n1_ := Aside0.mk (Kd.R_lower (Kd.R_new' ho28 (Kd.R_lt (by (with_reducible repeat (first | apply Kd.R_alloc | apply Kd.R_drewN | apply Kd.R_drew)); exact HO_6.out))) (below_size (by repeat (first | (with_reducible first | exact HB.out | apply below_alloc | apply pw_below_drewN | apply below_drew1) | exact HB.out)))); have n2_ := Aside0.mk (below_step (by repeat (first | (with_reducible first | exact HB.out | apply below_alloc | apply pw_below_drewN | apply below_drew1) | exact HB.out)) hb); clear HO_6; clear HB; have HO_6 := n0_; have HO126 := n1_; have HB := n2_; clear n0_ n1_ n2_; clear hb ho28; have q29 : (x8_3 : Int) ≤ ((x6_2.length : Int) : Int) := of_decide_eq_true (by first | (with_reducible assumption) | assumption); obtain ⟨i029, hi029, _, hsz29, _⟩ := info_parts info32; have hroom29 : x6_2.length ≤ co26 := (Kd.R_reads' HO_6.out).2.1; have hC29 : Kd.C k32 _ (some ad119) x6_2.length x6_2 := (Kd.R_reads' HO_6.out).2.2; have hcut29 := cut_to (P := Try.prog) 22 32 .i64 Try.underlying22 hi029 (some ad119) x6_2.length co26 x8_3 (of_decide_eq_true (by first | (with_reducible assumption) | assumption)) q29 hroom29; have hr29 := Kd.C_take (m := (x8_3 : Int).toNat) hC29 (by omega); have hy29 : y127.length = (x8_3 : Int).toNat := (by rw [Ny127.out, List.length_take]; omega); rw [← Ny127.out] at hr29; rw [← hy29] at hcut29; have HR130 := Aside0.mk hr29; have HC130 := Aside0.mk (show y127.length ≤ co26 from by omega); clear hr29 hC29 hroom29 hi029 hsz29; have KY29 := Aside0.mk hy29; clear hy29; have KL29 := Aside0.mk (show (x8_3 : Int).toNat ≤ x6_2.length from by omega); replace q29 := eq_true q29) | ((with_reducible refine gate_builtin (b := .append) (xs := #[.tmp 69, .tmp 72]) rfl ?_); at_builtin; refine Kd.R_append_rows k32 (w0 := w) w.heap.size rfl (.tmp 69) (.tmp 72) 22 32 (.agg #[(.string ⟨#[]⟩), (.int .i64 0), (.int .i64 0), (.string ⟨#[]⟩)]) 48 rfl Try.underlying22 info32 rfl (by decide) (by decide) v125 y124 y127 _ _ _ (fun k_ => some k_ ≠ (.slice (some ad119) x6_2.length co26 : Value).ownBlock) (fun _ => False) rfl rfl ?aO ?aR (fun _ _ h => h) (fun _ h => h.elim) ?aF ?aB ?aS ?aL ?_; (case aR => repeat (first | exact (by repeat (first | (with_reducible exact HR130.out) | (with_reducible refine Kd.C_alloc ?_ _) | (with_reducible refine Kd.C_drewN ?_ _) | (with_reducible refine Kd.C_drew ?_) | exact HR130.out)) | (with_reducible refine Kd.C_alloc ?_ _) | (with_reducible refine Kd.C_drewN ?_ _) | (with_reducible refine Kd.C_drew ?_))); (case aB => exact (by repeat (first | (with_reducible first | exact HB.out | apply below_alloc | apply pw_below_drewN | apply below_drew1) | exact HB.out))); (case aF => exact (fun k_ hk => Kd.fresh' (Kd.R_lt (by (with_reducible repeat (first | apply Kd.R_alloc | apply Kd.R_drewN | apply Kd.R_drew)); exact HO_6.out)) k_ hk)); (case aO => exact (by (with_reducible repeat (first | apply Kd.R_alloc | apply Kd.R_drewN | apply Kd.R_drew)); exact Kd.R_mono HO126.out (fun _ hk => hk.2))); (case aS => exact (below_size (by repeat (first | (with_reducible first | exact HB.out | apply below_alloc | apply pw_below_drewN | apply below_drew1) | exact HB.out)))); (case aL => have := LMc21.out; omega); intro v132 w30 ho hb hg hat; rw [← Ny131.out] at ho; have n0_ := Aside0.mk (Kd.R_after (ok := (fun _ => True)) (by (with_reducible repeat (first | apply Kd.R_alloc | apply Kd.R_drewN | apply Kd.R_drew)); exact HO_6.out) hg hat); have n1_ := Aside0.mk (hb); have n2_ := Aside0.mk ((show Kd.C k32 w30 (some ad119) y127.length y127 from by rw [Ny127.out]; exact Kd.C_take (m := (x8_3 : Int).toNat) ((Kd.R_reads' (Kd.R_after (ok := (fun _ => True)) (by (with_reducible repeat (first | apply Kd.R_alloc | apply Kd.R_drewN | apply Kd.R_drew)); exact HO_6.out) hg hat)).2.2) KL29.out)); have n3_ := Aside0.mk (ho); clear HO_6; clear HB; clear HR130; clear HO126; have HO_6 := n0_; have HB := n1_; have HR130 := n2_; have HO133 := n3_; clear n0_ n1_ n2_ n3_; clear ho hb hg hat; have p134 : 0 ≤ (x7_2 : Int) := of_decide_eq_true (by first | (with_reducible assumption) | assumption); have q134 : x7_2 < (l0.length : Int) := of_decide_eq_true (by first | (with_reducible assumption) | assumption); obtain ⟨ad134, e134, hx134_0, hx134_1, hx134_2, hx134_3⟩ := at_T32 HR0.out x7_2 p134 q134; obtain rfl : ad120 = ad134 := (by injection e134); replace hx134_0 := (HB.out.cell (World.block_lt_of_cell? w _ hx134_0)).trans hx134_0; replace hx134_1 := (HB.out.cell (World.block_lt_of_cell? w _ hx134_1)).trans hx134_1; replace hx134_2 := (HB.out.cell (World.block_lt_of_cell? w _ hx134_2)).trans hx134_2; replace hx134_3 := (HB.out.cell (World.block_lt_of_cell? w _ hx134_3)).trans hx134_3; replace p134 := eq_true p134; replace q134 := eq_true q134) | ((with_reducible refine gate_builtin (b := .append) (xs := #[.tmp 74, .tmp 79]) rfl ?_); at_builtin; refine Kd.R_append k32 (w0 := w) w.heap.size rfl (.tmp 74) (.tmp 79) 22 32 (.agg #[(.string ⟨#[]⟩), (.int .i64 0), (.int .i64 0), (.string ⟨#[]⟩)]) 48 rfl Try.underlying22 info32 rfl (by decide) (by decide) v132 y131 (⟨(rd_T32 l0 x7_2).f0, (⟨(rd_T32 l0 x7_2).f1.f0, (rd_T32 l0 x7_2).f1.f1, (rd_T32 l0 x7_2).f1.f2⟩ : S30)⟩ : S32) [.string ((rd_T32 l0 x7_2).f0), .int .i64 ((rd_T32 l0 x7_2).f1.f0), .int .i64 ((rd_T32 l0 x7_2).f1.f1), .string ((rd_T32 l0 x7_2).f1.f2)] (fun k_ => some k_ ≠ (.slice (some ad119) x6_2.length co26 : Value).ownBlock) (fun _ => False) rfl rfl ?aP (fun _ hk => hk.elim) ?aF ?aO ?aB ?aS ?aL ?_; (case aP => exact k32_mkM _ _ _ (⟨(rd_T32 l0 x7_2).f0, (⟨(rd_T32 l0 x7_2).f1.f0, (rd_T32 l0 x7_2).f1.f1, (rd_T32 l0 x7_2).f1.f2⟩ : S30)⟩ : S32)); (case aB => exact (by repeat (first | (with_reducible first | exact HB.out | apply below_alloc | apply pw_below_drewN | apply below_drew1) | exact HB.out))); (case aF => exact (fun k_ hk => Kd.fresh' (Kd.R_lt (by (with_reducible repeat (first | apply Kd.R_alloc | apply Kd.R_drewN | apply Kd.R_drew)); exact HO_6.out)) k_ hk)); (case aO => exact (by (with_reducible repeat (first | apply Kd.R_alloc | apply Kd.R_drewN | apply Kd.R_drew)); exact HO133.out)); (case aS => exact (below_size (by repeat (first | (with_reducible first | exact HB.out | apply below_alloc | apply pw_below_drewN | apply below_drew1) | exact HB.out)))); (case aL => have := LMc22.out; omega); intro v136 w31 ho hb hg hat; rw [← Ny135.out] at ho; have n0_ := Aside0.mk (Kd.R_after (ok := (fun _ => True)) (by (with_reducible repeat (first | apply Kd.R_alloc | apply Kd.R_drewN | apply Kd.R_drew)); exact HO_6.out) hg hat); have n1_ := Aside0.mk (hb); have n2_ := Aside0.mk ((show Kd.C k32 w31 (some ad119) y127.length y127 from by rw [Ny127.out]; exact Kd.C_take (m := (x8_3 : Int).toNat) ((Kd.R_reads' (Kd.R_after (ok := (fun _ => True)) (by (with_reducible repeat (first | apply Kd.R_alloc | apply Kd.R_drewN | apply Kd.R_drew)); exact HO_6.out) hg hat)).2.2) KL29.out)); have n3_ := Aside0.mk (ho); clear HO_6; clear HB; clear HR130; clear HO133; have HO_6 := n0_; have HB := n1_; have HR130 := n2_; have HO137 := n3_; clear n0_ n1_ n2_ n3_; clear ho hb hg hat; have q32 : (x8_3 : Int) ≤ ((x6_2.length : Int) : Int) := of_decide_eq_true (by first | (with_reducible assumption) | assumption); obtain ⟨i032, hi032, _, hsz32, _⟩ := info_parts info32; have hroom32 : x6_2.length ≤ co26 := (Kd.R_reads' HO_6.out).2.1; have hC32 : Kd.C k32 _ (some ad119) x6_2.length x6_2 := (Kd.R_reads' HO_6.out).2.2; have q032 : (0 : Int) ≤ (x8_3 : Int) := of_decide_eq_true (by first | (with_reducible assumption) | assumption); have hcut32 := cut_from (P := Try.prog) 22 32 .i64 Try.underlying22 hi032 4 hsz32 (some ad119) x6_2.length co26 x8_3 q032 q32; have hr32 := Kd.C_drop (m := (x8_3 : Int).toNat) (c := co26) hC32 (by omega) hroom32; obtain ⟨A32, hA32⟩ : ∃ A1, A1 = (if co26 = (x8_3 : Int).toNat then (some ad119) else ((some ad119) : Option Addr).map (·.add ((x8_3 : Int).toNat * 4))) := ⟨_, rfl⟩; obtain ⟨c32, hc32⟩ : ∃ c1, c1 = co26 - (x8_3 : Int).toNat := ⟨_, rfl⟩; have hy32 : y138.length = x6_2.length - (x8_3 : Int).toNat := (by rw [Ny138.out, List.length_drop] <;> omega); rw [show (x6_2).drop (x8_3 : Int).toNat = y138 from Ny138.out.symm] at hr32; replace hr32 : Kd.C k32 _ A32 y138.length y138 := (by rw [hA32]; exact hr32); rw [← hy32, ← hA32, ← hc32] at hcut32; have HR141 := Aside0.mk hr32; have HC141 := Aside0.mk (show y138.length ≤ c32 from by rw [hy32, hc32]; exact Nat.sub_le_sub_right hroom32 _); clear hr32 hC32 hroom32 hi032 hsz32 hc32; have KY32 := Aside0.mk hy32; have KA32 := Aside0.mk hA32; clear hy32 hA32; have KL32 := Aside0.mk (show (x8_3 : Int).toNat ≤ x6_2.length from by omega); replace q32 := eq_true q32) | ((with_reducible refine gate_builtin (b := .append) (xs := #[.tmp 81, .tmp 84]) rfl ?_); at_builtin; refine Kd.R_append_rows k32 (w0 := w) w.heap.size rfl (.tmp 81) (.tmp 84) 22 32 (.agg #[(.string ⟨#[]⟩), (.int .i64 0), (.int .i64 0), (.string ⟨#[]⟩)]) 48 rfl Try.underlying22 info32 rfl (by decide) (by decide) v136 y135 y138 _ _ _ (fun k_ => some k_ ≠ (.slice (some ad119) x6_2.length co26 : Value).ownBlock) (fun _ => False) rfl rfl ?aO ?aR (fun _ _ h => h) (fun _ h => h.elim) ?aF ?aB ?aS ?aL ?_; (case aR => repeat (first | exact (by repeat (first | (with_reducible exact HR141.out) | (with_reducible refine Kd.C_alloc ?_ _) | (with_reducible refine Kd.C_drewN ?_ _) | (with_reducible refine Kd.C_drew ?_) | exact HR141.out)) | (with_reducible refine Kd.C_alloc ?_ _) | (with_reducible refine Kd.C_drewN ?_ _) | (with_reducible refine Kd.C_drew ?_))); (case aB => exact (by repeat (first | (with_reducible first | exact HB.out | apply below_alloc | apply pw_below_drewN | apply below_drew1) | exact HB.out))); (case aF => exact (fun k_ hk => Kd.fresh' (Kd.R_lt (by (with_reducible repeat (first | apply Kd.R_alloc | apply Kd.R_drewN | apply Kd.R_drew)); exact HO_6.out)) k_ hk)); (case aO => exact (by (with_reducible repeat (first | apply Kd.R_alloc | apply Kd.R_drewN | apply Kd.R_drew)); exact HO137.out)); (case aS => exact (below_size (by repeat (first | (with_reducible first | exact HB.out | apply below_alloc | apply pw_below_drewN | apply below_drew1) | exact HB.out)))); (case aL => have := LMc25.out; omega); intro v143 w33 ho hb hg hat; rw [← Ny142.out] at ho; have n0_ := Aside0.mk (Kd.R_after (ok := (fun _ => True)) (by (with_reducible repeat (first | apply Kd.R_alloc | apply Kd.R_drewN | apply Kd.R_drew)); exact HO_6.out) hg hat); have n1_ := Aside0.mk (hb); have n2_ := Aside0.mk ((show Kd.C k32 w33 (some ad119) y127.length y127 from by rw [Ny127.out]; exact Kd.C_take (m := (x8_3 : Int).toNat) ((Kd.R_reads' (Kd.R_after (ok := (fun _ => True)) (by (with_reducible repeat (first | apply Kd.R_alloc | apply Kd.R_drewN | apply Kd.R_drew)); exact HO_6.out) hg hat)).2.2) KL29.out)); have n3_ := Aside0.mk ((show Kd.C k32 w33 A32 y138.length y138 from by rw [Ny138.out, KA32.out]; exact Kd.C_drop (m := (x8_3 : Int).toNat) (c := co26) ((Kd.R_reads' (Kd.R_after (ok := (fun _ => True)) (by (with_reducible repeat (first | apply Kd.R_alloc | apply Kd.R_drewN | apply Kd.R_drew)); exact HO_6.out) hg hat)).2.2) KL32.out ((Kd.R_reads' (Kd.R_after (ok := (fun _ => True)) (by (with_reducible repeat (first | apply Kd.R_alloc | apply Kd.R_drewN | apply Kd.R_drew)); exact HO_6.out) hg hat)).2.1))); have n4_ := Aside0.mk (ho); clear HO_6; clear HB; clear HR130; clear HR141; clear HO137; have HO_6 := n0_; have HB := n1_; have HR130 := n2_; have HR141 := n3_; have HO144 := n4_; clear n0_ n1_ n2_ n3_ n4_; clear ho hb hg hat)))
                                        go_roundg k3
                                        case measure => have := HK1.out; have := HK2.out; have := HK3.out; omega
                                        case rel => exact ⟨(y142), (wrap64 (x7_2 + 1)), (by first | rfl | (simp; done) | (simp [*]; done)), H', ⟨by have := HK1.out; have := HK2.out; have := HK3.out; omega⟩, ⟨by (with_reducible repeat (first | apply Kd.R_alloc | apply Kd.R_drewN | apply Kd.R_drew)); exact Kd.R_mono HO144.out (fun _ hk => trivial)⟩, ⟨by repeat (first | (with_reducible first | exact HB.out | apply below_alloc | apply pw_below_drewN | apply below_drew1) | exact HB.out)⟩⟩
                                      · rw [if_neg c25] at H
                                        exact absurd H (by simp)
                                    · rw [if_neg c22] at H
                                      exact absurd H (by simp)
                                  · rw [if_neg c21] at H
                                    exact absurd H (by simp)
                                · rw [if_neg c20] at H
                                  exact absurd H (by simp)
                          · rw [if_neg c13] at H
                            exact absurd H (by simp)
                        · rw [if_neg c12] at H
                          exact absurd H (by simp)
                      · rw [if_neg c11] at H
                        exact absurd H (by simp)
                    · rw [if_neg c10] at H
                      have c10b0 : decide (x8_3 < (x6_2.length : Int)) = false := decide_eq_false c10
                      clear c10
                      obtain ⟨y145, hy145⟩ : ∃ y_ : List (S32), y_ = (([] : List (S32))) := ⟨_, rfl⟩
                      replace H : (if 0 ≤ x8_3 then (if x8_3 ≤ (x6_2.length : Int) then ((some (x6_2.take (x8_3 : Int).toNat : List (S32))).bind fun y148 => (if y145.length + y148.length < 2932031007402 then ((some (y145 ++ y148 : List (S32))).bind fun y152 => (if 0 ≤ x7_2 then (if x7_2 < (l0.length : Int) then (if y152.length < 2932031007402 then ((some (y152 ++ [(⟨(rd_T32 l0 x7_2).f0, (⟨(rd_T32 l0 x7_2).f1.f0, (rd_T32 l0 x7_2).f1.f1, (rd_T32 l0 x7_2).f1.f2⟩ : S30)⟩ : S32)] : List (S32))).bind fun y156 => ((some (x6_2.drop (x8_3 : Int).toNat : List (S32))).bind fun y159 => (if y156.length + y159.length < 2932031007402 then (rosetteref05_Make.l1 k3 l0 (y156 ++ y159) (wrap64 (x7_2 + 1))) else (none)))) else (none)) else (none)) else (none))) else (none))) else (none)) else (none)) = some (r1, r2) := by first | (rw [hy145]; with_reducible exact H) | (have H2_ := (Option.bind_some _ _).symm.trans H; rw [hy145]; with_reducible exact H2_) | (have H2_ := (Option.bind_some _ _).symm.trans H; with_reducible exact H2_) | with_reducible exact H | (rw [hy145]; exact H) | exact H
                      have Ny145 := Aside0.mk hy145
                      clear hy145
                      by_cases c34 : 0 ≤ x8_3
                      · rw [if_pos c34] at H
                        have c34b0 := eq_true c34
                        have c34b1 : decide (0 ≤ x8_3) = true := decide_eq_true c34
                        clear c34
                        by_cases c35 : x8_3 ≤ (x6_2.length : Int)
                        · rw [if_pos c35] at H
                          have c35b0 := eq_true c35
                          have c35b1 : decide (x8_3 ≤ (x6_2.length : Int)) = true := decide_eq_true c35
                          clear c35
                          obtain ⟨y148, hy148⟩ : ∃ y_ : List (S32), y_ = (x6_2.take (x8_3 : Int).toNat) := ⟨_, rfl⟩
                          replace H : (if y145.length + y148.length < 2932031007402 then ((some (y145 ++ y148 : List (S32))).bind fun y152 => (if 0 ≤ x7_2 then (if x7_2 < (l0.length : Int) then (if y152.length < 2932031007402 then ((some (y152 ++ [(⟨(rd_T32 l0 x7_2).f0, (⟨(rd_T32 l0 x7_2).f1.f0, (rd_T32 l0 x7_2).f1.f1, (rd_T32 l0 x7_2).f1.f2⟩ : S30)⟩ : S32)] : List (S32))).bind fun y156 => ((some (x6_2.drop (x8_3 : Int).toNat : List (S32))).bind fun y159 => (if y156.length + y159.length < 2932031007402 then (rosetteref05_Make.l1 k3 l0 (y156 ++ y159) (wrap64 (x7_2 + 1))) else (none)))) else (none)) else (none)) else (none))) else (none)) = some (r1, r2) := by first | (rw [hy148]; with_reducible exact H) | (have H2_ := (Option.bind_some _ _).symm.trans H; rw [hy148]; with_reducible exact H2_) | (have H2_ := (Option.bind_some _ _).symm.trans H; with_reducible exact H2_) | with_reducible exact H | (rw [hy148]; exact H) | exact H
                          have Ny148 := Aside0.mk hy148
                          clear hy148
                          by_cases c36 : y145.length + y148.length < 2932031007402
                          · rw [if_pos c36] at H
                            have LMc36 := Aside0.mk c36
                            clear c36
                            obtain ⟨y152, hy152⟩ : ∃ y_ : List (S32), y_ = (y145 ++ y148) := ⟨_, rfl⟩
                            replace H : (if 0 ≤ x7_2 then (if x7_2 < (l0.length : Int) then (if y152.length < 2932031007402 then ((some (y152 ++ [(⟨(rd_T32 l0 x7_2).f0, (⟨(rd_T32 l0 x7_2).f1.f0, (rd_T32 l0 x7_2).f1.f1, (rd_T32 l0 x7_2).f1.f2⟩ : S30)⟩ : S32)] : List (S32))).bind fun y156 => ((some (x6_2.drop (x8_3 : Int).toNat : List (S32))).bind fun y159 => (if y156.length + y159.length < 2932031007402 then (rosetteref05_Make.l1 k3 l0 (y156 ++ y159) (wrap64 (x7_2 + 1))) else (none)))) else (none)) else (none)) else (none)) = some (r1, r2) := by first | (rw [hy152]; with_reducible exact H) | (have H2_ := (Option.bind_some _ _).symm.trans H; rw [hy152]; with_reducible exact H2_) | (have H2_ := (Option.bind_some _ _).symm.trans H; with_reducible exact H2_) | with_reducible exact H | (rw [hy152]; exact H) | exact H
                            have Ny152 := Aside0.mk hy152
                            clear hy152
                            by_cases c37 : 0 ≤ x7_2
                            · rw [if_pos c37] at H
                              have c37b0 : decide (0 ≤ x7_2) = true := decide_eq_true c37
                              clear c37
                              by_cases c38 : x7_2 < (l0.length : Int)
                              · rw [if_pos c38] at H
                                have c38b0 : decide (x7_2 < (l0.length : Int)) = true := decide_eq_true c38
                                clear c38
                                by_cases c39 : y152.length < 2932031007402
                                · rw [if_pos c39] at H
                                  have LMc39 := Aside0.mk c39
                                  clear c39
                                  obtain ⟨y156, hy156⟩ : ∃ y_ : List (S32), y_ = (y152 ++ [(⟨(rd_T32 l0 x7_2).f0, (⟨(rd_T32 l0 x7_2).f1.f0, (rd_T32 l0 x7_2).f1.f1, (rd_T32 l0 x7_2).f1.f2⟩ : S30)⟩ : S32)]) := ⟨_, rfl⟩
                                  replace H : ((some (x6_2.drop (x8_3 : Int).toNat : List (S32))).bind fun y159 => (if y156.length + y159.length < 2932031007402 then (rosetteref05_Make.l1 k3 l0 (y156 ++ y159) (wrap64 (x7_2 + 1))) else (none))) = some (r1, r2) := by first | (rw [hy156]; with_reducible exact H) | (have H2_ := (Option.bind_some _ _).symm.trans H; rw [hy156]; with_reducible exact H2_) | (have H2_ := (Option.bind_some _ _).symm.trans H; with_reducible exact H2_) | with_reducible exact H | (rw [hy156]; exact H) | exact H
                                  have Ny156 := Aside0.mk hy156
                                  clear hy156
                                  have c40b0 := eq_true (of_decide_eq_true (by first | (with_reducible assumption) | assumption) : 0 ≤ x8_3)
                                  have c41b0 := eq_true (of_decide_eq_true (by first | (with_reducible assumption) | assumption) : x8_3 ≤ (x6_2.length : Int))
                                  obtain ⟨y159, hy159⟩ : ∃ y_ : List (S32), y_ = (x6_2.drop (x8_3 : Int).toNat) := ⟨_, rfl⟩
                                  replace H : (if y156.length + y159.length < 2932031007402 then (rosetteref05_Make.l1 k3 l0 (y156 ++ y159) (wrap64 (x7_2 + 1))) else (none)) = some (r1, r2) := by first | (rw [hy159]; with_reducible exact H) | (have H2_ := (Option.bind_some _ _).symm.trans H; rw [hy159]; with_reducible exact H2_) | (have H2_ := (Option.bind_some _ _).symm.trans H; with_reducible exact H2_) | with_reducible exact H | (rw [hy159]; exact H) | exact H
                                  have Ny159 := Aside0.mk hy159
                                  clear hy159
                                  by_cases c42 : y156.length + y159.length < 2932031007402
                                  · rw [if_pos c42] at H
                                    have LMc42 := Aside0.mk c42
                                    clear c42
                                    obtain ⟨y163, hy163⟩ : ∃ y_ : List (S32), y_ = (y156 ++ y159) := ⟨_, rfl⟩
                                    replace H : (rosetteref05_Make.l1 k3 l0 y163 (wrap64 (x7_2 + 1))) = some (r1, r2) := by first | (rw [hy163]; with_reducible exact H) | (have H2_ := (Option.bind_some _ _).symm.trans H; rw [hy163]; with_reducible exact H2_) | (have H2_ := (Option.bind_some _ _).symm.trans H; with_reducible exact H2_) | with_reducible exact H | (rw [hy163]; exact H) | exact H
                                    have Ny163 := Aside0.mk hy163
                                    clear hy163
                                    have H' := Aside0.mk H
                                    clear H
                                    obtain ⟨Ao43, co43, eo43⟩ := Kd.R_slice HO_6.out
                                    subst eo43
                                    go_wp2_with (first | ((with_reducible refine gate_dst (N := 69) rfl ?_); refine Kd.R_lit k32 _ 32 ?hg (N := 69) ?hd (xs := ([] : List (S32))) (inner := []) (ok := fun _ => True) (okp := fun _ => True) ?hr ?hp (fun _ hk => hk) trivial (Below.refl _ _) (Nat.le_refl _) (by simp) ?_; (case hd => rfl); (case hg => rfl); (case hr => first | (go_simp; done) | (go_simp; rfl)); (case hp => exact (Reps.none _ _)); intro v146 w44 ho45 hb hg_ hnew_; clear hg_ hnew_; (first | rw [← Ny145.out] at ho45 | (simp only [Int.reduceToNat] at ho45; rw [← Ny145.out] at ho45)); have n0_ := Aside0.mk (Kd.R_elder' (by (with_reducible repeat (first | apply Kd.R_alloc | apply Kd.R_drewN | apply Kd.R_drew)); exact HO_6.out) (Kd.R_base ho45) hb); have n1_ := Aside0.mk (Kd.R_lower (Kd.R_new' ho45 (Kd.R_lt (by (with_reducible repeat (first | apply Kd.R_alloc | apply Kd.R_drewN | apply Kd.R_drew)); exact HO_6.out))) (below_size (by repeat (first | (with_reducible first | exact HB.out | apply below_alloc | apply pw_below_drewN | apply below_drew1) | exact HB.out)))); have n2_ := Aside0.mk (below_step (by repeat (first | (with_reducible first | exact HB.out | apply below_alloc | apply pw_below_drewN | apply below_drew1) | exact HB.out)) hb); clear HO_6; clear HB; have HO_6 := n0_; have HO147 := n1_; have HB := n2_; clear n0_ n1_ n2_; clear hb ho45; have q46 : (x8_3 : Int) ≤ ((x6_2.length : Int) : Int) := of_decide_eq_true (by first | (with_reducible assumption) | assumption); obtain ⟨i046, hi046, _, hsz46, _⟩ := info_parts info32; have hroom46 : x6_2.length ≤ co43 := (Kd.R_reads' HO_6.out).2.1; have hC46 : Kd.C k32 _ Ao43 x6_2.length x6_2 := (Kd.R_reads' HO_6.out).2.2; have hcut46 := cut_to (P := Try.prog) 22 32 .i64 Try.underlying22 hi046 Ao43 x6_2.length co43 x8_3 (of_decide_eq_true (by first | (with_reducible assumption) | assumption)) q46 hroom46; have hr46 := Kd.C_take (m := (x8_3 : Int).toNat) hC46 (by omega); have hy46 : y148.length = (x8_3 : Int).toNat := (by rw [Ny148.out, List.length_take]; omega); rw [← Ny148.out] at hr46; rw [← hy46] at hcut46; have HR151 := Aside0.mk hr46; have HC151 := Aside0.mk (show y148.length ≤ co43 from by omega); clear hr46 hC46 hroom46 hi046 hsz46; have KY46 := Aside0.mk hy46; clear hy46; have KL46 := Aside0.mk (show (x8_3 : Int).toNat ≤ x6_2.length from by omega); replace q46 := eq_true q46) | ((with_reducible refine gate_builtin (b := .append) (xs := #[.tmp 69, .tmp 72]) rfl ?_); at_builtin; refine Kd.R_append_rows k32 (w0 := w) w.heap.size rfl (.tmp 69) (.tmp 72) 22 32 (.agg #[(.string ⟨#[]⟩), (.int .i64 0), (.int .i64 0), (.string ⟨#[]⟩)]) 48 rfl Try.underlying22 info32 rfl (by decide) (by decide) v146 y145 y148 _ _ _ (fun k_ => some k_ ≠ (.slice Ao43 x6_2.length co43 : Value).ownBlock) (fun _ => False) rfl rfl ?aO ?aR (fun _ _ h => h) (fun _ h => h.elim) ?aF ?aB ?aS ?aL ?_; (case aR => repeat (first | exact (by repeat (first | (with_reducible exact HR151.out) | (with_reducible refine Kd.C_alloc ?_ _) | (with_reducible refine Kd.C_drewN ?_ _) | (with_reducible refine Kd.C_drew ?_) | exact HR151.out)) | (with_reducible refine Kd.C_alloc ?_ _) | (with_reducible refine Kd.C_drewN ?_ _) | (with_reducible refine Kd.C_drew ?_))); (case aB => exact (by repeat (first | (with_reducible first | exact HB.out | apply below_alloc | apply pw_below_drewN | apply below_drew1) | exact HB.out))); (case aF => exact (fun k_ hk => Kd.fresh' (Kd.R_lt (by (with_reducible repeat (first | apply Kd.R_alloc | apply Kd.R_drewN | apply Kd.R_drew)); exact HO_6.out)) k_ hk)); (case aO => exact (by (with_reducible repeat (first | apply Kd.R_alloc | apply Kd.R_drewN | apply Kd.R_drew)); exact Kd.R_mono HO147.out (fun _ hk => hk.2))); (case aS => exact (below_size (by repeat (first | (with_reducible first | exact HB.out | apply below_alloc | apply pw_below_drewN | apply below_drew1) | exact HB.out)))); (case aL => have := LMc36.out; omega); intro v153 w47 ho hb hg hat; rw [← Ny152.out] at ho; have n0_ := Aside0.mk (Kd.R_after (ok := (fun _ => True)) (by (with_reducible repeat (first | apply Kd.R_alloc | apply Kd.R_drewN | apply Kd.R_drew)); exact HO_6.out) hg hat); have n1_ := Aside0.mk (hb); have n2_ := Aside0.mk ((show Kd.C k32 w47 Ao43 y148.length y148 from by rw [Ny148.out]; exact Kd.C_take (m := (x8_3 : Int).toNat) ((Kd.R_reads' (Kd.R_after (ok := (fun _ => True)) (by (with_reducible repeat (first | apply Kd.R_alloc | apply Kd.R_drewN | apply Kd.R_drew)); exact HO_6.out) hg hat)).2.2) KL46.out)); have n3_ := Aside0.mk (ho); clear HO_6; clear HB; clear HR151; clear HO147; have HO_6 := n0_; have HB := n1_; have HR151 := n2_; have HO154 := n3_; clear n0_ n1_ n2_ n3_; clear ho hb hg hat; have p155 : 0 ≤ (x7_2 : Int) := of_decide_eq_true (by first | (with_reducible assumption) | assumption); have q155 : x7_2 < (l0.length : Int) := of_decide_eq_true (by first | (with_reducible assumption) | assumption); obtain ⟨ad155, e155, hx155_0, hx155_1, hx155_2, hx155_3⟩ := at_T32 HR0.out x7_2 p155 q155; cases e155; replace hx155_0 := (HB.out.cell (World.block_lt_of_cell? w _ hx155_0)).trans hx155_0; replace hx155_1 := (HB.out.cell (World.block_lt_of_cell? w _ hx155_1)).trans hx155_1; replace hx155_2 := (HB.out.cell (World.block_lt_of_cell? w _ hx155_2)).trans hx155_2; replace hx155_3 := (HB.out.cell (World.block_lt_of_cell? w _ hx155_3)).trans hx155_3; replace p155 := eq_true p155; replace q155 := eq_true q155) | ((with_reducible refine gate_builtin (b := .append) (xs := #[.tmp 74, .tmp 79]) rfl ?_); at_builtin; refine Kd.R_append k32 (w0 := w) w.heap.size rfl (.tmp 74) (.tmp 79) 22 32 (.agg #[(.string ⟨#[]⟩), (.int .i64 0), (.int .i64 0), (.string ⟨#[]⟩)]) 48 rfl Try.underlying22 info32 rfl (by decide) (by decide) v153 y152 (⟨(rd_T32 l0 x7_2).f0, (⟨(rd_T32 l0 x7_2).f1.f0, (rd_T32 l0 x7_2).f1.f1, (rd_T32 l0 x7_2).f1.f2⟩ : S30)⟩ : S32) [.string ((rd_T32 l0 x7_2).f0), .int .i64 ((rd_T32 l0 x7_2).f1.f0), .int .i64 ((rd_T32 l0 x7_2).f1.f1), .string ((rd_T32 l0 x7_2).f1.f2)] (fun k_ => some k_ ≠ (.slice Ao43 x6_2.length co43 : Value).ownBlock) (fun _ => False) rfl rfl ?aP (fun _ hk => hk.elim) ?aF ?aO ?aB ?aS ?aL ?_; (case aP => exact k32_mkM _ _ _ (⟨(rd_T32 l0 x7_2).f0, (⟨(rd_T32 l0 x7_2).f1.f0, (rd_T32 l0 x7_2).f1.f1, (rd_T32 l0 x7_2).f1.f2⟩ : S30)⟩ : S32)); (case aB => exact (by repeat (first | (with_reducible first | exact HB.out | apply below_alloc | apply pw_below_drewN | apply below_drew1) | exact HB.out))); (case aF => exact (fun k_ hk => Kd.fresh' (Kd.R_lt (by (with_reducible repeat (first | apply Kd.R_alloc | apply Kd.R_drewN | apply Kd.R_drew)); exact HO_6.out)) k_ hk)); (case aO => exact (by (with_reducible repeat (first | apply Kd.R_alloc | apply Kd.R_drewN | apply Kd.R_drew)); exact HO154.out)); (case aS => exact (below_size (by repeat (first | (with_reducible first | exact HB.out | apply below_alloc | apply pw_below_drewN | apply below_drew1) | exact HB.out)))); (case aL => have := LMc39.out; omega); intro v157 w48 ho hb hg hat; rw [← Ny156.out] at ho; have n0_ := Aside0.mk (Kd.R_after (ok := (fun _ => True)) (by (with_reducible repeat (first | apply Kd.R_alloc | apply Kd.R_drewN | apply Kd.R_drew)); exact HO_6.out) hg hat); have n1_ := Aside0.mk (hb); have n2_ := Aside0.mk ((show Kd.C k32 w48 Ao43 y148.length y148 from by rw [Ny148.out]; exact Kd.C_take (m := (x8_3 : Int).toNat) ((Kd.R_reads' (Kd.R_after (ok := (fun _ => True)) (by (with_reducible repeat (first | apply Kd.R_alloc | apply Kd.R_drewN | apply Kd.R_drew)); exact HO_6.out) hg hat)).2.2) KL46.out)); have n3_ := Aside0.mk (ho); clear HO_6; clear HB; clear HR151; clear HO154; have HO_6 := n0_; have HB := n1_; have HR151 := n2_; have HO158 := n3_; clear n0_ n1_ n2_ n3_; clear ho hb hg hat; have q49 : (x8_3 : Int) ≤ ((x6_2.length : Int) : Int) := of_decide_eq_true (by first | (with_reducible assumption) | assumption); obtain ⟨i049, hi049, _, hsz49, _⟩ := info_parts info32; have hroom49 : x6_2.length ≤ co43 := (Kd.R_reads' HO_6.out).2.1; have hC49 : Kd.C k32 _ Ao43 x6_2.length x6_2 := (Kd.R_reads' HO_6.out).2.2; have q049 : (0 : Int) ≤ (x8_3 : Int) := of_decide_eq_true (by first | (with_reducible assumption) | assumption); have hcut49 := cut_from (P := Try.prog) 22 32 .i64 Try.underlying22 hi049 4 hsz49 Ao43 x6_2.length co43 x8_3 q049 q49; have hr49 := Kd.C_drop (m := (x8_3 : Int).toNat) (c := co43) hC49 (by omega) hroom49; obtain ⟨A49, hA49⟩ : ∃ A1, A1 = (if co43 = (x8_3 : Int).toNat then Ao43 else (Ao43 : Option Addr).map (·.add ((x8_3 : Int).toNat * 4))) := ⟨_, rfl⟩; obtain ⟨c49, hc49⟩ : ∃ c1, c1 = co43 - (x8_3 : Int).toNat := ⟨_, rfl⟩; have hy49 : y159.length = x6_2.length - (x8_3 : Int).toNat := (by rw [Ny159.out, List.length_drop] <;> omega); rw [show (x6_2).drop (x8_3 : Int).toNat = y159 from Ny159.out.symm] at hr49; replace hr49 : Kd.C k32 _ A49 y159.length y159 := (by rw [hA49]; exact hr49); rw [← hy49, ← hA49, ← hc49] at hcut49; have HR162 := Aside0.mk hr49; have HC162 := Aside0.mk (show y159.length ≤ c49 from by rw [hy49, hc49]; exact Nat.sub_le_sub_right hroom49 _); clear hr49 hC49 hroom49 hi049 hsz49 hc49; have KY49 := Aside0.mk hy49; have KA49 := Aside0.mk hA49; clear hy49 hA49; have KL49 := Aside0.mk (show (x8_3 : Int).toNat ≤ x6_2.length from by omega); replace q49 := eq_true q49) | ((with_reducible refine gate_builtin (b := .append) (xs := #[.tmp 81, .tmp 84]) rfl ?_); at_builtin; refine Kd.R_append_rows k32 (w0 := w) w.heap.size rfl (.tmp 81) (.tmp 84) 22 32 (.agg #[(.string ⟨#[]⟩), (.int .i64 0), (.int .i64 0), (.string ⟨#[]⟩)]) 48 rfl Try.underlying22 info32 rfl (by decide) (by decide) v157 y156 y159 _ _ _ (fun k_ => some k_ ≠ (.slice Ao43 x6_2.length co43 : Value).ownBlock) (fun _ => False) rfl rfl ?aO ?aR (fun _ _ h => h) (fun _ h => h.elim) ?aF ?aB ?aS ?aL ?_; (case aR => repeat (first | exact (by repeat (first | (with_reducible exact HR162.out) | (with_reducible refine Kd.C_alloc ?_ _) | (with_reducible refine Kd.C_drewN ?_ _) | (with_reducible refine Kd.C_drew ?_) | exact HR162.out)) | (with_reducible refine Kd.C_alloc ?_ _) | (with_reducible refine Kd.C_drewN ?_ _) | (with_reducible refine Kd.C_drew ?_))); (case aB => exact (by repeat (first | (with_reducible first | exact HB.out | apply below_alloc | apply pw_below_drewN | apply below_drew1) | exact HB.out))); (case aF => exact (fun k_ hk => Kd.fresh' (Kd.R_lt (by (with_reducible repeat (first | apply Kd.R_alloc | apply Kd.R_drewN | apply Kd.R_drew)); exact HO_6.out)) k_ hk)); (case aO => exact (by (with_reducible repeat (first | apply Kd.R_alloc | apply Kd.R_drewN | apply Kd.R_drew)); exact HO158.out)); (case aS => exact (below_size (by repeat (first | (with_reducible first | exact HB.out | apply below_alloc | apply pw_below_drewN | apply below_drew1) | exact HB.out)))); (case aL => have := LMc42.out; omega); intro v164 w50 ho hb hg hat; rw [← Ny163.out] at ho; have n0_ := Aside0.mk (Kd.R_after (ok := (fun _ => True)) (by (with_reducible repeat (first | apply Kd.R_alloc | apply Kd.R_drewN | apply Kd.R_drew)); exact HO_6.out) hg hat); have n1_ := Aside0.mk (hb); have n2_ := Aside0.mk ((show Kd.C k32 w50 Ao43 y148.length y148 from by rw [Ny148.out]; exact Kd.C_take (m := (x8_3 : Int).toNat) ((Kd.R_reads' (Kd.R_after (ok := (fun _ => True)) (by (with_reducible repeat (first | apply Kd.R_alloc | apply Kd.R_drewN | apply Kd.R_drew)); exact HO_6.out) hg hat)).2.2) KL46.out)); have n3_ := Aside0.mk ((show Kd.C k32 w50 A49 y159.length y159 from by rw [Ny159.out, KA49.out]; exact Kd.C_drop (m := (x8_3 : Int).toNat) (c := co43) ((Kd.R_reads' (Kd.R_after (ok := (fun _ => True)) (by (with_reducible repeat (first | apply Kd.R_alloc | apply Kd.R_drewN | apply Kd.R_drew)); exact HO_6.out) hg hat)).2.2) KL49.out ((Kd.R_reads' (Kd.R_after (ok := (fun _ => True)) (by (with_reducible repeat (first | apply Kd.R_alloc | apply Kd.R_drewN | apply Kd.R_drew)); exact HO_6.out) hg hat)).2.1))); have n4_ := Aside0.mk (ho); clear HO_6; clear HB; clear HR151; clear HR162; clear HO158; have HO_6 := n0_; have HB := n1_; have HR151 := n2_; have HR162 := n3_; have HO165 := n4_; clear n0_ n1_ n2_ n3_ n4_; clear ho hb hg hat))
                                    repeat (go_quiet (first | ((with_reducible refine gate_dst (N := 69) rfl ?_); refine Kd.R_lit k32 _ 32 ?hg (N := 69) ?hd (xs := ([] : List (S32))) (inner := []) (ok := fun _ => True) (okp := fun _ => True) ?hr ?hp (fun _ hk => hk) trivial (Below.refl _ _) (Nat.le_refl _) (by simp) ?_; (case hd => rfl); (case hg => rfl); (case hr => first | (go_simp; done) | (go_simp; rfl)); (case hp => exact (Reps.none _ _)); intro v146 w44 ho45 hb hg_ hnew_; clear hg_ hnew_; (first | rw [← Ny145.out] at ho45 | (simp only [Int.reduceToNat] at ho45; rw [← Ny145.out] at ho45)); have n0_ := Aside0.mk (Kd.R_elder' (by (with_reducible repeat (first | apply Kd.R_alloc | apply Kd.R_drewN | apply Kd.R_drew)); exact HO_6.out) (Kd.R_base ho45) hb); have n1_ := Aside0.mk (Kd.R_lower (Kd.R_new' ho45 (Kd.R_lt (by (with_reducible repeat (first | apply Kd.R_alloc | apply Kd.R_drewN | apply Kd.R_drew)); exact HO_6.out))) (below_size (by repeat (first | (with_reducible first | exact HB.out | apply below_alloc | apply pw_below_drewN | apply below_drew1) | exact HB.out)))); have n2_ := Aside0.mk (below_step (by repeat (first | (with_reducible first | exact HB.out | apply below_alloc | apply pw_below_drewN | apply below_drew1) | exact HB.out)) hb); clear HO_6; clear HB; have HO_6 := n0_; have HO147 := n1_; have HB := n2_; clear n0_ n1_ n2_; clear hb ho45; have q46 : (x8_3 : Int) ≤ ((x6_2.length : Int) : Int) := of_decide_eq_true (by first | (with_reducible assumption) | assumption); obtain ⟨i046, hi046, _, hsz46, _⟩ := info_parts info32; have hroom46 : x6_2.length ≤ co43 := (Kd.R_reads' HO_6.out).2.1; have hC46 : Kd.C k32 _ Ao43 x6_2.length x6_2 := (Kd.R_reads' HO_6.out).2.2; have hcut46 := cut_to (P := Try.prog) 22 32 .i64 Try.underlying22 hi046 Ao43 x6_2.length co43 x8_3 (of_decide_eq_true (by first | (with_reducible assumption) | assumption)) q46 hroom46; have hr46 := Kd.C_take (m := (x8_3 : Int).toNat) hC46 (by omega); have hy46 : y148.length = (x8_3 : Int).toNat := (by rw [Ny148.out, List.length_take]; omega); rw [← Ny148.out] at hr46; rw [← hy46] at hcut46; have HR151 := Aside0.mk hr46; have HC151 := Aside0.mk (show y148.length ≤ co43 from by omega); clear hr46 hC46 hroom46 hi046 hsz46; have KY46 := Aside0.mk hy46; clear hy46; have KL46 := Aside0.mk (show (x8_3 : Int).toNat ≤ x6_2.length from by omega); replace q46 := eq_true q46) | ((with_reducible refine gate_builtin (b := .append) (xs := #[.tmp 69, .tmp 72]) rfl ?_); at_builtin; refine Kd.R_append_rows k32 (w0 := w) w.heap.size rfl (.tmp 69) (.tmp 72) 22 32 (.agg #[(.string ⟨#[]⟩), (.int .i64 0), (.int .i64 0), (.string ⟨#[]⟩)]) 48 rfl Try.underlying22 info32 rfl (by decide) (by decide) v146 y145 y148 _ _ _ (fun k_ => some k_ ≠ (.slice Ao43 x6_2.length co43 : Value).ownBlock) (fun _ => False) rfl rfl ?aO ?aR (fun _ _ h => h) (fun _ h => h.elim) ?aF ?aB ?aS ?aL ?_; (case aR => repeat (first | exact (by repeat (first | (with_reducible exact HR151.out) | (with_reducible refine Kd.C_alloc ?_ _) | (with_reducible refine Kd.C_drewN ?_ _) | (with_reducible refine Kd.C_drew ?_) | exact HR151.out)) | (with_reducible refine Kd.C_alloc ?_ _) | (with_reducible refine Kd.C_drewN ?_ _) | (with_reducible refine Kd.C_drew ?_))); (case aB => exact (by repeat (first | (with_reducible first | exact HB.out | apply below_alloc | apply pw_below_drewN | apply below_drew1) | exact HB.out))); (case aF => exact (fun k_ hk => Kd.fresh' (Kd.R_lt (by (with_reducible repeat (first | apply Kd.R_alloc | apply Kd.R_drewN | apply Kd.R_drew)); exact HO_6.out)) k_ hk)); (case aO => exact (by (with_reducible repeat (first | apply Kd.R_alloc | apply Kd.R_drewN | apply Kd.R_drew)); exact Kd.R_mono HO147.out (fun _ hk => hk.2))); (case aS => exact (below_size (by repeat (first | (with_reducible first | exact HB.out | apply below_alloc | apply pw_below_drewN | apply below_drew1) | exact HB.out)))); (case aL => have := LMc36.out; omega); intro v153 w47 ho hb hg hat; rw [← Ny152.out] at ho; have n0_ := Aside0.mk (Kd.R_after (ok := (fun _ => True)) (by (with_reducible repeat (first | apply Kd.R_alloc | apply Kd.R_drewN | apply Kd.R_drew)); exact HO_6.out) hg hat); have n1_ := Aside0.mk (hb); have n2_ := Aside0.mk ((show Kd.C k32 w47 Ao43 y148.length y148 from by rw [Ny148.out]; exact Kd.C_take (m := (x8_3 : Int).toNat) ((Kd.R_reads' (Kd.R_after (ok := (fun _ => True)) (by (with_reducible repeat (first | apply Kd.R_alloc | apply Kd.R_drewN | apply Kd.R_drew)); exact HO_6.out) hg hat)).2.2) KL46.out)); have n3_ := Aside0.mk (ho); clear HO_6; clear HB; clear HR151; clear HO147; have HO_6 := n0_; have HB := n1_; have HR151 := n2_; have HO154 := n3_; clear n0_ n1_ n2_ n3_; clear ho hb hg hat; have p155 : 0 ≤ (x7_2 : Int) := of_decide_eq_true (by first | (with_reducible assumption) | assumption); have q155 : x7_2 < (l0.length : Int) := of_decide_eq_true (by first | (with_reducible assumption) | assumption); obtain ⟨ad155, e155, hx155_0, hx155_1, hx155_2, hx155_3⟩ := at_T32 HR0.out x7_2 p155 q155; cases e155; replace hx155_0 := (HB.out.cell (World.block_lt_of_cell? w _ hx155_0)).trans hx155_0; replace hx155_1 := (HB.out.cell (World.block_lt_of_cell? w _ hx155_1)).trans hx155_1; replace hx155_2 := (HB.out.cell (World.block_lt_of_cell? w _ hx155_2)).trans hx155_2; replace hx155_3 := (HB.out.cell (World.block_lt_of_cell? w _ hx155_3)).trans hx155_3; replace p155 := eq_true p155; replace q155 := eq_true q155) | ((with_reducible refine gate_builtin (b := .append) (xs := #[.tmp 74, .tmp 79]) rfl ?_); at_builtin; refine Kd.R_append k32 (w0 := w) w.heap.size rfl (.tmp 74) (.tmp 79) 22 32 (.agg #[(.string ⟨#[]⟩), (.int .i64 0), (.int .i64 0), (.string ⟨#[]⟩)]) 48 rfl Try.underlying22 info32 rfl (by decide) (by decide) v153 y152 (⟨(rd_T32 l0 x7_2).f0, (⟨(rd_T32 l0 x7_2).f1.f0, (rd_T32 l0 x7_2).f1.f1, (rd_T32 l0 x7_2).f1.f2⟩ : S30)⟩ : S32) [.string ((rd_T32 l0 x7_2).f0), .int .i64 ((rd_T32 l0 x7_2).f1.f0), .int .i64 ((rd_T32 l0 x7_2).f1.f1), .string ((rd_T32 l0 x7_2).f1.f2)] (fun k_ => some k_ ≠ (.slice Ao43 x6_2.length co43 : Value).ownBlock) (fun _ => False) rfl rfl ?aP (fun _ hk => hk.elim) ?aF ?aO ?aB ?aS ?aL ?_; (case aP => exact k32_mkM _ _ _ (⟨(rd_T32 l0 x7_2).f0, (⟨(rd_T32 l0 x7_2).f1.f0, (rd_T32 l0 x7_2).f1.f1, (rd_T32 l0 x7_2).f1.f2⟩ : S30)⟩ : S32)); (case aB => exact (by repeat (first | (with_reducible first | exact HB.out | apply below_alloc | apply pw_below_drewN | apply below_drew1) | exact HB.out))); (case aF => exact (fun k_ hk => Kd.fresh' (Kd.R_lt (by (with_reducible repeat (first | apply Kd.R_alloc | apply Kd.R_drewN | apply Kd.R_drew)); exact HO_6.out)) k_ hk)); (case aO => exact (by (with_reducible repeat (first | apply Kd.R_alloc | apply Kd.R_drewN | apply Kd.R_drew)); exact HO154.out)); (case aS => exact (below_size (by repeat (first | (with_reducible first | exact HB.out | apply below_alloc | apply pw_below_drewN | apply below_drew1) | exact HB.out)))); (case aL => have := LMc39.out; omega); intro v157 w48 ho hb hg hat; rw [← Ny156.out] at ho; have n0_ := Aside0.mk (Kd.R_after (ok := (fun _ => True)) (by (with_reducible repeat (first | apply Kd.R_alloc | apply Kd.R_drewN | apply Kd.R_drew)); exact HO_6.out) hg hat); have n1_ := Aside0.mk (hb); have n2_ := Aside0.mk ((show Kd.C k32 w48 Ao43 y148.length y148 from by rw [Ny148.out]; exact Kd.C_take (m := (x8_3 : Int).toNat) ((Kd.R_reads' (Kd.R_after (ok := (fun _ => True)) (by (with_reducible repeat (first | apply Kd.R_alloc | apply Kd.R_drewN | apply Kd.R_drew)); exact HO_6.out) hg hat)).2.2) KL46.out)); have n3_ := Aside0.mk (ho); clear HO_6; clear HB; clear HR151; clear HO154; have HO_6 := n0_; have HB := n1_; have HR151 := n2_; have HO158 := n3_; clear n0_ n1_ n2_ n3_; clear ho hb hg hat; have q49 : (x8_3 : Int) ≤ ((x6_2.length : Int) : Int) := of_decide_eq_true (by first | (with_reducible assumption) | assumption); obtain ⟨i049, hi049, _, hsz49, _⟩ := info_parts info32; have hroom49 : x6_2.length ≤ co43 := (Kd.R_reads' HO_6.out).2.1; have hC49 : Kd.C k32 _ Ao43 x6_2.length x6_2 := (Kd.R_reads' HO_6.out).2.2; have q049 : (0 : Int) ≤ (x8_3 : Int) := of_decide_eq_true (by first | (with_reducible assumption) | assumption); have hcut49 := cut_from (P := Try.prog) 22 32 .i64 Try.underlying22 hi049 4 hsz49 Ao43 x6_2.length co43 x8_3 q049 q49; have hr49 := Kd.C_drop (m := (x8_3 : Int).toNat) (c := co43) hC49 (by omega) hroom49; obtain ⟨A49, hA49⟩ : ∃ A1, A1 = (if co43 = (x8_3 : Int).toNat then Ao43 else (Ao43 : Option Addr).map (·.add ((x8_3 : Int).toNat * 4))) := ⟨_, rfl⟩; obtain ⟨c49, hc49⟩ : ∃ c1, c1 = co43 - (x8_3 : Int).toNat := ⟨_, rfl⟩; have hy49 : y159.length = x6_2.length - (x8_3 : Int).toNat := (by rw [Ny159.out, List.length_drop] <;> omega); rw [show (x6_2).drop (x8_3 : Int).toNat = y159 from Ny159.out.symm] at hr49; replace hr49 : Kd.C k32 _ A49 y159.length y159 := (by rw [hA49]; exact hr49); rw [← hy49, ← hA49, ← hc49] at hcut49; have HR162 := Aside0.mk hr49; have HC162 := Aside0.mk (show y159.length ≤ c49 from by rw [hy49, hc49]; exact Nat.sub_le_sub_right hroom49 _); clear hr49 hC49 hroom49 hi049 hsz49 hc49; have KY49 := Aside0.mk hy49; have KA49 := Aside0.mk hA49; clear hy49 hA49; have KL49 := Aside0.mk (show (x8_3 : Int).toNat ≤ x6_2.length from by omega); replace q49 := eq_true q49) | ((with_reducible refine gate_builtin (b := .append) (xs := #[.tmp 81, .tmp 84]) rfl ?_); at_builtin; refine Kd.R_append_rows k32 (w0 := w) w.heap.size rfl (.tmp 81) (.tmp 84) 22 32 (.agg #[(.string ⟨#[]⟩), (.int .i64 0), (.int .i64 0), (.string ⟨#[]⟩)]) 48 rfl Try.underlying22 info32 rfl (by decide) (by decide) v157 y156 y159 _ _ _ (fun k_ => some k_ ≠ (.slice Ao43 x6_2.length co43 : Value).ownBlock) (fun _ => False) rfl rfl ?aO ?aR (fun _ _ h => h) (fun _ h => h.elim) ?aF ?aB ?aS ?aL ?_; (case aR => repeat (first | exact (by repeat (first | (with_reducible exact HR162.out) | (with_reducible refine Kd.C_alloc ?_ _) | (with_reducible refine Kd.C_drewN ?_ _) | (with_reducible refine Kd.C_drew ?_) | exact HR162.out)) | (with_reducible refine Kd.C_alloc ?_ _) | (with_reducible refine Kd.C_drewN ?_ _) | (with_reducible refine Kd.C_drew ?_))); (case aB => exact (by repeat (first | (with_reducible first | exact HB.out | apply below_alloc | apply pw_below_drewN | apply below_drew1) | exact HB.out))); (case aF => exact (fun k_ hk => Kd.fresh' (Kd.R_lt (by (with_reducible repeat (first | apply Kd.R_alloc | apply Kd.R_drewN | apply Kd.R_drew)); exact HO_6.out)) k_ hk)); (case aO => exact (by (with_reducible repeat (first | apply Kd.R_alloc | apply Kd.R_drewN | apply Kd.R_drew)); exact HO158.out)); (case aS => exact (below_size (by repeat (first | (with_reducible first | exact HB.out | apply below_alloc | apply pw_below_drewN | apply below_drew1) | exact HB.out)))); (case aL => have := LMc42.out; omega); intro v164 w50 ho hb hg hat; rw [← Ny163.out] at ho; have n0_ := Aside0.mk (Kd.R_after (ok := (fun _ => True)) (by (with_reducible repeat (first | apply Kd.R_alloc | apply Kd.R_drewN | apply Kd.R_drew)); exact HO_6.out) hg hat); have n1_ := Aside0.mk (hb); have n2_ := Aside0.mk ((show Kd.C k32 w50 Ao43 y148.length y148 from by rw [Ny148.out]; exact Kd.C_take (m := (x8_3 : Int).toNat) ((Kd.R_reads' (Kd.R_after (ok := (fun _ => True)) (by (with_reducible repeat (first | apply Kd.R_alloc | apply Kd.R_drewN | apply Kd.R_drew)); exact HO_6.out) hg hat)).2.2) KL46.out)); have n3_ := Aside0.mk ((show Kd.C k32 w50 A49 y159.length y159 from by rw [Ny159.out, KA49.out]; exact Kd.C_drop (m := (x8_3 : Int).toNat) (c := co43) ((Kd.R_reads' (Kd.R_after (ok := (fun _ => True)) (by (with_reducible repeat (first | apply Kd.R_alloc | apply Kd.R_drewN | apply Kd.R_drew)); exact HO_6.out) hg hat)).2.2) KL49.out ((Kd.R_reads' (Kd.R_after (ok := (fun _ => True)) (by (with_reducible repeat (first | apply Kd.R_alloc | apply Kd.R_drewN | apply Kd.R_drew)); exact HO_6.out) hg hat)).2.1))); have n4_ := Aside0.mk (ho); clear HO_6; clear HB; clear HR151; clear HR162; clear HO158; have HO_6 := n0_; have HB := n1_; have HR151 := n2_; have HR162 := n3_; have HO165 := n4_; clear n0_ n1_ n2_ n3_ n4_; clear ho hb hg hat)); try go_wp2_with (first | ((with_reducible refine gate_dst (N := 69) rfl ?_); refine Kd.R_lit k32 _ 32 ?hg (N := 69) ?hd (xs := ([] : List (S32))) (inner := []) (ok := fun _ => True) (okp := fun _ => True) ?hr ?hp (fun _ hk => hk) trivial (Below.refl _ _) (Nat.le_refl _) (by simp) ?_; (case hd => rfl); (case hg => rfl); (case hr => first | (go_simp; done) | (go_simp; rfl)); (case hp => exact (Reps.none _ _)); intro v146 w44 ho45 hb hg_ hnew_; clear hg_ hnew_; (first | rw [← Ny145.out] at ho45 | (simp only [Int.reduceToNat] at ho45; rw [← Ny145.out] at ho45)); have n0_ := Aside0.mk (Kd.R_elder' (by (with_reducible repeat (first | apply Kd.R_alloc | apply Kd.R_drewN | apply Kd.R_drew)); exact HO_6.out) (Kd.R_base ho45) hb); have n1_ := Aside0.mk (Kd.R_lower (Kd.R_new' ho45 (Kd.R_lt (by (with_reducible repeat (first | apply Kd.R_alloc | apply Kd.R_drewN | apply Kd.R_drew)); exact HO_6.out))) (below_size (by repeat (first | (with_reducible first | exact HB.out | apply below_alloc | apply pw_below_drewN | apply below_drew1) | exact HB.out)))); have n2_ := Aside0.mk (below_step (by repeat (first | (with_reducible first | exact HB.out | apply below_alloc | apply pw_below_drewN | apply below_drew1) | exact HB.out)) hb); clear HO_6; clear HB; have HO_6 := n0_; have HO147 := n1_; have HB := n2_; clear n0_ n1_ n2_; clear hb ho45; have q46 : (x8_3 : Int) ≤ ((x6_2.length : Int) : Int) := of_decide_eq_true (by first | (with_reducible assumption) | assumption); obtain ⟨i046, hi046, _, hsz46, _⟩ := info_parts info32; have hroom46 : x6_2.length ≤ co43 := (Kd.R_reads' HO_6.out).2.1; have hC46 : Kd.C k32 _ Ao43 x6_2.length x6_2 := (Kd.R_reads' HO_6.out).2.2; have hcut46 := cut_to (P := Try.prog) 22 32 .i64 Try.underlying22 hi046 Ao43 x6_2.length co43 x8_3 (of_decide_eq_true (by first | (with_reducible assumption) | assumption)) q46 hroom46; have hr46 := Kd.C_take (m := (x8_3 : Int).toNat) hC46 (by omega); have hy46 : y148.length = (x8_3 : Int).toNat := (by rw [Ny148.out, List.length_take]; omega); rw [← Ny148.out] at hr46; rw [← hy46] at hcut46; have HR151 := Aside0.mk hr46; have HC151 := Aside0.mk (show y148.length ≤ co43 from by omega); clear hr46 hC46 hroom46 hi046 hsz46; have KY46 := Aside0.mk hy46; clear hy46; have KL46 := Aside0.mk (show (x8_3 : Int).toNat ≤ x6_2.length from by omega); replace q46 := eq_true q46) | ((with_reducible refine gate_builtin (b := .append) (xs := #[.tmp 69, .tmp 72]) rfl ?_); at_builtin; refine Kd.R_append_rows k32 (w0 := w) w.heap.size rfl (.tmp 69) (.tmp 72) 22 32 (.agg #[(.string ⟨#[]⟩), (.int .i64 0), (.int .i64 0), (.string ⟨#[]⟩)]) 48 rfl Try.underlying22 info32 rfl (by decide) (by decide) v146 y145 y148 _ _ _ (fun k_ => some k_ ≠ (.slice Ao43 x6_2.length co43 : Value).ownBlock) (fun _ => False) rfl rfl ?aO ?aR (fun _ _ h => h) (fun _ h => h.elim) ?aF ?aB ?aS ?aL ?_; (case aR => repeat (first | exact (by repeat (first | (with_reducible exact HR151.out) | (with_reducible refine Kd.C_alloc ?_ _) | (with_reducible refine Kd.C_drewN ?_ _) | (with_reducible refine Kd.C_drew ?_) | exact HR151.out)) | (with_reducible refine Kd.C_alloc ?_ _) | (with_reducible refine Kd.C_drewN ?_ _) | (with_reducible refine Kd.C_drew ?_))); (case aB => exact (by repeat (first | (with_reducible first | exact HB.out | apply below_alloc | apply pw_below_drewN | apply below_drew1) | exact HB.out))); (case aF => exact (fun k_ hk => Kd.fresh' (Kd.R_lt (by (with_reducible repeat (first | apply Kd.R_alloc | apply Kd.R_drewN | apply Kd.R_drew)); exact HO_6.out)) k_ hk)); (case aO => exact (by (with_reducible repeat (first | apply Kd.R_alloc | apply Kd.R_drewN | apply Kd.R_drew)); exact Kd.R_mono HO147.out (fun _ hk => hk.2))); (case aS => exact (below_size (by repeat (first | (with_reducible first | exact HB.out | apply below_alloc | apply pw_below_drewN | apply below_drew1) | exact HB.out)))); (case aL => have := LMc36.out; omega); intro v153 w47 ho hb hg hat; rw [← Ny152.out] at ho; have n0_ := Aside0.mk (Kd.R_after (ok := (fun _ => True)) (by (with_reducible repeat (first | apply Kd.R_alloc | apply Kd.R_drewN | apply Kd.R_drew)); exact HO_6.out) hg hat); have n1_ := Aside0.mk (hb); have n2_ := Aside0.mk ((show Kd.C k32 w47 Ao43 y148.length y148 from by rw [Ny148.out]; exact Kd.C_take (m := (x8_3 : Int).toNat) ((Kd.R_reads' (Kd.R_after (ok := (fun _ => True)) (by (with_reducible repeat (first | apply Kd.R_alloc | apply Kd.R_drewN | apply Kd.R_drew)); exact HO_6.out) hg hat)).2.2) KL46.out)); have n3_ := Aside0.mk (ho); clear HO_6; clear HB; clear HR151; clear HO147; have HO_6 := n0_; have HB := n1_; have HR151 := n2_; have HO154 := n3_; clear n0_ n1_ n2_ n3_; clear ho hb hg hat; have p155 : 0 ≤ (x7_2 : Int) := of_decide_eq_true (by first | (with_reducible assumption) | assumption); have q155 : x7_2 < (l0.length : Int) := of_decide_eq_true (by first | (with_reducible assumption) | assumption); obtain ⟨ad155, e155, hx155_0, hx155_1, hx155_2, hx155_3⟩ := at_T32 HR0.out x7_2 p155 q155; cases e155; replace hx155_0 := (HB.out.cell (World.block_lt_of_cell? w _ hx155_0)).trans hx155_0; replace hx155_1 := (HB.out.cell (World.block_lt_of_cell? w _ hx155_1)).trans hx155_1; replace hx155_2 := (HB.out.cell (World.block_lt_of_cell? w _ hx155_2)).trans hx155_2; replace hx155_3 := (HB.out.cell (World.block_lt_of_cell? w _ hx155_3)).trans hx155_3; replace p155 := eq_true p155; replace q155 := eq_true q155) | ((with_reducible refine gate_builtin (b := .append) (xs := #[.tmp 74, .tmp 79]) rfl ?_); at_builtin; refine Kd.R_append k32 (w0 := w) w.heap.size rfl (.tmp 74) (.tmp 79) 22 32 (.agg #[(.string ⟨#[]⟩), (.int .i64 0), (.int .i64 0), (.string ⟨#[]⟩)]) 48 rfl Try.underlying22 info32 rfl (by decide) (by decide) v153 y152 (⟨(rd_T32 l0 x7_2).f0, (⟨(rd_T32 l0 x7_2).f1.f0, (rd_T32 l0 x7_2).f1.f1, (rd_T32 l0 x7_2).f1.f2⟩ : S30)⟩ : S32) [.string ((rd_T32 l0 x7_2).f0), .int .i64 ((rd_T32 l0 x7_2).f1.f0), .int .i64 ((rd_T32 l0 x7_2).f1.f1), .string ((rd_T32 l0 x7_2).f1.f2)] (fun k_ => some k_ ≠ (.slice Ao43 x6_2.length co43 : Value).ownBlock) (fun _ => False) rfl rfl ?aP (fun _ hk => hk.elim) ?aF ?aO ?aB ?aS ?aL ?_; (case aP => exact k32_mkM _ _ _ (⟨(rd_T32 l0 x7_2).f0, (⟨(rd_T32 l0 x7_2).f1.f0, (rd_T32 l0 x7_2).f1.f1, (rd_T32 l0 x7_2).f1.f2⟩ : S30)⟩ : S32)); (case aB => exact (by repeat (first | (with_reducible first | exact HB.out | apply below_alloc | apply pw_below_drewN | apply below_drew1) | exact HB.out))); (case aF => exact (fun k_ hk => Kd.fresh' (Kd.R_lt (by (with_reducible repeat (first | apply Kd.R_alloc | apply Kd.R_drewN | apply Kd.R_drew)); exact HO_6.out)) k_ hk)); (case aO => exact (by (with_reducible repeat (first | apply Kd.R_alloc | apply Kd.R_drewN | apply Kd.R_drew)); exact HO154.out)); (case aS => exact (below_size (by repeat (first | (with_reducible first | exact HB.out | apply below_alloc | apply pw_below_drewN | apply below_drew1) | exact HB.out)))); (case aL => have := LMc39.out; omega); intro v157 w48 ho hb hg hat; rw [← Ny156.out] at ho; have n0_ := Aside0.mk (Kd.R_after (ok := (fun _ => True)) (by (with_reducible repeat (first | apply Kd.R_alloc | apply Kd.R_drewN | apply Kd.R_drew)); exact HO_6.out) hg hat); have n1_ := Aside0.mk (hb); have n2_ := Aside0.mk ((show Kd.C k32 w48 Ao43 y148.length y148 from by rw [Ny148.out]; exact Kd.C_take (m := (x8_3 : Int).toNat) ((Kd.R_reads' (Kd.R_after (ok := (fun _ => True)) (by (with_reducible repeat (first | apply Kd.R_alloc | apply Kd.R_drewN | apply Kd.R_drew)); exact HO_6.out) hg hat)).2.2) KL46.out)); have n3_ := Aside0.mk (ho); clear HO_6; clear HB; clear HR151; clear HO154; have HO_6 := n0_; have HB := n1_; have HR151 := n2_; have HO158 := n3_; clear n0_ n1_ n2_ n3_; clear ho hb hg hat; have q49 : (x8_3 : Int) ≤ ((x6_2.length : Int) : Int) := of_decide_eq_true (by first | (with_reducible assumption) | assumption); obtain ⟨i049, hi049, _, hsz49, _⟩ := info_parts info32; have hroom49 : x6_2.length ≤ co43 := (Kd.R_reads' HO_6.out).2.1; have hC49 : Kd.C k32 _ Ao43 x6_2.length x6_2 := (Kd.R_reads' HO_6.out).2.2; have q049 : (0 : Int) ≤ (x8_3 : Int) := of_decide_eq_true (by first | (with_reducible assumption) | assumption); have hcut49 := cut_from (P := Try.prog) 22 32 .i64 Try.underlying22 hi049 4 hsz49 Ao43 x6_2.length co43 x8_3 q049 q49; have hr49 := Kd.C_drop (m := (x8_3 : Int).toNat) (c := co43) hC49 (by omega) hroom49; obtain ⟨A49, hA49⟩ : ∃ A1, A1 = (if co43 = (x8_3 : Int).toNat then Ao43 else (Ao43 : Option Addr).map (·.add ((x8_3 : Int).toNat * 4))) := ⟨_, rfl⟩; obtain ⟨c49, hc49⟩ : ∃ c1, c1 = co43 - (x8_3 : Int).toNat := ⟨_, rfl⟩; have hy49 : y159.length = x6_2.length - (x8_3 : Int).toNat := (by rw [Ny159.out, List.length_drop] <;> omega); rw [show (x6_2).drop (x8_3 : Int).toNat = y159 from Ny159.out.symm] at hr49; replace hr49 : Kd.C k32 _ A49 y159.length y159 := (by rw [hA49]; exact hr49); rw [← hy49, ← hA49, ← hc49] at hcut49; have HR162 := Aside0.mk hr49; have HC162 := Aside0.mk (show y159.length ≤ c49 from by rw [hy49, hc49]; exact Nat.sub_le_sub_right hroom49 _); clear hr49 hC49 hroom49 hi049 hsz49 hc49; have KY49 := Aside0.mk hy49; have KA49 := Aside0.mk hA49; clear hy49 hA49; have KL49 := Aside0.mk (show (x8_3 : Int).toNat ≤ x6_2.length from by omega); replace q49 := eq_true q49) | ((with_reducible refine gate_builtin (b := .append) (xs := #[.tmp 81, .tmp 84]) rfl ?_); at_builtin; refine Kd.R_append_rows k32 (w0 := w) w.heap.size rfl (.tmp 81) (.tmp 84) 22 32 (.agg #[(.string ⟨#[]⟩), (.int .i64 0), (.int .i64 0), (.string ⟨#[]⟩)]) 48 rfl Try.underlying22 info32 rfl (by decide) (by decide) v157 y156 y159 _ _ _ (fun k_ => some k_ ≠ (.slice Ao43 x6_2.length co43 : Value).ownBlock) (fun _ => False) rfl rfl ?aO ?aR (fun _ _ h => h) (fun _ h => h.elim) ?aF ?aB ?aS ?aL ?_; (case aR => repeat (first | exact (by repeat (first | (with_reducible exact HR162.out) | (with_reducible refine Kd.C_alloc ?_ _) | (with_reducible refine Kd.C_drewN ?_ _) | (with_reducible refine Kd.C_drew ?_) | exact HR162.out)) | (with_reducible refine Kd.C_alloc ?_ _) | (with_reducible refine Kd.C_drewN ?_ _) | (with_reducible refine Kd.C_drew ?_))); (case aB => exact (by repeat (first | (with_reducible first | exact HB.out | apply below_alloc | apply pw_below_drewN | apply below_drew1) | exact HB.out))); (case aF => exact (fun k_ hk => Kd.fresh' (Kd.R_lt (by (with_reducible repeat (first | apply Kd.R_alloc | apply Kd.R_drewN | apply Kd.R_drew)); exact HO_6.out)) k_ hk)); (case aO => exact (by (with_reducible repeat (first | apply Kd.R_alloc | apply Kd.R_drewN | apply Kd.R_drew)); exact HO158.out)); (case aS => exact (below_size (by repeat (first | (with_reducible first | exact HB.out | apply below_alloc | apply pw_below_drewN | apply below_drew1) | exact HB.out)))); (case aL => have := LMc42.out; omega); intro v164 w50 ho hb hg hat; rw [← Ny163.out] at ho; have n0_ := Aside0.mk (Kd.R_after (ok := (fun _ => True)) (by (with_reducible repeat (first | apply Kd.R_alloc | apply Kd.R_drewN | apply Kd.R_drew)); exact HO_6.out) hg hat); have n1_ := Aside0.mk (hb); have n2_ := Aside0.mk ((show Kd.C k32 w50 Ao43 y148.length y148 from by rw [Ny148.out]; exact Kd.C_take (m := (x8_3 : Int).toNat) ((Kd.R_reads' (Kd.R_after (ok := (fun _ => True)) (by (with_reducible repeat (first | apply Kd.R_alloc | apply Kd.R_drewN | apply Kd.R_drew)); exact HO_6.out) hg hat)).2.2) KL46.out)); have n3_ := Aside0.mk ((show Kd.C k32 w50 A49 y159.length y159 from by rw [Ny159.out, KA49.out]; exact Kd.C_drop (m := (x8_3 : Int).toNat) (c := co43) ((Kd.R_reads' (Kd.R_after (ok := (fun _ => True)) (by (with_reducible repeat (first | apply Kd.R_alloc | apply Kd.R_drewN | apply Kd.R_drew)); exact HO_6.out) hg hat)).2.2) KL49.out ((Kd.R_reads' (Kd.R_after (ok := (fun _ => True)) (by (with_reducible repeat (first | apply Kd.R_alloc | apply Kd.R_drewN | apply Kd.R_drew)); exact HO_6.out) hg hat)).2.1))); have n4_ := Aside0.mk (ho); clear HO_6; clear HB; clear HR151; clear HR162; clear HO158; have HO_6 := n0_; have HB := n1_; have HR151 := n2_; have HR162 := n3_; have HO165 := n4_; clear n0_ n1_ n2_ n3_ n4_; clear ho hb hg hat)))
                                    go_roundg k3
                                    case measure => have := HK1.out; have := HK2.out; have := HK3.out; omega
                                    case rel => exact ⟨(y163), (wrap64 (x7_2 + 1)), (by first | rfl | (simp; done) | (simp [*]; done)), H', ⟨by have := HK1.out; have := HK2.out; have := HK3.out; omega⟩, ⟨by (with_reducible repeat (first | apply Kd.R_alloc | apply Kd.R_drewN | apply Kd.R_drew)); exact Kd.R_mono HO165.out (fun _ hk => trivial)⟩, ⟨by repeat (first | (with_reducible first | exact HB.out | apply below_alloc | apply pw_below_drewN | apply below_drew1) | exact HB.out)⟩⟩
                                  · rw [if_neg c42] at H
                                    exact absurd H (by simp)
                                · rw [if_neg c39] at H
                                  exact absurd H (by simp)
                              · rw [if_neg c38] at H
                                exact absurd H (by simp)
                            · rw [if_neg c37] at H
                              exact absurd H (by simp)
                          · rw [if_neg c36] at H
                            exact absurd H (by simp)
                        · rw [if_neg c35] at H
                          exact absurd H (by simp)
                      · rw [if_neg c34] at H
                        exact absurd H (by simp)
              · rw [if_neg c9] at H
                have c9b0 : decide (x7_2 < (l0.length : Int)) = false := decide_eq_false c9
                clear c9
                simp only [Option.some.injEq, Prod.mk.injEq] at H
                obtain ⟨rfl, rfl⟩ := H
                go_wp2
                repeat (go_quiet (fail); try go_wp2)
                go_ret2
                exact ⟨_, by first | rfl | (simp [errW_none, errW_some] <;> rfl) | (simp [*, errW_none, errW_some] <;> rfl), by (with_reducible repeat (first | apply Kd.R_alloc | apply Kd.R_drewN | apply Kd.R_drew)); exact HO_6.out, by repeat (first | (with_reducible first | exact HB.out | apply below_alloc | apply pw_below_drewN | apply below_drew1) | exact HB.out)⟩

end Go.Proofs.Ytmbpgebboppkmaa.G
end

section
/- the reference: what is made of attributes; plain laws -/
set_option linter.unusedVariables false
set_option linter.unusedSimpArgs false
set_option autoImplicit false
namespace Go.Proofs.Ytmbpgebboppkmaa
open Go Go.RowKit Go.Shelf Go.Sort Go.Proofs.YtmbpgebboppkmaaW.PrintWords Go.Proofs.YtmbpgebboppkmaaW.PrintLast Go.Proofs.Ytmbpgebboppkmaa.G

def insO (x : S32) : List S32 → Option (List S32)
  | [] => some [x]
  | a :: l => if Lib.compareBytes a.f0.data.toList x.f0.data.toList < 0 then (insO x l).map (a :: ·) else if a.f0.toList = x.f0.toList then none else some (x :: a :: l)
def mkO : List S32 → List S32 → List S32 × Int
  | out, [] => (out, 0)
  | out, x :: l => match insO x out with
    | none => ([], 8)
    | some o => mkO o l
theorem insO_len (x : S32) : ∀ l o, insO x l = some o → o.length = l.length + 1 := by
  intro l
  induction l with
  | nil => intro o h; rw [insO] at h; rw [← Option.some.inj h]; rfl
  | cons a l ih =>
    intro o h
    rw [insO] at h
    split at h
    · obtain ⟨o2, h2, rfl⟩ := Option.map_eq_some_iff.1 h
      simp [ih o2 h2]
    · split at h
      · cases h
      · rw [← Option.some.inj h]; rfl
def nextO (j : List S32) (l : List S32) : Option (List S32) → List S32 × Int
  | none => ([], 8)
  | some o => mkO (j ++ o) l
theorem make_l2 {l : List S32} (hg : GoodA l) (h24 : l.length ≤ 24) (i : Nat) (hi : i < l.length)
    (ih : ∀ out : List S32, out.length ≤ i + 1 → (∀ a ∈ out, a ∈ l) → Ev fun k => rosetteref05_Make.l1 k l out ((i + 1 : Nat) : Int) = some (mkO out (l.drop (i + 1))))
    (out : List S32) (ho : out.length ≤ i) (hin : ∀ a ∈ out, a ∈ l) : ∀ (d j : Nat), j + d = out.length → Ev fun k => rosetteref05_Make.l2 k l out (i : Int) (j : Int) = some (nextO (out.take j) (l.drop (i + 1)) (insO l[i] (out.drop j))) := by
  have hx : (⟨l[i].f0, (⟨l[i].f1.f0, l[i].f1.f1, l[i].f1.f2⟩ : S30)⟩ : S32) = l[i] := rfl
  intro d
  induction d with
  | zero =>
    intro j hj
    have hjo : j = out.length := by omega
    subst hjo
    refine (ih (out ++ [l[i]]) (by simp; omega) (fun a ha => ?_)).succ fun k hk => ?_
    · rcases List.mem_append.1 ha with h | h
      · exact hin a h
      · rw [List.mem_singleton] at h; subst h; exact List.getElem_mem hi
    · simp only [rosetteref05_Make.l2]
      rw [if_neg (by omega)]
      simp only [Option.bind_some, Int.toNat_natCast, List.take_length, List.drop_length, List.nil_append, List.append_nil, List.length_nil, Nat.zero_add, Nat.add_zero]
      rw [if_pos (by omega), if_pos (by omega), if_pos (by omega), if_pos (by omega), if_pos (by omega), if_pos (by omega), if_pos (by simp; omega), rdA l i hi, hx, w_next i (by omega), hk]
      rfl
  | succ d ihd =>
    intro j hj
    have hjl : j < out.length := by omega
    have hjm := hin _ (List.getElem_mem hjl)
    have hs : out[j].f0.size < 9223372036854775807 := by have := (hg.2 _ hjm).1; omega
    have hd : out.drop j = out[j] :: out.drop (j + 1) := List.drop_eq_getElem_cons hjl
    have ht := text_ev out[j].f0 l[i].f0 hs
    refine (Ev.and (Ev.and (ihd (j + 1) (by omega)) ht) (ih (out.take j ++ l[i] :: out.drop j) (by simp; omega) (fun a ha => ?_))).succ fun k hk => ?_
    · rcases List.mem_append.1 ha with h | h
      · exact hin a (List.mem_of_mem_take h)
      · rcases List.mem_cons.1 h with rfl | h
        · exact List.getElem_mem hi
        · exact hin a (List.mem_of_mem_drop h)
    · obtain ⟨⟨hk1, hk2⟩, hk3⟩ := hk
      simp only [rosetteref05_Make.l2]
      rw [if_pos (by omega), if_pos (by omega), if_pos (by omega), if_pos (by omega), rdA l i hi, rdA out j hjl, hk2, Option.bind_some, hd, insO]
      by_cases hc : Lib.compareBytes out[j].f0.data.toList l[i].f0.data.toList < 0
      · rw [if_pos hc, if_pos hc, w_next j (by omega), hk1]
        cases insO l[i] (out.drop (j + 1)) with
        | none => rfl
        | some o =>
          show some (mkO _ _) = some (mkO _ _)
          rw [List.take_succ_eq_append_getElem hjl, List.append_assoc]
          rfl
      · rw [if_neg hc, if_neg hc]
        by_cases he : out[j].f0.toList = l[i].f0.toList
        · rw [if_pos he, if_pos he]; rfl
        · rw [if_neg he, if_neg he]
          simp only [Option.bind_some, Int.toNat_natCast, List.nil_append, List.length_nil, Nat.zero_add]
          have h1 : (out.take j).length = j := by rw [List.length_take]; omega
          have h2 : (out.drop j).length = out.length - j := by rw [List.length_drop]
          rw [if_pos (by omega), if_pos (by omega), if_pos (by omega), if_pos (by rw [List.length_append, h1, h2]; simp; omega), hx, w_next i (by omega), List.append_assoc, ← hd]
          rw [List.singleton_append, hk3]
          rfl
theorem make_l1 {l : List S32} (hg : GoodA l) (h24 : l.length ≤ 24) : ∀ (d i : Nat), i + d = l.length → ∀ out : List S32, out.length ≤ i → (∀ a ∈ out, a ∈ l) → Ev fun k => rosetteref05_Make.l1 k l out (i : Int) = some (mkO out (l.drop i)) := by
  intro d
  induction d with
  | zero =>
    intro i hi out ho hin
    refine Ev.now fun k => ?_
    simp only [rosetteref05_Make.l1]
    rw [if_neg (by omega), List.drop_eq_nil_of_le (by omega), mkO]
  | succ d ih =>
    intro i hi out ho hin
    have hlt : i < l.length := by omega
    refine (make_l2 hg h24 i hlt (ih (i + 1) (by omega)) out ho hin out.length 0 (by omega)).succ fun k hk => ?_
    simp only [rosetteref05_Make.l1]
    rw [if_pos (by omega)]
    refine hk.trans ?_
    rw [List.drop_zero, List.take_zero, List.drop_eq_getElem_cons hlt, mkO]
    cases insO l[i] out with
    | none => rfl
    | some o => rfl
theorem make_l0 {l : List S32} (hg : GoodA l) (h24 : l.length ≤ 24) : ∀ (d i : Nat), i + d = l.length → Ev fun k => rosetteref05_Make.l0 k l (i : Int) = some (if (l.drop i).any wrongA = true then ([], 1) else mkO [] l) := by
  intro d
  induction d with
  | zero =>
    intro i hi
    refine (make_l1 hg h24 l.length 0 (by omega) [] (Nat.zero_le _) (fun a ha => by cases ha)).succ fun k hk => ?_
    simp only [rosetteref05_Make.l0]
    rw [if_neg (by omega), List.drop_eq_nil_of_le (by omega)]
    exact hk
  | succ d ih =>
    intro i hi
    have hlt : i < l.length := by omega
    refine (ih (i + 1) (by omega)).succ fun k hk => ?_
    simp only [rosetteref05_Make.l0]
    rw [if_pos (by omega), if_pos (by omega), rdA l i hlt, one_ev hg i hlt, Option.bind_some, List.drop_eq_getElem_cons hlt, List.any_cons]
    cases hw : wrongA l[i] with
    | true => rfl
    | false => rw [if_pos (by decide), w_next i (by omega), hk, Bool.false_or]
/-! ### insertion, and a name twice -/
theorem insO_in {x : S32} : ∀ {l : List S32}, OrdN l → (x.f0 ∈ l.map (fun a : S32 => a.f0) → insO x l = none) ∧ (¬ x.f0 ∈ l.map (fun a : S32 => a.f0) → insO x l = some (insN x l)) := by
  intro l
  induction l with
  | nil => intro _; exact ⟨fun h => (by cases h), fun _ => rfl⟩
  | cons a l ih =>
    intro ho
    obtain ⟨h1, h2⟩ := List.pairwise_cons.1 ho
    obtain ⟨i1, i2⟩ := ih h2
    rw [insO, insN, List.map_cons]
    by_cases hlt : Lib.compareBytes a.f0.data.toList x.f0.data.toList < 0
    · rw [if_pos hlt, if_pos ((ltN _ _).2 hlt)]
      have hne : ¬ x.f0 = a.f0 := by
        intro e
        rw [e, (cmpB_zero _ _).2 rfl] at hlt
        omega
      refine ⟨fun hm => ?_, fun hm => ?_⟩
      · rw [i1 ((List.mem_cons.1 hm).resolve_left hne)]; rfl
      · rw [i2 (fun h => hm (List.mem_cons_of_mem _ h))]; rfl
    · rw [if_neg hlt, if_neg (fun h => hlt ((ltN _ _).1 h))]
      by_cases he : a.f0.toList = x.f0.toList
      · rw [if_pos he]
        exact ⟨fun _ => rfl, fun hm => absurd (by rw [toL_inj he]; exact List.mem_cons_self ..) hm⟩
      · rw [if_neg he]
        refine ⟨fun hm => ?_, fun _ => rfl⟩
        exfalso
        rcases List.mem_cons.1 hm with h | h
        · exact he (by rw [h])
        · obtain ⟨y, hy, hyx⟩ := List.mem_map.1 h
          have h3 := (ltN_f _ _).1 (h1 y hy)
          rw [hyx] at h3
          have h4 := cmpB_neg x.f0.data.toList a.f0.data.toList
          have h5 := (cmpB_zero a.f0.data.toList x.f0.data.toList).1 (by omega)
          exact he (by rw [ByteArray.toList_eq, ByteArray.toList_eq]; exact h5)
theorem mkO_eq : ∀ (l out : List S32), OrdN out → (out.map (·.f0)).Nodup → mkO out l = if ((out ++ l).map (·.f0)).Nodup then (l.foldl (fun out x => insN x out) out, 0) else ([], 8) := by
  intro l
  induction l with
  | nil => intro out ho hn; rw [List.append_nil, if_pos hn]; rfl
  | cons x l ih =>
    intro out ho hn
    have hperm : ((out ++ x :: l).map (·.f0)).Perm ((insN x out ++ l).map (·.f0)) := by
      refine List.Perm.map _ ?_
      exact List.perm_middle.trans ((insN_perm x out).symm.append_right l)
    rw [mkO]
    by_cases hm : x.f0 ∈ out.map (·.f0)
    · rw [(insO_in ho).1 hm, if_neg]
      intro hh
      have h2 := (List.perm_middle (l₁ := out) (l₂ := l) (a := x)).map (·.f0)
      have h3 := h2.nodup_iff.1 hh
      rw [List.map_cons, List.nodup_cons] at h3
      exact h3.1 (by rw [List.map_append]; exact List.mem_append_left _ hm)
    · rw [(insO_in ho).2 hm]
      show mkO (insN x out) l = _
      rw [ih (insN x out) (insN_ord x out ho)]
      · rw [List.foldl_cons]
        by_cases hN : ((out ++ x :: l).map (·.f0)).Nodup
        · rw [if_pos hN, if_pos (hperm.nodup_iff.1 hN)]
        · rw [if_neg hN, if_neg (fun h => hN (hperm.nodup_iff.2 h))]
      · have h2 := (insN_perm x out).map (·.f0)
        rw [h2.nodup_iff, List.map_cons, List.nodup_cons]
        exact ⟨hm, hn⟩
theorem twice_iff (l : List S32) : twiceE l = false ↔ (l.map (·.f0)).Nodup := ⟨twice_nodup, nodup_twice⟩
theorem madeR (l : List S32) : (if 24 < l.length then ([], 4) else if l.any wrongA = true then ([], 1) else mkO [] l) = (madeL l, makeE l) := by
  unfold madeL makeE
  by_cases h24 : 24 < l.length
  · rw [if_pos h24, if_pos h24]; rfl
  · rw [if_neg h24, if_neg h24]
    by_cases hw : l.any wrongA = true
    · rw [if_pos hw, if_pos hw]; rfl
    · rw [if_neg hw, if_neg hw, mkO_eq l [] List.Pairwise.nil List.nodup_nil, List.nil_append]
      have ht := twice_iff l
      cases htw : twiceE l with
      | true => rw [if_neg (fun h => by rw [ht.2 h] at htw; cases htw)]; rfl
      | false => rw [if_pos (ht.1 htw)]; rfl
theorem mref_ev {l : List S32} (hg : GoodA l) : Ev fun k => rosetteref05_Make.f k l = some (madeL l, makeE l) := by
  rw [← madeR]
  by_cases h24 : 24 < l.length
  · refine Ev.now fun k => ?_
    unfold rosetteref05_Make.f
    rw [if_pos (by omega), if_pos h24]
  · rw [if_neg h24]
    refine (make_l0 hg (by omega) l.length 0 (by omega)).mono fun k hk => ?_
    unfold rosetteref05_Make.f
    rw [if_neg (by omega)]
    exact hk
end Go.Proofs.Ytmbpgebboppkmaa
end

section
/- the reference: an event is the same as itself; plain laws -/
set_option linter.unusedVariables false
set_option linter.unusedSimpArgs false
set_option autoImplicit false
namespace Go.Proofs.Ytmbpgebboppkmaa
open Go Go.RowKit Go.Proofs.YtmbpgebboppkmaaW.PrintWords Go.Proofs.YtmbpgebboppkmaaW.PrintLast Go.Proofs.Ytmbpgebboppkmaa.G

theorem same_go (l : List S32) (hl : l.length ≤ 4611686018427387904) : ∀ (d i : Nat), i + d = l.length → Ev fun k => rosetteref05_Same.l0 k l l (i : Int) = some true := by
  intro d
  induction d with
  | zero =>
    intro i hi
    refine Ev.now fun k => ?_
    simp only [rosetteref05_Same.l0]
    rw [if_neg (by omega)]
  | succ d ih =>
    intro i hi
    refine (ih (i + 1) (by omega)).succ fun k hk => ?_
    simp only [rosetteref05_Same.l0]
    rw [if_pos (by omega), if_pos (by omega), if_pos (by omega), if_neg (by simp), w_next i (by omega)]
    exact hk
theorem same_ev (l : List S32) (hl : l.length ≤ 4611686018427387904) : Ev fun k => rosetteref05_Same.f k l l = some true :=
  (same_go l hl l.length 0 (by omega)).mono fun k hk => by unfold rosetteref05_Same.f; rw [if_pos rfl]; exact hk
end Go.Proofs.Ytmbpgebboppkmaa
end

section
/- what the laws of events ask of the functions; plain laws -/
set_option linter.unusedVariables false
set_option linter.unusedSimpArgs false
set_option autoImplicit false
namespace Go.Proofs.Ytmbpgebboppkmaa
open Go Go.RowKit Go.Shelf Go.Sort Go.Proofs.YtmbpgebboppkmaaW.PrintWords Go.Proofs.YtmbpgebboppkmaaW.PrintLast Go.Proofs.Ytmbpgebboppkmaa.G

def NamesOk (l : List S32) : Prop := ∀ x ∈ l, x.f0.size ≤ maxLen
theorem names_of {l : List S32} (h : GoodA l) : NamesOk l := fun a ha => by have := (h.2 a ha).1; simp only [maxLen]; omega
theorem names_perm {l m : List S32} (h : NamesOk l) (hp : m.Perm l) : NamesOk m := fun a ha => h a (hp.mem_iff.1 ha)
theorem make_ff {l : List S32} (h : NamesOk l) : event_Make.f l = some (madeL l, makeE l) := if_pos h
theorem right_ff {l : List S32} (h : NamesOk l) : event_Right.f l = some (rightE l) := if_pos h
theorem few_any {l : List S32} (hg : GoodA l) : Ev fun k => ∃ b, rosettelaw05_Few.f k l = some b ∧ (b = true → l.length ≤ 40) := by
  refine ⟨l.length + 1, fun k hk => ?_⟩
  exact few5_go l (by have := hg.1.2; omega) l.length k 0 (by omega) (by omega)
theorem makeE_0 (l : List S32) : makeE l = 0 ↔ l.length ≤ 24 ∧ l.any wrongA = false ∧ (l.map (·.f0)).Nodup := by
  unfold makeE
  rw [← twice_iff]
  by_cases h24 : 24 < l.length
  · rw [if_pos h24]
    exact ⟨fun h => absurd h (by decide), fun h => absurd h.1 (by omega)⟩
  · rw [if_neg h24]
    cases hw : l.any wrongA with
    | true => rw [if_pos rfl]; exact ⟨fun h => absurd h (by decide), fun h => absurd h.2.1 (by decide)⟩
    | false =>
      cases ht : twiceE l with
      | true => exact ⟨fun h => absurd h (by decide), fun h => absurd h.2.2 (by decide)⟩
      | false => exact ⟨fun _ => ⟨by omega, rfl, rfl⟩, fun _ => rfl⟩
theorem any_perm {l m : List S32} (hp : m.Perm l) (p : S32 → Bool) : m.any p = l.any p := by
  rw [Bool.eq_iff_iff, List.any_eq_true, List.any_eq_true]
  exact ⟨fun ⟨x, h, hx⟩ => ⟨x, hp.mem_iff.1 h, hx⟩, fun ⟨x, h, hx⟩ => ⟨x, hp.mem_iff.2 h, hx⟩⟩
theorem makeE_perm {l m : List S32} (hp : m.Perm l) : makeE m = makeE l := by
  have ht : twiceE m = twiceE l := by
    rw [Bool.eq_iff_iff]
    have h1 := twice_iff m
    have h2 := twice_iff l
    have h3 := (hp.map (fun a : S32 => a.f0)).nodup_iff
    cases hm : twiceE m with
    | true =>
      cases hl : twiceE l with
      | true => rfl
      | false => rw [h1.2 (h3.2 (h2.1 hl))] at hm; cases hm
    | false =>
      rw [h2.2 (h3.1 (h1.1 hm))]
  unfold makeE
  rw [hp.length_eq, any_perm hp, ht]
theorem madeL_perm {l m : List S32} (hp : m.Perm l) : madeL m = madeL l := by
  unfold madeL
  rw [makeE_perm hp]
  by_cases h : makeE l = 0
  · rw [if_pos h, if_pos h]
    exact ord_one (make_nodup h) ((srtN_perm m).trans hp) (srtN_ord m)
  · rw [if_neg h, if_neg h]
theorem made_perm {l : List S32} (h : makeE l = 0) : (madeL l).Perm l := by unfold madeL; rw [if_pos h]; exact srtN_perm l
theorem made_ord {l : List S32} (h : makeE l = 0) : OrdN (madeL l) := by unfold madeL; rw [if_pos h]; exact srtN_ord l
theorem made_made {l : List S32} (h : makeE l = 0) : makeE (madeL l) = 0 ∧ madeL (madeL l) = madeL l := ⟨(makeE_perm (made_perm h)).trans h, madeL_perm (made_perm h)⟩
theorem made_right {l : List S32} (h : makeE l = 0) : rightE (madeL l) = true := by
  obtain ⟨h1, h2, h3⟩ := (makeE_0 (madeL l)).1 (made_made h).1
  exact (right_iff _).2 ⟨h1, h2, made_ord h, h3⟩
theorem right_made {l : List S32} (h : rightE l = true) : makeE l = 0 := by
  obtain ⟨h1, h2, h3, h4⟩ := (right_iff l).1 h
  exact (makeE_0 l).2 ⟨h1, h2, h4⟩
end Go.Proofs.Ytmbpgebboppkmaa
end

section
/- The statement EventOrders over numbers and lists: in whatever order attributes are handed in, one event is made of them. -/
set_option linter.unusedVariables false
namespace Go.Proofs.Ytmbpgebboppkmaa.Pure
open Go.RowKit Go.Proofs.Ytmbpgebboppkmaa Go.Proofs.Ytmbpgebboppkmaa.G Go.Proofs.YtmbpgebboppkmaaW.PrintWords Go.Proofs.YtmbpgebboppkmaaW.PrintLast

theorem orders_l1 {l : List S32} (hg : GoodA l) (h0 : makeE l = 0) : ∀ (d i : Nat), i + d = l.length → Ev fun k => rosettelaw05_EventOrders.l1 k l true (madeL l) (madeL l) (madeL l) (i : Int) = some true := by
  have hl : l.length ≤ 4611686018427387904 := by have := hg.1.2; omega
  have hp := made_perm h0
  have hnm := names_perm (names_of hg) hp
  intro d
  induction d with
  | zero =>
    intro i hi
    refine (same_ev (madeL l) (by rw [hp.length_eq]; exact hl)).succ fun k hk => ?_
    simp only [rosettelaw05_EventOrders.l1]
    rw [if_neg (by omega), make_ff hnm, Option.bind_some, (made_made h0).1, (made_made h0).2, if_pos trivial, hk, Option.bind_some, if_pos rfl, Option.bind_some, if_pos rfl, Option.bind_some, if_pos rfl, if_pos rfl, right_ff hnm, Option.bind_some, made_right h0, if_pos rfl, hp.length_eq]
    simp
  | succ d ih =>
    intro i hi
    have hlt : i < l.length := by omega
    refine (ih (i + 1) (by omega)).succ fun k hk => ?_
    have hmem : l[i] ∈ madeL l := hp.mem_iff.2 (List.getElem_mem hlt)
    have hnd := ((makeE_0 (madeL l)).1 (made_made h0).1).2.2
    simp only [rosettelaw05_EventOrders.l1]
    rw [if_pos (by omega), if_pos (by omega), rdA l i hlt, get_mem hnd hmem, Option.bind_some, if_pos rfl, if_neg (by simp), w_next i (by omega)]
    exact hk
theorem orders_j2 {l : List S32} (hg : GoodA l) : Ev fun k => rosettelaw05_EventOrders.j2 k l true (madeL l) (makeE l) (madeL l) (madeL l) false = some true := by
  by_cases h0 : makeE l = 0
  · refine (orders_l1 hg h0 l.length 0 (by omega)).succ fun k hk => ?_
    simp only [rosettelaw05_EventOrders.j2]
    rw [if_neg (by decide), if_pos h0]
    exact hk
  · refine Ev.now fun k => ?_
    have hm : madeL l = [] := by unfold madeL; rw [if_neg h0]
    simp only [rosettelaw05_EventOrders.j2]
    rw [if_neg (by decide), if_neg h0, hm]
    rfl
theorem rev_step (l : List S32) (i : Nat) (hi : i < l.length) : (l.drop (i + 1)).reverse ++ [l[i]] = (l.drop i).reverse := by
  rw [List.drop_eq_getElem_cons hi, List.reverse_cons]
theorem orders_l0 {l : List S32} (hg : GoodA l) (h40 : l.length ≤ 40) (c : Nat) (hc : c ≤ l.length) : ∀ (i : Nat), i ≤ l.length → Ev fun k => rosettelaw05_EventOrders.l0 k l (c : Int) true (l.drop i).reverse ((i : Int) - 1) = some true := by
  intro i
  induction i with
  | zero =>
    intro _
    refine (orders_j2 hg).succ fun k hk => ?_
    have hn := names_of hg
    have h1 : l.reverse.Perm l := List.reverse_perm l
    have h2 : (l.drop c ++ l.take c).Perm l := by
      have := List.perm_append_comm (l₁ := l.drop c) (l₂ := l.take c)
      rwa [List.take_append_drop] at this
    have h3 : (l.drop c).length ≤ 40 := by rw [List.length_drop]; omega
    have h4 : (l.take c).length ≤ 40 := by rw [List.length_take]; omega
    simp only [rosettelaw05_EventOrders.l0]
    rw [if_neg (by omega), List.drop_zero, make_ff hn, Option.bind_some, make_ff (names_perm hn h1), Option.bind_some, Option.bind_some, if_pos (by omega), if_pos (by omega), Int.toNat_natCast, Option.bind_some, if_pos (by simp only [List.length_nil]; omega), Option.bind_some, Option.bind_some, List.nil_append, if_pos (by omega), make_ff (names_perm hn h2), Option.bind_some]
    simp only [makeE_perm h1, makeE_perm h2, madeL_perm h1, madeL_perm h2]
    rw [if_pos trivial, if_pos trivial]
    by_cases h0 : makeE l = 0
    · rw [if_pos h0]; exact hk
    · rw [if_neg h0]
      have hm : (((madeL l).length : Int) != 0) = false := by unfold madeL; rw [if_neg h0]; rfl
      rw [hm]
      exact hk
  | succ i ih =>
    intro hi
    refine (ih (by omega)).succ fun k hk => ?_
    have e1 : ((i + 1 : Nat) : Int) - 1 = (i : Int) := by omega
    have hw : wrap64 ((i : Int) - 1) = (i : Int) - 1 := by unfold wrap64; omega
    have hx : (⟨l[i].f0, (⟨l[i].f1.f0, l[i].f1.f1, l[i].f1.f2⟩ : S30)⟩ : S32) = l[i] := rfl
    simp only [rosettelaw05_EventOrders.l0]
    rw [e1, if_pos (by omega), if_pos (by omega), if_pos (by omega), if_pos (by rw [List.length_reverse, List.length_drop]; omega), rdA l i (by omega), hx, rev_step l i (by omega), hw]
    exact hk
theorem orders_j0 {l : List S32} (hg : GoodA l) (h40 : l.length ≤ 40) (a : Int) : Ev fun k => (if a < 0 then rosettelaw05_EventOrders.j0 k l a true true else rosettelaw05_EventOrders.j0 k l a true (decide (a > (l.length : Int)))) = some true := by
  by_cases h : a < 0 ∨ a > l.length
  · refine Ev.now fun k => ?_
    by_cases h1 : a < 0
    · rw [if_pos h1]
      simp only [rosettelaw05_EventOrders.j0]
      rfl
    · rw [if_neg h1, decide_eq_true (h.resolve_left h1)]
      simp only [rosettelaw05_EventOrders.j0]
      rfl
  · obtain ⟨c, rfl⟩ : ∃ c : Nat, a = (c : Int) := ⟨a.toNat, by omega⟩
    refine (orders_l0 hg h40 c (by omega) l.length (Nat.le_refl _)).succ fun k hk => ?_
    rw [if_neg (by omega), decide_eq_false (by omega)]
    simp only [rosettelaw05_EventOrders.j0]
    rw [if_neg (by decide)]
    rw [List.drop_length, List.reverse_nil] at hk
    have hw : wrap64 ((l.length : Int) - 1) = (l.length : Int) - 1 := by unfold wrap64; omega
    rw [hw]
    exact hk
theorem EventOrders : rosettelaw05_EventOrders.Pure := by
  intro l0 a1 hg _
  have hg : GoodA l0 := hg
  by_cases h40 : l0.length ≤ 40
  · obtain ⟨K, hK⟩ := Ev.and (few_any hg) (Ev.and (orders_j0 hg h40 a1) (Ev.now (P := fun k => rosettelaw05_EventOrders.j0 k l0 a1 true true = some true) fun k => by simp only [rosettelaw05_EventOrders.j0]; rfl))
    obtain ⟨⟨b, hb, _⟩, h1, h2⟩ := hK K (Nat.le_refl _)
    refine ⟨K, ?_⟩
    unfold rosettelaw05_EventOrders.f
    rw [show rosettelaw05_small.f = some true from rfl, Option.bind_some, hb, Option.bind_some]
    cases b with
    | false => exact h2
    | true => exact h1
  · obtain ⟨K, hK⟩ := Ev.and (few_any hg) (Ev.now (P := fun k => rosettelaw05_EventOrders.j0 k l0 a1 true true = some true) fun k => by simp only [rosettelaw05_EventOrders.j0]; rfl)
    obtain ⟨⟨b, hb, hb2⟩, h2⟩ := hK K (Nat.le_refl _)
    refine ⟨K, ?_⟩
    unfold rosettelaw05_EventOrders.f
    rw [show rosettelaw05_small.f = some true from rfl, Option.bind_some, hb, Option.bind_some]
    cases b with
    | false => exact h2
    | true => exact absurd (hb2 rfl) h40
end Go.Proofs.Ytmbpgebboppkmaa.Pure
end

section
/- What comes in, opened kind by kind: a datum that is read whole reads as a list, a structure, a number; and no slice and no text of it is longer than the form's reach. -/
set_option linter.unusedVariables false
set_option linter.unusedSimpArgs false
set_option autoImplicit false
namespace Go.Proofs.Ytmbpgebboppkmaa.Op
open Go.RowKit Go.Deep Go.ChangeShapes Go.WideShapes Go.Proofs.YtmbpgebboppkmaaW.PrintWords

section
variable {H α β : Type} (enc : TypeId × Value → H) (P : Program) (W : World)
/-- no part of a datum is longer than the reach -/
def Lite (P : Program) (t : TypeId) (d : DataW H) : Prop := ∀ n ∈ d.weights P t, n ≤ 140737488351232
/-- whatever is read at type t, and is no longer than the reach, is of the kind d, and good -/
def Opens (t : TypeId) (d : Kd α) (good : α → Prop) : Prop :=
  ∀ fuel (cs : List Value) x, DataW.trod enc P W 0 (fun _ => true) true fuel t cs = some x → Lite P t x.1 → ∃ a, d.K W a cs ∧ good a
def OpensF (fs : List Field) (o : Nat) (d : Kd α) (good : α → Prop) : Prop :=
  ∀ fuel (cs : List Value) xs, (fs.mapM fun f => DataW.trod enc P W 0 (fun _ => true) true fuel f.type ((cs.drop f.offset).take (P.cellsOf f.type))) = some xs → (∀ n ∈ DataW.weightsEach P (fs.map (·.type)) (xs.map (·.1)), n ≤ 140737488351232) → cs.length = o + d.sz → ∃ a, d.K W a (cs.drop o) ∧ good a
variable {enc P W}
theorem opens_int {t : TypeId} {k : IntKind} (ht : P.underlying t = some (.int k)) : Opens enc P W t (Kd.int k) (fun n => (Lit.int k n).wf = true) := by
  intro fuel cs x h _
  obtain ⟨n, h1, _, h2⟩ := DataW.trod_int ht h
  exact ⟨n, h1, h2⟩
theorem opens_bool {t : TypeId} (ht : P.underlying t = some .bool) : Opens enc P W t Kd.bool (fun _ => True) := by
  intro fuel cs x h _
  obtain ⟨n, h1, _⟩ := DataW.trod_bool ht h
  exact ⟨n, h1, trivial⟩
theorem opens_str {t : TypeId} (ht : P.underlying t = some .string) : Opens enc P W t Kd.string (fun s => s.size ≤ 140737488351232) := by
  intro fuel cs x h hl
  obtain ⟨s, h1, h2, _⟩ := DataW.trod_string ht h
  refine ⟨s, h1, ?_⟩
  rw [h2] at hl
  have := hl s.data.toList.length (by simp [DataW.weights])
  rw [Array.length_toList] at this
  exact this
theorem weightsAll_mem {e : TypeId} : ∀ {ds : List (DataW H)} {d : DataW H}, d ∈ ds → ∀ n ∈ d.weights P e, n ∈ DataW.weightsAll P e ds := by
  intro ds
  induction ds with
  | nil => intro d h; cases h
  | cons y ys ih =>
    intro d h n hn
    rw [DataW.weightsAll]
    rcases List.mem_cons.1 h with rfl | h
    · exact List.mem_append_left _ hn
    · exact List.mem_append_right _ (ih h n hn)
theorem opens_slice {t e : TypeId} {d : Kd α} {good : α → Prop} {B : Nat} (ht : P.underlying t = some (.slice e)) (hs : P.cellsOf e = d.sz) (hB : P.bytesOf e = B) (h : Opens enc P W e d good) :
    Opens enc P W t (Kd.slice e d) (fun xs => (xs.length ≤ maxLen ∧ xs.length * B ≤ 140737488351232) ∧ ∀ x ∈ xs, good x) := by
  intro fuel cs x hx hw
  rcases open_slice ht hx with ⟨rfl, _⟩ | ⟨a, len, cap, m, n, D, Pl, rfl, hb, hl, hm, hmm, rfl, hel⟩
  · exact ⟨[], ⟨none, 0, rfl, Nat.le_refl _, Kd.C_nil _ _⟩, ⟨Nat.zero_le _, by simp⟩, fun _ h => by cases h⟩
  · simp only [if_true] at hmm
    have hwt : ∀ n ∈ (len + (m - len)) * P.bytesOf e :: (DataW.weightsAll P e ((List.range len).map D) ++ DataW.weightsAll P e ((List.range (m - len)).map fun j => D (len + j))), n ≤ 140737488351232 := by
      have h1 := hw
      unfold Lite at h1
      rw [DataW.weights] at h1
      simp only [ht, List.length_map, List.length_range] at h1
      exact h1
    have hlenB : len * B ≤ 140737488351232 := by
      have h1 := hwt _ List.mem_cons_self
      rw [hB] at h1
      exact Nat.le_trans (Nat.mul_le_mul_right _ (by omega)) h1
    have hlite : ∀ i, i < len → Lite P e (D i) := fun i hi n hn => hwt n (List.mem_cons_of_mem _ (List.mem_append_left _ (weightsAll_mem (List.mem_map.2 ⟨i, List.mem_range.2 hi, rfl⟩) n hn)))
    have each : ∀ i, i < len → ∃ y : α, ∃ c, W.cells? 0 (a.add (i * P.cellsOf e)) (P.cellsOf e) = some c ∧ d.K W y c ∧ good y := by
      intro i hi
      obtain ⟨c, h1, h2⟩ := hel i (by omega)
      obtain ⟨y, h3, h4⟩ := h _ _ _ h2 (hlite i hi)
      exact ⟨y, c, h1, h3, h4⟩
    have build : ∃ xs : List α, xs.length = len ∧ ∀ i y, xs[i]? = some y → ∃ c, W.cells? 0 (a.add (i * P.cellsOf e)) (P.cellsOf e) = some c ∧ d.K W y c ∧ good y := by
      clear hx hel hm hl hb hmm hw hwt hlenB hlite
      induction len with
      | zero => exact ⟨[], rfl, fun i y h => by simp at h⟩
      | succ len ih =>
        obtain ⟨xs, h1, h2⟩ := ih (fun i hi => each i (by omega))
        obtain ⟨y, c, h3, h4, h5⟩ := each len (by omega)
        refine ⟨xs ++ [y], by simp [h1], fun i z hz => ?_⟩
        by_cases hi : i < len
        · exact h2 i z (by rw [List.getElem?_append_left (by omega)] at hz; exact hz)
        · have hi2 : i < (xs ++ [y]).length := (List.getElem?_eq_some_iff.1 hz).1
          have : i = len := by rw [List.length_append, List.length_singleton] at hi2; omega
          subst this
          rw [List.getElem?_append_right (by omega), h1, Nat.sub_self] at hz
          simp only [List.getElem?_cons_zero, Option.some.injEq] at hz
          subst hz
          exact ⟨c, h3, h4, h5⟩
    obtain ⟨xs, h1, h2⟩ := build
    refine ⟨xs, ⟨some a, cap, by rw [h1], by omega, rfl, by rw [h1]; simp only [maxLen] at hm; omega, fun h0 => ⟨a, rfl, fun j p hj => ?_⟩⟩, ⟨by omega, by rw [h1]; exact hlenB⟩, fun y hy => ?_⟩
    · obtain ⟨c, h3, h4, h5⟩ := h2 j p hj
      obtain ⟨_, hlen, hcell⟩ := World.cells?_some h3
      refine ⟨c, by rw [hlen, hs], h4, fun i u hu => ?_⟩
      have hi : i < P.cellsOf e := by rw [← hlen]; exact (List.getElem?_eq_some_iff.1 hu).1
      have := hcell i hi
      rw [hu, Go.Proofs.YtmbpgebboppkmaaW.PrintWords.add_add, hs] at this
      exact this
    · obtain ⟨i, hi⟩ := List.getElem?_of_mem hy
      obtain ⟨c, _, _, h5⟩ := h2 i y hi
      exact h5
theorem opensF_one {f : Field} {o : Nat} {d : Kd α} {good : α → Prop} (ho : f.offset = o) (hc : P.cellsOf f.type = d.sz) (h : Opens enc P W f.type d good) : OpensF enc P W [f] o d good := by
  intro fuel cs xs hx hw hl
  simp only [List.mapM_cons, List.mapM_nil, Option.pure_def, Option.bind_eq_bind, Option.bind_eq_some_iff] at hx
  obtain ⟨y, h1, z, hz, hxs⟩ := hx
  simp only [Option.some.injEq] at hz hxs
  subst hz
  subst hxs
  obtain ⟨a, h2, h3⟩ := h _ _ _ h1 (fun n hn => hw n (by simp [DataW.weightsEach, hn]))
  rw [ho, hc, List.take_of_length_le (by rw [List.length_drop]; omega)] at h2
  exact ⟨a, h2, h3⟩
theorem opensF_cons {f : Field} {fs : List Field} {o : Nat} {d : Kd α} {e : Kd β} {g1 : α → Prop} {g2 : β → Prop} (ho : f.offset = o) (hc : P.cellsOf f.type = d.sz) (h : Opens enc P W f.type d g1) (hr : OpensF enc P W fs (o + d.sz) e g2) :
    OpensF enc P W (f :: fs) o (Kd.pair d e) (fun p => g1 p.1 ∧ g2 p.2) := by
  intro fuel cs xs hx hw hl
  simp only [List.mapM_cons, Option.pure_def, Option.bind_eq_bind, Option.bind_eq_some_iff] at hx
  obtain ⟨y, h1, ys, h2, hxs⟩ := hx
  simp only [Option.some.injEq] at hxs
  subst hxs
  have hsz : (Kd.pair d e).sz = d.sz + e.sz := rfl
  obtain ⟨a, h3, h4⟩ := h _ _ _ h1 (fun n hn => hw n (by simp [DataW.weightsEach, hn]))
  obtain ⟨b, h5, h6⟩ := hr _ _ _ h2 (fun n hn => hw n (by rw [List.map_cons, List.map_cons, DataW.weightsEach]; exact List.mem_append_right _ hn)) (by omega)
  rw [ho, hc] at h3
  refine ⟨(a, b), ⟨_, _, ?_, h3, h5⟩, h4, h6⟩
  rw [← List.drop_drop, List.take_append_drop]
theorem opens_struct {t : TypeId} {fs : Array Field} {d : Kd α} {good : α → Prop} (ht : P.underlying t = some (.struct fs)) (hc : P.cellsOf t = d.sz) (h : OpensF enc P W fs.toList 0 d good) : Opens enc P W t d good := by
  intro fuel cs x hx hw
  cases fuel with
  | zero => simp [DataW.trod] at hx
  | succ fuel =>
    have key : cs.length = P.cellsOf t ∧ ∃ xs, (fs.toList.mapM fun f => DataW.trod enc P W 0 (fun _ => true) true fuel f.type ((cs.drop f.offset).take (P.cellsOf f.type))) = some xs ∧ x.1 = .agg (xs.map (·.1)) := by
      unfold DataW.trod at hx
      rw [ht] at hx
      simp only at hx
      split at hx
      · rename_i hl
        rw [Option.map_eq_some_iff] at hx
        obtain ⟨xs, h1, h2⟩ := hx
        exact ⟨hl, xs, h1, by rw [← h2]⟩
      · cases hx
    obtain ⟨h1, xs, h2, h3⟩ := key
    have hw2 : ∀ n ∈ DataW.weightsEach P (fs.toList.map (·.type)) (xs.map (·.1)), n ≤ 140737488351232 := by
      unfold Lite at hw
      rw [h3, DataW.weights] at hw
      simp only [ht] at hw
      exact hw
    obtain ⟨a, h4, h5⟩ := h _ _ _ h2 hw2 (by omega)
    exact ⟨a, by simpa using h4, h5⟩
theorem opens_iso {t : TypeId} {d : Kd α} {good : α → Prop} (f : β → α) (g : α → β) (hfg : ∀ a, f (g a) = a) (h : Opens enc P W t d good) : Opens enc P W t (Kd.iso d f) (fun x => good (f x)) := by
  intro fuel cs x hx hw
  obtain ⟨a, h1, h2⟩ := h _ _ _ hx hw
  refine ⟨g a, ?_, by show good (f (g a)); rw [hfg]; exact h2⟩
  show d.K W (f (g a)) cs
  rw [hfg]
  exact h1
/-- the weight of an argument -/
theorem lite_arg {ts : List TypeId} {ds : List (DataW H)} (hsz : (DataW.weightsEach P ts ds).all (· ≤ reachBytes) = true) {j : Nat} {t : TypeId} {d : DataW H} (ht : ts[j]? = some t) (hd : ds[j]? = some d) : Lite P t d := by
  intro n hn
  have := List.all_eq_true.1 hsz n (DataW.weights_mem_each ht hd n hn)
  have h2 : n ≤ reachBytes := by simpa using this
  exact Nat.le_trans h2 (by decide)
/-- a slice that is handed in -/
theorem open_arg {t e : TypeId} {d : Kd α} {good : α → Prop} {B : Nat} (ht : P.underlying t = some (.slice e)) (hs : P.cellsOf e = d.sz) (hB : P.bytesOf e = B) (h : Opens enc P W e d good) {A : Option Addr} {n c : Nat} {y : DataW H} {p : List MemPlace}
    (hl : Lite P t y) (hx : DataW.Trod enc P W 0 (fun _ => true) true t (.slice A n c) y p) : ∃ xs : List α, n = xs.length ∧ xs.length ≤ c ∧ c ≤ maxLen ∧ d.C W A xs.length xs ∧ (xs.length ≤ maxLen ∧ xs.length * B ≤ 140737488351232) ∧ ∀ x ∈ xs, good x := by
  obtain ⟨fuel, hf⟩ := hx
  have hcap : c ≤ maxLen := by
    rcases open_slice ht hf with ⟨hcs, _⟩ | ⟨a, len, cap, m, n, D, Pl, hcs, hb, hl, hm, hmm, _, hel⟩
    · simp only [Value.cells, List.cons.injEq, Value.slice.injEq, and_true] at hcs
      omega
    · simp only [Value.cells, List.cons.injEq, Value.slice.injEq, and_true] at hcs
      omega
  obtain ⟨xs, ⟨A', c', h1, h2, h3⟩, h4, h5⟩ := opens_slice ht hs hB h _ _ _ hf hl
  simp only [Value.cells, List.cons.injEq, Value.slice.injEq, and_true] at h1
  obtain ⟨rfl, rfl, rfl⟩ := h1
  exact ⟨xs, rfl, h2, hcap, h3, h4, h5⟩
/-- a text that is handed in -/
theorem lite_str {t : TypeId} {s : ByteArray} (hl : Lite (H := H) P t (.lit (.string s.data.toList))) : s.size ≤ 140737488351232 := by
  have := hl s.data.toList.length (by simp [DataW.weights])
  rw [Array.length_toList] at this
  exact this
end
end Go.Proofs.Ytmbpgebboppkmaa.Op
end
