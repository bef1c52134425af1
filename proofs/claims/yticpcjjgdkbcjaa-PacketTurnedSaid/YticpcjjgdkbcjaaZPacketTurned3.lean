import Derived.Test.YticpcjjgdkbcjaaZPacketTurned0
import Derived.Test.YticpcjjgdkbcjaaZPacketTurned1
import Derived.Test.YticpcjjgdkbcjaaZPacketTurned2
import Derived.WalkKit
import Derived.Lib.Zigzag
import Derived.OpenShut
import Derived.Lib.Bytes
section
-- Written by a program of this session (wip/tools/myprint.py), over the kit's print.
namespace Go.Proofs.Yticpcjjgdkbcjaa.G
open Go.RowKit Go.Proofs.YticpcjjgdkbcjaaW.PrintWords Go.Proofs.YticpcjjgdkbcjaaW.PrintLast Go.Proofs.YticpcjjgdkbcjaaW.PrintMore
attribute [local go_sem] max2_int min2_int max_two min_two max_three min_three max_four min_four   -- for this text's walks alone
set_option linter.unusedVariables false
set_option linter.unusedSimpArgs false

/-! ### rosettelaw22_PacketTurned: function 5 -/
mutual
def rosettelaw22_PacketTurned.j0 : Nat → Int → Int → Int → Bool → List Int → Bool → Option (Bool)
  | 0, _, _, _, _, _, _ => none
  | k + 1, x1, x2, x3, x9, x10, x58 => if x58 = true then (some x9) else (if 0 ≤ (wrap64 (Int.tdiv x1 8)) then (if (wrap64 (Int.tdiv x1 8)) < (x10.length : Int) then (if 0 ≤ (IntKind.u64.wrap (Int.tmod x1 8)) then ((some (x10.set ((wrap64 (Int.tdiv x1 8)) : Int).toNat (Go.bits .xor .u8 (rd x10 (wrap64 (Int.tdiv x1 8))) (shl .u8 1 (IntKind.u64.wrap (Int.tmod x1 8)))) : List Int)).bind fun y326 => (if x2 = x1 then (rosettelaw22_PacketTurned.j1 k x1 x2 x3 x9 y326) else (if 0 ≤ (wrap64 (Int.tdiv x2 8)) then (if (wrap64 (Int.tdiv x2 8)) < (x10.length : Int) then (if 0 ≤ (IntKind.u64.wrap (Int.tmod x2 8)) then (rosettelaw22_PacketTurned.j1 k x1 x2 x3 x9 (y326.set ((wrap64 (Int.tdiv x2 8)) : Int).toNat (Go.bits .xor .u8 (rd y326 (wrap64 (Int.tdiv x2 8))) (shl .u8 1 (IntKind.u64.wrap (Int.tmod x2 8)))))) else (none)) else (none)) else (none)))) else (none)) else (none)) else (none))
def rosettelaw22_PacketTurned.j1 : Nat → Int → Int → Int → Bool → List Int → Option (Bool)
  | 0, _, _, _, _, _ => none
  | k + 1, x1, x2, x3, x9, x10 => if x3 = x1 then (rosettelaw22_PacketTurned.j2 k x3 x9 x10 false) else (rosettelaw22_PacketTurned.j2 k x3 x9 x10 (x3 != x2))
def rosettelaw22_PacketTurned.j2 : Nat → Int → Bool → List Int → Bool → Option (Bool)
  | 0, _, _, _, _ => none
  | k + 1, x3, x9, x10, x98 => if x98 = true then (if 0 ≤ (wrap64 (Int.tdiv x3 8)) then (if (wrap64 (Int.tdiv x3 8)) < (x10.length : Int) then (if 0 ≤ (IntKind.u64.wrap (Int.tmod x3 8)) then ((packet_Decode.f (x10.set ((wrap64 (Int.tdiv x3 8)) : Int).toNat (Go.bits .xor .u8 (rd x10 (wrap64 (Int.tdiv x3 8))) (shl .u8 1 (IntKind.u64.wrap (Int.tmod x3 8)))))).bind fun bt331 => (if x9 = true then (if bt331.2.2.2.2.2.2 = 6 then ((rosetteref22_Same.f bt331.1 bt331.2.1 bt331.2.2.1 bt331.2.2.2.1 bt331.2.2.2.2.1 bt331.2.2.2.2.2.1 0 0 0 0 0 ([] : List Int)).bind fun t341 => (some t341)) else (some false)) else (some false))) else (none)) else (none)) else (none)) else ((packet_Decode.f x10).bind fun bt342 => (if x9 = true then (if bt342.2.2.2.2.2.2 = 6 then ((rosetteref22_Same.f bt342.1 bt342.2.1 bt342.2.2.1 bt342.2.2.2.1 bt342.2.2.2.2.1 bt342.2.2.2.2.2.1 0 0 0 0 0 ([] : List Int)).bind fun t352 => (some t352)) else (some false)) else (some false)))
end
def rosettelaw22_PacketTurned.f (k : Nat) (a0_0 : Int) (a0_1 : Int) (a0_2 : Int) (a0_3 : Int) (a0_4 : Int) (l0_5 : List Int) (a1 : Int) (a2 : Int) (a3 : Int) : Option (Bool) := (rosettelaw22_small.f).bind fun t320 => ((packet_Encode.f k a0_0 a0_1 a0_2 a0_3 a0_4 l0_5).bind fun bt321 => (if (l0_5.length : Int) > 5000 then (rosettelaw22_PacketTurned.j0 k a1 a2 a3 t320 bt321.1 true) else (if bt321.2 = true then (if a1 < 0 then (rosettelaw22_PacketTurned.j0 k a1 a2 a3 t320 bt321.1 true) else (if a1 ≥ (wrap64 (8 * (bt321.1.length : Int))) then (rosettelaw22_PacketTurned.j0 k a1 a2 a3 t320 bt321.1 true) else (if a2 < 0 then (rosettelaw22_PacketTurned.j0 k a1 a2 a3 t320 bt321.1 true) else (if a2 ≥ (wrap64 (8 * (bt321.1.length : Int))) then (rosettelaw22_PacketTurned.j0 k a1 a2 a3 t320 bt321.1 true) else (if a3 < 0 then (rosettelaw22_PacketTurned.j0 k a1 a2 a3 t320 bt321.1 true) else (rosettelaw22_PacketTurned.j0 k a1 a2 a3 t320 bt321.1 (decide (a3 ≥ (wrap64 (8 * (bt321.1.length : Int))))))))))) else (rosettelaw22_PacketTurned.j0 k a1 a2 a3 t320 bt321.1 true))))
theorem rosettelaw22_PacketTurned.mono_l : ∀ k, (∀ y0 y1 y2 y3 y4 y5, LeO (rosettelaw22_PacketTurned.j0 k y0 y1 y2 y3 y4 y5) (rosettelaw22_PacketTurned.j0 (k + 1) y0 y1 y2 y3 y4 y5)) ∧ (∀ y0 y1 y2 y3 y4, LeO (rosettelaw22_PacketTurned.j1 k y0 y1 y2 y3 y4) (rosettelaw22_PacketTurned.j1 (k + 1) y0 y1 y2 y3 y4)) ∧ (∀ y0 y1 y2 y3, LeO (rosettelaw22_PacketTurned.j2 k y0 y1 y2 y3) (rosettelaw22_PacketTurned.j2 (k + 1) y0 y1 y2 y3))
  | 0 => ⟨fun _ _ _ _ _ _ r h => by simp [rosettelaw22_PacketTurned.j0] at h, fun _ _ _ _ _ r h => by simp [rosettelaw22_PacketTurned.j1] at h, fun _ _ _ _ r h => by simp [rosettelaw22_PacketTurned.j2] at h⟩
  | k + 1 => by
    obtain ⟨ih0, ih1, ih2⟩ := rosettelaw22_PacketTurned.mono_l k
    refine ⟨?_, ?_, ?_⟩
    · intro y0 y1 y2 y3 y4 y5
      unfold rosettelaw22_PacketTurned.j0
      repeat' first
      | (with_reducible exact ih0 _ _ _ _ _ _)
      | (with_reducible exact ih1 _ _ _ _ _)
      | (with_reducible exact ih2 _ _ _ _)
      | (with_reducible exact packet_Encode.mono _ _ _ _ _ _ _)
      | (with_reducible exact LeO.refl _)
      | (with_reducible exact LeO.none _)
      | (with_reducible refine LeO.ite ?_ ?_)
      | (with_reducible refine LeO.bind ?_ (fun _ => ?_))
      | exact ih0 _ _ _ _ _ _
      | exact ih1 _ _ _ _ _
      | exact ih2 _ _ _ _
      | exact packet_Encode.mono _ _ _ _ _ _ _
      | exact LeO.none _
      | refine LeO.ite ?_ ?_
      | refine LeO.bind ?_ (fun _ => ?_)
    · intro y0 y1 y2 y3 y4
      unfold rosettelaw22_PacketTurned.j1
      repeat' first
      | (with_reducible exact ih0 _ _ _ _ _ _)
      | (with_reducible exact ih1 _ _ _ _ _)
      | (with_reducible exact ih2 _ _ _ _)
      | (with_reducible exact packet_Encode.mono _ _ _ _ _ _ _)
      | (with_reducible exact LeO.refl _)
      | (with_reducible exact LeO.none _)
      | (with_reducible refine LeO.ite ?_ ?_)
      | (with_reducible refine LeO.bind ?_ (fun _ => ?_))
      | exact ih0 _ _ _ _ _ _
      | exact ih1 _ _ _ _ _
      | exact ih2 _ _ _ _
      | exact packet_Encode.mono _ _ _ _ _ _ _
      | exact LeO.none _
      | refine LeO.ite ?_ ?_
      | refine LeO.bind ?_ (fun _ => ?_)
    · intro y0 y1 y2 y3
      unfold rosettelaw22_PacketTurned.j2
      repeat' first
      | (with_reducible exact ih0 _ _ _ _ _ _)
      | (with_reducible exact ih1 _ _ _ _ _)
      | (with_reducible exact ih2 _ _ _ _)
      | (with_reducible exact packet_Encode.mono _ _ _ _ _ _ _)
      | (with_reducible exact LeO.refl _)
      | (with_reducible exact LeO.none _)
      | (with_reducible refine LeO.ite ?_ ?_)
      | (with_reducible refine LeO.bind ?_ (fun _ => ?_))
      | exact ih0 _ _ _ _ _ _
      | exact ih1 _ _ _ _ _
      | exact ih2 _ _ _ _
      | exact packet_Encode.mono _ _ _ _ _ _ _
      | exact LeO.none _
      | refine LeO.ite ?_ ?_
      | refine LeO.bind ?_ (fun _ => ?_)
theorem rosettelaw22_PacketTurned.mono : ∀ a0 a1 a2 a3 a4 a5 a6 a7 a8 k, LeO (rosettelaw22_PacketTurned.f k a0 a1 a2 a3 a4 a5 a6 a7 a8) (rosettelaw22_PacketTurned.f (k + 1) a0 a1 a2 a3 a4 a5 a6 a7 a8) := by
  intro a0 a1 a2 a3 a4 a5 a6 a7 a8 k
  obtain ⟨ih0, ih1, ih2⟩ := rosettelaw22_PacketTurned.mono_l k
  unfold rosettelaw22_PacketTurned.f
  repeat' first
      | (with_reducible exact ih0 _ _ _ _ _ _)
      | (with_reducible exact ih1 _ _ _ _ _)
      | (with_reducible exact ih2 _ _ _ _)
      | (with_reducible exact packet_Encode.mono _ _ _ _ _ _ _)
      | (with_reducible exact LeO.refl _)
      | (with_reducible exact LeO.none _)
      | (with_reducible refine LeO.ite ?_ ?_)
      | (with_reducible refine LeO.bind ?_ (fun _ => ?_))
      | exact ih0 _ _ _ _ _ _
      | exact ih1 _ _ _ _ _
      | exact ih2 _ _ _ _
      | exact packet_Encode.mono _ _ _ _ _ _ _
      | exact LeO.none _
      | refine LeO.ite ?_ ?_
      | refine LeO.bind ?_ (fun _ => ?_)
set_option maxHeartbeats 8000000 in
set_option maxRecDepth 100000 in
theorem rosettelaw22_PacketTurned.calls (k : Nat) (a0_0 : Int) (a0_1 : Int) (a0_2 : Int) (a0_3 : Int) (a0_4 : Int) (A0_5 : Option Addr) (c0_5 : Nat) (l0_5 : List Int) (a1 : Int) (a2 : Int) (a3 : Int) (r : Bool) (w : World) (hr0_5 : Kd.C (Kd.int .u8) w A0_5 l0_5.length l0_5) (hc0_5 : l0_5.length ≤ c0_5) (h : rosettelaw22_PacketTurned.f k a0_0 a0_1 a0_2 a0_3 a0_4 l0_5 a1 a2 a3 = some r) :
    Calls Try.prog 5 #[.agg #[.int .i64 a0_0, .int .i64 a0_1, .int .i64 a0_2, .int .i64 a0_3, .int .u32 a0_4, .slice A0_5 l0_5.length c0_5], .int .i64 a1, .int .i64 a2, .int .i64 a3] w fun e w' => e = .returned (.bool r) ∧ Below w.heap.size w w' := by
  have hu25 := Try.underlying25
  have HR0_5 := Aside0.mk hr0_5
  have HC0_5 := Aside0.mk hc0_5
  clear hr0_5 hc0_5
  have HB := Aside0.mk (Below.refl w.heap.size w)
  have H : ((rosettelaw22_small.f).bind fun t320 => ((packet_Encode.f k a0_0 a0_1 a0_2 a0_3 a0_4 l0_5).bind fun bt321 => (if (l0_5.length : Int) > 5000 then (rosettelaw22_PacketTurned.j0 k a1 a2 a3 t320 bt321.1 true) else (if bt321.2 = true then (if a1 < 0 then (rosettelaw22_PacketTurned.j0 k a1 a2 a3 t320 bt321.1 true) else (if a1 ≥ (wrap64 (8 * (bt321.1.length : Int))) then (rosettelaw22_PacketTurned.j0 k a1 a2 a3 t320 bt321.1 true) else (if a2 < 0 then (rosettelaw22_PacketTurned.j0 k a1 a2 a3 t320 bt321.1 true) else (if a2 ≥ (wrap64 (8 * (bt321.1.length : Int))) then (rosettelaw22_PacketTurned.j0 k a1 a2 a3 t320 bt321.1 true) else (if a3 < 0 then (rosettelaw22_PacketTurned.j0 k a1 a2 a3 t320 bt321.1 true) else (rosettelaw22_PacketTurned.j0 k a1 a2 a3 t320 bt321.1 (decide (a3 ≥ (wrap64 (8 * (bt321.1.length : Int))))))))))) else (rosettelaw22_PacketTurned.j0 k a1 a2 a3 t320 bt321.1 true))))) = some r := h
  clear h
  replace H := Option.bind_eq_some_iff.mp H
  obtain ⟨t320, A50, H⟩ := H
  replace H : ((packet_Encode.f k a0_0 a0_1 a0_2 a0_3 a0_4 l0_5).bind fun bt321 => (if (l0_5.length : Int) > 5000 then (rosettelaw22_PacketTurned.j0 k a1 a2 a3 t320 bt321.1 true) else (if bt321.2 = true then (if a1 < 0 then (rosettelaw22_PacketTurned.j0 k a1 a2 a3 t320 bt321.1 true) else (if a1 ≥ (wrap64 (8 * (bt321.1.length : Int))) then (rosettelaw22_PacketTurned.j0 k a1 a2 a3 t320 bt321.1 true) else (if a2 < 0 then (rosettelaw22_PacketTurned.j0 k a1 a2 a3 t320 bt321.1 true) else (if a2 ≥ (wrap64 (8 * (bt321.1.length : Int))) then (rosettelaw22_PacketTurned.j0 k a1 a2 a3 t320 bt321.1 true) else (if a3 < 0 then (rosettelaw22_PacketTurned.j0 k a1 a2 a3 t320 bt321.1 true) else (rosettelaw22_PacketTurned.j0 k a1 a2 a3 t320 bt321.1 (decide (a3 ≥ (wrap64 (8 * (bt321.1.length : Int))))))))))) else (rosettelaw22_PacketTurned.j0 k a1 a2 a3 t320 bt321.1 true)))) = some r := H
  have A5 := Aside0.mk A50
  clear A50
  replace H := Option.bind_eq_some_iff.mp H
  obtain ⟨⟨t321, t324⟩, A60, H⟩ := H
  replace H : (if (l0_5.length : Int) > 5000 then (rosettelaw22_PacketTurned.j0 k a1 a2 a3 t320 t321 true) else (if t324 = true then (if a1 < 0 then (rosettelaw22_PacketTurned.j0 k a1 a2 a3 t320 t321 true) else (if a1 ≥ (wrap64 (8 * (t321.length : Int))) then (rosettelaw22_PacketTurned.j0 k a1 a2 a3 t320 t321 true) else (if a2 < 0 then (rosettelaw22_PacketTurned.j0 k a1 a2 a3 t320 t321 true) else (if a2 ≥ (wrap64 (8 * (t321.length : Int))) then (rosettelaw22_PacketTurned.j0 k a1 a2 a3 t320 t321 true) else (if a3 < 0 then (rosettelaw22_PacketTurned.j0 k a1 a2 a3 t320 t321 true) else (rosettelaw22_PacketTurned.j0 k a1 a2 a3 t320 t321 (decide (a3 ≥ (wrap64 (8 * (t321.length : Int))))))))))) else (rosettelaw22_PacketTurned.j0 k a1 a2 a3 t320 t321 true))) = some r := H
  have A6 := Aside0.mk A60
  clear A60
  have HC7 := Aside0.mk H
  clear H
  go_enter Try.func5, Try.ntmps5
  go_upto_region 4 with (first | ((with_reducible refine gate_dst (N := 4) rfl ?_); refine box_event ?hg (N := 4) ?hd (cs := #[.int .i64 a0_0, .int .i64 a0_1, .int .i64 a0_2, .int .i64 a0_3, .int .u32 a0_4, .slice A0_5 l0_5.length c0_5]) (t := 25) ?hr ?_; (case hd => rfl); (case hg => rfl); (case hr => first | (go_simp; done) | (go_simp; rfl)); intro gb319 hg w8 hbox hb; have n0_ := Aside0.mk (below_step (by repeat (first | (with_reducible first | exact HB.out | apply below_alloc | apply pw_below_drewN | apply below_drew1) | exact HB.out)) hb); have n1_ := Aside0.mk (hbox); have n2_ := Aside0.mk ((by rw [hg]; exact (below_size (by repeat (first | (with_reducible first | exact HB.out | apply below_alloc | apply pw_below_drewN | apply below_drew1) | exact HB.out))) : w.heap.size ≤ gb319)); have n3_ := Aside0.mk ((by rw [hg]; exact (below_size (by repeat (first | (with_reducible first | exact HB.out | apply below_alloc | apply pw_below_drewN | apply below_drew1) | exact HB.out))) : w.heap.size ≤ gb319)); clear HB; have HB := n0_; have BK319 := n1_; have GW319 := n2_; have GE319 := n3_; clear n0_ n1_ n2_ n3_; clear hb hbox hg) | ((with_reducible refine gate_callee (f := 8) rfl ?_); refine goesL_ (some 15) rfl rfl Try.func8 (by kernel_rfl) rfl #[] rfl (by (try simp only [List.map_toArray, List.map_cons, List.map_nil]); first | done | rfl | (simp only [List.length_drop, List.length_take]; rfl)) ?_; (with_reducible refine (rosettelaw22_small.calls  t320 _ A5.out).mono ?_); rintro e w9 ⟨rfl, hb⟩; refine ⟨_, rfl, ?_⟩; have n0_ := Aside0.mk (blk_below (g := gb319) (o := .cells #[.int .i64 a0_0, .int .i64 a0_1, .int .i64 a0_2, .int .i64 a0_3, .int .u32 a0_4, .slice A0_5 l0_5.length c0_5] 25 (0, 0)) (by (with_reducible repeat (first | refine blk_drewN ?_ _ | refine blk_drew ?_ | refine blk_alloc ?_ _)); exact BK319.out) hb); have n1_ := Aside0.mk (below_step (by repeat (first | (with_reducible first | exact HB.out | apply below_alloc | apply pw_below_drewN | apply below_drew1 | refine below_set ?_ GE319.out) | exact HB.out)) hb); clear BK319; clear HB; have BK319 := n0_; have HB := n1_; clear n0_ n1_; (try clear hb); (try clear hb2); (try clear hk); (try clear hi); have hcz10_0 : w9.cell? ⟨gb319, 0, none⟩ = some (.int .i64 a0_0) := (blk_cell BK319.out 0).trans rfl; have hcz10_1 : w9.cell? ⟨gb319, 1, none⟩ = some (.int .i64 a0_1) := (blk_cell BK319.out 1).trans rfl; have hcz10_2 : w9.cell? ⟨gb319, 2, none⟩ = some (.int .i64 a0_2) := (blk_cell BK319.out 2).trans rfl; have hcz10_3 : w9.cell? ⟨gb319, 3, none⟩ = some (.int .i64 a0_3) := (blk_cell BK319.out 3).trans rfl; have hcz10_4 : w9.cell? ⟨gb319, 4, none⟩ = some (.int .u32 a0_4) := (blk_cell BK319.out 4).trans rfl; have hcz10_5 : w9.cell? ⟨gb319, 5, none⟩ = some (.slice A0_5 l0_5.length c0_5) := (blk_cell BK319.out 5).trans rfl; have hfz10_0 := blk_frozen BK319.out 0; have hfz10_1 := blk_frozen BK319.out 1; have hfz10_2 := blk_frozen BK319.out 2; have hfz10_3 := blk_frozen BK319.out 3; have hfz10_4 := blk_frozen BK319.out 4; have hfz10_5 := blk_frozen BK319.out 5) | ((with_reducible refine gate_callee (f := 9) rfl ?_); refine goesL_ (some 18) rfl rfl Try.func9 (by kernel_rfl) rfl #[.agg #[.int .i64 a0_0, .int .i64 a0_1, .int .i64 a0_2, .int .i64 a0_3, .int .u32 a0_4, .slice A0_5 l0_5.length c0_5]] rfl (by (try simp only [List.map_toArray, List.map_cons, List.map_nil]); first | done | rfl | (simp only [List.length_drop, List.length_take]; rfl)) ?_; (with_reducible refine (packet_Encode.calls k a0_0 a0_1 a0_2 a0_3 a0_4 _ _ l0_5 t321 t324 _ ?side1 ?side2 A6.out).mono ?_); (case side1 => repeat (first | exact (Kd.C_below HR0_5.out HB.out) | (with_reducible refine Kd.C_alloc ?_ _) | (with_reducible refine Kd.C_drewN ?_ _) | (with_reducible refine Kd.C_drew ?_))); (case side2 => exact HC0_5.out); rintro e w11 ⟨v322, rfl, ho0, hb⟩; refine ⟨_, rfl, ?_⟩; have n0_ := Aside0.mk (Kd.R_lower ho0 (below_size (by repeat (first | (with_reducible first | exact HB.out | apply below_alloc | apply pw_below_drewN | apply below_drew1 | refine below_set ?_ GE319.out) | exact HB.out)))); have n1_ := Aside0.mk (blk_below (g := gb319) (o := .cells #[.int .i64 a0_0, .int .i64 a0_1, .int .i64 a0_2, .int .i64 a0_3, .int .u32 a0_4, .slice A0_5 l0_5.length c0_5] 25 (0, 0)) (by (with_reducible repeat (first | refine blk_drewN ?_ _ | refine blk_drew ?_ | refine blk_alloc ?_ _)); exact BK319.out) hb); have n2_ := Aside0.mk (below_step (by repeat (first | (with_reducible first | exact HB.out | apply below_alloc | apply pw_below_drewN | apply below_drew1 | refine below_set ?_ GE319.out) | exact HB.out)) hb); clear BK319; clear HB; have HO323 := n0_; have BK319 := n1_; have HB := n2_; clear n0_ n1_ n2_; (try clear hb); (try clear hb2); (try clear hk); (try clear hi); (try clear ho0); obtain ⟨Ao12, co12, eo12⟩ := Kd.R_slice HO323.out; subst eo12))
  (try simp only [Act.put, List.setIfInBounds_toArray, List.set_cons_zero, List.set_cons_succ])
  go_cut [58] (fun v58 wc => ∃ (kq : Nat) (x58_6 : Bool), v58 = .bool x58_6 ∧ Aside0 (rosettelaw22_PacketTurned.j0 kq a1 a2 a3 t320 t321 x58_6 = some r) ∧ Aside0 (kq ≤ k) ∧ Aside0 (Kd.R (Kd.int .u8) 5 wc w.heap.size (fun _ => True) (.slice Ao12 t321.length co12) t321) ∧ Aside0 (wc.heap[gb319]? = some (.cells #[.int .i64 a0_0, .int .i64 a0_1, .int .i64 a0_2, .int .i64 a0_3, .int .u32 a0_4, (.slice A0_5 l0_5.length c0_5)] 25 (0, 0))) ∧ Aside0 (Below w.heap.size w wc))
  case first =>
    have H := HC7.out
    clear HC7
    by_cases c13 : (l0_5.length : Int) > 5000
    · rw [if_pos c13] at H
      have c13b0 : decide (5000 < (l0_5.length : Int)) = true := decide_eq_true c13
      have c13b1 : decide (5000 < l0_5.length) = true := decide_eq_true (by omega)
      clear c13
      (first | rw [c13b0] | (simp only [i64_w, i32_w]; rw [c13b0]) | skip)
      have H' := Aside0.mk H
      clear H
      have hcz14_0 : w11.cell? ⟨gb319, 0, none⟩ = some (.int .i64 a0_0) := (blk_cell BK319.out 0).trans rfl
      have hcz14_1 : w11.cell? ⟨gb319, 1, none⟩ = some (.int .i64 a0_1) := (blk_cell BK319.out 1).trans rfl
      have hcz14_2 : w11.cell? ⟨gb319, 2, none⟩ = some (.int .i64 a0_2) := (blk_cell BK319.out 2).trans rfl
      have hcz14_3 : w11.cell? ⟨gb319, 3, none⟩ = some (.int .i64 a0_3) := (blk_cell BK319.out 3).trans rfl
      have hcz14_4 : w11.cell? ⟨gb319, 4, none⟩ = some (.int .u32 a0_4) := (blk_cell BK319.out 4).trans rfl
      have hcz14_5 : w11.cell? ⟨gb319, 5, none⟩ = some (.slice A0_5 l0_5.length c0_5) := (blk_cell BK319.out 5).trans rfl
      have hfz14_0 := blk_frozen BK319.out 0
      have hfz14_1 := blk_frozen BK319.out 1
      have hfz14_2 := blk_frozen BK319.out 2
      have hfz14_3 := blk_frozen BK319.out 3
      have hfz14_4 := blk_frozen BK319.out 4
      have hfz14_5 := blk_frozen BK319.out 5
      go_wp2
      go_meet
      case rel => exact ⟨_, (true), (by first | rfl | (simp; done) | (simp [*]; done)), H', ⟨by first | omega | exact Nat.le_refl _⟩, ⟨by (with_reducible repeat (first | apply Kd.R_alloc | apply Kd.R_drewN | apply Kd.R_drew)); exact HO323.out⟩, ⟨by (with_reducible repeat (first | refine blk_drewN ?_ _ | refine blk_drew ?_ | refine blk_alloc ?_ _)); exact BK319.out⟩, ⟨by repeat (first | (with_reducible first | exact HB.out | apply below_alloc | apply pw_below_drewN | apply below_drew1 | refine below_set ?_ GE319.out) | exact HB.out)⟩⟩
    · rw [if_neg c13] at H
      have c13b0 : decide (5000 < (l0_5.length : Int)) = false := decide_eq_false c13
      have c13b1 : decide (5000 < l0_5.length) = false := decide_eq_false (by omega)
      clear c13
      (first | rw [c13b0] | (simp only [i64_w, i32_w]; rw [c13b0]) | skip)
      by_cases c15 : t324 = true
      · subst c15
        have H1 : (if a1 < 0 then (rosettelaw22_PacketTurned.j0 k a1 a2 a3 t320 t321 true) else (if a1 ≥ (wrap64 (8 * (t321.length : Int))) then (rosettelaw22_PacketTurned.j0 k a1 a2 a3 t320 t321 true) else (if a2 < 0 then (rosettelaw22_PacketTurned.j0 k a1 a2 a3 t320 t321 true) else (if a2 ≥ (wrap64 (8 * (t321.length : Int))) then (rosettelaw22_PacketTurned.j0 k a1 a2 a3 t320 t321 true) else (if a3 < 0 then (rosettelaw22_PacketTurned.j0 k a1 a2 a3 t320 t321 true) else (rosettelaw22_PacketTurned.j0 k a1 a2 a3 t320 t321 (decide (a3 ≥ (wrap64 (8 * (t321.length : Int))))))))))) = some r := by rw [if_pos rfl] at H; exact H
        clear H
        have H := H1
        clear H1
        by_cases c16 : a1 < 0
        · rw [if_pos c16] at H
          have c16b0 : decide (a1 < 0) = true := decide_eq_true c16
          clear c16
          have H' := Aside0.mk H
          clear H
          have hcz17_0 : w11.cell? ⟨gb319, 0, none⟩ = some (.int .i64 a0_0) := (blk_cell BK319.out 0).trans rfl
          have hcz17_1 : w11.cell? ⟨gb319, 1, none⟩ = some (.int .i64 a0_1) := (blk_cell BK319.out 1).trans rfl
          have hcz17_2 : w11.cell? ⟨gb319, 2, none⟩ = some (.int .i64 a0_2) := (blk_cell BK319.out 2).trans rfl
          have hcz17_3 : w11.cell? ⟨gb319, 3, none⟩ = some (.int .i64 a0_3) := (blk_cell BK319.out 3).trans rfl
          have hcz17_4 : w11.cell? ⟨gb319, 4, none⟩ = some (.int .u32 a0_4) := (blk_cell BK319.out 4).trans rfl
          have hcz17_5 : w11.cell? ⟨gb319, 5, none⟩ = some (.slice A0_5 l0_5.length c0_5) := (blk_cell BK319.out 5).trans rfl
          have hfz17_0 := blk_frozen BK319.out 0
          have hfz17_1 := blk_frozen BK319.out 1
          have hfz17_2 := blk_frozen BK319.out 2
          have hfz17_3 := blk_frozen BK319.out 3
          have hfz17_4 := blk_frozen BK319.out 4
          have hfz17_5 := blk_frozen BK319.out 5
          go_wp2
          go_meet
          case rel => exact ⟨_, (true), (by first | rfl | (simp; done) | (simp [*]; done)), H', ⟨by first | omega | exact Nat.le_refl _⟩, ⟨by (with_reducible repeat (first | apply Kd.R_alloc | apply Kd.R_drewN | apply Kd.R_drew)); exact HO323.out⟩, ⟨by (with_reducible repeat (first | refine blk_drewN ?_ _ | refine blk_drew ?_ | refine blk_alloc ?_ _)); exact BK319.out⟩, ⟨by repeat (first | (with_reducible first | exact HB.out | apply below_alloc | apply pw_below_drewN | apply below_drew1 | refine below_set ?_ GE319.out) | exact HB.out)⟩⟩
        · rw [if_neg c16] at H
          have c16b0 : decide (a1 < 0) = false := decide_eq_false c16
          clear c16
          by_cases c18 : a1 ≥ (wrap64 (8 * (t321.length : Int)))
          · rw [if_pos c18] at H
            have c18b0 : decide ((wrap64 (8 * (t321.length : Int))) ≤ a1) = true := decide_eq_true c18
            clear c18
            have H' := Aside0.mk H
            clear H
            have hcz19_0 : w11.cell? ⟨gb319, 0, none⟩ = some (.int .i64 a0_0) := (blk_cell BK319.out 0).trans rfl
            have hcz19_1 : w11.cell? ⟨gb319, 1, none⟩ = some (.int .i64 a0_1) := (blk_cell BK319.out 1).trans rfl
            have hcz19_2 : w11.cell? ⟨gb319, 2, none⟩ = some (.int .i64 a0_2) := (blk_cell BK319.out 2).trans rfl
            have hcz19_3 : w11.cell? ⟨gb319, 3, none⟩ = some (.int .i64 a0_3) := (blk_cell BK319.out 3).trans rfl
            have hcz19_4 : w11.cell? ⟨gb319, 4, none⟩ = some (.int .u32 a0_4) := (blk_cell BK319.out 4).trans rfl
            have hcz19_5 : w11.cell? ⟨gb319, 5, none⟩ = some (.slice A0_5 l0_5.length c0_5) := (blk_cell BK319.out 5).trans rfl
            have hfz19_0 := blk_frozen BK319.out 0
            have hfz19_1 := blk_frozen BK319.out 1
            have hfz19_2 := blk_frozen BK319.out 2
            have hfz19_3 := blk_frozen BK319.out 3
            have hfz19_4 := blk_frozen BK319.out 4
            have hfz19_5 := blk_frozen BK319.out 5
            go_wp2
            go_meet
            case rel => exact ⟨_, (true), (by first | rfl | (simp; done) | (simp [*]; done)), H', ⟨by first | omega | exact Nat.le_refl _⟩, ⟨by (with_reducible repeat (first | apply Kd.R_alloc | apply Kd.R_drewN | apply Kd.R_drew)); exact HO323.out⟩, ⟨by (with_reducible repeat (first | refine blk_drewN ?_ _ | refine blk_drew ?_ | refine blk_alloc ?_ _)); exact BK319.out⟩, ⟨by repeat (first | (with_reducible first | exact HB.out | apply below_alloc | apply pw_below_drewN | apply below_drew1 | refine below_set ?_ GE319.out) | exact HB.out)⟩⟩
          · rw [if_neg c18] at H
            have c18b0 : decide ((wrap64 (8 * (t321.length : Int))) ≤ a1) = false := decide_eq_false c18
            clear c18
            by_cases c20 : a2 < 0
            · rw [if_pos c20] at H
              have c20b0 : decide (a2 < 0) = true := decide_eq_true c20
              clear c20
              have H' := Aside0.mk H
              clear H
              have hcz21_0 : w11.cell? ⟨gb319, 0, none⟩ = some (.int .i64 a0_0) := (blk_cell BK319.out 0).trans rfl
              have hcz21_1 : w11.cell? ⟨gb319, 1, none⟩ = some (.int .i64 a0_1) := (blk_cell BK319.out 1).trans rfl
              have hcz21_2 : w11.cell? ⟨gb319, 2, none⟩ = some (.int .i64 a0_2) := (blk_cell BK319.out 2).trans rfl
              have hcz21_3 : w11.cell? ⟨gb319, 3, none⟩ = some (.int .i64 a0_3) := (blk_cell BK319.out 3).trans rfl
              have hcz21_4 : w11.cell? ⟨gb319, 4, none⟩ = some (.int .u32 a0_4) := (blk_cell BK319.out 4).trans rfl
              have hcz21_5 : w11.cell? ⟨gb319, 5, none⟩ = some (.slice A0_5 l0_5.length c0_5) := (blk_cell BK319.out 5).trans rfl
              have hfz21_0 := blk_frozen BK319.out 0
              have hfz21_1 := blk_frozen BK319.out 1
              have hfz21_2 := blk_frozen BK319.out 2
              have hfz21_3 := blk_frozen BK319.out 3
              have hfz21_4 := blk_frozen BK319.out 4
              have hfz21_5 := blk_frozen BK319.out 5
              go_wp2
              go_meet
              case rel => exact ⟨_, (true), (by first | rfl | (simp; done) | (simp [*]; done)), H', ⟨by first | omega | exact Nat.le_refl _⟩, ⟨by (with_reducible repeat (first | apply Kd.R_alloc | apply Kd.R_drewN | apply Kd.R_drew)); exact HO323.out⟩, ⟨by (with_reducible repeat (first | refine blk_drewN ?_ _ | refine blk_drew ?_ | refine blk_alloc ?_ _)); exact BK319.out⟩, ⟨by repeat (first | (with_reducible first | exact HB.out | apply below_alloc | apply pw_below_drewN | apply below_drew1 | refine below_set ?_ GE319.out) | exact HB.out)⟩⟩
            · rw [if_neg c20] at H
              have c20b0 : decide (a2 < 0) = false := decide_eq_false c20
              clear c20
              by_cases c22 : a2 ≥ (wrap64 (8 * (t321.length : Int)))
              · rw [if_pos c22] at H
                have c22b0 : decide ((wrap64 (8 * (t321.length : Int))) ≤ a2) = true := decide_eq_true c22
                clear c22
                have H' := Aside0.mk H
                clear H
                have hcz23_0 : w11.cell? ⟨gb319, 0, none⟩ = some (.int .i64 a0_0) := (blk_cell BK319.out 0).trans rfl
                have hcz23_1 : w11.cell? ⟨gb319, 1, none⟩ = some (.int .i64 a0_1) := (blk_cell BK319.out 1).trans rfl
                have hcz23_2 : w11.cell? ⟨gb319, 2, none⟩ = some (.int .i64 a0_2) := (blk_cell BK319.out 2).trans rfl
                have hcz23_3 : w11.cell? ⟨gb319, 3, none⟩ = some (.int .i64 a0_3) := (blk_cell BK319.out 3).trans rfl
                have hcz23_4 : w11.cell? ⟨gb319, 4, none⟩ = some (.int .u32 a0_4) := (blk_cell BK319.out 4).trans rfl
                have hcz23_5 : w11.cell? ⟨gb319, 5, none⟩ = some (.slice A0_5 l0_5.length c0_5) := (blk_cell BK319.out 5).trans rfl
                have hfz23_0 := blk_frozen BK319.out 0
                have hfz23_1 := blk_frozen BK319.out 1
                have hfz23_2 := blk_frozen BK319.out 2
                have hfz23_3 := blk_frozen BK319.out 3
                have hfz23_4 := blk_frozen BK319.out 4
                have hfz23_5 := blk_frozen BK319.out 5
                go_wp2
                go_meet
                case rel => exact ⟨_, (true), (by first | rfl | (simp; done) | (simp [*]; done)), H', ⟨by first | omega | exact Nat.le_refl _⟩, ⟨by (with_reducible repeat (first | apply Kd.R_alloc | apply Kd.R_drewN | apply Kd.R_drew)); exact HO323.out⟩, ⟨by (with_reducible repeat (first | refine blk_drewN ?_ _ | refine blk_drew ?_ | refine blk_alloc ?_ _)); exact BK319.out⟩, ⟨by repeat (first | (with_reducible first | exact HB.out | apply below_alloc | apply pw_below_drewN | apply below_drew1 | refine below_set ?_ GE319.out) | exact HB.out)⟩⟩
              · rw [if_neg c22] at H
                have c22b0 : decide ((wrap64 (8 * (t321.length : Int))) ≤ a2) = false := decide_eq_false c22
                clear c22
                by_cases c24 : a3 < 0
                · rw [if_pos c24] at H
                  have c24b0 : decide (a3 < 0) = true := decide_eq_true c24
                  clear c24
                  have H' := Aside0.mk H
                  clear H
                  have hcz25_0 : w11.cell? ⟨gb319, 0, none⟩ = some (.int .i64 a0_0) := (blk_cell BK319.out 0).trans rfl
                  have hcz25_1 : w11.cell? ⟨gb319, 1, none⟩ = some (.int .i64 a0_1) := (blk_cell BK319.out 1).trans rfl
                  have hcz25_2 : w11.cell? ⟨gb319, 2, none⟩ = some (.int .i64 a0_2) := (blk_cell BK319.out 2).trans rfl
                  have hcz25_3 : w11.cell? ⟨gb319, 3, none⟩ = some (.int .i64 a0_3) := (blk_cell BK319.out 3).trans rfl
                  have hcz25_4 : w11.cell? ⟨gb319, 4, none⟩ = some (.int .u32 a0_4) := (blk_cell BK319.out 4).trans rfl
                  have hcz25_5 : w11.cell? ⟨gb319, 5, none⟩ = some (.slice A0_5 l0_5.length c0_5) := (blk_cell BK319.out 5).trans rfl
                  have hfz25_0 := blk_frozen BK319.out 0
                  have hfz25_1 := blk_frozen BK319.out 1
                  have hfz25_2 := blk_frozen BK319.out 2
                  have hfz25_3 := blk_frozen BK319.out 3
                  have hfz25_4 := blk_frozen BK319.out 4
                  have hfz25_5 := blk_frozen BK319.out 5
                  go_wp2
                  go_meet
                  case rel => exact ⟨_, (true), (by first | rfl | (simp; done) | (simp [*]; done)), H', ⟨by first | omega | exact Nat.le_refl _⟩, ⟨by (with_reducible repeat (first | apply Kd.R_alloc | apply Kd.R_drewN | apply Kd.R_drew)); exact HO323.out⟩, ⟨by (with_reducible repeat (first | refine blk_drewN ?_ _ | refine blk_drew ?_ | refine blk_alloc ?_ _)); exact BK319.out⟩, ⟨by repeat (first | (with_reducible first | exact HB.out | apply below_alloc | apply pw_below_drewN | apply below_drew1 | refine below_set ?_ GE319.out) | exact HB.out)⟩⟩
                · rw [if_neg c24] at H
                  have c24b0 : decide (a3 < 0) = false := decide_eq_false c24
                  clear c24
                  have H' := Aside0.mk H
                  clear H
                  have hcz26_0 : w11.cell? ⟨gb319, 0, none⟩ = some (.int .i64 a0_0) := (blk_cell BK319.out 0).trans rfl
                  have hcz26_1 : w11.cell? ⟨gb319, 1, none⟩ = some (.int .i64 a0_1) := (blk_cell BK319.out 1).trans rfl
                  have hcz26_2 : w11.cell? ⟨gb319, 2, none⟩ = some (.int .i64 a0_2) := (blk_cell BK319.out 2).trans rfl
                  have hcz26_3 : w11.cell? ⟨gb319, 3, none⟩ = some (.int .i64 a0_3) := (blk_cell BK319.out 3).trans rfl
                  have hcz26_4 : w11.cell? ⟨gb319, 4, none⟩ = some (.int .u32 a0_4) := (blk_cell BK319.out 4).trans rfl
                  have hcz26_5 : w11.cell? ⟨gb319, 5, none⟩ = some (.slice A0_5 l0_5.length c0_5) := (blk_cell BK319.out 5).trans rfl
                  have hfz26_0 := blk_frozen BK319.out 0
                  have hfz26_1 := blk_frozen BK319.out 1
                  have hfz26_2 := blk_frozen BK319.out 2
                  have hfz26_3 := blk_frozen BK319.out 3
                  have hfz26_4 := blk_frozen BK319.out 4
                  have hfz26_5 := blk_frozen BK319.out 5
                  go_wp2
                  go_meet
                  case rel => exact ⟨_, (decide (a3 ≥ (wrap64 (8 * (t321.length : Int))))), (by first | rfl | (simp; done) | (simp [*]; done)), H', ⟨by first | omega | exact Nat.le_refl _⟩, ⟨by (with_reducible repeat (first | apply Kd.R_alloc | apply Kd.R_drewN | apply Kd.R_drew)); exact HO323.out⟩, ⟨by (with_reducible repeat (first | refine blk_drewN ?_ _ | refine blk_drew ?_ | refine blk_alloc ?_ _)); exact BK319.out⟩, ⟨by repeat (first | (with_reducible first | exact HB.out | apply below_alloc | apply pw_below_drewN | apply below_drew1 | refine below_set ?_ GE319.out) | exact HB.out)⟩⟩
      · replace c15 := Bool.eq_false_iff.mpr c15
        subst c15
        have H1 : (rosettelaw22_PacketTurned.j0 k a1 a2 a3 t320 t321 true) = some r := by rw [if_neg (show ¬ (false = true) by decide)] at H; exact H
        clear H
        have H := H1
        clear H1
        have H' := Aside0.mk H
        clear H
        have hcz27_0 : w11.cell? ⟨gb319, 0, none⟩ = some (.int .i64 a0_0) := (blk_cell BK319.out 0).trans rfl
        have hcz27_1 : w11.cell? ⟨gb319, 1, none⟩ = some (.int .i64 a0_1) := (blk_cell BK319.out 1).trans rfl
        have hcz27_2 : w11.cell? ⟨gb319, 2, none⟩ = some (.int .i64 a0_2) := (blk_cell BK319.out 2).trans rfl
        have hcz27_3 : w11.cell? ⟨gb319, 3, none⟩ = some (.int .i64 a0_3) := (blk_cell BK319.out 3).trans rfl
        have hcz27_4 : w11.cell? ⟨gb319, 4, none⟩ = some (.int .u32 a0_4) := (blk_cell BK319.out 4).trans rfl
        have hcz27_5 : w11.cell? ⟨gb319, 5, none⟩ = some (.slice A0_5 l0_5.length c0_5) := (blk_cell BK319.out 5).trans rfl
        have hfz27_0 := blk_frozen BK319.out 0
        have hfz27_1 := blk_frozen BK319.out 1
        have hfz27_2 := blk_frozen BK319.out 2
        have hfz27_3 := blk_frozen BK319.out 3
        have hfz27_4 := blk_frozen BK319.out 4
        have hfz27_5 := blk_frozen BK319.out 5
        go_wp2
        go_meet
        case rel => exact ⟨_, (true), (by first | rfl | (simp; done) | (simp [*]; done)), H', ⟨by first | omega | exact Nat.le_refl _⟩, ⟨by (with_reducible repeat (first | apply Kd.R_alloc | apply Kd.R_drewN | apply Kd.R_drew)); exact HO323.out⟩, ⟨by (with_reducible repeat (first | refine blk_drewN ?_ _ | refine blk_drew ?_ | refine blk_alloc ?_ _)); exact BK319.out⟩, ⟨by repeat (first | (with_reducible first | exact HB.out | apply below_alloc | apply pw_below_drewN | apply below_drew1 | refine below_set ?_ GE319.out) | exact HB.out)⟩⟩
  case rest =>
    clear HC7
    try clear c1
    try clear c2
    try clear p2
    try clear c5
    try clear p6
    try clear c8
    try clear c9
    try clear c13
    try clear c13b0
    try clear c13b1
    try clear c15
    try clear c16
    try clear c16b0
    try clear c18
    try clear c18b0
    try clear c20
    try clear c20b0
    try clear c22
    try clear c22b0
    try clear c24
    try clear c24b0
    try clear hcz10_0
    try clear hcz10_1
    try clear hcz10_2
    try clear hcz10_3
    try clear hcz10_4
    try clear hcz10_5
    try clear hcz14_0
    try clear hcz14_1
    try clear hcz14_2
    try clear hcz14_3
    try clear hcz14_4
    try clear hcz14_5
    try clear hcz17_0
    try clear hcz17_1
    try clear hcz17_2
    try clear hcz17_3
    try clear hcz17_4
    try clear hcz17_5
    try clear hcz19_0
    try clear hcz19_1
    try clear hcz19_2
    try clear hcz19_3
    try clear hcz19_4
    try clear hcz19_5
    try clear hcz21_0
    try clear hcz21_1
    try clear hcz21_2
    try clear hcz21_3
    try clear hcz21_4
    try clear hcz21_5
    try clear hcz23_0
    try clear hcz23_1
    try clear hcz23_2
    try clear hcz23_3
    try clear hcz23_4
    try clear hcz23_5
    try clear hcz25_0
    try clear hcz25_1
    try clear hcz25_2
    try clear hcz25_3
    try clear hcz25_4
    try clear hcz25_5
    try clear hcz26_0
    try clear hcz26_1
    try clear hcz26_2
    try clear hcz26_3
    try clear hcz26_4
    try clear hcz26_5
    try clear hcz27_0
    try clear hcz27_1
    try clear hcz27_2
    try clear hcz27_3
    try clear hcz27_4
    try clear hcz27_5
    try clear hfz10_0
    try clear hfz10_1
    try clear hfz10_2
    try clear hfz10_3
    try clear hfz10_4
    try clear hfz10_5
    try clear hfz14_0
    try clear hfz14_1
    try clear hfz14_2
    try clear hfz14_3
    try clear hfz14_4
    try clear hfz14_5
    try clear hfz17_0
    try clear hfz17_1
    try clear hfz17_2
    try clear hfz17_3
    try clear hfz17_4
    try clear hfz17_5
    try clear hfz19_0
    try clear hfz19_1
    try clear hfz19_2
    try clear hfz19_3
    try clear hfz19_4
    try clear hfz19_5
    try clear hfz21_0
    try clear hfz21_1
    try clear hfz21_2
    try clear hfz21_3
    try clear hfz21_4
    try clear hfz21_5
    try clear hfz23_0
    try clear hfz23_1
    try clear hfz23_2
    try clear hfz23_3
    try clear hfz23_4
    try clear hfz23_5
    try clear hfz25_0
    try clear hfz25_1
    try clear hfz25_2
    try clear hfz25_3
    try clear hfz25_4
    try clear hfz25_5
    try clear hfz26_0
    try clear hfz26_1
    try clear hfz26_2
    try clear hfz26_3
    try clear hfz26_4
    try clear hfz26_5
    try clear hfz27_0
    try clear hfz27_1
    try clear hfz27_2
    try clear hfz27_3
    try clear hfz27_4
    try clear hfz27_5
    obtain ⟨kq, x58_6, rfl, HA, HJ6, HO_10, BK319, HB⟩ := hcut
    cases kq with
    | zero => exact absurd HA.out (by simp [rosettelaw22_PacketTurned.j0])
    | succ kj6 =>
      have H := HA.out
      clear HA
      simp only [rosettelaw22_PacketTurned.j0] at H
      by_cases c28 : x58_6 = true
      · subst c28
        have H1 : (some t320) = some r := by rw [if_pos rfl] at H; exact H
        clear H
        have H := H1
        clear H1
        obtain rfl := Option.some.inj H
        go_wp2
        go_ret
        exact ⟨by first | rfl | (simp [errW_none, errW_some] <;> rfl) | (simp [*, errW_none, errW_some] <;> rfl), by repeat (first | (with_reducible first | exact HB.out | apply below_alloc | apply pw_below_drewN | apply below_drew1 | refine below_set ?_ GE319.out) | exact HB.out)⟩
      · replace c28 := Bool.eq_false_iff.mpr c28
        subst c28
        have H1 : (if 0 ≤ (wrap64 (Int.tdiv a1 8)) then (if (wrap64 (Int.tdiv a1 8)) < (t321.length : Int) then (if 0 ≤ (IntKind.u64.wrap (Int.tmod a1 8)) then ((some (t321.set ((wrap64 (Int.tdiv a1 8)) : Int).toNat (Go.bits .xor .u8 (rd t321 (wrap64 (Int.tdiv a1 8))) (shl .u8 1 (IntKind.u64.wrap (Int.tmod a1 8)))) : List Int)).bind fun y326 => (if a2 = a1 then (rosettelaw22_PacketTurned.j1 kj6 a1 a2 a3 t320 y326) else (if 0 ≤ (wrap64 (Int.tdiv a2 8)) then (if (wrap64 (Int.tdiv a2 8)) < (t321.length : Int) then (if 0 ≤ (IntKind.u64.wrap (Int.tmod a2 8)) then (rosettelaw22_PacketTurned.j1 kj6 a1 a2 a3 t320 (y326.set ((wrap64 (Int.tdiv a2 8)) : Int).toNat (Go.bits .xor .u8 (rd y326 (wrap64 (Int.tdiv a2 8))) (shl .u8 1 (IntKind.u64.wrap (Int.tmod a2 8)))))) else (none)) else (none)) else (none)))) else (none)) else (none)) else (none)) = some r := by rw [if_neg (show ¬ (false = true) by decide)] at H; exact H
        clear H
        have H := H1
        clear H1
        obtain ⟨ji29, hji29⟩ : ∃ j_ : Int, (wrap64 (Int.tdiv a1 8)) = j_ := ⟨_, rfl⟩
        replace H : (if 0 ≤ (ji29) then (if (ji29) < (t321.length : Int) then (if 0 ≤ (IntKind.u64.wrap (Int.tmod a1 8)) then ((some (t321.set ((ji29) : Int).toNat (Go.bits .xor .u8 (rd t321 (ji29)) (shl .u8 1 (IntKind.u64.wrap (Int.tmod a1 8)))) : List Int)).bind fun y326 => (if a2 = a1 then (rosettelaw22_PacketTurned.j1 kj6 a1 a2 a3 t320 y326) else (if 0 ≤ (wrap64 (Int.tdiv a2 8)) then (if (wrap64 (Int.tdiv a2 8)) < (t321.length : Int) then (if 0 ≤ (IntKind.u64.wrap (Int.tmod a2 8)) then (rosettelaw22_PacketTurned.j1 kj6 a1 a2 a3 t320 (y326.set ((wrap64 (Int.tdiv a2 8)) : Int).toNat (Go.bits .xor .u8 (rd y326 (wrap64 (Int.tdiv a2 8))) (shl .u8 1 (IntKind.u64.wrap (Int.tmod a2 8)))))) else (none)) else (none)) else (none)))) else (none)) else (none)) else (none)) = some r := by first | (rw [hji29] at H; exact H) | (simp only [hji29] at H ⊢; exact H)
        have hji29w : (IntKind.i64.wrap (Int.tdiv a1 8)) = ji29 := (i64_w _).trans hji29
        by_cases c30 : 0 ≤ (ji29)
        · rw [if_pos c30] at H
          have c30b0 : decide (0 ≤ (ji29)) = true := decide_eq_true c30
          clear c30
          by_cases c31 : (ji29) < (t321.length : Int)
          · rw [if_pos c31] at H
            have c31b0 : decide ((ji29) < (t321.length : Int)) = true := decide_eq_true c31
            clear c31
            obtain ⟨ji32, hji32⟩ : ∃ j_ : Int, (IntKind.u64.wrap (Int.tmod a1 8)) = j_ := ⟨_, rfl⟩
            replace H : (if 0 ≤ (ji32) then ((some (t321.set ((ji29) : Int).toNat (Go.bits .xor .u8 (rd t321 (ji29)) (shl .u8 1 (ji32))) : List Int)).bind fun y326 => (if a2 = a1 then (rosettelaw22_PacketTurned.j1 kj6 a1 a2 a3 t320 y326) else (if 0 ≤ (wrap64 (Int.tdiv a2 8)) then (if (wrap64 (Int.tdiv a2 8)) < (t321.length : Int) then (if 0 ≤ (IntKind.u64.wrap (Int.tmod a2 8)) then (rosettelaw22_PacketTurned.j1 kj6 a1 a2 a3 t320 (y326.set ((wrap64 (Int.tdiv a2 8)) : Int).toNat (Go.bits .xor .u8 (rd y326 (wrap64 (Int.tdiv a2 8))) (shl .u8 1 (IntKind.u64.wrap (Int.tmod a2 8)))))) else (none)) else (none)) else (none)))) else (none)) = some r := by first | (rw [hji32] at H; exact H) | (simp only [hji32] at H ⊢; exact H)
            by_cases c33 : 0 ≤ (ji32)
            · rw [if_pos c33] at H
              have c33b0 := eq_true c33
              have c33b1 : decide (0 ≤ (ji32)) = true := decide_eq_true c33
              clear c33
              obtain ⟨ji34, hji34⟩ : ∃ j_ : Int, (shl .u8 1 (ji32)) = j_ := ⟨_, rfl⟩
              replace H : ((some (t321.set ((ji29) : Int).toNat (Go.bits .xor .u8 (rd t321 (ji29)) (ji34)) : List Int)).bind fun y326 => (if a2 = a1 then (rosettelaw22_PacketTurned.j1 kj6 a1 a2 a3 t320 y326) else (if 0 ≤ (wrap64 (Int.tdiv a2 8)) then (if (wrap64 (Int.tdiv a2 8)) < (t321.length : Int) then (if 0 ≤ (IntKind.u64.wrap (Int.tmod a2 8)) then (rosettelaw22_PacketTurned.j1 kj6 a1 a2 a3 t320 (y326.set ((wrap64 (Int.tdiv a2 8)) : Int).toNat (Go.bits .xor .u8 (rd y326 (wrap64 (Int.tdiv a2 8))) (shl .u8 1 (IntKind.u64.wrap (Int.tmod a2 8)))))) else (none)) else (none)) else (none)))) = some r := by first | (rw [hji34] at H; exact H) | (simp only [hji34] at H ⊢; exact H)
              have hji34_ : (IntKind.u8.wrap (1 * 2 ^ min (ji32).toNat 8)) = ji34 := hji34
              have hji34z : (ji32) ≤ 8 → (IntKind.u8.wrap (1 * 2 ^ (ji32).toNat)) = ji34 := shl_small hji34
              have hji34u : (IntKind.u8.wrap (2 ^ min (ji32).toNat 8)) = ji34 := by have h_ := hji34_; rw [Int.one_mul] at h_; exact h_
              have hji34v : (ji32) ≤ 8 → (IntKind.u8.wrap (2 ^ (ji32).toNat)) = ji34 := fun hle_ => by have h_ := hji34z hle_; rw [Int.one_mul] at h_; exact h_
              have hji34l : (2 ^ ((ji32)).toNat % 256) = ji34 := by have h_ := hji34u; rw [IntKind.wrap_u8, pow_min8] at h_; exact h_
              obtain ⟨y326, hy326⟩ : ∃ y_ : List Int, y_ = (t321.set ((ji29) : Int).toNat (Go.bits .xor .u8 (rd t321 (ji29)) (ji34))) := ⟨_, rfl⟩
              replace H : (if a2 = a1 then (rosettelaw22_PacketTurned.j1 kj6 a1 a2 a3 t320 y326) else (if 0 ≤ (wrap64 (Int.tdiv a2 8)) then (if (wrap64 (Int.tdiv a2 8)) < (t321.length : Int) then (if 0 ≤ (IntKind.u64.wrap (Int.tmod a2 8)) then (rosettelaw22_PacketTurned.j1 kj6 a1 a2 a3 t320 (y326.set ((wrap64 (Int.tdiv a2 8)) : Int).toNat (Go.bits .xor .u8 (rd y326 (wrap64 (Int.tdiv a2 8))) (shl .u8 1 (IntKind.u64.wrap (Int.tmod a2 8)))))) else (none)) else (none)) else (none))) = some r := by first | (rw [hy326]; with_reducible exact H) | (have H2_ := (Option.bind_some _ _).symm.trans H; rw [hy326]; with_reducible exact H2_) | (have H2_ := (Option.bind_some _ _).symm.trans H; with_reducible exact H2_) | with_reducible exact H | (rw [hy326]; exact H) | exact H
              have Ny326 := Aside0.mk hy326
              clear hy326
              have HC36 := Aside0.mk H
              clear H
              have p325 : 0 ≤ ((ji29) : Int) := of_decide_eq_true (by first | (with_reducible assumption) | assumption)
              have q325 : (ji29) < (t321.length : Int) := of_decide_eq_true (by first | (with_reducible assumption) | assumption)
              obtain ⟨ad325, e325, hx325_0⟩ := Kd.at_int (Kd.R_reads' HO_10.out).2.2 (ji29) p325 q325
              cases e325
              replace p325 := eq_true p325
              replace q325 := eq_true q325
              have p35 : 0 ≤ ((ji29) : Int) := of_decide_eq_true (by first | (with_reducible assumption) | assumption)
              have q35 : ((ji29) : Int) < ((t321.length : Int) : Int) := of_decide_eq_true (by first | (with_reducible assumption) | assumption)
              obtain ⟨go35, co35, eo35, gb35, gl35, cl35, HG35⟩ := Kd.R_form HO_10.out (by omega)
              (first | cases eo35 | (injection eo35 with ea_ en_ ec_; (first | subst ea_ | (injection ea_ with ea_; subst ea_)); subst ec_; clear en_))
              have GB35 := Aside0.mk gb35
              have GG35 := Aside0.mk HG35
              clear gb35 gl35 HG35
              (first | simp only [add_plain] at hx325_0 | skip)
              obtain ⟨hx35_0, hf35_0⟩ := Kd.R_celln 0 HO_10.out ((ji29) : Int) p35 q35
              replace p35 := eq_true p35
              replace q35 := eq_true q35
              have HP37 := Kd.R_putg HO_10.out ((ji29) : Int) (Go.bits .xor .u8 (rd t321 (ji29)) (ji34))
              go_upto_if 76 with (first | ((with_reducible refine gate_store (t := 5) (p := 73) rfl ?_); refine store_event (t := 5) (p := 73) (v := ?vo_w38) (w1 := (wc.setCell ⟨go35, ((ji29) : Int).toNat, none⟩ (.int .u8 (Go.bits .xor .u8 (rd t321 (ji29)) (ji34))))) ?hg ?ho ?hn ?hr ?_; (case ho => rfl); (case hg => rfl); (case hn => rfl); (case hr => first | (go_simp; done) | (go_simp; rfl)); intro w38 hw; have hg : wc.grownBy w38 (some go35) := (by rw [hw]; exact HP37.2); have hp_ : Kd.R (Kd.int .u8) 5 w38 w.heap.size (fun _ => True) (.slice (some ⟨go35, 0, none⟩) t321.length co12) y326 := (by rw [hw, Ny326.out]; exact HP37.1); clear HP37; have n0_ := Aside0.mk (hp_); have n1_ := Aside0.mk (blk_grown (g := gb319) (o := .cells #[.int .i64 a0_0, .int .i64 a0_1, .int .i64 a0_2, .int .i64 a0_3, .int .u32 a0_4, .slice A0_5 l0_5.length c0_5] 25 (0, 0)) (by (with_reducible repeat (first | refine blk_drewN ?_ _ | refine blk_drew ?_ | refine blk_alloc ?_ _)); exact BK319.out) hg (Kd.R_ne HO_10.out BK319.out (by decide))); have n2_ := Aside0.mk ((by rw [hw]; exact below_set (HB.out) GB35.out : Below w.heap.size w w38)); clear HO_10; clear BK319; clear HB; have HO_10 := n0_; have BK319 := n1_; have HB := n2_; clear n0_ n1_ n2_; clear hg hw hp_))
              (try simp only [Act.put, List.setIfInBounds_toArray, List.set_cons_zero, List.set_cons_succ])
              go_cut [] (fun wc => ∃ (kq : Nat) (x10_35 : List Int), Aside0 (rosettelaw22_PacketTurned.j1 kq a1 a2 a3 t320 x10_35 = some r) ∧ Aside0 (kq ≤ kj6) ∧ Aside0 (Kd.R (Kd.int .u8) 5 wc w.heap.size (fun _ => True) (.slice (some ⟨go35, 0, none⟩) t321.length co12) x10_35) ∧ Aside0 (wc.heap[gb319]? = some (.cells #[.int .i64 a0_0, .int .i64 a0_1, .int .i64 a0_2, .int .i64 a0_3, .int .u32 a0_4, (.slice A0_5 l0_5.length c0_5)] 25 (0, 0))) ∧ Aside0 (Below w.heap.size w wc))
              case first =>
                have H := HC36.out
                clear HC36
                by_cases c39 : a2 = a1
                · rw [if_pos c39] at H
                  have c39b0 : (a2 == a1) = true := beq_iff_eq.mpr c39
                  have c39b1 : (a2 != a1) = false := bne_eq_false_iff_eq.mpr c39
                  clear c39
                  (first | rw [c39b0] | (simp only [i64_w, i32_w]; rw [c39b0]) | skip)
                  have H' := Aside0.mk H
                  clear H
                  go_wp2
                  go_meet
                  case rel => exact ⟨_, (y326), H', ⟨by have := HJ6.out; first | omega | exact Nat.le_refl _⟩, ⟨by (with_reducible repeat (first | apply Kd.R_alloc | apply Kd.R_drewN | apply Kd.R_drew)); exact HO_10.out⟩, ⟨by (with_reducible repeat (first | refine blk_drewN ?_ _ | refine blk_drew ?_ | refine blk_alloc ?_ _)); exact BK319.out⟩, ⟨by repeat (first | (with_reducible first | exact HB.out | apply below_alloc | apply pw_below_drewN | apply below_drew1 | refine below_set ?_ GE319.out) | exact HB.out)⟩⟩
                · rw [if_neg c39] at H
                  have c39b0 : (a2 == a1) = false := beq_eq_false_iff_ne.mpr c39
                  have c39b1 : (a2 != a1) = true := bne_iff_ne.mpr c39
                  (first | rw [c39b0] | (simp only [i64_w, i32_w]; rw [c39b0]) | skip)
                  obtain ⟨ji40, hji40⟩ : ∃ j_ : Int, (wrap64 (Int.tdiv a2 8)) = j_ := ⟨_, rfl⟩
                  replace H : (if 0 ≤ (ji40) then (if (ji40) < (t321.length : Int) then (if 0 ≤ (IntKind.u64.wrap (Int.tmod a2 8)) then (rosettelaw22_PacketTurned.j1 kj6 a1 a2 a3 t320 (y326.set ((ji40) : Int).toNat (Go.bits .xor .u8 (rd y326 (ji40)) (shl .u8 1 (IntKind.u64.wrap (Int.tmod a2 8)))))) else (none)) else (none)) else (none)) = some r := by first | (rw [hji40] at H; exact H) | (simp only [hji40] at H ⊢; exact H)
                  have hji40w : (IntKind.i64.wrap (Int.tdiv a2 8)) = ji40 := (i64_w _).trans hji40
                  by_cases c41 : 0 ≤ (ji40)
                  · rw [if_pos c41] at H
                    have c41b0 : decide (0 ≤ (ji40)) = true := decide_eq_true c41
                    clear c41
                    by_cases c42 : (ji40) < (t321.length : Int)
                    · rw [if_pos c42] at H
                      have c42b0 : decide ((ji40) < (t321.length : Int)) = true := decide_eq_true c42
                      clear c42
                      obtain ⟨ji43, hji43⟩ : ∃ j_ : Int, (IntKind.u64.wrap (Int.tmod a2 8)) = j_ := ⟨_, rfl⟩
                      replace H : (if 0 ≤ (ji43) then (rosettelaw22_PacketTurned.j1 kj6 a1 a2 a3 t320 (y326.set ((ji40) : Int).toNat (Go.bits .xor .u8 (rd y326 (ji40)) (shl .u8 1 (ji43))))) else (none)) = some r := by first | (rw [hji43] at H; exact H) | (simp only [hji43] at H ⊢; exact H)
                      by_cases c44 : 0 ≤ (ji43)
                      · rw [if_pos c44] at H
                        have c44b0 := eq_true c44
                        have c44b1 : decide (0 ≤ (ji43)) = true := decide_eq_true c44
                        clear c44
                        obtain ⟨ji45, hji45⟩ : ∃ j_ : Int, (shl .u8 1 (ji43)) = j_ := ⟨_, rfl⟩
                        replace H : (rosettelaw22_PacketTurned.j1 kj6 a1 a2 a3 t320 (y326.set ((ji40) : Int).toNat (Go.bits .xor .u8 (rd y326 (ji40)) (ji45)))) = some r := by first | (rw [hji45] at H; exact H) | (simp only [hji45] at H ⊢; exact H)
                        have hji45_ : (IntKind.u8.wrap (1 * 2 ^ min (ji43).toNat 8)) = ji45 := hji45
                        have hji45z : (ji43) ≤ 8 → (IntKind.u8.wrap (1 * 2 ^ (ji43).toNat)) = ji45 := shl_small hji45
                        have hji45u : (IntKind.u8.wrap (2 ^ min (ji43).toNat 8)) = ji45 := by have h_ := hji45_; rw [Int.one_mul] at h_; exact h_
                        have hji45v : (ji43) ≤ 8 → (IntKind.u8.wrap (2 ^ (ji43).toNat)) = ji45 := fun hle_ => by have h_ := hji45z hle_; rw [Int.one_mul] at h_; exact h_
                        have hji45l : (2 ^ ((ji43)).toNat % 256) = ji45 := by have h_ := hji45u; rw [IntKind.wrap_u8, pow_min8] at h_; exact h_
                        obtain ⟨y328, hy328⟩ : ∃ y_ : List Int, y_ = (y326.set ((ji40) : Int).toNat (Go.bits .xor .u8 (rd y326 (ji40)) (ji45))) := ⟨_, rfl⟩
                        replace H : (rosettelaw22_PacketTurned.j1 kj6 a1 a2 a3 t320 y328) = some r := by first | (rw [hy328]; with_reducible exact H) | (have H2_ := (Option.bind_some _ _).symm.trans H; rw [hy328]; with_reducible exact H2_) | (have H2_ := (Option.bind_some _ _).symm.trans H; with_reducible exact H2_) | with_reducible exact H | (rw [hy328]; exact H) | exact H
                        have Ny328 := Aside0.mk hy328
                        clear hy328
                        have H' := Aside0.mk H
                        clear H
                        have p327 : 0 ≤ ((ji40) : Int) := of_decide_eq_true (by first | (with_reducible assumption) | assumption)
                        have q327 : (ji40) < (y326.length : Int) := (by have h_ : ((ji40) : Int) < ((t321.length : Int) : Int) := of_decide_eq_true (by first | (with_reducible assumption) | assumption); first | (have e_ := (Kd.R_reads' HO_10.out).1; omega) | simpa only [Ny326.out, List.length_set] using h_)
                        have ql327 : (((ji40) : Int) < ((t321.length : Int) : Int)) = True := eq_true (of_decide_eq_true (by first | (with_reducible assumption) | assumption))
                        obtain ⟨ad327, e327, hx327_0⟩ := Kd.at_int (Kd.R_reads' HO_10.out).2.2 (ji40) p327 q327
                        obtain rfl : (⟨go35, 0, none⟩ : Addr) = ad327 := (by injection e327)
                        (first | simp only [add_plain] at hx327_0 | simp only [add_at] at hx327_0 | simp only [Addr.add, Nat.zero_add] at hx327_0 | skip)
                        replace p327 := eq_true p327
                        replace q327 := eq_true q327
                        have p46 : 0 ≤ ((ji40) : Int) := of_decide_eq_true (by first | (with_reducible assumption) | assumption)
                        have q46 : ((ji40) : Int) < ((t321.length : Int) : Int) := of_decide_eq_true (by first | (with_reducible assumption) | assumption)
                        obtain ⟨hx46_0, hf46_0⟩ := Kd.R_celln 0 HO_10.out ((ji40) : Int) p46 q46
                        replace p46 := eq_true p46
                        replace q46 := eq_true q46
                        have HP47 := Kd.R_putg HO_10.out ((ji40) : Int) (Go.bits .xor .u8 (rd y326 (ji40)) (ji45))
                        go_wp2_with (first | ((with_reducible refine gate_store (t := 5) (p := 90) rfl ?_); refine store_event (t := 5) (p := 90) (v := ?vo_w48) (w1 := (w38.setCell ⟨go35, ((ji40) : Int).toNat, none⟩ (.int .u8 (Go.bits .xor .u8 (rd y326 (ji40)) (ji45))))) ?hg ?ho ?hn ?hr ?_; (case ho => rfl); (case hg => rfl); (case hn => rfl); (case hr => first | (go_simp; done) | (go_simp; rfl)); intro w48 hw; have hg : w38.grownBy w48 (some go35) := (by rw [hw]; exact HP47.2); have hp_ : Kd.R (Kd.int .u8) 5 w48 w.heap.size (fun _ => True) (.slice (some ⟨go35, 0, none⟩) t321.length co12) y328 := (by rw [hw, Ny328.out]; exact HP47.1); clear HP47; have n0_ := Aside0.mk (hp_); have n1_ := Aside0.mk (blk_grown (g := gb319) (o := .cells #[.int .i64 a0_0, .int .i64 a0_1, .int .i64 a0_2, .int .i64 a0_3, .int .u32 a0_4, .slice A0_5 l0_5.length c0_5] 25 (0, 0)) (by (with_reducible repeat (first | refine blk_drewN ?_ _ | refine blk_drew ?_ | refine blk_alloc ?_ _)); exact BK319.out) hg (Kd.R_ne HO_10.out BK319.out (by decide))); have n2_ := Aside0.mk ((by rw [hw]; exact below_set (HB.out) GB35.out : Below w.heap.size w w48)); clear HO_10; clear BK319; clear HB; have HO_10 := n0_; have BK319 := n1_; have HB := n2_; clear n0_ n1_ n2_; clear hg hw hp_))
                        go_meet
                        case rel => exact ⟨_, (y328), H', ⟨by have := HJ6.out; first | omega | exact Nat.le_refl _⟩, ⟨by (with_reducible repeat (first | apply Kd.R_alloc | apply Kd.R_drewN | apply Kd.R_drew)); exact HO_10.out⟩, ⟨by (with_reducible repeat (first | refine blk_drewN ?_ _ | refine blk_drew ?_ | refine blk_alloc ?_ _)); exact BK319.out⟩, ⟨by repeat (first | (with_reducible first | exact HB.out | apply below_alloc | apply pw_below_drewN | apply below_drew1 | refine below_set ?_ GE319.out) | exact HB.out)⟩⟩
                      · rw [if_neg c44] at H
                        exact absurd H (by simp)
                    · rw [if_neg c42] at H
                      exact absurd H (by simp)
                  · rw [if_neg c41] at H
                    exact absurd H (by simp)
              case rest =>
                clear HC36
                try clear c1
                try clear c2
                try clear p2
                try clear c3
                try clear p3
                try clear q3
                try clear hx3
                try clear c4
                try clear p4
                try clear q4
                try clear hx4
                try clear hf4
                try clear c5
                try clear p6
                try clear c8
                try clear c9
                try clear c13
                try clear c13b0
                try clear c13b1
                try clear c15
                try clear c16
                try clear c16b0
                try clear c18
                try clear c18b0
                try clear c20
                try clear c20b0
                try clear c22
                try clear c22b0
                try clear c24
                try clear c24b0
                try clear c28
                try clear c30
                try clear c30b0
                try clear c31
                try clear c31b0
                try clear p32
                try clear q32
                try clear hx32
                try clear c33
                try clear c33b0
                try clear c33b1
                try clear p35
                try clear q35
                try clear hx35
                try clear hf35
                try clear c39
                try clear c39b0
                try clear c39b1
                try clear c41
                try clear c41b0
                try clear c42
                try clear c42b0
                try clear c44
                try clear c44b0
                try clear c44b1
                try clear p46
                try clear q46
                try clear hx46
                try clear hf46
                try clear hcz10_0
                try clear hcz10_1
                try clear hcz10_2
                try clear hcz10_3
                try clear hcz10_4
                try clear hcz10_5
                try clear hcz14_0
                try clear hcz14_1
                try clear hcz14_2
                try clear hcz14_3
                try clear hcz14_4
                try clear hcz14_5
                try clear hcz17_0
                try clear hcz17_1
                try clear hcz17_2
                try clear hcz17_3
                try clear hcz17_4
                try clear hcz17_5
                try clear hcz19_0
                try clear hcz19_1
                try clear hcz19_2
                try clear hcz19_3
                try clear hcz19_4
                try clear hcz19_5
                try clear hcz21_0
                try clear hcz21_1
                try clear hcz21_2
                try clear hcz21_3
                try clear hcz21_4
                try clear hcz21_5
                try clear hcz23_0
                try clear hcz23_1
                try clear hcz23_2
                try clear hcz23_3
                try clear hcz23_4
                try clear hcz23_5
                try clear hcz25_0
                try clear hcz25_1
                try clear hcz25_2
                try clear hcz25_3
                try clear hcz25_4
                try clear hcz25_5
                try clear hcz26_0
                try clear hcz26_1
                try clear hcz26_2
                try clear hcz26_3
                try clear hcz26_4
                try clear hcz26_5
                try clear hcz27_0
                try clear hcz27_1
                try clear hcz27_2
                try clear hcz27_3
                try clear hcz27_4
                try clear hcz27_5
                try clear hfz10_0
                try clear hfz10_1
                try clear hfz10_2
                try clear hfz10_3
                try clear hfz10_4
                try clear hfz10_5
                try clear hfz14_0
                try clear hfz14_1
                try clear hfz14_2
                try clear hfz14_3
                try clear hfz14_4
                try clear hfz14_5
                try clear hfz17_0
                try clear hfz17_1
                try clear hfz17_2
                try clear hfz17_3
                try clear hfz17_4
                try clear hfz17_5
                try clear hfz19_0
                try clear hfz19_1
                try clear hfz19_2
                try clear hfz19_3
                try clear hfz19_4
                try clear hfz19_5
                try clear hfz21_0
                try clear hfz21_1
                try clear hfz21_2
                try clear hfz21_3
                try clear hfz21_4
                try clear hfz21_5
                try clear hfz23_0
                try clear hfz23_1
                try clear hfz23_2
                try clear hfz23_3
                try clear hfz23_4
                try clear hfz23_5
                try clear hfz25_0
                try clear hfz25_1
                try clear hfz25_2
                try clear hfz25_3
                try clear hfz25_4
                try clear hfz25_5
                try clear hfz26_0
                try clear hfz26_1
                try clear hfz26_2
                try clear hfz26_3
                try clear hfz26_4
                try clear hfz26_5
                try clear hfz27_0
                try clear hfz27_1
                try clear hfz27_2
                try clear hfz27_3
                try clear hfz27_4
                try clear hfz27_5
                try clear hx325_0
                try clear hx327_0
                try clear hx35_0
                try clear hx46_0
                try clear p2
                try clear p325
                try clear p327
                try clear p35
                try clear p46
                try clear p6
                try clear q325
                try clear q327
                try clear q35
                try clear q46
                obtain ⟨kq, x10_35, HA, HJ35, HO_10, BK319, HB⟩ := hcut
                have hl10_35 := (Kd.R_reads' HO_10.out).1
                rw [hl10_35] at HO_10
                (try simp only [hl10_35])
                (try simp only [hl10_35] at BK319)
                cases kq with
                | zero => exact absurd HA.out (by simp [rosettelaw22_PacketTurned.j1])
                | succ kj35 =>
                  have H := HA.out
                  clear HA
                  simp only [rosettelaw22_PacketTurned.j1] at H
                  have HC49 := Aside0.mk H
                  clear H
                  go_upto_region 9 with (fail)
                  go_cut [98] (fun v98 wc => ∃ (kq : Nat) (x98_48 : Bool), v98 = .bool x98_48 ∧ Aside0 (rosettelaw22_PacketTurned.j2 kq a3 t320 x10_35 x98_48 = some r) ∧ Aside0 (kq ≤ kj35) ∧ Aside0 (Kd.R (Kd.int .u8) 5 wc w.heap.size (fun _ => True) (.slice (some ⟨go35, 0, none⟩) x10_35.length co12) x10_35) ∧ Aside0 (wc.heap[gb319]? = some (.cells #[.int .i64 a0_0, .int .i64 a0_1, .int .i64 a0_2, .int .i64 a0_3, .int .u32 a0_4, (.slice A0_5 l0_5.length c0_5)] 25 (0, 0))) ∧ Aside0 (Below w.heap.size w wc))
                  case first =>
                    have H := HC49.out
                    clear HC49
                    by_cases c50 : a3 = a1
                    · rw [if_pos c50] at H
                      have c50b0 : (a3 == a1) = true := beq_iff_eq.mpr c50
                      have c50b1 : (a3 != a1) = false := bne_eq_false_iff_eq.mpr c50
                      clear c50
                      (first | rw [c50b0] | (simp only [i64_w, i32_w]; rw [c50b0]) | skip)
                      have H' := Aside0.mk H
                      clear H
                      go_wp2
                      go_meet
                      case rel => exact ⟨_, (false), (by first | rfl | (simp; done) | (simp [*]; done)), H', ⟨by have := HJ6.out; have := HJ35.out; first | omega | exact Nat.le_refl _⟩, ⟨by (try simp only [hl10_35]); (with_reducible repeat (first | apply Kd.R_alloc | apply Kd.R_drewN | apply Kd.R_drew)); exact HO_10.out⟩, ⟨by (try simp only [hl10_35]); (with_reducible repeat (first | refine blk_drewN ?_ _ | refine blk_drew ?_ | refine blk_alloc ?_ _)); exact BK319.out⟩, ⟨by repeat (first | (with_reducible first | exact HB.out | apply below_alloc | apply pw_below_drewN | apply below_drew1 | refine below_set ?_ GE319.out) | exact HB.out)⟩⟩
                    · rw [if_neg c50] at H
                      have c50b0 : (a3 == a1) = false := beq_eq_false_iff_ne.mpr c50
                      have c50b1 : (a3 != a1) = true := bne_iff_ne.mpr c50
                      (first | rw [c50b0] | (simp only [i64_w, i32_w]; rw [c50b0]) | skip)
                      have H' := Aside0.mk H
                      clear H
                      go_wp2
                      go_meet
                      case rel => exact ⟨_, ((a3 != a2)), (by first | rfl | (simp; done) | (simp [*]; done)), H', ⟨by have := HJ6.out; have := HJ35.out; first | omega | exact Nat.le_refl _⟩, ⟨by (try simp only [hl10_35]); (with_reducible repeat (first | apply Kd.R_alloc | apply Kd.R_drewN | apply Kd.R_drew)); exact HO_10.out⟩, ⟨by (try simp only [hl10_35]); (with_reducible repeat (first | refine blk_drewN ?_ _ | refine blk_drew ?_ | refine blk_alloc ?_ _)); exact BK319.out⟩, ⟨by repeat (first | (with_reducible first | exact HB.out | apply below_alloc | apply pw_below_drewN | apply below_drew1 | refine below_set ?_ GE319.out) | exact HB.out)⟩⟩
                  case rest =>
                    clear HC49
                    try clear c1
                    try clear c2
                    try clear p2
                    try clear c3
                    try clear p3
                    try clear q3
                    try clear hx3
                    try clear c4
                    try clear p4
                    try clear q4
                    try clear hx4
                    try clear hf4
                    try clear c5
                    try clear p6
                    try clear c8
                    try clear c9
                    try clear c13
                    try clear c13b0
                    try clear c13b1
                    try clear c15
                    try clear c16
                    try clear c16b0
                    try clear c18
                    try clear c18b0
                    try clear c20
                    try clear c20b0
                    try clear c22
                    try clear c22b0
                    try clear c24
                    try clear c24b0
                    try clear c28
                    try clear c30
                    try clear c30b0
                    try clear c31
                    try clear c31b0
                    try clear p32
                    try clear q32
                    try clear hx32
                    try clear c33
                    try clear c33b0
                    try clear c33b1
                    try clear p35
                    try clear q35
                    try clear hx35
                    try clear hf35
                    try clear c39
                    try clear c39b0
                    try clear c39b1
                    try clear c41
                    try clear c41b0
                    try clear c42
                    try clear c42b0
                    try clear c44
                    try clear c44b0
                    try clear c44b1
                    try clear p46
                    try clear q46
                    try clear hx46
                    try clear hf46
                    try clear c50
                    try clear c50b0
                    try clear c50b1
                    try clear hcz10_0
                    try clear hcz10_1
                    try clear hcz10_2
                    try clear hcz10_3
                    try clear hcz10_4
                    try clear hcz10_5
                    try clear hcz14_0
                    try clear hcz14_1
                    try clear hcz14_2
                    try clear hcz14_3
                    try clear hcz14_4
                    try clear hcz14_5
                    try clear hcz17_0
                    try clear hcz17_1
                    try clear hcz17_2
                    try clear hcz17_3
                    try clear hcz17_4
                    try clear hcz17_5
                    try clear hcz19_0
                    try clear hcz19_1
                    try clear hcz19_2
                    try clear hcz19_3
                    try clear hcz19_4
                    try clear hcz19_5
                    try clear hcz21_0
                    try clear hcz21_1
                    try clear hcz21_2
                    try clear hcz21_3
                    try clear hcz21_4
                    try clear hcz21_5
                    try clear hcz23_0
                    try clear hcz23_1
                    try clear hcz23_2
                    try clear hcz23_3
                    try clear hcz23_4
                    try clear hcz23_5
                    try clear hcz25_0
                    try clear hcz25_1
                    try clear hcz25_2
                    try clear hcz25_3
                    try clear hcz25_4
                    try clear hcz25_5
                    try clear hcz26_0
                    try clear hcz26_1
                    try clear hcz26_2
                    try clear hcz26_3
                    try clear hcz26_4
                    try clear hcz26_5
                    try clear hcz27_0
                    try clear hcz27_1
                    try clear hcz27_2
                    try clear hcz27_3
                    try clear hcz27_4
                    try clear hcz27_5
                    try clear hfz10_0
                    try clear hfz10_1
                    try clear hfz10_2
                    try clear hfz10_3
                    try clear hfz10_4
                    try clear hfz10_5
                    try clear hfz14_0
                    try clear hfz14_1
                    try clear hfz14_2
                    try clear hfz14_3
                    try clear hfz14_4
                    try clear hfz14_5
                    try clear hfz17_0
                    try clear hfz17_1
                    try clear hfz17_2
                    try clear hfz17_3
                    try clear hfz17_4
                    try clear hfz17_5
                    try clear hfz19_0
                    try clear hfz19_1
                    try clear hfz19_2
                    try clear hfz19_3
                    try clear hfz19_4
                    try clear hfz19_5
                    try clear hfz21_0
                    try clear hfz21_1
                    try clear hfz21_2
                    try clear hfz21_3
                    try clear hfz21_4
                    try clear hfz21_5
                    try clear hfz23_0
                    try clear hfz23_1
                    try clear hfz23_2
                    try clear hfz23_3
                    try clear hfz23_4
                    try clear hfz23_5
                    try clear hfz25_0
                    try clear hfz25_1
                    try clear hfz25_2
                    try clear hfz25_3
                    try clear hfz25_4
                    try clear hfz25_5
                    try clear hfz26_0
                    try clear hfz26_1
                    try clear hfz26_2
                    try clear hfz26_3
                    try clear hfz26_4
                    try clear hfz26_5
                    try clear hfz27_0
                    try clear hfz27_1
                    try clear hfz27_2
                    try clear hfz27_3
                    try clear hfz27_4
                    try clear hfz27_5
                    try clear hx325_0
                    try clear hx327_0
                    try clear hx35_0
                    try clear hx46_0
                    try clear p2
                    try clear p3
                    try clear p32
                    try clear p325
                    try clear p327
                    try clear p35
                    try clear p4
                    try clear p46
                    try clear p6
                    try clear q3
                    try clear q32
                    try clear q325
                    try clear q327
                    try clear q35
                    try clear q4
                    try clear q46
                    obtain ⟨kq, x98_48, rfl, HA, HJ48, HO_10, BK319, HB⟩ := hcut
                    cases kq with
                    | zero => exact absurd HA.out (by simp [rosettelaw22_PacketTurned.j2])
                    | succ kj48 =>
                      have H := HA.out
                      clear HA
                      simp only [rosettelaw22_PacketTurned.j2] at H
                      by_cases c51 : x98_48 = true
                      · subst c51
                        have H1 : (if 0 ≤ (wrap64 (Int.tdiv a3 8)) then (if (wrap64 (Int.tdiv a3 8)) < (x10_35.length : Int) then (if 0 ≤ (IntKind.u64.wrap (Int.tmod a3 8)) then ((packet_Decode.f (x10_35.set ((wrap64 (Int.tdiv a3 8)) : Int).toNat (Go.bits .xor .u8 (rd x10_35 (wrap64 (Int.tdiv a3 8))) (shl .u8 1 (IntKind.u64.wrap (Int.tmod a3 8)))))).bind fun bt331 => (if t320 = true then (if bt331.2.2.2.2.2.2 = 6 then ((rosetteref22_Same.f bt331.1 bt331.2.1 bt331.2.2.1 bt331.2.2.2.1 bt331.2.2.2.2.1 bt331.2.2.2.2.2.1 0 0 0 0 0 ([] : List Int)).bind fun t341 => (some t341)) else (some false)) else (some false))) else (none)) else (none)) else (none)) = some r := by rw [if_pos rfl] at H; exact H
                        clear H
                        have H := H1
                        clear H1
                        obtain ⟨ji52, hji52⟩ : ∃ j_ : Int, (wrap64 (Int.tdiv a3 8)) = j_ := ⟨_, rfl⟩
                        replace H : (if 0 ≤ (ji52) then (if (ji52) < (x10_35.length : Int) then (if 0 ≤ (IntKind.u64.wrap (Int.tmod a3 8)) then ((packet_Decode.f (x10_35.set ((ji52) : Int).toNat (Go.bits .xor .u8 (rd x10_35 (ji52)) (shl .u8 1 (IntKind.u64.wrap (Int.tmod a3 8)))))).bind fun bt331 => (if t320 = true then (if bt331.2.2.2.2.2.2 = 6 then ((rosetteref22_Same.f bt331.1 bt331.2.1 bt331.2.2.1 bt331.2.2.2.1 bt331.2.2.2.2.1 bt331.2.2.2.2.2.1 0 0 0 0 0 ([] : List Int)).bind fun t341 => (some t341)) else (some false)) else (some false))) else (none)) else (none)) else (none)) = some r := by first | (rw [hji52] at H; exact H) | (simp only [hji52] at H ⊢; exact H)
                        have hji52w : (IntKind.i64.wrap (Int.tdiv a3 8)) = ji52 := (i64_w _).trans hji52
                        by_cases c53 : 0 ≤ (ji52)
                        · rw [if_pos c53] at H
                          have c53b0 : decide (0 ≤ (ji52)) = true := decide_eq_true c53
                          clear c53
                          by_cases c54 : (ji52) < (x10_35.length : Int)
                          · rw [if_pos c54] at H
                            have c54b0 : decide ((ji52) < (x10_35.length : Int)) = true := decide_eq_true c54
                            clear c54
                            obtain ⟨ji55, hji55⟩ : ∃ j_ : Int, (IntKind.u64.wrap (Int.tmod a3 8)) = j_ := ⟨_, rfl⟩
                            replace H : (if 0 ≤ (ji55) then ((packet_Decode.f (x10_35.set ((ji52) : Int).toNat (Go.bits .xor .u8 (rd x10_35 (ji52)) (shl .u8 1 (ji55))))).bind fun bt331 => (if t320 = true then (if bt331.2.2.2.2.2.2 = 6 then ((rosetteref22_Same.f bt331.1 bt331.2.1 bt331.2.2.1 bt331.2.2.2.1 bt331.2.2.2.2.1 bt331.2.2.2.2.2.1 0 0 0 0 0 ([] : List Int)).bind fun t341 => (some t341)) else (some false)) else (some false))) else (none)) = some r := by first | (rw [hji55] at H; exact H) | (simp only [hji55] at H ⊢; exact H)
                            by_cases c56 : 0 ≤ (ji55)
                            · rw [if_pos c56] at H
                              have c56b0 := eq_true c56
                              have c56b1 : decide (0 ≤ (ji55)) = true := decide_eq_true c56
                              clear c56
                              obtain ⟨ji57, hji57⟩ : ∃ j_ : Int, (shl .u8 1 (ji55)) = j_ := ⟨_, rfl⟩
                              replace H : ((packet_Decode.f (x10_35.set ((ji52) : Int).toNat (Go.bits .xor .u8 (rd x10_35 (ji52)) (ji57)))).bind fun bt331 => (if t320 = true then (if bt331.2.2.2.2.2.2 = 6 then ((rosetteref22_Same.f bt331.1 bt331.2.1 bt331.2.2.1 bt331.2.2.2.1 bt331.2.2.2.2.1 bt331.2.2.2.2.2.1 0 0 0 0 0 ([] : List Int)).bind fun t341 => (some t341)) else (some false)) else (some false))) = some r := by first | (rw [hji57] at H; exact H) | (simp only [hji57] at H ⊢; exact H)
                              have hji57_ : (IntKind.u8.wrap (1 * 2 ^ min (ji55).toNat 8)) = ji57 := hji57
                              have hji57z : (ji55) ≤ 8 → (IntKind.u8.wrap (1 * 2 ^ (ji55).toNat)) = ji57 := shl_small hji57
                              have hji57u : (IntKind.u8.wrap (2 ^ min (ji55).toNat 8)) = ji57 := by have h_ := hji57_; rw [Int.one_mul] at h_; exact h_
                              have hji57v : (ji55) ≤ 8 → (IntKind.u8.wrap (2 ^ (ji55).toNat)) = ji57 := fun hle_ => by have h_ := hji57z hle_; rw [Int.one_mul] at h_; exact h_
                              have hji57l : (2 ^ ((ji55)).toNat % 256) = ji57 := by have h_ := hji57u; rw [IntKind.wrap_u8, pow_min8] at h_; exact h_
                              obtain ⟨y330, hy330⟩ : ∃ y_ : List Int, y_ = (x10_35.set ((ji52) : Int).toNat (Go.bits .xor .u8 (rd x10_35 (ji52)) (ji57))) := ⟨_, rfl⟩
                              replace H : ((packet_Decode.f y330).bind fun bt331 => (if t320 = true then (if bt331.2.2.2.2.2.2 = 6 then ((rosetteref22_Same.f bt331.1 bt331.2.1 bt331.2.2.1 bt331.2.2.2.1 bt331.2.2.2.2.1 bt331.2.2.2.2.2.1 0 0 0 0 0 ([] : List Int)).bind fun t341 => (some t341)) else (some false)) else (some false))) = some r := by first | (rw [hy330]; with_reducible exact H) | (have H2_ := (Option.bind_some _ _).symm.trans H; rw [hy330]; with_reducible exact H2_) | (have H2_ := (Option.bind_some _ _).symm.trans H; with_reducible exact H2_) | with_reducible exact H | (rw [hy330]; exact H) | exact H
                              have Ny330 := Aside0.mk hy330
                              clear hy330
                              replace H := Option.bind_eq_some_iff.mp H
                              obtain ⟨⟨t331, t332, t333, t334, t335, t336, t339⟩, A590, H⟩ := H
                              replace H : (if t320 = true then (if t339 = 6 then ((rosetteref22_Same.f t331 t332 t333 t334 t335 t336 0 0 0 0 0 ([] : List Int)).bind fun t341 => (some t341)) else (some false)) else (some false)) = some r := H
                              have A59 := Aside0.mk A590
                              clear A590
                              by_cases c60 : t320 = true
                              · subst c60
                                have H1 : (if t339 = 6 then ((rosetteref22_Same.f t331 t332 t333 t334 t335 t336 0 0 0 0 0 ([] : List Int)).bind fun t341 => (some t341)) else (some false)) = some r := by rw [if_pos rfl] at H; exact H
                                clear H
                                have H := H1
                                clear H1
                                by_cases c61 : t339 = 6
                                · rw [if_pos c61] at H
                                  have c61b0 : (t339 == 6) = true := beq_iff_eq.mpr c61
                                  have c61b1 : (t339 != 6) = false := bne_eq_false_iff_eq.mpr c61
                                  clear c61
                                  replace H := Option.bind_eq_some_iff.mp H
                                  obtain ⟨t341, A620, H⟩ := H
                                  replace H : (some t341) = some r := H
                                  have A62 := Aside0.mk A620
                                  clear A620
                                  obtain rfl := Option.some.inj H
                                  have p329 : 0 ≤ ((ji52) : Int) := of_decide_eq_true (by first | (with_reducible assumption) | assumption)
                                  have q329 : (ji52) < (x10_35.length : Int) := of_decide_eq_true (by first | (with_reducible assumption) | assumption)
                                  obtain ⟨ad329, e329, hx329_0⟩ := Kd.at_int (Kd.R_reads' HO_10.out).2.2 (ji52) p329 q329
                                  obtain rfl : (⟨go35, 0, none⟩ : Addr) = ad329 := (by injection e329)
                                  (first | simp only [add_plain] at hx329_0 | simp only [add_at] at hx329_0 | simp only [Addr.add, Nat.zero_add] at hx329_0 | skip)
                                  replace p329 := eq_true p329
                                  replace q329 := eq_true q329
                                  have p58 : 0 ≤ ((ji52) : Int) := of_decide_eq_true (by first | (with_reducible assumption) | assumption)
                                  have q58 : ((ji52) : Int) < ((x10_35.length : Int) : Int) := of_decide_eq_true (by first | (with_reducible assumption) | assumption)
                                  obtain ⟨hx58_0, hf58_0⟩ := Kd.R_celln 0 HO_10.out ((ji52) : Int) p58 q58
                                  replace p58 := eq_true p58
                                  replace q58 := eq_true q58
                                  have HP63 := Kd.R_putg HO_10.out ((ji52) : Int) (Go.bits .xor .u8 (rd x10_35 (ji52)) (ji57))
                                  go_wp2_with (first | ((with_reducible refine gate_store (t := 5) (p := 112) rfl ?_); refine store_event (t := 5) (p := 112) (v := ?vo_w64) (w1 := (wc.setCell ⟨go35, ((ji52) : Int).toNat, none⟩ (.int .u8 (Go.bits .xor .u8 (rd x10_35 (ji52)) (ji57))))) ?hg ?ho ?hn ?hr ?_; (case ho => rfl); (case hg => rfl); (case hn => rfl); (case hr => first | (go_simp; done) | (go_simp; rfl)); intro w64 hw; have hg : wc.grownBy w64 (some go35) := (by rw [hw]; exact HP63.2); have hp_ : Kd.R (Kd.int .u8) 5 w64 w.heap.size (fun _ => True) (.slice (some ⟨go35, 0, none⟩) x10_35.length co12) y330 := (by rw [hw, Ny330.out]; exact HP63.1); clear HP63; have n0_ := Aside0.mk (hp_); have n1_ := Aside0.mk (blk_grown (g := gb319) (o := .cells #[.int .i64 a0_0, .int .i64 a0_1, .int .i64 a0_2, .int .i64 a0_3, .int .u32 a0_4, .slice A0_5 l0_5.length c0_5] 25 (0, 0)) (by (with_reducible repeat (first | refine blk_drewN ?_ _ | refine blk_drew ?_ | refine blk_alloc ?_ _)); exact BK319.out) hg (Kd.R_ne HO_10.out BK319.out (by decide))); have n2_ := Aside0.mk ((by rw [hw]; exact below_set (HB.out) GB35.out : Below w.heap.size w w64)); clear HO_10; clear BK319; clear HB; have HO_10 := n0_; have BK319 := n1_; have HB := n2_; clear n0_ n1_ n2_; clear hg hw hp_) | ((with_reducible refine gate_callee (f := 11) rfl ?_); refine goesL_ (some 115) rfl rfl Try.func11 (by kernel_rfl) rfl #[.slice (some ⟨go35, 0, none⟩) y330.length co12] rfl (by (try simp only [List.map_toArray, List.map_cons, List.map_nil]); first | done | (rw [show y330.length = x10_35.length from (Kd.R_reads' HO_10.out).1.symm] <;> rfl) | rfl | (simp only [List.length_drop, List.length_take]; rfl)) ?_; (with_reducible refine (packet_Decode.calls _ _ y330 t331 t332 t333 t334 t335 t336 t339 _ ?side1 ?side2 A59.out).mono ?_); (case side1 => repeat (first | exact (Kd.R_reads' HO_10.out).2.2 | (with_reducible refine Kd.C_alloc ?_ _) | (with_reducible refine Kd.C_drewN ?_ _) | (with_reducible refine Kd.C_drew ?_))); (case side2 => rw [show y330.length = x10_35.length from (Kd.R_reads' HO_10.out).1.symm]; exact (Kd.R_reads' HO_10.out).2.1); rintro e w65 ⟨v337, rfl, ho0, hb⟩; refine ⟨_, rfl, ?_⟩; have n0_ := Aside0.mk (Kd.R_elder' (by (with_reducible repeat (first | apply Kd.R_alloc | apply Kd.R_drewN | apply Kd.R_drew)); exact HO_10.out) (Rs_base ho0) hb); have n1_ := Aside0.mk (Rs_lower (Rs_new' ho0 (Kd.R_lt (by (with_reducible repeat (first | apply Kd.R_alloc | apply Kd.R_drewN | apply Kd.R_drew)); exact HO_10.out))) (below_size (by repeat (first | (with_reducible first | exact HB.out | apply below_alloc | apply pw_below_drewN | apply below_drew1 | refine below_set ?_ GE319.out) | exact HB.out)))); have n2_ := Aside0.mk (blk_below (g := gb319) (o := .cells #[.int .i64 a0_0, .int .i64 a0_1, .int .i64 a0_2, .int .i64 a0_3, .int .u32 a0_4, .slice A0_5 l0_5.length c0_5] 25 (0, 0)) (by (with_reducible repeat (first | refine blk_drewN ?_ _ | refine blk_drew ?_ | refine blk_alloc ?_ _)); exact BK319.out) hb); have n3_ := Aside0.mk (below_step (by repeat (first | (with_reducible first | exact HB.out | apply below_alloc | apply pw_below_drewN | apply below_drew1 | refine below_set ?_ GE319.out) | exact HB.out)) hb); clear HO_10; clear BK319; clear HB; have HO_10 := n0_; have HO338 := n1_; have BK319 := n2_; have HB := n3_; clear n0_ n1_ n2_ n3_; (try clear hb); (try clear hb2); (try clear hk); (try clear hi); (try clear ho0)) | ((with_reducible refine gate_dst (N := 13) rfl ?_); refine box_event ?hg (N := 13) ?hd (cs := #[.int .i64 0, .int .i64 0, .int .i64 0, .int .i64 0, .int .u32 0, .slice none 0 0]) (t := 25) ?hr ?_; (case hd => rfl); (case hg => rfl); (case hr => first | (go_simp; done) | (go_simp; rfl)); intro gb340 hg w66 hbox hb; have n0_ := Aside0.mk (Kd.R_below (by (with_reducible repeat (first | apply Kd.R_alloc | apply Kd.R_drewN | apply Kd.R_drew)); exact HO_10.out) hb); have n1_ := Aside0.mk (Rs_below (by (with_reducible repeat (first | apply Rs_alloc | apply Rs_drewN | apply Rs_drew)); exact HO338.out) hb); have n2_ := Aside0.mk (blk_below (g := gb319) (o := .cells #[.int .i64 a0_0, .int .i64 a0_1, .int .i64 a0_2, .int .i64 a0_3, .int .u32 a0_4, .slice A0_5 l0_5.length c0_5] 25 (0, 0)) (by (with_reducible repeat (first | refine blk_drewN ?_ _ | refine blk_drew ?_ | refine blk_alloc ?_ _)); exact BK319.out) hb); have n3_ := Aside0.mk (below_step (by repeat (first | (with_reducible first | exact HB.out | apply below_alloc | apply pw_below_drewN | apply below_drew1 | refine below_set ?_ GE319.out) | exact HB.out)) hb); have n4_ := Aside0.mk (hbox); have n5_ := Aside0.mk ((by rw [hg]; exact (below_size (by repeat (first | (with_reducible first | exact HB.out | apply below_alloc | apply pw_below_drewN | apply below_drew1 | refine below_set ?_ GE319.out) | exact HB.out))) : w.heap.size ≤ gb340)); have n6_ := Aside0.mk ((by rw [hg]; exact (below_size (by repeat (first | (with_reducible first | exact HB.out | apply below_alloc | apply pw_below_drewN | apply below_drew1 | refine below_set ?_ GE319.out) | exact HB.out))) : w.heap.size ≤ gb340)); have n7_ := Aside0.mk ((by rw [hg]; exact Nat.ne_of_lt (blk_lt (g := gb319) (o := .cells #[.int .i64 a0_0, .int .i64 a0_1, .int .i64 a0_2, .int .i64 a0_3, .int .u32 a0_4, .slice A0_5 l0_5.length c0_5] 25 (0, 0)) (by (with_reducible repeat (first | refine blk_drewN ?_ _ | refine blk_drew ?_ | refine blk_alloc ?_ _)); exact BK319.out)) : gb319 ≠ gb340)); have n8_ := Aside0.mk ((by rw [hg]; exact Nat.ne_of_gt (blk_lt (g := gb319) (o := .cells #[.int .i64 a0_0, .int .i64 a0_1, .int .i64 a0_2, .int .i64 a0_3, .int .u32 a0_4, .slice A0_5 l0_5.length c0_5] 25 (0, 0)) (by (with_reducible repeat (first | refine blk_drewN ?_ _ | refine blk_drew ?_ | refine blk_alloc ?_ _)); exact BK319.out)) : gb340 ≠ gb319)); clear HO_10; clear HO338; clear BK319; clear HB; have HO_10 := n0_; have HO338 := n1_; have BK319 := n2_; have HB := n3_; have BK340 := n4_; have GW340 := n5_; have GE340 := n6_; have NB319_340 := n7_; have NB340_319 := n8_; clear n0_ n1_ n2_ n3_ n4_ n5_ n6_ n7_ n8_; clear hb hbox hg; have hnb67 := NB340_319.out; have hnc67 := NB319_340.out; have hcz68_0 : w66.cell? ⟨gb340, 0, none⟩ = some (.int .i64 0) := (blk_cell BK340.out 0).trans rfl; have hcz68_1 : w66.cell? ⟨gb340, 1, none⟩ = some (.int .i64 0) := (blk_cell BK340.out 1).trans rfl; have hcz68_2 : w66.cell? ⟨gb340, 2, none⟩ = some (.int .i64 0) := (blk_cell BK340.out 2).trans rfl; have hcz68_3 : w66.cell? ⟨gb340, 3, none⟩ = some (.int .i64 0) := (blk_cell BK340.out 3).trans rfl; have hcz68_4 : w66.cell? ⟨gb340, 4, none⟩ = some (.int .u32 0) := (blk_cell BK340.out 4).trans rfl; have hcz68_5 : w66.cell? ⟨gb340, 5, none⟩ = some (.slice none 0 0) := (blk_cell BK340.out 5).trans rfl; have hfz68_0 := blk_frozen BK340.out 0; have hfz68_1 := blk_frozen BK340.out 1; have hfz68_2 := blk_frozen BK340.out 2; have hfz68_3 := blk_frozen BK340.out 3; have hfz68_4 := blk_frozen BK340.out 4; have hfz68_5 := blk_frozen BK340.out 5; obtain ⟨Ao69, co69, eo69⟩ := Rs_slice HO338.out; subst eo69) | (go_at_call 13; (refine (rosetteref22_Same.calls t331 t332 t333 t334 t335 _ _ t336 0 0 0 0 0 _ _ ([] : List Int) t341 _ ?side1 ?side2 ?side3 ?side4 A62.out).mono ?_); (case side1 => refine (Rs_reads' (e := 5) (base := w.heap.size) (ok := fun k_ => (True ∧ some k_ ≠ (.slice (some ⟨go35, 0, none⟩) x10_35.length co12 : Value).ownBlock)) (n := t336.length) (c := co69) ?_).2.2; exact (by (with_reducible repeat (first | apply Rs_alloc | apply Rs_drewN | apply Rs_drew)); exact (Rs_mono (Rs_far (p := ⟨gb340, 5, none⟩) (Rs_far (p := ⟨gb340, 4, none⟩) (Rs_far (p := ⟨gb340, 3, none⟩) (Rs_far (p := ⟨gb340, 2, none⟩) (Rs_far (p := ⟨gb340, 1, none⟩) (Rs_far (p := ⟨gb340, 0, none⟩) (Rs_types HO338.out BK340.out (by decide)) (fun _ hk => hk.2) (.int .i64 t331)) (fun _ hk => hk.2) (.int .i64 t332)) (fun _ hk => hk.2) (.int .i64 t333)) (fun _ hk => hk.2) (.int .i64 t334)) (fun _ hk => hk.2) (.int .u32 t335)) (fun _ hk => hk.2) (.slice Ao69 t336.length co69)) (fun _ h_ => h_.1)))); (case side2 => exact (Rs_reads' HO338.out).2.1); (case side3 => exact Kd.C_nil _ _); (case side4 => exact Nat.le_refl _); rintro e w70 ⟨rfl, hb⟩; have n0_ := Aside0.mk (Kd.R_below (by (with_reducible repeat (first | apply Kd.R_alloc | apply Kd.R_drewN | apply Kd.R_drew)); exact (Kd.R_mono (Kd.R_far (p := ⟨gb340, 5, none⟩) (Kd.R_far (p := ⟨gb340, 4, none⟩) (Kd.R_far (p := ⟨gb340, 3, none⟩) (Kd.R_far (p := ⟨gb340, 2, none⟩) (Kd.R_far (p := ⟨gb340, 1, none⟩) (Kd.R_far (p := ⟨gb340, 0, none⟩) (Kd.R_types HO_10.out BK340.out (by decide)) (fun _ hk => hk.2) (.int .i64 t331)) (fun _ hk => hk.2) (.int .i64 t332)) (fun _ hk => hk.2) (.int .i64 t333)) (fun _ hk => hk.2) (.int .i64 t334)) (fun _ hk => hk.2) (.int .u32 t335)) (fun _ hk => hk.2) (.slice Ao69 t336.length co69)) (fun _ h_ => h_.1))) hb); have n1_ := Aside0.mk (Rs_below (by (with_reducible repeat (first | apply Rs_alloc | apply Rs_drewN | apply Rs_drew)); exact (Rs_mono (Rs_far (p := ⟨gb340, 5, none⟩) (Rs_far (p := ⟨gb340, 4, none⟩) (Rs_far (p := ⟨gb340, 3, none⟩) (Rs_far (p := ⟨gb340, 2, none⟩) (Rs_far (p := ⟨gb340, 1, none⟩) (Rs_far (p := ⟨gb340, 0, none⟩) (Rs_types HO338.out BK340.out (by decide)) (fun _ hk => hk.2) (.int .i64 t331)) (fun _ hk => hk.2) (.int .i64 t332)) (fun _ hk => hk.2) (.int .i64 t333)) (fun _ hk => hk.2) (.int .i64 t334)) (fun _ hk => hk.2) (.int .u32 t335)) (fun _ hk => hk.2) (.slice Ao69 t336.length co69)) (fun _ h_ => h_.1))) hb); have n2_ := Aside0.mk (blk_below (g := gb319) (o := .cells #[.int .i64 a0_0, .int .i64 a0_1, .int .i64 a0_2, .int .i64 a0_3, .int .u32 a0_4, .slice A0_5 l0_5.length c0_5] 25 (0, 0)) (by (with_reducible repeat (first | refine blk_drewN ?_ _ | refine blk_drew ?_ | refine blk_alloc ?_ _)); refine blk_far ?_ NB319_340.out _; (with_reducible repeat (first | refine blk_drewN ?_ _ | refine blk_drew ?_ | refine blk_alloc ?_ _)); refine blk_far ?_ NB319_340.out _; (with_reducible repeat (first | refine blk_drewN ?_ _ | refine blk_drew ?_ | refine blk_alloc ?_ _)); refine blk_far ?_ NB319_340.out _; (with_reducible repeat (first | refine blk_drewN ?_ _ | refine blk_drew ?_ | refine blk_alloc ?_ _)); refine blk_far ?_ NB319_340.out _; (with_reducible repeat (first | refine blk_drewN ?_ _ | refine blk_drew ?_ | refine blk_alloc ?_ _)); refine blk_far ?_ NB319_340.out _; (with_reducible repeat (first | refine blk_drewN ?_ _ | refine blk_drew ?_ | refine blk_alloc ?_ _)); refine blk_far ?_ NB319_340.out _; (with_reducible repeat (first | refine blk_drewN ?_ _ | refine blk_drew ?_ | refine blk_alloc ?_ _)); exact BK319.out) hb); have n3_ := Aside0.mk (blk_below (g := gb340) (o := .cells #[.int .i64 t331, .int .i64 t332, .int .i64 t333, .int .i64 t334, .int .u32 t335, .slice Ao69 t336.length co69] 25 (0, 0)) (by (with_reducible repeat (first | refine blk_drewN ?_ _ | refine blk_drew ?_ | refine blk_alloc ?_ _)); refine blk_put (cs := #[.int .i64 t331, .int .i64 t332, .int .i64 t333, .int .i64 t334, .int .u32 t335, .slice none 0 0]) ?_ 5 _ rfl; (with_reducible repeat (first | refine blk_drewN ?_ _ | refine blk_drew ?_ | refine blk_alloc ?_ _)); refine blk_put (cs := #[.int .i64 t331, .int .i64 t332, .int .i64 t333, .int .i64 t334, .int .u32 0, .slice none 0 0]) ?_ 4 _ rfl; (with_reducible repeat (first | refine blk_drewN ?_ _ | refine blk_drew ?_ | refine blk_alloc ?_ _)); refine blk_put (cs := #[.int .i64 t331, .int .i64 t332, .int .i64 t333, .int .i64 0, .int .u32 0, .slice none 0 0]) ?_ 3 _ rfl; (with_reducible repeat (first | refine blk_drewN ?_ _ | refine blk_drew ?_ | refine blk_alloc ?_ _)); refine blk_put (cs := #[.int .i64 t331, .int .i64 t332, .int .i64 0, .int .i64 0, .int .u32 0, .slice none 0 0]) ?_ 2 _ rfl; (with_reducible repeat (first | refine blk_drewN ?_ _ | refine blk_drew ?_ | refine blk_alloc ?_ _)); refine blk_put (cs := #[.int .i64 t331, .int .i64 0, .int .i64 0, .int .i64 0, .int .u32 0, .slice none 0 0]) ?_ 1 _ rfl; (with_reducible repeat (first | refine blk_drewN ?_ _ | refine blk_drew ?_ | refine blk_alloc ?_ _)); refine blk_put (cs := #[.int .i64 0, .int .i64 0, .int .i64 0, .int .i64 0, .int .u32 0, .slice none 0 0]) ?_ 0 _ rfl; (with_reducible repeat (first | refine blk_drewN ?_ _ | refine blk_drew ?_ | refine blk_alloc ?_ _)); exact BK340.out) hb); have n4_ := Aside0.mk (below_step (by repeat (first | (with_reducible first | exact HB.out | apply below_alloc | apply pw_below_drewN | apply below_drew1 | refine below_set ?_ GE319.out | refine below_set ?_ GE340.out) | exact HB.out)) hb); clear HO_10; clear HO338; clear BK319; clear BK340; clear HB; have HO_10 := n0_; have HO338 := n1_; have BK319 := n2_; have BK340 := n3_; have HB := n4_; clear n0_ n1_ n2_ n3_ n4_; (try clear hb); (try clear hb2); (try clear hk); (try clear hi)))
                                  go_ret
                                  exact ⟨by first | rfl | (simp [errW_none, errW_some] <;> rfl) | (simp only [← hji29, ← hji32, ← hji34, ← hji52, ← hji55, ← hji57]; first | rfl | (simp [errW_none, errW_some] <;> rfl)) | (simp [*, errW_none, errW_some] <;> rfl), by repeat (first | (with_reducible first | exact HB.out | apply below_alloc | apply pw_below_drewN | apply below_drew1 | refine below_set ?_ GE319.out | refine below_set ?_ GE340.out) | exact HB.out)⟩
                                · rw [if_neg c61] at H
                                  have c61b0 : (t339 == 6) = false := beq_eq_false_iff_ne.mpr c61
                                  have c61b1 : (t339 != 6) = true := bne_iff_ne.mpr c61
                                  obtain rfl := Option.some.inj H
                                  have p329 : 0 ≤ ((ji52) : Int) := of_decide_eq_true (by first | (with_reducible assumption) | assumption)
                                  have q329 : (ji52) < (x10_35.length : Int) := of_decide_eq_true (by first | (with_reducible assumption) | assumption)
                                  obtain ⟨ad329, e329, hx329_0⟩ := Kd.at_int (Kd.R_reads' HO_10.out).2.2 (ji52) p329 q329
                                  obtain rfl : (⟨go35, 0, none⟩ : Addr) = ad329 := (by injection e329)
                                  (first | simp only [add_plain] at hx329_0 | simp only [add_at] at hx329_0 | simp only [Addr.add, Nat.zero_add] at hx329_0 | skip)
                                  replace p329 := eq_true p329
                                  replace q329 := eq_true q329
                                  have p58 : 0 ≤ ((ji52) : Int) := of_decide_eq_true (by first | (with_reducible assumption) | assumption)
                                  have q58 : ((ji52) : Int) < ((x10_35.length : Int) : Int) := of_decide_eq_true (by first | (with_reducible assumption) | assumption)
                                  obtain ⟨hx58_0, hf58_0⟩ := Kd.R_celln 0 HO_10.out ((ji52) : Int) p58 q58
                                  replace p58 := eq_true p58
                                  replace q58 := eq_true q58
                                  have HP71 := Kd.R_putg HO_10.out ((ji52) : Int) (Go.bits .xor .u8 (rd x10_35 (ji52)) (ji57))
                                  go_wp2_with (first | ((with_reducible refine gate_store (t := 5) (p := 112) rfl ?_); refine store_event (t := 5) (p := 112) (v := ?vo_w72) (w1 := (wc.setCell ⟨go35, ((ji52) : Int).toNat, none⟩ (.int .u8 (Go.bits .xor .u8 (rd x10_35 (ji52)) (ji57))))) ?hg ?ho ?hn ?hr ?_; (case ho => rfl); (case hg => rfl); (case hn => rfl); (case hr => first | (go_simp; done) | (go_simp; rfl)); intro w72 hw; have hg : wc.grownBy w72 (some go35) := (by rw [hw]; exact HP71.2); have hp_ : Kd.R (Kd.int .u8) 5 w72 w.heap.size (fun _ => True) (.slice (some ⟨go35, 0, none⟩) x10_35.length co12) y330 := (by rw [hw, Ny330.out]; exact HP71.1); clear HP71; have n0_ := Aside0.mk (hp_); have n1_ := Aside0.mk (blk_grown (g := gb319) (o := .cells #[.int .i64 a0_0, .int .i64 a0_1, .int .i64 a0_2, .int .i64 a0_3, .int .u32 a0_4, .slice A0_5 l0_5.length c0_5] 25 (0, 0)) (by (with_reducible repeat (first | refine blk_drewN ?_ _ | refine blk_drew ?_ | refine blk_alloc ?_ _)); exact BK319.out) hg (Kd.R_ne HO_10.out BK319.out (by decide))); have n2_ := Aside0.mk ((by rw [hw]; exact below_set (HB.out) GB35.out : Below w.heap.size w w72)); clear HO_10; clear BK319; clear HB; have HO_10 := n0_; have BK319 := n1_; have HB := n2_; clear n0_ n1_ n2_; clear hg hw hp_) | ((with_reducible refine gate_callee (f := 11) rfl ?_); refine goesL_ (some 115) rfl rfl Try.func11 (by kernel_rfl) rfl #[.slice (some ⟨go35, 0, none⟩) y330.length co12] rfl (by (try simp only [List.map_toArray, List.map_cons, List.map_nil]); first | done | (rw [show y330.length = x10_35.length from (Kd.R_reads' HO_10.out).1.symm] <;> rfl) | rfl | (simp only [List.length_drop, List.length_take]; rfl)) ?_; (with_reducible refine (packet_Decode.calls _ _ y330 t331 t332 t333 t334 t335 t336 t339 _ ?side1 ?side2 A59.out).mono ?_); (case side1 => repeat (first | exact (Kd.R_reads' HO_10.out).2.2 | (with_reducible refine Kd.C_alloc ?_ _) | (with_reducible refine Kd.C_drewN ?_ _) | (with_reducible refine Kd.C_drew ?_))); (case side2 => rw [show y330.length = x10_35.length from (Kd.R_reads' HO_10.out).1.symm]; exact (Kd.R_reads' HO_10.out).2.1); rintro e w73 ⟨v337, rfl, ho0, hb⟩; refine ⟨_, rfl, ?_⟩; have n0_ := Aside0.mk (Kd.R_elder' (by (with_reducible repeat (first | apply Kd.R_alloc | apply Kd.R_drewN | apply Kd.R_drew)); exact HO_10.out) (Rs_base ho0) hb); have n1_ := Aside0.mk (Rs_lower (Rs_new' ho0 (Kd.R_lt (by (with_reducible repeat (first | apply Kd.R_alloc | apply Kd.R_drewN | apply Kd.R_drew)); exact HO_10.out))) (below_size (by repeat (first | (with_reducible first | exact HB.out | apply below_alloc | apply pw_below_drewN | apply below_drew1 | refine below_set ?_ GE319.out) | exact HB.out)))); have n2_ := Aside0.mk (blk_below (g := gb319) (o := .cells #[.int .i64 a0_0, .int .i64 a0_1, .int .i64 a0_2, .int .i64 a0_3, .int .u32 a0_4, .slice A0_5 l0_5.length c0_5] 25 (0, 0)) (by (with_reducible repeat (first | refine blk_drewN ?_ _ | refine blk_drew ?_ | refine blk_alloc ?_ _)); exact BK319.out) hb); have n3_ := Aside0.mk (below_step (by repeat (first | (with_reducible first | exact HB.out | apply below_alloc | apply pw_below_drewN | apply below_drew1 | refine below_set ?_ GE319.out) | exact HB.out)) hb); clear HO_10; clear BK319; clear HB; have HO_10 := n0_; have HO338 := n1_; have BK319 := n2_; have HB := n3_; clear n0_ n1_ n2_ n3_; (try clear hb); (try clear hb2); (try clear hk); (try clear hi); (try clear ho0)) | ((with_reducible refine gate_dst (N := 13) rfl ?_); refine box_event ?hg (N := 13) ?hd (cs := #[.int .i64 0, .int .i64 0, .int .i64 0, .int .i64 0, .int .u32 0, .slice none 0 0]) (t := 25) ?hr ?_; (case hd => rfl); (case hg => rfl); (case hr => first | (go_simp; done) | (go_simp; rfl)); intro gb340 hg w74 hbox hb; have n0_ := Aside0.mk (Kd.R_below (by (with_reducible repeat (first | apply Kd.R_alloc | apply Kd.R_drewN | apply Kd.R_drew)); exact HO_10.out) hb); have n1_ := Aside0.mk (Rs_below (by (with_reducible repeat (first | apply Rs_alloc | apply Rs_drewN | apply Rs_drew)); exact HO338.out) hb); have n2_ := Aside0.mk (blk_below (g := gb319) (o := .cells #[.int .i64 a0_0, .int .i64 a0_1, .int .i64 a0_2, .int .i64 a0_3, .int .u32 a0_4, .slice A0_5 l0_5.length c0_5] 25 (0, 0)) (by (with_reducible repeat (first | refine blk_drewN ?_ _ | refine blk_drew ?_ | refine blk_alloc ?_ _)); exact BK319.out) hb); have n3_ := Aside0.mk (below_step (by repeat (first | (with_reducible first | exact HB.out | apply below_alloc | apply pw_below_drewN | apply below_drew1 | refine below_set ?_ GE319.out) | exact HB.out)) hb); have n4_ := Aside0.mk (hbox); have n5_ := Aside0.mk ((by rw [hg]; exact (below_size (by repeat (first | (with_reducible first | exact HB.out | apply below_alloc | apply pw_below_drewN | apply below_drew1 | refine below_set ?_ GE319.out) | exact HB.out))) : w.heap.size ≤ gb340)); have n6_ := Aside0.mk ((by rw [hg]; exact (below_size (by repeat (first | (with_reducible first | exact HB.out | apply below_alloc | apply pw_below_drewN | apply below_drew1 | refine below_set ?_ GE319.out) | exact HB.out))) : w.heap.size ≤ gb340)); have n7_ := Aside0.mk ((by rw [hg]; exact Nat.ne_of_lt (blk_lt (g := gb319) (o := .cells #[.int .i64 a0_0, .int .i64 a0_1, .int .i64 a0_2, .int .i64 a0_3, .int .u32 a0_4, .slice A0_5 l0_5.length c0_5] 25 (0, 0)) (by (with_reducible repeat (first | refine blk_drewN ?_ _ | refine blk_drew ?_ | refine blk_alloc ?_ _)); exact BK319.out)) : gb319 ≠ gb340)); have n8_ := Aside0.mk ((by rw [hg]; exact Nat.ne_of_gt (blk_lt (g := gb319) (o := .cells #[.int .i64 a0_0, .int .i64 a0_1, .int .i64 a0_2, .int .i64 a0_3, .int .u32 a0_4, .slice A0_5 l0_5.length c0_5] 25 (0, 0)) (by (with_reducible repeat (first | refine blk_drewN ?_ _ | refine blk_drew ?_ | refine blk_alloc ?_ _)); exact BK319.out)) : gb340 ≠ gb319)); clear HO_10; clear HO338; clear BK319; clear HB; have HO_10 := n0_; have HO338 := n1_; have BK319 := n2_; have HB := n3_; have BK340 := n4_; have GW340 := n5_; have GE340 := n6_; have NB319_340 := n7_; have NB340_319 := n8_; clear n0_ n1_ n2_ n3_ n4_ n5_ n6_ n7_ n8_; clear hb hbox hg; have hnb75 := NB340_319.out; have hnc75 := NB319_340.out; have hcz76_0 : w74.cell? ⟨gb340, 0, none⟩ = some (.int .i64 0) := (blk_cell BK340.out 0).trans rfl; have hcz76_1 : w74.cell? ⟨gb340, 1, none⟩ = some (.int .i64 0) := (blk_cell BK340.out 1).trans rfl; have hcz76_2 : w74.cell? ⟨gb340, 2, none⟩ = some (.int .i64 0) := (blk_cell BK340.out 2).trans rfl; have hcz76_3 : w74.cell? ⟨gb340, 3, none⟩ = some (.int .i64 0) := (blk_cell BK340.out 3).trans rfl; have hcz76_4 : w74.cell? ⟨gb340, 4, none⟩ = some (.int .u32 0) := (blk_cell BK340.out 4).trans rfl; have hcz76_5 : w74.cell? ⟨gb340, 5, none⟩ = some (.slice none 0 0) := (blk_cell BK340.out 5).trans rfl; have hfz76_0 := blk_frozen BK340.out 0; have hfz76_1 := blk_frozen BK340.out 1; have hfz76_2 := blk_frozen BK340.out 2; have hfz76_3 := blk_frozen BK340.out 3; have hfz76_4 := blk_frozen BK340.out 4; have hfz76_5 := blk_frozen BK340.out 5; obtain ⟨Ao77, co77, eo77⟩ := Rs_slice HO338.out; subst eo77))
                                  go_ret
                                  exact ⟨by first | rfl | (simp [errW_none, errW_some] <;> rfl) | (simp only [← hji29, ← hji32, ← hji34, ← hji52, ← hji55, ← hji57]; first | rfl | (simp [errW_none, errW_some] <;> rfl)) | (simp [*, errW_none, errW_some] <;> rfl), by repeat (first | (with_reducible first | exact HB.out | apply below_alloc | apply pw_below_drewN | apply below_drew1 | refine below_set ?_ GE319.out | refine below_set ?_ GE340.out) | exact HB.out)⟩
                              · replace c60 := Bool.eq_false_iff.mpr c60
                                subst c60
                                have H1 : (some false) = some r := by rw [if_neg (show ¬ (false = true) by decide)] at H; exact H
                                clear H
                                have H := H1
                                clear H1
                                obtain rfl := Option.some.inj H
                                have p329 : 0 ≤ ((ji52) : Int) := of_decide_eq_true (by first | (with_reducible assumption) | assumption)
                                have q329 : (ji52) < (x10_35.length : Int) := of_decide_eq_true (by first | (with_reducible assumption) | assumption)
                                obtain ⟨ad329, e329, hx329_0⟩ := Kd.at_int (Kd.R_reads' HO_10.out).2.2 (ji52) p329 q329
                                obtain rfl : (⟨go35, 0, none⟩ : Addr) = ad329 := (by injection e329)
                                (first | simp only [add_plain] at hx329_0 | simp only [add_at] at hx329_0 | simp only [Addr.add, Nat.zero_add] at hx329_0 | skip)
                                replace p329 := eq_true p329
                                replace q329 := eq_true q329
                                have p58 : 0 ≤ ((ji52) : Int) := of_decide_eq_true (by first | (with_reducible assumption) | assumption)
                                have q58 : ((ji52) : Int) < ((x10_35.length : Int) : Int) := of_decide_eq_true (by first | (with_reducible assumption) | assumption)
                                obtain ⟨hx58_0, hf58_0⟩ := Kd.R_celln 0 HO_10.out ((ji52) : Int) p58 q58
                                replace p58 := eq_true p58
                                replace q58 := eq_true q58
                                have HP78 := Kd.R_putg HO_10.out ((ji52) : Int) (Go.bits .xor .u8 (rd x10_35 (ji52)) (ji57))
                                go_wp2_with (first | ((with_reducible refine gate_store (t := 5) (p := 112) rfl ?_); refine store_event (t := 5) (p := 112) (v := ?vo_w79) (w1 := (wc.setCell ⟨go35, ((ji52) : Int).toNat, none⟩ (.int .u8 (Go.bits .xor .u8 (rd x10_35 (ji52)) (ji57))))) ?hg ?ho ?hn ?hr ?_; (case ho => rfl); (case hg => rfl); (case hn => rfl); (case hr => first | (go_simp; done) | (go_simp; rfl)); intro w79 hw; have hg : wc.grownBy w79 (some go35) := (by rw [hw]; exact HP78.2); have hp_ : Kd.R (Kd.int .u8) 5 w79 w.heap.size (fun _ => True) (.slice (some ⟨go35, 0, none⟩) x10_35.length co12) y330 := (by rw [hw, Ny330.out]; exact HP78.1); clear HP78; have n0_ := Aside0.mk (hp_); have n1_ := Aside0.mk (blk_grown (g := gb319) (o := .cells #[.int .i64 a0_0, .int .i64 a0_1, .int .i64 a0_2, .int .i64 a0_3, .int .u32 a0_4, .slice A0_5 l0_5.length c0_5] 25 (0, 0)) (by (with_reducible repeat (first | refine blk_drewN ?_ _ | refine blk_drew ?_ | refine blk_alloc ?_ _)); exact BK319.out) hg (Kd.R_ne HO_10.out BK319.out (by decide))); have n2_ := Aside0.mk ((by rw [hw]; exact below_set (HB.out) GB35.out : Below w.heap.size w w79)); clear HO_10; clear BK319; clear HB; have HO_10 := n0_; have BK319 := n1_; have HB := n2_; clear n0_ n1_ n2_; clear hg hw hp_) | ((with_reducible refine gate_callee (f := 11) rfl ?_); refine goesL_ (some 115) rfl rfl Try.func11 (by kernel_rfl) rfl #[.slice (some ⟨go35, 0, none⟩) y330.length co12] rfl (by (try simp only [List.map_toArray, List.map_cons, List.map_nil]); first | done | (rw [show y330.length = x10_35.length from (Kd.R_reads' HO_10.out).1.symm] <;> rfl) | rfl | (simp only [List.length_drop, List.length_take]; rfl)) ?_; (with_reducible refine (packet_Decode.calls _ _ y330 t331 t332 t333 t334 t335 t336 t339 _ ?side1 ?side2 A59.out).mono ?_); (case side1 => repeat (first | exact (Kd.R_reads' HO_10.out).2.2 | (with_reducible refine Kd.C_alloc ?_ _) | (with_reducible refine Kd.C_drewN ?_ _) | (with_reducible refine Kd.C_drew ?_))); (case side2 => rw [show y330.length = x10_35.length from (Kd.R_reads' HO_10.out).1.symm]; exact (Kd.R_reads' HO_10.out).2.1); rintro e w80 ⟨v337, rfl, ho0, hb⟩; refine ⟨_, rfl, ?_⟩; have n0_ := Aside0.mk (Kd.R_elder' (by (with_reducible repeat (first | apply Kd.R_alloc | apply Kd.R_drewN | apply Kd.R_drew)); exact HO_10.out) (Rs_base ho0) hb); have n1_ := Aside0.mk (Rs_lower (Rs_new' ho0 (Kd.R_lt (by (with_reducible repeat (first | apply Kd.R_alloc | apply Kd.R_drewN | apply Kd.R_drew)); exact HO_10.out))) (below_size (by repeat (first | (with_reducible first | exact HB.out | apply below_alloc | apply pw_below_drewN | apply below_drew1 | refine below_set ?_ GE319.out) | exact HB.out)))); have n2_ := Aside0.mk (blk_below (g := gb319) (o := .cells #[.int .i64 a0_0, .int .i64 a0_1, .int .i64 a0_2, .int .i64 a0_3, .int .u32 a0_4, .slice A0_5 l0_5.length c0_5] 25 (0, 0)) (by (with_reducible repeat (first | refine blk_drewN ?_ _ | refine blk_drew ?_ | refine blk_alloc ?_ _)); exact BK319.out) hb); have n3_ := Aside0.mk (below_step (by repeat (first | (with_reducible first | exact HB.out | apply below_alloc | apply pw_below_drewN | apply below_drew1 | refine below_set ?_ GE319.out) | exact HB.out)) hb); clear HO_10; clear BK319; clear HB; have HO_10 := n0_; have HO338 := n1_; have BK319 := n2_; have HB := n3_; clear n0_ n1_ n2_ n3_; (try clear hb); (try clear hb2); (try clear hk); (try clear hi); (try clear ho0)) | ((with_reducible refine gate_dst (N := 13) rfl ?_); refine box_event ?hg (N := 13) ?hd (cs := #[.int .i64 0, .int .i64 0, .int .i64 0, .int .i64 0, .int .u32 0, .slice none 0 0]) (t := 25) ?hr ?_; (case hd => rfl); (case hg => rfl); (case hr => first | (go_simp; done) | (go_simp; rfl)); intro gb340 hg w81 hbox hb; have n0_ := Aside0.mk (Kd.R_below (by (with_reducible repeat (first | apply Kd.R_alloc | apply Kd.R_drewN | apply Kd.R_drew)); exact HO_10.out) hb); have n1_ := Aside0.mk (Rs_below (by (with_reducible repeat (first | apply Rs_alloc | apply Rs_drewN | apply Rs_drew)); exact HO338.out) hb); have n2_ := Aside0.mk (blk_below (g := gb319) (o := .cells #[.int .i64 a0_0, .int .i64 a0_1, .int .i64 a0_2, .int .i64 a0_3, .int .u32 a0_4, .slice A0_5 l0_5.length c0_5] 25 (0, 0)) (by (with_reducible repeat (first | refine blk_drewN ?_ _ | refine blk_drew ?_ | refine blk_alloc ?_ _)); exact BK319.out) hb); have n3_ := Aside0.mk (below_step (by repeat (first | (with_reducible first | exact HB.out | apply below_alloc | apply pw_below_drewN | apply below_drew1 | refine below_set ?_ GE319.out) | exact HB.out)) hb); have n4_ := Aside0.mk (hbox); have n5_ := Aside0.mk ((by rw [hg]; exact (below_size (by repeat (first | (with_reducible first | exact HB.out | apply below_alloc | apply pw_below_drewN | apply below_drew1 | refine below_set ?_ GE319.out) | exact HB.out))) : w.heap.size ≤ gb340)); have n6_ := Aside0.mk ((by rw [hg]; exact (below_size (by repeat (first | (with_reducible first | exact HB.out | apply below_alloc | apply pw_below_drewN | apply below_drew1 | refine below_set ?_ GE319.out) | exact HB.out))) : w.heap.size ≤ gb340)); have n7_ := Aside0.mk ((by rw [hg]; exact Nat.ne_of_lt (blk_lt (g := gb319) (o := .cells #[.int .i64 a0_0, .int .i64 a0_1, .int .i64 a0_2, .int .i64 a0_3, .int .u32 a0_4, .slice A0_5 l0_5.length c0_5] 25 (0, 0)) (by (with_reducible repeat (first | refine blk_drewN ?_ _ | refine blk_drew ?_ | refine blk_alloc ?_ _)); exact BK319.out)) : gb319 ≠ gb340)); have n8_ := Aside0.mk ((by rw [hg]; exact Nat.ne_of_gt (blk_lt (g := gb319) (o := .cells #[.int .i64 a0_0, .int .i64 a0_1, .int .i64 a0_2, .int .i64 a0_3, .int .u32 a0_4, .slice A0_5 l0_5.length c0_5] 25 (0, 0)) (by (with_reducible repeat (first | refine blk_drewN ?_ _ | refine blk_drew ?_ | refine blk_alloc ?_ _)); exact BK319.out)) : gb340 ≠ gb319)); clear HO_10; clear HO338; clear BK319; clear HB; have HO_10 := n0_; have HO338 := n1_; have BK319 := n2_; have HB := n3_; have BK340 := n4_; have GW340 := n5_; have GE340 := n6_; have NB319_340 := n7_; have NB340_319 := n8_; clear n0_ n1_ n2_ n3_ n4_ n5_ n6_ n7_ n8_; clear hb hbox hg; have hnb82 := NB340_319.out; have hnc82 := NB319_340.out; have hcz83_0 : w81.cell? ⟨gb340, 0, none⟩ = some (.int .i64 0) := (blk_cell BK340.out 0).trans rfl; have hcz83_1 : w81.cell? ⟨gb340, 1, none⟩ = some (.int .i64 0) := (blk_cell BK340.out 1).trans rfl; have hcz83_2 : w81.cell? ⟨gb340, 2, none⟩ = some (.int .i64 0) := (blk_cell BK340.out 2).trans rfl; have hcz83_3 : w81.cell? ⟨gb340, 3, none⟩ = some (.int .i64 0) := (blk_cell BK340.out 3).trans rfl; have hcz83_4 : w81.cell? ⟨gb340, 4, none⟩ = some (.int .u32 0) := (blk_cell BK340.out 4).trans rfl; have hcz83_5 : w81.cell? ⟨gb340, 5, none⟩ = some (.slice none 0 0) := (blk_cell BK340.out 5).trans rfl; have hfz83_0 := blk_frozen BK340.out 0; have hfz83_1 := blk_frozen BK340.out 1; have hfz83_2 := blk_frozen BK340.out 2; have hfz83_3 := blk_frozen BK340.out 3; have hfz83_4 := blk_frozen BK340.out 4; have hfz83_5 := blk_frozen BK340.out 5; obtain ⟨Ao84, co84, eo84⟩ := Rs_slice HO338.out; subst eo84))
                                go_ret
                                exact ⟨by first | rfl | (simp [errW_none, errW_some] <;> rfl) | (simp only [← hji29, ← hji32, ← hji34, ← hji52, ← hji55, ← hji57]; first | rfl | (simp [errW_none, errW_some] <;> rfl)) | (simp [*, errW_none, errW_some] <;> rfl), by repeat (first | (with_reducible first | exact HB.out | apply below_alloc | apply pw_below_drewN | apply below_drew1 | refine below_set ?_ GE319.out | refine below_set ?_ GE340.out) | exact HB.out)⟩
                            · rw [if_neg c56] at H
                              exact absurd H (by simp)
                          · rw [if_neg c54] at H
                            exact absurd H (by simp)
                        · rw [if_neg c53] at H
                          exact absurd H (by simp)
                      · replace c51 := Bool.eq_false_iff.mpr c51
                        subst c51
                        have H1 : ((packet_Decode.f x10_35).bind fun bt342 => (if t320 = true then (if bt342.2.2.2.2.2.2 = 6 then ((rosetteref22_Same.f bt342.1 bt342.2.1 bt342.2.2.1 bt342.2.2.2.1 bt342.2.2.2.2.1 bt342.2.2.2.2.2.1 0 0 0 0 0 ([] : List Int)).bind fun t352 => (some t352)) else (some false)) else (some false))) = some r := by rw [if_neg (show ¬ (false = true) by decide)] at H; exact H
                        clear H
                        have H := H1
                        clear H1
                        replace H := Option.bind_eq_some_iff.mp H
                        obtain ⟨⟨t342, t343, t344, t345, t346, t347, t350⟩, A850, H⟩ := H
                        replace H : (if t320 = true then (if t350 = 6 then ((rosetteref22_Same.f t342 t343 t344 t345 t346 t347 0 0 0 0 0 ([] : List Int)).bind fun t352 => (some t352)) else (some false)) else (some false)) = some r := H
                        have A85 := Aside0.mk A850
                        clear A850
                        by_cases c86 : t320 = true
                        · subst c86
                          have H1 : (if t350 = 6 then ((rosetteref22_Same.f t342 t343 t344 t345 t346 t347 0 0 0 0 0 ([] : List Int)).bind fun t352 => (some t352)) else (some false)) = some r := by rw [if_pos rfl] at H; exact H
                          clear H
                          have H := H1
                          clear H1
                          by_cases c87 : t350 = 6
                          · rw [if_pos c87] at H
                            have c87b0 : (t350 == 6) = true := beq_iff_eq.mpr c87
                            have c87b1 : (t350 != 6) = false := bne_eq_false_iff_eq.mpr c87
                            clear c87
                            replace H := Option.bind_eq_some_iff.mp H
                            obtain ⟨t352, A880, H⟩ := H
                            replace H : (some t352) = some r := H
                            have A88 := Aside0.mk A880
                            clear A880
                            obtain rfl := Option.some.inj H
                            go_wp2_with (first | ((with_reducible refine gate_callee (f := 11) rfl ?_); refine goesL_ (some 115) rfl rfl Try.func11 (by kernel_rfl) rfl #[.slice (some ⟨go35, 0, none⟩) x10_35.length co12] rfl (by (try simp only [List.map_toArray, List.map_cons, List.map_nil]); first | done | rfl | (simp only [List.length_drop, List.length_take]; rfl)) ?_; (with_reducible refine (packet_Decode.calls _ _ x10_35 t342 t343 t344 t345 t346 t347 t350 _ ?side1 ?side2 A85.out).mono ?_); (case side1 => repeat (first | exact (Kd.R_reads' HO_10.out).2.2 | (with_reducible refine Kd.C_alloc ?_ _) | (with_reducible refine Kd.C_drewN ?_ _) | (with_reducible refine Kd.C_drew ?_))); (case side2 => exact (Kd.R_reads' HO_10.out).2.1); rintro e w89 ⟨v348, rfl, ho0, hb⟩; refine ⟨_, rfl, ?_⟩; have n0_ := Aside0.mk (Kd.R_elder' (by (with_reducible repeat (first | apply Kd.R_alloc | apply Kd.R_drewN | apply Kd.R_drew)); exact HO_10.out) (Rs_base ho0) hb); have n1_ := Aside0.mk (Rs_lower (Rs_new' ho0 (Kd.R_lt (by (with_reducible repeat (first | apply Kd.R_alloc | apply Kd.R_drewN | apply Kd.R_drew)); exact HO_10.out))) (below_size (by repeat (first | (with_reducible first | exact HB.out | apply below_alloc | apply pw_below_drewN | apply below_drew1 | refine below_set ?_ GE319.out) | exact HB.out)))); have n2_ := Aside0.mk (blk_below (g := gb319) (o := .cells #[.int .i64 a0_0, .int .i64 a0_1, .int .i64 a0_2, .int .i64 a0_3, .int .u32 a0_4, .slice A0_5 l0_5.length c0_5] 25 (0, 0)) (by (with_reducible repeat (first | refine blk_drewN ?_ _ | refine blk_drew ?_ | refine blk_alloc ?_ _)); exact BK319.out) hb); have n3_ := Aside0.mk (below_step (by repeat (first | (with_reducible first | exact HB.out | apply below_alloc | apply pw_below_drewN | apply below_drew1 | refine below_set ?_ GE319.out) | exact HB.out)) hb); clear HO_10; clear BK319; clear HB; have HO_10 := n0_; have HO349 := n1_; have BK319 := n2_; have HB := n3_; clear n0_ n1_ n2_ n3_; (try clear hb); (try clear hb2); (try clear hk); (try clear hi); (try clear ho0)) | ((with_reducible refine gate_dst (N := 13) rfl ?_); refine box_event ?hg (N := 13) ?hd (cs := #[.int .i64 0, .int .i64 0, .int .i64 0, .int .i64 0, .int .u32 0, .slice none 0 0]) (t := 25) ?hr ?_; (case hd => rfl); (case hg => rfl); (case hr => first | (go_simp; done) | (go_simp; rfl)); intro gb351 hg w90 hbox hb; have n0_ := Aside0.mk (Kd.R_below (by (with_reducible repeat (first | apply Kd.R_alloc | apply Kd.R_drewN | apply Kd.R_drew)); exact HO_10.out) hb); have n1_ := Aside0.mk (Rs_below (by (with_reducible repeat (first | apply Rs_alloc | apply Rs_drewN | apply Rs_drew)); exact HO349.out) hb); have n2_ := Aside0.mk (blk_below (g := gb319) (o := .cells #[.int .i64 a0_0, .int .i64 a0_1, .int .i64 a0_2, .int .i64 a0_3, .int .u32 a0_4, .slice A0_5 l0_5.length c0_5] 25 (0, 0)) (by (with_reducible repeat (first | refine blk_drewN ?_ _ | refine blk_drew ?_ | refine blk_alloc ?_ _)); exact BK319.out) hb); have n3_ := Aside0.mk (below_step (by repeat (first | (with_reducible first | exact HB.out | apply below_alloc | apply pw_below_drewN | apply below_drew1 | refine below_set ?_ GE319.out) | exact HB.out)) hb); have n4_ := Aside0.mk (hbox); have n5_ := Aside0.mk ((by rw [hg]; exact (below_size (by repeat (first | (with_reducible first | exact HB.out | apply below_alloc | apply pw_below_drewN | apply below_drew1 | refine below_set ?_ GE319.out) | exact HB.out))) : w.heap.size ≤ gb351)); have n6_ := Aside0.mk ((by rw [hg]; exact (below_size (by repeat (first | (with_reducible first | exact HB.out | apply below_alloc | apply pw_below_drewN | apply below_drew1 | refine below_set ?_ GE319.out) | exact HB.out))) : w.heap.size ≤ gb351)); have n7_ := Aside0.mk ((by rw [hg]; exact Nat.ne_of_lt (blk_lt (g := gb319) (o := .cells #[.int .i64 a0_0, .int .i64 a0_1, .int .i64 a0_2, .int .i64 a0_3, .int .u32 a0_4, .slice A0_5 l0_5.length c0_5] 25 (0, 0)) (by (with_reducible repeat (first | refine blk_drewN ?_ _ | refine blk_drew ?_ | refine blk_alloc ?_ _)); exact BK319.out)) : gb319 ≠ gb351)); have n8_ := Aside0.mk ((by rw [hg]; exact Nat.ne_of_gt (blk_lt (g := gb319) (o := .cells #[.int .i64 a0_0, .int .i64 a0_1, .int .i64 a0_2, .int .i64 a0_3, .int .u32 a0_4, .slice A0_5 l0_5.length c0_5] 25 (0, 0)) (by (with_reducible repeat (first | refine blk_drewN ?_ _ | refine blk_drew ?_ | refine blk_alloc ?_ _)); exact BK319.out)) : gb351 ≠ gb319)); clear HO_10; clear HO349; clear BK319; clear HB; have HO_10 := n0_; have HO349 := n1_; have BK319 := n2_; have HB := n3_; have BK351 := n4_; have GW351 := n5_; have GE351 := n6_; have NB319_351 := n7_; have NB351_319 := n8_; clear n0_ n1_ n2_ n3_ n4_ n5_ n6_ n7_ n8_; clear hb hbox hg; have hnb91 := NB351_319.out; have hnc91 := NB319_351.out; have hcz92_0 : w90.cell? ⟨gb351, 0, none⟩ = some (.int .i64 0) := (blk_cell BK351.out 0).trans rfl; have hcz92_1 : w90.cell? ⟨gb351, 1, none⟩ = some (.int .i64 0) := (blk_cell BK351.out 1).trans rfl; have hcz92_2 : w90.cell? ⟨gb351, 2, none⟩ = some (.int .i64 0) := (blk_cell BK351.out 2).trans rfl; have hcz92_3 : w90.cell? ⟨gb351, 3, none⟩ = some (.int .i64 0) := (blk_cell BK351.out 3).trans rfl; have hcz92_4 : w90.cell? ⟨gb351, 4, none⟩ = some (.int .u32 0) := (blk_cell BK351.out 4).trans rfl; have hcz92_5 : w90.cell? ⟨gb351, 5, none⟩ = some (.slice none 0 0) := (blk_cell BK351.out 5).trans rfl; have hfz92_0 := blk_frozen BK351.out 0; have hfz92_1 := blk_frozen BK351.out 1; have hfz92_2 := blk_frozen BK351.out 2; have hfz92_3 := blk_frozen BK351.out 3; have hfz92_4 := blk_frozen BK351.out 4; have hfz92_5 := blk_frozen BK351.out 5; obtain ⟨Ao93, co93, eo93⟩ := Rs_slice HO349.out; subst eo93) | (go_at_call 13; (refine (rosetteref22_Same.calls t342 t343 t344 t345 t346 _ _ t347 0 0 0 0 0 _ _ ([] : List Int) t352 _ ?side1 ?side2 ?side3 ?side4 A88.out).mono ?_); (case side1 => refine (Rs_reads' (e := 5) (base := w.heap.size) (ok := fun k_ => (True ∧ some k_ ≠ (.slice (some ⟨go35, 0, none⟩) x10_35.length co12 : Value).ownBlock)) (n := t347.length) (c := co93) ?_).2.2; exact (by (with_reducible repeat (first | apply Rs_alloc | apply Rs_drewN | apply Rs_drew)); exact (Rs_mono (Rs_far (p := ⟨gb351, 5, none⟩) (Rs_far (p := ⟨gb351, 4, none⟩) (Rs_far (p := ⟨gb351, 3, none⟩) (Rs_far (p := ⟨gb351, 2, none⟩) (Rs_far (p := ⟨gb351, 1, none⟩) (Rs_far (p := ⟨gb351, 0, none⟩) (Rs_types HO349.out BK351.out (by decide)) (fun _ hk => hk.2) (.int .i64 t342)) (fun _ hk => hk.2) (.int .i64 t343)) (fun _ hk => hk.2) (.int .i64 t344)) (fun _ hk => hk.2) (.int .i64 t345)) (fun _ hk => hk.2) (.int .u32 t346)) (fun _ hk => hk.2) (.slice Ao93 t347.length co93)) (fun _ h_ => h_.1)))); (case side2 => exact (Rs_reads' HO349.out).2.1); (case side3 => exact Kd.C_nil _ _); (case side4 => exact Nat.le_refl _); rintro e w94 ⟨rfl, hb⟩; have n0_ := Aside0.mk (Kd.R_below (by (with_reducible repeat (first | apply Kd.R_alloc | apply Kd.R_drewN | apply Kd.R_drew)); exact (Kd.R_mono (Kd.R_far (p := ⟨gb351, 5, none⟩) (Kd.R_far (p := ⟨gb351, 4, none⟩) (Kd.R_far (p := ⟨gb351, 3, none⟩) (Kd.R_far (p := ⟨gb351, 2, none⟩) (Kd.R_far (p := ⟨gb351, 1, none⟩) (Kd.R_far (p := ⟨gb351, 0, none⟩) (Kd.R_types HO_10.out BK351.out (by decide)) (fun _ hk => hk.2) (.int .i64 t342)) (fun _ hk => hk.2) (.int .i64 t343)) (fun _ hk => hk.2) (.int .i64 t344)) (fun _ hk => hk.2) (.int .i64 t345)) (fun _ hk => hk.2) (.int .u32 t346)) (fun _ hk => hk.2) (.slice Ao93 t347.length co93)) (fun _ h_ => h_.1))) hb); have n1_ := Aside0.mk (Rs_below (by (with_reducible repeat (first | apply Rs_alloc | apply Rs_drewN | apply Rs_drew)); exact (Rs_mono (Rs_far (p := ⟨gb351, 5, none⟩) (Rs_far (p := ⟨gb351, 4, none⟩) (Rs_far (p := ⟨gb351, 3, none⟩) (Rs_far (p := ⟨gb351, 2, none⟩) (Rs_far (p := ⟨gb351, 1, none⟩) (Rs_far (p := ⟨gb351, 0, none⟩) (Rs_types HO349.out BK351.out (by decide)) (fun _ hk => hk.2) (.int .i64 t342)) (fun _ hk => hk.2) (.int .i64 t343)) (fun _ hk => hk.2) (.int .i64 t344)) (fun _ hk => hk.2) (.int .i64 t345)) (fun _ hk => hk.2) (.int .u32 t346)) (fun _ hk => hk.2) (.slice Ao93 t347.length co93)) (fun _ h_ => h_.1))) hb); have n2_ := Aside0.mk (blk_below (g := gb319) (o := .cells #[.int .i64 a0_0, .int .i64 a0_1, .int .i64 a0_2, .int .i64 a0_3, .int .u32 a0_4, .slice A0_5 l0_5.length c0_5] 25 (0, 0)) (by (with_reducible repeat (first | refine blk_drewN ?_ _ | refine blk_drew ?_ | refine blk_alloc ?_ _)); refine blk_far ?_ NB319_351.out _; (with_reducible repeat (first | refine blk_drewN ?_ _ | refine blk_drew ?_ | refine blk_alloc ?_ _)); refine blk_far ?_ NB319_351.out _; (with_reducible repeat (first | refine blk_drewN ?_ _ | refine blk_drew ?_ | refine blk_alloc ?_ _)); refine blk_far ?_ NB319_351.out _; (with_reducible repeat (first | refine blk_drewN ?_ _ | refine blk_drew ?_ | refine blk_alloc ?_ _)); refine blk_far ?_ NB319_351.out _; (with_reducible repeat (first | refine blk_drewN ?_ _ | refine blk_drew ?_ | refine blk_alloc ?_ _)); refine blk_far ?_ NB319_351.out _; (with_reducible repeat (first | refine blk_drewN ?_ _ | refine blk_drew ?_ | refine blk_alloc ?_ _)); refine blk_far ?_ NB319_351.out _; (with_reducible repeat (first | refine blk_drewN ?_ _ | refine blk_drew ?_ | refine blk_alloc ?_ _)); exact BK319.out) hb); have n3_ := Aside0.mk (blk_below (g := gb351) (o := .cells #[.int .i64 t342, .int .i64 t343, .int .i64 t344, .int .i64 t345, .int .u32 t346, .slice Ao93 t347.length co93] 25 (0, 0)) (by (with_reducible repeat (first | refine blk_drewN ?_ _ | refine blk_drew ?_ | refine blk_alloc ?_ _)); refine blk_put (cs := #[.int .i64 t342, .int .i64 t343, .int .i64 t344, .int .i64 t345, .int .u32 t346, .slice none 0 0]) ?_ 5 _ rfl; (with_reducible repeat (first | refine blk_drewN ?_ _ | refine blk_drew ?_ | refine blk_alloc ?_ _)); refine blk_put (cs := #[.int .i64 t342, .int .i64 t343, .int .i64 t344, .int .i64 t345, .int .u32 0, .slice none 0 0]) ?_ 4 _ rfl; (with_reducible repeat (first | refine blk_drewN ?_ _ | refine blk_drew ?_ | refine blk_alloc ?_ _)); refine blk_put (cs := #[.int .i64 t342, .int .i64 t343, .int .i64 t344, .int .i64 0, .int .u32 0, .slice none 0 0]) ?_ 3 _ rfl; (with_reducible repeat (first | refine blk_drewN ?_ _ | refine blk_drew ?_ | refine blk_alloc ?_ _)); refine blk_put (cs := #[.int .i64 t342, .int .i64 t343, .int .i64 0, .int .i64 0, .int .u32 0, .slice none 0 0]) ?_ 2 _ rfl; (with_reducible repeat (first | refine blk_drewN ?_ _ | refine blk_drew ?_ | refine blk_alloc ?_ _)); refine blk_put (cs := #[.int .i64 t342, .int .i64 0, .int .i64 0, .int .i64 0, .int .u32 0, .slice none 0 0]) ?_ 1 _ rfl; (with_reducible repeat (first | refine blk_drewN ?_ _ | refine blk_drew ?_ | refine blk_alloc ?_ _)); refine blk_put (cs := #[.int .i64 0, .int .i64 0, .int .i64 0, .int .i64 0, .int .u32 0, .slice none 0 0]) ?_ 0 _ rfl; (with_reducible repeat (first | refine blk_drewN ?_ _ | refine blk_drew ?_ | refine blk_alloc ?_ _)); exact BK351.out) hb); have n4_ := Aside0.mk (below_step (by repeat (first | (with_reducible first | exact HB.out | apply below_alloc | apply pw_below_drewN | apply below_drew1 | refine below_set ?_ GE319.out | refine below_set ?_ GE351.out) | exact HB.out)) hb); clear HO_10; clear HO349; clear BK319; clear BK351; clear HB; have HO_10 := n0_; have HO349 := n1_; have BK319 := n2_; have BK351 := n3_; have HB := n4_; clear n0_ n1_ n2_ n3_ n4_; (try clear hb); (try clear hb2); (try clear hk); (try clear hi)))
                            go_ret
                            exact ⟨by first | rfl | (simp [errW_none, errW_some] <;> rfl) | (simp only [← hji29, ← hji32, ← hji34]; first | rfl | (simp [errW_none, errW_some] <;> rfl)) | (simp [*, errW_none, errW_some] <;> rfl), by repeat (first | (with_reducible first | exact HB.out | apply below_alloc | apply pw_below_drewN | apply below_drew1 | refine below_set ?_ GE319.out | refine below_set ?_ GE351.out) | exact HB.out)⟩
                          · rw [if_neg c87] at H
                            have c87b0 : (t350 == 6) = false := beq_eq_false_iff_ne.mpr c87
                            have c87b1 : (t350 != 6) = true := bne_iff_ne.mpr c87
                            obtain rfl := Option.some.inj H
                            go_wp2_with (first | ((with_reducible refine gate_callee (f := 11) rfl ?_); refine goesL_ (some 115) rfl rfl Try.func11 (by kernel_rfl) rfl #[.slice (some ⟨go35, 0, none⟩) x10_35.length co12] rfl (by (try simp only [List.map_toArray, List.map_cons, List.map_nil]); first | done | rfl | (simp only [List.length_drop, List.length_take]; rfl)) ?_; (with_reducible refine (packet_Decode.calls _ _ x10_35 t342 t343 t344 t345 t346 t347 t350 _ ?side1 ?side2 A85.out).mono ?_); (case side1 => repeat (first | exact (Kd.R_reads' HO_10.out).2.2 | (with_reducible refine Kd.C_alloc ?_ _) | (with_reducible refine Kd.C_drewN ?_ _) | (with_reducible refine Kd.C_drew ?_))); (case side2 => exact (Kd.R_reads' HO_10.out).2.1); rintro e w95 ⟨v348, rfl, ho0, hb⟩; refine ⟨_, rfl, ?_⟩; have n0_ := Aside0.mk (Kd.R_elder' (by (with_reducible repeat (first | apply Kd.R_alloc | apply Kd.R_drewN | apply Kd.R_drew)); exact HO_10.out) (Rs_base ho0) hb); have n1_ := Aside0.mk (Rs_lower (Rs_new' ho0 (Kd.R_lt (by (with_reducible repeat (first | apply Kd.R_alloc | apply Kd.R_drewN | apply Kd.R_drew)); exact HO_10.out))) (below_size (by repeat (first | (with_reducible first | exact HB.out | apply below_alloc | apply pw_below_drewN | apply below_drew1 | refine below_set ?_ GE319.out) | exact HB.out)))); have n2_ := Aside0.mk (blk_below (g := gb319) (o := .cells #[.int .i64 a0_0, .int .i64 a0_1, .int .i64 a0_2, .int .i64 a0_3, .int .u32 a0_4, .slice A0_5 l0_5.length c0_5] 25 (0, 0)) (by (with_reducible repeat (first | refine blk_drewN ?_ _ | refine blk_drew ?_ | refine blk_alloc ?_ _)); exact BK319.out) hb); have n3_ := Aside0.mk (below_step (by repeat (first | (with_reducible first | exact HB.out | apply below_alloc | apply pw_below_drewN | apply below_drew1 | refine below_set ?_ GE319.out) | exact HB.out)) hb); clear HO_10; clear BK319; clear HB; have HO_10 := n0_; have HO349 := n1_; have BK319 := n2_; have HB := n3_; clear n0_ n1_ n2_ n3_; (try clear hb); (try clear hb2); (try clear hk); (try clear hi); (try clear ho0)) | ((with_reducible refine gate_dst (N := 13) rfl ?_); refine box_event ?hg (N := 13) ?hd (cs := #[.int .i64 0, .int .i64 0, .int .i64 0, .int .i64 0, .int .u32 0, .slice none 0 0]) (t := 25) ?hr ?_; (case hd => rfl); (case hg => rfl); (case hr => first | (go_simp; done) | (go_simp; rfl)); intro gb351 hg w96 hbox hb; have n0_ := Aside0.mk (Kd.R_below (by (with_reducible repeat (first | apply Kd.R_alloc | apply Kd.R_drewN | apply Kd.R_drew)); exact HO_10.out) hb); have n1_ := Aside0.mk (Rs_below (by (with_reducible repeat (first | apply Rs_alloc | apply Rs_drewN | apply Rs_drew)); exact HO349.out) hb); have n2_ := Aside0.mk (blk_below (g := gb319) (o := .cells #[.int .i64 a0_0, .int .i64 a0_1, .int .i64 a0_2, .int .i64 a0_3, .int .u32 a0_4, .slice A0_5 l0_5.length c0_5] 25 (0, 0)) (by (with_reducible repeat (first | refine blk_drewN ?_ _ | refine blk_drew ?_ | refine blk_alloc ?_ _)); exact BK319.out) hb); have n3_ := Aside0.mk (below_step (by repeat (first | (with_reducible first | exact HB.out | apply below_alloc | apply pw_below_drewN | apply below_drew1 | refine below_set ?_ GE319.out) | exact HB.out)) hb); have n4_ := Aside0.mk (hbox); have n5_ := Aside0.mk ((by rw [hg]; exact (below_size (by repeat (first | (with_reducible first | exact HB.out | apply below_alloc | apply pw_below_drewN | apply below_drew1 | refine below_set ?_ GE319.out) | exact HB.out))) : w.heap.size ≤ gb351)); have n6_ := Aside0.mk ((by rw [hg]; exact (below_size (by repeat (first | (with_reducible first | exact HB.out | apply below_alloc | apply pw_below_drewN | apply below_drew1 | refine below_set ?_ GE319.out) | exact HB.out))) : w.heap.size ≤ gb351)); have n7_ := Aside0.mk ((by rw [hg]; exact Nat.ne_of_lt (blk_lt (g := gb319) (o := .cells #[.int .i64 a0_0, .int .i64 a0_1, .int .i64 a0_2, .int .i64 a0_3, .int .u32 a0_4, .slice A0_5 l0_5.length c0_5] 25 (0, 0)) (by (with_reducible repeat (first | refine blk_drewN ?_ _ | refine blk_drew ?_ | refine blk_alloc ?_ _)); exact BK319.out)) : gb319 ≠ gb351)); have n8_ := Aside0.mk ((by rw [hg]; exact Nat.ne_of_gt (blk_lt (g := gb319) (o := .cells #[.int .i64 a0_0, .int .i64 a0_1, .int .i64 a0_2, .int .i64 a0_3, .int .u32 a0_4, .slice A0_5 l0_5.length c0_5] 25 (0, 0)) (by (with_reducible repeat (first | refine blk_drewN ?_ _ | refine blk_drew ?_ | refine blk_alloc ?_ _)); exact BK319.out)) : gb351 ≠ gb319)); clear HO_10; clear HO349; clear BK319; clear HB; have HO_10 := n0_; have HO349 := n1_; have BK319 := n2_; have HB := n3_; have BK351 := n4_; have GW351 := n5_; have GE351 := n6_; have NB319_351 := n7_; have NB351_319 := n8_; clear n0_ n1_ n2_ n3_ n4_ n5_ n6_ n7_ n8_; clear hb hbox hg; have hnb97 := NB351_319.out; have hnc97 := NB319_351.out; have hcz98_0 : w96.cell? ⟨gb351, 0, none⟩ = some (.int .i64 0) := (blk_cell BK351.out 0).trans rfl; have hcz98_1 : w96.cell? ⟨gb351, 1, none⟩ = some (.int .i64 0) := (blk_cell BK351.out 1).trans rfl; have hcz98_2 : w96.cell? ⟨gb351, 2, none⟩ = some (.int .i64 0) := (blk_cell BK351.out 2).trans rfl; have hcz98_3 : w96.cell? ⟨gb351, 3, none⟩ = some (.int .i64 0) := (blk_cell BK351.out 3).trans rfl; have hcz98_4 : w96.cell? ⟨gb351, 4, none⟩ = some (.int .u32 0) := (blk_cell BK351.out 4).trans rfl; have hcz98_5 : w96.cell? ⟨gb351, 5, none⟩ = some (.slice none 0 0) := (blk_cell BK351.out 5).trans rfl; have hfz98_0 := blk_frozen BK351.out 0; have hfz98_1 := blk_frozen BK351.out 1; have hfz98_2 := blk_frozen BK351.out 2; have hfz98_3 := blk_frozen BK351.out 3; have hfz98_4 := blk_frozen BK351.out 4; have hfz98_5 := blk_frozen BK351.out 5; obtain ⟨Ao99, co99, eo99⟩ := Rs_slice HO349.out; subst eo99))
                            go_ret
                            exact ⟨by first | rfl | (simp [errW_none, errW_some] <;> rfl) | (simp only [← hji29, ← hji32, ← hji34]; first | rfl | (simp [errW_none, errW_some] <;> rfl)) | (simp [*, errW_none, errW_some] <;> rfl), by repeat (first | (with_reducible first | exact HB.out | apply below_alloc | apply pw_below_drewN | apply below_drew1 | refine below_set ?_ GE319.out | refine below_set ?_ GE351.out) | exact HB.out)⟩
                        · replace c86 := Bool.eq_false_iff.mpr c86
                          subst c86
                          have H1 : (some false) = some r := by rw [if_neg (show ¬ (false = true) by decide)] at H; exact H
                          clear H
                          have H := H1
                          clear H1
                          obtain rfl := Option.some.inj H
                          go_wp2_with (first | ((with_reducible refine gate_callee (f := 11) rfl ?_); refine goesL_ (some 115) rfl rfl Try.func11 (by kernel_rfl) rfl #[.slice (some ⟨go35, 0, none⟩) x10_35.length co12] rfl (by (try simp only [List.map_toArray, List.map_cons, List.map_nil]); first | done | rfl | (simp only [List.length_drop, List.length_take]; rfl)) ?_; (with_reducible refine (packet_Decode.calls _ _ x10_35 t342 t343 t344 t345 t346 t347 t350 _ ?side1 ?side2 A85.out).mono ?_); (case side1 => repeat (first | exact (Kd.R_reads' HO_10.out).2.2 | (with_reducible refine Kd.C_alloc ?_ _) | (with_reducible refine Kd.C_drewN ?_ _) | (with_reducible refine Kd.C_drew ?_))); (case side2 => exact (Kd.R_reads' HO_10.out).2.1); rintro e w100 ⟨v348, rfl, ho0, hb⟩; refine ⟨_, rfl, ?_⟩; have n0_ := Aside0.mk (Kd.R_elder' (by (with_reducible repeat (first | apply Kd.R_alloc | apply Kd.R_drewN | apply Kd.R_drew)); exact HO_10.out) (Rs_base ho0) hb); have n1_ := Aside0.mk (Rs_lower (Rs_new' ho0 (Kd.R_lt (by (with_reducible repeat (first | apply Kd.R_alloc | apply Kd.R_drewN | apply Kd.R_drew)); exact HO_10.out))) (below_size (by repeat (first | (with_reducible first | exact HB.out | apply below_alloc | apply pw_below_drewN | apply below_drew1 | refine below_set ?_ GE319.out) | exact HB.out)))); have n2_ := Aside0.mk (blk_below (g := gb319) (o := .cells #[.int .i64 a0_0, .int .i64 a0_1, .int .i64 a0_2, .int .i64 a0_3, .int .u32 a0_4, .slice A0_5 l0_5.length c0_5] 25 (0, 0)) (by (with_reducible repeat (first | refine blk_drewN ?_ _ | refine blk_drew ?_ | refine blk_alloc ?_ _)); exact BK319.out) hb); have n3_ := Aside0.mk (below_step (by repeat (first | (with_reducible first | exact HB.out | apply below_alloc | apply pw_below_drewN | apply below_drew1 | refine below_set ?_ GE319.out) | exact HB.out)) hb); clear HO_10; clear BK319; clear HB; have HO_10 := n0_; have HO349 := n1_; have BK319 := n2_; have HB := n3_; clear n0_ n1_ n2_ n3_; (try clear hb); (try clear hb2); (try clear hk); (try clear hi); (try clear ho0)) | ((with_reducible refine gate_dst (N := 13) rfl ?_); refine box_event ?hg (N := 13) ?hd (cs := #[.int .i64 0, .int .i64 0, .int .i64 0, .int .i64 0, .int .u32 0, .slice none 0 0]) (t := 25) ?hr ?_; (case hd => rfl); (case hg => rfl); (case hr => first | (go_simp; done) | (go_simp; rfl)); intro gb351 hg w101 hbox hb; have n0_ := Aside0.mk (Kd.R_below (by (with_reducible repeat (first | apply Kd.R_alloc | apply Kd.R_drewN | apply Kd.R_drew)); exact HO_10.out) hb); have n1_ := Aside0.mk (Rs_below (by (with_reducible repeat (first | apply Rs_alloc | apply Rs_drewN | apply Rs_drew)); exact HO349.out) hb); have n2_ := Aside0.mk (blk_below (g := gb319) (o := .cells #[.int .i64 a0_0, .int .i64 a0_1, .int .i64 a0_2, .int .i64 a0_3, .int .u32 a0_4, .slice A0_5 l0_5.length c0_5] 25 (0, 0)) (by (with_reducible repeat (first | refine blk_drewN ?_ _ | refine blk_drew ?_ | refine blk_alloc ?_ _)); exact BK319.out) hb); have n3_ := Aside0.mk (below_step (by repeat (first | (with_reducible first | exact HB.out | apply below_alloc | apply pw_below_drewN | apply below_drew1 | refine below_set ?_ GE319.out) | exact HB.out)) hb); have n4_ := Aside0.mk (hbox); have n5_ := Aside0.mk ((by rw [hg]; exact (below_size (by repeat (first | (with_reducible first | exact HB.out | apply below_alloc | apply pw_below_drewN | apply below_drew1 | refine below_set ?_ GE319.out) | exact HB.out))) : w.heap.size ≤ gb351)); have n6_ := Aside0.mk ((by rw [hg]; exact (below_size (by repeat (first | (with_reducible first | exact HB.out | apply below_alloc | apply pw_below_drewN | apply below_drew1 | refine below_set ?_ GE319.out) | exact HB.out))) : w.heap.size ≤ gb351)); have n7_ := Aside0.mk ((by rw [hg]; exact Nat.ne_of_lt (blk_lt (g := gb319) (o := .cells #[.int .i64 a0_0, .int .i64 a0_1, .int .i64 a0_2, .int .i64 a0_3, .int .u32 a0_4, .slice A0_5 l0_5.length c0_5] 25 (0, 0)) (by (with_reducible repeat (first | refine blk_drewN ?_ _ | refine blk_drew ?_ | refine blk_alloc ?_ _)); exact BK319.out)) : gb319 ≠ gb351)); have n8_ := Aside0.mk ((by rw [hg]; exact Nat.ne_of_gt (blk_lt (g := gb319) (o := .cells #[.int .i64 a0_0, .int .i64 a0_1, .int .i64 a0_2, .int .i64 a0_3, .int .u32 a0_4, .slice A0_5 l0_5.length c0_5] 25 (0, 0)) (by (with_reducible repeat (first | refine blk_drewN ?_ _ | refine blk_drew ?_ | refine blk_alloc ?_ _)); exact BK319.out)) : gb351 ≠ gb319)); clear HO_10; clear HO349; clear BK319; clear HB; have HO_10 := n0_; have HO349 := n1_; have BK319 := n2_; have HB := n3_; have BK351 := n4_; have GW351 := n5_; have GE351 := n6_; have NB319_351 := n7_; have NB351_319 := n8_; clear n0_ n1_ n2_ n3_ n4_ n5_ n6_ n7_ n8_; clear hb hbox hg; have hnb102 := NB351_319.out; have hnc102 := NB319_351.out; have hcz103_0 : w101.cell? ⟨gb351, 0, none⟩ = some (.int .i64 0) := (blk_cell BK351.out 0).trans rfl; have hcz103_1 : w101.cell? ⟨gb351, 1, none⟩ = some (.int .i64 0) := (blk_cell BK351.out 1).trans rfl; have hcz103_2 : w101.cell? ⟨gb351, 2, none⟩ = some (.int .i64 0) := (blk_cell BK351.out 2).trans rfl; have hcz103_3 : w101.cell? ⟨gb351, 3, none⟩ = some (.int .i64 0) := (blk_cell BK351.out 3).trans rfl; have hcz103_4 : w101.cell? ⟨gb351, 4, none⟩ = some (.int .u32 0) := (blk_cell BK351.out 4).trans rfl; have hcz103_5 : w101.cell? ⟨gb351, 5, none⟩ = some (.slice none 0 0) := (blk_cell BK351.out 5).trans rfl; have hfz103_0 := blk_frozen BK351.out 0; have hfz103_1 := blk_frozen BK351.out 1; have hfz103_2 := blk_frozen BK351.out 2; have hfz103_3 := blk_frozen BK351.out 3; have hfz103_4 := blk_frozen BK351.out 4; have hfz103_5 := blk_frozen BK351.out 5; obtain ⟨Ao104, co104, eo104⟩ := Rs_slice HO349.out; subst eo104))
                          go_ret
                          exact ⟨by first | rfl | (simp [errW_none, errW_some] <;> rfl) | (simp only [← hji29, ← hji32, ← hji34]; first | rfl | (simp [errW_none, errW_some] <;> rfl)) | (simp [*, errW_none, errW_some] <;> rfl), by repeat (first | (with_reducible first | exact HB.out | apply below_alloc | apply pw_below_drewN | apply below_drew1 | refine below_set ?_ GE319.out | refine below_set ?_ GE351.out) | exact HB.out)⟩
            · rw [if_neg c33] at H
              exact absurd H (by simp)
          · rw [if_neg c31] at H
            exact absurd H (by simp)
        · rw [if_neg c30] at H
          exact absurd H (by simp)

end Go.Proofs.Yticpcjjgdkbcjaa.G
end

section
namespace Go.Proofs.Yticpcjjgdkbcjaa.G
open Go.RowKit Go.Proofs.Yticpcjjgdkbcjaa Go.Proofs.Yticpcjjgdkbcjaa.G Go.Proofs.YticpcjjgdkbcjaaW.PrintWords Go.Proofs.YticpcjjgdkbcjaaW.PrintLast

/-- The pure statement of rosettelaw22_PacketTurned. -/
def rosettelaw22_PacketTurned.Pure : Prop := ∀ (a0 : S25) (a1 : Int) (a2 : Int) (a3 : Int), ((Lit.int .i64 a0.f0).wf = true ∧ ((Lit.int .i64 a0.f1).wf = true ∧ ((Lit.int .i64 a0.f2).wf = true ∧ ((Lit.int .i64 a0.f3).wf = true ∧ ((Lit.int .u32 a0.f4).wf = true ∧ ((a0.f5.length ≤ maxLen ∧ a0.f5.length * 1 ≤ 140737488351232) ∧ ∀ x0 ∈ a0.f5, (Lit.int .u8 x0).wf = true)))))) → (Lit.int .i64 a1).wf = true → (Lit.int .i64 a2).wf = true → (Lit.int .i64 a3).wf = true → ∃ k, rosettelaw22_PacketTurned.f k a0.f0 a0.f1 a0.f2 a0.f3 a0.f4 a0.f5 a1 a2 a3 = some true
end Go.Proofs.Yticpcjjgdkbcjaa.G
end

section
/- numbers as bytes and back, over lists alone -/
set_option linter.unusedVariables false
set_option linter.unusedSimpArgs false
set_option autoImplicit false
namespace Go.Proofs.Yticpcjjgdkbcjaa
open Go.RowKit Go.Proofs.YticpcjjgdkbcjaaW.PrintWords Go.Proofs.YticpcjjgdkbcjaaW.PrintLast Go.Proofs.YticpcjjgdkbcjaaW.PrintMore Go.Proofs.Yticpcjjgdkbcjaa.G

theorem u8s_wf {l : List Int} (h : ∀ x ∈ l, (Lit.int .u8 x).wf = true) : u8s l := fun x hx => by
  have := Go.bounds_u8 (h x hx)
  omega
theorem drop_rd (l : List Int) (k : Nat) (hk : k < l.length) : l.drop k = rd l k :: l.drop (k + 1) := by
  rw [List.drop_eq_getElem_cons hk]
  simp [rd, List.getD_eq_getElem?_getD, hk]
theorem putGo_len (f : Nat) : ∀ n, (putGo f n).length ≤ f + 1 := by
  induction f with
  | zero => intro n; simp [putGo]
  | succ f ih => intro n; rw [putGo]; split <;> simp; exact ih _
theorem putL_len (n : Int) : (putL n).length ≤ 10 := putGo_len 9 n
theorem putGo_u8s (f : Nat) : ∀ n, 0 ≤ n → u8s (putGo f n) := by
  induction f with
  | zero => intro n h x hx; simp [putGo] at hx; omega
  | succ f ih =>
    intro n h x hx
    rw [putGo] at hx
    split at hx
    · simp at hx; omega
    · rcases List.mem_cons.1 hx with rfl | hx
      · omega
      · exact ih _ (by omega) x hx
theorem put_u8s (n : Int) (h : 0 ≤ n) : u8s (putL n) := putGo_u8s 9 n h
theorem put_f (l : List Int) (n : Int) (h0 : 0 ≤ n) (h1 : n < 18446744073709551616) (hl : l.length ≤ 140737488355300) : wire_Put.f l n = some (l ++ putL n) := by
  unfold wire_Put.f
  rw [if_pos ⟨h0, h1, hl⟩]

/-- what is read was laid just so -/
theorem numGo_once (l : List Int) (hu : u8s l) : ∀ (f k : Nat) (acc n : Int) (s' : Sc), f + k = 9 → k ≤ l.length → numGo ⟨l, 0⟩ (f + 1) k acc = (n, s') → s'.e = 0 →
    ∃ m : Int, 0 ≤ m ∧ (0 < k → 0 < m) ∧ n = acc + m * 128 ^ k ∧ l.drop k = putGo f m ++ s'.l := by
  intro f
  induction f with
  | zero =>
    intro k acc n s' hk hle h he
    rw [numGo] at h
    obtain rfl : k = 9 := by omega
    split at h
    · cases h; simp [Sc.fail] at he
    · split at h
      · cases h; simp [Sc.fail] at he
      · rename_i h1 h2
        have hc : rd l 9 = 1 := Classical.byContradiction fun hc => h2 (.inl ⟨rfl, hc⟩)
        have hkl : 9 < l.length := by simp only at h1; omega
        simp only [Int.cast_ofNat_Int] at h
        rw [if_pos (by simp only [hc]; omega)] at h
        cases h
        refine ⟨1, by omega, by omega, ?_, ?_⟩
        · simp only [hc]; omega
        · have hd := drop_rd l 9 hkl
          rw [hd]
          simp only [Int.cast_ofNat_Int, hc]
          rfl
  | succ f ih =>
    intro k acc n s' hk hle h he
    rw [numGo] at h
    split at h
    · cases h; simp [Sc.fail] at he
    · split at h
      · cases h; simp [Sc.fail] at he
      · rename_i h1 h2
        have hkl : k < l.length := by simp only at h1; omega
        have hc := rd_u8 hu k hkl
        have hnz : 0 < k → rd l k ≠ 0 := fun h0 hz => h2 (.inr ⟨h0, hz⟩)
        have hd := drop_rd l k hkl
        split at h
        · rename_i hlt
          simp only at hlt
          cases h
          refine ⟨rd l k, hc.1, fun h0 => by have := hnz h0; omega, ?_, ?_⟩
          · simp only; rw [Int.emod_eq_of_lt hc.1 hlt]
          · rw [hd, putGo, if_pos hlt, Int.emod_eq_of_lt hc.1 hc.2]; rfl
        · rename_i hlt
          simp only at hlt
          obtain ⟨m, hm0, hm1, hn, hdr⟩ := ih (k + 1) _ n s' (by omega) hkl h he
          have := hm1 (by omega)
          refine ⟨rd l k % 128 + 128 * m, by omega, fun _ => by omega, ?_, ?_⟩
          · rw [hn, Int.pow_succ, Int.add_mul, Int.add_assoc]
            congr 1; congr 1
            simp only [Int.mul_comm, Int.mul_left_comm, Int.mul_assoc]
          · rw [hd, hdr, putGo, if_neg (by omega)]
            rw [show (rd l k % 128 + 128 * m) % 128 + 128 = rd l k by omega, show (rd l k % 128 + 128 * m) / 128 = m by omega]
            rfl
theorem num_once (l : List Int) (hu : u8s l) (he : (Sc.num ⟨l, 0⟩).2.e = 0) : l = putL (Sc.num ⟨l, 0⟩).1 ++ (Sc.num ⟨l, 0⟩).2.l := by
  have hq : Sc.num ⟨l, 0⟩ = numGo ⟨l, 0⟩ 10 0 0 := rfl
  obtain ⟨m, _, _, hn, hd⟩ := numGo_once l hu 9 0 0 _ _ rfl (by omega) (show numGo ⟨l, 0⟩ (9 + 1) 0 0 = ((Sc.num ⟨l, 0⟩).1, (Sc.num ⟨l, 0⟩).2) by rw [hq]) he
  rw [show m = (Sc.num ⟨l, 0⟩).1 by rw [hn]; simp] at hd
  exact hd
/-- what was laid is read as it was -/
theorem numGo_back (l : List Int) : ∀ (f k : Nat) (acc m : Int) (rest : List Int), f + k = 9 → 0 ≤ m → (0 < k → 0 < m) → m * 128 ^ k < 18446744073709551616 → l.drop k = putGo f m ++ rest →
    numGo ⟨l, 0⟩ (f + 1) k acc = (acc + m * 128 ^ k, ⟨rest, 0⟩) := by
  intro f
  induction f with
  | zero =>
    intro k acc m rest hk h0 h1 hb hd
    obtain rfl : k = 9 := by omega
    have hm := h1 (by omega)
    obtain rfl : m = 1 := by omega
    have hkl : 9 < l.length := by
      apply Classical.byContradiction; intro hn
      rw [List.drop_eq_nil_of_le (by omega)] at hd
      simp [putGo] at hd
    have hd2 := drop_rd l 9 hkl
    rw [hd, putGo] at hd2
    simp only [List.singleton_append, List.cons.injEq] at hd2
    obtain ⟨hc, hr⟩ := hd2
    rw [numGo, if_neg (by simp only; omega), if_neg (by rintro (⟨_, h⟩ | ⟨_, h⟩) <;> simp only at h <;> omega), if_pos (by simp only; omega)]
    simp only
    rw [← hr, ← hc]
    rfl
  | succ f ih =>
    intro k acc m rest hk h0 h1 hb hd
    have hkl : k < l.length := by
      apply Classical.byContradiction; intro hn
      rw [List.drop_eq_nil_of_le (by omega), putGo] at hd
      split at hd <;> simp at hd
    have hd2 := drop_rd l k hkl
    rw [hd, putGo] at hd2
    have hk9 : k ≠ 9 := by omega
    by_cases hlt : m < 128
    · rw [if_pos hlt] at hd2
      simp only [List.singleton_append, List.cons.injEq] at hd2
      obtain ⟨hc, hr⟩ := hd2
      rw [numGo, if_neg (by simp only; omega), if_neg (by rintro (⟨h, _⟩ | ⟨h, hz⟩) <;> first | exact hk9 h | (have := h1 h; simp only at hz; omega)), if_pos (by simp only; omega)]
      simp only
      rw [← hr, ← hc, Int.emod_eq_of_lt h0 (by omega : m < 256), Int.emod_eq_of_lt h0 hlt]
    · rw [if_neg hlt] at hd2
      simp only [List.cons_append, List.cons.injEq] at hd2
      obtain ⟨hc, hr⟩ := hd2
      rw [numGo, if_neg (by simp only; omega), if_neg (by rintro (⟨h, _⟩ | ⟨_, hz⟩) <;> first | exact hk9 h | (simp only at hz; omega)), if_neg (by simp only; omega)]
      have hsplit : m * 128 ^ k = m % 128 * 128 ^ k + m / 128 * 128 ^ (k + 1) := by
        rw [Int.pow_succ, ← Int.mul_assoc, Int.mul_right_comm, ← Int.add_mul]
        congr 1; omega
      have hp : (0 : Int) < 128 ^ k := Int.pow_pos (by decide)
      have hnn : 0 ≤ m % 128 * 128 ^ k := Int.mul_nonneg (by omega) (by omega)
      rw [ih (k + 1) _ (m / 128) rest (by omega) (by omega) (fun _ => by omega) (by omega) hr.symm]
      simp only
      rw [← hc, show (m % 128 + 128) % 128 = m % 128 by omega, hsplit, Int.add_assoc]
theorem num_back (n : Int) (rest : List Int) (h0 : 0 ≤ n) (h1 : n < 18446744073709551616) : Sc.num ⟨putL n ++ rest, 0⟩ = (n, ⟨rest, 0⟩) := by
  have := numGo_back (putL n ++ rest) 9 0 0 n rest rfl h0 (by omega) (by simpa using h1) rfl
  rw [show Sc.num ⟨putL n ++ rest, 0⟩ = numGo ⟨putL n ++ rest, 0⟩ (9 + 1) 0 0 from rfl, this]
  simp

/-! ### ints -/
def zig (a : Int) : Int := if 0 ≤ a then 2 * a else -2 * a - 1
theorem zig_lt (a : Int) (h0 : -9223372036854775808 ≤ a) (h1 : a < 9223372036854775808) : 0 ≤ zig a ∧ zig a < 18446744073709551616 := by unfold zig; split <;> omega
theorem zag_lt (n : Int) (h0 : 0 ≤ n) (h1 : n < 18446744073709551616) : -9223372036854775808 ≤ zag n ∧ zag n < 9223372036854775808 := by unfold zag; split <;> omega
theorem zag_zig (a : Int) : zag (zig a) = a := by unfold zag zig; split <;> split <;> omega
theorem zig_zag (n : Int) (h0 : 0 ≤ n) : zig (zag n) = n := by unfold zag zig; split <;> split <;> omega
theorem wrap_size (n : Nat) (h : n < 18446744073709551616) : IntKind.u64.wrap (n : Int) = n := by rw [IntKind.wrap_u64]; omega
theorem putText_f (l : List Int) (s : ByteArray) (hl : l.length ≤ 140737488350000) (hs : s.size ≤ 4000) : wire_PutText.f l s = some (l ++ putL s.size ++ bytesOf s) := by
  unfold wire_PutText.f
  rw [wrap_size _ (by omega), put_f l _ (by omega) (by omega) (by omega)]
  have := putL_len (s.size : Int)
  simp only [Option.bind_some]
  rw [if_pos (by simp only [List.length_append]; omega)]
theorem fail_ne (s : Sc) (e : Int) (h : e ≠ 0) : (s.fail e).e ≠ 0 := by
  unfold Sc.fail
  rw [if_neg h]
  split
  · exact h
  · assumption
theorem text_none (s : Sc) (most : Int) (h : (s.text most).2.e ≠ 0) : (s.text most).1 = [] := by
  unfold Sc.text at h ⊢
  split at h
  · rename_i h1
    rw [if_pos h1]
    split at h
    · rename_i h2; rw [if_pos h2]
    · simp at h
  · rename_i h1; rw [if_neg h1]
theorem text_once (l : List Int) (hu : u8s l) (most : Int) (hm : 0 ≤ most ∧ most ≤ 100000) (he : (Sc.text ⟨l, 0⟩ most).2.e = 0) :
    l = putL (Sc.text ⟨l, 0⟩ most).1.length ++ (Sc.text ⟨l, 0⟩ most).1 ++ (Sc.text ⟨l, 0⟩ most).2.l ∧ ((Sc.text ⟨l, 0⟩ most).1.length : Int) ≤ most := by
  have hn := Sc.num_lt ⟨l, 0⟩ hu
  have ho := num_once l hu
  unfold Sc.text at he ⊢
  split at he
  · rename_i h1
    rw [if_pos h1]
    split at he
    · rename_i h2
      exact absurd he (fail_ne _ 2 (by decide))
    · rename_i h2
      rw [if_neg h2]
      unfold Sc.upto at h1 h2 ⊢
      split at h1
      · exact absurd h1 (fail_ne _ 4 (by decide))
      · rename_i h3
        simp only at h1
        rw [if_neg h3] at h2 ⊢
        have h4 : ¬ (most < 0 ∨ most < (Sc.num ⟨l, 0⟩).1) := fun h => h3 ⟨h1, h⟩
        generalize Sc.num ⟨l, 0⟩ = p at *
        obtain ⟨n, s⟩ := p
        simp only at *
        have hw : wrap64 n = n := by unfold wrap64; omega
        rw [hw] at h2 ⊢
        have hlen : ((s.l.take n.toNat).length : Int) = n := by rw [List.length_take]; omega
        rw [hlen, List.append_assoc, List.take_append_drop]
        exact ⟨ho h1, by omega⟩
  · exact absurd he (by assumption)
theorem text_back (x rest : List Int) (most : Int) (hm : (x.length : Int) ≤ most) (hl : x.length < 9223372036854775808) : Sc.text ⟨putL x.length ++ (x ++ rest), 0⟩ most = (x, ⟨rest, 0⟩) := by
  have hn := num_back x.length (x ++ rest) (by omega) (by omega)
  have hu : Sc.upto ⟨putL x.length ++ (x ++ rest), 0⟩ most = ((x.length : Int), ⟨x ++ rest, 0⟩) := by
    unfold Sc.upto
    rw [hn, if_neg (by simp only; omega)]
    simp only
    rw [show wrap64 (x.length : Int) = x.length by unfold wrap64; omega]
  unfold Sc.text
  rw [hu]
  simp only
  rw [if_pos trivial, if_neg (by simp only [List.length_append]; omega)]
  simp
theorem int_back (a : Int) (rest : List Int) (h0 : -9223372036854775808 ≤ a) (h1 : a < 9223372036854775808) : Sc.int ⟨putL (zig a) ++ rest, 0⟩ = (a, ⟨rest, 0⟩) := by
  have hz := zig_lt a h0 h1
  unfold Sc.int
  rw [num_back _ rest hz.1 hz.2, zag_zig]
theorem str_size (x : List Int) : (strOfNums x).size = x.length := by simp [strOfNums, ByteArray.size]
theorem str_bytes (x : List Int) (hu : u8s x) : bytesOf (strOfNums x) = x := by
  unfold bytesOf strOfNums
  simp only [List.map_map]
  apply List.ext_getElem (by simp)
  intro i h1 h2
  simp only [List.getElem_map, Function.comp]
  have := hu x[i] (List.getElem_mem h2)
  rw [UInt8.toNat_ofNat']
  omega
theorem u8s_left {a b : List Int} (h : u8s (a ++ b)) : u8s a := (u8s_append.1 h).1
theorem u8s_right {a b : List Int} (h : u8s (a ++ b)) : u8s b := (u8s_append.1 h).2
end Go.Proofs.Yticpcjjgdkbcjaa
end

section
namespace Go.Proofs.Yticpcjjgdkbcjaa.Pure
open Go.RowKit Go.Proofs.Yticpcjjgdkbcjaa.G Go.Proofs.YticpcjjgdkbcjaaW.PrintWords Go.Proofs.YticpcjjgdkbcjaaW.PrintLast

theorem u8s_wf {l : List Int} (h : ∀ x ∈ l, (Lit.int .u8 x).wf = true) : u8s l := fun x hx => by
  have := Go.bounds_u8 (h x hx)
  omega
theorem u8s_append {a b : List Int} : u8s (a ++ b) ↔ u8s a ∧ u8s b := by
  unfold u8s
  constructor
  · intro h; exact ⟨fun x hx => h x (List.mem_append_left _ hx), fun x hx => h x (List.mem_append_right _ hx)⟩
  · rintro ⟨h1, h2⟩ x hx
    rcases List.mem_append.1 hx with h | h
    · exact h1 x h
    · exact h2 x h
theorem u8s_take {l : List Int} (h : u8s l) (n : Nat) : u8s (l.take n) := fun x hx => h x (List.mem_of_mem_take hx)
theorem u8s_drop {l : List Int} (h : u8s l) (n : Nat) : u8s (l.drop n) := fun x hx => h x (List.mem_of_mem_drop hx)
theorem u8s_zof {l : List Nat} (h : CrcM.Bytes l) : u8s (zof l) := by
  intro x hx
  obtain ⟨c, hc, rfl⟩ := List.mem_map.1 hx
  have := h c hc
  omega
theorem nats_zof (l : List Nat) : nats (zof l) = l := by
  unfold nats zof
  rw [List.map_map]
  exact (List.map_congr_left (fun x _ => by simp)).trans (List.map_id l)
theorem nats_append (a b : List Int) : nats (a ++ b) = nats a ++ nats b := by simp [nats]
theorem nats_length (l : List Int) : (nats l).length = l.length := by simp [nats]
theorem zof_length (l : List Nat) : (zof l).length = l.length := by simp [zof]
theorem nats_take (l : List Int) (n : Nat) : nats (l.take n) = (nats l).take n := by simp [nats, List.map_take]
theorem nats_drop (l : List Int) (n : Nat) : nats (l.drop n) = (nats l).drop n := by simp [nats, List.map_drop]
theorem zof_take (l : List Nat) (n : Nat) : zof (l.take n) = (zof l).take n := by simp [zof, List.map_take]
theorem zof_drop (l : List Nat) (n : Nat) : zof (l.drop n) = (zof l).drop n := by simp [zof, List.map_drop]
theorem zof_inj {a b : List Nat} (h : zof a = zof b) : a = b := by
  have := congrArg nats h
  rwa [nats_zof, nats_zof] at this
theorem nats_inj {a b : List Int} (ha : u8s a) (hb : u8s b) (h : nats a = nats b) : a = b := by
  rw [← zof_nats ha, ← zof_nats hb, h]

/-- two rows of bytes are one text just if they are one row -/
theorem str_eq {a b : List Int} (ha : u8s a) (hb : u8s b) : ((strOfNums a).toList = (strOfNums b).toList) ↔ a = b := by
  constructor
  · intro h
    have h3 := h
    rw [Lib.strOfNums_toList, Lib.strOfNums_toList] at h3
    unfold Lib.bytesOf at h3
    apply nats_inj ha hb
    unfold nats
    have h4 := congrArg (List.map UInt8.toNat) h3
    simp only [List.map_map] at h4
    have e : ∀ l : List Int, u8s l → l.map (UInt8.toNat ∘ fun n => UInt8.ofNat n.toNat) = l.map Int.toNat := fun l hl => List.map_congr_left fun x hx => by
      have := hl x hx
      simp only [Function.comp, UInt8.toNat_ofNat']
      omega
    rwa [e a ha, e b hb] at h4
  · rintro rfl; rfl
theorem str_beq {a b : List Int} (ha : u8s a) (hb : u8s b) : ((strOfNums a).toList == (strOfNums b).toList) = decide (a = b) := by
  rw [Bool.eq_iff_iff]
  simp [str_eq ha hb]

theorem seal_some {l : List Int} (h : u8s l) (hl : l.length ≤ 140737488351232) : crc_Seal.f l = some (zof (CrcM.sealB (nats l))) := by
  unfold crc_Seal.f
  rw [if_pos ⟨h, hl⟩]
theorem add_some {l : List Int} (h : u8s l) (n : Nat) (hn : n < 4294967296) : crc_Add.f (n : Int) l = some ((CrcM.add n (nats l) : Nat) : Int) := by
  unfold crc_Add.f
  rw [if_pos ⟨by omega, by omega, h⟩, Int.toNat_natCast]

theorem wrap_small (x : Int) (h0 : -9223372036854775808 ≤ x) (h1 : x < 9223372036854775808) : wrap64 x = x := by unfold wrap64; omega

def opened (o : Option (List Nat)) : List Int × Bool := match o with
  | some y => (zof y, true)
  | none => ([], false)
theorem open_some' {l : List Int} (h : u8s l) (hl : l.length ≤ 140737488351232) : crc_Open.f l = some (opened (CrcM.openB (nats l))) := by
  unfold crc_Open.f CrcM.openB
  rw [nats_length, wrap_small _ (by omega) (by omega)]
  by_cases h4 : l.length < 4
  · rw [if_pos (by omega), if_pos h4]; rfl
  · rw [if_neg (by omega), if_pos (by omega), if_pos (by omega), if_neg h4]
    rw [show ((l.length : Int) - 4).toNat = l.length - 4 by omega]
    have ht := u8s_take h (l.length - 4)
    rw [seal_some ht (by simp; omega)]
    simp only [Option.bind_some]
    rw [if_pos (by rw [zof_length, CrcM.sealB_length, nats_length, List.length_take]; omega)]
    have e : (zof (CrcM.sealB (nats (l.take (l.length - 4))))).drop (l.length - 4) = zof (CrcM.low (CrcM.sum (nats (l.take (l.length - 4))))) := by
      unfold CrcM.sealB
      rw [zof_append, List.drop_append_of_le_length (by rw [zof_length, nats_length, List.length_take]; omega), List.drop_of_length_le (by rw [zof_length, nats_length, List.length_take]; omega), List.nil_append]
    rw [e, ← nats_take, ← nats_drop]
    unfold bytes_Equal.f
    rw [str_beq (u8s_zof (CrcM.low_bytes _)) (u8s_drop h _)]
    simp only [Option.bind_some]
    have hiff : (zof (CrcM.low (CrcM.sum (nats (l.take (l.length - 4))))) = l.drop (l.length - 4)) ↔ (CrcM.low (CrcM.sum (nats (l.take (l.length - 4)))) = nats (l.drop (l.length - 4))) := by
      constructor
      · intro hh; rw [← hh, nats_zof]
      · intro hh; rw [hh, zof_nats (u8s_drop h _)]
    by_cases he : CrcM.low (CrcM.sum (nats (l.take (l.length - 4)))) = nats (l.drop (l.length - 4))
    · rw [if_pos he, if_pos (by simpa using hiff.2 he)]
      unfold bytes_Clone.f
      rw [if_pos (by simp; omega)]
      simp [opened, zof_nats ht]
    · rw [if_neg he, if_neg (by simpa using fun hh => he (hiff.1 hh))]
      rfl
end Go.Proofs.Yticpcjjgdkbcjaa.Pure
end

section
/- The document's own sums are the sums: pure laws. -/
set_option linter.unusedVariables false
set_option linter.unusedSimpArgs false
namespace Go.Proofs.Yticpcjjgdkbcjaa.Pure
open Go.RowKit Go.Proofs.Yticpcjjgdkbcjaa.G Go.Proofs.YticpcjjgdkbcjaaW.PrintWords Go.Proofs.YticpcjjgdkbcjaaW.PrintLast

theorem turned_go : ∀ (f e : Nat) (j : Nat) (n : Nat), n < 4294967296 → j + f = 8 → rosetteref01_turned.l0 (f + 1 + e) (n : Int) (j : Int) = some ((CrcM.tk f n : Nat) : Int) := by
  intro f
  induction f with
  | zero =>
    intro e j n _ h
    rw [show 0 + 1 + e = e + 1 by omega, rosetteref01_turned.l0, if_neg (by omega)]
    rfl
  | succ f ih =>
    intro e j n hn h
    have h1 : CrcM.tk (f + 1) n = CrcM.tk f (CrcM.t1 n) := rfl
    have hj : wrap64 ((j : Int) + 1) = ((j + 1 : Nat) : Int) := by rw [wrap_small _ (by omega) (by omega)]; omega
    have hd : (Int.tdiv (n : Int) 2) % 4294967296 = ((n / 2 : Nat) : Int) := by rw [Int.tdiv_eq_ediv_of_nonneg (by omega)]; omega
    have hm : Int.tmod (n : Int) 2 = ((n % 2 : Nat) : Int) := by rw [Int.tmod_eq_emod_of_nonneg (by omega)]; omega
    rw [show f + 1 + 1 + e = (f + 1 + e) + 1 by omega, rosetteref01_turned.l0, if_pos (by omega), hj, hd, hm, h1]
    have ht : CrcM.t1 n < 4294967296 := CrcM.t1_lt n hn
    rcases Nat.mod_two_eq_zero_or_one n with e2 | e2
    · rw [if_neg (by omega)]
      have : CrcM.t1 n = n / 2 := by unfold CrcM.t1; rw [if_neg (by omega)]
      rw [this]
      exact ih e (j + 1) _ (by omega) (by omega)
    · rw [if_pos (by omega)]
      have : CrcM.t1 n = (n / 2) ^^^ 3988292384 := by unfold CrcM.t1; rw [if_pos e2]
      rw [show (3988292384 : Int) = ((3988292384 : Nat) : Int) from rfl, u32_xor_nat _ _ (by omega) (by decide), ← this]
      exact ih e (j + 1) _ ht (by omega)
theorem turned_some (k n : Nat) (hn : n < 4294967296) (hk : 9 ≤ k) : rosetteref01_turned.f k (n : Int) = some ((CrcM.tk 8 n : Nat) : Int) := by
  have := turned_go 8 (k - 9) 0 n hn rfl
  rw [show 8 + 1 + (k - 9) = k by omega] at this
  exact this

theorem add_go (l : List Int) (hu : u8s l) (hl : l.length ≤ 140737488351232) : ∀ (f e i s : Nat), s < 4294967296 → i + f = l.length → rosetteref01_Add.l0 (f + 10 + e) l (s : Int) (i : Int) = some ((CrcM.run s (nats (l.drop i)) ^^^ CrcM.M : Nat) : Int) := by
  intro f
  induction f with
  | zero =>
    intro e i s hs h
    rw [show 0 + 10 + e = (9 + e) + 1 by omega, rosetteref01_Add.l0, if_neg (by omega), List.drop_of_length_le (by omega)]
    rw [show (4294967295 : Int) = ((CrcM.M : Nat) : Int) from rfl, u32_xor_nat _ _ hs (by decide)]
    rfl
  | succ f ih =>
    intro e i s hs h
    have hlt : i < l.length := by omega
    obtain ⟨c0, c1⟩ := rd_u8 hu i hlt
    obtain ⟨c, hc⟩ := Int.eq_ofNat_of_zero_le c0
    have hc256 : c < 256 := by omega
    have hj : wrap64 ((i : Int) + 1) = ((i + 1 : Nat) : Int) := by rw [wrap_small _ (by omega) (by omega)]; omega
    have hd : (Int.tdiv (s : Int) 256) % 4294967296 = ((s / 256 : Nat) : Int) := by rw [Int.tdiv_eq_ediv_of_nonneg (by omega)]; omega
    have ha : Go.bits .and .u32 (s : Int) 255 = ((s % 256 : Nat) : Int) := by
      rw [show (255 : Int) = ((255 : Nat) : Int) from rfl, u32_and_nat _ _ hs (by decide)]
      exact congrArg _ (Nat.and_two_pow_sub_one_eq_mod s 8)
    rw [show f + 1 + 10 + e = (f + 10 + e) + 1 by omega, rosetteref01_Add.l0, if_pos (by omega), if_pos (by omega), hj, hd, ha, hc]
    rw [show (c : Int) % 4294967296 = (c : Int) by omega, u32_xor_nat _ _ (by omega) (by omega)]
    have hx : (s % 256) ^^^ c < 256 := Nat.xor_lt_two_pow (n := 8) (by omega) (by omega)
    rw [turned_some _ _ (by omega) (by omega)]
    simp only [Option.bind_some]
    rw [u32_xor_nat _ _ (CrcM.tk_lt _ _ (by omega)) (by omega)]
    have hup : CrcM.tk 8 ((s % 256) ^^^ c) ^^^ s / 256 = CrcM.upd s c := by
      unfold CrcM.upd
      have e := CrcM.xor_mod s c 8
      simp only [show (2 : Nat) ^ 8 = 256 from rfl, Nat.mod_eq_of_lt (show c < 256 by omega)] at e
      rw [e]
    rw [hup, ih e (i + 1) _ (CrcM.upd_lt s c hs hc256) (by omega)]
    have hcons : nats (l.drop i) = c :: nats (l.drop (i + 1)) := by
      have hg : l[i] = (c : Int) := by rw [← hc]; simp [rd, List.getD_eq_getElem?_getD, hlt]
      rw [List.drop_eq_getElem_cons hlt, nats, List.map_cons, hg]
      rfl
    rw [hcons]
    rfl
theorem refadd_some {l : List Int} (hu : u8s l) (hl : l.length ≤ 140737488351232) (k n : Nat) (hn : n < 4294967296) (hk : l.length + 10 ≤ k) : rosetteref01_Add.f k (n : Int) l = some ((CrcM.add n (nats l) : Nat) : Int) := by
  unfold rosetteref01_Add.f
  rw [show (4294967295 : Int) = ((CrcM.M : Nat) : Int) from rfl, u32_xor_nat _ _ hn (by decide)]
  have := add_go l hu hl l.length (k - (l.length + 10)) 0 (n ^^^ CrcM.M) (Nat.xor_lt_two_pow (n := 32) hn CrcM.M_lt) (by omega)
  rw [show l.length + 10 + (k - (l.length + 10)) = k by omega] at this
  rw [show ((0 : Nat) : Int) = 0 from rfl] at this
  rw [this, List.drop_zero]
  rfl
theorem refsum_some {l : List Int} (hu : u8s l) (hl : l.length ≤ 140737488351232) (k : Nat) (hk : l.length + 10 ≤ k) : rosetteref01_Sum.f k l = some ((CrcM.sum (nats l) : Nat) : Int) := by
  unfold rosetteref01_Sum.f
  have := refadd_some hu hl k 0 (by decide) hk
  rw [show ((0 : Nat) : Int) = 0 from rfl] at this
  rw [this]
  rfl
theorem reflow_some (n : Nat) (hn : n < 4294967296) : rosetteref01_Low.f (n : Int) = some (zof (CrcM.low n)) := by
  unfold rosetteref01_Low.f
  rw [Int.tdiv_eq_ediv_of_nonneg (by omega), Int.tdiv_eq_ediv_of_nonneg (by omega), Int.tdiv_eq_ediv_of_nonneg (by omega)]
  simp only [zof, CrcM.low, List.map_cons, List.map_nil, Option.some.injEq, List.cons.injEq, and_true]
  refine ⟨?_, ?_, ?_, ?_⟩ <;> omega
theorem refseal_some {l : List Int} (hu : u8s l) (hl : l.length ≤ 140737488351232) (k : Nat) (hk : l.length + 10 ≤ k) : rosetteref01_Seal.f k l = some (zof (CrcM.sealB (nats l))) := by
  unfold rosetteref01_Seal.f
  simp only [Option.bind_some, List.nil_append]
  rw [if_pos (by simp; omega)]
  rw [refsum_some hu hl k hk]
  simp only [Option.bind_some]
  rw [reflow_some _ (CrcM.sum_lt _ (u8s_nats hu))]
  simp only [Option.bind_some]
  rw [if_pos (by rw [zof_length]; simp [CrcM.low]; omega), CrcM.sealB, zof_append, zof_nats hu]
theorem refopen_some {l : List Int} (h : u8s l) (hl : l.length ≤ 140737488351232) (k : Nat) (hk : l.length + 10 ≤ k) : rosetteref01_Open.f k l = some (opened (CrcM.openB (nats l))) := by
  unfold rosetteref01_Open.f CrcM.openB
  rw [nats_length, wrap_small _ (by omega) (by omega)]
  by_cases h4 : l.length < 4
  · rw [if_pos (by omega), if_pos h4]; rfl
  · rw [if_neg (by omega), if_pos (by omega), if_pos (by omega), if_neg h4]
    rw [show ((l.length : Int) - 4).toNat = l.length - 4 by omega]
    have ht := u8s_take h (l.length - 4)
    rw [refsum_some ht (by simp; omega) k (by simp; omega)]
    simp only [Option.bind_some]
    rw [reflow_some _ (CrcM.sum_lt _ (u8s_nats ht))]
    simp only [Option.bind_some]
    rw [← nats_take, ← nats_drop]
    have hiff : (zof (CrcM.low (CrcM.sum (nats (l.take (l.length - 4))))) = l.drop (l.length - 4)) ↔ (CrcM.low (CrcM.sum (nats (l.take (l.length - 4)))) = nats (l.drop (l.length - 4))) := by
      constructor
      · intro hh; rw [← hh, nats_zof]
      · intro hh; rw [hh, zof_nats (u8s_drop h _)]
    have hs := str_eq (u8s_zof (CrcM.low_bytes (CrcM.sum (nats (l.take (l.length - 4)))))) (u8s_drop h (l.length - 4))
    by_cases he : CrcM.low (CrcM.sum (nats (l.take (l.length - 4)))) = nats (l.drop (l.length - 4))
    · rw [if_pos he, if_pos (hs.2 (hiff.2 he))]
      rw [if_pos (by simp; omega)]
      simp [opened, zof_nats ht]
    · rw [if_neg he, if_neg (fun hh => he (hiff.1 (hs.1 hh)))]
      rfl
end Go.Proofs.Yticpcjjgdkbcjaa.Pure
end

section
namespace CrcM
def hA (x : Nat) : Nat := x % 65536
def hB (x : Nat) : Nat := x / 2048
def hD (x : Nat) : Nat := x * 40503 / 4096 % 65536
/-- the values behind the first bit, of one class, told apart by three rows of bits -/
def ck (m c : Nat) : Nat → Nat → Nat → Nat → Nat → Bool
  | 0, _, _, _, _ => true
  | k + 1, v, A, B, D =>
    bif Nat.beq (v / 2 % m) c then
      bif (A.testBit (hA (v / 2 / m)) && (B.testBit (hB (v / 2 / m)) && D.testBit (hD (v / 2 / m)))) then false
      else ck m c k (t1 v) (A ||| 1 <<< hA (v / 2 / m)) (B ||| 1 <<< hB (v / 2 / m)) (D ||| 1 <<< hD (v / 2 / m))
    else ck m c k (t1 v) A B D
def cks (m n : Nat) : Nat → Bool
  | 0 => true
  | c + 1 => ck m c n 1 0 0 0 && cks m n c

theorem tk_succ (s n : Nat) : tk (s + 1) n = t1 (tk s n) := by rw [tk_add]; rfl

theorem put_bit (A h i : Nat) : (A ||| 1 <<< h).testBit i = (A.testBit i || decide (h = i)) := by
  rw [Nat.testBit_or, Nat.one_shiftLeft, Nat.testBit_two_pow]

theorem ck_sound (m c k : Nat) : ∀ (s A B D : Nat), ck m c k (tk s 1) A B D = true →
    (∀ i, i < s → tk i 1 / 2 % m = c → A.testBit (hA (tk i 1 / 2 / m)) = true ∧ B.testBit (hB (tk i 1 / 2 / m)) = true ∧ D.testBit (hD (tk i 1 / 2 / m)) = true) →
    ∀ j, s ≤ j → j < s + k → tk j 1 / 2 % m = c → ∀ i, i < j → tk i 1 / 2 ≠ tk j 1 / 2 := by
  induction k with
  | zero => intro s A B D _ _ j h1 h2; omega
  | succ k ih =>
    intro s A B D h hP j h1 h2 hjc i hij
    rw [ck] at h
    by_cases hc : tk s 1 / 2 % m = c
    · rw [show Nat.beq (tk s 1 / 2 % m) c = true from by rw [hc]; exact Nat.beq_refl c, cond_true] at h
      by_cases hb : (A.testBit (hA (tk s 1 / 2 / m)) && (B.testBit (hB (tk s 1 / 2 / m)) && D.testBit (hD (tk s 1 / 2 / m)))) = true
      · rw [hb, cond_true] at h; cases h
      · rw [Bool.not_eq_true] at hb
        rw [hb, cond_false, ← tk_succ] at h
        by_cases hj : j = s
        · subst hj
          intro e
          have hi := hP i hij (by rw [e]; exact hc)
          rw [e] at hi
          rw [hi.1, hi.2.1, hi.2.2] at hb
          cases hb
        · refine ih (s + 1) _ _ _ h ?_ j (by omega) (by omega) hjc i hij
          intro i' hi' hic
          simp only [put_bit]
          by_cases e : i' = s
          · subst e; simp
          · obtain ⟨p, q, r⟩ := hP i' (by omega) hic
            rw [p, q, r]; simp
    · have hbq : Nat.beq (tk s 1 / 2 % m) c = false := by
        cases hq : Nat.beq (tk s 1 / 2 % m) c
        · rfl
        · exact absurd (Nat.eq_of_beq_eq_true hq) hc
      rw [hbq, cond_false, ← tk_succ] at h
      have hjs : j ≠ s := fun e => hc (e ▸ hjc)
      refine ih (s + 1) _ _ _ h ?_ j (by omega) (by omega) hjc i hij
      intro i' hi' hic
      have : i' ≠ s := fun e => hc (e ▸ hic)
      exact hP i' (by omega) hic

theorem cks_class (m n : Nat) : ∀ c, cks m n c = true → ∀ d, d < c → ck m d n 1 0 0 0 = true := by
  intro c
  induction c with
  | zero => intro _ d hd; omega
  | succ c ih =>
    intro h d hd
    rw [cks, Bool.and_eq_true] at h
    by_cases e : d = c
    · subst e; exact h.1
    · exact ih h.2 d (by omega)

theorem dist (m n : Nat) (hm : 0 < m) (h : cks m n m = true) : ∀ i j, i < j → j < n → tk i 1 / 2 ≠ tk j 1 / 2 := by
  intro i j hij hj
  exact ck_sound m (tk j 1 / 2 % m) n 0 0 0 0 (cks_class m n m h _ (Nat.mod_lt _ hm)) (fun i hi => by omega) j (Nat.zero_le _) (by omega) rfl i hij

set_option maxRecDepth 1000000
theorem cks_8032 : cks 2 8032 2 = true := by decide +kernel

/-- one, two or three places, each told once -/
def places (p q r : Nat) : List Nat := p :: ((if q ≠ p then [q] else []) ++ (if r ≠ p ∧ r ≠ q then [r] else []))

theorem wt_one (n p : Nat) : wt n [p] = tk (n - p) 1 := by simp [wt]
theorem wt_two (n p q : Nat) : wt n [p, q] = tk (n - p) 1 ^^^ tk (n - q) 1 := by simp [wt]
theorem wt_three (n p q r : Nat) : wt n [p, q, r] = tk (n - p) 1 ^^^ tk (n - q) 1 ^^^ tk (n - r) 1 := by simp [wt]

theorem one_ne' (n p : Nat) : tk (n - p) 1 ≠ 0 := tk_ne_zero _ _ (by omega) (by omega)

section
variable {N : Nat} (hd : ∀ i j, i < j → j < N → tk i 1 / 2 ≠ tk j 1 / 2)
include hd
theorem two_ne' (n p q : Nat) (hn : n ≤ N) (hp : p < n) (hq : q < n) (h : p ≠ q) : tk (n - p) 1 ^^^ tk (n - q) 1 ≠ 0 := by
  have hz : ∀ i, 0 < i → i < n → tk i 1 / 2 ≠ 0 := fun i hi h2 => by
    have := hd 0 i hi (by omega)
    rw [show tk 0 1 / 2 = 0 from rfl] at this
    exact fun e => this e.symm
  rcases Nat.lt_or_gt_of_ne h with h | h
  · exact two_ne n p q hz h hq
  · rw [Nat.xor_comm]; exact two_ne n q p hz h hp

theorem three_ne' (n p q r : Nat) (hn : n ≤ N) (hp : p < n) (hq : q < n) (hr : r < n) (h1 : p ≠ q) (h2 : p ≠ r) (h3 : q ≠ r) :
    tk (n - p) 1 ^^^ tk (n - q) 1 ^^^ tk (n - r) 1 ≠ 0 := by
  have hz : ∀ i j, i < j → j < n → tk i 1 / 2 ≠ tk j 1 / 2 := fun i j hi hj => hd i j hi (by omega)
  have X : ∀ a b c : Nat, a ^^^ b ^^^ c = a ^^^ c ^^^ b := fun a b c => by rw [Nat.xor_assoc, Nat.xor_comm b, ← Nat.xor_assoc]
  rcases Nat.lt_or_gt_of_ne h1 with h1 | h1 <;> rcases Nat.lt_or_gt_of_ne h2 with h2 | h2 <;> rcases Nat.lt_or_gt_of_ne h3 with h3 | h3
  · exact three_ne n p q r hz h1 h3 hr
  · rw [X]; exact three_ne n p r q hz h2 h3 hq
  · omega
  · rw [Nat.xor_comm, ← Nat.xor_assoc]; exact three_ne n r p q hz h2 h1 hq
  · rw [Nat.xor_comm (tk (n - p) 1)]; exact three_ne n q p r hz h1 h2 hr
  · omega
  · rw [Nat.xor_comm (tk (n - p) 1), X]; exact three_ne n q r p hz h3 h2 hp
  · rw [Nat.xor_comm, Nat.xor_comm (tk (n - p) 1), ← Nat.xor_assoc]; exact three_ne n r q p hz h3 h1 hp

theorem few_ne (n p q r : Nat) (hn : n ≤ N) (hp : p < n) (hq : q < n) (hr : r < n) : wt n (places p q r) ≠ 0 := by
  unfold places
  by_cases h1 : q ≠ p
  · by_cases h2 : r ≠ p ∧ r ≠ q
    · rw [if_pos h1, if_pos h2]
      show wt n [p, q, r] ≠ 0
      rw [wt_three]; exact three_ne' hd n p q r hn hp hq hr (Ne.symm h1) (Ne.symm h2.1) (Ne.symm h2.2)
    · rw [if_pos h1, if_neg h2]
      show wt n [p, q] ≠ 0
      rw [wt_two]; exact two_ne' hd n p q hn hp hq (Ne.symm h1)
  · by_cases h2 : r ≠ p ∧ r ≠ q
    · rw [if_neg h1, if_pos h2]
      show wt n [p, r] ≠ 0
      rw [wt_two]; exact two_ne' hd n p r hn hp hr (Ne.symm h2.1)
    · rw [if_neg h1, if_neg h2]
      show wt n [p] ≠ 0
      rw [wt_one]; exact one_ne' n p
end

theorem dist_8032 : ∀ i j, i < j → j < 8032 → tk i 1 / 2 ≠ tk j 1 / 2 := dist 2 8032 (by decide) cks_8032
end CrcM
end

section
/- bytes laid behind a sealed length: bits turned in them -/
set_option autoImplicit false
namespace CrcM

/-- a frame -/
def fr (b : List Nat) : List Nat := sealB [b.length % 256, b.length / 256] ++ sealB b
theorem fr_length (b : List Nat) : (fr b).length = b.length + 10 := by
  unfold fr; rw [List.length_append, sealB_length, sealB_length]; simp; omega
theorem fr_bytes (b : List Nat) (hb : Bytes b) (hl : b.length < 65536) : Bytes (fr b) := by
  intro c hc
  rcases List.mem_append.1 hc with h | h
  · refine sealB_bytes _ ?_ c h
    intro d hd
    simp only [List.mem_cons, List.not_mem_nil, or_false] at hd
    rcases hd with rfl | rfl <;> omega
  · exact sealB_bytes _ hb c h

theorem flip_left (A B : List Nat) (p : Nat) (hp : p < 8 * A.length) : flip (A ++ B) p = flip A p ++ B := by
  unfold flip
  have h : p / 8 < A.length := by omega
  rw [List.set_append_left _ _ h, List.getD_eq_getElem?_getD, List.getD_eq_getElem?_getD, List.getElem?_append_left h]
theorem flip_right (A B : List Nat) (p : Nat) (hp : 8 * A.length ≤ p) : flip (A ++ B) p = A ++ flip B (p - 8 * A.length) := by
  unfold flip
  have h : A.length ≤ p / 8 := by omega
  have e1 : (p - 8 * A.length) / 8 = p / 8 - A.length := by omega
  have e2 : (p - 8 * A.length) % 8 = p % 8 := by omega
  rw [List.set_append_right _ _ h, List.getD_eq_getElem?_getD, List.getD_eq_getElem?_getD, List.getElem?_append_right h, e1, e2]
def lows (n : Nat) (ps : List Nat) : List Nat := ps.filter fun p => decide (p < n)
def highs (n : Nat) (ps : List Nat) : List Nat := (ps.filter fun p => !decide (p < n)).map (· - n)
theorem flips_append (ps A B : List Nat) : flips (A ++ B) ps = flips A (lows (8 * A.length) ps) ++ flips B (highs (8 * A.length) ps) := by
  induction ps generalizing A B with
  | nil => rfl
  | cons p ps ih =>
    show flips (flip (A ++ B) p) ps = _
    unfold lows highs
    by_cases hp : p < 8 * A.length
    · rw [flip_left A B p hp, ih, flip_length, List.filter_cons_of_pos (by simpa using hp), List.filter_cons_of_neg (by simpa using hp)]
      rfl
    · rw [flip_right A B p (by omega), ih, List.filter_cons_of_neg (by simpa using hp), List.filter_cons_of_pos (by simpa using hp)]
      rfl
theorem lows_lt (n : Nat) (ps : List Nat) : ∀ p ∈ lows n ps, p < n := fun p hp => by simpa using (List.mem_filter.1 hp).2
theorem highs_lt (n m : Nat) (ps : List Nat) (h : ∀ p ∈ ps, p < n + m) : ∀ p ∈ highs n ps, p < m := by
  intro p hp
  obtain ⟨q, hq, rfl⟩ := List.mem_map.1 hp
  obtain ⟨h1, h2⟩ := List.mem_filter.1 hq
  have := h q h1
  simp at h2
  omega
def Tells (n : Nat) (ps : List Nat) : Prop := ps = [] ∨ wt n ps ≠ 0

theorem nodup_tells {N : Nat} (hd : ∀ i j, i < j → j < N → tk i 1 / 2 ≠ tk j 1 / 2) (n : Nat) (hn : n ≤ N) (ps : List Nat) (hnd : ps.Nodup) (hl : ps.length ≤ 3) (hp : ∀ p ∈ ps, p < n) : Tells n ps := by
  match ps, hnd, hl, hp with
  | [], _, _, _ => exact .inl rfl
  | [a], _, _, _ => exact .inr (by rw [wt_one]; exact one_ne' n a)
  | [a, b], h, _, hp => exact .inr (by rw [wt_two]; exact two_ne' hd n a b hn (hp a (by simp)) (hp b (by simp)) (by simpa using h))
  | [a, b, c], h, _, hp =>
    simp at h
    exact .inr (by rw [wt_three]; exact three_ne' hd n a b c hn (hp a (by simp)) (hp b (by simp)) (hp c (by simp)) h.1.1 h.1.2 h.2)
  | _ :: _ :: _ :: _ :: _, _, hl, _ => simp at hl
theorem lows_nodup (n : Nat) (ps : List Nat) (h : ps.Nodup) : (lows n ps).Nodup := h.filter _
theorem highs_nodup (n : Nat) (ps : List Nat) (h : ps.Nodup) : (highs n ps).Nodup := by
  have h2 := h.filter (fun p => !decide (p < n))
  unfold highs
  have h3 : ∀ p ∈ ps.filter (fun p => !decide (p < n)), n ≤ p := fun p hp => by simpa using (List.mem_filter.1 hp).2
  generalize ps.filter (fun p => !decide (p < n)) = qs at h2 h3
  show List.Pairwise _ _
  rw [List.pairwise_map]
  exact List.Pairwise.imp_of_mem (fun ha hb hne => by have := h3 _ ha; have := h3 _ hb; omega) h2
theorem places_nodup (p q r : Nat) : (places p q r).Nodup := by
  unfold places
  by_cases h1 : q ≠ p
  · by_cases h2 : r ≠ p ∧ r ≠ q
    · rw [if_pos h1, if_pos h2]; simp; exact ⟨⟨Ne.symm h1, Ne.symm h2.1⟩, Ne.symm h2.2⟩
    · rw [if_pos h1, if_neg h2]; simp; exact Ne.symm h1
  · by_cases h2 : r ≠ p ∧ r ≠ q
    · rw [if_neg h1, if_pos h2]; simp; exact Ne.symm h2.1
    · rw [if_neg h1, if_neg h2]; simp
theorem places_length (p q r : Nat) : (places p q r).length ≤ 3 := by
  unfold places
  split <;> split <;> simp
theorem places_in (n p q r : Nat) (hp : p < n) (hq : q < n) (hr : r < n) : ∀ z ∈ places p q r, z < n := by
  intro z hz
  unfold places at hz
  rcases List.mem_cons.1 hz with rfl | hz
  · exact hp
  · rcases List.mem_append.1 hz with hz | hz
    · split at hz
      · simp at hz; omega
      · simp at hz
    · split at hz
      · simp at hz; omega
      · simp at hz
theorem lows_few (n : Nat) (ps : List Nat) : (lows n ps).length ≤ ps.length := List.length_filter_le _ _
theorem highs_few (n : Nat) (ps : List Nat) : (highs n ps).length ≤ ps.length := by unfold highs; rw [List.length_map]; exact List.length_filter_le _ _
theorem split_ne (n : Nat) (ps : List Nat) (h : ps ≠ []) (h1 : lows n ps = []) : highs n ps ≠ [] := by
  intro h2
  apply h
  match ps, h1, h2 with
  | [], _, _ => rfl
  | p :: ps, h1, h2 =>
    unfold lows at h1; unfold highs at h2
    have h2' := List.map_eq_nil_iff.1 h2
    by_cases hp : p < n
    · rw [List.filter_cons_of_pos (by simpa using hp)] at h1; cases h1
    · rw [List.filter_cons_of_pos (by simpa using hp)] at h2'; cases h2'

/-- a burst, cut at a place -/
theorem burst_succ' (i at_ mask : Nat) : burst (i + 1) at_ mask = burst i at_ mask ++ (if mask / 2 ^ i % 2 = 1 then [at_ + i] else []) := by
  unfold burst
  rw [List.range_succ, List.filter_append, List.map_append]
  congr 1
  by_cases hb : mask / 2 ^ i % 2 = 1 <;> simp [hb]
theorem burst_lows (n at_ mask i : Nat) : lows n (burst i at_ mask) = burst (min i (n - at_)) at_ mask := by
  induction i with
  | zero => rw [Nat.zero_min]; rfl
  | succ i ih =>
    rw [burst_succ']
    unfold lows at ih ⊢
    rw [List.filter_append, ih]
    by_cases h : at_ + i < n
    · rw [show min (i + 1) (n - at_) = min i (n - at_) + 1 by omega, burst_succ', show min i (n - at_) = i by omega]
      by_cases hb : mask / 2 ^ i % 2 = 1 <;> simp [hb, h]
    · rw [show min (i + 1) (n - at_) = min i (n - at_) by omega]
      by_cases hb : mask / 2 ^ i % 2 = 1 <;> simp [hb, h]
theorem burst_highs (n at_ mask i : Nat) : highs n (burst i at_ mask) = burst (i - (n - at_)) (at_ - n) (mask / 2 ^ (n - at_)) := by
  induction i with
  | zero => rw [Nat.zero_sub]; rfl
  | succ i ih =>
    rw [burst_succ']
    unfold highs at ih ⊢
    rw [List.filter_append, List.map_append, ih]
    by_cases h : at_ + i < n
    · rw [show i + 1 - (n - at_) = i - (n - at_) by omega]
      by_cases hb : mask / 2 ^ i % 2 = 1 <;> simp [hb, h]
    · rw [show i + 1 - (n - at_) = i - (n - at_) + 1 by omega, burst_succ', Nat.div_div_eq_div_mul, ← Nat.pow_add, show n - at_ + (i - (n - at_)) = i by omega]
      by_cases hb : mask / 2 ^ i % 2 = 1
      · simp [hb, h]; omega
      · simp [hb]
theorem burst_none (i at_ mask : Nat) (h : mask % 2 ^ i = 0) : burst i at_ mask = [] := by
  induction i with
  | zero => rfl
  | succ i ih =>
    have h1 : mask % 2 ^ i = 0 := by
      have := Nat.mod_mod_of_dvd mask (Nat.pow_dvd_pow 2 (Nat.le_succ i))
      rw [h, Nat.zero_mod] at this
      exact this.symm
    rw [burst_succ', ih h1]
    have h2 := Nat.mod_pow_succ (x := mask) (b := 2) (k := i)
    rw [h, h1] at h2
    have h3 : mask / 2 ^ i % 2 = 0 := by
      rcases Nat.eq_zero_or_pos (mask / 2 ^ i % 2) with h | h
      · exact h
      · have : 0 < 2 ^ i * (mask / 2 ^ i % 2) := Nat.mul_pos (Nat.pow_pos (by decide)) h
        omega
    rw [if_neg (by omega)]; rfl
theorem burst_tells (n i at_ mask : Nat) (h : at_ + i ≤ n) (hi : i ≤ 32) : Tells n (burst i at_ mask) := by
  by_cases h0 : mask % 2 ^ i = 0
  · exact .inl (burst_none i at_ mask h0)
  · refine .inr ?_
    rw [wt_burst n at_ mask i h]
    refine tk_ne_zero _ _ ?_ h0
    have h1 : mask % 2 ^ i < 2 ^ i := Nat.mod_lt _ (Nat.pow_pos (by decide))
    have h2 : (2 : Nat) ^ i ≤ 2 ^ 32 := Nat.pow_le_pow_right (by decide) hi
    have h3 : (2 : Nat) ^ 32 = 4294967296 := by decide
    omega
theorem burst_some (at_ mask : Nat) (hm : mask < 4294967296) (h0 : mask ≠ 0) : burst 32 at_ mask ≠ [] := by
  intro h
  have := wt_burst (at_ + 32) at_ mask 32 (Nat.le_refl _)
  rw [h, Nat.mod_eq_of_lt hm] at this
  exact tk_ne_zero _ _ hm h0 this.symm
theorem burst_in' (at_ mask i p : Nat) (h : p ∈ burst i at_ mask) : p < at_ + i := by
  unfold burst at h
  obtain ⟨j, hj, rfl⟩ := List.mem_map.1 h
  have := List.mem_range.1 (List.mem_filter.1 hj).1
  omega
end CrcM
end

section
/- a frame over lists: what is made; what is found when bits are turned; when it is cut; when bytes follow -/
set_option linter.unusedVariables false
set_option linter.unusedSimpArgs false
set_option autoImplicit false
namespace Go.Proofs.Yticpcjjgdkbcjaa.Pure
open Go.RowKit Go.Proofs.Yticpcjjgdkbcjaa.G Go.Proofs.YticpcjjgdkbcjaaW.PrintWords Go.Proofs.YticpcjjgdkbcjaaW.PrintLast

def frz (l : List Int) : List Int := zof (CrcM.fr (nats l))
theorem frz_length (l : List Int) : (frz l).length = l.length + 10 := by unfold frz; rw [zof_length, CrcM.fr_length, nats_length]
theorem frz_u8s {l : List Int} (hu : u8s l) (hl : l.length ≤ 8192) : u8s (frz l) := u8s_zof (CrcM.fr_bytes _ (u8s_nats hu) (by rw [nats_length]; omega))
theorem zof_append (a b : List Nat) : zof (a ++ b) = zof a ++ zof b := by simp [zof]
theorem zof_nats {l : List Int} (h : u8s l) : zof (nats l) = l := by
  induction l with
  | nil => rfl
  | cons x l ih =>
    have := h x List.mem_cons_self
    show ((x.toNat : Nat) : Int) :: zof (nats l) = _
    rw [ih (fun y hy => h y (List.mem_cons_of_mem _ hy))]
    congr 1
    omega
def head_ (n : Nat) : List Nat := [n % 256, n / 256]
theorem head_bytes (n : Nat) (hn : n < 65536) : CrcM.Bytes (head_ n) := by
  intro d hd
  simp only [head_, List.mem_cons, List.not_mem_nil, or_false] at hd
  rcases hd with rfl | rfl <;> omega
theorem make_some {l : List Int} (hu : u8s l) (hl : l.length ≤ 8192) : frame_Make.f l = some (frz l, 0) := by
  unfold frame_Make.f
  rw [if_neg (by omega)]
  have e : ([(l.length : Int) % 256, (l.length : Int) / 256] : List Int) = zof (head_ l.length) := by
    simp [zof, head_]
  rw [e, seal_some (u8s_zof (head_bytes _ (by omega))) (by simp [zof, head_]), seal_some hu (by omega)]
  simp only [Option.bind_some]
  rw [if_pos ⟨by rw [zof_length, CrcM.sealB_length, nats_length, zof_length]; simp [head_], by rw [zof_length, CrcM.sealB_length, nats_length]; omega⟩, nats_zof]
  unfold frz CrcM.fr
  rw [zof_append, nats_length]
  rfl
theorem make_big {l : List Int} (hl : 8192 < l.length) : frame_Make.f l = some ([], 4) := by
  unfold frame_Make.f
  rw [if_pos hl]

/-- what is found in six bytes and more bytes -/
theorem next_head {A B : List Int} (hA : u8s A) (hl : A.length = 6) : frame_Next.f (A ++ B) = (some (opened (CrcM.openB (nats A)))).bind fun p => if p.2 = false then some ([], 0, 6) else if p.1.length = 2 ∧ u8s p.1 then
    (if rd p.1 0 + 256 * rd p.1 1 > 8192 then some ([], 0, 4) else if ((A ++ B).length : Int) < rd p.1 0 + 256 * rd p.1 1 + 10 then some ([], 0, 2) else
      (crc_Open.f (((A ++ B).take (rd p.1 0 + 256 * rd p.1 1 + 10).toNat).drop 6)).bind fun q => if q.2 = false then some ([], 0, 6) else some (q.1, rd p.1 0 + 256 * rd p.1 1 + 10, 0)) else none := by
  unfold frame_Next.f
  rw [if_neg (by rw [List.length_append]; omega), show (A ++ B).take 6 = A by rw [← hl]; exact List.take_left, open_some' hA (by omega)]
theorem next_head_bad {A B : List Int} (hA : u8s A) (hl : A.length = 6) (h : CrcM.openB (nats A) = none) : frame_Next.f (A ++ B) = some ([], 0, 6) := by
  rw [next_head hA hl, h]; rfl
theorem next_head_good {n : Nat} {B : List Int} (hn : n ≤ 8192) : frame_Next.f (zof (CrcM.sealB (head_ n)) ++ B) = if (6 + B.length : Nat) < n + 10 then some ([], 0, 2) else (crc_Open.f (B.take (n + 4))).bind fun q => if q.2 = false then some ([], 0, 6) else some (q.1, ((n + 10 : Nat) : Int), 0) := by
  have hA : u8s (zof (CrcM.sealB (head_ n))) := u8s_zof (CrcM.sealB_bytes _ (head_bytes _ (by omega)))
  have hl : (zof (CrcM.sealB (head_ n))).length = 6 := by rw [zof_length, CrcM.sealB_length]; rfl
  rw [next_head hA hl, nats_zof, CrcM.open_sealB]
  simp only [opened, Option.bind_some]
  have e0 : rd (zof (head_ n)) 0 = ((n % 256 : Nat) : Int) := rfl
  have e1 : rd (zof (head_ n)) 1 = ((n / 256 : Nat) : Int) := rfl
  have e2 : rd (zof (head_ n)) 0 + 256 * rd (zof (head_ n)) 1 = (n : Int) := by rw [e0, e1]; omega
  rw [if_neg (by decide), if_pos ⟨rfl, u8s_zof (head_bytes _ (by omega))⟩, e2, if_neg (by omega), List.length_append, hl]
  by_cases h : 6 + B.length < n + 10
  · rw [if_pos (by omega), if_pos h]
  · rw [if_neg (by omega), if_neg h, show ((n : Int) + 10).toNat = 6 + (n + 4) by omega]
    congr 2
    rw [← hl, List.take_length_add_append, List.drop_left]
theorem next_frame {l : List Int} (hu : u8s l) (hl : l.length ≤ 8192) (B : List Int) : frame_Next.f (frz l ++ B) = some (l, ((l.length + 10 : Nat) : Int), 0) := by
  unfold frz CrcM.fr
  rw [zof_append, List.append_assoc, nats_length]
  show frame_Next.f (zof (CrcM.sealB (head_ l.length)) ++ _) = _
  rw [next_head_good hl, if_neg (by rw [List.length_append, zof_length, CrcM.sealB_length, nats_length]; omega)]
  have e : (zof (CrcM.sealB (nats l)) ++ B).take (l.length + 4) = zof (CrcM.sealB (nats l)) := by
    have h : (zof (CrcM.sealB (nats l))).length = l.length + 4 := by rw [zof_length, CrcM.sealB_length, nats_length]
    rw [← h, List.take_left]
  rw [e, open_some' (u8s_zof (CrcM.sealB_bytes _ (u8s_nats hu))) (by rw [zof_length, CrcM.sealB_length, nats_length]; omega), nats_zof, CrcM.open_sealB]
  simp only [opened, Option.bind_some]
  rw [if_neg (by decide), zof_nats hu]
theorem next_cut {l : List Int} (hl : l.length ≤ 8192) (cut : Nat) (hc : cut < l.length + 10) : frame_Next.f ((frz l).take cut) = some ([], 0, 2) := by
  by_cases h6 : cut < 6
  · unfold frame_Next.f
    rw [if_pos (by rw [List.length_take]; omega)]
  unfold frz CrcM.fr
  rw [zof_append, nats_length]
  have hh : (zof (CrcM.sealB (head_ l.length))).length = 6 := by rw [zof_length, CrcM.sealB_length]; rfl
  obtain ⟨k, rfl⟩ : ∃ k, cut = 6 + k := ⟨cut - 6, by omega⟩
  have e : (zof (CrcM.sealB [l.length % 256, l.length / 256]) ++ zof (CrcM.sealB (nats l))).take (6 + k) = zof (CrcM.sealB (head_ l.length)) ++ (zof (CrcM.sealB (nats l))).take k := by
    rw [← hh]; exact List.take_length_add_append k
  rw [e, next_head_good hl, if_pos (by rw [List.length_take]; omega)]
/-- bits turned: an error -/
theorem next_turned {l : List Int} (hu : u8s l) (hl : l.length ≤ 8192) (ps : List Nat) (hp : ∀ p ∈ ps, p < 8 * (l.length + 10)) (h0 : ps ≠ [])
    (h1 : CrcM.Tells 48 (CrcM.lows 48 ps)) (h2 : CrcM.Tells (8 * (l.length + 4)) (CrcM.highs 48 ps)) : frame_Next.f (zof (CrcM.flips (nats (frz l)) ps)) = some ([], 0, 6) := by
  have hh : (CrcM.sealB (head_ l.length)).length = 6 := by rw [CrcM.sealB_length]; rfl
  unfold frz CrcM.fr
  rw [nats_zof, nats_length]
  show frame_Next.f (zof (CrcM.flips (CrcM.sealB (head_ l.length) ++ CrcM.sealB (nats l)) ps)) = _
  rw [CrcM.flips_append, hh, show 8 * 6 = 48 from rfl, zof_append]
  rcases h1 with h1 | h1
  · have h3 := CrcM.split_ne 48 ps h0 h1
    rcases h2 with h2 | h2
    · exact absurd h2 h3
    rw [h1]
    show frame_Next.f (zof (CrcM.sealB (head_ l.length)) ++ _) = _
    have hlen : (zof (CrcM.flips (CrcM.sealB (nats l)) (CrcM.highs 48 ps))).length = l.length + 4 := by rw [zof_length, CrcM.flips_length, CrcM.sealB_length, nats_length]
    rw [next_head_good hl, if_neg (by rw [hlen]; omega), List.take_of_length_le (by rw [hlen]; exact Nat.le_refl _),
      open_some' (u8s_zof (CrcM.flips_bytes _ _ (CrcM.sealB_bytes _ (u8s_nats hu)))) (by rw [hlen]; omega), nats_zof,
      CrcM.refused _ _ (u8s_nats hu) (by rw [nats_length]; exact CrcM.highs_lt 48 _ ps (fun p h => by have := hp p h; omega)) (by rw [nats_length]; exact h2)]
    rfl
  · refine next_head_bad (u8s_zof (CrcM.flips_bytes _ _ (CrcM.sealB_bytes _ (head_bytes _ (by omega))))) (by rw [zof_length, CrcM.flips_length, hh]) ?_
    rw [nats_zof]
    exact CrcM.refused _ _ (head_bytes _ (by omega)) (CrcM.lows_lt 48 ps) h1
theorem next_few {l : List Int} (hu : u8s l) (hl : l.length ≤ 1000) (p q r : Nat) (hp : p < 8 * (l.length + 10)) (hq : q < 8 * (l.length + 10)) (hr : r < 8 * (l.length + 10)) :
    frame_Next.f (zof (CrcM.flips (nats (frz l)) (CrcM.places p q r))) = some ([], 0, 6) := by
  have hin := CrcM.places_in _ p q r hp hq hr
  have hnd := CrcM.places_nodup p q r
  have hln := CrcM.places_length p q r
  refine next_turned hu (by omega) _ hin (by unfold CrcM.places; simp) ?_ ?_
  · exact CrcM.nodup_tells CrcM.dist_8032 48 (by decide) _ (CrcM.lows_nodup _ _ hnd) (Nat.le_trans (CrcM.lows_few _ _) hln) (CrcM.lows_lt _ _)
  · exact CrcM.nodup_tells CrcM.dist_8032 _ (by omega) _ (CrcM.highs_nodup _ _ hnd) (Nat.le_trans (CrcM.highs_few _ _) hln) (CrcM.highs_lt 48 _ _ (fun z hz => by have := hin z hz; omega))
theorem next_burst {l : List Int} (hu : u8s l) (hl : l.length ≤ 8192) (at_ mask : Nat) (ha : at_ + 32 ≤ 8 * (l.length + 10)) (hm : mask < 4294967296) (h0 : mask ≠ 0) :
    frame_Next.f (zof (CrcM.flips (nats (frz l)) (CrcM.burst 32 at_ mask))) = some ([], 0, 6) := by
  refine next_turned hu hl _ (fun p h => by have := CrcM.burst_in' _ _ _ _ h; omega) (CrcM.burst_some at_ mask hm h0) ?_ ?_
  · rw [CrcM.burst_lows]
    by_cases h : at_ ≤ 48
    · exact CrcM.burst_tells _ _ _ _ (by omega) (by omega)
    · rw [show min 32 (48 - at_) = 0 by omega]; exact .inl rfl
  · rw [CrcM.burst_highs]
    exact CrcM.burst_tells _ _ _ _ (by omega) (by omega)
end Go.Proofs.Yticpcjjgdkbcjaa.Pure
end

section
/- frames over lists: what is found first, and in all -/
set_option linter.unusedVariables false
set_option linter.unusedSimpArgs false
set_option autoImplicit false
namespace Go.Proofs.Yticpcjjgdkbcjaa
open Go.RowKit Go.Proofs.YticpcjjgdkbcjaaW.PrintWords Go.Proofs.YticpcjjgdkbcjaaW.PrintLast Go.Proofs.YticpcjjgdkbcjaaW.PrintMore Go.Proofs.Yticpcjjgdkbcjaa.G Go.Proofs.Yticpcjjgdkbcjaa.Pure

theorem opened_some {l h : List Int} {ok : Bool} (hu : u8s l) (ho : opened (CrcM.openB (nats l)) = (h, ok)) (hok : ok = true) : h.length + 4 = l.length ∧ u8s h := by
  cases hb : CrcM.openB (nats l) with
  | none => rw [hb] at ho; simp only [opened, Prod.mk.injEq] at ho; rw [← ho.2] at hok; cases hok
  | some y =>
    rw [hb] at ho
    simp only [opened, Prod.mk.injEq] at ho
    have hs := CrcM.open_some _ _ hb
    have hl := congrArg List.length hs
    rw [CrcM.sealB_length, nats_length] at hl
    rw [← ho.1, zof_length]
    refine ⟨hl, u8s_zof fun c hc => u8s_nats hu c ?_⟩
    rw [← hs]
    exact List.mem_append_left _ hc
theorem next_total (l : List Int) (hu : u8s l) (hl : l.length ≤ 1000000) : ∃ x n er, frame_Next.f l = some (x, n, er) ∧ (er = 0 → 0 < n ∧ n ≤ l.length) := by
  unfold frame_Next.f
  by_cases h6 : l.length < 6
  · rw [if_pos h6]; exact ⟨_, _, _, rfl, fun h => by cases h⟩
  rw [if_neg h6, open_some' (u8s_take hu 6) (by simp; omega)]
  obtain ⟨⟨h, ok⟩, ho⟩ : ∃ p, opened (CrcM.openB (nats (l.take 6))) = p := ⟨_, rfl⟩
  rw [ho]
  simp only [Option.bind_some]
  cases ok with
  | false => rw [if_pos rfl]; exact ⟨_, _, _, rfl, fun h => by cases h⟩
  | true =>
    obtain ⟨e1, e2⟩ := opened_some (u8s_take hu 6) ho rfl
    have e3 : h.length = 2 := by rw [List.length_take] at e1; omega
    have u0 := rd_u8 e2 0 (by omega)
    have u1 := rd_u8 e2 1 (by omega)
    rw [show ((0 : Nat) : Int) = 0 from rfl] at u0
    rw [show ((1 : Nat) : Int) = 1 from rfl] at u1
    rw [if_neg (by decide), if_pos ⟨e3, e2⟩]
    by_cases hb : rd h 0 + 256 * rd h 1 > 8192
    · rw [if_pos hb]; exact ⟨_, _, _, rfl, fun h => by cases h⟩
    rw [if_neg hb]
    by_cases hs : (l.length : Int) < rd h 0 + 256 * rd h 1 + 10
    · rw [if_pos hs]; exact ⟨_, _, _, rfl, fun h => by cases h⟩
    rw [if_neg hs, open_some' (u8s_drop (u8s_take hu _) 6) (by simp; omega)]
    obtain ⟨⟨x, ok2⟩, ho2⟩ : ∃ p, opened (CrcM.openB (nats ((l.take (rd h 0 + 256 * rd h 1 + 10).toNat).drop 6))) = p := ⟨_, rfl⟩
    rw [ho2]
    simp only [Option.bind_some]
    cases ok2 with
    | false => rw [if_pos rfl]; exact ⟨_, _, _, rfl, fun h => by cases h⟩
    | true => rw [if_neg (by decide)]; exact ⟨_, _, _, rfl, fun _ => by omega⟩
theorem next_from (l : List Int) (hu : u8s l) (hl : l.length ≤ 1000000) (k : Nat) : ∃ x n er, frame_Next.f (l.drop k) = some (x, n, er) ∧ (er = 0 → 0 < n ∧ (k : Int) + n ≤ l.length) := by
  obtain ⟨x, n, er, h1, h2⟩ := next_total (l.drop k) (u8s_drop hu k) (by rw [List.length_drop]; omega)
  refine ⟨x, n, er, h1, fun h => ?_⟩
  have := h2 h
  rw [List.length_drop] at this
  omega
end Go.Proofs.Yticpcjjgdkbcjaa
end

section
/- frames by the document are the program's frames: pure laws -/
set_option linter.unusedVariables false
set_option linter.unusedSimpArgs false
set_option autoImplicit false
namespace Go.Proofs.Yticpcjjgdkbcjaa.Pure
open Go.RowKit Go.Proofs.Yticpcjjgdkbcjaa Go.Proofs.Yticpcjjgdkbcjaa.G Go.Proofs.YticpcjjgdkbcjaaW.PrintWords Go.Proofs.YticpcjjgdkbcjaaW.PrintLast

theorem refmake_some {l : List Int} (hu : u8s l) (hl : l.length ≤ 8192) (k : Nat) (hk : l.length + 12 ≤ k) : rosetteref03_Make.f k l = some (frz l, 0) := by
  unfold rosetteref03_Make.f
  have hw : wrap64 ((l.length : Int) / 256) = (l.length : Int) / 256 := wrap_small _ (by omega) (by omega)
  have hz : ([(l.length : Int) % 256, (wrap64 ((l.length : Int) / 256)) % 256] : List Int) = zof (head_ l.length) := by
    rw [hw]
    simp only [zof, head_, List.map_cons, List.map_nil, List.cons.injEq, and_true]
    constructor <;> omega
  have hhb := head_bytes l.length (by omega)
  rw [if_neg (by omega), hz, refseal_some (u8s_zof hhb) (by simp [zof, head_]) k (by simp [zof, head_]; omega)]
  simp only [Option.bind_some]
  rw [refseal_some hu (by omega) k (by omega)]
  simp only [Option.bind_some]
  rw [if_pos (by simp only [zof_length, CrcM.sealB_length, nats_length, show (head_ l.length).length = 2 from rfl]; omega)]
  unfold frz CrcM.fr
  rw [zof_append, nats_zof, nats_length]
  rfl
theorem refmake_big {l : List Int} (hl : 8192 < l.length) (k : Nat) : rosetteref03_Make.f k l = some ([], 4) := by
  unfold rosetteref03_Make.f
  rw [if_pos (by omega)]
theorem refnext_eq {l : List Int} (hu : u8s l) (hl : l.length ≤ 1000000) (k : Nat) (hk : l.length + 12 ≤ k) : rosetteref03_Next.f k l = frame_Next.f l := by
  have h : ∀ x : List Int, u8s x → x.length ≤ l.length → rosetteref01_Open.f k x = crc_Open.f x := fun x hx hxl => by
    rw [open_some' hx (by omega), refopen_some hx (by omega) k (by omega)]
  unfold rosetteref03_Next.f frame_Next.f
  rw [h _ (u8s_take hu 6) (by simp; omega)]
  congr 1
  congr 1
  funext p
  rw [h _ (u8s_drop (u8s_take hu _) 6) (by simp; omega)]
end Go.Proofs.Yticpcjjgdkbcjaa.Pure
end

section
/- distances over long rows: the same check, told in steps that the kernel takes fast -/
namespace CrcM
def t1f (n : Nat) : Nat := Nat.xor (Nat.div n 2) (Nat.mul 3988292384 (Nat.mod n 2))
def inF (A x : Nat) : Bool := Nat.beq (Nat.mod (Nat.shiftRight A x) 2) 1
def ck2 (m c : Nat) (k : Nat) : Nat → Nat → Nat → Nat → Bool :=
  Nat.rec (fun _ _ _ _ => true) (fun _ ih v A B D =>
    (fun x => bif Nat.beq (Nat.mod x m) c then
      (fun y => bif (inF A (Nat.mod y 65536)) && (inF B (Nat.div y 2048) && inF D (Nat.mod (Nat.div (Nat.mul y 40503) 4096) 65536)) then false
      else ih (t1f v) (Nat.lor A (Nat.shiftLeft 1 (Nat.mod y 65536))) (Nat.lor B (Nat.shiftLeft 1 (Nat.div y 2048))) (Nat.lor D (Nat.shiftLeft 1 (Nat.mod (Nat.div (Nat.mul y 40503) 4096) 65536)))) (Nat.div x m)
    else ih (t1f v) A B D) (Nat.div v 2)) k
theorem t1f_eq (n : Nat) : t1f n = t1 n := by
  unfold t1f t1
  show (n / 2) ^^^ (3988292384 * (n % 2)) = _
  split
  · rename_i h; rw [h, Nat.mul_one]
  · rename_i h; rw [show n % 2 = 0 by omega, Nat.mul_zero, Nat.xor_zero]
theorem inF_eq (A x : Nat) : inF A x = A.testBit x := by
  unfold inF
  show Nat.beq ((A >>> x) % 2) 1 = _
  rw [Nat.shiftRight_eq_div_pow, Nat.testBit_eq_decide_div_mod_eq]
  by_cases h : A / 2 ^ x % 2 = 1
  · rw [h, decide_eq_true rfl]; rfl
  · rw [decide_eq_false h, show A / 2 ^ x % 2 = 0 by omega]; rfl
theorem ck2_eq (m c : Nat) : ∀ (k v A B D : Nat), ck2 m c k v A B D = ck m c k v A B D := by
  intro k
  induction k with
  | zero => intro v A B D; rfl
  | succ k ih =>
    intro v A B D
    rw [ck, ← t1f_eq, ← ih, ← ih, ← inF_eq, ← inF_eq, ← inF_eq]
    rfl
set_option maxRecDepth 1000000
theorem cks_L0 : ck2 7 0 33040 1 0 0 0 = true := by decide +kernel
theorem cks_L1 : ck2 7 1 33040 1 0 0 0 = true := by decide +kernel
theorem cks_L2 : ck2 7 2 33040 1 0 0 0 = true := by decide +kernel
theorem cks_L3 : ck2 7 3 33040 1 0 0 0 = true := by decide +kernel
theorem cks_L4 : ck2 7 4 33040 1 0 0 0 = true := by decide +kernel
theorem cks_L5 : ck2 7 5 33040 1 0 0 0 = true := by decide +kernel
theorem cks_L6 : ck2 7 6 33040 1 0 0 0 = true := by decide +kernel
theorem cks_L : cks 7 33040 7 = true := by
  simp only [cks, ← ck2_eq, cks_L0, cks_L1, cks_L2, cks_L3, cks_L4, cks_L5, cks_L6, Bool.and_self]
theorem dist_L : ∀ i j, i < j → j < 33040 → tk i 1 / 2 ≠ tk j 1 / 2 := dist 7 33040 (by decide) cks_L
end CrcM
end

section
-- Written by a program of this session (wip/tools/myprint.py), over the kit's print.
namespace Go.Proofs.Yticpcjjgdkbcjaa.G
open Go.RowKit Go.Proofs.YticpcjjgdkbcjaaW.PrintWords Go.Proofs.YticpcjjgdkbcjaaW.PrintLast Go.Proofs.YticpcjjgdkbcjaaW.PrintMore
attribute [local go_sem] max2_int min2_int max_two min_two max_three min_three max_four min_four   -- for this text's walks alone
set_option linter.unusedVariables false
set_option linter.unusedSimpArgs false

-- BY HAND
def rosetteref02_Put.f (l0 : List Int) (a1 : Int) : Option (List Int) := if 0 ≤ a1 ∧ a1 < 18446744073709551616 ∧ l0.length ≤ 140737488355300 then some (l0 ++ putL a1) else none
set_option maxRecDepth 100000 in
set_option maxHeartbeats 1000000 in
theorem rosetteref02_Put.calls (A0 : Option Addr) (c0 : Nat) (l0 : List Int) (a1 : Int) (r : List Int) (w : World) (hr0 : Kd.C (Kd.int .u8) w A0 l0.length l0) (hc0 : l0.length ≤ c0) (h : rosetteref02_Put.f l0 a1 = some r) :
    Calls Try.prog 22 #[.slice A0 l0.length c0, .int .u64 a1] w fun e w' => ∃ v0_ : Value, e = .returned (v0_) ∧ Kd.R (Kd.int .u8) 5 w' w.heap.size (fun _ => True) v0_ r ∧ Below w.heap.size w w' := by
  have hh := h
  clear h
  unfold rosetteref02_Put.f at hh
  split at hh
  · rename_i hcond
    obtain ⟨ha0, ha1, hl⟩ := hcond
    have HRES := Aside0.mk (Option.some.inj hh)
    have HR0 := Aside0.mk hr0
    clear hh hr0
    go_enter Try.func22, Try.ntmps22
    go_wp2_with (at_builtin; refine print_append_row (w0 := w) w.heap.size rfl (.tmp 6) (.tmp 7) 23 5 .u8 1 rfl Try.underlying23 info_u8 (by decide) (.slice (some ⟨w.heap.size, 0, none⟩) 0 0) [] l0 A0 l0.length c0 rfl rfl ⟨by simp [nums], .inr ⟨w.heap.size, 0, #[], rfl, Nat.le_refl _, heap_alloc_new w _, by simp, by simp [maxLen], by simp, by simp [nums]⟩⟩ (Kd.reads_of_C (d := (0 : Int)) (Kd.C_alloc HR0.out _)) ((Below.refl _ _).alloc (Nat.le_refl _) _) (by simp) (by simp; omega) ?_; intro v1 w1 ho2 hB2 _ _; rw [List.nil_append] at ho2; have HO1 := Aside0.mk (kd_R ho2); have HB1 := Aside0.mk hB2; clear ho2 hB2)
    go_loopw [1, 5] (fun n v wr => ∃ (f : Nat) (m : Int) (xs : List Int), n = .int .u64 m ∧ 0 ≤ m ∧ f ≤ 9 ∧ Aside0 (m < 128 ^ (f + 1)) ∧ m < 18446744073709551616 ∧ Aside0 (xs ++ putGo f m = r) ∧ Aside0 (xs.length + f ≤ 140737488355309) ∧ Aside0 ((Kd.int .u8).R 5 wr w.heap.size (fun _ => True) v xs) ∧ Below w.heap.size w wr) (fun n _ _ => (intOf n).toNat)
    case atStart => exact ⟨9, a1, l0, rfl, ha0, Nat.le_refl _, ⟨by omega⟩, ha1, ⟨HRES.out⟩, ⟨by omega⟩, ⟨HO1.out⟩, HB1.out⟩
    case round =>
      obtain ⟨f, m, xs, rfl, hm0, hf, HM, hm64, HX, HL, HO, hBr⟩ := hrel
      by_cases hlt : 127 < m
      · go_wp2_with (at_builtin; refine app_num (w0 := w) w.heap.size rfl (.tmp 11) (.tmp 16) 23 5 .u8 1 rfl Try.underlying23 info_u8 (by decide) u5 xs (m % 128 + 128) rfl rfl HO.out hBr hBr.size (by have := HL.out; omega) ?_; intro v1 w1 HO2 hB2; clear HO hBr)
        have hm1 := HM.out
        have htm : Int.tmod m 128 = m % 128 := Int.tmod_eq_emod_of_nonneg hm0
        have htd : Int.tdiv m 128 = m / 128 := Int.tdiv_eq_ediv_of_nonneg hm0
        cases f with
        | zero => exact absurd hm1 (by simp; omega)
        | succ f =>
          have hx := HX.out
          have hL := HL.out
          rw [putGo, if_neg (by omega)] at hx
          refine ⟨⟨f, m / 128, xs ++ [m % 128 + 128], by first | rfl | rw [htd] | (rw [htd, IntKind.wrap_u64]; congr 1; omega), by omega, by omega, ⟨?_⟩, by omega, ⟨?_⟩, ⟨?_⟩, ⟨HO2.out⟩, hB2⟩, ?_⟩
          · rw [Int.pow_succ] at hm1
            exact Int.ediv_lt_of_lt_mul (by decide) hm1
          · rw [List.append_assoc]; exact hx
          · simp only [List.length_append, List.length_singleton]; omega
          · simp only [intOf, htd, IntKind.wrap_u64]; omega
      · go_wp2_with (at_builtin; refine app_num (w0 := w) w.heap.size rfl (.tmp 20) (.tmp 23) 23 5 .u8 1 rfl Try.underlying23 info_u8 (by decide) u5 xs m rfl rfl HO.out hBr hBr.size (by have := HL.out; omega) ?_; intro v1 w1 HO2 hB2; clear HO hBr)
        have hx := HX.out
        have hp : putGo f m = [m] := by
          cases f with
          | zero => rw [putGo]; rw [Int.emod_eq_of_lt hm0 (by omega)]
          | succ f => rw [putGo, if_pos (by omega)]; rw [Int.emod_eq_of_lt hm0 (by omega)]
        rw [hp] at hx
        subst hx
        go_ret
        exact ⟨v1, rfl, HO2.out, hB2⟩
  · cases hh

end Go.Proofs.Yticpcjjgdkbcjaa.G
end

section
-- Written by a program of this session (wip/tools/myprint.py), over the kit's print.
namespace Go.Proofs.Yticpcjjgdkbcjaa.G
open Go.RowKit Go.Proofs.YticpcjjgdkbcjaaW.PrintWords Go.Proofs.YticpcjjgdkbcjaaW.PrintLast Go.Proofs.YticpcjjgdkbcjaaW.PrintMore
attribute [local go_sem] max2_int min2_int max_two min_two max_three min_three max_four min_four   -- for this text's walks alone
set_option linter.unusedVariables false
set_option linter.unusedSimpArgs false

/-! ### rosetteref02_PutText: function 23 -/
def rosetteref02_PutText.f (l0 : List Int) (a1 : ByteArray) : Option (List Int) := (rosetteref02_Put.f l0 (IntKind.u64.wrap ((a1.size : Int)))).bind fun t193 => (if t193.length + a1.size < 140737488355328 then (some (t193 ++ bytesOf a1)) else (none))
set_option maxHeartbeats 8000000 in
set_option maxRecDepth 100000 in
theorem rosetteref02_PutText.calls (A0 : Option Addr) (c0 : Nat) (l0 : List Int) (a1 : ByteArray) (r : List Int) (w : World) (hr0 : Kd.C (Kd.int .u8) w A0 l0.length l0) (hc0 : l0.length ≤ c0) (h : rosetteref02_PutText.f l0 a1 = some r) :
    Calls Try.prog 23 #[.slice A0 l0.length c0, .string a1] w fun e w' => ∃ v0_ : Value, e = .returned (v0_) ∧ Kd.R (Kd.int .u8) 5 w' w.heap.size (fun _ => True) v0_ r ∧ Below w.heap.size w w' := by
  have HR0 := Aside0.mk hr0
  have HC0 := Aside0.mk hc0
  clear hr0 hc0
  have HB := Aside0.mk (Below.refl w.heap.size w)
  have H : ((rosetteref02_Put.f l0 (IntKind.u64.wrap ((a1.size : Int)))).bind fun t193 => (if t193.length + a1.size < 140737488355328 then (some (t193 ++ bytesOf a1)) else (none))) = some r := h
  clear h
  replace H := Option.bind_eq_some_iff.mp H
  obtain ⟨t193, A30, H⟩ := H
  replace H : (if t193.length + a1.size < 140737488355328 then (some (t193 ++ bytesOf a1)) else (none)) = some r := H
  have A3 := Aside0.mk A30
  clear A30
  by_cases c4 : t193.length + a1.size < 140737488355328
  · rw [if_pos c4] at H
    have LMc4 := Aside0.mk c4
    clear c4
    obtain ⟨y196, hy196⟩ : ∃ y_ : List Int, y_ = (t193 ++ bytesOf a1) := ⟨_, rfl⟩
    replace H : (some y196) = some r := by first | (rw [hy196]; with_reducible exact H) | (have H2_ := (Option.bind_some _ _).symm.trans H; rw [hy196]; with_reducible exact H2_) | (have H2_ := (Option.bind_some _ _).symm.trans H; with_reducible exact H2_) | with_reducible exact H | (rw [hy196]; exact H) | exact H
    have Ny196 := Aside0.mk hy196
    clear hy196
    obtain rfl := Option.some.inj H
    go_enter Try.func23, Try.ntmps23
    go_wp2_with (first | ((with_reducible refine gate_callee (f := 22) rfl ?_); refine goesL_ (some 9) rfl rfl Try.func22 (by kernel_rfl) rfl #[.slice A0 l0.length c0, .int .u64 (IntKind.u64.wrap ((a1.size : Int)))] rfl (by (try simp only [List.map_toArray, List.map_cons, List.map_nil]); first | done | rfl | (simp only [List.length_drop, List.length_take]; rfl)) ?_; (with_reducible refine (rosetteref02_Put.calls _ _ l0 (IntKind.u64.wrap ((a1.size : Int))) t193 _ ?side1 ?side2 A3.out).mono ?_); (case side1 => repeat (first | exact HR0.out | (with_reducible refine Kd.C_alloc ?_ _) | (with_reducible refine Kd.C_drewN ?_ _) | (with_reducible refine Kd.C_drew ?_))); (case side2 => exact HC0.out); rintro e w5 ⟨v194, rfl, ho0, hb⟩; refine ⟨_, rfl, ?_⟩; have n0_ := Aside0.mk (Kd.R_lower ho0 (below_size (by repeat (first | (with_reducible first | exact HB.out | apply below_alloc | apply pw_below_drewN | apply below_drew1) | exact HB.out)))); have n1_ := Aside0.mk (below_step (by repeat (first | (with_reducible first | exact HB.out | apply below_alloc | apply pw_below_drewN | apply below_drew1) | exact HB.out)) hb); clear HB; have HO195 := n0_; have HB := n1_; clear n0_ n1_; (try clear hb); (try clear hb2); (try clear hk); (try clear hi); (try clear ho0)) | (at_builtin; refine print_append_str (w0 := w) w.heap.size rfl (.tmp 9) _ 23 9 5 rfl Try.underlying23 Try.underlying9 info5 v194 t193 a1 rfl rfl ?aO ?aB ?aS ?aL ?_; (case aB => exact (by repeat (first | (with_reducible first | exact HB.out | apply below_alloc | apply pw_below_drewN | apply below_drew1) | exact HB.out))); (case aO => exact (Kd.own_of_R (by (with_reducible repeat (first | apply Kd.R_alloc | apply Kd.R_drewN | apply Kd.R_drew)); exact HO195.out))); (case aS => exact (below_size (by repeat (first | (with_reducible first | exact HB.out | apply below_alloc | apply pw_below_drewN | apply below_drew1) | exact HB.out)))); (case aL => have := LMc4.out; omega); intro v197 w6 ho0 hb hg; have ho := Kd.R_of_own (h1 := fun _ => rfl) (ok := fun _ => True) ho0 (fun _ _ => trivial); clear ho0; have hat := True.intro; rw [← Ny196.out] at ho; change Kd.R (Kd.int .u8) 5 w6 w.heap.size (fun _ => True) v197 y196 at ho; have n0_ := Aside0.mk (hb); have n1_ := Aside0.mk (ho); clear HB; clear HO195; have HB := n0_; have HO198 := n1_; clear n0_ n1_; clear ho hb hg hat))
    go_ret
    exact ⟨_, by first | rfl | (simp [errW_none, errW_some] <;> rfl) | (simp [*, errW_none, errW_some] <;> rfl), by (with_reducible repeat (first | apply Kd.R_alloc | apply Kd.R_drewN | apply Kd.R_drew)); exact HO198.out, by repeat (first | (with_reducible first | exact HB.out | apply below_alloc | apply pw_below_drewN | apply below_drew1) | exact HB.out)⟩
  · rw [if_neg c4] at H
    exact absurd H (by simp)

end Go.Proofs.Yticpcjjgdkbcjaa.G
end
