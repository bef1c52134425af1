import Derived.Test.YtkdhcmmfklganaaZFirstRanges2
import Derived.Test.YtkdhcmmfklganaaZFirstRanges0
import Derived.Deep.RegionHeld
import Derived.WalkKit
section
/- FirstRanges, walked -/
set_option linter.unusedVariables false
set_option linter.unusedSimpArgs false
set_option autoImplicit false
namespace Go.Proofs.Ytkdhcmmfklganaa.G
open Go.RowKit Go.Proofs.Ytkdhcmmfklganaa Go.Proofs.YtkdhcmmfklganaaW.PrintWords Go.Proofs.YtkdhcmmfklganaaW.PrintLast Go.Proofs.YtkdhcmmfklganaaW.PrintMore

def rangesF (f1 f5 : Bool) (l0 : List S46) (x : S46) (l2 : List S50) (a3 : Int) : Option Bool :=
  if f1 = false ∨ f5 = false then some true
  else if meetsB l2 (l0 ++ [x]) = (meetsB l2 l0 && meetsB l2 [x]) ∧ meetsB [⟨x.f0, ⟨1, a3, ⟨#[]⟩⟩⟩] [x] = (decide (a3 ≥ x.f1) && decide (a3 ≤ x.f2)) then some true else none
def rosettelaw15_FirstRanges.f (k : Nat) (l0 : List S46) (a1_0 : ByteArray) (a1_1 : Int) (a1_2 : Int) (l2 : List S50) (a3 : Int) : Option Bool :=
  if l0.length * 32 ≤ 140737488351232 then (rosettelaw15_Few.f k [] [⟨0, 0, [⟨a1_0, a1_1, a1_2⟩] ++ l0⟩]).bind fun f1 => (rosettelaw05_Few.f k l2).bind fun f5 => rangesF f1 f5 l0 ⟨a1_0, a1_1, a1_2⟩ l2 a3 else none
theorem drawn_belowR {w w' : World} (h : Drawn0 w w') : Below w.heap.size w w' := by obtain ⟨n, rfl⟩ := h; exact pw_below_drewN (Below.refl _ _) n
theorem one46 (W : World) (B : Nat) (hB : B ≤ W.heap.size) (x : S46) : Kd.R k46 46 (W.alloc (.cells #[.string x.f0, .int .i64 x.f1, .int .i64 x.f2] 46 (0, 0))) B (fun _ => True) (.slice (some ⟨W.heap.size, 0, none⟩) 1 1) [x] := by
  refine ⟨fun k hk => trivial, [.string x.f0, .int .i64 x.f1, .int .i64 x.f2], ?_, ?_⟩
  · have h2 := World.ownsRow_lit (base := B) (e := 46) (size := k46.sz) W #[.string x.f0, .int .i64 x.f1, .int .i64 x.f2] 1 hB (by decide) rfl
    simpa using h2
  · refine ⟨rfl, fun j y hj => ?_⟩
    have hj0 : j = 0 := by have := (List.getElem?_eq_some_iff.1 hj).1; simp at this; exact this
    subst hj0
    simp only [List.getElem?_cons_zero, Option.some.injEq] at hj
    subst hj
    exact k46_mkM _ _ _ _
theorem nil46 (W : World) (B : Nat) (hB : B ≤ W.heap.size) : Kd.R k46 46 (W.alloc (.cells #[] 46 (0, 0))) B (fun _ => True) (.slice (some ⟨W.heap.size, 0, none⟩) 0 0) [] := by
  refine ⟨fun k hk => trivial, [], ?_, ?_⟩
  · have h2 := World.ownsRow_lit (base := B) (e := 46) (size := k46.sz) W #[] 0 hB (by decide) (by simp)
    simpa using h2
  · exact ⟨rfl, fun j y hj => by simp at hj⟩
theorem km46 {W : World} {base : Nat} {okp : Nat → Prop} (x : S46) (cs : List Value) (h : k46.K W x cs) : k46.M W base okp x cs := by
  obtain rfl := k46_open h
  exact k46_mkM _ _ _ _
theorem ne_newR {W : World} {gt : Nat} {o : Obj} {n c : Nat} (h : W.heap[gt]? = some o) : some gt ≠ (Value.slice (some ⟨W.heap.size, 0, none⟩) n c).ownBlock := by
  intro e
  have h1 := lt_of_heap h
  simp [Value.ownBlock] at e
  omega
theorem new_R {W : World} {B : Nat} (_ : B ≤ W.heap.size) (x : Obj) : (W.alloc x).heap[W.heap.size]? = some x := heap_alloc_new W x
theorem ne_row {W : World} {B : Nat} {v : Value} {l : List S46} (h : Kd.R k46 46 W B (fun _ => True) v l) : some W.heap.size ≠ v.ownBlock := fun e => by have := Kd.R_lt h _ e.symm; omega
theorem keep3 {W : World} {b T : Nat} {x y z : Value} (h : W.heap[b]? = some (.cells #[x, y, z] T (0, 0))) : W.cell? ⟨b, 0, none⟩ = some x ∧ W.cell? ⟨b, 1, none⟩ = some y ∧ W.cell? ⟨b, 2, none⟩ = some z := (cells3r h).1
set_option maxRecDepth 100000 in
set_option maxHeartbeats 8000000 in
theorem rosettelaw15_FirstRanges.calls (k : Nat) (A0 : Option Addr) (c0 : Nat) (l0 : List S46) (a1_0 : ByteArray) (a1_1 : Int) (a1_2 : Int) (A2 : Option Addr) (c2 : Nat) (l2 : List S50) (a3 : Int) (r : Bool) (w : World) (hr0 : Kd.C k46 w A0 l0.length l0) (hc0 : l0.length ≤ c0) (hr2 : Kd.C k50 w A2 l2.length l2) (hc2 : l2.length ≤ c2) (h : rosettelaw15_FirstRanges.f k l0 a1_0 a1_1 a1_2 l2 a3 = some r) :
    Calls Try.prog 6 #[.slice A0 l0.length c0, .agg #[.string a1_0, .int .i64 a1_1, .int .i64 a1_2], .slice A2 l2.length c2, .int .i64 a3] w fun e w' => e = .returned (.bool r) ∧ Below w.heap.size w w' := by
  unfold rosettelaw15_FirstRanges.f at h
  split at h
  case isFalse => cases h
  case isTrue hlen =>
  obtain ⟨f1, hE1, h⟩ := Option.bind_eq_some_iff.mp h
  obtain ⟨f5, hE5, h⟩ := Option.bind_eq_some_iff.mp h
  obtain ⟨L, hL⟩ : ∃ q, [(⟨a1_0, a1_1, a1_2⟩ : S46)] ++ l0 = q := ⟨_, rfl⟩
  rw [hL] at hE1
  have HE := Aside0.mk (And.intro hE1 hE5)
  have HLL := Aside0.mk hL
  have HLN := Aside0.mk hlen
  have hb0 := (Below.refl w.heap.size w).alloc (Nat.le_refl _) (.cells #[.string a1_0, .int .i64 a1_1, .int .i64 a1_2] 46 (0, 0))
  have HR1 := Aside0.mk (Kd.C_below hr0 hb0)
  have HV1 := Aside0.mk (Kd.C_below hr2 hb0)
  have KP1 := Aside0.mk (heap_alloc_new w (.cells #[.string a1_0, .int .i64 a1_1, .int .i64 a1_2] 46 (0, 0)))
  have HB1 := Aside0.mk hb0
  have HC := Aside0.mk (And.intro hc0 hc2)
  have HH := Aside0.mk h
  clear hE1 hE5 hL hlen hr0 hc0 hr2 hc2 hb0 h
  go_enter Try.func6, Try.ntmps6
  go_upto_region 1 with fail
  generalize w.alloc (.cells #[.string a1_0, .int .i64 a1_1, .int .i64 a1_2] 46 (0, 0)) = w1 at HR1 HV1 KP1 HB1 ⊢
  go_wp2_with fail
  refine (small_any w1).mono ?_
  rintro e w2 ⟨rfl, hX⟩
  have KP2 := Aside0.mk (vkeepB KP1.out hX)
  have HR2 := Aside0.mk (Kd.C_below HR1.out hX)
  have HV2 := Aside0.mk (Kd.C_below HV1.out hX)
  have HB2 := Aside0.mk (HB1.out.trans ((hX).mono HB1.out.size))
  clear KP1 HR1 HV1 HB1
  clear hX
  obtain ⟨⟨p0, p1, p2⟩, p3, p4, p5⟩ := cells3r KP2.out
  have HLB := Aside0.mk ((Below.refl w2.heap.size w2).alloc (Nat.le_refl _) (.cells #[.string a1_0, .int .i64 a1_1, .int .i64 a1_2] 46 (0, 0)))
  go_wp2_with (at_builtin; refine Kd.R_append_rows k46 (w0 := w2) w2.heap.size rfl (.tmp 16) (.tmp 17) 37 46 _ 32 rfl Try.underlying37 info_rg3 rfl (by decide) (by decide) (.slice (some ⟨w2.heap.size, 0, none⟩) 1 1) [(⟨a1_0, a1_1, a1_2⟩ : S46)] l0 A0 l0.length c0 (fun _ => True) (fun _ => False) rfl rfl (one46 w2 w2.heap.size (Nat.le_refl _) (⟨a1_0, a1_1, a1_2⟩ : S46)) (Kd.C_below HR2.out HLB.out) km46 (fun _ hk => hk.elim) (fun _ _ => trivial) HLB.out HLB.out.size (by have := HLN.out; simp only [List.length_cons, List.length_nil]; omega) ?_; intro va wa hRa hXa _ _; rw [HLL.out] at hRa; obtain ⟨A3, n3, rfl⟩ := Kd.R_slice hRa; have HRa := Aside0.mk hRa; have HXa := Aside0.mk hXa; clear hRa hXa)
  have hra := Kd.R_reads' HRa.out
  refine (rosettelaw15_Few.calls k none 0 [] (some ⟨wa.heap.size, 0, none⟩) 1 [⟨0, 0, L⟩] f1 _ (Kd.C_nil _ _) (Nat.le_refl _) (one_sub ⟨0, 0, L⟩ A3 n3 (heap_alloc_new wa (.cells #[.int .i64 0, .int .i64 0, .slice A3 L.length n3] 40 (0, 0))) hra.2.1 (Kd.C_alloc hra.2.2 (.cells #[.int .i64 0, .int .i64 0, .slice A3 L.length n3] 40 (0, 0)))) (Nat.le_refl _) HE.out.1).mono ?_
  rintro e w3 ⟨rfl, hX0⟩
  have hX := (HXa.out.alloc HXa.out.size (.cells #[.int .i64 0, .int .i64 0, .slice A3 L.length n3] 40 (0, 0))).trans (hX0.mono (by have := HXa.out.size; simp; omega))
  clear hX0 HXa HRa hra HLB
  clear p0 p1 p2 p3 p4 p5
  have KP3 := Aside0.mk (vkeepB KP2.out hX)
  have HR3 := Aside0.mk (Kd.C_below HR2.out hX)
  have HV3 := Aside0.mk (Kd.C_below HV2.out hX)
  have HB3 := Aside0.mk (HB2.out.trans ((hX).mono HB2.out.size))
  clear KP2 HR2 HV2 HB2
  clear hX
  go_upto_region 3 with fail
  go_wp2_with fail
  refine (rosettelaw05_Few.calls k A2 c2 l2 f5 w3 HV3.out HC.out.2 HE.out.2).mono ?_
  rintro e w4 ⟨rfl, hDr⟩
  have hX := drawn_belowR hDr
  clear hDr
  have KP4 := Aside0.mk (vkeepB KP3.out hX)
  have HR4 := Aside0.mk (Kd.C_below HR3.out hX)
  have HV4 := Aside0.mk (Kd.C_below HV3.out hX)
  have HB4 := Aside0.mk (HB3.out.trans ((hX).mono HB3.out.size))
  clear KP3 HR3 HV3 HB3
  clear hX
  go_upto_region 4 with fail
  cases f1 with
  | false =>
    go_wp2
    go_ret
    exact ⟨by have h := HH.out; unfold rangesF at h; rw [if_pos (by exact .inl rfl)] at h; rw [← Option.some.inj h]; rfl, HB4.out⟩
  | true =>
    cases f5 with
    | false =>
      go_wp2
      go_ret
      exact ⟨by have h := HH.out; unfold rangesF at h; rw [if_pos (by exact .inr rfl)] at h; rw [← Option.some.inj h]; rfl, HB4.out⟩
    | true =>
      have h := HH.out
      unfold rangesF at h
      rw [if_neg (by rintro (hh | hh) <;> cases hh)] at h
      split at h
      case isFalse => cases h
      case isTrue hd =>
        obtain rfl := Option.some.inj h
        have HM := Aside0.mk hd.1
        have HN := Aside0.mk hd.2
        clear h hd HH HE HLL
        go_upto_region 6 with fail
        obtain ⟨M, hM⟩ : ∃ q, l0 ++ [(⟨a1_0, a1_1, a1_2⟩ : S46)] = q := ⟨_, rfl⟩
        have HMM := Aside0.mk hM
        clear hM
        go_cut [12] from 32 to 37 (fun v wy => ∃ (Al : Option Addr) (cl : Nat), v = .slice Al M.length cl ∧ Aside0 (Kd.R k46 46 wy w4.heap.size (fun _ => True) (.slice Al M.length cl) M) ∧ Aside0 (Below w4.heap.size w4 wy))
        case first =>
          have hbd := below_drew (Below.refl w4.heap.size w4)
          have KPz := Aside0.mk (vkeepB KP4.out hbd)
          have HRz := Aside0.mk (Kd.C_below HR4.out hbd)
          have HBD := Aside0.mk hbd
          have HSc := Aside0.mk (Nat.le_refl w4.drew.heap.size)
          have HBBc := Aside0.mk (Below.refl w4.drew.heap.size w4.drew)
          have HBQ := Aside0.mk (show w4.drew.heap.size = w4.drew.heap.size from rfl)
          clear hbd
          obtain ⟨B, hB⟩ : ∃ q, q = w4.drew.heap.size := ⟨_, rfl⟩
          have HSc := Aside0.mk (show B ≤ w4.drew.heap.size by rw [hB]; exact Nat.le_refl _)
          have HBBc := Aside0.mk (show Below B w4.drew w4.drew from Below.refl _ _)
          have HBQ := Aside0.mk hB
          have HLO := Aside0.mk (show w4.heap.size ≤ B by rw [hB]; exact HBD.out.size)
          clear hB
          refine wp_region_held_drew (S := (fun W => W.cell? ⟨w.heap.size, 0, none⟩ = some (.string a1_0) ∧ W.cell? ⟨w.heap.size, 1, none⟩ = some (.int .i64 a1_1) ∧ W.cell? ⟨w.heap.size, 2, none⟩ = some (.int .i64 a1_2))) (by kernel_rfl) (keep3 KPz.out) (fun hHeld => ?_)
          generalize w4.drew = wz at KPz HRz HBD HSc HBBc HBQ hHeld ⊢
          refine wpAnyH_take (i := 1) (oi := { dst := some 33, op := Op.move (Operand.tmp 0), type := 37, pos := "law.go:100", after := #[], guard := none }) (v := ?_) rfl (by kernel_rfl) (by kernel_rfl) (by kernel_rfl) (fun _ _ _ h => h) (Or.inl ⟨by rfl, ?_⟩) (by assumption) ?_
          rotate_left
          · intro w hSw
            try dsimp only at hSw
            go_simp
            all_goals with_reducible rfl
          try simp only [Act.put, List.setIfInBounds_toArray, List.set_cons_zero, List.set_cons_succ]
          refine wpAnyH_take (i := 3) (oi := { dst := some 35, op := Op.load 46 (Operand.tmp 5), type := 46, pos := "law.go:100", after := #[], guard := none }) (v := ?_) rfl (by kernel_rfl) (by kernel_rfl) (by kernel_rfl) (fun _ _ _ h => h) (Or.inl ⟨by rfl, ?_⟩) (by assumption) ?_
          rotate_left
          · intro w hSw
            try dsimp only at hSw
            go_simp
            all_goals with_reducible rfl
          try simp only [Act.put, List.setIfInBounds_toArray, List.set_cons_zero, List.set_cons_succ]
          refine wpAnyH_ready (rs := [0, 4]) (by kernel_rfl) (by simp) ?_
          refine AllReadyH.cons (o := { dst := some 32, op := Op.buildSlice 37 0 #[], type := 37, pos := "law.go:100", after := #[], guard := none }) rfl (fun K hK => ?_) ?_
          · skip
            go_simp
            (have HOc := Aside0.mk (nil46 _ B HSc.out); (try have HNc := Aside0.mk (ne_newR (n := 0) (c := 0) HTc.out)); (try have HTd := Aside0.mk (vkeepA HTc.out (.cells #[] 46 (0, 0)))); have HBBd := Aside0.mk (HBBc.out.alloc HSc.out (.cells #[] 46 (0, 0))); have HSd := Aside0.mk (Nat.le_trans HSc.out (show _ ≤ (_ : World).heap.size from (World.grownBy_alloc _ (.cells #[] 46 (0, 0)) none).size)); clear HBBc HSc; have HBBc := HBBd; have HSc := HSd; (try clear HTc; have HTc := HTd); (try simp only [World.size_alloc] at HOc); (try simp only [World.size_alloc] at HTc); (try simp only [World.size_alloc] at HNc))
            refine hK.out _ _ (keep3 (up15 KPz.out HBQ.out HBBc.out)) (fun hHeld => ?_)
            clear hK K
            try simp only [Act.put, List.setIfInBounds_toArray, List.set_cons_zero, List.set_cons_succ]
            refine wpAnyH_ready (rs := [2, 4]) (by kernel_rfl) (by simp) ?_
            refine AllReadyH.cons (o := { dst := some 34, op := Op.call { callee := Callee.builtin Builtin.append, args := #[Operand.tmp 32, Operand.tmp 33], argTypes := #[37, 37] }, type := 37, pos := "law.go:100", after := #[{ on := 0, ground := Ground.data }, { on := 1, ground := Ground.data }], guard := none }) rfl (fun K hK => ?_) ?_
            · skip
              (refine Kd.R_append_rows_step k46 (w0 := wz) B (by rfl) (.tmp 32) (.tmp 33) 37 46 _ 32 rfl Try.underlying37 info_rg3 rfl (by decide) (by decide) _ [] l0 A0 l0.length c0 (fun _ => True) (fun _ => False) rfl rfl HOc.out (Kd.C_below HRz.out (by have h_ := HBBc.out; rw [HBQ.out] at h_; exact h_)) km46 (fun _ hk => hk.elim) (fun _ _ => trivial) HBBc.out HSc.out (by have := HLN.out; simp only [List.length_nil]; omega) ?_; intro vn wn hR hBn hG hat; rw [List.nil_append] at hR; obtain ⟨An, cn, rfl⟩ := Kd.R_slice hR; have HOd := Aside0.mk hR; (try have HTd := Aside0.mk (vkeepR HTc.out hG HNc.out)); (try have HNd := Aside0.mk (ne_at HNc.out HTc.out hat)); have HSd := Aside0.mk (Nat.le_trans HSc.out hG.size); clear HOc HBBc HSc; have HOc := HOd; have HBBc := Aside0.mk hBn; have HSc := HSd; (try clear HTc; have HTc := HTd); (try have HNc := HNd); clear hR hBn hG hat)
              refine hK.out _ _ (keep3 (up15 KPz.out HBQ.out HBBc.out)) (fun hHeld => ?_)
              clear hK K
              try simp only [Act.put, List.setIfInBounds_toArray, List.set_cons_zero, List.set_cons_succ]
              refine wpAnyH_ready (rs := [4]) (by kernel_rfl) (by simp) ?_
              refine AllReadyH.cons (o := { dst := some 36, op := Op.buildSlice 37 1 #[(0, Operand.tmp 35)], type := 37, pos := "law.go:100", after := #[{ on := 3, ground := Ground.data }], guard := none }) rfl (fun K hK => ?_) AllReadyH.nil
              go_simp
              (have HTn := Aside0.mk (new_R HSc.out (.cells #[.string a1_0, .int .i64 a1_1, .int .i64 a1_2] 46 (0, 0))); (try have HNc := Aside0.mk (ne_row HOc.out)); (try have HOd := Aside0.mk (Kd.R_alloc HOc.out (.cells #[.string a1_0, .int .i64 a1_1, .int .i64 a1_2] 46 (0, 0)))); (try have HTd := Aside0.mk (vkeepA HTc.out (.cells #[.string a1_0, .int .i64 a1_1, .int .i64 a1_2] 46 (0, 0)))); have HBBd := Aside0.mk (HBBc.out.alloc HSc.out (.cells #[.string a1_0, .int .i64 a1_1, .int .i64 a1_2] 46 (0, 0))); have HSd := Aside0.mk (Nat.le_trans HSc.out (show _ ≤ (_ : World).heap.size from (World.grownBy_alloc _ (.cells #[.string a1_0, .int .i64 a1_1, .int .i64 a1_2] 46 (0, 0)) none).size)); clear HBBc HSc; have HBBc := HBBd; have HSc := HSd; (try clear HTc; have HTc := HTd); have HTc := HTn; (try clear HOc; have HOc := HOd); (try simp only [World.size_alloc] at HOc); (try simp only [World.size_alloc] at HTc); (try simp only [World.size_alloc] at HNc))
              refine hK.out _ _ (keep3 (up15 KPz.out HBQ.out HBBc.out)) (fun hHeld => ?_)
              clear hK K
              try simp only [Act.put, List.setIfInBounds_toArray, List.set_cons_zero, List.set_cons_succ]
              refine wpAnyH_ready (rs := [5]) (by kernel_rfl) (by simp) ?_
              refine AllReadyH.cons (o := { dst := some 37, op := Op.call { callee := Callee.builtin Builtin.append, args := #[Operand.tmp 34, Operand.tmp 36], argTypes := #[37, 37] }, type := 37, pos := "law.go:100", after := #[{ on := 2, ground := Ground.data }, { on := 4, ground := Ground.data }, { on := 2, ground := Ground.chain }], guard := none }) rfl (fun K hK => ?_) AllReadyH.nil
              (refine Kd.R_append_rows_step k46 (w0 := wz) B (by rfl) (.tmp 34) (.tmp 36) 37 46 _ 32 rfl Try.underlying37 info_rg3 rfl (by decide) (by decide) _ l0 [(⟨a1_0, a1_1, a1_2⟩ : S46)] _ 1 1 (fun _ => True) (fun _ => False) rfl rfl HOc.out (one_range (⟨a1_0, a1_1, a1_2⟩ : S46) HTc.out) km46 (fun _ hk => hk.elim) (fun _ _ => trivial) HBBc.out HSc.out (by have := HLN.out; omega) ?_; intro vn wn hR hBn hG hat; rw [HMM.out] at hR; obtain ⟨An, cn, rfl⟩ := Kd.R_slice hR; have HOd := Aside0.mk hR; (try have HTd := Aside0.mk (vkeepR HTc.out hG HNc.out)); (try have HNd := Aside0.mk (ne_at HNc.out HTc.out hat)); have HSd := Aside0.mk (Nat.le_trans HSc.out hG.size); clear HOc HBBc HSc; have HOc := HOd; have HBBc := Aside0.mk hBn; have HSc := HSd; (try clear HTc; have HTc := HTd); (try have HNc := HNd); clear hR hBn hG hat)
              refine hK.out _ _ (keep3 (up15 KPz.out HBQ.out HBBc.out)) (fun hHeld => ?_)
              clear hK K
              try simp only [Act.put, List.setIfInBounds_toArray, List.set_cons_zero, List.set_cons_succ]
              refine wpAnyH_take (i := 6) (oi := { dst := some 12, op := Op.assign (Operand.tmp 37), type := 37, pos := "law.go:100", after := #[{ on := 5, ground := Ground.data }, { on := 5, ground := Ground.chain }, { on := 0, ground := Ground.phase }, { on := 1, ground := Ground.phase }, { on := 2, ground := Ground.phase }, { on := 3, ground := Ground.phase }, { on := 4, ground := Ground.phase }, { on := 5, ground := Ground.phase }], guard := none }) (v := ?_) rfl (by kernel_rfl) (by kernel_rfl) (by kernel_rfl) (fun _ _ _ h => h) (Or.inl ⟨by rfl, ?_⟩) (by assumption) ?_
              rotate_left
              · intro w hSw
                try dsimp only at hSw
                go_simp
                all_goals with_reducible rfl
              try simp only [Act.put, List.setIfInBounds_toArray, List.set_cons_zero, List.set_cons_succ]
              refine wpAnyH_done (by kernel_rfl) ?_ _
              go_wp2_with fail
              go_meet
              exact ⟨An, cn, rfl, ⟨Kd.R_lower HOc.out HLO.out⟩, ⟨HBD.out.trans (HBBc.out.mono HLO.out)⟩⟩
            refine AllReadyH.cons (o := { dst := some 36, op := Op.buildSlice 37 1 #[(0, Operand.tmp 35)], type := 37, pos := "law.go:100", after := #[{ on := 3, ground := Ground.data }], guard := none }) rfl (fun K hK => ?_) AllReadyH.nil
            go_simp
            (have HTn := Aside0.mk (new_R HSc.out (.cells #[.string a1_0, .int .i64 a1_1, .int .i64 a1_2] 46 (0, 0))); (try have HNc := Aside0.mk (ne_row HOc.out)); (try have HOd := Aside0.mk (Kd.R_alloc HOc.out (.cells #[.string a1_0, .int .i64 a1_1, .int .i64 a1_2] 46 (0, 0)))); (try have HTd := Aside0.mk (vkeepA HTc.out (.cells #[.string a1_0, .int .i64 a1_1, .int .i64 a1_2] 46 (0, 0)))); have HBBd := Aside0.mk (HBBc.out.alloc HSc.out (.cells #[.string a1_0, .int .i64 a1_1, .int .i64 a1_2] 46 (0, 0))); have HSd := Aside0.mk (Nat.le_trans HSc.out (show _ ≤ (_ : World).heap.size from (World.grownBy_alloc _ (.cells #[.string a1_0, .int .i64 a1_1, .int .i64 a1_2] 46 (0, 0)) none).size)); clear HBBc HSc; have HBBc := HBBd; have HSc := HSd; (try clear HTc; have HTc := HTd); have HTc := HTn; (try clear HOc; have HOc := HOd); (try simp only [World.size_alloc] at HOc); (try simp only [World.size_alloc] at HTc); (try simp only [World.size_alloc] at HNc))
            refine hK.out _ _ (keep3 (up15 KPz.out HBQ.out HBBc.out)) (fun hHeld => ?_)
            clear hK K
            try simp only [Act.put, List.setIfInBounds_toArray, List.set_cons_zero, List.set_cons_succ]
            refine wpAnyH_ready (rs := [2]) (by kernel_rfl) (by simp) ?_
            refine AllReadyH.cons (o := { dst := some 34, op := Op.call { callee := Callee.builtin Builtin.append, args := #[Operand.tmp 32, Operand.tmp 33], argTypes := #[37, 37] }, type := 37, pos := "law.go:100", after := #[{ on := 0, ground := Ground.data }, { on := 1, ground := Ground.data }], guard := none }) rfl (fun K hK => ?_) AllReadyH.nil
            (refine Kd.R_append_rows_step k46 (w0 := wz) B (by rfl) (.tmp 32) (.tmp 33) 37 46 _ 32 rfl Try.underlying37 info_rg3 rfl (by decide) (by decide) _ [] l0 A0 l0.length c0 (fun _ => True) (fun _ => False) rfl rfl HOc.out (Kd.C_below HRz.out (by have h_ := HBBc.out; rw [HBQ.out] at h_; exact h_)) km46 (fun _ hk => hk.elim) (fun _ _ => trivial) HBBc.out HSc.out (by have := HLN.out; simp only [List.length_nil]; omega) ?_; intro vn wn hR hBn hG hat; rw [List.nil_append] at hR; obtain ⟨An, cn, rfl⟩ := Kd.R_slice hR; have HOd := Aside0.mk hR; (try have HTd := Aside0.mk (vkeepR HTc.out hG HNc.out)); (try have HNd := Aside0.mk (ne_at HNc.out HTc.out hat)); have HSd := Aside0.mk (Nat.le_trans HSc.out hG.size); clear HOc HBBc HSc; have HOc := HOd; have HBBc := Aside0.mk hBn; have HSc := HSd; (try clear HTc; have HTc := HTd); (try have HNc := HNd); clear hR hBn hG hat)
            refine hK.out _ _ (keep3 (up15 KPz.out HBQ.out HBBc.out)) (fun hHeld => ?_)
            clear hK K
            try simp only [Act.put, List.setIfInBounds_toArray, List.set_cons_zero, List.set_cons_succ]
            refine wpAnyH_ready (rs := [5]) (by kernel_rfl) (by simp) ?_
            refine AllReadyH.cons (o := { dst := some 37, op := Op.call { callee := Callee.builtin Builtin.append, args := #[Operand.tmp 34, Operand.tmp 36], argTypes := #[37, 37] }, type := 37, pos := "law.go:100", after := #[{ on := 2, ground := Ground.data }, { on := 4, ground := Ground.data }, { on := 2, ground := Ground.chain }], guard := none }) rfl (fun K hK => ?_) AllReadyH.nil
            (refine Kd.R_append_rows_step k46 (w0 := wz) B (by rfl) (.tmp 34) (.tmp 36) 37 46 _ 32 rfl Try.underlying37 info_rg3 rfl (by decide) (by decide) _ l0 [(⟨a1_0, a1_1, a1_2⟩ : S46)] _ 1 1 (fun _ => True) (fun _ => False) rfl rfl HOc.out (one_range (⟨a1_0, a1_1, a1_2⟩ : S46) HTc.out) km46 (fun _ hk => hk.elim) (fun _ _ => trivial) HBBc.out HSc.out (by have := HLN.out; omega) ?_; intro vn wn hR hBn hG hat; rw [HMM.out] at hR; obtain ⟨An, cn, rfl⟩ := Kd.R_slice hR; have HOd := Aside0.mk hR; (try have HTd := Aside0.mk (vkeepR HTc.out hG HNc.out)); (try have HNd := Aside0.mk (ne_at HNc.out HTc.out hat)); have HSd := Aside0.mk (Nat.le_trans HSc.out hG.size); clear HOc HBBc HSc; have HOc := HOd; have HBBc := Aside0.mk hBn; have HSc := HSd; (try clear HTc; have HTc := HTd); (try have HNc := HNd); clear hR hBn hG hat)
            refine hK.out _ _ (keep3 (up15 KPz.out HBQ.out HBBc.out)) (fun hHeld => ?_)
            clear hK K
            try simp only [Act.put, List.setIfInBounds_toArray, List.set_cons_zero, List.set_cons_succ]
            refine wpAnyH_take (i := 6) (oi := { dst := some 12, op := Op.assign (Operand.tmp 37), type := 37, pos := "law.go:100", after := #[{ on := 5, ground := Ground.data }, { on := 5, ground := Ground.chain }, { on := 0, ground := Ground.phase }, { on := 1, ground := Ground.phase }, { on := 2, ground := Ground.phase }, { on := 3, ground := Ground.phase }, { on := 4, ground := Ground.phase }, { on := 5, ground := Ground.phase }], guard := none }) (v := ?_) rfl (by kernel_rfl) (by kernel_rfl) (by kernel_rfl) (fun _ _ _ h => h) (Or.inl ⟨by rfl, ?_⟩) (by assumption) ?_
            rotate_left
            · intro w hSw
              try dsimp only at hSw
              go_simp
              all_goals with_reducible rfl
            try simp only [Act.put, List.setIfInBounds_toArray, List.set_cons_zero, List.set_cons_succ]
            refine wpAnyH_done (by kernel_rfl) ?_ _
            go_wp2_with fail
            go_meet
            exact ⟨An, cn, rfl, ⟨Kd.R_lower HOc.out HLO.out⟩, ⟨HBD.out.trans (HBBc.out.mono HLO.out)⟩⟩
          refine AllReadyH.cons (o := { dst := some 36, op := Op.buildSlice 37 1 #[(0, Operand.tmp 35)], type := 37, pos := "law.go:100", after := #[{ on := 3, ground := Ground.data }], guard := none }) rfl (fun K hK => ?_) AllReadyH.nil
          go_simp
          (have HTn := Aside0.mk (new_R HSc.out (.cells #[.string a1_0, .int .i64 a1_1, .int .i64 a1_2] 46 (0, 0))); (try have HNc := Aside0.mk (ne_row HOc.out)); (try have HOd := Aside0.mk (Kd.R_alloc HOc.out (.cells #[.string a1_0, .int .i64 a1_1, .int .i64 a1_2] 46 (0, 0)))); (try have HTd := Aside0.mk (vkeepA HTc.out (.cells #[.string a1_0, .int .i64 a1_1, .int .i64 a1_2] 46 (0, 0)))); have HBBd := Aside0.mk (HBBc.out.alloc HSc.out (.cells #[.string a1_0, .int .i64 a1_1, .int .i64 a1_2] 46 (0, 0))); have HSd := Aside0.mk (Nat.le_trans HSc.out (show _ ≤ (_ : World).heap.size from (World.grownBy_alloc _ (.cells #[.string a1_0, .int .i64 a1_1, .int .i64 a1_2] 46 (0, 0)) none).size)); clear HBBc HSc; have HBBc := HBBd; have HSc := HSd; (try clear HTc; have HTc := HTd); have HTc := HTn; (try clear HOc; have HOc := HOd); (try simp only [World.size_alloc] at HOc); (try simp only [World.size_alloc] at HTc); (try simp only [World.size_alloc] at HNc))
          refine hK.out _ _ (keep3 (up15 KPz.out HBQ.out HBBc.out)) (fun hHeld => ?_)
          clear hK K
          try simp only [Act.put, List.setIfInBounds_toArray, List.set_cons_zero, List.set_cons_succ]
          refine wpAnyH_ready (rs := [0]) (by kernel_rfl) (by simp) ?_
          refine AllReadyH.cons (o := { dst := some 32, op := Op.buildSlice 37 0 #[], type := 37, pos := "law.go:100", after := #[], guard := none }) rfl (fun K hK => ?_) AllReadyH.nil
          go_simp
          (have HOc := Aside0.mk (nil46 _ B HSc.out); (try have HNc := Aside0.mk (ne_newR (n := 0) (c := 0) HTc.out)); (try have HTd := Aside0.mk (vkeepA HTc.out (.cells #[] 46 (0, 0)))); have HBBd := Aside0.mk (HBBc.out.alloc HSc.out (.cells #[] 46 (0, 0))); have HSd := Aside0.mk (Nat.le_trans HSc.out (show _ ≤ (_ : World).heap.size from (World.grownBy_alloc _ (.cells #[] 46 (0, 0)) none).size)); clear HBBc HSc; have HBBc := HBBd; have HSc := HSd; (try clear HTc; have HTc := HTd); (try simp only [World.size_alloc] at HOc); (try simp only [World.size_alloc] at HTc); (try simp only [World.size_alloc] at HNc))
          refine hK.out _ _ (keep3 (up15 KPz.out HBQ.out HBBc.out)) (fun hHeld => ?_)
          clear hK K
          try simp only [Act.put, List.setIfInBounds_toArray, List.set_cons_zero, List.set_cons_succ]
          refine wpAnyH_ready (rs := [2]) (by kernel_rfl) (by simp) ?_
          refine AllReadyH.cons (o := { dst := some 34, op := Op.call { callee := Callee.builtin Builtin.append, args := #[Operand.tmp 32, Operand.tmp 33], argTypes := #[37, 37] }, type := 37, pos := "law.go:100", after := #[{ on := 0, ground := Ground.data }, { on := 1, ground := Ground.data }], guard := none }) rfl (fun K hK => ?_) AllReadyH.nil
          (refine Kd.R_append_rows_step k46 (w0 := wz) B (by rfl) (.tmp 32) (.tmp 33) 37 46 _ 32 rfl Try.underlying37 info_rg3 rfl (by decide) (by decide) _ [] l0 A0 l0.length c0 (fun _ => True) (fun _ => False) rfl rfl HOc.out (Kd.C_below HRz.out (by have h_ := HBBc.out; rw [HBQ.out] at h_; exact h_)) km46 (fun _ hk => hk.elim) (fun _ _ => trivial) HBBc.out HSc.out (by have := HLN.out; simp only [List.length_nil]; omega) ?_; intro vn wn hR hBn hG hat; rw [List.nil_append] at hR; obtain ⟨An, cn, rfl⟩ := Kd.R_slice hR; have HOd := Aside0.mk hR; (try have HTd := Aside0.mk (vkeepR HTc.out hG HNc.out)); (try have HNd := Aside0.mk (ne_at HNc.out HTc.out hat)); have HSd := Aside0.mk (Nat.le_trans HSc.out hG.size); clear HOc HBBc HSc; have HOc := HOd; have HBBc := Aside0.mk hBn; have HSc := HSd; (try clear HTc; have HTc := HTd); (try have HNc := HNd); clear hR hBn hG hat)
          refine hK.out _ _ (keep3 (up15 KPz.out HBQ.out HBBc.out)) (fun hHeld => ?_)
          clear hK K
          try simp only [Act.put, List.setIfInBounds_toArray, List.set_cons_zero, List.set_cons_succ]
          refine wpAnyH_ready (rs := [5]) (by kernel_rfl) (by simp) ?_
          refine AllReadyH.cons (o := { dst := some 37, op := Op.call { callee := Callee.builtin Builtin.append, args := #[Operand.tmp 34, Operand.tmp 36], argTypes := #[37, 37] }, type := 37, pos := "law.go:100", after := #[{ on := 2, ground := Ground.data }, { on := 4, ground := Ground.data }, { on := 2, ground := Ground.chain }], guard := none }) rfl (fun K hK => ?_) AllReadyH.nil
          (refine Kd.R_append_rows_step k46 (w0 := wz) B (by rfl) (.tmp 34) (.tmp 36) 37 46 _ 32 rfl Try.underlying37 info_rg3 rfl (by decide) (by decide) _ l0 [(⟨a1_0, a1_1, a1_2⟩ : S46)] _ 1 1 (fun _ => True) (fun _ => False) rfl rfl HOc.out (one_range (⟨a1_0, a1_1, a1_2⟩ : S46) HTc.out) km46 (fun _ hk => hk.elim) (fun _ _ => trivial) HBBc.out HSc.out (by have := HLN.out; omega) ?_; intro vn wn hR hBn hG hat; rw [HMM.out] at hR; obtain ⟨An, cn, rfl⟩ := Kd.R_slice hR; have HOd := Aside0.mk hR; (try have HTd := Aside0.mk (vkeepR HTc.out hG HNc.out)); (try have HNd := Aside0.mk (ne_at HNc.out HTc.out hat)); have HSd := Aside0.mk (Nat.le_trans HSc.out hG.size); clear HOc HBBc HSc; have HOc := HOd; have HBBc := Aside0.mk hBn; have HSc := HSd; (try clear HTc; have HTc := HTd); (try have HNc := HNd); clear hR hBn hG hat)
          refine hK.out _ _ (keep3 (up15 KPz.out HBQ.out HBBc.out)) (fun hHeld => ?_)
          clear hK K
          try simp only [Act.put, List.setIfInBounds_toArray, List.set_cons_zero, List.set_cons_succ]
          refine wpAnyH_take (i := 6) (oi := { dst := some 12, op := Op.assign (Operand.tmp 37), type := 37, pos := "law.go:100", after := #[{ on := 5, ground := Ground.data }, { on := 5, ground := Ground.chain }, { on := 0, ground := Ground.phase }, { on := 1, ground := Ground.phase }, { on := 2, ground := Ground.phase }, { on := 3, ground := Ground.phase }, { on := 4, ground := Ground.phase }, { on := 5, ground := Ground.phase }], guard := none }) (v := ?_) rfl (by kernel_rfl) (by kernel_rfl) (by kernel_rfl) (fun _ _ _ h => h) (Or.inl ⟨by rfl, ?_⟩) (by assumption) ?_
          rotate_left
          · intro w hSw
            try dsimp only at hSw
            go_simp
            all_goals with_reducible rfl
          try simp only [Act.put, List.setIfInBounds_toArray, List.set_cons_zero, List.set_cons_succ]
          refine wpAnyH_done (by kernel_rfl) ?_ _
          go_wp2_with fail
          go_meet
          exact ⟨An, cn, rfl, ⟨Kd.R_lower HOc.out HLO.out⟩, ⟨HBD.out.trans (HBBc.out.mono HLO.out)⟩⟩
        case rest =>
        obtain ⟨Al, cl, rfl, HAl, HBq⟩ := hcut
        obtain ⟨w5, hw5⟩ : ∃ q, q = wc := ⟨_, rfl⟩
        rw [← hw5] at HAl HBq ⊢
        clear hw5
        have hX := HBq.out
        have KP5 := Aside0.mk (vkeepB KP4.out hX)
        have HR5 := Aside0.mk (Kd.C_below HR4.out hX)
        have HV5 := Aside0.mk (Kd.C_below HV4.out hX)
        have HB5 := Aside0.mk (HB4.out.trans ((hX).mono HB4.out.size))
        clear KP4 HR4 HV4 HB4
        clear hX HBq
        have hra := Kd.R_reads' HAl.out
        have HA5 := Aside0.mk hra.2.2
        clear hra HAl
        obtain ⟨mb, hmb⟩ : ∃ q, meetsB l2 l0 = q := ⟨_, rfl⟩
        obtain ⟨mc, hmc⟩ : ∃ q, meetsB l2 [(⟨a1_0, a1_1, a1_2⟩ : S46)] = q := ⟨_, rfl⟩
        have hm := HM.out
        rw [HMM.out, hmb, hmc] at hm
        have HMA := Aside0.mk hm
        have HMB := Aside0.mk hmb
        have HMC := Aside0.mk hmc
        clear hm hmb hmc HM HMM
        have hx1 := (Below.refl w5.heap.size w5).alloc (Nat.le_refl _) (.cells #[.string a1_0, .int .i64 a1_1, .int .i64 a1_2] 46 (0, 0))
        have HX := Aside0.mk (hx1.alloc hx1.size (.cells #[.string a1_0, .int .i64 1, .int .i64 a3, .string { data := #[] }] 50 (0, 0)))
        have HO1 := Aside0.mk (Kd.C_alloc (one_range (⟨a1_0, a1_1, a1_2⟩ : S46) (heap_alloc_new w5 (.cells #[.string a1_0, .int .i64 a1_1, .int .i64 a1_2] 46 (0, 0)))) (.cells #[.string a1_0, .int .i64 1, .int .i64 a3, .string { data := #[] }] 50 (0, 0)))
        have ho2 := one_attr ⟨a1_0, ⟨1, a3, ⟨#[]⟩⟩⟩ (heap_alloc_new (w5.alloc (.cells #[.string a1_0, .int .i64 a1_1, .int .i64 a1_2] 46 (0, 0))) (.cells #[.string a1_0, .int .i64 1, .int .i64 a3, .string { data := #[] }] 50 (0, 0)))
        rw [World.size_alloc] at ho2
        have HO2 := Aside0.mk ho2
        clear hx1 ho2
        obtain ⟨⟨p0, p1, p2⟩, p3, p4, p5⟩ := cells3r KP5.out
        obtain ⟨⟨t0, t1, t2⟩, t3, t4, t5⟩ := cells3r (vkeepA KP5.out (.cells #[.string a1_0, .int .i64 a1_1, .int .i64 a1_2] 46 (0, 0)))
        go_upto_region 7 with fail
        go_wp2_with fail
        refine (wmeets [(⟨a1_0, a1_1, a1_2⟩ : S46)] (some ⟨w5.heap.size, 0, none⟩) 1 [⟨a1_0, ⟨1, a3, ⟨#[]⟩⟩⟩] (some ⟨w5.heap.size + 1, 0, none⟩) 1 _ HO1.out HO2.out (Nat.le_refl _)).mono ?_
        rintro e w6 ⟨rfl, hX0⟩
        rw [HN.out]
        have hX := HX.out.trans (hX0.mono HX.out.size)
        clear HO1 HO2 HX hX0 HN
        clear p0 p1 p2 p3 p4 p5 t0 t1 t2 t3 t4 t5
        have KP6 := Aside0.mk (vkeepB KP5.out hX)
        have HR6 := Aside0.mk (Kd.C_below HR5.out hX)
        have HV6 := Aside0.mk (Kd.C_below HV5.out hX)
        have HB6 := Aside0.mk (HB5.out.trans ((hX).mono HB5.out.size))
        have HA6 := Aside0.mk (Kd.C_below HA5.out hX)
        clear KP5 HR5 HV5 HB5 HA5
        clear hX
        go_upto_region 8 with fail
        by_cases g1 : a3 ≥ a1_1
        case neg =>
          cases mb with
          | false =>
            go_wp2_with fail
            refine (wmeets M Al cl l2 A2 c2 w6 HA6.out HV6.out HC.out.2).mono ?_
            rintro e w7 ⟨rfl, hX⟩
            rw [HMA.out]
            have KP7 := Aside0.mk (vkeepB KP6.out hX)
            have HR7 := Aside0.mk (Kd.C_below HR6.out hX)
            have HV7 := Aside0.mk (Kd.C_below HV6.out hX)
            have HB7 := Aside0.mk (HB6.out.trans ((hX).mono HB6.out.size))
            have HA7 := Aside0.mk (Kd.C_below HA6.out hX)
            clear KP6 HR6 HV6 HB6 HA6
            clear hX
            go_wp2_with fail
            refine (wmeets l0 A0 c0 l2 A2 c2 w7 HR7.out HV7.out HC.out.2).mono ?_
            rintro e w8 ⟨rfl, hX⟩
            rw [HMB.out]
            have KP8 := Aside0.mk (vkeepB KP7.out hX)
            have HR8 := Aside0.mk (Kd.C_below HR7.out hX)
            have HV8 := Aside0.mk (Kd.C_below HV7.out hX)
            have HB8 := Aside0.mk (HB7.out.trans ((hX).mono HB7.out.size))
            have HA8 := Aside0.mk (Kd.C_below HA7.out hX)
            clear KP7 HR7 HV7 HB7 HA7
            clear hX
            obtain ⟨⟨p0, p1, p2⟩, p3, p4, p5⟩ := cells3r KP8.out
            go_wp2_with fail
            go_ret
            exact ⟨rfl, HB8.out⟩
          | true =>
            cases mc with
            | false =>
              go_wp2_with fail
              refine (wmeets M Al cl l2 A2 c2 w6 HA6.out HV6.out HC.out.2).mono ?_
              rintro e w7 ⟨rfl, hX⟩
              rw [HMA.out]
              have KP7 := Aside0.mk (vkeepB KP6.out hX)
              have HR7 := Aside0.mk (Kd.C_below HR6.out hX)
              have HV7 := Aside0.mk (Kd.C_below HV6.out hX)
              have HB7 := Aside0.mk (HB6.out.trans ((hX).mono HB6.out.size))
              have HA7 := Aside0.mk (Kd.C_below HA6.out hX)
              clear KP6 HR6 HV6 HB6 HA6
              clear hX
              go_wp2_with fail
              refine (wmeets l0 A0 c0 l2 A2 c2 w7 HR7.out HV7.out HC.out.2).mono ?_
              rintro e w8 ⟨rfl, hX⟩
              rw [HMB.out]
              have KP8 := Aside0.mk (vkeepB KP7.out hX)
              have HR8 := Aside0.mk (Kd.C_below HR7.out hX)
              have HV8 := Aside0.mk (Kd.C_below HV7.out hX)
              have HB8 := Aside0.mk (HB7.out.trans ((hX).mono HB7.out.size))
              have HA8 := Aside0.mk (Kd.C_below HA7.out hX)
              clear KP7 HR7 HV7 HB7 HA7
              clear hX
              obtain ⟨⟨p0, p1, p2⟩, p3, p4, p5⟩ := cells3r KP8.out
              have HX := Aside0.mk ((Below.refl w8.heap.size w8).alloc (Nat.le_refl _) (.cells #[.string a1_0, .int .i64 a1_1, .int .i64 a1_2] 46 (0, 0)))
              go_wp2_with fail
              refine (wmeets [(⟨a1_0, a1_1, a1_2⟩ : S46)] (some ⟨w8.heap.size, 0, none⟩) 1 l2 A2 c2 _ (one_range (⟨a1_0, a1_1, a1_2⟩ : S46) (heap_alloc_new w8 (.cells #[.string a1_0, .int .i64 a1_1, .int .i64 a1_2] 46 (0, 0)))) (Kd.C_below HV8.out HX.out) HC.out.2).mono ?_
              rintro e w9 ⟨rfl, hX0⟩
              rw [HMC.out]
              have hX := HX.out.trans (hX0.mono HX.out.size)
              clear hX0 HX
              clear p0 p1 p2 p3 p4 p5
              have KP9 := Aside0.mk (vkeepB KP8.out hX)
              have HR9 := Aside0.mk (Kd.C_below HR8.out hX)
              have HV9 := Aside0.mk (Kd.C_below HV8.out hX)
              have HB9 := Aside0.mk (HB8.out.trans ((hX).mono HB8.out.size))
              have HA9 := Aside0.mk (Kd.C_below HA8.out hX)
              clear KP8 HR8 HV8 HB8 HA8
              clear hX
              obtain ⟨⟨p0, p1, p2⟩, p3, p4, p5⟩ := cells3r KP9.out
              go_wp2_with fail
              go_ret
              exact ⟨rfl, HB9.out⟩
            | true =>
              go_wp2_with fail
              refine (wmeets M Al cl l2 A2 c2 w6 HA6.out HV6.out HC.out.2).mono ?_
              rintro e w7 ⟨rfl, hX⟩
              rw [HMA.out]
              have KP7 := Aside0.mk (vkeepB KP6.out hX)
              have HR7 := Aside0.mk (Kd.C_below HR6.out hX)
              have HV7 := Aside0.mk (Kd.C_below HV6.out hX)
              have HB7 := Aside0.mk (HB6.out.trans ((hX).mono HB6.out.size))
              have HA7 := Aside0.mk (Kd.C_below HA6.out hX)
              clear KP6 HR6 HV6 HB6 HA6
              clear hX
              go_wp2_with fail
              refine (wmeets l0 A0 c0 l2 A2 c2 w7 HR7.out HV7.out HC.out.2).mono ?_
              rintro e w8 ⟨rfl, hX⟩
              rw [HMB.out]
              have KP8 := Aside0.mk (vkeepB KP7.out hX)
              have HR8 := Aside0.mk (Kd.C_below HR7.out hX)
              have HV8 := Aside0.mk (Kd.C_below HV7.out hX)
              have HB8 := Aside0.mk (HB7.out.trans ((hX).mono HB7.out.size))
              have HA8 := Aside0.mk (Kd.C_below HA7.out hX)
              clear KP7 HR7 HV7 HB7 HA7
              clear hX
              obtain ⟨⟨p0, p1, p2⟩, p3, p4, p5⟩ := cells3r KP8.out
              have HX := Aside0.mk ((Below.refl w8.heap.size w8).alloc (Nat.le_refl _) (.cells #[.string a1_0, .int .i64 a1_1, .int .i64 a1_2] 46 (0, 0)))
              go_wp2_with fail
              refine (wmeets [(⟨a1_0, a1_1, a1_2⟩ : S46)] (some ⟨w8.heap.size, 0, none⟩) 1 l2 A2 c2 _ (one_range (⟨a1_0, a1_1, a1_2⟩ : S46) (heap_alloc_new w8 (.cells #[.string a1_0, .int .i64 a1_1, .int .i64 a1_2] 46 (0, 0)))) (Kd.C_below HV8.out HX.out) HC.out.2).mono ?_
              rintro e w9 ⟨rfl, hX0⟩
              rw [HMC.out]
              have hX := HX.out.trans (hX0.mono HX.out.size)
              clear hX0 HX
              clear p0 p1 p2 p3 p4 p5
              have KP9 := Aside0.mk (vkeepB KP8.out hX)
              have HR9 := Aside0.mk (Kd.C_below HR8.out hX)
              have HV9 := Aside0.mk (Kd.C_below HV8.out hX)
              have HB9 := Aside0.mk (HB8.out.trans ((hX).mono HB8.out.size))
              have HA9 := Aside0.mk (Kd.C_below HA8.out hX)
              clear KP8 HR8 HV8 HB8 HA8
              clear hX
              obtain ⟨⟨p0, p1, p2⟩, p3, p4, p5⟩ := cells3r KP9.out
              go_wp2_with fail
              go_ret
              exact ⟨rfl, HB9.out⟩
        by_cases g2 : a3 ≤ a1_2
        case neg =>
          cases mb with
          | false =>
            go_wp2_with fail
            refine (wmeets M Al cl l2 A2 c2 w6 HA6.out HV6.out HC.out.2).mono ?_
            rintro e w7 ⟨rfl, hX⟩
            rw [HMA.out]
            have KP7 := Aside0.mk (vkeepB KP6.out hX)
            have HR7 := Aside0.mk (Kd.C_below HR6.out hX)
            have HV7 := Aside0.mk (Kd.C_below HV6.out hX)
            have HB7 := Aside0.mk (HB6.out.trans ((hX).mono HB6.out.size))
            have HA7 := Aside0.mk (Kd.C_below HA6.out hX)
            clear KP6 HR6 HV6 HB6 HA6
            clear hX
            go_wp2_with fail
            refine (wmeets l0 A0 c0 l2 A2 c2 w7 HR7.out HV7.out HC.out.2).mono ?_
            rintro e w8 ⟨rfl, hX⟩
            rw [HMB.out]
            have KP8 := Aside0.mk (vkeepB KP7.out hX)
            have HR8 := Aside0.mk (Kd.C_below HR7.out hX)
            have HV8 := Aside0.mk (Kd.C_below HV7.out hX)
            have HB8 := Aside0.mk (HB7.out.trans ((hX).mono HB7.out.size))
            have HA8 := Aside0.mk (Kd.C_below HA7.out hX)
            clear KP7 HR7 HV7 HB7 HA7
            clear hX
            obtain ⟨⟨p0, p1, p2⟩, p3, p4, p5⟩ := cells3r KP8.out
            go_wp2_with fail
            go_ret
            exact ⟨rfl, HB8.out⟩
          | true =>
            cases mc with
            | false =>
              go_wp2_with fail
              refine (wmeets M Al cl l2 A2 c2 w6 HA6.out HV6.out HC.out.2).mono ?_
              rintro e w7 ⟨rfl, hX⟩
              rw [HMA.out]
              have KP7 := Aside0.mk (vkeepB KP6.out hX)
              have HR7 := Aside0.mk (Kd.C_below HR6.out hX)
              have HV7 := Aside0.mk (Kd.C_below HV6.out hX)
              have HB7 := Aside0.mk (HB6.out.trans ((hX).mono HB6.out.size))
              have HA7 := Aside0.mk (Kd.C_below HA6.out hX)
              clear KP6 HR6 HV6 HB6 HA6
              clear hX
              go_wp2_with fail
              refine (wmeets l0 A0 c0 l2 A2 c2 w7 HR7.out HV7.out HC.out.2).mono ?_
              rintro e w8 ⟨rfl, hX⟩
              rw [HMB.out]
              have KP8 := Aside0.mk (vkeepB KP7.out hX)
              have HR8 := Aside0.mk (Kd.C_below HR7.out hX)
              have HV8 := Aside0.mk (Kd.C_below HV7.out hX)
              have HB8 := Aside0.mk (HB7.out.trans ((hX).mono HB7.out.size))
              have HA8 := Aside0.mk (Kd.C_below HA7.out hX)
              clear KP7 HR7 HV7 HB7 HA7
              clear hX
              obtain ⟨⟨p0, p1, p2⟩, p3, p4, p5⟩ := cells3r KP8.out
              have HX := Aside0.mk ((Below.refl w8.heap.size w8).alloc (Nat.le_refl _) (.cells #[.string a1_0, .int .i64 a1_1, .int .i64 a1_2] 46 (0, 0)))
              go_wp2_with fail
              refine (wmeets [(⟨a1_0, a1_1, a1_2⟩ : S46)] (some ⟨w8.heap.size, 0, none⟩) 1 l2 A2 c2 _ (one_range (⟨a1_0, a1_1, a1_2⟩ : S46) (heap_alloc_new w8 (.cells #[.string a1_0, .int .i64 a1_1, .int .i64 a1_2] 46 (0, 0)))) (Kd.C_below HV8.out HX.out) HC.out.2).mono ?_
              rintro e w9 ⟨rfl, hX0⟩
              rw [HMC.out]
              have hX := HX.out.trans (hX0.mono HX.out.size)
              clear hX0 HX
              clear p0 p1 p2 p3 p4 p5
              have KP9 := Aside0.mk (vkeepB KP8.out hX)
              have HR9 := Aside0.mk (Kd.C_below HR8.out hX)
              have HV9 := Aside0.mk (Kd.C_below HV8.out hX)
              have HB9 := Aside0.mk (HB8.out.trans ((hX).mono HB8.out.size))
              have HA9 := Aside0.mk (Kd.C_below HA8.out hX)
              clear KP8 HR8 HV8 HB8 HA8
              clear hX
              obtain ⟨⟨p0, p1, p2⟩, p3, p4, p5⟩ := cells3r KP9.out
              go_wp2_with fail
              go_ret
              exact ⟨rfl, HB9.out⟩
            | true =>
              go_wp2_with fail
              refine (wmeets M Al cl l2 A2 c2 w6 HA6.out HV6.out HC.out.2).mono ?_
              rintro e w7 ⟨rfl, hX⟩
              rw [HMA.out]
              have KP7 := Aside0.mk (vkeepB KP6.out hX)
              have HR7 := Aside0.mk (Kd.C_below HR6.out hX)
              have HV7 := Aside0.mk (Kd.C_below HV6.out hX)
              have HB7 := Aside0.mk (HB6.out.trans ((hX).mono HB6.out.size))
              have HA7 := Aside0.mk (Kd.C_below HA6.out hX)
              clear KP6 HR6 HV6 HB6 HA6
              clear hX
              go_wp2_with fail
              refine (wmeets l0 A0 c0 l2 A2 c2 w7 HR7.out HV7.out HC.out.2).mono ?_
              rintro e w8 ⟨rfl, hX⟩
              rw [HMB.out]
              have KP8 := Aside0.mk (vkeepB KP7.out hX)
              have HR8 := Aside0.mk (Kd.C_below HR7.out hX)
              have HV8 := Aside0.mk (Kd.C_below HV7.out hX)
              have HB8 := Aside0.mk (HB7.out.trans ((hX).mono HB7.out.size))
              have HA8 := Aside0.mk (Kd.C_below HA7.out hX)
              clear KP7 HR7 HV7 HB7 HA7
              clear hX
              obtain ⟨⟨p0, p1, p2⟩, p3, p4, p5⟩ := cells3r KP8.out
              have HX := Aside0.mk ((Below.refl w8.heap.size w8).alloc (Nat.le_refl _) (.cells #[.string a1_0, .int .i64 a1_1, .int .i64 a1_2] 46 (0, 0)))
              go_wp2_with fail
              refine (wmeets [(⟨a1_0, a1_1, a1_2⟩ : S46)] (some ⟨w8.heap.size, 0, none⟩) 1 l2 A2 c2 _ (one_range (⟨a1_0, a1_1, a1_2⟩ : S46) (heap_alloc_new w8 (.cells #[.string a1_0, .int .i64 a1_1, .int .i64 a1_2] 46 (0, 0)))) (Kd.C_below HV8.out HX.out) HC.out.2).mono ?_
              rintro e w9 ⟨rfl, hX0⟩
              rw [HMC.out]
              have hX := HX.out.trans (hX0.mono HX.out.size)
              clear hX0 HX
              clear p0 p1 p2 p3 p4 p5
              have KP9 := Aside0.mk (vkeepB KP8.out hX)
              have HR9 := Aside0.mk (Kd.C_below HR8.out hX)
              have HV9 := Aside0.mk (Kd.C_below HV8.out hX)
              have HB9 := Aside0.mk (HB8.out.trans ((hX).mono HB8.out.size))
              have HA9 := Aside0.mk (Kd.C_below HA8.out hX)
              clear KP8 HR8 HV8 HB8 HA8
              clear hX
              obtain ⟨⟨p0, p1, p2⟩, p3, p4, p5⟩ := cells3r KP9.out
              go_wp2_with fail
              go_ret
              exact ⟨rfl, HB9.out⟩
        cases mb with
        | false =>
          go_wp2_with fail
          refine (wmeets M Al cl l2 A2 c2 w6 HA6.out HV6.out HC.out.2).mono ?_
          rintro e w7 ⟨rfl, hX⟩
          rw [HMA.out]
          have KP7 := Aside0.mk (vkeepB KP6.out hX)
          have HR7 := Aside0.mk (Kd.C_below HR6.out hX)
          have HV7 := Aside0.mk (Kd.C_below HV6.out hX)
          have HB7 := Aside0.mk (HB6.out.trans ((hX).mono HB6.out.size))
          have HA7 := Aside0.mk (Kd.C_below HA6.out hX)
          clear KP6 HR6 HV6 HB6 HA6
          clear hX
          go_wp2_with fail
          refine (wmeets l0 A0 c0 l2 A2 c2 w7 HR7.out HV7.out HC.out.2).mono ?_
          rintro e w8 ⟨rfl, hX⟩
          rw [HMB.out]
          have KP8 := Aside0.mk (vkeepB KP7.out hX)
          have HR8 := Aside0.mk (Kd.C_below HR7.out hX)
          have HV8 := Aside0.mk (Kd.C_below HV7.out hX)
          have HB8 := Aside0.mk (HB7.out.trans ((hX).mono HB7.out.size))
          have HA8 := Aside0.mk (Kd.C_below HA7.out hX)
          clear KP7 HR7 HV7 HB7 HA7
          clear hX
          obtain ⟨⟨p0, p1, p2⟩, p3, p4, p5⟩ := cells3r KP8.out
          go_wp2_with fail
          go_ret
          exact ⟨rfl, HB8.out⟩
        | true =>
          cases mc with
          | false =>
            go_wp2_with fail
            refine (wmeets M Al cl l2 A2 c2 w6 HA6.out HV6.out HC.out.2).mono ?_
            rintro e w7 ⟨rfl, hX⟩
            rw [HMA.out]
            have KP7 := Aside0.mk (vkeepB KP6.out hX)
            have HR7 := Aside0.mk (Kd.C_below HR6.out hX)
            have HV7 := Aside0.mk (Kd.C_below HV6.out hX)
            have HB7 := Aside0.mk (HB6.out.trans ((hX).mono HB6.out.size))
            have HA7 := Aside0.mk (Kd.C_below HA6.out hX)
            clear KP6 HR6 HV6 HB6 HA6
            clear hX
            go_wp2_with fail
            refine (wmeets l0 A0 c0 l2 A2 c2 w7 HR7.out HV7.out HC.out.2).mono ?_
            rintro e w8 ⟨rfl, hX⟩
            rw [HMB.out]
            have KP8 := Aside0.mk (vkeepB KP7.out hX)
            have HR8 := Aside0.mk (Kd.C_below HR7.out hX)
            have HV8 := Aside0.mk (Kd.C_below HV7.out hX)
            have HB8 := Aside0.mk (HB7.out.trans ((hX).mono HB7.out.size))
            have HA8 := Aside0.mk (Kd.C_below HA7.out hX)
            clear KP7 HR7 HV7 HB7 HA7
            clear hX
            obtain ⟨⟨p0, p1, p2⟩, p3, p4, p5⟩ := cells3r KP8.out
            have HX := Aside0.mk ((Below.refl w8.heap.size w8).alloc (Nat.le_refl _) (.cells #[.string a1_0, .int .i64 a1_1, .int .i64 a1_2] 46 (0, 0)))
            go_wp2_with fail
            refine (wmeets [(⟨a1_0, a1_1, a1_2⟩ : S46)] (some ⟨w8.heap.size, 0, none⟩) 1 l2 A2 c2 _ (one_range (⟨a1_0, a1_1, a1_2⟩ : S46) (heap_alloc_new w8 (.cells #[.string a1_0, .int .i64 a1_1, .int .i64 a1_2] 46 (0, 0)))) (Kd.C_below HV8.out HX.out) HC.out.2).mono ?_
            rintro e w9 ⟨rfl, hX0⟩
            rw [HMC.out]
            have hX := HX.out.trans (hX0.mono HX.out.size)
            clear hX0 HX
            clear p0 p1 p2 p3 p4 p5
            have KP9 := Aside0.mk (vkeepB KP8.out hX)
            have HR9 := Aside0.mk (Kd.C_below HR8.out hX)
            have HV9 := Aside0.mk (Kd.C_below HV8.out hX)
            have HB9 := Aside0.mk (HB8.out.trans ((hX).mono HB8.out.size))
            have HA9 := Aside0.mk (Kd.C_below HA8.out hX)
            clear KP8 HR8 HV8 HB8 HA8
            clear hX
            obtain ⟨⟨p0, p1, p2⟩, p3, p4, p5⟩ := cells3r KP9.out
            go_wp2_with fail
            go_ret
            exact ⟨rfl, HB9.out⟩
          | true =>
            go_wp2_with fail
            refine (wmeets M Al cl l2 A2 c2 w6 HA6.out HV6.out HC.out.2).mono ?_
            rintro e w7 ⟨rfl, hX⟩
            rw [HMA.out]
            have KP7 := Aside0.mk (vkeepB KP6.out hX)
            have HR7 := Aside0.mk (Kd.C_below HR6.out hX)
            have HV7 := Aside0.mk (Kd.C_below HV6.out hX)
            have HB7 := Aside0.mk (HB6.out.trans ((hX).mono HB6.out.size))
            have HA7 := Aside0.mk (Kd.C_below HA6.out hX)
            clear KP6 HR6 HV6 HB6 HA6
            clear hX
            go_wp2_with fail
            refine (wmeets l0 A0 c0 l2 A2 c2 w7 HR7.out HV7.out HC.out.2).mono ?_
            rintro e w8 ⟨rfl, hX⟩
            rw [HMB.out]
            have KP8 := Aside0.mk (vkeepB KP7.out hX)
            have HR8 := Aside0.mk (Kd.C_below HR7.out hX)
            have HV8 := Aside0.mk (Kd.C_below HV7.out hX)
            have HB8 := Aside0.mk (HB7.out.trans ((hX).mono HB7.out.size))
            have HA8 := Aside0.mk (Kd.C_below HA7.out hX)
            clear KP7 HR7 HV7 HB7 HA7
            clear hX
            obtain ⟨⟨p0, p1, p2⟩, p3, p4, p5⟩ := cells3r KP8.out
            have HX := Aside0.mk ((Below.refl w8.heap.size w8).alloc (Nat.le_refl _) (.cells #[.string a1_0, .int .i64 a1_1, .int .i64 a1_2] 46 (0, 0)))
            go_wp2_with fail
            refine (wmeets [(⟨a1_0, a1_1, a1_2⟩ : S46)] (some ⟨w8.heap.size, 0, none⟩) 1 l2 A2 c2 _ (one_range (⟨a1_0, a1_1, a1_2⟩ : S46) (heap_alloc_new w8 (.cells #[.string a1_0, .int .i64 a1_1, .int .i64 a1_2] 46 (0, 0)))) (Kd.C_below HV8.out HX.out) HC.out.2).mono ?_
            rintro e w9 ⟨rfl, hX0⟩
            rw [HMC.out]
            have hX := HX.out.trans (hX0.mono HX.out.size)
            clear hX0 HX
            clear p0 p1 p2 p3 p4 p5
            have KP9 := Aside0.mk (vkeepB KP8.out hX)
            have HR9 := Aside0.mk (Kd.C_below HR8.out hX)
            have HV9 := Aside0.mk (Kd.C_below HV8.out hX)
            have HB9 := Aside0.mk (HB8.out.trans ((hX).mono HB8.out.size))
            have HA9 := Aside0.mk (Kd.C_below HA8.out hX)
            clear KP8 HR8 HV8 HB8 HA8
            clear hX
            obtain ⟨⟨p0, p1, p2⟩, p3, p4, p5⟩ := cells3r KP9.out
            go_wp2_with fail
            go_ret
            exact ⟨rfl, HB9.out⟩
end Go.Proofs.Ytkdhcmmfklganaa.G
end

section
namespace Go.Proofs.Ytkdhcmmfklganaa.G
open Go.RowKit Go.Proofs.Ytkdhcmmfklganaa Go.Proofs.Ytkdhcmmfklganaa.G Go.Proofs.YtkdhcmmfklganaaW.PrintWords Go.Proofs.YtkdhcmmfklganaaW.PrintLast

/-- The pure statement of rosettelaw15_FirstRanges. -/
def rosettelaw15_FirstRanges.Pure : Prop := ∀ (l0 : (List S46)) (a1 : S46) (l2 : (List S50)) (a3 : Int), ((l0.length ≤ maxLen ∧ l0.length * 32 ≤ 140737488351232) ∧ ∀ x0 ∈ l0, (x0.f0.size ≤ 140737488351232 ∧ ((Lit.int .i64 x0.f1).wf = true ∧ (Lit.int .i64 x0.f2).wf = true))) → (a1.f0.size ≤ 140737488351232 ∧ ((Lit.int .i64 a1.f1).wf = true ∧ (Lit.int .i64 a1.f2).wf = true)) → ((l2.length ≤ maxLen ∧ l2.length * 48 ≤ 140737488351232) ∧ ∀ x0 ∈ l2, (x0.f0.size ≤ 140737488351232 ∧ ((Lit.int .i64 x0.f1.f0).wf = true ∧ ((Lit.int .i64 x0.f1.f1).wf = true ∧ x0.f1.f2.size ≤ 140737488351232)))) → (Lit.int .i64 a3).wf = true → ∃ k, rosettelaw15_FirstRanges.f k l0 a1.f0 a1.f1 a1.f2 l2 a3 = some true
end Go.Proofs.Ytkdhcmmfklganaa.G
end

section
/- FirstCuts, walked -/
set_option linter.unusedVariables false
set_option linter.unusedSimpArgs false
set_option autoImplicit false
namespace Go.Proofs.Ytkdhcmmfklganaa.G
open Go.RowKit Go.Proofs.Ytkdhcmmfklganaa Go.Proofs.YtkdhcmmfklganaaW.PrintWords Go.Proofs.YtkdhcmmfklganaaW.PrintLast Go.Proofs.YtkdhcmmfklganaaW.PrintMore

instance u8sDec (l : List Int) : Decidable (u8s l) := by unfold u8s; infer_instance
def cutsF (fw is : Bool) (B : List Int) (a1 : Int) (l2 : List Int) : Option Bool :=
  if (fw = false ∨ is = false) ∨ (a1 < 0 ∨ a1 ≥ B.length) ∨ (l2.length < 1 ∨ l2.length > 100) then some true
  else if B.length ≤ 40000 ∧ u8s (B ++ l2) ∧ dec15 (B.take a1.toNat) = (([], []), 2) ∧ dec15 (B ++ l2) = (([], []), 5) then some true else none
def rosettelaw15_FirstCuts.f (k : Nat) (l0_0 : List Int) (l0_1 : List S40) (a1 : Int) (l2 : List Int) : Option Bool :=
  (rosettelaw15_Few.f k l0_0 l0_1).bind fun fw => cutsF fw (rightB l0_0 l0_1) (if rightB l0_0 l0_1 = true then encL l0_0 l0_1 else []) a1 l2
set_option maxRecDepth 100000 in
set_option maxHeartbeats 8000000 in
theorem rosettelaw15_FirstCuts.calls (k : Nat) (A0_0 : Option Addr) (c0_0 : Nat) (l0_0 : List Int) (A0_1 : Option Addr) (c0_1 : Nat) (l0_1 : List S40) (a1 : Int) (A2 : Option Addr) (c2 : Nat) (l2 : List Int) (r : Bool) (w : World) (hr0_0 : Kd.C (Kd.int .i64) w A0_0 l0_0.length l0_0) (hc0_0 : l0_0.length ≤ c0_0) (hr0_1 : Kd.C k40 w A0_1 l0_1.length l0_1) (hc0_1 : l0_1.length ≤ c0_1) (hr2 : Kd.C (Kd.int .u8) w A2 l2.length l2) (hc2 : l2.length ≤ c2) (h : rosettelaw15_FirstCuts.f k l0_0 l0_1 a1 l2 = some r) :
    Calls Try.prog 7 #[.agg #[.slice A0_0 l0_0.length c0_0, .slice A0_1 l0_1.length c0_1], .int .i64 a1, .slice A2 l2.length c2] w fun e w' => e = .returned (.bool r) ∧ Below w.heap.size w w' := by
  unfold rosettelaw15_FirstCuts.f at h
  obtain ⟨fw, hE, h⟩ := Option.bind_eq_some_iff.mp h
  have HE := Aside0.mk hE
  have LM := Aside0.mk hr2.2.1
  have LD := Aside0.mk hr0_0.2.1
  have hlm := hr2.2.1
  obtain ⟨is, his⟩ : ∃ q, q = rightB l0_0 l0_1 := ⟨_, rfl⟩
  obtain ⟨B, hB⟩ : ∃ q, q = (if rightB l0_0 l0_1 = true then encL l0_0 l0_1 else []) := ⟨_, rfl⟩
  rw [← hB, ← his] at h
  have HI := Aside0.mk his
  have HQ := Aside0.mk hB
  clear his hB
  have hb0 := (Below.refl w.heap.size w).alloc (Nat.le_refl _) (.cells #[.slice A0_0 l0_0.length c0_0, .slice A0_1 l0_1.length c0_1] 25 (0, 0))
  have HD1 := Aside0.mk (Kd.C_below hr0_0 hb0)
  have HS1 := Aside0.mk (Kd.C_below hr0_1 hb0)
  have HM1 := Aside0.mk (Kd.C_below hr2 hb0)
  have KP1 := Aside0.mk (heap_alloc_new w (.cells #[.slice A0_0 l0_0.length c0_0, .slice A0_1 l0_1.length c0_1] 25 (0, 0)))
  have HB1 := Aside0.mk hb0
  have HC := Aside0.mk (And.intro hc0_0 (And.intro hc0_1 hc2))
  have HH := Aside0.mk h
  clear hE hr0_0 hc0_0 hr0_1 hc0_1 hr2 hc2 hb0 h
  go_enter Try.func7, Try.ntmps7
  go_upto_region 1 with fail
  generalize w.alloc (.cells #[.slice A0_0 l0_0.length c0_0, .slice A0_1 l0_1.length c0_1] 25 (0, 0)) = w1 at HD1 HS1 HM1 KP1 HB1 ⊢
  go_wp2_with fail
  refine (small_any w1).mono ?_
  rintro e w2 ⟨rfl, hX⟩
  have KP2 := Aside0.mk (vkeepB KP1.out hX)
  have HD2 := Aside0.mk (Kd.C_below HD1.out hX)
  have HS2 := Aside0.mk (Kd.C_below HS1.out hX)
  have HM2 := Aside0.mk (Kd.C_below HM1.out hX)
  have HB2 := Aside0.mk (HB1.out.trans ((hX).mono HB1.out.size))
  clear KP1 HD1 HS1 HM1 HB1
  clear hX
  obtain ⟨⟨p0, p1⟩, p2, p3⟩ := cells2r KP2.out
  go_wp2_with fail
  refine (rosettelaw15_Few.calls k A0_0 c0_0 l0_0 A0_1 c0_1 l0_1 fw w2 HD2.out HC.out.1 HS2.out HC.out.2.1 HE.out).mono ?_
  rintro e w3 ⟨rfl, hX⟩
  clear p0 p1 p2 p3
  have KP3 := Aside0.mk (vkeepB KP2.out hX)
  have HD3 := Aside0.mk (Kd.C_below HD2.out hX)
  have HS3 := Aside0.mk (Kd.C_below HS2.out hX)
  have HM3 := Aside0.mk (Kd.C_below HM2.out hX)
  have HB3 := Aside0.mk (HB2.out.trans ((hX).mono HB2.out.size))
  clear KP2 HD2 HS2 HM2 HB2
  clear hX
  obtain ⟨⟨p0, p1⟩, p2, p3⟩ := cells2r KP3.out
  go_wp2_with fail
  refine (wencode15 l0_0 A0_0 c0_0 l0_1 A0_1 c0_1 w3 HD3.out HC.out.1 HS3.out LD.out).mono ?_
  rintro e w4 ⟨v1, rfl, hR, hX⟩
  rw [← HQ.out] at hR
  rw [← HI.out]
  obtain ⟨Aa, na, rfl, hna, hna2, _, hCa⟩ := held_own hR
  clear p0 p1 p2 p3
  have KP4 := Aside0.mk (vkeepB KP3.out hX)
  have HD4 := Aside0.mk (Kd.C_below HD3.out hX)
  have HS4 := Aside0.mk (Kd.C_below HS3.out hX)
  have HM4 := Aside0.mk (Kd.C_below HM3.out hX)
  have HB4 := Aside0.mk (HB3.out.trans ((hX).mono HB3.out.size))
  clear KP3 HD3 HS3 HM3 HB3
  have HA4 := Aside0.mk hCa
  have hlb := hCa.2.1
  have HNA := Aside0.mk (And.intro hna hna2)
  clear hR hX hCa hna hna2
  go_upto_region 4 with fail
  cases fw with
  | false =>
    go_wp2
    go_ret
    exact ⟨by have h := HH.out; unfold cutsF at h; rw [if_pos (by exact .inl (.inl rfl))] at h; rw [← Option.some.inj h]; rfl, HB4.out⟩
  | true =>
    cases is with
    | false =>
      go_wp2
      go_ret
      exact ⟨by have h := HH.out; unfold cutsF at h; rw [if_pos (by exact .inl (.inr rfl))] at h; rw [← Option.some.inj h]; rfl, HB4.out⟩
    | true =>
      by_cases d2 : a1 < 0
      · skip
        go_wp2
        go_ret
        exact ⟨by have h := HH.out; unfold cutsF at h; rw [if_pos (by exact .inr (.inl (.inl d2)))] at h; rw [← Option.some.inj h]; rfl, HB4.out⟩
      have e2 : decide (a1 < 0) = false := decide_eq_false d2
      by_cases d3 : a1 ≥ (B.length : Int)
      · skip
        go_wp2
        go_ret
        exact ⟨by have h := HH.out; unfold cutsF at h; rw [if_pos (by exact .inr (.inl (.inr d3)))] at h; rw [← Option.some.inj h]; rfl, HB4.out⟩
      have e3 : decide ((B.length : Int) ≤ a1) = false := decide_eq_false (by omega)
      by_cases d4 : l2.length < 1
      · have d4' : (l2.length : Int) < 1 := by omega
        go_wp2
        go_ret
        exact ⟨by have h := HH.out; unfold cutsF at h; rw [if_pos (by exact .inr (.inr (.inl d4)))] at h; rw [← Option.some.inj h]; rfl, HB4.out⟩
      have d4' : ¬ ((l2.length : Int) < 1) := by omega
      have e4 : decide ((l2.length : Int) < 1) = false := decide_eq_false (by omega)
      by_cases d5 : l2.length > 100
      · have d5' : (l2.length : Int) > 100 := by omega
        go_wp2
        go_ret
        exact ⟨by have h := HH.out; unfold cutsF at h; rw [if_pos (by exact .inr (.inr (.inr d5)))] at h; rw [← Option.some.inj h]; rfl, HB4.out⟩
      have d5' : ¬ ((l2.length : Int) > 100) := by omega
      have e5 : decide ((100 : Int) < (l2.length : Int)) = false := decide_eq_false (by omega)
      obtain ⟨c, rfl⟩ := Int.eq_ofNat_of_zero_le (show 0 ≤ a1 by omega)
      have h := HH.out
      unfold cutsF at h
      rw [if_neg (by rintro ((hh | hh) | (hh | hh) | (hh | hh)) <;> first | omega | cases hh)] at h
      split at h
      case isFalse => cases h
      case isTrue hd =>
        obtain rfl := Option.some.inj h
        have HL := Aside0.mk hd.1
        have HU := Aside0.mk hd.2.1
        have H1 := Aside0.mk (show dec15 (B.take c) = (([], []), 2) from by have := hd.2.2.1; rwa [Int.toNat_natCast] at this)
        have H2 := Aside0.mk hd.2.2.2
        have hcB : c < B.length := by omega
        have HCB := Aside0.mk hcB
        have hcn : c ≤ na := by have := HNA.out.1; omega
        have hna2 := HNA.out.2
        clear h hd HH HE hlb HQ HI
        go_wp2_with fail
        clear hcB hcn hna2 hlm
        refine (ldec15 (l := B.take c) (n := c) (ls := []) (ss := []) (E := 2) (n1 := 0) (n2 := 0) (by rw [List.length_take]; have := HCB.out; omega) H1.out rfl rfl Aa na w4 (Kd.C_take HA4.out (by have := HCB.out; omega)) (by have := HCB.out; have := HNA.out.1; omega) HNA.out.2 (fun x hx => HU.out x (List.mem_append_left _ (List.mem_of_mem_take hx))) (by have := HCB.out; have := HL.out; omega)).mono ?_
        rintro e w5 ⟨A3, c3, A4, c4, rfl, _, _, _, _, hX⟩
        have KP5 := Aside0.mk (vkeepB KP4.out hX)
        have HD5 := Aside0.mk (Kd.C_below HD4.out hX)
        have HS5 := Aside0.mk (Kd.C_below HS4.out hX)
        have HM5 := Aside0.mk (Kd.C_below HM4.out hX)
        have HB5 := Aside0.mk (HB4.out.trans ((hX).mono HB4.out.size))
        have HA5 := Aside0.mk (Kd.C_below HA4.out hX)
        clear KP4 HD4 HS4 HM4 HB4 HA4
        clear hX d4 d4' d5 d2 d3 e2 e3 e4 e5
        have hb := (Below.refl w5.heap.size w5).alloc (Nat.le_refl _) (.cells #[.slice A3 0 c3, .slice A4 0 c4] 25 (0, 0))
        go_upto_region 7 with fail
        have KP6 := Aside0.mk (vkeepB KP5.out hb)
        have HD6 := Aside0.mk (Kd.C_below HD5.out hb)
        have HS6 := Aside0.mk (Kd.C_below HS5.out hb)
        have HM6 := Aside0.mk (Kd.C_below HM5.out hb)
        have HB6 := Aside0.mk (HB5.out.trans ((hb).mono HB5.out.size))
        have HA6 := Aside0.mk (Kd.C_below HA5.out hb)
        clear KP5 HD5 HS5 HM5 HB5 HA5
        clear hb
        generalize w5.alloc (.cells #[.slice A3 0 c3, .slice A4 0 c4] 25 (0, 0)) = w6 at KP6 HD6 HS6 HM6 HB6 HA6 ⊢
        have LM2 := Aside0.mk (show l2.length ≤ 100 from by omega)
        clear d5'
        have b6 := Aside0.mk ((Below.refl w6.heap.size w6).alloc (Nat.le_refl _) (.cells #[] 5))
        go_wp2_with (first
          | (at_builtin; refine print_append_row (w0 := w6) w6.heap.size rfl (.tmp 58) (.tmp 59) 26 5 .u8 1 rfl Try.underlying26 info5 (by decide) (.slice (some ⟨w6.heap.size, 0, none⟩) 0 0) [] B Aa B.length na rfl rfl (own_empty15 w6) (Kd.reads_of_C (d := (0 : Int)) (Kd.C_below HA6.out b6.out)) b6.out (by simp) (by have := HL.out; simp; omega) ?_; intro va wa hoa hBa _ _; rw [List.nil_append] at hoa; obtain ⟨A5, n5, rfl, _, _⟩ := own_C (kd_R hoa))
          | (at_builtin; refine print_append_row (w0 := w6) w6.heap.size rfl (.tmp 60) (.tmp 61) 26 5 .u8 1 rfl Try.underlying26 info5 (by decide) (.slice A5 B.length n5) B l2 A2 l2.length c2 rfl rfl hoa (Kd.reads_of_C (d := (0 : Int)) (Kd.C_below HM6.out hBa)) hBa hBa.size (by have := HL.out; have := LM2.out; omega) ?_; intro vb w7 hob hX _ _; obtain ⟨A6, n6, rfl, hn6, hm6, _, hC6⟩ := held_own (kd_R hob)))
        have KP7 := Aside0.mk (vkeepB KP6.out hX)
        have HD7 := Aside0.mk (Kd.C_below HD6.out hX)
        have HS7 := Aside0.mk (Kd.C_below HS6.out hX)
        have HM7 := Aside0.mk (Kd.C_below HM6.out hX)
        have HB7 := Aside0.mk (HB6.out.trans ((hX).mono HB6.out.size))
        have HA7 := Aside0.mk (Kd.C_below HA6.out hX)
        clear KP6 HD6 HS6 HM6 HB6 HA6
        have hC6' := hC6
        clear hX hoa hBa hob hC6 b6
        refine (ldec15 (l := B ++ l2) (n := B.length + l2.length) (ls := []) (ss := []) (E := 5) (n1 := 0) (n2 := 0) (by rw [List.length_append]) H2.out rfl rfl A6 n6 w7 hC6' (by rw [List.length_append] at hn6; exact hn6) hm6 HU.out (by have := HL.out; have := LM2.out; omega)).mono ?_
        rintro e w8 ⟨A7, c7, A8, c8, rfl, _, _, _, _, hX⟩
        have KP8 := Aside0.mk (vkeepB KP7.out hX)
        have HD8 := Aside0.mk (Kd.C_below HD7.out hX)
        have HS8 := Aside0.mk (Kd.C_below HS7.out hX)
        have HM8 := Aside0.mk (Kd.C_below HM7.out hX)
        have HB8 := Aside0.mk (HB7.out.trans ((hX).mono HB7.out.size))
        have HA8 := Aside0.mk (Kd.C_below HA7.out hX)
        clear KP7 HD7 HS7 HM7 HB7 HA7
        clear hX hC6' hn6
        have hb := (Below.refl w8.heap.size w8).alloc (Nat.le_refl _) (.cells #[.slice A7 0 c7, .slice A8 0 c8] 25 (0, 0))
        go_upto_region 8 with fail
        have KP9 := Aside0.mk (vkeepB KP8.out hb)
        have HD9 := Aside0.mk (Kd.C_below HD8.out hb)
        have HS9 := Aside0.mk (Kd.C_below HS8.out hb)
        have HM9 := Aside0.mk (Kd.C_below HM8.out hb)
        have HB9 := Aside0.mk (HB8.out.trans ((hb).mono HB8.out.size))
        have HA9 := Aside0.mk (Kd.C_below HA8.out hb)
        clear KP8 HD8 HS8 HM8 HB8 HA8
        clear hb
        generalize w8.alloc (.cells #[.slice A7 0 c7, .slice A8 0 c8] 25 (0, 0)) = w9 at KP9 HD9 HS9 HM9 HB9 HA9 ⊢
        go_wp2_with fail
        go_ret
        exact ⟨rfl, HB9.out⟩
end Go.Proofs.Ytkdhcmmfklganaa.G
end

section
/- states of the first broker as bytes: what is laid is read, a part of it is short; plain laws -/
set_option linter.unusedVariables false
set_option autoImplicit false
namespace Go.Proofs.Ytkdhcmmfklganaa
open Go.RowKit Go.Proofs.YtkdhcmmfklganaaW.PrintWords Go.Proofs.YtkdhcmmfklganaaW.PrintLast Go.Proofs.Ytkdhcmmfklganaa.G

theorem good_rg : Pars.Good rgP := Pars.Good.bnd (Pars.Good.count 16) fun c => Pars.Good.bnd (Pars.Good.take c.toNat) fun t => Pars.Good.bnd (Pars.Good.num 4) fun lo => Pars.Good.bnd (Pars.Good.num 4) fun hi => Pars.Good.pure _
theorem good_sub : Pars.Good subP := Pars.Good.bnd (Pars.Good.num 2) fun id => Pars.Good.bnd (Pars.Good.num 2) fun fr => Pars.Good.bnd (Pars.Good.count 12) fun n => Pars.Good.bnd (Pars.Good.rep good_rg n.toNat) fun rs => Pars.Good.pure _
theorem good_f : Pars.Good fP := Pars.Good.bnd (Pars.Good.count 16) fun n => Pars.Good.bnd (Pars.Good.rep (Pars.Good.num 2) n.toNat) fun links => Pars.Good.bnd (Pars.Good.count 64) fun m => Pars.Good.bnd (Pars.Good.rep good_sub m.toNat) fun subs => Pars.Good.pure _
theorem take_len {a : List Int} (n : Nat) (ha : a.length = n) (r : List Int) : (⟨a ++ r, 0⟩ : Sc).take n = (a, ⟨r, 0⟩) := by
  subst ha
  unfold Sc.take
  rw [if_pos rfl, if_neg (by simp), List.take_left, List.drop_left]
theorem num_two (n : Int) (h : 0 ≤ n ∧ n ≤ 65535) (r : List Int) : (⟨twoB n ++ r, 0⟩ : Sc).num 2 = (n, ⟨r, 0⟩) := by
  unfold Sc.num
  rw [take_len 2 rfl]
  unfold twoB
  simp only [big]
  rw [show 256 * (256 * 0 + n / 256 % 256) + n % 256 = n by omega]
theorem num_four (n : Int) (h : -2147483648 ≤ n ∧ n ≤ 2147483647) (r : List Int) : ∃ m, (⟨fourB n ++ r, 0⟩ : Sc).num 4 = (m, ⟨r, 0⟩) ∧ sgn m = n := by
  unfold Sc.num
  rw [take_len 4 rfl]
  refine ⟨_, rfl, ?_⟩
  unfold fourB twoB sgn
  simp only [List.cons_append, List.nil_append, big]
  split
  · omega
  · omega
theorem count_one (n m : Int) (h : n ≤ m) (r : List Int) : (⟨[n] ++ r, 0⟩ : Sc).count m = (n, ⟨r, 0⟩) := by
  have e : (⟨[n] ++ r, 0⟩ : Sc).num 1 = (n, ⟨r, 0⟩) := by
    unfold Sc.num
    rw [take_len 1 rfl]
    simp only [big]
    rw [show 256 * 0 + n = n by omega]
  unfold Sc.count
  rw [e, if_neg (by omega)]
theorem str_bytes (b : ByteArray) : strOfNums (bytesOf b) = b := by
  unfold strOfNums bytesOf
  rw [List.map_map]
  have h : b.data.toList.map ((fun x : Int => UInt8.ofNat x.toNat) ∘ fun c => (c.toNat : Int)) = b.data.toList := by
    refine (List.map_congr_left (g := fun x => x) fun x _ => ?_).trans (List.map_id'' (fun _ => rfl) _)
    show UInt8.ofNat ((x.toNat : Int)).toNat = x
    rw [Int.toNat_natCast, UInt8.ofNat_toNat]
  first
    | (rw [h])
    | (simp only [h])
    | (apply ByteArray.ext; rw [h])
theorem rg_back (x : S46) (h : x.f0.size ≤ 16 ∧ (-2147483648 ≤ x.f1 ∧ x.f1 ≤ 2147483647) ∧ -2147483648 ≤ x.f2 ∧ x.f2 ≤ 2147483647) (r : List Int) : rgP ⟨rgL x ++ r, 0⟩ = (x, ⟨r, 0⟩) := by
  obtain ⟨a, b, c⟩ := x
  simp only at h
  obtain ⟨m1, e1, s1⟩ := num_four b h.2.1 (fourB c ++ r)
  obtain ⟨m2, e2, s2⟩ := num_four c h.2.2 r
  have h0 : rgL ⟨a, b, c⟩ ++ r = [(a.size : Int)] ++ (bytesOf a ++ (fourB b ++ (fourB c ++ r))) := by simp [rgL, List.append_assoc]
  unfold rgP Pars.bnd
  rw [h0]
  simp only
  rw [count_one _ 16 (by omega)]
  simp only
  rw [Int.toNat_natCast, take_len a.size (bytesOf_length a)]
  simp only
  rw [e1]
  simp only
  rw [e2]
  simp only
  rw [s1, s2, str_bytes]
theorem sub_back (x : S40) (h : (0 ≤ x.f0 ∧ x.f0 ≤ 65535) ∧ (0 ≤ x.f1 ∧ x.f1 ≤ 65535) ∧ x.f2.length ≤ 12 ∧ ∀ r ∈ x.f2, r.f0.size ≤ 16 ∧ (-2147483648 ≤ r.f1 ∧ r.f1 ≤ 2147483647) ∧ -2147483648 ≤ r.f2 ∧ r.f2 ≤ 2147483647) (r : List Int) : subP ⟨subL x ++ r, 0⟩ = (x, ⟨r, 0⟩) := by
  obtain ⟨a, b, c⟩ := x
  simp only at h
  have h0 : subL ⟨a, b, c⟩ ++ r = twoB a ++ (twoB b ++ ([(c.length : Int)] ++ (c.flatMap rgL ++ r))) := by simp [subL, List.append_assoc]
  unfold subP Pars.bnd
  rw [h0]
  simp only
  rw [num_two a h.1]
  simp only
  rw [num_two b h.2.1]
  simp only
  rw [count_one _ 12 (by omega)]
  simp only
  rw [Int.toNat_natCast, Pars.rep_back rgL c r (fun x hx r => rg_back x (h.2.2.2 x hx) r)]
def bodyL (links : List Int) (subs : List S40) : List Int := [(links.length : Int)] ++ links.flatMap twoB ++ [(subs.length : Int)] ++ subs.flatMap subL
theorem enc_body (links : List Int) (subs : List S40) : encL links subs = [82, 83, 84, 1] ++ bodyL links subs := by simp [encL, bodyL, List.append_assoc]
theorem f_back {links : List Int} {subs : List S40} (h : Fit links subs) (r : List Int) : fP ⟨bodyL links subs ++ r, 0⟩ = ((links, subs), ⟨r, 0⟩) := by
  have h0 : bodyL links subs ++ r = [(links.length : Int)] ++ (links.flatMap twoB ++ ([(subs.length : Int)] ++ (subs.flatMap subL ++ r))) := by simp [bodyL, List.append_assoc]
  have h1 := h.n1
  have h2 := h.n2
  unfold fP Pars.bnd
  rw [h0]
  simp only
  rw [count_one _ 16 (by omega)]
  simp only
  rw [Int.toNat_natCast, Pars.rep_back twoB links _ (fun x hx r => num_two x (h.lk x hx) r)]
  simp only
  rw [count_one _ 64 (by omega)]
  simp only
  rw [Int.toNat_natCast, Pars.rep_back subL subs r (fun x hx r => sub_back x (h.sb x hx) r)]
theorem dec_head (l : List Int) : dec15 ([82, 83, 84, 1] ++ l) = (if (fP ⟨l, 0⟩).2.endE ≠ 0 then (([], []), (fP ⟨l, 0⟩).2.endE) else if rightB (fP ⟨l, 0⟩).1.1 (fP ⟨l, 0⟩).1.2 = true then ((fP ⟨l, 0⟩).1, 0) else (([], []), 3)) := by
  unfold dec15
  rw [if_neg (by simp), if_neg (by simp), if_neg (by simp)]
  rfl
theorem dec_more {links : List Int} {subs : List S40} (h : Fit links subs) (r : List Int) (hr : 0 < r.length) : dec15 (encL links subs ++ r) = (([], []), 5) := by
  rw [enc_body, List.append_assoc, dec_head, f_back h]
  have e : (⟨r, 0⟩ : Sc).endE = 5 := by unfold Sc.endE; rw [if_pos ⟨rfl, hr⟩]
  simp only [e]
  rw [if_pos (by decide)]
theorem dec_cut {links : List Int} {subs : List S40} (h : Fit links subs) (c : Nat) (hc : c < (encL links subs).length) : dec15 ((encL links subs).take c) = (([], []), 2) := by
  by_cases h4 : c < 4
  · unfold dec15
    rw [if_pos (by rw [List.length_take]; omega)]
  · obtain ⟨d, rfl⟩ : ∃ d, c = 4 + d := ⟨c - 4, by omega⟩
    have hb := f_back h []
    rw [List.append_nil] at hb
    rw [enc_body, List.length_append] at hc
    have hc' : d < (bodyL links subs).length := by simp only [List.length_cons, List.length_nil] at hc; omega
    obtain ⟨c1, e1, _, k1⟩ := good_f.ok _ _ _ hb
    rw [List.append_nil] at e1
    have e2 := k1 ((bodyL links subs).take d) ((bodyL links subs).drop d) (by rw [← e1, List.take_append_drop]) (fun e => by have := congrArg List.length e; rw [List.length_drop] at this; simp at this; omega)
    rw [enc_body, List.take_append, List.take_of_length_le (show ([82, 83, 84, 1] : List Int).length ≤ 4 + d by simp), show 4 + d - ([82, 83, 84, 1] : List Int).length = d by simp, dec_head]
    have e3 : (fP ⟨(bodyL links subs).take d, 0⟩).2.endE = 2 := by
      unfold Sc.endE
      rw [if_neg (fun hh => by omega), e2]
    rw [e3, if_pos (by decide)]
theorem flat_len {α : Type} (f : α → List Int) (m : Nat) : ∀ (l : List α), (∀ x ∈ l, (f x).length ≤ m) → (l.flatMap f).length ≤ m * l.length := by
  intro l
  induction l with
  | nil => intro _; simp
  | cons x l ih =>
    intro h
    rw [List.flatMap_cons, List.length_append, List.length_cons, Nat.mul_add]
    have h1 := h x (by simp)
    have h2 := ih (fun y hy => h y (by simp [hy]))
    omega
theorem flat_u8s {α : Type} (f : α → List Int) (l : List α) (h : ∀ x ∈ l, u8s (f x)) : u8s (l.flatMap f) := by
  intro y hy
  obtain ⟨x, hx, hxy⟩ := List.mem_flatMap.1 hy
  exact h x hx y hxy
theorem u8s_one {n : Int} (h : 0 ≤ n ∧ n < 256) : u8s [n] := by
  intro x hx
  rw [List.mem_singleton] at hx
  subst hx
  exact h
theorem u8s_two (n : Int) : u8s (twoB n) := by
  intro x hx
  unfold twoB at hx
  simp only [List.mem_cons, List.not_mem_nil, or_false] at hx
  rcases hx with rfl | rfl <;> omega
theorem u8s_bytes (b : ByteArray) : u8s (bytesOf b) := by
  intro x hx
  unfold bytesOf at hx
  obtain ⟨c, _, rfl⟩ := List.mem_map.1 hx
  have := c.toNat_lt
  omega
theorem enc_u8s {links : List Int} {subs : List S40} (h : Fit links subs) : u8s (encL links subs) := by
  have h1 := h.n1
  have h2 := h.n2
  unfold encL
  refine u8s_append.2 ⟨u8s_append.2 ⟨u8s_append.2 ⟨u8s_append.2 ⟨by decide, u8s_one (by omega)⟩, flat_u8s _ _ fun x _ => u8s_two x⟩, u8s_one (by omega)⟩, flat_u8s _ _ fun x hx => ?_⟩
  have hs := h.sb x hx
  unfold subL
  refine u8s_append.2 ⟨u8s_append.2 ⟨u8s_append.2 ⟨u8s_two _, u8s_two _⟩, u8s_one (by omega)⟩, flat_u8s _ _ fun r hr => ?_⟩
  have hq := hs.2.2.2 r hr
  unfold rgL fourB
  exact u8s_append.2 ⟨u8s_append.2 ⟨u8s_append.2 ⟨u8s_one (by omega), u8s_bytes _⟩, u8s_append.2 ⟨u8s_two _, u8s_two _⟩⟩, u8s_append.2 ⟨u8s_two _, u8s_two _⟩⟩
theorem enc_len {links : List Int} {subs : List S40} (h : Fit links subs) : (encL links subs).length ≤ 40000 := by
  have h1 := h.n1
  have h2 := h.n2
  have a := flat_len twoB 2 links (fun x _ => by simp [twoB])
  have b := flat_len subL 305 subs (fun x hx => by
    have hs := h.sb x hx
    have c := flat_len rgL 25 x.f2 (fun r hr => by
      have := (hs.2.2.2 r hr).1
      unfold rgL fourB twoB
      simp only [List.length_append, List.length_cons, List.length_nil, bytesOf_length]
      omega)
    unfold subL twoB
    simp only [List.length_append, List.length_cons, List.length_nil]
    omega)
  unfold encL
  simp only [List.length_append, List.length_cons, List.length_nil]
  omega
/-- Few answers -/
theorem few_in (links : List Int) (subs : List S40) (hs : subs.length ≤ 4611686018427387904) (hr : ∀ x ∈ subs, x.f2.length ≤ 4611686018427387904) (i : Nat) (hi : i < subs.length) (x3 : Int)
    (h0 : ∃ k b, rosettelaw15_Few.l0 k x3 ((i + 1 : Nat) : Int) links subs = some b) : ∀ (d j : Nat), j + d = (rd_T40 subs (i : Int)).f2.length → ∃ k b, rosettelaw15_Few.l1 k x3 (i : Int) (j : Int) links subs = some b := by
  have hx : (rd_T40 subs (i : Int)).f2.length ≤ 4611686018427387904 := by
    have e : rd_T40 subs (i : Int) = subs[i] := by simp [rd_T40, List.getD_eq_getElem?_getD, hi]
    rw [e]
    exact hr _ (List.getElem_mem hi)
  intro d
  induction d with
  | zero =>
    intro j hj
    obtain ⟨k, b, h⟩ := h0
    refine ⟨k + 1, b, ?_⟩
    simp only [rosettelaw15_Few.l1]
    rw [if_pos (by omega), if_pos (by omega), if_neg (by omega), show wrap64 ((i : Int) + 1) = ((i + 1 : Nat) : Int) by unfold wrap64; omega]
    exact h
  | succ d ih =>
    intro j hj
    obtain ⟨k, b, h⟩ := ih (j + 1) (by omega)
    by_cases hq : ((rd_T46 ((rd_T40 subs (i : Int)).f2) (j : Int)).f0.size : Int) > 100
    · refine ⟨k + 1, false, ?_⟩
      simp only [rosettelaw15_Few.l1]
      rw [if_pos (by omega), if_pos (by omega), if_pos (by omega), if_pos (by omega), if_pos hq]
    · refine ⟨k + 1, b, ?_⟩
      simp only [rosettelaw15_Few.l1]
      rw [if_pos (by omega), if_pos (by omega), if_pos (by omega), if_pos (by omega), if_neg hq, show wrap64 ((j : Int) + 1) = ((j + 1 : Nat) : Int) by unfold wrap64; omega]
      exact h
theorem few_out (links : List Int) (subs : List S40) (hs : subs.length ≤ 4611686018427387904) (hr : ∀ x ∈ subs, x.f2.length ≤ 4611686018427387904) : ∀ (d i : Nat), i + d = subs.length → ∀ x3 : Int, ∃ k b, rosettelaw15_Few.l0 k x3 (i : Int) links subs = some b := by
  intro d
  induction d with
  | zero =>
    intro i hi x3
    refine ⟨1, decide (x3 ≤ 300), ?_⟩
    simp only [rosettelaw15_Few.l0]
    rw [if_neg (by omega)]
  | succ d ih =>
    intro i hi x3
    obtain ⟨k, b, h⟩ := few_in links subs hs hr i (by omega) (wrap64 (x3 + (((rd_T40 subs (i : Int)).f2).length : Int))) (ih (i + 1) (by omega) _) (rd_T40 subs (i : Int)).f2.length 0 (by omega)
    refine ⟨k + 1, b, ?_⟩
    simp only [rosettelaw15_Few.l0]
    rw [if_pos (by omega), if_pos (by omega)]
    exact h
theorem few_some (links : List Int) (subs : List S40) (hs : subs.length ≤ 4611686018427387904) (hr : ∀ x ∈ subs, x.f2.length ≤ 4611686018427387904) : ∃ k b, rosettelaw15_Few.f k links subs = some b := few_out links subs hs hr subs.length 0 (by omega) _
end Go.Proofs.Ytkdhcmmfklganaa
end

section
/- states of the first broker as bytes: what is read was laid so; a state is the same as itself; plain laws -/
set_option linter.unusedVariables false
set_option autoImplicit false
namespace Go.Proofs.Ytkdhcmmfklganaa
open Go.RowKit Go.Proofs.YtkdhcmmfklganaaW.PrintWords Go.Proofs.YtkdhcmmfklganaaW.PrintLast Go.Proofs.Ytkdhcmmfklganaa.G

theorem bnd_ok {α β : Type} {P : Sc → α × Sc} {Q : α → Sc → β × Sc} (hQ : ∀ a, Pars.Good (Q a)) {l : List Int} {v : β} {r : List Int} (h : Pars.bnd P Q ⟨l, 0⟩ = (v, ⟨r, 0⟩)) : ∃ a r1, P ⟨l, 0⟩ = (a, ⟨r1, 0⟩) ∧ Q a ⟨r1, 0⟩ = (v, ⟨r, 0⟩) := by
  unfold Pars.bnd at h
  obtain ⟨⟨a, s1⟩, h1⟩ : ∃ p, P ⟨l, 0⟩ = p := ⟨_, rfl⟩
  rw [h1] at h
  simp only at h
  have e1 : s1.e = 0 := Classical.byContradiction fun he => by
    have := (hQ a).err s1 he
    rw [h] at this
    rw [← this] at he
    exact he rfl
  have es := Pars.eta0 s1 e1
  rw [es] at h h1
  exact ⟨a, s1.l, h1, h⟩
theorem take_once {l t r : List Int} {n : Nat} (h : (⟨l, 0⟩ : Sc).take n = (t, ⟨r, 0⟩)) : l = t ++ r ∧ t.length = n := by
  unfold Sc.take at h
  rw [if_pos rfl] at h
  split at h
  · obtain ⟨_, h⟩ := Prod.mk.inj h
    cases h
  · rename_i hlt
    have hlt' : ¬ l.length < n := hlt
    obtain ⟨hv, hr⟩ := Prod.mk.inj h
    have hr := congrArg Sc.l hr
    simp only at hv hr
    subst hv
    subst hr
    exact ⟨(List.take_append_drop n l).symm, by rw [List.length_take]; omega⟩
theorem num_once {l r : List Int} {n : Int} {k : Nat} (h : (⟨l, 0⟩ : Sc).num k = (n, ⟨r, 0⟩)) : ∃ t, l = t ++ r ∧ t.length = k ∧ n = big t 0 := by
  unfold Sc.num at h
  obtain ⟨h1, h2⟩ := Prod.mk.inj h
  obtain ⟨a, b⟩ := take_once (l := l) (t := ((⟨l, 0⟩ : Sc).take k).1) (r := r) (n := k) (by rw [← h2])
  exact ⟨_, a, b, h1.symm⟩
theorem two_once {l r : List Int} {n : Int} (hu : u8s l) (h : (⟨l, 0⟩ : Sc).num 2 = (n, ⟨r, 0⟩)) : l = twoB n ++ r := by
  obtain ⟨t, rfl, ht, hn⟩ := num_once h
  match t, ht with
  | [a, b], _ =>
    have ha := hu a (by simp)
    have hb := hu b (by simp)
    simp only [big] at hn
    unfold twoB
    rw [show n / 256 % 256 = a by omega, show n % 256 = b by omega]
theorem four_once {l r : List Int} {n : Int} (hu : u8s l) (h : (⟨l, 0⟩ : Sc).num 4 = (n, ⟨r, 0⟩)) : l = fourB (sgn n) ++ r := by
  obtain ⟨t, rfl, ht, hn⟩ := num_once h
  match t, ht with
  | [a, b, c, d], _ =>
    have ha := hu a (by simp)
    have hb := hu b (by simp)
    have hc := hu c (by simp)
    have hd := hu d (by simp)
    simp only [big] at hn
    have e : sgn n / 65536 / 256 % 256 = a ∧ sgn n / 65536 % 256 = b ∧ sgn n / 256 % 256 = c ∧ sgn n % 256 = d := by
      unfold sgn
      split <;> omega
    unfold fourB twoB
    rw [e.1, e.2.1, e.2.2.1, e.2.2.2]
    rfl
theorem count_once {l r : List Int} {n m : Int} (hu : u8s l) (h : (⟨l, 0⟩ : Sc).count m = (n, ⟨r, 0⟩)) : l = [n] ++ r ∧ 0 ≤ n := by
  unfold Sc.count at h
  split at h
  · obtain ⟨_, h⟩ := Prod.mk.inj h
    unfold Sc.fail at h
    split at h
    · cases h
    · rename_i he
      rw [h] at he
      exact absurd rfl he
  · obtain ⟨t, rfl, ht, hn⟩ := num_once h
    match t, ht with
    | [a], _ =>
      have ha := hu a (by simp)
      simp only [big] at hn
      obtain rfl : n = a := by omega
      exact ⟨rfl, ha.1⟩
theorem u8s_right {a b : List Int} (h : u8s (a ++ b)) : u8s b := (u8s_append.1 h).2
theorem u8s_left {a b : List Int} (h : u8s (a ++ b)) : u8s a := (u8s_append.1 h).1
theorem bytes_str {t : List Int} (h : u8s t) : bytesOf (strOfNums t) = t := by
  unfold strOfNums bytesOf
  simp only [List.map_map]
  refine (List.map_congr_left (g := fun x => x) fun x hx => ?_).trans (List.map_id'' (fun _ => rfl) t)
  show ((UInt8.ofNat x.toNat).toNat : Int) = x
  have := h x hx
  rw [UInt8.toNat_ofNat']
  omega
theorem rg_once (l : List Int) (x : S46) (r : List Int) (hu : u8s l) (h : rgP ⟨l, 0⟩ = (x, ⟨r, 0⟩)) : l = rgL x ++ r := by
  unfold rgP at h
  obtain ⟨c, r1, h1, h⟩ := bnd_ok (by exact fun c => Pars.Good.bnd (Pars.Good.take c.toNat) fun t => Pars.Good.bnd (Pars.Good.num 4) fun lo => Pars.Good.bnd (Pars.Good.num 4) fun hi => Pars.Good.pure _) h
  obtain ⟨t, r2, h2, h⟩ := bnd_ok (by exact fun t => Pars.Good.bnd (Pars.Good.num 4) fun lo => Pars.Good.bnd (Pars.Good.num 4) fun hi => Pars.Good.pure _) h
  obtain ⟨lo, r3, h3, h⟩ := bnd_ok (by exact fun lo => Pars.Good.bnd (Pars.Good.num 4) fun hi => Pars.Good.pure _) h
  obtain ⟨hi, r4, h4, h⟩ := bnd_ok (by exact fun hi => Pars.Good.pure _) h
  obtain ⟨rfl, h⟩ := Prod.mk.inj h
  cases h
  obtain ⟨rfl, hc⟩ := count_once hu h1
  have hu1 := u8s_right hu
  obtain ⟨rfl, ht⟩ := take_once h2
  have hu2 := u8s_right hu1
  have e3 := four_once hu2 h3
  subst e3
  have e4 := four_once (u8s_right hu2) h4
  subst e4
  have hb := bytes_str (u8s_left hu1)
  have hs : ((strOfNums t).size : Int) = c := by rw [← bytesOf_length, hb, ht]; omega
  unfold rgL
  simp only
  rw [hb, hs]
  simp [List.append_assoc]
theorem sub_once (l : List Int) (x : S40) (r : List Int) (hu : u8s l) (h : subP ⟨l, 0⟩ = (x, ⟨r, 0⟩)) : l = subL x ++ r := by
  unfold subP at h
  obtain ⟨a, r1, h1, h⟩ := bnd_ok (by exact fun a => Pars.Good.bnd (Pars.Good.num 2) fun fr => Pars.Good.bnd (Pars.Good.count 12) fun n => Pars.Good.bnd (Pars.Good.rep good_rg n.toNat) fun rs => Pars.Good.pure _) h
  obtain ⟨b, r2, h2, h⟩ := bnd_ok (by exact fun fr => Pars.Good.bnd (Pars.Good.count 12) fun n => Pars.Good.bnd (Pars.Good.rep good_rg n.toNat) fun rs => Pars.Good.pure _) h
  obtain ⟨n, r3, h3, h⟩ := bnd_ok (by exact fun n => Pars.Good.bnd (Pars.Good.rep good_rg n.toNat) fun rs => Pars.Good.pure _) h
  obtain ⟨rs, r4, h4, h⟩ := bnd_ok (by exact fun rs => Pars.Good.pure _) h
  obtain ⟨rfl, h⟩ := Prod.mk.inj h
  cases h
  have e1 := two_once hu h1
  subst e1
  have hu1 := u8s_right hu
  have e2 := two_once hu1 h2
  subst e2
  have hu2 := u8s_right hu1
  obtain ⟨rfl, hn⟩ := count_once hu2 h3
  have hu3 := u8s_right hu2
  obtain ⟨e4, e5⟩ := Pars.rep_once good_rg rgL u8s (fun _ _ => u8s_right) rg_once n.toNat _ _ _ hu3 h4
  subst e5
  unfold subL
  simp only
  rw [show (rs.length : Int) = n by omega]
  simp [List.append_assoc]
theorem f_once {l r : List Int} {links : List Int} {subs : List S40} (hu : u8s l) (h : fP ⟨l, 0⟩ = ((links, subs), ⟨r, 0⟩)) : l = bodyL links subs ++ r := by
  unfold fP at h
  obtain ⟨n, r1, h1, h⟩ := bnd_ok (by exact fun n => Pars.Good.bnd (Pars.Good.rep (Pars.Good.num 2) n.toNat) fun links => Pars.Good.bnd (Pars.Good.count 64) fun m => Pars.Good.bnd (Pars.Good.rep good_sub m.toNat) fun subs => Pars.Good.pure _) h
  obtain ⟨lk, r2, h2, h⟩ := bnd_ok (by exact fun links => Pars.Good.bnd (Pars.Good.count 64) fun m => Pars.Good.bnd (Pars.Good.rep good_sub m.toNat) fun subs => Pars.Good.pure _) h
  obtain ⟨m, r3, h3, h⟩ := bnd_ok (by exact fun m => Pars.Good.bnd (Pars.Good.rep good_sub m.toNat) fun subs => Pars.Good.pure _) h
  obtain ⟨sb, r4, h4, h⟩ := bnd_ok (by exact fun subs => Pars.Good.pure _) h
  obtain ⟨hh, h⟩ := Prod.mk.inj h
  obtain ⟨rfl, rfl⟩ := Prod.mk.inj hh
  cases h
  obtain ⟨rfl, hn⟩ := count_once hu h1
  have hu1 := u8s_right hu
  obtain ⟨e2, e3⟩ := Pars.rep_once (Pars.Good.num 2) twoB u8s (fun _ _ => u8s_right) (fun l v r hl h => two_once hl h) n.toNat _ _ _ hu1 h2
  subst e3
  have hu2 := u8s_right hu1
  obtain ⟨rfl, hm⟩ := count_once hu2 h3
  have hu3 := u8s_right hu2
  obtain ⟨e4, e5⟩ := Pars.rep_once good_sub subL u8s (fun _ _ => u8s_right) sub_once m.toNat _ _ _ hu3 h4
  subst e5
  unfold bodyL
  rw [show (lk.length : Int) = n by omega, show (sb.length : Int) = m by omega]
  simp [List.append_assoc]
theorem dec_back {links : List Int} {subs : List S40} (hr : rightB links subs = true) : dec15 (encL links subs) = ((links, subs), 0) := by
  have hb := f_back (fit_of hr) []
  rw [List.append_nil] at hb
  rw [enc_body, dec_head, hb]
  have e : (⟨[], 0⟩ : Sc).endE = 0 := rfl
  simp only [e]
  rw [if_neg (by decide), if_pos hr]
theorem dec_bad {l : List Int} (h : (dec15 l).2 ≠ 0) : (dec15 l).1 = ([], []) := by
  unfold dec15 at h ⊢
  repeat' split
  all_goals first | rfl | (simp_all)
theorem dec_once {l : List Int} (hu : u8s l) (h : (dec15 l).2 = 0) : rightB (dec15 l).1.1 (dec15 l).1.2 = true ∧ encL (dec15 l).1.1 (dec15 l).1.2 = l := by
  by_cases h1 : l.length < 4
  · unfold dec15 at h
    rw [if_pos h1] at h
    cases h
  by_cases h2 : l.take 3 ≠ [82, 83, 84]
  · unfold dec15 at h
    rw [if_neg h1, if_pos h2] at h
    cases h
  by_cases h3 : l.take 4 ≠ [82, 83, 84, 1]
  · unfold dec15 at h
    rw [if_neg h1, if_neg h2, if_pos h3] at h
    cases h
  have h3' : l.take 4 = [82, 83, 84, 1] := Classical.byContradiction h3
  have hl : l = [82, 83, 84, 1] ++ l.drop 4 := by rw [← h3', List.take_append_drop]
  have hu' : u8s (l.drop 4) := u8s_drop hu 4
  generalize l.drop 4 = m at hl hu'
  subst hl
  rw [dec_head] at h ⊢
  obtain ⟨⟨⟨lk, sb⟩, s⟩, hf⟩ : ∃ p, fP ⟨m, 0⟩ = p := ⟨_, rfl⟩
  rw [hf] at h ⊢
  simp only at h ⊢
  by_cases he : s.endE ≠ 0
  · rw [if_pos he] at h
    exact absurd h he
  · have he' : s.endE = 0 := Classical.byContradiction he
    rw [if_neg he] at h ⊢
    by_cases hr : rightB lk sb = true
    · rw [if_pos hr]
      refine ⟨hr, ?_⟩
      unfold Sc.endE at he'
      split at he'
      · cases he'
      · rename_i hn
        have hs0 : s.l = [] := by
          cases hsl : s.l with
          | nil => rfl
          | cons a b => exact absurd ⟨he', by rw [hsl]; simp⟩ hn
        have hs : s = ⟨[], 0⟩ := by cases s; simp only at he' hs0; rw [he', hs0]
        rw [hs] at hf
        have := f_once hu' hf
        rw [List.append_nil] at this
        rw [enc_body, ← this]
    · rw [if_neg hr] at h
      cases h
/-- a state is the same as itself -/
theorem ints_self (l : List Int) (hl : l.length ≤ 4611686018427387904) : ∀ (d k i : Nat), i + d = l.length → d < k → rosetteref11_Ints.l0 k l l (i : Int) = some true := by
  intro d
  induction d with
  | zero =>
    intro k i hi hk
    obtain ⟨k, rfl⟩ : ∃ m, k = m + 1 := ⟨k - 1, by omega⟩
    simp only [rosetteref11_Ints.l0]
    rw [if_neg (by omega)]
  | succ d ih =>
    intro k i hi hk
    obtain ⟨k, rfl⟩ : ∃ m, k = m + 1 := ⟨k - 1, by omega⟩
    simp only [rosetteref11_Ints.l0]
    rw [if_pos (by omega), if_pos (by omega), if_pos (by omega), if_pos trivial, show wrap64 ((i : Int) + 1) = ((i + 1 : Nat) : Int) by unfold wrap64; omega]
    exact ih k (i + 1) (by omega) (by omega)
theorem same_in (l : List Int) (s : List S40) (hs : s.length ≤ 4611686018427387904) (i : Nat) (hi : i < s.length) (f0 f1 : Int) (f2 : List S46) (hf : f2.length ≤ 4611686018427387904)
    (h0 : ∃ K, ∀ k, K ≤ k → rosetteref15_Same.l0 k ((i + 1 : Nat) : Int) l s l s = some true) : ∀ (d j : Nat), j + d = f2.length → ∃ K, ∀ k, K ≤ k → rosetteref15_Same.l1 k (i : Int) (j : Int) l s l s f0 f1 f2 f0 f1 f2 = some true := by
  intro d
  induction d with
  | zero =>
    intro j hj
    obtain ⟨K, h⟩ := h0
    refine ⟨K + 1, fun k hk => ?_⟩
    obtain ⟨k, rfl⟩ : ∃ m, k = m + 1 := ⟨k - 1, by omega⟩
    simp only [rosetteref15_Same.l1]
    rw [if_neg (by omega), show wrap64 ((i : Int) + 1) = ((i + 1 : Nat) : Int) by unfold wrap64; omega]
    exact h k (by omega)
  | succ d ih =>
    intro j hj
    obtain ⟨K, h⟩ := ih (j + 1) (by omega)
    refine ⟨K + 1, fun k hk => ?_⟩
    obtain ⟨k, rfl⟩ : ∃ m, k = m + 1 := ⟨k - 1, by omega⟩
    simp only [rosetteref15_Same.l1]
    rw [if_pos (by omega), if_pos (by omega), if_pos (by omega), if_neg (by simp), show wrap64 ((j : Int) + 1) = ((j + 1 : Nat) : Int) by unfold wrap64; omega]
    exact h k (by omega)
theorem same_out (l : List Int) (s : List S40) (hs : s.length ≤ 4611686018427387904) (hr : ∀ x ∈ s, x.f2.length ≤ 4611686018427387904) : ∀ (d i : Nat), i + d = s.length → ∃ K, ∀ k, K ≤ k → rosetteref15_Same.l0 k (i : Int) l s l s = some true := by
  intro d
  induction d with
  | zero =>
    intro i hi
    refine ⟨1, fun k hk => ?_⟩
    obtain ⟨k, rfl⟩ : ∃ m, k = m + 1 := ⟨k - 1, by omega⟩
    simp only [rosetteref15_Same.l0]
    rw [if_neg (by omega)]
  | succ d ih =>
    intro i hi
    have hi' : i < s.length := by omega
    have e : rd_T40 s (i : Int) = s[i] := by simp [rd_T40, List.getD_eq_getElem?_getD, hi']
    obtain ⟨K, h⟩ := same_in l s hs i hi' (rd_T40 s (i : Int)).f0 (rd_T40 s (i : Int)).f1 (rd_T40 s (i : Int)).f2 (by rw [e]; exact hr _ (List.getElem_mem hi')) (ih (i + 1) (by omega)) (rd_T40 s (i : Int)).f2.length 0 (by omega)
    refine ⟨K + 2, fun k hk => ?_⟩
    obtain ⟨k, rfl⟩ : ∃ m, k = m + 2 := ⟨k - 2, by omega⟩
    have c1 : (i : Int) < (s.length : Int) := by omega
    have c2 : (0 : Int) ≤ (i : Int) := by omega
    simp only [rosetteref15_Same.l0, rosetteref15_Same.j2, c1, c2, if_true, bne_self_eq_false, Bool.false_eq_true, if_false]
    exact h k (by omega)
theorem same_self (l : List Int) (s : List S40) (hl : l.length ≤ 4611686018427387904) (hs : s.length ≤ 4611686018427387904) (hr : ∀ x ∈ s, x.f2.length ≤ 4611686018427387904) : ∃ K, ∀ k, K ≤ k → rosetteref15_Same.f k l s l s = some true := by
  obtain ⟨K, h⟩ := same_out l s hs hr s.length 0 (by omega)
  refine ⟨K + l.length + 2, fun k hk => ?_⟩
  have hi : rosetteref11_Ints.f k l l = some true := by
    unfold rosetteref11_Ints.f
    rw [if_pos rfl]
    exact ints_self l hl l.length k 0 (by omega) (by omega)
  unfold rosetteref15_Same.f
  rw [hi, Option.bind_some, if_pos rfl]
  obtain ⟨k, rfl⟩ : ∃ m, k = m + 1 := ⟨k - 1, by omega⟩
  simp only [rosetteref15_Same.j0]
  rw [if_neg (by simp)]
  exact h k (by omega)
theorem fuel_up {α : Type} {f : Nat → Option α} (h : ∀ k, LeO (f k) (f (k + 1))) {k : Nat} {b : α} (hb : f k = some b) : ∀ d, f (k + d) = some b := by
  intro d
  induction d with
  | zero => exact hb
  | succ d ih => exact h _ _ ih
end Go.Proofs.Ytkdhcmmfklganaa
end

section
-- Written by a program of this session (wip/tools/myprint.py), over the kit's print.
namespace Go.Proofs.Ytkdhcmmfklganaa.G
open Go.RowKit Go.Proofs.YtkdhcmmfklganaaW.PrintWords Go.Proofs.YtkdhcmmfklganaaW.PrintLast Go.Proofs.YtkdhcmmfklganaaW.PrintMore
attribute [local go_sem] max2_int min2_int max_two min_two max_three min_three max_four min_four   -- for this text's walks alone
set_option linter.unusedVariables false
set_option linter.unusedSimpArgs false

/-! ### rosetteref05_Get: function 42 -/
def rosetteref05_Get.l0 : Nat → List (S50) → ByteArray → Int → Option (Int × Int × ByteArray × Bool)
  | 0, _, _, _ => none
  | k + 1, x0, x1, x6 => if x6 < (x0.length : Int) then (if 0 ≤ x6 then (if ((rd_T50 x0 x6).f0).toList = x1.toList then (some ((rd_T50 x0 x6).f1.f0, (rd_T50 x0 x6).f1.f1, (rd_T50 x0 x6).f1.f2, true)) else (rosetteref05_Get.l0 k x0 x1 (wrap64 (x6 + 1)))) else (none)) else (some (0, 0, (⟨#[]⟩ : ByteArray), false))
def rosetteref05_Get.f (k : Nat) (l0 : List (S50)) (a1 : ByteArray) : Option (Int × Int × ByteArray × Bool) := rosetteref05_Get.l0 k l0 a1 0
theorem rosetteref05_Get.mono_l : ∀ k, (∀ y0 y1 y2, LeO (rosetteref05_Get.l0 k y0 y1 y2) (rosetteref05_Get.l0 (k + 1) y0 y1 y2))
  | 0 => fun _ _ _ r h => by simp [rosetteref05_Get.l0] at h
  | k + 1 => by
    have ih0 := rosetteref05_Get.mono_l k
    · intro y0 y1 y2
      unfold rosetteref05_Get.l0
      repeat' first
      | (with_reducible exact ih0 _ _ _)
      | (with_reducible exact LeO.refl _)
      | (with_reducible exact LeO.none _)
      | (with_reducible refine LeO.ite ?_ ?_)
      | (with_reducible refine LeO.bind ?_ (fun _ => ?_))
      | exact ih0 _ _ _
      | exact LeO.none _
      | refine LeO.ite ?_ ?_
      | refine LeO.bind ?_ (fun _ => ?_)
theorem rosetteref05_Get.mono : ∀ a0 a1 k, LeO (rosetteref05_Get.f k a0 a1) (rosetteref05_Get.f (k + 1) a0 a1) := by
  intro a0 a1 k
  have ih0 := rosetteref05_Get.mono_l k
  unfold rosetteref05_Get.f
  repeat' first
      | (with_reducible exact ih0 _ _ _)
      | (with_reducible exact LeO.refl _)
      | (with_reducible exact LeO.none _)
      | (with_reducible refine LeO.ite ?_ ?_)
      | (with_reducible refine LeO.bind ?_ (fun _ => ?_))
      | exact ih0 _ _ _
      | exact LeO.none _
      | refine LeO.ite ?_ ?_
      | refine LeO.bind ?_ (fun _ => ?_)
set_option maxHeartbeats 8000000 in
set_option maxRecDepth 100000 in
theorem rosetteref05_Get.calls (k : Nat) (A0 : Option Addr) (c0 : Nat) (l0 : List (S50)) (a1 : ByteArray) (r1 : Int) (r2 : Int) (r3 : ByteArray) (r4 : Bool) (w : World) (hr0 : Kd.C k50 w A0 l0.length l0) (hc0 : l0.length ≤ c0) (h : rosetteref05_Get.f k l0 a1 = some (r1, r2, r3, r4)) :
    Calls Try.prog 42 #[.slice A0 l0.length c0, .string a1] w fun e w' => e = .returned (.tuple #[.agg #[.int .i64 r1, .int .i64 r2, .string r3], .bool r4]) ∧ Below w.heap.size w w' := by
  have hu48 := Try.underlying48
  have HR0 := Aside0.mk hr0
  have HC0 := Aside0.mk hc0
  clear hr0 hc0
  have HB := Aside0.mk (Below.refl w.heap.size w)
  have H : (rosetteref05_Get.l0 k l0 a1 0) = some (r1, r2, r3, r4) := h
  clear h
  have H' := Aside0.mk H
  clear H
  go_enter Try.func42, Try.ntmps42
  go_wp2_with (first | ((with_reducible refine gate_dst (N := 4) rfl ?_); refine box_event ?hg (N := 4) ?hd (cs := #[.int .i64 0, .int .i64 0, .string (⟨#[]⟩ : ByteArray)]) (t := 48) ?hr ?_; (case hd => rfl); (case hg => rfl); (case hr => first | (go_simp; done) | (go_simp; rfl)); intro gb229 hg w3 hbox hb; have n0_ := Aside0.mk (below_step (by repeat (first | (with_reducible first | exact HB.out | apply below_alloc | apply pw_below_drewN | apply below_drew1) | exact HB.out)) hb); have n1_ := Aside0.mk (hbox); have n2_ := Aside0.mk ((by rw [hg]; exact (below_size (by repeat (first | (with_reducible first | exact HB.out | apply below_alloc | apply pw_below_drewN | apply below_drew1) | exact HB.out))) : w.heap.size ≤ gb229)); have n3_ := Aside0.mk ((by rw [hg]; exact (below_size (by repeat (first | (with_reducible first | exact HB.out | apply below_alloc | apply pw_below_drewN | apply below_drew1) | exact HB.out))) : w.heap.size ≤ gb229)); clear HB; have HB := n0_; have BK229 := n1_; have GW229 := n2_; have GE229 := n3_; clear n0_ n1_ n2_ n3_; clear hb hbox hg))
  go_loopg [6] k (fun kq v6 w' => ∃ (x6_1 : Int) (x230000_1 : Int) (x230001_1 : Int) (x230002_1 : ByteArray), v6 = .int .i64 x6_1 ∧ Aside0 (rosetteref05_Get.l0 kq l0 a1 x6_1 = some (r1, r2, r3, r4)) ∧ Aside0 (kq ≤ k) ∧ Aside0 (w'.heap[gb229]? = some (.cells #[.int .i64 x230000_1, .int .i64 x230001_1, .string x230002_1] 48 (0, 0))) ∧ Aside0 (Below w.heap.size w w'))
  case atStart => exact ⟨(0), (0), (0), ((⟨#[]⟩ : ByteArray)), (by first | rfl | (simp; done) | (simp [*]; done)), H', ⟨Nat.le_refl _⟩, ⟨by (with_reducible repeat (first | refine blk_drewN ?_ _ | refine blk_drew ?_ | refine blk_alloc ?_ _)); exact BK229.out⟩, ⟨by repeat (first | (with_reducible first | exact HB.out | apply below_alloc | apply pw_below_drewN | apply below_drew1 | refine below_set ?_ GE229.out) | exact HB.out)⟩⟩
  case round =>
    clear H'
    try clear p2
    obtain ⟨x6_1, x230000_1, x230001_1, x230002_1, rfl, HA, HK1, BK229, HB⟩ := hrel
    cases gk with
    | zero => exact absurd HA.out (by simp [rosetteref05_Get.l0])
    | succ k1 =>
      have H := HA.out
      clear HA
      simp only [rosetteref05_Get.l0] at H
      by_cases c4 : x6_1 < (l0.length : Int)
      · rw [if_pos c4] at H
        have c4b0 : decide (x6_1 < (l0.length : Int)) = true := decide_eq_true c4
        clear c4
        by_cases c5 : 0 ≤ x6_1
        · rw [if_pos c5] at H
          have c5b0 : decide (0 ≤ x6_1) = true := decide_eq_true c5
          clear c5
          by_cases c6 : ((rd_T50 l0 x6_1).f0).toList = a1.toList
          · rw [if_pos c6] at H
            have c6b0 : (((rd_T50 l0 x6_1).f0).toList == a1.toList) = true := beq_iff_eq.mpr c6
            have c6b1 : (((rd_T50 l0 x6_1).f0).toList != a1.toList) = false := bne_eq_false_iff_eq.mpr c6
            clear c6
            simp only [Option.some.injEq, Prod.mk.injEq] at H
            obtain ⟨rfl, rfl, rfl, rfl⟩ := H
            have p230 : 0 ≤ (x6_1 : Int) := of_decide_eq_true (by first | (with_reducible assumption) | assumption)
            have q230 : x6_1 < (l0.length : Int) := of_decide_eq_true (by first | (with_reducible assumption) | assumption)
            obtain ⟨ad230, e230, hx230_0, hx230_1, hx230_2, hx230_3⟩ := at_T50 HR0.out x6_1 p230 q230
            cases e230
            replace hx230_0 := (HB.out.cell (World.block_lt_of_cell? w _ hx230_0)).trans hx230_0
            replace hx230_1 := (HB.out.cell (World.block_lt_of_cell? w _ hx230_1)).trans hx230_1
            replace hx230_2 := (HB.out.cell (World.block_lt_of_cell? w _ hx230_2)).trans hx230_2
            replace hx230_3 := (HB.out.cell (World.block_lt_of_cell? w _ hx230_3)).trans hx230_3
            replace p230 := eq_true p230
            replace q230 := eq_true q230
            have p231 : 0 ≤ (x6_1 : Int) := of_decide_eq_true (by first | (with_reducible assumption) | assumption)
            have q231 : x6_1 < (l0.length : Int) := of_decide_eq_true (by first | (with_reducible assumption) | assumption)
            obtain ⟨ad231, e231, hx231_0, hx231_1, hx231_2, hx231_3⟩ := at_T50 HR0.out x6_1 p231 q231
            obtain rfl : ad230 = ad231 := (by injection e231)
            replace hx231_0 := (HB.out.cell (World.block_lt_of_cell? w _ hx231_0)).trans hx231_0
            replace hx231_1 := (HB.out.cell (World.block_lt_of_cell? w _ hx231_1)).trans hx231_1
            replace hx231_2 := (HB.out.cell (World.block_lt_of_cell? w _ hx231_2)).trans hx231_2
            replace hx231_3 := (HB.out.cell (World.block_lt_of_cell? w _ hx231_3)).trans hx231_3
            replace p231 := eq_true p231
            replace q231 := eq_true q231
            have hcz7_0 : wr.cell? ⟨gb229, 0, none⟩ = some (.int .i64 x230000_1) := (blk_cell BK229.out 0).trans rfl
            have hcz7_1 : wr.cell? ⟨gb229, 1, none⟩ = some (.int .i64 x230001_1) := (blk_cell BK229.out 1).trans rfl
            have hcz7_2 : wr.cell? ⟨gb229, 2, none⟩ = some (.string x230002_1) := (blk_cell BK229.out 2).trans rfl
            have hfz7_0 := blk_frozen BK229.out 0
            have hfz7_1 := blk_frozen BK229.out 1
            have hfz7_2 := blk_frozen BK229.out 2
            go_wp2
            refine bodyPost_ret (results_ct rfl _ _ gb229 48 #[.int .i64 ((rd_T50 l0 x6_1).f1.f0), .int .i64 ((rd_T50 l0 x6_1).f1.f1), .string ((rd_T50 l0 x6_1).f1.f2)] (0, 0) _ rfl (by (with_reducible repeat (first | refine blk_drewN ?_ _ | refine blk_drew ?_ | refine blk_alloc ?_ _)); refine blk_put (cs := #[.int .i64 ((rd_T50 l0 x6_1).f1.f0), .int .i64 ((rd_T50 l0 x6_1).f1.f1), .string x230002_1]) ?_ 2 _ rfl; (with_reducible repeat (first | refine blk_drewN ?_ _ | refine blk_drew ?_ | refine blk_alloc ?_ _)); refine blk_put (cs := #[.int .i64 ((rd_T50 l0 x6_1).f1.f0), .int .i64 x230001_1, .string x230002_1]) ?_ 1 _ rfl; (with_reducible repeat (first | refine blk_drewN ?_ _ | refine blk_drew ?_ | refine blk_alloc ?_ _)); refine blk_put (cs := #[.int .i64 x230000_1, .int .i64 x230001_1, .string x230002_1]) ?_ 0 _ rfl; (with_reducible repeat (first | refine blk_drewN ?_ _ | refine blk_drew ?_ | refine blk_alloc ?_ _)); exact BK229.out) Try.underlying48 rfl (by kernel_rfl)) rfl ?_
            exact ⟨by first | rfl | (simp [errW_none, errW_some] <;> rfl) | (simp [*, errW_none, errW_some] <;> rfl), by repeat (first | (with_reducible first | exact HB.out | apply below_alloc | apply pw_below_drewN | apply below_drew1 | refine below_set ?_ GE229.out) | exact HB.out)⟩
          · rw [if_neg c6] at H
            have c6b0 : (((rd_T50 l0 x6_1).f0).toList == a1.toList) = false := beq_eq_false_iff_ne.mpr c6
            have c6b1 : (((rd_T50 l0 x6_1).f0).toList != a1.toList) = true := bne_iff_ne.mpr c6
            have H' := Aside0.mk H
            clear H
            have p230 : 0 ≤ (x6_1 : Int) := of_decide_eq_true (by first | (with_reducible assumption) | assumption)
            have q230 : x6_1 < (l0.length : Int) := of_decide_eq_true (by first | (with_reducible assumption) | assumption)
            obtain ⟨ad230, e230, hx230_0, hx230_1, hx230_2, hx230_3⟩ := at_T50 HR0.out x6_1 p230 q230
            cases e230
            replace hx230_0 := (HB.out.cell (World.block_lt_of_cell? w _ hx230_0)).trans hx230_0
            replace hx230_1 := (HB.out.cell (World.block_lt_of_cell? w _ hx230_1)).trans hx230_1
            replace hx230_2 := (HB.out.cell (World.block_lt_of_cell? w _ hx230_2)).trans hx230_2
            replace hx230_3 := (HB.out.cell (World.block_lt_of_cell? w _ hx230_3)).trans hx230_3
            replace p230 := eq_true p230
            replace q230 := eq_true q230
            go_wp2
            go_roundg k1
            case measure => have := HK1.out; omega
            case rel => exact ⟨(wrap64 (x6_1 + 1)), (x230000_1), (x230001_1), (x230002_1), (by first | rfl | (simp; done) | (simp [*]; done)), H', ⟨by have := HK1.out; omega⟩, ⟨by (with_reducible repeat (first | refine blk_drewN ?_ _ | refine blk_drew ?_ | refine blk_alloc ?_ _)); exact BK229.out⟩, ⟨by repeat (first | (with_reducible first | exact HB.out | apply below_alloc | apply pw_below_drewN | apply below_drew1 | refine below_set ?_ GE229.out) | exact HB.out)⟩⟩
        · rw [if_neg c5] at H
          exact absurd H (by simp)
      · rw [if_neg c4] at H
        have c4b0 : decide (x6_1 < (l0.length : Int)) = false := decide_eq_false c4
        clear c4
        simp only [Option.some.injEq, Prod.mk.injEq] at H
        obtain ⟨rfl, rfl, rfl, rfl⟩ := H
        have hcz8_0 : wr.cell? ⟨gb229, 0, none⟩ = some (.int .i64 x230000_1) := (blk_cell BK229.out 0).trans rfl
        have hcz8_1 : wr.cell? ⟨gb229, 1, none⟩ = some (.int .i64 x230001_1) := (blk_cell BK229.out 1).trans rfl
        have hcz8_2 : wr.cell? ⟨gb229, 2, none⟩ = some (.string x230002_1) := (blk_cell BK229.out 2).trans rfl
        have hfz8_0 := blk_frozen BK229.out 0
        have hfz8_1 := blk_frozen BK229.out 1
        have hfz8_2 := blk_frozen BK229.out 2
        go_wp2
        refine bodyPost_ret (results_ct rfl _ _ gb229 48 #[.int .i64 0, .int .i64 0, .string (⟨#[]⟩ : ByteArray)] (0, 0) _ rfl (by (with_reducible repeat (first | refine blk_drewN ?_ _ | refine blk_drew ?_ | refine blk_alloc ?_ _)); refine blk_put (cs := #[.int .i64 0, .int .i64 0, .string x230002_1]) ?_ 2 _ rfl; (with_reducible repeat (first | refine blk_drewN ?_ _ | refine blk_drew ?_ | refine blk_alloc ?_ _)); refine blk_put (cs := #[.int .i64 0, .int .i64 x230001_1, .string x230002_1]) ?_ 1 _ rfl; (with_reducible repeat (first | refine blk_drewN ?_ _ | refine blk_drew ?_ | refine blk_alloc ?_ _)); refine blk_put (cs := #[.int .i64 x230000_1, .int .i64 x230001_1, .string x230002_1]) ?_ 0 _ rfl; (with_reducible repeat (first | refine blk_drewN ?_ _ | refine blk_drew ?_ | refine blk_alloc ?_ _)); exact BK229.out) Try.underlying48 rfl (by kernel_rfl)) rfl ?_
        exact ⟨by first | rfl | (simp [errW_none, errW_some] <;> rfl) | (simp [*, errW_none, errW_some] <;> rfl), by repeat (first | (with_reducible first | exact HB.out | apply below_alloc | apply pw_below_drewN | apply below_drew1 | refine below_set ?_ GE229.out) | exact HB.out)⟩

end Go.Proofs.Ytkdhcmmfklganaa.G
end

section
-- Written by a program of this session (wip/tools/myprint.py), over the kit's print.
namespace Go.Proofs.Ytkdhcmmfklganaa.G
open Go.RowKit Go.Proofs.YtkdhcmmfklganaaW.PrintWords Go.Proofs.YtkdhcmmfklganaaW.PrintLast Go.Proofs.YtkdhcmmfklganaaW.PrintMore
attribute [local go_sem] max2_int min2_int max_two min_two max_three min_three max_four min_four   -- for this text's walks alone
set_option linter.unusedVariables false
set_option linter.unusedSimpArgs false

/-! ### rosetteref04_Right: function 43 -/
def rosetteref04_Right.f (a0_0 : Int) (a0_1 : Int) (a0_2 : ByteArray) : Option (Bool) := if a0_0 = 1 then (some (a0_2.toList == ([] : List UInt8))) else (if a0_0 = 2 then (if a0_1 = 0 then (some (decide ((a0_2.size : Int) ≤ 64))) else (some false)) else (if a0_0 = 3 then (if a0_2.toList = ([] : List UInt8) then (if a0_1 ≥ 0 then (some (decide (a0_1 ≤ 1))) else (some false)) else (some false)) else (some false)))
set_option maxHeartbeats 8000000 in
set_option maxRecDepth 100000 in
theorem rosetteref04_Right.calls (a0_0 : Int) (a0_1 : Int) (a0_2 : ByteArray) (r : Bool) (w : World) (h : rosetteref04_Right.f a0_0 a0_1 a0_2 = some r) :
    Calls Try.prog 43 #[.agg #[.int .i64 a0_0, .int .i64 a0_1, .string a0_2]] w fun e w' => e = .returned (.bool r) ∧ Below w.heap.size w w' := by
  have hu48 := Try.underlying48
  have HB := Aside0.mk (Below.refl w.heap.size w)
  have H : (if a0_0 = 1 then (some (a0_2.toList == ([] : List UInt8))) else (if a0_0 = 2 then (if a0_1 = 0 then (some (decide ((a0_2.size : Int) ≤ 64))) else (some false)) else (if a0_0 = 3 then (if a0_2.toList = ([] : List UInt8) then (if a0_1 ≥ 0 then (some (decide (a0_1 ≤ 1))) else (some false)) else (some false)) else (some false)))) = some r := h
  clear h
  by_cases c2 : a0_0 = 1
  · rw [if_pos c2] at H
    have c2b0 : (a0_0 == 1) = true := beq_iff_eq.mpr c2
    have c2b1 : (a0_0 != 1) = false := bne_eq_false_iff_eq.mpr c2
    clear c2
    obtain rfl := Option.some.inj H
    go_enter Try.func43, Try.ntmps43
    go_wp2_with (first | ((with_reducible refine gate_dst (N := 1) rfl ?_); (try (refine gate_guard (by rfl) ?_; dsimp only)); refine box_event ?hg (N := 1) ?hd (cs := #[.int .i64 a0_0, .int .i64 a0_1, .string a0_2]) (t := 48) ?hr ?_; (case hd => rfl); (case hg => rfl); (case hr => first | (go_simp; done) | (go_simp; rfl)); intro gb232 hg w3 hbox hb; have n0_ := Aside0.mk (below_step (by repeat (first | (with_reducible first | exact HB.out | apply below_alloc | apply pw_below_drewN | apply below_drew1) | exact HB.out)) hb); have n1_ := Aside0.mk (hbox); have n2_ := Aside0.mk ((by rw [hg]; exact (below_size (by repeat (first | (with_reducible first | exact HB.out | apply below_alloc | apply pw_below_drewN | apply below_drew1) | exact HB.out))) : w.heap.size ≤ gb232)); have n3_ := Aside0.mk ((by rw [hg]; exact (below_size (by repeat (first | (with_reducible first | exact HB.out | apply below_alloc | apply pw_below_drewN | apply below_drew1) | exact HB.out))) : w.heap.size ≤ gb232)); clear HB; have HB := n0_; have BK232 := n1_; have GW232 := n2_; have GE232 := n3_; clear n0_ n1_ n2_ n3_; clear hb hbox hg; have hcz4_0 : w3.cell? ⟨gb232, 0, none⟩ = some (.int .i64 a0_0) := (blk_cell BK232.out 0).trans rfl; have hcz4_1 : w3.cell? ⟨gb232, 1, none⟩ = some (.int .i64 a0_1) := (blk_cell BK232.out 1).trans rfl; have hcz4_2 : w3.cell? ⟨gb232, 2, none⟩ = some (.string a0_2) := (blk_cell BK232.out 2).trans rfl; have hfz4_0 := blk_frozen BK232.out 0; have hfz4_1 := blk_frozen BK232.out 1; have hfz4_2 := blk_frozen BK232.out 2))
    go_ret
    exact ⟨by first | rfl | (simp [errW_none, errW_some] <;> rfl) | (simp [*, errW_none, errW_some] <;> rfl), by repeat (first | (with_reducible first | exact HB.out | apply below_alloc | apply pw_below_drewN | apply below_drew1 | refine below_set ?_ GE232.out) | exact HB.out)⟩
  · rw [if_neg c2] at H
    have c2b0 : (a0_0 == 1) = false := beq_eq_false_iff_ne.mpr c2
    have c2b1 : (a0_0 != 1) = true := bne_iff_ne.mpr c2
    by_cases c5 : a0_0 = 2
    · rw [if_pos c5] at H
      have c5b0 : (a0_0 == 2) = true := beq_iff_eq.mpr c5
      have c5b1 : (a0_0 != 2) = false := bne_eq_false_iff_eq.mpr c5
      clear c5
      by_cases c6 : a0_1 = 0
      · rw [if_pos c6] at H
        have c6b0 : (a0_1 == 0) = true := beq_iff_eq.mpr c6
        have c6b1 : (a0_1 != 0) = false := bne_eq_false_iff_eq.mpr c6
        clear c6
        obtain rfl := Option.some.inj H
        go_enter Try.func43, Try.ntmps43
        go_wp2_with (first | ((with_reducible refine gate_dst (N := 1) rfl ?_); (try (refine gate_guard (by rfl) ?_; dsimp only)); refine box_event ?hg (N := 1) ?hd (cs := #[.int .i64 a0_0, .int .i64 a0_1, .string a0_2]) (t := 48) ?hr ?_; (case hd => rfl); (case hg => rfl); (case hr => first | (go_simp; done) | (go_simp; rfl)); intro gb232 hg w7 hbox hb; have n0_ := Aside0.mk (below_step (by repeat (first | (with_reducible first | exact HB.out | apply below_alloc | apply pw_below_drewN | apply below_drew1) | exact HB.out)) hb); have n1_ := Aside0.mk (hbox); have n2_ := Aside0.mk ((by rw [hg]; exact (below_size (by repeat (first | (with_reducible first | exact HB.out | apply below_alloc | apply pw_below_drewN | apply below_drew1) | exact HB.out))) : w.heap.size ≤ gb232)); have n3_ := Aside0.mk ((by rw [hg]; exact (below_size (by repeat (first | (with_reducible first | exact HB.out | apply below_alloc | apply pw_below_drewN | apply below_drew1) | exact HB.out))) : w.heap.size ≤ gb232)); clear HB; have HB := n0_; have BK232 := n1_; have GW232 := n2_; have GE232 := n3_; clear n0_ n1_ n2_ n3_; clear hb hbox hg; have hcz8_0 : w7.cell? ⟨gb232, 0, none⟩ = some (.int .i64 a0_0) := (blk_cell BK232.out 0).trans rfl; have hcz8_1 : w7.cell? ⟨gb232, 1, none⟩ = some (.int .i64 a0_1) := (blk_cell BK232.out 1).trans rfl; have hcz8_2 : w7.cell? ⟨gb232, 2, none⟩ = some (.string a0_2) := (blk_cell BK232.out 2).trans rfl; have hfz8_0 := blk_frozen BK232.out 0; have hfz8_1 := blk_frozen BK232.out 1; have hfz8_2 := blk_frozen BK232.out 2))
        go_ret
        exact ⟨by first | rfl | (simp [errW_none, errW_some] <;> rfl) | (simp [*, errW_none, errW_some] <;> rfl), by repeat (first | (with_reducible first | exact HB.out | apply below_alloc | apply pw_below_drewN | apply below_drew1 | refine below_set ?_ GE232.out) | exact HB.out)⟩
      · rw [if_neg c6] at H
        have c6b0 : (a0_1 == 0) = false := beq_eq_false_iff_ne.mpr c6
        have c6b1 : (a0_1 != 0) = true := bne_iff_ne.mpr c6
        obtain rfl := Option.some.inj H
        go_enter Try.func43, Try.ntmps43
        go_wp2_with (first | ((with_reducible refine gate_dst (N := 1) rfl ?_); (try (refine gate_guard (by rfl) ?_; dsimp only)); refine box_event ?hg (N := 1) ?hd (cs := #[.int .i64 a0_0, .int .i64 a0_1, .string a0_2]) (t := 48) ?hr ?_; (case hd => rfl); (case hg => rfl); (case hr => first | (go_simp; done) | (go_simp; rfl)); intro gb232 hg w9 hbox hb; have n0_ := Aside0.mk (below_step (by repeat (first | (with_reducible first | exact HB.out | apply below_alloc | apply pw_below_drewN | apply below_drew1) | exact HB.out)) hb); have n1_ := Aside0.mk (hbox); have n2_ := Aside0.mk ((by rw [hg]; exact (below_size (by repeat (first | (with_reducible first | exact HB.out | apply below_alloc | apply pw_below_drewN | apply below_drew1) | exact HB.out))) : w.heap.size ≤ gb232)); have n3_ := Aside0.mk ((by rw [hg]; exact (below_size (by repeat (first | (with_reducible first | exact HB.out | apply below_alloc | apply pw_below_drewN | apply below_drew1) | exact HB.out))) : w.heap.size ≤ gb232)); clear HB; have HB := n0_; have BK232 := n1_; have GW232 := n2_; have GE232 := n3_; clear n0_ n1_ n2_ n3_; clear hb hbox hg; have hcz10_0 : w9.cell? ⟨gb232, 0, none⟩ = some (.int .i64 a0_0) := (blk_cell BK232.out 0).trans rfl; have hcz10_1 : w9.cell? ⟨gb232, 1, none⟩ = some (.int .i64 a0_1) := (blk_cell BK232.out 1).trans rfl; have hcz10_2 : w9.cell? ⟨gb232, 2, none⟩ = some (.string a0_2) := (blk_cell BK232.out 2).trans rfl; have hfz10_0 := blk_frozen BK232.out 0; have hfz10_1 := blk_frozen BK232.out 1; have hfz10_2 := blk_frozen BK232.out 2))
        go_ret
        exact ⟨by first | rfl | (simp [errW_none, errW_some] <;> rfl) | (simp [*, errW_none, errW_some] <;> rfl), by repeat (first | (with_reducible first | exact HB.out | apply below_alloc | apply pw_below_drewN | apply below_drew1 | refine below_set ?_ GE232.out) | exact HB.out)⟩
    · rw [if_neg c5] at H
      have c5b0 : (a0_0 == 2) = false := beq_eq_false_iff_ne.mpr c5
      have c5b1 : (a0_0 != 2) = true := bne_iff_ne.mpr c5
      by_cases c11 : a0_0 = 3
      · rw [if_pos c11] at H
        have c11b0 : (a0_0 == 3) = true := beq_iff_eq.mpr c11
        have c11b1 : (a0_0 != 3) = false := bne_eq_false_iff_eq.mpr c11
        clear c11
        by_cases c12 : a0_2.toList = ([] : List UInt8)
        · rw [if_pos c12] at H
          have c12b0 : (a0_2.toList == ([] : List UInt8)) = true := beq_iff_eq.mpr c12
          have c12b1 : (a0_2.toList != ([] : List UInt8)) = false := bne_eq_false_iff_eq.mpr c12
          clear c12
          by_cases c13 : a0_1 ≥ 0
          · rw [if_pos c13] at H
            have c13b0 : decide (0 ≤ a0_1) = true := decide_eq_true c13
            clear c13
            obtain rfl := Option.some.inj H
            go_enter Try.func43, Try.ntmps43
            go_wp2_with (first | ((with_reducible refine gate_dst (N := 1) rfl ?_); (try (refine gate_guard (by rfl) ?_; dsimp only)); refine box_event ?hg (N := 1) ?hd (cs := #[.int .i64 a0_0, .int .i64 a0_1, .string a0_2]) (t := 48) ?hr ?_; (case hd => rfl); (case hg => rfl); (case hr => first | (go_simp; done) | (go_simp; rfl)); intro gb232 hg w14 hbox hb; have n0_ := Aside0.mk (below_step (by repeat (first | (with_reducible first | exact HB.out | apply below_alloc | apply pw_below_drewN | apply below_drew1) | exact HB.out)) hb); have n1_ := Aside0.mk (hbox); have n2_ := Aside0.mk ((by rw [hg]; exact (below_size (by repeat (first | (with_reducible first | exact HB.out | apply below_alloc | apply pw_below_drewN | apply below_drew1) | exact HB.out))) : w.heap.size ≤ gb232)); have n3_ := Aside0.mk ((by rw [hg]; exact (below_size (by repeat (first | (with_reducible first | exact HB.out | apply below_alloc | apply pw_below_drewN | apply below_drew1) | exact HB.out))) : w.heap.size ≤ gb232)); clear HB; have HB := n0_; have BK232 := n1_; have GW232 := n2_; have GE232 := n3_; clear n0_ n1_ n2_ n3_; clear hb hbox hg; have hcz15_0 : w14.cell? ⟨gb232, 0, none⟩ = some (.int .i64 a0_0) := (blk_cell BK232.out 0).trans rfl; have hcz15_1 : w14.cell? ⟨gb232, 1, none⟩ = some (.int .i64 a0_1) := (blk_cell BK232.out 1).trans rfl; have hcz15_2 : w14.cell? ⟨gb232, 2, none⟩ = some (.string a0_2) := (blk_cell BK232.out 2).trans rfl; have hfz15_0 := blk_frozen BK232.out 0; have hfz15_1 := blk_frozen BK232.out 1; have hfz15_2 := blk_frozen BK232.out 2))
            go_ret
            exact ⟨by first | rfl | (simp [errW_none, errW_some] <;> rfl) | (simp [*, errW_none, errW_some] <;> rfl), by repeat (first | (with_reducible first | exact HB.out | apply below_alloc | apply pw_below_drewN | apply below_drew1 | refine below_set ?_ GE232.out) | exact HB.out)⟩
          · rw [if_neg c13] at H
            have c13b0 : decide (0 ≤ a0_1) = false := decide_eq_false c13
            clear c13
            obtain rfl := Option.some.inj H
            go_enter Try.func43, Try.ntmps43
            go_wp2_with (first | ((with_reducible refine gate_dst (N := 1) rfl ?_); (try (refine gate_guard (by rfl) ?_; dsimp only)); refine box_event ?hg (N := 1) ?hd (cs := #[.int .i64 a0_0, .int .i64 a0_1, .string a0_2]) (t := 48) ?hr ?_; (case hd => rfl); (case hg => rfl); (case hr => first | (go_simp; done) | (go_simp; rfl)); intro gb232 hg w16 hbox hb; have n0_ := Aside0.mk (below_step (by repeat (first | (with_reducible first | exact HB.out | apply below_alloc | apply pw_below_drewN | apply below_drew1) | exact HB.out)) hb); have n1_ := Aside0.mk (hbox); have n2_ := Aside0.mk ((by rw [hg]; exact (below_size (by repeat (first | (with_reducible first | exact HB.out | apply below_alloc | apply pw_below_drewN | apply below_drew1) | exact HB.out))) : w.heap.size ≤ gb232)); have n3_ := Aside0.mk ((by rw [hg]; exact (below_size (by repeat (first | (with_reducible first | exact HB.out | apply below_alloc | apply pw_below_drewN | apply below_drew1) | exact HB.out))) : w.heap.size ≤ gb232)); clear HB; have HB := n0_; have BK232 := n1_; have GW232 := n2_; have GE232 := n3_; clear n0_ n1_ n2_ n3_; clear hb hbox hg; have hcz17_0 : w16.cell? ⟨gb232, 0, none⟩ = some (.int .i64 a0_0) := (blk_cell BK232.out 0).trans rfl; have hcz17_1 : w16.cell? ⟨gb232, 1, none⟩ = some (.int .i64 a0_1) := (blk_cell BK232.out 1).trans rfl; have hcz17_2 : w16.cell? ⟨gb232, 2, none⟩ = some (.string a0_2) := (blk_cell BK232.out 2).trans rfl; have hfz17_0 := blk_frozen BK232.out 0; have hfz17_1 := blk_frozen BK232.out 1; have hfz17_2 := blk_frozen BK232.out 2))
            go_ret
            exact ⟨by first | rfl | (simp [errW_none, errW_some] <;> rfl) | (simp [*, errW_none, errW_some] <;> rfl), by repeat (first | (with_reducible first | exact HB.out | apply below_alloc | apply pw_below_drewN | apply below_drew1 | refine below_set ?_ GE232.out) | exact HB.out)⟩
        · rw [if_neg c12] at H
          have c12b0 : (a0_2.toList == ([] : List UInt8)) = false := beq_eq_false_iff_ne.mpr c12
          have c12b1 : (a0_2.toList != ([] : List UInt8)) = true := bne_iff_ne.mpr c12
          obtain rfl := Option.some.inj H
          go_enter Try.func43, Try.ntmps43
          go_wp2_with (first | ((with_reducible refine gate_dst (N := 1) rfl ?_); (try (refine gate_guard (by rfl) ?_; dsimp only)); refine box_event ?hg (N := 1) ?hd (cs := #[.int .i64 a0_0, .int .i64 a0_1, .string a0_2]) (t := 48) ?hr ?_; (case hd => rfl); (case hg => rfl); (case hr => first | (go_simp; done) | (go_simp; rfl)); intro gb232 hg w18 hbox hb; have n0_ := Aside0.mk (below_step (by repeat (first | (with_reducible first | exact HB.out | apply below_alloc | apply pw_below_drewN | apply below_drew1) | exact HB.out)) hb); have n1_ := Aside0.mk (hbox); have n2_ := Aside0.mk ((by rw [hg]; exact (below_size (by repeat (first | (with_reducible first | exact HB.out | apply below_alloc | apply pw_below_drewN | apply below_drew1) | exact HB.out))) : w.heap.size ≤ gb232)); have n3_ := Aside0.mk ((by rw [hg]; exact (below_size (by repeat (first | (with_reducible first | exact HB.out | apply below_alloc | apply pw_below_drewN | apply below_drew1) | exact HB.out))) : w.heap.size ≤ gb232)); clear HB; have HB := n0_; have BK232 := n1_; have GW232 := n2_; have GE232 := n3_; clear n0_ n1_ n2_ n3_; clear hb hbox hg; have hcz19_0 : w18.cell? ⟨gb232, 0, none⟩ = some (.int .i64 a0_0) := (blk_cell BK232.out 0).trans rfl; have hcz19_1 : w18.cell? ⟨gb232, 1, none⟩ = some (.int .i64 a0_1) := (blk_cell BK232.out 1).trans rfl; have hcz19_2 : w18.cell? ⟨gb232, 2, none⟩ = some (.string a0_2) := (blk_cell BK232.out 2).trans rfl; have hfz19_0 := blk_frozen BK232.out 0; have hfz19_1 := blk_frozen BK232.out 1; have hfz19_2 := blk_frozen BK232.out 2))
          go_ret
          exact ⟨by first | rfl | (simp [errW_none, errW_some] <;> rfl) | (simp [*, errW_none, errW_some] <;> rfl), by repeat (first | (with_reducible first | exact HB.out | apply below_alloc | apply pw_below_drewN | apply below_drew1 | refine below_set ?_ GE232.out) | exact HB.out)⟩
      · rw [if_neg c11] at H
        have c11b0 : (a0_0 == 3) = false := beq_eq_false_iff_ne.mpr c11
        have c11b1 : (a0_0 != 3) = true := bne_iff_ne.mpr c11
        obtain rfl := Option.some.inj H
        go_enter Try.func43, Try.ntmps43
        go_wp2_with (first | ((with_reducible refine gate_dst (N := 1) rfl ?_); (try (refine gate_guard (by rfl) ?_; dsimp only)); refine box_event ?hg (N := 1) ?hd (cs := #[.int .i64 a0_0, .int .i64 a0_1, .string a0_2]) (t := 48) ?hr ?_; (case hd => rfl); (case hg => rfl); (case hr => first | (go_simp; done) | (go_simp; rfl)); intro gb232 hg w20 hbox hb; have n0_ := Aside0.mk (below_step (by repeat (first | (with_reducible first | exact HB.out | apply below_alloc | apply pw_below_drewN | apply below_drew1) | exact HB.out)) hb); have n1_ := Aside0.mk (hbox); have n2_ := Aside0.mk ((by rw [hg]; exact (below_size (by repeat (first | (with_reducible first | exact HB.out | apply below_alloc | apply pw_below_drewN | apply below_drew1) | exact HB.out))) : w.heap.size ≤ gb232)); have n3_ := Aside0.mk ((by rw [hg]; exact (below_size (by repeat (first | (with_reducible first | exact HB.out | apply below_alloc | apply pw_below_drewN | apply below_drew1) | exact HB.out))) : w.heap.size ≤ gb232)); clear HB; have HB := n0_; have BK232 := n1_; have GW232 := n2_; have GE232 := n3_; clear n0_ n1_ n2_ n3_; clear hb hbox hg; have hcz21_0 : w20.cell? ⟨gb232, 0, none⟩ = some (.int .i64 a0_0) := (blk_cell BK232.out 0).trans rfl; have hcz21_1 : w20.cell? ⟨gb232, 1, none⟩ = some (.int .i64 a0_1) := (blk_cell BK232.out 1).trans rfl; have hcz21_2 : w20.cell? ⟨gb232, 2, none⟩ = some (.string a0_2) := (blk_cell BK232.out 2).trans rfl; have hfz21_0 := blk_frozen BK232.out 0; have hfz21_1 := blk_frozen BK232.out 1; have hfz21_2 := blk_frozen BK232.out 2))
        go_ret
        exact ⟨by first | rfl | (simp [errW_none, errW_some] <;> rfl) | (simp [*, errW_none, errW_some] <;> rfl), by repeat (first | (with_reducible first | exact HB.out | apply below_alloc | apply pw_below_drewN | apply below_drew1 | refine below_set ?_ GE232.out) | exact HB.out)⟩

end Go.Proofs.Ytkdhcmmfklganaa.G
end

section
-- Written by a program of this session (wip/tools/myprint.py), over the kit's print.
namespace Go.Proofs.Ytkdhcmmfklganaa.G
open Go.RowKit Go.Proofs.YtkdhcmmfklganaaW.PrintWords Go.Proofs.YtkdhcmmfklganaaW.PrintLast Go.Proofs.YtkdhcmmfklganaaW.PrintMore
attribute [local go_sem] max2_int min2_int max_two min_two max_three min_three max_four min_four   -- for this text's walks alone
set_option linter.unusedVariables false
set_option linter.unusedSimpArgs false

/-! ### rosetteref15_Meets: function 19 -/
def rosetteref15_Meets.l0 : Nat → List (S46) → List (S50) → Int → Option (Bool)
  | 0, _, _, _ => none
  | k + 1, x0, x1, x5 => if x5 < (x0.length : Int) then (if 0 ≤ x5 then ((rosetteref05_Get.f k x1 ((rd_T46 x0 x5).f0)).bind fun bt234 => ((rosetteref04_Right.f bt234.1 bt234.2.1 bt234.2.2.1).bind fun t239 => (if bt234.2.2.2 = true then (if t239 = true then (if bt234.1 = 1 then (if bt234.2.1 < ((rd_T46 x0 x5).f1) then (some false) else (if bt234.2.1 > ((rd_T46 x0 x5).f2) then (some false) else (rosetteref15_Meets.l0 k x0 x1 (wrap64 (x5 + 1))))) else (some false)) else (some false)) else (some false)))) else (none)) else (some true)
def rosetteref15_Meets.f (k : Nat) (l0 : List (S46)) (l1 : List (S50)) : Option (Bool) := rosetteref15_Meets.l0 k l0 l1 0
theorem rosetteref15_Meets.mono_l : ∀ k, (∀ y0 y1 y2, LeO (rosetteref15_Meets.l0 k y0 y1 y2) (rosetteref15_Meets.l0 (k + 1) y0 y1 y2))
  | 0 => fun _ _ _ r h => by simp [rosetteref15_Meets.l0] at h
  | k + 1 => by
    have ih0 := rosetteref15_Meets.mono_l k
    · intro y0 y1 y2
      unfold rosetteref15_Meets.l0
      repeat' first
      | (with_reducible exact ih0 _ _ _)
      | (with_reducible exact rosetteref05_Get.mono _ _ _)
      | (with_reducible exact LeO.refl _)
      | (with_reducible exact LeO.none _)
      | (with_reducible refine LeO.ite ?_ ?_)
      | (with_reducible refine LeO.bind ?_ (fun _ => ?_))
      | exact ih0 _ _ _
      | exact rosetteref05_Get.mono _ _ _
      | exact LeO.none _
      | refine LeO.ite ?_ ?_
      | refine LeO.bind ?_ (fun _ => ?_)
theorem rosetteref15_Meets.mono : ∀ a0 a1 k, LeO (rosetteref15_Meets.f k a0 a1) (rosetteref15_Meets.f (k + 1) a0 a1) := by
  intro a0 a1 k
  have ih0 := rosetteref15_Meets.mono_l k
  unfold rosetteref15_Meets.f
  repeat' first
      | (with_reducible exact ih0 _ _ _)
      | (with_reducible exact rosetteref05_Get.mono _ _ _)
      | (with_reducible exact LeO.refl _)
      | (with_reducible exact LeO.none _)
      | (with_reducible refine LeO.ite ?_ ?_)
      | (with_reducible refine LeO.bind ?_ (fun _ => ?_))
      | exact ih0 _ _ _
      | exact rosetteref05_Get.mono _ _ _
      | exact LeO.none _
      | refine LeO.ite ?_ ?_
      | refine LeO.bind ?_ (fun _ => ?_)
set_option maxHeartbeats 8000000 in
set_option maxRecDepth 100000 in
theorem rosetteref15_Meets.calls (k : Nat) (A0 : Option Addr) (c0 : Nat) (l0 : List (S46)) (A1 : Option Addr) (c1 : Nat) (l1 : List (S50)) (r : Bool) (w : World) (hr0 : Kd.C k46 w A0 l0.length l0) (hc0 : l0.length ≤ c0) (hr1 : Kd.C k50 w A1 l1.length l1) (hc1 : l1.length ≤ c1) (h : rosetteref15_Meets.f k l0 l1 = some r) :
    Calls Try.prog 19 #[.slice A0 l0.length c0, .slice A1 l1.length c1] w fun e w' => e = .returned (.bool r) ∧ Below w.heap.size w w' := by
  have hu48 := Try.underlying48
  have HR0 := Aside0.mk hr0
  have HC0 := Aside0.mk hc0
  clear hr0 hc0
  have HR1 := Aside0.mk hr1
  have HC1 := Aside0.mk hc1
  clear hr1 hc1
  have HB := Aside0.mk (Below.refl w.heap.size w)
  have H : (rosetteref15_Meets.l0 k l0 l1 0) = some r := h
  clear h
  have H' := Aside0.mk H
  clear H
  go_enter Try.func19, Try.ntmps19
  go_wp2
  repeat (go_quiet (fail); try go_wp2)
  go_loopg [5] k (fun kq v5 w' => ∃ (x5_1 : Int), v5 = .int .i64 x5_1 ∧ Aside0 (rosetteref15_Meets.l0 kq l0 l1 x5_1 = some r) ∧ Aside0 (kq ≤ k) ∧ Aside0 (Below w.heap.size w w'))
  case atStart => exact ⟨(0), (by first | rfl | (simp; done) | (simp [*]; done)), H', ⟨Nat.le_refl _⟩, ⟨by repeat (first | (with_reducible first | exact HB.out | apply below_alloc | apply pw_below_drewN | apply below_drew1) | exact HB.out)⟩⟩
  case round =>
    clear H'
    try clear c1
    try clear p2
    obtain ⟨x5_1, rfl, HA, HK1, HB⟩ := hrel
    cases gk with
    | zero => exact absurd HA.out (by simp [rosetteref15_Meets.l0])
    | succ k1 =>
      have H := HA.out
      clear HA
      simp only [rosetteref15_Meets.l0] at H
      by_cases c3 : x5_1 < (l0.length : Int)
      · rw [if_pos c3] at H
        have c3b0 : decide (x5_1 < (l0.length : Int)) = true := decide_eq_true c3
        clear c3
        by_cases c4 : 0 ≤ x5_1
        · rw [if_pos c4] at H
          have c4b0 : decide (0 ≤ x5_1) = true := decide_eq_true c4
          clear c4
          replace H := Option.bind_eq_some_iff.mp H
          obtain ⟨⟨t234, t235, t236, t237⟩, A50, H⟩ := H
          replace H : ((rosetteref04_Right.f t234 t235 t236).bind fun t239 => (if t237 = true then (if t239 = true then (if t234 = 1 then (if t235 < ((rd_T46 l0 x5_1).f1) then (some false) else (if t235 > ((rd_T46 l0 x5_1).f2) then (some false) else (rosetteref15_Meets.l0 k1 l0 l1 (wrap64 (x5_1 + 1))))) else (some false)) else (some false)) else (some false))) = some r := H
          have A5 := Aside0.mk A50
          clear A50
          replace H := Option.bind_eq_some_iff.mp H
          obtain ⟨t239, A60, H⟩ := H
          replace H : (if t237 = true then (if t239 = true then (if t234 = 1 then (if t235 < ((rd_T46 l0 x5_1).f1) then (some false) else (if t235 > ((rd_T46 l0 x5_1).f2) then (some false) else (rosetteref15_Meets.l0 k1 l0 l1 (wrap64 (x5_1 + 1))))) else (some false)) else (some false)) else (some false)) = some r := H
          have A6 := Aside0.mk A60
          clear A60
          by_cases c7 : t237 = true
          · subst c7
            have H1 : (if t239 = true then (if t234 = 1 then (if t235 < ((rd_T46 l0 x5_1).f1) then (some false) else (if t235 > ((rd_T46 l0 x5_1).f2) then (some false) else (rosetteref15_Meets.l0 k1 l0 l1 (wrap64 (x5_1 + 1))))) else (some false)) else (some false)) = some r := by rw [if_pos rfl] at H; exact H
            clear H
            have H := H1
            clear H1
            by_cases c8 : t239 = true
            · subst c8
              have H1 : (if t234 = 1 then (if t235 < ((rd_T46 l0 x5_1).f1) then (some false) else (if t235 > ((rd_T46 l0 x5_1).f2) then (some false) else (rosetteref15_Meets.l0 k1 l0 l1 (wrap64 (x5_1 + 1))))) else (some false)) = some r := by rw [if_pos rfl] at H; exact H
              clear H
              have H := H1
              clear H1
              by_cases c9 : t234 = 1
              · rw [if_pos c9] at H
                have c9b0 : (t234 == 1) = true := beq_iff_eq.mpr c9
                have c9b1 : (t234 != 1) = false := bne_eq_false_iff_eq.mpr c9
                clear c9
                by_cases c10 : t235 < ((rd_T46 l0 x5_1).f1)
                · rw [if_pos c10] at H
                  have c10b0 : decide (t235 < ((rd_T46 l0 x5_1).f1)) = true := decide_eq_true c10
                  clear c10
                  obtain rfl := Option.some.inj H
                  have p233 : 0 ≤ (x5_1 : Int) := of_decide_eq_true (by first | (with_reducible assumption) | assumption)
                  have q233 : x5_1 < (l0.length : Int) := of_decide_eq_true (by first | (with_reducible assumption) | assumption)
                  obtain ⟨ad233, e233, hx233_0, hx233_1, hx233_2⟩ := at_T46 HR0.out x5_1 p233 q233
                  cases e233
                  replace hx233_0 := (HB.out.cell (World.block_lt_of_cell? w _ hx233_0)).trans hx233_0
                  replace hx233_1 := (HB.out.cell (World.block_lt_of_cell? w _ hx233_1)).trans hx233_1
                  replace hx233_2 := (HB.out.cell (World.block_lt_of_cell? w _ hx233_2)).trans hx233_2
                  replace p233 := eq_true p233
                  replace q233 := eq_true q233
                  go_wp2_with (first | (go_at_call 42; (with_reducible refine (rosetteref05_Get.calls k1 _ _ l1 ((rd_T46 l0 x5_1).f0) t234 t235 t236 true _ ?side1 ?side2 A5.out).mono ?_); (case side1 => repeat (first | exact (Kd.C_below HR1.out HB.out) | (with_reducible refine Kd.C_alloc ?_ _) | (with_reducible refine Kd.C_drewN ?_ _) | (with_reducible refine Kd.C_drew ?_))); (case side2 => exact HC1.out); rintro e w11 ⟨rfl, hb⟩; have n0_ := Aside0.mk (below_step (by repeat (first | (with_reducible first | exact HB.out | apply below_alloc | apply pw_below_drewN | apply below_drew1) | exact HB.out)) hb); clear HB; have HB := n0_; clear n0_; (try clear hb); (try clear hb2); (try clear hk); (try clear hi)) | ((with_reducible refine gate_dst (N := 6) rfl ?_); refine box_event ?hg (N := 6) ?hd (cs := #[.int .i64 0, .int .i64 0, .string (⟨#[]⟩ : ByteArray)]) (t := 48) ?hr ?_; (case hd => rfl); (case hg => rfl); (case hr => first | (go_simp; done) | (go_simp; rfl)); intro gb238 hg w12 hbox hb; have n0_ := Aside0.mk (below_step (by repeat (first | (with_reducible first | exact HB.out | apply below_alloc | apply pw_below_drewN | apply below_drew1) | exact HB.out)) hb); have n1_ := Aside0.mk (hbox); have n2_ := Aside0.mk ((by rw [hg]; exact (below_size (by repeat (first | (with_reducible first | exact HB.out | apply below_alloc | apply pw_below_drewN | apply below_drew1) | exact HB.out))) : w.heap.size ≤ gb238)); have n3_ := Aside0.mk ((by rw [hg]; exact (below_size (by repeat (first | (with_reducible first | exact HB.out | apply below_alloc | apply pw_below_drewN | apply below_drew1) | exact HB.out))) : w.heap.size ≤ gb238)); clear HB; have HB := n0_; have BK238 := n1_; have GW238 := n2_; have GE238 := n3_; clear n0_ n1_ n2_ n3_; clear hb hbox hg; have hcz13_0 : w12.cell? ⟨gb238, 0, none⟩ = some (.int .i64 0) := (blk_cell BK238.out 0).trans rfl; have hcz13_1 : w12.cell? ⟨gb238, 1, none⟩ = some (.int .i64 0) := (blk_cell BK238.out 1).trans rfl; have hcz13_2 : w12.cell? ⟨gb238, 2, none⟩ = some (.string (⟨#[]⟩ : ByteArray)) := (blk_cell BK238.out 2).trans rfl; have hfz13_0 := blk_frozen BK238.out 0; have hfz13_1 := blk_frozen BK238.out 1; have hfz13_2 := blk_frozen BK238.out 2) | (go_at_call 43; (with_reducible refine (rosetteref04_Right.calls t234 t235 t236 true _ A6.out).mono ?_); rintro e w14 ⟨rfl, hb⟩; have n0_ := Aside0.mk (blk_below (g := gb238) (o := .cells #[.int .i64 t234, .int .i64 t235, .string t236] 48 (0, 0)) (by (with_reducible repeat (first | refine blk_drewN ?_ _ | refine blk_drew ?_ | refine blk_alloc ?_ _)); refine blk_put (cs := #[.int .i64 t234, .int .i64 t235, .string (⟨#[]⟩ : ByteArray)]) ?_ 2 _ rfl; (with_reducible repeat (first | refine blk_drewN ?_ _ | refine blk_drew ?_ | refine blk_alloc ?_ _)); refine blk_put (cs := #[.int .i64 t234, .int .i64 0, .string (⟨#[]⟩ : ByteArray)]) ?_ 1 _ rfl; (with_reducible repeat (first | refine blk_drewN ?_ _ | refine blk_drew ?_ | refine blk_alloc ?_ _)); refine blk_put (cs := #[.int .i64 0, .int .i64 0, .string (⟨#[]⟩ : ByteArray)]) ?_ 0 _ rfl; (with_reducible repeat (first | refine blk_drewN ?_ _ | refine blk_drew ?_ | refine blk_alloc ?_ _)); exact BK238.out) hb); have n1_ := Aside0.mk (below_step (by repeat (first | (with_reducible first | exact HB.out | apply below_alloc | apply pw_below_drewN | apply below_drew1 | refine below_set ?_ GE238.out) | exact HB.out)) hb); clear BK238; clear HB; have BK238 := n0_; have HB := n1_; clear n0_ n1_; (try clear hb); (try clear hb2); (try clear hk); (try clear hi); have hcz15_0 : w14.cell? ⟨gb238, 0, none⟩ = some (.int .i64 t234) := (blk_cell BK238.out 0).trans rfl; have hcz15_1 : w14.cell? ⟨gb238, 1, none⟩ = some (.int .i64 t235) := (blk_cell BK238.out 1).trans rfl; have hcz15_2 : w14.cell? ⟨gb238, 2, none⟩ = some (.string t236) := (blk_cell BK238.out 2).trans rfl; have hfz15_0 := blk_frozen BK238.out 0; have hfz15_1 := blk_frozen BK238.out 1; have hfz15_2 := blk_frozen BK238.out 2; have p240 : 0 ≤ (x5_1 : Int) := of_decide_eq_true (by first | (with_reducible assumption) | assumption); have q240 : x5_1 < (l0.length : Int) := of_decide_eq_true (by first | (with_reducible assumption) | assumption); obtain ⟨ad240, e240, hx240_0, hx240_1, hx240_2⟩ := at_T46 HR0.out x5_1 p240 q240; obtain rfl : ad233 = ad240 := (by injection e240); replace hx240_0 := (HB.out.cell (World.block_lt_of_cell? w _ hx240_0)).trans hx240_0; replace hx240_1 := (HB.out.cell (World.block_lt_of_cell? w _ hx240_1)).trans hx240_1; replace hx240_2 := (HB.out.cell (World.block_lt_of_cell? w _ hx240_2)).trans hx240_2; replace p240 := eq_true p240; replace q240 := eq_true q240))
                  repeat (go_quiet (first | (go_at_call 42; (with_reducible refine (rosetteref05_Get.calls k1 _ _ l1 ((rd_T46 l0 x5_1).f0) t234 t235 t236 true _ ?side1 ?side2 A5.out).mono ?_); (case side1 => repeat (first | exact (Kd.C_below HR1.out HB.out) | (with_reducible refine Kd.C_alloc ?_ _) | (with_reducible refine Kd.C_drewN ?_ _) | (with_reducible refine Kd.C_drew ?_))); (case side2 => exact HC1.out); rintro e w11 ⟨rfl, hb⟩; have n0_ := Aside0.mk (below_step (by repeat (first | (with_reducible first | exact HB.out | apply below_alloc | apply pw_below_drewN | apply below_drew1) | exact HB.out)) hb); clear HB; have HB := n0_; clear n0_; (try clear hb); (try clear hb2); (try clear hk); (try clear hi)) | ((with_reducible refine gate_dst (N := 6) rfl ?_); refine box_event ?hg (N := 6) ?hd (cs := #[.int .i64 0, .int .i64 0, .string (⟨#[]⟩ : ByteArray)]) (t := 48) ?hr ?_; (case hd => rfl); (case hg => rfl); (case hr => first | (go_simp; done) | (go_simp; rfl)); intro gb238 hg w12 hbox hb; have n0_ := Aside0.mk (below_step (by repeat (first | (with_reducible first | exact HB.out | apply below_alloc | apply pw_below_drewN | apply below_drew1) | exact HB.out)) hb); have n1_ := Aside0.mk (hbox); have n2_ := Aside0.mk ((by rw [hg]; exact (below_size (by repeat (first | (with_reducible first | exact HB.out | apply below_alloc | apply pw_below_drewN | apply below_drew1) | exact HB.out))) : w.heap.size ≤ gb238)); have n3_ := Aside0.mk ((by rw [hg]; exact (below_size (by repeat (first | (with_reducible first | exact HB.out | apply below_alloc | apply pw_below_drewN | apply below_drew1) | exact HB.out))) : w.heap.size ≤ gb238)); clear HB; have HB := n0_; have BK238 := n1_; have GW238 := n2_; have GE238 := n3_; clear n0_ n1_ n2_ n3_; clear hb hbox hg; have hcz13_0 : w12.cell? ⟨gb238, 0, none⟩ = some (.int .i64 0) := (blk_cell BK238.out 0).trans rfl; have hcz13_1 : w12.cell? ⟨gb238, 1, none⟩ = some (.int .i64 0) := (blk_cell BK238.out 1).trans rfl; have hcz13_2 : w12.cell? ⟨gb238, 2, none⟩ = some (.string (⟨#[]⟩ : ByteArray)) := (blk_cell BK238.out 2).trans rfl; have hfz13_0 := blk_frozen BK238.out 0; have hfz13_1 := blk_frozen BK238.out 1; have hfz13_2 := blk_frozen BK238.out 2) | (go_at_call 43; (with_reducible refine (rosetteref04_Right.calls t234 t235 t236 true _ A6.out).mono ?_); rintro e w14 ⟨rfl, hb⟩; have n0_ := Aside0.mk (blk_below (g := gb238) (o := .cells #[.int .i64 t234, .int .i64 t235, .string t236] 48 (0, 0)) (by (with_reducible repeat (first | refine blk_drewN ?_ _ | refine blk_drew ?_ | refine blk_alloc ?_ _)); refine blk_put (cs := #[.int .i64 t234, .int .i64 t235, .string (⟨#[]⟩ : ByteArray)]) ?_ 2 _ rfl; (with_reducible repeat (first | refine blk_drewN ?_ _ | refine blk_drew ?_ | refine blk_alloc ?_ _)); refine blk_put (cs := #[.int .i64 t234, .int .i64 0, .string (⟨#[]⟩ : ByteArray)]) ?_ 1 _ rfl; (with_reducible repeat (first | refine blk_drewN ?_ _ | refine blk_drew ?_ | refine blk_alloc ?_ _)); refine blk_put (cs := #[.int .i64 0, .int .i64 0, .string (⟨#[]⟩ : ByteArray)]) ?_ 0 _ rfl; (with_reducible repeat (first | refine blk_drewN ?_ _ | refine blk_drew ?_ | refine blk_alloc ?_ _)); exact BK238.out) hb); have n1_ := Aside0.mk (below_step (by repeat (first | (with_reducible first | exact HB.out | apply below_alloc | apply pw_below_drewN | apply below_drew1 | refine below_set ?_ GE238.out) | exact HB.out)) hb); clear BK238; clear HB; have BK238 := n0_; have HB := n1_; clear n0_ n1_; (try clear hb); (try clear hb2); (try clear hk); (try clear hi); have hcz15_0 : w14.cell? ⟨gb238, 0, none⟩ = some (.int .i64 t234) := (blk_cell BK238.out 0).trans rfl; have hcz15_1 : w14.cell? ⟨gb238, 1, none⟩ = some (.int .i64 t235) := (blk_cell BK238.out 1).trans rfl; have hcz15_2 : w14.cell? ⟨gb238, 2, none⟩ = some (.string t236) := (blk_cell BK238.out 2).trans rfl; have hfz15_0 := blk_frozen BK238.out 0; have hfz15_1 := blk_frozen BK238.out 1; have hfz15_2 := blk_frozen BK238.out 2; have p240 : 0 ≤ (x5_1 : Int) := of_decide_eq_true (by first | (with_reducible assumption) | assumption); have q240 : x5_1 < (l0.length : Int) := of_decide_eq_true (by first | (with_reducible assumption) | assumption); obtain ⟨ad240, e240, hx240_0, hx240_1, hx240_2⟩ := at_T46 HR0.out x5_1 p240 q240; obtain rfl : ad233 = ad240 := (by injection e240); replace hx240_0 := (HB.out.cell (World.block_lt_of_cell? w _ hx240_0)).trans hx240_0; replace hx240_1 := (HB.out.cell (World.block_lt_of_cell? w _ hx240_1)).trans hx240_1; replace hx240_2 := (HB.out.cell (World.block_lt_of_cell? w _ hx240_2)).trans hx240_2; replace p240 := eq_true p240; replace q240 := eq_true q240)); try go_wp2_with (first | (go_at_call 42; (with_reducible refine (rosetteref05_Get.calls k1 _ _ l1 ((rd_T46 l0 x5_1).f0) t234 t235 t236 true _ ?side1 ?side2 A5.out).mono ?_); (case side1 => repeat (first | exact (Kd.C_below HR1.out HB.out) | (with_reducible refine Kd.C_alloc ?_ _) | (with_reducible refine Kd.C_drewN ?_ _) | (with_reducible refine Kd.C_drew ?_))); (case side2 => exact HC1.out); rintro e w11 ⟨rfl, hb⟩; have n0_ := Aside0.mk (below_step (by repeat (first | (with_reducible first | exact HB.out | apply below_alloc | apply pw_below_drewN | apply below_drew1) | exact HB.out)) hb); clear HB; have HB := n0_; clear n0_; (try clear hb); (try clear hb2); (try clear hk); (try clear hi)) | ((with_reducible refine gate_dst (N := 6) rfl ?_); refine box_event ?hg (N := 6) ?hd (cs := #[.int .i64 0, .int .i64 0, .string (⟨#[]⟩ : ByteArray)]) (t := 48) ?hr ?_; (case hd => rfl); (case hg => rfl); (case hr => first | (go_simp; done) | (go_simp; rfl)); intro gb238 hg w12 hbox hb; have n0_ := Aside0.mk (below_step (by repeat (first | (with_reducible first | exact HB.out | apply below_alloc | apply pw_below_drewN | apply below_drew1) | exact HB.out)) hb); have n1_ := Aside0.mk (hbox); have n2_ := Aside0.mk ((by rw [hg]; exact (below_size (by repeat (first | (with_reducible first | exact HB.out | apply below_alloc | apply pw_below_drewN | apply below_drew1) | exact HB.out))) : w.heap.size ≤ gb238)); have n3_ := Aside0.mk ((by rw [hg]; exact (below_size (by repeat (first | (with_reducible first | exact HB.out | apply below_alloc | apply pw_below_drewN | apply below_drew1) | exact HB.out))) : w.heap.size ≤ gb238)); clear HB; have HB := n0_; have BK238 := n1_; have GW238 := n2_; have GE238 := n3_; clear n0_ n1_ n2_ n3_; clear hb hbox hg; have hcz13_0 : w12.cell? ⟨gb238, 0, none⟩ = some (.int .i64 0) := (blk_cell BK238.out 0).trans rfl; have hcz13_1 : w12.cell? ⟨gb238, 1, none⟩ = some (.int .i64 0) := (blk_cell BK238.out 1).trans rfl; have hcz13_2 : w12.cell? ⟨gb238, 2, none⟩ = some (.string (⟨#[]⟩ : ByteArray)) := (blk_cell BK238.out 2).trans rfl; have hfz13_0 := blk_frozen BK238.out 0; have hfz13_1 := blk_frozen BK238.out 1; have hfz13_2 := blk_frozen BK238.out 2) | (go_at_call 43; (with_reducible refine (rosetteref04_Right.calls t234 t235 t236 true _ A6.out).mono ?_); rintro e w14 ⟨rfl, hb⟩; have n0_ := Aside0.mk (blk_below (g := gb238) (o := .cells #[.int .i64 t234, .int .i64 t235, .string t236] 48 (0, 0)) (by (with_reducible repeat (first | refine blk_drewN ?_ _ | refine blk_drew ?_ | refine blk_alloc ?_ _)); refine blk_put (cs := #[.int .i64 t234, .int .i64 t235, .string (⟨#[]⟩ : ByteArray)]) ?_ 2 _ rfl; (with_reducible repeat (first | refine blk_drewN ?_ _ | refine blk_drew ?_ | refine blk_alloc ?_ _)); refine blk_put (cs := #[.int .i64 t234, .int .i64 0, .string (⟨#[]⟩ : ByteArray)]) ?_ 1 _ rfl; (with_reducible repeat (first | refine blk_drewN ?_ _ | refine blk_drew ?_ | refine blk_alloc ?_ _)); refine blk_put (cs := #[.int .i64 0, .int .i64 0, .string (⟨#[]⟩ : ByteArray)]) ?_ 0 _ rfl; (with_reducible repeat (first | refine blk_drewN ?_ _ | refine blk_drew ?_ | refine blk_alloc ?_ _)); exact BK238.out) hb); have n1_ := Aside0.mk (below_step (by repeat (first | (with_reducible first | exact HB.out | apply below_alloc | apply pw_below_drewN | apply below_drew1 | refine below_set ?_ GE238.out) | exact HB.out)) hb); clear BK238; clear HB; have BK238 := n0_; have HB := n1_; clear n0_ n1_; (try clear hb); (try clear hb2); (try clear hk); (try clear hi); have hcz15_0 : w14.cell? ⟨gb238, 0, none⟩ = some (.int .i64 t234) := (blk_cell BK238.out 0).trans rfl; have hcz15_1 : w14.cell? ⟨gb238, 1, none⟩ = some (.int .i64 t235) := (blk_cell BK238.out 1).trans rfl; have hcz15_2 : w14.cell? ⟨gb238, 2, none⟩ = some (.string t236) := (blk_cell BK238.out 2).trans rfl; have hfz15_0 := blk_frozen BK238.out 0; have hfz15_1 := blk_frozen BK238.out 1; have hfz15_2 := blk_frozen BK238.out 2; have p240 : 0 ≤ (x5_1 : Int) := of_decide_eq_true (by first | (with_reducible assumption) | assumption); have q240 : x5_1 < (l0.length : Int) := of_decide_eq_true (by first | (with_reducible assumption) | assumption); obtain ⟨ad240, e240, hx240_0, hx240_1, hx240_2⟩ := at_T46 HR0.out x5_1 p240 q240; obtain rfl : ad233 = ad240 := (by injection e240); replace hx240_0 := (HB.out.cell (World.block_lt_of_cell? w _ hx240_0)).trans hx240_0; replace hx240_1 := (HB.out.cell (World.block_lt_of_cell? w _ hx240_1)).trans hx240_1; replace hx240_2 := (HB.out.cell (World.block_lt_of_cell? w _ hx240_2)).trans hx240_2; replace p240 := eq_true p240; replace q240 := eq_true q240)))
                  go_ret
                  exact ⟨by first | rfl | (simp [errW_none, errW_some] <;> rfl) | (simp [*, errW_none, errW_some] <;> rfl), by repeat (first | (with_reducible first | exact HB.out | apply below_alloc | apply pw_below_drewN | apply below_drew1 | refine below_set ?_ GE238.out) | exact HB.out)⟩
                · rw [if_neg c10] at H
                  have c10b0 : decide (t235 < ((rd_T46 l0 x5_1).f1)) = false := decide_eq_false c10
                  clear c10
                  by_cases c16 : t235 > ((rd_T46 l0 x5_1).f2)
                  · rw [if_pos c16] at H
                    have c16b0 : decide (((rd_T46 l0 x5_1).f2) < t235) = true := decide_eq_true c16
                    clear c16
                    obtain rfl := Option.some.inj H
                    have p233 : 0 ≤ (x5_1 : Int) := of_decide_eq_true (by first | (with_reducible assumption) | assumption)
                    have q233 : x5_1 < (l0.length : Int) := of_decide_eq_true (by first | (with_reducible assumption) | assumption)
                    obtain ⟨ad233, e233, hx233_0, hx233_1, hx233_2⟩ := at_T46 HR0.out x5_1 p233 q233
                    cases e233
                    replace hx233_0 := (HB.out.cell (World.block_lt_of_cell? w _ hx233_0)).trans hx233_0
                    replace hx233_1 := (HB.out.cell (World.block_lt_of_cell? w _ hx233_1)).trans hx233_1
                    replace hx233_2 := (HB.out.cell (World.block_lt_of_cell? w _ hx233_2)).trans hx233_2
                    replace p233 := eq_true p233
                    replace q233 := eq_true q233
                    go_wp2_with (first | (go_at_call 42; (with_reducible refine (rosetteref05_Get.calls k1 _ _ l1 ((rd_T46 l0 x5_1).f0) t234 t235 t236 true _ ?side1 ?side2 A5.out).mono ?_); (case side1 => repeat (first | exact (Kd.C_below HR1.out HB.out) | (with_reducible refine Kd.C_alloc ?_ _) | (with_reducible refine Kd.C_drewN ?_ _) | (with_reducible refine Kd.C_drew ?_))); (case side2 => exact HC1.out); rintro e w17 ⟨rfl, hb⟩; have n0_ := Aside0.mk (below_step (by repeat (first | (with_reducible first | exact HB.out | apply below_alloc | apply pw_below_drewN | apply below_drew1) | exact HB.out)) hb); clear HB; have HB := n0_; clear n0_; (try clear hb); (try clear hb2); (try clear hk); (try clear hi)) | ((with_reducible refine gate_dst (N := 6) rfl ?_); refine box_event ?hg (N := 6) ?hd (cs := #[.int .i64 0, .int .i64 0, .string (⟨#[]⟩ : ByteArray)]) (t := 48) ?hr ?_; (case hd => rfl); (case hg => rfl); (case hr => first | (go_simp; done) | (go_simp; rfl)); intro gb238 hg w18 hbox hb; have n0_ := Aside0.mk (below_step (by repeat (first | (with_reducible first | exact HB.out | apply below_alloc | apply pw_below_drewN | apply below_drew1) | exact HB.out)) hb); have n1_ := Aside0.mk (hbox); have n2_ := Aside0.mk ((by rw [hg]; exact (below_size (by repeat (first | (with_reducible first | exact HB.out | apply below_alloc | apply pw_below_drewN | apply below_drew1) | exact HB.out))) : w.heap.size ≤ gb238)); have n3_ := Aside0.mk ((by rw [hg]; exact (below_size (by repeat (first | (with_reducible first | exact HB.out | apply below_alloc | apply pw_below_drewN | apply below_drew1) | exact HB.out))) : w.heap.size ≤ gb238)); clear HB; have HB := n0_; have BK238 := n1_; have GW238 := n2_; have GE238 := n3_; clear n0_ n1_ n2_ n3_; clear hb hbox hg; have hcz19_0 : w18.cell? ⟨gb238, 0, none⟩ = some (.int .i64 0) := (blk_cell BK238.out 0).trans rfl; have hcz19_1 : w18.cell? ⟨gb238, 1, none⟩ = some (.int .i64 0) := (blk_cell BK238.out 1).trans rfl; have hcz19_2 : w18.cell? ⟨gb238, 2, none⟩ = some (.string (⟨#[]⟩ : ByteArray)) := (blk_cell BK238.out 2).trans rfl; have hfz19_0 := blk_frozen BK238.out 0; have hfz19_1 := blk_frozen BK238.out 1; have hfz19_2 := blk_frozen BK238.out 2) | (go_at_call 43; (with_reducible refine (rosetteref04_Right.calls t234 t235 t236 true _ A6.out).mono ?_); rintro e w20 ⟨rfl, hb⟩; have n0_ := Aside0.mk (blk_below (g := gb238) (o := .cells #[.int .i64 t234, .int .i64 t235, .string t236] 48 (0, 0)) (by (with_reducible repeat (first | refine blk_drewN ?_ _ | refine blk_drew ?_ | refine blk_alloc ?_ _)); refine blk_put (cs := #[.int .i64 t234, .int .i64 t235, .string (⟨#[]⟩ : ByteArray)]) ?_ 2 _ rfl; (with_reducible repeat (first | refine blk_drewN ?_ _ | refine blk_drew ?_ | refine blk_alloc ?_ _)); refine blk_put (cs := #[.int .i64 t234, .int .i64 0, .string (⟨#[]⟩ : ByteArray)]) ?_ 1 _ rfl; (with_reducible repeat (first | refine blk_drewN ?_ _ | refine blk_drew ?_ | refine blk_alloc ?_ _)); refine blk_put (cs := #[.int .i64 0, .int .i64 0, .string (⟨#[]⟩ : ByteArray)]) ?_ 0 _ rfl; (with_reducible repeat (first | refine blk_drewN ?_ _ | refine blk_drew ?_ | refine blk_alloc ?_ _)); exact BK238.out) hb); have n1_ := Aside0.mk (below_step (by repeat (first | (with_reducible first | exact HB.out | apply below_alloc | apply pw_below_drewN | apply below_drew1 | refine below_set ?_ GE238.out) | exact HB.out)) hb); clear BK238; clear HB; have BK238 := n0_; have HB := n1_; clear n0_ n1_; (try clear hb); (try clear hb2); (try clear hk); (try clear hi); have hcz21_0 : w20.cell? ⟨gb238, 0, none⟩ = some (.int .i64 t234) := (blk_cell BK238.out 0).trans rfl; have hcz21_1 : w20.cell? ⟨gb238, 1, none⟩ = some (.int .i64 t235) := (blk_cell BK238.out 1).trans rfl; have hcz21_2 : w20.cell? ⟨gb238, 2, none⟩ = some (.string t236) := (blk_cell BK238.out 2).trans rfl; have hfz21_0 := blk_frozen BK238.out 0; have hfz21_1 := blk_frozen BK238.out 1; have hfz21_2 := blk_frozen BK238.out 2; have p240 : 0 ≤ (x5_1 : Int) := of_decide_eq_true (by first | (with_reducible assumption) | assumption); have q240 : x5_1 < (l0.length : Int) := of_decide_eq_true (by first | (with_reducible assumption) | assumption); obtain ⟨ad240, e240, hx240_0, hx240_1, hx240_2⟩ := at_T46 HR0.out x5_1 p240 q240; obtain rfl : ad233 = ad240 := (by injection e240); replace hx240_0 := (HB.out.cell (World.block_lt_of_cell? w _ hx240_0)).trans hx240_0; replace hx240_1 := (HB.out.cell (World.block_lt_of_cell? w _ hx240_1)).trans hx240_1; replace hx240_2 := (HB.out.cell (World.block_lt_of_cell? w _ hx240_2)).trans hx240_2; replace p240 := eq_true p240; replace q240 := eq_true q240; have p241 : 0 ≤ (x5_1 : Int) := of_decide_eq_true (by first | (with_reducible assumption) | assumption); have q241 : x5_1 < (l0.length : Int) := of_decide_eq_true (by first | (with_reducible assumption) | assumption); obtain ⟨ad241, e241, hx241_0, hx241_1, hx241_2⟩ := at_T46 HR0.out x5_1 p241 q241; obtain rfl : ad233 = ad241 := (by injection e241); replace hx241_0 := (HB.out.cell (World.block_lt_of_cell? w _ hx241_0)).trans hx241_0; replace hx241_1 := (HB.out.cell (World.block_lt_of_cell? w _ hx241_1)).trans hx241_1; replace hx241_2 := (HB.out.cell (World.block_lt_of_cell? w _ hx241_2)).trans hx241_2; replace p241 := eq_true p241; replace q241 := eq_true q241))
                    repeat (go_quiet (first | (go_at_call 42; (with_reducible refine (rosetteref05_Get.calls k1 _ _ l1 ((rd_T46 l0 x5_1).f0) t234 t235 t236 true _ ?side1 ?side2 A5.out).mono ?_); (case side1 => repeat (first | exact (Kd.C_below HR1.out HB.out) | (with_reducible refine Kd.C_alloc ?_ _) | (with_reducible refine Kd.C_drewN ?_ _) | (with_reducible refine Kd.C_drew ?_))); (case side2 => exact HC1.out); rintro e w17 ⟨rfl, hb⟩; have n0_ := Aside0.mk (below_step (by repeat (first | (with_reducible first | exact HB.out | apply below_alloc | apply pw_below_drewN | apply below_drew1) | exact HB.out)) hb); clear HB; have HB := n0_; clear n0_; (try clear hb); (try clear hb2); (try clear hk); (try clear hi)) | ((with_reducible refine gate_dst (N := 6) rfl ?_); refine box_event ?hg (N := 6) ?hd (cs := #[.int .i64 0, .int .i64 0, .string (⟨#[]⟩ : ByteArray)]) (t := 48) ?hr ?_; (case hd => rfl); (case hg => rfl); (case hr => first | (go_simp; done) | (go_simp; rfl)); intro gb238 hg w18 hbox hb; have n0_ := Aside0.mk (below_step (by repeat (first | (with_reducible first | exact HB.out | apply below_alloc | apply pw_below_drewN | apply below_drew1) | exact HB.out)) hb); have n1_ := Aside0.mk (hbox); have n2_ := Aside0.mk ((by rw [hg]; exact (below_size (by repeat (first | (with_reducible first | exact HB.out | apply below_alloc | apply pw_below_drewN | apply below_drew1) | exact HB.out))) : w.heap.size ≤ gb238)); have n3_ := Aside0.mk ((by rw [hg]; exact (below_size (by repeat (first | (with_reducible first | exact HB.out | apply below_alloc | apply pw_below_drewN | apply below_drew1) | exact HB.out))) : w.heap.size ≤ gb238)); clear HB; have HB := n0_; have BK238 := n1_; have GW238 := n2_; have GE238 := n3_; clear n0_ n1_ n2_ n3_; clear hb hbox hg; have hcz19_0 : w18.cell? ⟨gb238, 0, none⟩ = some (.int .i64 0) := (blk_cell BK238.out 0).trans rfl; have hcz19_1 : w18.cell? ⟨gb238, 1, none⟩ = some (.int .i64 0) := (blk_cell BK238.out 1).trans rfl; have hcz19_2 : w18.cell? ⟨gb238, 2, none⟩ = some (.string (⟨#[]⟩ : ByteArray)) := (blk_cell BK238.out 2).trans rfl; have hfz19_0 := blk_frozen BK238.out 0; have hfz19_1 := blk_frozen BK238.out 1; have hfz19_2 := blk_frozen BK238.out 2) | (go_at_call 43; (with_reducible refine (rosetteref04_Right.calls t234 t235 t236 true _ A6.out).mono ?_); rintro e w20 ⟨rfl, hb⟩; have n0_ := Aside0.mk (blk_below (g := gb238) (o := .cells #[.int .i64 t234, .int .i64 t235, .string t236] 48 (0, 0)) (by (with_reducible repeat (first | refine blk_drewN ?_ _ | refine blk_drew ?_ | refine blk_alloc ?_ _)); refine blk_put (cs := #[.int .i64 t234, .int .i64 t235, .string (⟨#[]⟩ : ByteArray)]) ?_ 2 _ rfl; (with_reducible repeat (first | refine blk_drewN ?_ _ | refine blk_drew ?_ | refine blk_alloc ?_ _)); refine blk_put (cs := #[.int .i64 t234, .int .i64 0, .string (⟨#[]⟩ : ByteArray)]) ?_ 1 _ rfl; (with_reducible repeat (first | refine blk_drewN ?_ _ | refine blk_drew ?_ | refine blk_alloc ?_ _)); refine blk_put (cs := #[.int .i64 0, .int .i64 0, .string (⟨#[]⟩ : ByteArray)]) ?_ 0 _ rfl; (with_reducible repeat (first | refine blk_drewN ?_ _ | refine blk_drew ?_ | refine blk_alloc ?_ _)); exact BK238.out) hb); have n1_ := Aside0.mk (below_step (by repeat (first | (with_reducible first | exact HB.out | apply below_alloc | apply pw_below_drewN | apply below_drew1 | refine below_set ?_ GE238.out) | exact HB.out)) hb); clear BK238; clear HB; have BK238 := n0_; have HB := n1_; clear n0_ n1_; (try clear hb); (try clear hb2); (try clear hk); (try clear hi); have hcz21_0 : w20.cell? ⟨gb238, 0, none⟩ = some (.int .i64 t234) := (blk_cell BK238.out 0).trans rfl; have hcz21_1 : w20.cell? ⟨gb238, 1, none⟩ = some (.int .i64 t235) := (blk_cell BK238.out 1).trans rfl; have hcz21_2 : w20.cell? ⟨gb238, 2, none⟩ = some (.string t236) := (blk_cell BK238.out 2).trans rfl; have hfz21_0 := blk_frozen BK238.out 0; have hfz21_1 := blk_frozen BK238.out 1; have hfz21_2 := blk_frozen BK238.out 2; have p240 : 0 ≤ (x5_1 : Int) := of_decide_eq_true (by first | (with_reducible assumption) | assumption); have q240 : x5_1 < (l0.length : Int) := of_decide_eq_true (by first | (with_reducible assumption) | assumption); obtain ⟨ad240, e240, hx240_0, hx240_1, hx240_2⟩ := at_T46 HR0.out x5_1 p240 q240; obtain rfl : ad233 = ad240 := (by injection e240); replace hx240_0 := (HB.out.cell (World.block_lt_of_cell? w _ hx240_0)).trans hx240_0; replace hx240_1 := (HB.out.cell (World.block_lt_of_cell? w _ hx240_1)).trans hx240_1; replace hx240_2 := (HB.out.cell (World.block_lt_of_cell? w _ hx240_2)).trans hx240_2; replace p240 := eq_true p240; replace q240 := eq_true q240; have p241 : 0 ≤ (x5_1 : Int) := of_decide_eq_true (by first | (with_reducible assumption) | assumption); have q241 : x5_1 < (l0.length : Int) := of_decide_eq_true (by first | (with_reducible assumption) | assumption); obtain ⟨ad241, e241, hx241_0, hx241_1, hx241_2⟩ := at_T46 HR0.out x5_1 p241 q241; obtain rfl : ad233 = ad241 := (by injection e241); replace hx241_0 := (HB.out.cell (World.block_lt_of_cell? w _ hx241_0)).trans hx241_0; replace hx241_1 := (HB.out.cell (World.block_lt_of_cell? w _ hx241_1)).trans hx241_1; replace hx241_2 := (HB.out.cell (World.block_lt_of_cell? w _ hx241_2)).trans hx241_2; replace p241 := eq_true p241; replace q241 := eq_true q241)); try go_wp2_with (first | (go_at_call 42; (with_reducible refine (rosetteref05_Get.calls k1 _ _ l1 ((rd_T46 l0 x5_1).f0) t234 t235 t236 true _ ?side1 ?side2 A5.out).mono ?_); (case side1 => repeat (first | exact (Kd.C_below HR1.out HB.out) | (with_reducible refine Kd.C_alloc ?_ _) | (with_reducible refine Kd.C_drewN ?_ _) | (with_reducible refine Kd.C_drew ?_))); (case side2 => exact HC1.out); rintro e w17 ⟨rfl, hb⟩; have n0_ := Aside0.mk (below_step (by repeat (first | (with_reducible first | exact HB.out | apply below_alloc | apply pw_below_drewN | apply below_drew1) | exact HB.out)) hb); clear HB; have HB := n0_; clear n0_; (try clear hb); (try clear hb2); (try clear hk); (try clear hi)) | ((with_reducible refine gate_dst (N := 6) rfl ?_); refine box_event ?hg (N := 6) ?hd (cs := #[.int .i64 0, .int .i64 0, .string (⟨#[]⟩ : ByteArray)]) (t := 48) ?hr ?_; (case hd => rfl); (case hg => rfl); (case hr => first | (go_simp; done) | (go_simp; rfl)); intro gb238 hg w18 hbox hb; have n0_ := Aside0.mk (below_step (by repeat (first | (with_reducible first | exact HB.out | apply below_alloc | apply pw_below_drewN | apply below_drew1) | exact HB.out)) hb); have n1_ := Aside0.mk (hbox); have n2_ := Aside0.mk ((by rw [hg]; exact (below_size (by repeat (first | (with_reducible first | exact HB.out | apply below_alloc | apply pw_below_drewN | apply below_drew1) | exact HB.out))) : w.heap.size ≤ gb238)); have n3_ := Aside0.mk ((by rw [hg]; exact (below_size (by repeat (first | (with_reducible first | exact HB.out | apply below_alloc | apply pw_below_drewN | apply below_drew1) | exact HB.out))) : w.heap.size ≤ gb238)); clear HB; have HB := n0_; have BK238 := n1_; have GW238 := n2_; have GE238 := n3_; clear n0_ n1_ n2_ n3_; clear hb hbox hg; have hcz19_0 : w18.cell? ⟨gb238, 0, none⟩ = some (.int .i64 0) := (blk_cell BK238.out 0).trans rfl; have hcz19_1 : w18.cell? ⟨gb238, 1, none⟩ = some (.int .i64 0) := (blk_cell BK238.out 1).trans rfl; have hcz19_2 : w18.cell? ⟨gb238, 2, none⟩ = some (.string (⟨#[]⟩ : ByteArray)) := (blk_cell BK238.out 2).trans rfl; have hfz19_0 := blk_frozen BK238.out 0; have hfz19_1 := blk_frozen BK238.out 1; have hfz19_2 := blk_frozen BK238.out 2) | (go_at_call 43; (with_reducible refine (rosetteref04_Right.calls t234 t235 t236 true _ A6.out).mono ?_); rintro e w20 ⟨rfl, hb⟩; have n0_ := Aside0.mk (blk_below (g := gb238) (o := .cells #[.int .i64 t234, .int .i64 t235, .string t236] 48 (0, 0)) (by (with_reducible repeat (first | refine blk_drewN ?_ _ | refine blk_drew ?_ | refine blk_alloc ?_ _)); refine blk_put (cs := #[.int .i64 t234, .int .i64 t235, .string (⟨#[]⟩ : ByteArray)]) ?_ 2 _ rfl; (with_reducible repeat (first | refine blk_drewN ?_ _ | refine blk_drew ?_ | refine blk_alloc ?_ _)); refine blk_put (cs := #[.int .i64 t234, .int .i64 0, .string (⟨#[]⟩ : ByteArray)]) ?_ 1 _ rfl; (with_reducible repeat (first | refine blk_drewN ?_ _ | refine blk_drew ?_ | refine blk_alloc ?_ _)); refine blk_put (cs := #[.int .i64 0, .int .i64 0, .string (⟨#[]⟩ : ByteArray)]) ?_ 0 _ rfl; (with_reducible repeat (first | refine blk_drewN ?_ _ | refine blk_drew ?_ | refine blk_alloc ?_ _)); exact BK238.out) hb); have n1_ := Aside0.mk (below_step (by repeat (first | (with_reducible first | exact HB.out | apply below_alloc | apply pw_below_drewN | apply below_drew1 | refine below_set ?_ GE238.out) | exact HB.out)) hb); clear BK238; clear HB; have BK238 := n0_; have HB := n1_; clear n0_ n1_; (try clear hb); (try clear hb2); (try clear hk); (try clear hi); have hcz21_0 : w20.cell? ⟨gb238, 0, none⟩ = some (.int .i64 t234) := (blk_cell BK238.out 0).trans rfl; have hcz21_1 : w20.cell? ⟨gb238, 1, none⟩ = some (.int .i64 t235) := (blk_cell BK238.out 1).trans rfl; have hcz21_2 : w20.cell? ⟨gb238, 2, none⟩ = some (.string t236) := (blk_cell BK238.out 2).trans rfl; have hfz21_0 := blk_frozen BK238.out 0; have hfz21_1 := blk_frozen BK238.out 1; have hfz21_2 := blk_frozen BK238.out 2; have p240 : 0 ≤ (x5_1 : Int) := of_decide_eq_true (by first | (with_reducible assumption) | assumption); have q240 : x5_1 < (l0.length : Int) := of_decide_eq_true (by first | (with_reducible assumption) | assumption); obtain ⟨ad240, e240, hx240_0, hx240_1, hx240_2⟩ := at_T46 HR0.out x5_1 p240 q240; obtain rfl : ad233 = ad240 := (by injection e240); replace hx240_0 := (HB.out.cell (World.block_lt_of_cell? w _ hx240_0)).trans hx240_0; replace hx240_1 := (HB.out.cell (World.block_lt_of_cell? w _ hx240_1)).trans hx240_1; replace hx240_2 := (HB.out.cell (World.block_lt_of_cell? w _ hx240_2)).trans hx240_2; replace p240 := eq_true p240; replace q240 := eq_true q240; have p241 : 0 ≤ (x5_1 : Int) := of_decide_eq_true (by first | (with_reducible assumption) | assumption); have q241 : x5_1 < (l0.length : Int) := of_decide_eq_true (by first | (with_reducible assumption) | assumption); obtain ⟨ad241, e241, hx241_0, hx241_1, hx241_2⟩ := at_T46 HR0.out x5_1 p241 q241; obtain rfl : ad233 = ad241 := (by injection e241); replace hx241_0 := (HB.out.cell (World.block_lt_of_cell? w _ hx241_0)).trans hx241_0; replace hx241_1 := (HB.out.cell (World.block_lt_of_cell? w _ hx241_1)).trans hx241_1; replace hx241_2 := (HB.out.cell (World.block_lt_of_cell? w _ hx241_2)).trans hx241_2; replace p241 := eq_true p241; replace q241 := eq_true q241)))
                    go_ret
                    exact ⟨by first | rfl | (simp [errW_none, errW_some] <;> rfl) | (simp [*, errW_none, errW_some] <;> rfl), by repeat (first | (with_reducible first | exact HB.out | apply below_alloc | apply pw_below_drewN | apply below_drew1 | refine below_set ?_ GE238.out) | exact HB.out)⟩
                  · rw [if_neg c16] at H
                    have c16b0 : decide (((rd_T46 l0 x5_1).f2) < t235) = false := decide_eq_false c16
                    clear c16
                    have H' := Aside0.mk H
                    clear H
                    have p233 : 0 ≤ (x5_1 : Int) := of_decide_eq_true (by first | (with_reducible assumption) | assumption)
                    have q233 : x5_1 < (l0.length : Int) := of_decide_eq_true (by first | (with_reducible assumption) | assumption)
                    obtain ⟨ad233, e233, hx233_0, hx233_1, hx233_2⟩ := at_T46 HR0.out x5_1 p233 q233
                    cases e233
                    replace hx233_0 := (HB.out.cell (World.block_lt_of_cell? w _ hx233_0)).trans hx233_0
                    replace hx233_1 := (HB.out.cell (World.block_lt_of_cell? w _ hx233_1)).trans hx233_1
                    replace hx233_2 := (HB.out.cell (World.block_lt_of_cell? w _ hx233_2)).trans hx233_2
                    replace p233 := eq_true p233
                    replace q233 := eq_true q233
                    go_wp2_with (first | (go_at_call 42; (with_reducible refine (rosetteref05_Get.calls k1 _ _ l1 ((rd_T46 l0 x5_1).f0) t234 t235 t236 true _ ?side1 ?side2 A5.out).mono ?_); (case side1 => repeat (first | exact (Kd.C_below HR1.out HB.out) | (with_reducible refine Kd.C_alloc ?_ _) | (with_reducible refine Kd.C_drewN ?_ _) | (with_reducible refine Kd.C_drew ?_))); (case side2 => exact HC1.out); rintro e w22 ⟨rfl, hb⟩; have n0_ := Aside0.mk (below_step (by repeat (first | (with_reducible first | exact HB.out | apply below_alloc | apply pw_below_drewN | apply below_drew1) | exact HB.out)) hb); clear HB; have HB := n0_; clear n0_; (try clear hb); (try clear hb2); (try clear hk); (try clear hi)) | ((with_reducible refine gate_dst (N := 6) rfl ?_); refine box_event ?hg (N := 6) ?hd (cs := #[.int .i64 0, .int .i64 0, .string (⟨#[]⟩ : ByteArray)]) (t := 48) ?hr ?_; (case hd => rfl); (case hg => rfl); (case hr => first | (go_simp; done) | (go_simp; rfl)); intro gb238 hg w23 hbox hb; have n0_ := Aside0.mk (below_step (by repeat (first | (with_reducible first | exact HB.out | apply below_alloc | apply pw_below_drewN | apply below_drew1) | exact HB.out)) hb); have n1_ := Aside0.mk (hbox); have n2_ := Aside0.mk ((by rw [hg]; exact (below_size (by repeat (first | (with_reducible first | exact HB.out | apply below_alloc | apply pw_below_drewN | apply below_drew1) | exact HB.out))) : w.heap.size ≤ gb238)); have n3_ := Aside0.mk ((by rw [hg]; exact (below_size (by repeat (first | (with_reducible first | exact HB.out | apply below_alloc | apply pw_below_drewN | apply below_drew1) | exact HB.out))) : w.heap.size ≤ gb238)); clear HB; have HB := n0_; have BK238 := n1_; have GW238 := n2_; have GE238 := n3_; clear n0_ n1_ n2_ n3_; clear hb hbox hg; have hcz24_0 : w23.cell? ⟨gb238, 0, none⟩ = some (.int .i64 0) := (blk_cell BK238.out 0).trans rfl; have hcz24_1 : w23.cell? ⟨gb238, 1, none⟩ = some (.int .i64 0) := (blk_cell BK238.out 1).trans rfl; have hcz24_2 : w23.cell? ⟨gb238, 2, none⟩ = some (.string (⟨#[]⟩ : ByteArray)) := (blk_cell BK238.out 2).trans rfl; have hfz24_0 := blk_frozen BK238.out 0; have hfz24_1 := blk_frozen BK238.out 1; have hfz24_2 := blk_frozen BK238.out 2) | (go_at_call 43; (with_reducible refine (rosetteref04_Right.calls t234 t235 t236 true _ A6.out).mono ?_); rintro e w25 ⟨rfl, hb⟩; have n0_ := Aside0.mk (blk_below (g := gb238) (o := .cells #[.int .i64 t234, .int .i64 t235, .string t236] 48 (0, 0)) (by (with_reducible repeat (first | refine blk_drewN ?_ _ | refine blk_drew ?_ | refine blk_alloc ?_ _)); refine blk_put (cs := #[.int .i64 t234, .int .i64 t235, .string (⟨#[]⟩ : ByteArray)]) ?_ 2 _ rfl; (with_reducible repeat (first | refine blk_drewN ?_ _ | refine blk_drew ?_ | refine blk_alloc ?_ _)); refine blk_put (cs := #[.int .i64 t234, .int .i64 0, .string (⟨#[]⟩ : ByteArray)]) ?_ 1 _ rfl; (with_reducible repeat (first | refine blk_drewN ?_ _ | refine blk_drew ?_ | refine blk_alloc ?_ _)); refine blk_put (cs := #[.int .i64 0, .int .i64 0, .string (⟨#[]⟩ : ByteArray)]) ?_ 0 _ rfl; (with_reducible repeat (first | refine blk_drewN ?_ _ | refine blk_drew ?_ | refine blk_alloc ?_ _)); exact BK238.out) hb); have n1_ := Aside0.mk (below_step (by repeat (first | (with_reducible first | exact HB.out | apply below_alloc | apply pw_below_drewN | apply below_drew1 | refine below_set ?_ GE238.out) | exact HB.out)) hb); clear BK238; clear HB; have BK238 := n0_; have HB := n1_; clear n0_ n1_; (try clear hb); (try clear hb2); (try clear hk); (try clear hi); have hcz26_0 : w25.cell? ⟨gb238, 0, none⟩ = some (.int .i64 t234) := (blk_cell BK238.out 0).trans rfl; have hcz26_1 : w25.cell? ⟨gb238, 1, none⟩ = some (.int .i64 t235) := (blk_cell BK238.out 1).trans rfl; have hcz26_2 : w25.cell? ⟨gb238, 2, none⟩ = some (.string t236) := (blk_cell BK238.out 2).trans rfl; have hfz26_0 := blk_frozen BK238.out 0; have hfz26_1 := blk_frozen BK238.out 1; have hfz26_2 := blk_frozen BK238.out 2; have p240 : 0 ≤ (x5_1 : Int) := of_decide_eq_true (by first | (with_reducible assumption) | assumption); have q240 : x5_1 < (l0.length : Int) := of_decide_eq_true (by first | (with_reducible assumption) | assumption); obtain ⟨ad240, e240, hx240_0, hx240_1, hx240_2⟩ := at_T46 HR0.out x5_1 p240 q240; obtain rfl : ad233 = ad240 := (by injection e240); replace hx240_0 := (HB.out.cell (World.block_lt_of_cell? w _ hx240_0)).trans hx240_0; replace hx240_1 := (HB.out.cell (World.block_lt_of_cell? w _ hx240_1)).trans hx240_1; replace hx240_2 := (HB.out.cell (World.block_lt_of_cell? w _ hx240_2)).trans hx240_2; replace p240 := eq_true p240; replace q240 := eq_true q240; have p241 : 0 ≤ (x5_1 : Int) := of_decide_eq_true (by first | (with_reducible assumption) | assumption); have q241 : x5_1 < (l0.length : Int) := of_decide_eq_true (by first | (with_reducible assumption) | assumption); obtain ⟨ad241, e241, hx241_0, hx241_1, hx241_2⟩ := at_T46 HR0.out x5_1 p241 q241; obtain rfl : ad233 = ad241 := (by injection e241); replace hx241_0 := (HB.out.cell (World.block_lt_of_cell? w _ hx241_0)).trans hx241_0; replace hx241_1 := (HB.out.cell (World.block_lt_of_cell? w _ hx241_1)).trans hx241_1; replace hx241_2 := (HB.out.cell (World.block_lt_of_cell? w _ hx241_2)).trans hx241_2; replace p241 := eq_true p241; replace q241 := eq_true q241))
                    repeat (go_quiet (first | (go_at_call 42; (with_reducible refine (rosetteref05_Get.calls k1 _ _ l1 ((rd_T46 l0 x5_1).f0) t234 t235 t236 true _ ?side1 ?side2 A5.out).mono ?_); (case side1 => repeat (first | exact (Kd.C_below HR1.out HB.out) | (with_reducible refine Kd.C_alloc ?_ _) | (with_reducible refine Kd.C_drewN ?_ _) | (with_reducible refine Kd.C_drew ?_))); (case side2 => exact HC1.out); rintro e w22 ⟨rfl, hb⟩; have n0_ := Aside0.mk (below_step (by repeat (first | (with_reducible first | exact HB.out | apply below_alloc | apply pw_below_drewN | apply below_drew1) | exact HB.out)) hb); clear HB; have HB := n0_; clear n0_; (try clear hb); (try clear hb2); (try clear hk); (try clear hi)) | ((with_reducible refine gate_dst (N := 6) rfl ?_); refine box_event ?hg (N := 6) ?hd (cs := #[.int .i64 0, .int .i64 0, .string (⟨#[]⟩ : ByteArray)]) (t := 48) ?hr ?_; (case hd => rfl); (case hg => rfl); (case hr => first | (go_simp; done) | (go_simp; rfl)); intro gb238 hg w23 hbox hb; have n0_ := Aside0.mk (below_step (by repeat (first | (with_reducible first | exact HB.out | apply below_alloc | apply pw_below_drewN | apply below_drew1) | exact HB.out)) hb); have n1_ := Aside0.mk (hbox); have n2_ := Aside0.mk ((by rw [hg]; exact (below_size (by repeat (first | (with_reducible first | exact HB.out | apply below_alloc | apply pw_below_drewN | apply below_drew1) | exact HB.out))) : w.heap.size ≤ gb238)); have n3_ := Aside0.mk ((by rw [hg]; exact (below_size (by repeat (first | (with_reducible first | exact HB.out | apply below_alloc | apply pw_below_drewN | apply below_drew1) | exact HB.out))) : w.heap.size ≤ gb238)); clear HB; have HB := n0_; have BK238 := n1_; have GW238 := n2_; have GE238 := n3_; clear n0_ n1_ n2_ n3_; clear hb hbox hg; have hcz24_0 : w23.cell? ⟨gb238, 0, none⟩ = some (.int .i64 0) := (blk_cell BK238.out 0).trans rfl; have hcz24_1 : w23.cell? ⟨gb238, 1, none⟩ = some (.int .i64 0) := (blk_cell BK238.out 1).trans rfl; have hcz24_2 : w23.cell? ⟨gb238, 2, none⟩ = some (.string (⟨#[]⟩ : ByteArray)) := (blk_cell BK238.out 2).trans rfl; have hfz24_0 := blk_frozen BK238.out 0; have hfz24_1 := blk_frozen BK238.out 1; have hfz24_2 := blk_frozen BK238.out 2) | (go_at_call 43; (with_reducible refine (rosetteref04_Right.calls t234 t235 t236 true _ A6.out).mono ?_); rintro e w25 ⟨rfl, hb⟩; have n0_ := Aside0.mk (blk_below (g := gb238) (o := .cells #[.int .i64 t234, .int .i64 t235, .string t236] 48 (0, 0)) (by (with_reducible repeat (first | refine blk_drewN ?_ _ | refine blk_drew ?_ | refine blk_alloc ?_ _)); refine blk_put (cs := #[.int .i64 t234, .int .i64 t235, .string (⟨#[]⟩ : ByteArray)]) ?_ 2 _ rfl; (with_reducible repeat (first | refine blk_drewN ?_ _ | refine blk_drew ?_ | refine blk_alloc ?_ _)); refine blk_put (cs := #[.int .i64 t234, .int .i64 0, .string (⟨#[]⟩ : ByteArray)]) ?_ 1 _ rfl; (with_reducible repeat (first | refine blk_drewN ?_ _ | refine blk_drew ?_ | refine blk_alloc ?_ _)); refine blk_put (cs := #[.int .i64 0, .int .i64 0, .string (⟨#[]⟩ : ByteArray)]) ?_ 0 _ rfl; (with_reducible repeat (first | refine blk_drewN ?_ _ | refine blk_drew ?_ | refine blk_alloc ?_ _)); exact BK238.out) hb); have n1_ := Aside0.mk (below_step (by repeat (first | (with_reducible first | exact HB.out | apply below_alloc | apply pw_below_drewN | apply below_drew1 | refine below_set ?_ GE238.out) | exact HB.out)) hb); clear BK238; clear HB; have BK238 := n0_; have HB := n1_; clear n0_ n1_; (try clear hb); (try clear hb2); (try clear hk); (try clear hi); have hcz26_0 : w25.cell? ⟨gb238, 0, none⟩ = some (.int .i64 t234) := (blk_cell BK238.out 0).trans rfl; have hcz26_1 : w25.cell? ⟨gb238, 1, none⟩ = some (.int .i64 t235) := (blk_cell BK238.out 1).trans rfl; have hcz26_2 : w25.cell? ⟨gb238, 2, none⟩ = some (.string t236) := (blk_cell BK238.out 2).trans rfl; have hfz26_0 := blk_frozen BK238.out 0; have hfz26_1 := blk_frozen BK238.out 1; have hfz26_2 := blk_frozen BK238.out 2; have p240 : 0 ≤ (x5_1 : Int) := of_decide_eq_true (by first | (with_reducible assumption) | assumption); have q240 : x5_1 < (l0.length : Int) := of_decide_eq_true (by first | (with_reducible assumption) | assumption); obtain ⟨ad240, e240, hx240_0, hx240_1, hx240_2⟩ := at_T46 HR0.out x5_1 p240 q240; obtain rfl : ad233 = ad240 := (by injection e240); replace hx240_0 := (HB.out.cell (World.block_lt_of_cell? w _ hx240_0)).trans hx240_0; replace hx240_1 := (HB.out.cell (World.block_lt_of_cell? w _ hx240_1)).trans hx240_1; replace hx240_2 := (HB.out.cell (World.block_lt_of_cell? w _ hx240_2)).trans hx240_2; replace p240 := eq_true p240; replace q240 := eq_true q240; have p241 : 0 ≤ (x5_1 : Int) := of_decide_eq_true (by first | (with_reducible assumption) | assumption); have q241 : x5_1 < (l0.length : Int) := of_decide_eq_true (by first | (with_reducible assumption) | assumption); obtain ⟨ad241, e241, hx241_0, hx241_1, hx241_2⟩ := at_T46 HR0.out x5_1 p241 q241; obtain rfl : ad233 = ad241 := (by injection e241); replace hx241_0 := (HB.out.cell (World.block_lt_of_cell? w _ hx241_0)).trans hx241_0; replace hx241_1 := (HB.out.cell (World.block_lt_of_cell? w _ hx241_1)).trans hx241_1; replace hx241_2 := (HB.out.cell (World.block_lt_of_cell? w _ hx241_2)).trans hx241_2; replace p241 := eq_true p241; replace q241 := eq_true q241)); try go_wp2_with (first | (go_at_call 42; (with_reducible refine (rosetteref05_Get.calls k1 _ _ l1 ((rd_T46 l0 x5_1).f0) t234 t235 t236 true _ ?side1 ?side2 A5.out).mono ?_); (case side1 => repeat (first | exact (Kd.C_below HR1.out HB.out) | (with_reducible refine Kd.C_alloc ?_ _) | (with_reducible refine Kd.C_drewN ?_ _) | (with_reducible refine Kd.C_drew ?_))); (case side2 => exact HC1.out); rintro e w22 ⟨rfl, hb⟩; have n0_ := Aside0.mk (below_step (by repeat (first | (with_reducible first | exact HB.out | apply below_alloc | apply pw_below_drewN | apply below_drew1) | exact HB.out)) hb); clear HB; have HB := n0_; clear n0_; (try clear hb); (try clear hb2); (try clear hk); (try clear hi)) | ((with_reducible refine gate_dst (N := 6) rfl ?_); refine box_event ?hg (N := 6) ?hd (cs := #[.int .i64 0, .int .i64 0, .string (⟨#[]⟩ : ByteArray)]) (t := 48) ?hr ?_; (case hd => rfl); (case hg => rfl); (case hr => first | (go_simp; done) | (go_simp; rfl)); intro gb238 hg w23 hbox hb; have n0_ := Aside0.mk (below_step (by repeat (first | (with_reducible first | exact HB.out | apply below_alloc | apply pw_below_drewN | apply below_drew1) | exact HB.out)) hb); have n1_ := Aside0.mk (hbox); have n2_ := Aside0.mk ((by rw [hg]; exact (below_size (by repeat (first | (with_reducible first | exact HB.out | apply below_alloc | apply pw_below_drewN | apply below_drew1) | exact HB.out))) : w.heap.size ≤ gb238)); have n3_ := Aside0.mk ((by rw [hg]; exact (below_size (by repeat (first | (with_reducible first | exact HB.out | apply below_alloc | apply pw_below_drewN | apply below_drew1) | exact HB.out))) : w.heap.size ≤ gb238)); clear HB; have HB := n0_; have BK238 := n1_; have GW238 := n2_; have GE238 := n3_; clear n0_ n1_ n2_ n3_; clear hb hbox hg; have hcz24_0 : w23.cell? ⟨gb238, 0, none⟩ = some (.int .i64 0) := (blk_cell BK238.out 0).trans rfl; have hcz24_1 : w23.cell? ⟨gb238, 1, none⟩ = some (.int .i64 0) := (blk_cell BK238.out 1).trans rfl; have hcz24_2 : w23.cell? ⟨gb238, 2, none⟩ = some (.string (⟨#[]⟩ : ByteArray)) := (blk_cell BK238.out 2).trans rfl; have hfz24_0 := blk_frozen BK238.out 0; have hfz24_1 := blk_frozen BK238.out 1; have hfz24_2 := blk_frozen BK238.out 2) | (go_at_call 43; (with_reducible refine (rosetteref04_Right.calls t234 t235 t236 true _ A6.out).mono ?_); rintro e w25 ⟨rfl, hb⟩; have n0_ := Aside0.mk (blk_below (g := gb238) (o := .cells #[.int .i64 t234, .int .i64 t235, .string t236] 48 (0, 0)) (by (with_reducible repeat (first | refine blk_drewN ?_ _ | refine blk_drew ?_ | refine blk_alloc ?_ _)); refine blk_put (cs := #[.int .i64 t234, .int .i64 t235, .string (⟨#[]⟩ : ByteArray)]) ?_ 2 _ rfl; (with_reducible repeat (first | refine blk_drewN ?_ _ | refine blk_drew ?_ | refine blk_alloc ?_ _)); refine blk_put (cs := #[.int .i64 t234, .int .i64 0, .string (⟨#[]⟩ : ByteArray)]) ?_ 1 _ rfl; (with_reducible repeat (first | refine blk_drewN ?_ _ | refine blk_drew ?_ | refine blk_alloc ?_ _)); refine blk_put (cs := #[.int .i64 0, .int .i64 0, .string (⟨#[]⟩ : ByteArray)]) ?_ 0 _ rfl; (with_reducible repeat (first | refine blk_drewN ?_ _ | refine blk_drew ?_ | refine blk_alloc ?_ _)); exact BK238.out) hb); have n1_ := Aside0.mk (below_step (by repeat (first | (with_reducible first | exact HB.out | apply below_alloc | apply pw_below_drewN | apply below_drew1 | refine below_set ?_ GE238.out) | exact HB.out)) hb); clear BK238; clear HB; have BK238 := n0_; have HB := n1_; clear n0_ n1_; (try clear hb); (try clear hb2); (try clear hk); (try clear hi); have hcz26_0 : w25.cell? ⟨gb238, 0, none⟩ = some (.int .i64 t234) := (blk_cell BK238.out 0).trans rfl; have hcz26_1 : w25.cell? ⟨gb238, 1, none⟩ = some (.int .i64 t235) := (blk_cell BK238.out 1).trans rfl; have hcz26_2 : w25.cell? ⟨gb238, 2, none⟩ = some (.string t236) := (blk_cell BK238.out 2).trans rfl; have hfz26_0 := blk_frozen BK238.out 0; have hfz26_1 := blk_frozen BK238.out 1; have hfz26_2 := blk_frozen BK238.out 2; have p240 : 0 ≤ (x5_1 : Int) := of_decide_eq_true (by first | (with_reducible assumption) | assumption); have q240 : x5_1 < (l0.length : Int) := of_decide_eq_true (by first | (with_reducible assumption) | assumption); obtain ⟨ad240, e240, hx240_0, hx240_1, hx240_2⟩ := at_T46 HR0.out x5_1 p240 q240; obtain rfl : ad233 = ad240 := (by injection e240); replace hx240_0 := (HB.out.cell (World.block_lt_of_cell? w _ hx240_0)).trans hx240_0; replace hx240_1 := (HB.out.cell (World.block_lt_of_cell? w _ hx240_1)).trans hx240_1; replace hx240_2 := (HB.out.cell (World.block_lt_of_cell? w _ hx240_2)).trans hx240_2; replace p240 := eq_true p240; replace q240 := eq_true q240; have p241 : 0 ≤ (x5_1 : Int) := of_decide_eq_true (by first | (with_reducible assumption) | assumption); have q241 : x5_1 < (l0.length : Int) := of_decide_eq_true (by first | (with_reducible assumption) | assumption); obtain ⟨ad241, e241, hx241_0, hx241_1, hx241_2⟩ := at_T46 HR0.out x5_1 p241 q241; obtain rfl : ad233 = ad241 := (by injection e241); replace hx241_0 := (HB.out.cell (World.block_lt_of_cell? w _ hx241_0)).trans hx241_0; replace hx241_1 := (HB.out.cell (World.block_lt_of_cell? w _ hx241_1)).trans hx241_1; replace hx241_2 := (HB.out.cell (World.block_lt_of_cell? w _ hx241_2)).trans hx241_2; replace p241 := eq_true p241; replace q241 := eq_true q241)))
                    go_roundg k1
                    case measure => have := HK1.out; omega
                    case rel => exact ⟨(wrap64 (x5_1 + 1)), (by first | rfl | (simp; done) | (simp [*]; done)), H', ⟨by have := HK1.out; omega⟩, ⟨by repeat (first | (with_reducible first | exact HB.out | apply below_alloc | apply pw_below_drewN | apply below_drew1 | refine below_set ?_ GE238.out) | exact HB.out)⟩⟩
              · rw [if_neg c9] at H
                have c9b0 : (t234 == 1) = false := beq_eq_false_iff_ne.mpr c9
                have c9b1 : (t234 != 1) = true := bne_iff_ne.mpr c9
                obtain rfl := Option.some.inj H
                have p233 : 0 ≤ (x5_1 : Int) := of_decide_eq_true (by first | (with_reducible assumption) | assumption)
                have q233 : x5_1 < (l0.length : Int) := of_decide_eq_true (by first | (with_reducible assumption) | assumption)
                obtain ⟨ad233, e233, hx233_0, hx233_1, hx233_2⟩ := at_T46 HR0.out x5_1 p233 q233
                cases e233
                replace hx233_0 := (HB.out.cell (World.block_lt_of_cell? w _ hx233_0)).trans hx233_0
                replace hx233_1 := (HB.out.cell (World.block_lt_of_cell? w _ hx233_1)).trans hx233_1
                replace hx233_2 := (HB.out.cell (World.block_lt_of_cell? w _ hx233_2)).trans hx233_2
                replace p233 := eq_true p233
                replace q233 := eq_true q233
                go_wp2_with (first | (go_at_call 42; (with_reducible refine (rosetteref05_Get.calls k1 _ _ l1 ((rd_T46 l0 x5_1).f0) t234 t235 t236 true _ ?side1 ?side2 A5.out).mono ?_); (case side1 => repeat (first | exact (Kd.C_below HR1.out HB.out) | (with_reducible refine Kd.C_alloc ?_ _) | (with_reducible refine Kd.C_drewN ?_ _) | (with_reducible refine Kd.C_drew ?_))); (case side2 => exact HC1.out); rintro e w27 ⟨rfl, hb⟩; have n0_ := Aside0.mk (below_step (by repeat (first | (with_reducible first | exact HB.out | apply below_alloc | apply pw_below_drewN | apply below_drew1) | exact HB.out)) hb); clear HB; have HB := n0_; clear n0_; (try clear hb); (try clear hb2); (try clear hk); (try clear hi)) | ((with_reducible refine gate_dst (N := 6) rfl ?_); refine box_event ?hg (N := 6) ?hd (cs := #[.int .i64 0, .int .i64 0, .string (⟨#[]⟩ : ByteArray)]) (t := 48) ?hr ?_; (case hd => rfl); (case hg => rfl); (case hr => first | (go_simp; done) | (go_simp; rfl)); intro gb238 hg w28 hbox hb; have n0_ := Aside0.mk (below_step (by repeat (first | (with_reducible first | exact HB.out | apply below_alloc | apply pw_below_drewN | apply below_drew1) | exact HB.out)) hb); have n1_ := Aside0.mk (hbox); have n2_ := Aside0.mk ((by rw [hg]; exact (below_size (by repeat (first | (with_reducible first | exact HB.out | apply below_alloc | apply pw_below_drewN | apply below_drew1) | exact HB.out))) : w.heap.size ≤ gb238)); have n3_ := Aside0.mk ((by rw [hg]; exact (below_size (by repeat (first | (with_reducible first | exact HB.out | apply below_alloc | apply pw_below_drewN | apply below_drew1) | exact HB.out))) : w.heap.size ≤ gb238)); clear HB; have HB := n0_; have BK238 := n1_; have GW238 := n2_; have GE238 := n3_; clear n0_ n1_ n2_ n3_; clear hb hbox hg; have hcz29_0 : w28.cell? ⟨gb238, 0, none⟩ = some (.int .i64 0) := (blk_cell BK238.out 0).trans rfl; have hcz29_1 : w28.cell? ⟨gb238, 1, none⟩ = some (.int .i64 0) := (blk_cell BK238.out 1).trans rfl; have hcz29_2 : w28.cell? ⟨gb238, 2, none⟩ = some (.string (⟨#[]⟩ : ByteArray)) := (blk_cell BK238.out 2).trans rfl; have hfz29_0 := blk_frozen BK238.out 0; have hfz29_1 := blk_frozen BK238.out 1; have hfz29_2 := blk_frozen BK238.out 2) | (go_at_call 43; (with_reducible refine (rosetteref04_Right.calls t234 t235 t236 true _ A6.out).mono ?_); rintro e w30 ⟨rfl, hb⟩; have n0_ := Aside0.mk (blk_below (g := gb238) (o := .cells #[.int .i64 t234, .int .i64 t235, .string t236] 48 (0, 0)) (by (with_reducible repeat (first | refine blk_drewN ?_ _ | refine blk_drew ?_ | refine blk_alloc ?_ _)); refine blk_put (cs := #[.int .i64 t234, .int .i64 t235, .string (⟨#[]⟩ : ByteArray)]) ?_ 2 _ rfl; (with_reducible repeat (first | refine blk_drewN ?_ _ | refine blk_drew ?_ | refine blk_alloc ?_ _)); refine blk_put (cs := #[.int .i64 t234, .int .i64 0, .string (⟨#[]⟩ : ByteArray)]) ?_ 1 _ rfl; (with_reducible repeat (first | refine blk_drewN ?_ _ | refine blk_drew ?_ | refine blk_alloc ?_ _)); refine blk_put (cs := #[.int .i64 0, .int .i64 0, .string (⟨#[]⟩ : ByteArray)]) ?_ 0 _ rfl; (with_reducible repeat (first | refine blk_drewN ?_ _ | refine blk_drew ?_ | refine blk_alloc ?_ _)); exact BK238.out) hb); have n1_ := Aside0.mk (below_step (by repeat (first | (with_reducible first | exact HB.out | apply below_alloc | apply pw_below_drewN | apply below_drew1 | refine below_set ?_ GE238.out) | exact HB.out)) hb); clear BK238; clear HB; have BK238 := n0_; have HB := n1_; clear n0_ n1_; (try clear hb); (try clear hb2); (try clear hk); (try clear hi); have hcz31_0 : w30.cell? ⟨gb238, 0, none⟩ = some (.int .i64 t234) := (blk_cell BK238.out 0).trans rfl; have hcz31_1 : w30.cell? ⟨gb238, 1, none⟩ = some (.int .i64 t235) := (blk_cell BK238.out 1).trans rfl; have hcz31_2 : w30.cell? ⟨gb238, 2, none⟩ = some (.string t236) := (blk_cell BK238.out 2).trans rfl; have hfz31_0 := blk_frozen BK238.out 0; have hfz31_1 := blk_frozen BK238.out 1; have hfz31_2 := blk_frozen BK238.out 2))
                repeat (go_quiet (first | (go_at_call 42; (with_reducible refine (rosetteref05_Get.calls k1 _ _ l1 ((rd_T46 l0 x5_1).f0) t234 t235 t236 true _ ?side1 ?side2 A5.out).mono ?_); (case side1 => repeat (first | exact (Kd.C_below HR1.out HB.out) | (with_reducible refine Kd.C_alloc ?_ _) | (with_reducible refine Kd.C_drewN ?_ _) | (with_reducible refine Kd.C_drew ?_))); (case side2 => exact HC1.out); rintro e w27 ⟨rfl, hb⟩; have n0_ := Aside0.mk (below_step (by repeat (first | (with_reducible first | exact HB.out | apply below_alloc | apply pw_below_drewN | apply below_drew1) | exact HB.out)) hb); clear HB; have HB := n0_; clear n0_; (try clear hb); (try clear hb2); (try clear hk); (try clear hi)) | ((with_reducible refine gate_dst (N := 6) rfl ?_); refine box_event ?hg (N := 6) ?hd (cs := #[.int .i64 0, .int .i64 0, .string (⟨#[]⟩ : ByteArray)]) (t := 48) ?hr ?_; (case hd => rfl); (case hg => rfl); (case hr => first | (go_simp; done) | (go_simp; rfl)); intro gb238 hg w28 hbox hb; have n0_ := Aside0.mk (below_step (by repeat (first | (with_reducible first | exact HB.out | apply below_alloc | apply pw_below_drewN | apply below_drew1) | exact HB.out)) hb); have n1_ := Aside0.mk (hbox); have n2_ := Aside0.mk ((by rw [hg]; exact (below_size (by repeat (first | (with_reducible first | exact HB.out | apply below_alloc | apply pw_below_drewN | apply below_drew1) | exact HB.out))) : w.heap.size ≤ gb238)); have n3_ := Aside0.mk ((by rw [hg]; exact (below_size (by repeat (first | (with_reducible first | exact HB.out | apply below_alloc | apply pw_below_drewN | apply below_drew1) | exact HB.out))) : w.heap.size ≤ gb238)); clear HB; have HB := n0_; have BK238 := n1_; have GW238 := n2_; have GE238 := n3_; clear n0_ n1_ n2_ n3_; clear hb hbox hg; have hcz29_0 : w28.cell? ⟨gb238, 0, none⟩ = some (.int .i64 0) := (blk_cell BK238.out 0).trans rfl; have hcz29_1 : w28.cell? ⟨gb238, 1, none⟩ = some (.int .i64 0) := (blk_cell BK238.out 1).trans rfl; have hcz29_2 : w28.cell? ⟨gb238, 2, none⟩ = some (.string (⟨#[]⟩ : ByteArray)) := (blk_cell BK238.out 2).trans rfl; have hfz29_0 := blk_frozen BK238.out 0; have hfz29_1 := blk_frozen BK238.out 1; have hfz29_2 := blk_frozen BK238.out 2) | (go_at_call 43; (with_reducible refine (rosetteref04_Right.calls t234 t235 t236 true _ A6.out).mono ?_); rintro e w30 ⟨rfl, hb⟩; have n0_ := Aside0.mk (blk_below (g := gb238) (o := .cells #[.int .i64 t234, .int .i64 t235, .string t236] 48 (0, 0)) (by (with_reducible repeat (first | refine blk_drewN ?_ _ | refine blk_drew ?_ | refine blk_alloc ?_ _)); refine blk_put (cs := #[.int .i64 t234, .int .i64 t235, .string (⟨#[]⟩ : ByteArray)]) ?_ 2 _ rfl; (with_reducible repeat (first | refine blk_drewN ?_ _ | refine blk_drew ?_ | refine blk_alloc ?_ _)); refine blk_put (cs := #[.int .i64 t234, .int .i64 0, .string (⟨#[]⟩ : ByteArray)]) ?_ 1 _ rfl; (with_reducible repeat (first | refine blk_drewN ?_ _ | refine blk_drew ?_ | refine blk_alloc ?_ _)); refine blk_put (cs := #[.int .i64 0, .int .i64 0, .string (⟨#[]⟩ : ByteArray)]) ?_ 0 _ rfl; (with_reducible repeat (first | refine blk_drewN ?_ _ | refine blk_drew ?_ | refine blk_alloc ?_ _)); exact BK238.out) hb); have n1_ := Aside0.mk (below_step (by repeat (first | (with_reducible first | exact HB.out | apply below_alloc | apply pw_below_drewN | apply below_drew1 | refine below_set ?_ GE238.out) | exact HB.out)) hb); clear BK238; clear HB; have BK238 := n0_; have HB := n1_; clear n0_ n1_; (try clear hb); (try clear hb2); (try clear hk); (try clear hi); have hcz31_0 : w30.cell? ⟨gb238, 0, none⟩ = some (.int .i64 t234) := (blk_cell BK238.out 0).trans rfl; have hcz31_1 : w30.cell? ⟨gb238, 1, none⟩ = some (.int .i64 t235) := (blk_cell BK238.out 1).trans rfl; have hcz31_2 : w30.cell? ⟨gb238, 2, none⟩ = some (.string t236) := (blk_cell BK238.out 2).trans rfl; have hfz31_0 := blk_frozen BK238.out 0; have hfz31_1 := blk_frozen BK238.out 1; have hfz31_2 := blk_frozen BK238.out 2)); try go_wp2_with (first | (go_at_call 42; (with_reducible refine (rosetteref05_Get.calls k1 _ _ l1 ((rd_T46 l0 x5_1).f0) t234 t235 t236 true _ ?side1 ?side2 A5.out).mono ?_); (case side1 => repeat (first | exact (Kd.C_below HR1.out HB.out) | (with_reducible refine Kd.C_alloc ?_ _) | (with_reducible refine Kd.C_drewN ?_ _) | (with_reducible refine Kd.C_drew ?_))); (case side2 => exact HC1.out); rintro e w27 ⟨rfl, hb⟩; have n0_ := Aside0.mk (below_step (by repeat (first | (with_reducible first | exact HB.out | apply below_alloc | apply pw_below_drewN | apply below_drew1) | exact HB.out)) hb); clear HB; have HB := n0_; clear n0_; (try clear hb); (try clear hb2); (try clear hk); (try clear hi)) | ((with_reducible refine gate_dst (N := 6) rfl ?_); refine box_event ?hg (N := 6) ?hd (cs := #[.int .i64 0, .int .i64 0, .string (⟨#[]⟩ : ByteArray)]) (t := 48) ?hr ?_; (case hd => rfl); (case hg => rfl); (case hr => first | (go_simp; done) | (go_simp; rfl)); intro gb238 hg w28 hbox hb; have n0_ := Aside0.mk (below_step (by repeat (first | (with_reducible first | exact HB.out | apply below_alloc | apply pw_below_drewN | apply below_drew1) | exact HB.out)) hb); have n1_ := Aside0.mk (hbox); have n2_ := Aside0.mk ((by rw [hg]; exact (below_size (by repeat (first | (with_reducible first | exact HB.out | apply below_alloc | apply pw_below_drewN | apply below_drew1) | exact HB.out))) : w.heap.size ≤ gb238)); have n3_ := Aside0.mk ((by rw [hg]; exact (below_size (by repeat (first | (with_reducible first | exact HB.out | apply below_alloc | apply pw_below_drewN | apply below_drew1) | exact HB.out))) : w.heap.size ≤ gb238)); clear HB; have HB := n0_; have BK238 := n1_; have GW238 := n2_; have GE238 := n3_; clear n0_ n1_ n2_ n3_; clear hb hbox hg; have hcz29_0 : w28.cell? ⟨gb238, 0, none⟩ = some (.int .i64 0) := (blk_cell BK238.out 0).trans rfl; have hcz29_1 : w28.cell? ⟨gb238, 1, none⟩ = some (.int .i64 0) := (blk_cell BK238.out 1).trans rfl; have hcz29_2 : w28.cell? ⟨gb238, 2, none⟩ = some (.string (⟨#[]⟩ : ByteArray)) := (blk_cell BK238.out 2).trans rfl; have hfz29_0 := blk_frozen BK238.out 0; have hfz29_1 := blk_frozen BK238.out 1; have hfz29_2 := blk_frozen BK238.out 2) | (go_at_call 43; (with_reducible refine (rosetteref04_Right.calls t234 t235 t236 true _ A6.out).mono ?_); rintro e w30 ⟨rfl, hb⟩; have n0_ := Aside0.mk (blk_below (g := gb238) (o := .cells #[.int .i64 t234, .int .i64 t235, .string t236] 48 (0, 0)) (by (with_reducible repeat (first | refine blk_drewN ?_ _ | refine blk_drew ?_ | refine blk_alloc ?_ _)); refine blk_put (cs := #[.int .i64 t234, .int .i64 t235, .string (⟨#[]⟩ : ByteArray)]) ?_ 2 _ rfl; (with_reducible repeat (first | refine blk_drewN ?_ _ | refine blk_drew ?_ | refine blk_alloc ?_ _)); refine blk_put (cs := #[.int .i64 t234, .int .i64 0, .string (⟨#[]⟩ : ByteArray)]) ?_ 1 _ rfl; (with_reducible repeat (first | refine blk_drewN ?_ _ | refine blk_drew ?_ | refine blk_alloc ?_ _)); refine blk_put (cs := #[.int .i64 0, .int .i64 0, .string (⟨#[]⟩ : ByteArray)]) ?_ 0 _ rfl; (with_reducible repeat (first | refine blk_drewN ?_ _ | refine blk_drew ?_ | refine blk_alloc ?_ _)); exact BK238.out) hb); have n1_ := Aside0.mk (below_step (by repeat (first | (with_reducible first | exact HB.out | apply below_alloc | apply pw_below_drewN | apply below_drew1 | refine below_set ?_ GE238.out) | exact HB.out)) hb); clear BK238; clear HB; have BK238 := n0_; have HB := n1_; clear n0_ n1_; (try clear hb); (try clear hb2); (try clear hk); (try clear hi); have hcz31_0 : w30.cell? ⟨gb238, 0, none⟩ = some (.int .i64 t234) := (blk_cell BK238.out 0).trans rfl; have hcz31_1 : w30.cell? ⟨gb238, 1, none⟩ = some (.int .i64 t235) := (blk_cell BK238.out 1).trans rfl; have hcz31_2 : w30.cell? ⟨gb238, 2, none⟩ = some (.string t236) := (blk_cell BK238.out 2).trans rfl; have hfz31_0 := blk_frozen BK238.out 0; have hfz31_1 := blk_frozen BK238.out 1; have hfz31_2 := blk_frozen BK238.out 2)))
                go_ret
                exact ⟨by first | rfl | (simp [errW_none, errW_some] <;> rfl) | (simp [*, errW_none, errW_some] <;> rfl), by repeat (first | (with_reducible first | exact HB.out | apply below_alloc | apply pw_below_drewN | apply below_drew1 | refine below_set ?_ GE238.out) | exact HB.out)⟩
            · replace c8 := Bool.eq_false_iff.mpr c8
              subst c8
              have H1 : (some false) = some r := by rw [if_neg (show ¬ (false = true) by decide)] at H; exact H
              clear H
              have H := H1
              clear H1
              obtain rfl := Option.some.inj H
              have p233 : 0 ≤ (x5_1 : Int) := of_decide_eq_true (by first | (with_reducible assumption) | assumption)
              have q233 : x5_1 < (l0.length : Int) := of_decide_eq_true (by first | (with_reducible assumption) | assumption)
              obtain ⟨ad233, e233, hx233_0, hx233_1, hx233_2⟩ := at_T46 HR0.out x5_1 p233 q233
              cases e233
              replace hx233_0 := (HB.out.cell (World.block_lt_of_cell? w _ hx233_0)).trans hx233_0
              replace hx233_1 := (HB.out.cell (World.block_lt_of_cell? w _ hx233_1)).trans hx233_1
              replace hx233_2 := (HB.out.cell (World.block_lt_of_cell? w _ hx233_2)).trans hx233_2
              replace p233 := eq_true p233
              replace q233 := eq_true q233
              go_wp2_with (first | (go_at_call 42; (with_reducible refine (rosetteref05_Get.calls k1 _ _ l1 ((rd_T46 l0 x5_1).f0) t234 t235 t236 true _ ?side1 ?side2 A5.out).mono ?_); (case side1 => repeat (first | exact (Kd.C_below HR1.out HB.out) | (with_reducible refine Kd.C_alloc ?_ _) | (with_reducible refine Kd.C_drewN ?_ _) | (with_reducible refine Kd.C_drew ?_))); (case side2 => exact HC1.out); rintro e w32 ⟨rfl, hb⟩; have n0_ := Aside0.mk (below_step (by repeat (first | (with_reducible first | exact HB.out | apply below_alloc | apply pw_below_drewN | apply below_drew1) | exact HB.out)) hb); clear HB; have HB := n0_; clear n0_; (try clear hb); (try clear hb2); (try clear hk); (try clear hi)) | ((with_reducible refine gate_dst (N := 6) rfl ?_); refine box_event ?hg (N := 6) ?hd (cs := #[.int .i64 0, .int .i64 0, .string (⟨#[]⟩ : ByteArray)]) (t := 48) ?hr ?_; (case hd => rfl); (case hg => rfl); (case hr => first | (go_simp; done) | (go_simp; rfl)); intro gb238 hg w33 hbox hb; have n0_ := Aside0.mk (below_step (by repeat (first | (with_reducible first | exact HB.out | apply below_alloc | apply pw_below_drewN | apply below_drew1) | exact HB.out)) hb); have n1_ := Aside0.mk (hbox); have n2_ := Aside0.mk ((by rw [hg]; exact (below_size (by repeat (first | (with_reducible first | exact HB.out | apply below_alloc | apply pw_below_drewN | apply below_drew1) | exact HB.out))) : w.heap.size ≤ gb238)); have n3_ := Aside0.mk ((by rw [hg]; exact (below_size (by repeat (first | (with_reducible first | exact HB.out | apply below_alloc | apply pw_below_drewN | apply below_drew1) | exact HB.out))) : w.heap.size ≤ gb238)); clear HB; have HB := n0_; have BK238 := n1_; have GW238 := n2_; have GE238 := n3_; clear n0_ n1_ n2_ n3_; clear hb hbox hg; have hcz34_0 : w33.cell? ⟨gb238, 0, none⟩ = some (.int .i64 0) := (blk_cell BK238.out 0).trans rfl; have hcz34_1 : w33.cell? ⟨gb238, 1, none⟩ = some (.int .i64 0) := (blk_cell BK238.out 1).trans rfl; have hcz34_2 : w33.cell? ⟨gb238, 2, none⟩ = some (.string (⟨#[]⟩ : ByteArray)) := (blk_cell BK238.out 2).trans rfl; have hfz34_0 := blk_frozen BK238.out 0; have hfz34_1 := blk_frozen BK238.out 1; have hfz34_2 := blk_frozen BK238.out 2) | (go_at_call 43; (with_reducible refine (rosetteref04_Right.calls t234 t235 t236 false _ A6.out).mono ?_); rintro e w35 ⟨rfl, hb⟩; have n0_ := Aside0.mk (blk_below (g := gb238) (o := .cells #[.int .i64 t234, .int .i64 t235, .string t236] 48 (0, 0)) (by (with_reducible repeat (first | refine blk_drewN ?_ _ | refine blk_drew ?_ | refine blk_alloc ?_ _)); refine blk_put (cs := #[.int .i64 t234, .int .i64 t235, .string (⟨#[]⟩ : ByteArray)]) ?_ 2 _ rfl; (with_reducible repeat (first | refine blk_drewN ?_ _ | refine blk_drew ?_ | refine blk_alloc ?_ _)); refine blk_put (cs := #[.int .i64 t234, .int .i64 0, .string (⟨#[]⟩ : ByteArray)]) ?_ 1 _ rfl; (with_reducible repeat (first | refine blk_drewN ?_ _ | refine blk_drew ?_ | refine blk_alloc ?_ _)); refine blk_put (cs := #[.int .i64 0, .int .i64 0, .string (⟨#[]⟩ : ByteArray)]) ?_ 0 _ rfl; (with_reducible repeat (first | refine blk_drewN ?_ _ | refine blk_drew ?_ | refine blk_alloc ?_ _)); exact BK238.out) hb); have n1_ := Aside0.mk (below_step (by repeat (first | (with_reducible first | exact HB.out | apply below_alloc | apply pw_below_drewN | apply below_drew1 | refine below_set ?_ GE238.out) | exact HB.out)) hb); clear BK238; clear HB; have BK238 := n0_; have HB := n1_; clear n0_ n1_; (try clear hb); (try clear hb2); (try clear hk); (try clear hi)))
              repeat (go_quiet (first | (go_at_call 42; (with_reducible refine (rosetteref05_Get.calls k1 _ _ l1 ((rd_T46 l0 x5_1).f0) t234 t235 t236 true _ ?side1 ?side2 A5.out).mono ?_); (case side1 => repeat (first | exact (Kd.C_below HR1.out HB.out) | (with_reducible refine Kd.C_alloc ?_ _) | (with_reducible refine Kd.C_drewN ?_ _) | (with_reducible refine Kd.C_drew ?_))); (case side2 => exact HC1.out); rintro e w32 ⟨rfl, hb⟩; have n0_ := Aside0.mk (below_step (by repeat (first | (with_reducible first | exact HB.out | apply below_alloc | apply pw_below_drewN | apply below_drew1) | exact HB.out)) hb); clear HB; have HB := n0_; clear n0_; (try clear hb); (try clear hb2); (try clear hk); (try clear hi)) | ((with_reducible refine gate_dst (N := 6) rfl ?_); refine box_event ?hg (N := 6) ?hd (cs := #[.int .i64 0, .int .i64 0, .string (⟨#[]⟩ : ByteArray)]) (t := 48) ?hr ?_; (case hd => rfl); (case hg => rfl); (case hr => first | (go_simp; done) | (go_simp; rfl)); intro gb238 hg w33 hbox hb; have n0_ := Aside0.mk (below_step (by repeat (first | (with_reducible first | exact HB.out | apply below_alloc | apply pw_below_drewN | apply below_drew1) | exact HB.out)) hb); have n1_ := Aside0.mk (hbox); have n2_ := Aside0.mk ((by rw [hg]; exact (below_size (by repeat (first | (with_reducible first | exact HB.out | apply below_alloc | apply pw_below_drewN | apply below_drew1) | exact HB.out))) : w.heap.size ≤ gb238)); have n3_ := Aside0.mk ((by rw [hg]; exact (below_size (by repeat (first | (with_reducible first | exact HB.out | apply below_alloc | apply pw_below_drewN | apply below_drew1) | exact HB.out))) : w.heap.size ≤ gb238)); clear HB; have HB := n0_; have BK238 := n1_; have GW238 := n2_; have GE238 := n3_; clear n0_ n1_ n2_ n3_; clear hb hbox hg; have hcz34_0 : w33.cell? ⟨gb238, 0, none⟩ = some (.int .i64 0) := (blk_cell BK238.out 0).trans rfl; have hcz34_1 : w33.cell? ⟨gb238, 1, none⟩ = some (.int .i64 0) := (blk_cell BK238.out 1).trans rfl; have hcz34_2 : w33.cell? ⟨gb238, 2, none⟩ = some (.string (⟨#[]⟩ : ByteArray)) := (blk_cell BK238.out 2).trans rfl; have hfz34_0 := blk_frozen BK238.out 0; have hfz34_1 := blk_frozen BK238.out 1; have hfz34_2 := blk_frozen BK238.out 2) | (go_at_call 43; (with_reducible refine (rosetteref04_Right.calls t234 t235 t236 false _ A6.out).mono ?_); rintro e w35 ⟨rfl, hb⟩; have n0_ := Aside0.mk (blk_below (g := gb238) (o := .cells #[.int .i64 t234, .int .i64 t235, .string t236] 48 (0, 0)) (by (with_reducible repeat (first | refine blk_drewN ?_ _ | refine blk_drew ?_ | refine blk_alloc ?_ _)); refine blk_put (cs := #[.int .i64 t234, .int .i64 t235, .string (⟨#[]⟩ : ByteArray)]) ?_ 2 _ rfl; (with_reducible repeat (first | refine blk_drewN ?_ _ | refine blk_drew ?_ | refine blk_alloc ?_ _)); refine blk_put (cs := #[.int .i64 t234, .int .i64 0, .string (⟨#[]⟩ : ByteArray)]) ?_ 1 _ rfl; (with_reducible repeat (first | refine blk_drewN ?_ _ | refine blk_drew ?_ | refine blk_alloc ?_ _)); refine blk_put (cs := #[.int .i64 0, .int .i64 0, .string (⟨#[]⟩ : ByteArray)]) ?_ 0 _ rfl; (with_reducible repeat (first | refine blk_drewN ?_ _ | refine blk_drew ?_ | refine blk_alloc ?_ _)); exact BK238.out) hb); have n1_ := Aside0.mk (below_step (by repeat (first | (with_reducible first | exact HB.out | apply below_alloc | apply pw_below_drewN | apply below_drew1 | refine below_set ?_ GE238.out) | exact HB.out)) hb); clear BK238; clear HB; have BK238 := n0_; have HB := n1_; clear n0_ n1_; (try clear hb); (try clear hb2); (try clear hk); (try clear hi))); try go_wp2_with (first | (go_at_call 42; (with_reducible refine (rosetteref05_Get.calls k1 _ _ l1 ((rd_T46 l0 x5_1).f0) t234 t235 t236 true _ ?side1 ?side2 A5.out).mono ?_); (case side1 => repeat (first | exact (Kd.C_below HR1.out HB.out) | (with_reducible refine Kd.C_alloc ?_ _) | (with_reducible refine Kd.C_drewN ?_ _) | (with_reducible refine Kd.C_drew ?_))); (case side2 => exact HC1.out); rintro e w32 ⟨rfl, hb⟩; have n0_ := Aside0.mk (below_step (by repeat (first | (with_reducible first | exact HB.out | apply below_alloc | apply pw_below_drewN | apply below_drew1) | exact HB.out)) hb); clear HB; have HB := n0_; clear n0_; (try clear hb); (try clear hb2); (try clear hk); (try clear hi)) | ((with_reducible refine gate_dst (N := 6) rfl ?_); refine box_event ?hg (N := 6) ?hd (cs := #[.int .i64 0, .int .i64 0, .string (⟨#[]⟩ : ByteArray)]) (t := 48) ?hr ?_; (case hd => rfl); (case hg => rfl); (case hr => first | (go_simp; done) | (go_simp; rfl)); intro gb238 hg w33 hbox hb; have n0_ := Aside0.mk (below_step (by repeat (first | (with_reducible first | exact HB.out | apply below_alloc | apply pw_below_drewN | apply below_drew1) | exact HB.out)) hb); have n1_ := Aside0.mk (hbox); have n2_ := Aside0.mk ((by rw [hg]; exact (below_size (by repeat (first | (with_reducible first | exact HB.out | apply below_alloc | apply pw_below_drewN | apply below_drew1) | exact HB.out))) : w.heap.size ≤ gb238)); have n3_ := Aside0.mk ((by rw [hg]; exact (below_size (by repeat (first | (with_reducible first | exact HB.out | apply below_alloc | apply pw_below_drewN | apply below_drew1) | exact HB.out))) : w.heap.size ≤ gb238)); clear HB; have HB := n0_; have BK238 := n1_; have GW238 := n2_; have GE238 := n3_; clear n0_ n1_ n2_ n3_; clear hb hbox hg; have hcz34_0 : w33.cell? ⟨gb238, 0, none⟩ = some (.int .i64 0) := (blk_cell BK238.out 0).trans rfl; have hcz34_1 : w33.cell? ⟨gb238, 1, none⟩ = some (.int .i64 0) := (blk_cell BK238.out 1).trans rfl; have hcz34_2 : w33.cell? ⟨gb238, 2, none⟩ = some (.string (⟨#[]⟩ : ByteArray)) := (blk_cell BK238.out 2).trans rfl; have hfz34_0 := blk_frozen BK238.out 0; have hfz34_1 := blk_frozen BK238.out 1; have hfz34_2 := blk_frozen BK238.out 2) | (go_at_call 43; (with_reducible refine (rosetteref04_Right.calls t234 t235 t236 false _ A6.out).mono ?_); rintro e w35 ⟨rfl, hb⟩; have n0_ := Aside0.mk (blk_below (g := gb238) (o := .cells #[.int .i64 t234, .int .i64 t235, .string t236] 48 (0, 0)) (by (with_reducible repeat (first | refine blk_drewN ?_ _ | refine blk_drew ?_ | refine blk_alloc ?_ _)); refine blk_put (cs := #[.int .i64 t234, .int .i64 t235, .string (⟨#[]⟩ : ByteArray)]) ?_ 2 _ rfl; (with_reducible repeat (first | refine blk_drewN ?_ _ | refine blk_drew ?_ | refine blk_alloc ?_ _)); refine blk_put (cs := #[.int .i64 t234, .int .i64 0, .string (⟨#[]⟩ : ByteArray)]) ?_ 1 _ rfl; (with_reducible repeat (first | refine blk_drewN ?_ _ | refine blk_drew ?_ | refine blk_alloc ?_ _)); refine blk_put (cs := #[.int .i64 0, .int .i64 0, .string (⟨#[]⟩ : ByteArray)]) ?_ 0 _ rfl; (with_reducible repeat (first | refine blk_drewN ?_ _ | refine blk_drew ?_ | refine blk_alloc ?_ _)); exact BK238.out) hb); have n1_ := Aside0.mk (below_step (by repeat (first | (with_reducible first | exact HB.out | apply below_alloc | apply pw_below_drewN | apply below_drew1 | refine below_set ?_ GE238.out) | exact HB.out)) hb); clear BK238; clear HB; have BK238 := n0_; have HB := n1_; clear n0_ n1_; (try clear hb); (try clear hb2); (try clear hk); (try clear hi))))
              go_ret
              exact ⟨by first | rfl | (simp [errW_none, errW_some] <;> rfl) | (simp [*, errW_none, errW_some] <;> rfl), by repeat (first | (with_reducible first | exact HB.out | apply below_alloc | apply pw_below_drewN | apply below_drew1 | refine below_set ?_ GE238.out) | exact HB.out)⟩
          · replace c7 := Bool.eq_false_iff.mpr c7
            subst c7
            have H1 : (some false) = some r := by rw [if_neg (show ¬ (false = true) by decide)] at H; exact H
            clear H
            have H := H1
            clear H1
            obtain rfl := Option.some.inj H
            have p233 : 0 ≤ (x5_1 : Int) := of_decide_eq_true (by first | (with_reducible assumption) | assumption)
            have q233 : x5_1 < (l0.length : Int) := of_decide_eq_true (by first | (with_reducible assumption) | assumption)
            obtain ⟨ad233, e233, hx233_0, hx233_1, hx233_2⟩ := at_T46 HR0.out x5_1 p233 q233
            cases e233
            replace hx233_0 := (HB.out.cell (World.block_lt_of_cell? w _ hx233_0)).trans hx233_0
            replace hx233_1 := (HB.out.cell (World.block_lt_of_cell? w _ hx233_1)).trans hx233_1
            replace hx233_2 := (HB.out.cell (World.block_lt_of_cell? w _ hx233_2)).trans hx233_2
            replace p233 := eq_true p233
            replace q233 := eq_true q233
            go_wp2_with (first | (go_at_call 42; (with_reducible refine (rosetteref05_Get.calls k1 _ _ l1 ((rd_T46 l0 x5_1).f0) t234 t235 t236 false _ ?side1 ?side2 A5.out).mono ?_); (case side1 => repeat (first | exact (Kd.C_below HR1.out HB.out) | (with_reducible refine Kd.C_alloc ?_ _) | (with_reducible refine Kd.C_drewN ?_ _) | (with_reducible refine Kd.C_drew ?_))); (case side2 => exact HC1.out); rintro e w36 ⟨rfl, hb⟩; have n0_ := Aside0.mk (below_step (by repeat (first | (with_reducible first | exact HB.out | apply below_alloc | apply pw_below_drewN | apply below_drew1) | exact HB.out)) hb); clear HB; have HB := n0_; clear n0_; (try clear hb); (try clear hb2); (try clear hk); (try clear hi)) | ((with_reducible refine gate_dst (N := 6) rfl ?_); refine box_event ?hg (N := 6) ?hd (cs := #[.int .i64 0, .int .i64 0, .string (⟨#[]⟩ : ByteArray)]) (t := 48) ?hr ?_; (case hd => rfl); (case hg => rfl); (case hr => first | (go_simp; done) | (go_simp; rfl)); intro gb238 hg w37 hbox hb; have n0_ := Aside0.mk (below_step (by repeat (first | (with_reducible first | exact HB.out | apply below_alloc | apply pw_below_drewN | apply below_drew1) | exact HB.out)) hb); have n1_ := Aside0.mk (hbox); have n2_ := Aside0.mk ((by rw [hg]; exact (below_size (by repeat (first | (with_reducible first | exact HB.out | apply below_alloc | apply pw_below_drewN | apply below_drew1) | exact HB.out))) : w.heap.size ≤ gb238)); have n3_ := Aside0.mk ((by rw [hg]; exact (below_size (by repeat (first | (with_reducible first | exact HB.out | apply below_alloc | apply pw_below_drewN | apply below_drew1) | exact HB.out))) : w.heap.size ≤ gb238)); clear HB; have HB := n0_; have BK238 := n1_; have GW238 := n2_; have GE238 := n3_; clear n0_ n1_ n2_ n3_; clear hb hbox hg; have hcz38_0 : w37.cell? ⟨gb238, 0, none⟩ = some (.int .i64 0) := (blk_cell BK238.out 0).trans rfl; have hcz38_1 : w37.cell? ⟨gb238, 1, none⟩ = some (.int .i64 0) := (blk_cell BK238.out 1).trans rfl; have hcz38_2 : w37.cell? ⟨gb238, 2, none⟩ = some (.string (⟨#[]⟩ : ByteArray)) := (blk_cell BK238.out 2).trans rfl; have hfz38_0 := blk_frozen BK238.out 0; have hfz38_1 := blk_frozen BK238.out 1; have hfz38_2 := blk_frozen BK238.out 2) | (go_at_call 43; (with_reducible refine (rosetteref04_Right.calls t234 t235 t236 t239 _ A6.out).mono ?_); rintro e w39 ⟨rfl, hb⟩; have n0_ := Aside0.mk (blk_below (g := gb238) (o := .cells #[.int .i64 t234, .int .i64 t235, .string t236] 48 (0, 0)) (by (with_reducible repeat (first | refine blk_drewN ?_ _ | refine blk_drew ?_ | refine blk_alloc ?_ _)); refine blk_put (cs := #[.int .i64 t234, .int .i64 t235, .string (⟨#[]⟩ : ByteArray)]) ?_ 2 _ rfl; (with_reducible repeat (first | refine blk_drewN ?_ _ | refine blk_drew ?_ | refine blk_alloc ?_ _)); refine blk_put (cs := #[.int .i64 t234, .int .i64 0, .string (⟨#[]⟩ : ByteArray)]) ?_ 1 _ rfl; (with_reducible repeat (first | refine blk_drewN ?_ _ | refine blk_drew ?_ | refine blk_alloc ?_ _)); refine blk_put (cs := #[.int .i64 0, .int .i64 0, .string (⟨#[]⟩ : ByteArray)]) ?_ 0 _ rfl; (with_reducible repeat (first | refine blk_drewN ?_ _ | refine blk_drew ?_ | refine blk_alloc ?_ _)); exact BK238.out) hb); have n1_ := Aside0.mk (below_step (by repeat (first | (with_reducible first | exact HB.out | apply below_alloc | apply pw_below_drewN | apply below_drew1 | refine below_set ?_ GE238.out) | exact HB.out)) hb); clear BK238; clear HB; have BK238 := n0_; have HB := n1_; clear n0_ n1_; (try clear hb); (try clear hb2); (try clear hk); (try clear hi)))
            repeat (go_quiet (first | (go_at_call 42; (with_reducible refine (rosetteref05_Get.calls k1 _ _ l1 ((rd_T46 l0 x5_1).f0) t234 t235 t236 false _ ?side1 ?side2 A5.out).mono ?_); (case side1 => repeat (first | exact (Kd.C_below HR1.out HB.out) | (with_reducible refine Kd.C_alloc ?_ _) | (with_reducible refine Kd.C_drewN ?_ _) | (with_reducible refine Kd.C_drew ?_))); (case side2 => exact HC1.out); rintro e w36 ⟨rfl, hb⟩; have n0_ := Aside0.mk (below_step (by repeat (first | (with_reducible first | exact HB.out | apply below_alloc | apply pw_below_drewN | apply below_drew1) | exact HB.out)) hb); clear HB; have HB := n0_; clear n0_; (try clear hb); (try clear hb2); (try clear hk); (try clear hi)) | ((with_reducible refine gate_dst (N := 6) rfl ?_); refine box_event ?hg (N := 6) ?hd (cs := #[.int .i64 0, .int .i64 0, .string (⟨#[]⟩ : ByteArray)]) (t := 48) ?hr ?_; (case hd => rfl); (case hg => rfl); (case hr => first | (go_simp; done) | (go_simp; rfl)); intro gb238 hg w37 hbox hb; have n0_ := Aside0.mk (below_step (by repeat (first | (with_reducible first | exact HB.out | apply below_alloc | apply pw_below_drewN | apply below_drew1) | exact HB.out)) hb); have n1_ := Aside0.mk (hbox); have n2_ := Aside0.mk ((by rw [hg]; exact (below_size (by repeat (first | (with_reducible first | exact HB.out | apply below_alloc | apply pw_below_drewN | apply below_drew1) | exact HB.out))) : w.heap.size ≤ gb238)); have n3_ := Aside0.mk ((by rw [hg]; exact (below_size (by repeat (first | (with_reducible first | exact HB.out | apply below_alloc | apply pw_below_drewN | apply below_drew1) | exact HB.out))) : w.heap.size ≤ gb238)); clear HB; have HB := n0_; have BK238 := n1_; have GW238 := n2_; have GE238 := n3_; clear n0_ n1_ n2_ n3_; clear hb hbox hg; have hcz38_0 : w37.cell? ⟨gb238, 0, none⟩ = some (.int .i64 0) := (blk_cell BK238.out 0).trans rfl; have hcz38_1 : w37.cell? ⟨gb238, 1, none⟩ = some (.int .i64 0) := (blk_cell BK238.out 1).trans rfl; have hcz38_2 : w37.cell? ⟨gb238, 2, none⟩ = some (.string (⟨#[]⟩ : ByteArray)) := (blk_cell BK238.out 2).trans rfl; have hfz38_0 := blk_frozen BK238.out 0; have hfz38_1 := blk_frozen BK238.out 1; have hfz38_2 := blk_frozen BK238.out 2) | (go_at_call 43; (with_reducible refine (rosetteref04_Right.calls t234 t235 t236 t239 _ A6.out).mono ?_); rintro e w39 ⟨rfl, hb⟩; have n0_ := Aside0.mk (blk_below (g := gb238) (o := .cells #[.int .i64 t234, .int .i64 t235, .string t236] 48 (0, 0)) (by (with_reducible repeat (first | refine blk_drewN ?_ _ | refine blk_drew ?_ | refine blk_alloc ?_ _)); refine blk_put (cs := #[.int .i64 t234, .int .i64 t235, .string (⟨#[]⟩ : ByteArray)]) ?_ 2 _ rfl; (with_reducible repeat (first | refine blk_drewN ?_ _ | refine blk_drew ?_ | refine blk_alloc ?_ _)); refine blk_put (cs := #[.int .i64 t234, .int .i64 0, .string (⟨#[]⟩ : ByteArray)]) ?_ 1 _ rfl; (with_reducible repeat (first | refine blk_drewN ?_ _ | refine blk_drew ?_ | refine blk_alloc ?_ _)); refine blk_put (cs := #[.int .i64 0, .int .i64 0, .string (⟨#[]⟩ : ByteArray)]) ?_ 0 _ rfl; (with_reducible repeat (first | refine blk_drewN ?_ _ | refine blk_drew ?_ | refine blk_alloc ?_ _)); exact BK238.out) hb); have n1_ := Aside0.mk (below_step (by repeat (first | (with_reducible first | exact HB.out | apply below_alloc | apply pw_below_drewN | apply below_drew1 | refine below_set ?_ GE238.out) | exact HB.out)) hb); clear BK238; clear HB; have BK238 := n0_; have HB := n1_; clear n0_ n1_; (try clear hb); (try clear hb2); (try clear hk); (try clear hi))); try go_wp2_with (first | (go_at_call 42; (with_reducible refine (rosetteref05_Get.calls k1 _ _ l1 ((rd_T46 l0 x5_1).f0) t234 t235 t236 false _ ?side1 ?side2 A5.out).mono ?_); (case side1 => repeat (first | exact (Kd.C_below HR1.out HB.out) | (with_reducible refine Kd.C_alloc ?_ _) | (with_reducible refine Kd.C_drewN ?_ _) | (with_reducible refine Kd.C_drew ?_))); (case side2 => exact HC1.out); rintro e w36 ⟨rfl, hb⟩; have n0_ := Aside0.mk (below_step (by repeat (first | (with_reducible first | exact HB.out | apply below_alloc | apply pw_below_drewN | apply below_drew1) | exact HB.out)) hb); clear HB; have HB := n0_; clear n0_; (try clear hb); (try clear hb2); (try clear hk); (try clear hi)) | ((with_reducible refine gate_dst (N := 6) rfl ?_); refine box_event ?hg (N := 6) ?hd (cs := #[.int .i64 0, .int .i64 0, .string (⟨#[]⟩ : ByteArray)]) (t := 48) ?hr ?_; (case hd => rfl); (case hg => rfl); (case hr => first | (go_simp; done) | (go_simp; rfl)); intro gb238 hg w37 hbox hb; have n0_ := Aside0.mk (below_step (by repeat (first | (with_reducible first | exact HB.out | apply below_alloc | apply pw_below_drewN | apply below_drew1) | exact HB.out)) hb); have n1_ := Aside0.mk (hbox); have n2_ := Aside0.mk ((by rw [hg]; exact (below_size (by repeat (first | (with_reducible first | exact HB.out | apply below_alloc | apply pw_below_drewN | apply below_drew1) | exact HB.out))) : w.heap.size ≤ gb238)); have n3_ := Aside0.mk ((by rw [hg]; exact (below_size (by repeat (first | (with_reducible first | exact HB.out | apply below_alloc | apply pw_below_drewN | apply below_drew1) | exact HB.out))) : w.heap.size ≤ gb238)); clear HB; have HB := n0_; have BK238 := n1_; have GW238 := n2_; have GE238 := n3_; clear n0_ n1_ n2_ n3_; clear hb hbox hg; have hcz38_0 : w37.cell? ⟨gb238, 0, none⟩ = some (.int .i64 0) := (blk_cell BK238.out 0).trans rfl; have hcz38_1 : w37.cell? ⟨gb238, 1, none⟩ = some (.int .i64 0) := (blk_cell BK238.out 1).trans rfl; have hcz38_2 : w37.cell? ⟨gb238, 2, none⟩ = some (.string (⟨#[]⟩ : ByteArray)) := (blk_cell BK238.out 2).trans rfl; have hfz38_0 := blk_frozen BK238.out 0; have hfz38_1 := blk_frozen BK238.out 1; have hfz38_2 := blk_frozen BK238.out 2) | (go_at_call 43; (with_reducible refine (rosetteref04_Right.calls t234 t235 t236 t239 _ A6.out).mono ?_); rintro e w39 ⟨rfl, hb⟩; have n0_ := Aside0.mk (blk_below (g := gb238) (o := .cells #[.int .i64 t234, .int .i64 t235, .string t236] 48 (0, 0)) (by (with_reducible repeat (first | refine blk_drewN ?_ _ | refine blk_drew ?_ | refine blk_alloc ?_ _)); refine blk_put (cs := #[.int .i64 t234, .int .i64 t235, .string (⟨#[]⟩ : ByteArray)]) ?_ 2 _ rfl; (with_reducible repeat (first | refine blk_drewN ?_ _ | refine blk_drew ?_ | refine blk_alloc ?_ _)); refine blk_put (cs := #[.int .i64 t234, .int .i64 0, .string (⟨#[]⟩ : ByteArray)]) ?_ 1 _ rfl; (with_reducible repeat (first | refine blk_drewN ?_ _ | refine blk_drew ?_ | refine blk_alloc ?_ _)); refine blk_put (cs := #[.int .i64 0, .int .i64 0, .string (⟨#[]⟩ : ByteArray)]) ?_ 0 _ rfl; (with_reducible repeat (first | refine blk_drewN ?_ _ | refine blk_drew ?_ | refine blk_alloc ?_ _)); exact BK238.out) hb); have n1_ := Aside0.mk (below_step (by repeat (first | (with_reducible first | exact HB.out | apply below_alloc | apply pw_below_drewN | apply below_drew1 | refine below_set ?_ GE238.out) | exact HB.out)) hb); clear BK238; clear HB; have BK238 := n0_; have HB := n1_; clear n0_ n1_; (try clear hb); (try clear hb2); (try clear hk); (try clear hi))))
            go_ret
            exact ⟨by first | rfl | (simp [errW_none, errW_some] <;> rfl) | (simp [*, errW_none, errW_some] <;> rfl), by repeat (first | (with_reducible first | exact HB.out | apply below_alloc | apply pw_below_drewN | apply below_drew1 | refine below_set ?_ GE238.out) | exact HB.out)⟩
        · rw [if_neg c4] at H
          exact absurd H (by simp)
      · rw [if_neg c3] at H
        have c3b0 : decide (x5_1 < (l0.length : Int)) = false := decide_eq_false c3
        clear c3
        obtain rfl := Option.some.inj H
        go_wp2
        repeat (go_quiet (fail); try go_wp2)
        go_ret
        exact ⟨by first | rfl | (simp [errW_none, errW_some] <;> rfl) | (simp [*, errW_none, errW_some] <;> rfl), by repeat (first | (with_reducible first | exact HB.out | apply below_alloc | apply pw_below_drewN | apply below_drew1) | exact HB.out)⟩

end Go.Proofs.Ytkdhcmmfklganaa.G
end
