import Derived.Test.YtbcnknmgljdmlaaZIndexMeets0
import Derived.Test.YtbcnknmgljdmlaaZIndexMeets1
import Derived.Deep.RegionHeld
section
/- event.Right, walked -/
set_option linter.unusedVariables false
set_option linter.unusedSimpArgs false
set_option autoImplicit false
namespace Go.Proofs.Ytbcnknmgljdmlaa
open Go Go.RowKit Go.Proofs.YtbcnknmgljdmlaaW.PrintWords Go.Proofs.YtbcnknmgljdmlaaW.PrintLast Go.Proofs.YtbcnknmgljdmlaaW.PrintMore Go.Proofs.Ytbcnknmgljdmlaa.G

theorem vkeepE {W W' : World} {b : Nat} {o : Obj} (h : W.heap[b]? = some o) (hB : Below W.heap.size W W') : W'.heap[b]? = some o := by rw [hB.block _ (lt_of_heap h)]; exact h
theorem below_cellE {w W : World} (hb : Below w.heap.size w W) {p : Addr} {v : Value} (h : w.cell? p = some v) : W.cell? p = some v := (hb.cell (World.block_lt_of_cell? _ _ h)).trans h
/-! ### which attributes may not be -/
def vrightB (k i : Int) (t : ByteArray) : Bool := if k = 1 then t.toList == [] else if k = 2 then (if i = 0 then decide ((t.size : Int) ≤ 64) else false) else if k = 3 then (if t.toList = [] then Go.bits .andNot .i64 i 1 == 0 else false) else false
theorem vright_fE (k i : Int) (t : ByteArray) : value_Right.f k i t = some (vrightB k i t) := by
  unfold value_Right.f vrightB
  split
  · rfl
  split
  · split <;> rfl
  split
  · split <;> rfl
  · rfl
def wrongA (x : S49) : Bool := if x.f0.toList = [] then true else if (x.f0.size : Int) > 16 then true else !(vrightB x.f1.f0 x.f1.f1 x.f1.f2)
theorem wrong_fE (x : S49) : event_wrong.f x.f0 x.f1.f0 x.f1.f1 x.f1.f2 = some (wrongA x) := by
  unfold event_wrong.f wrongA
  split
  · rfl
  split
  · rfl
  · rw [vright_fE]; rfl
set_option maxRecDepth 100000 in
set_option maxHeartbeats 2000000 in
theorem any_evwrong_index (p : S49 → Bool) (A : Option Addr) (c : Nat) (l : List S49) (w : World) (hC : Kd.C k49 w A l.length l)
    (hcl : ∀ (x : S49) (W : World), Below w.heap.size w W → x ∈ l → Calls Try.prog 20 #[.agg #[.string x.f0, .int .i64 x.f1.f0, .int .i64 x.f1.f1, .string x.f1.f2]] W fun e w' => e = .returned (.bool (p x)) ∧ Below W.heap.size W w') :
    Calls Try.prog 29 #[.slice A l.length c, .func (.func 20) #[] #[]] w fun e w' =>
      (∃ i : Int, e = .returned (.int .i64 i) ∧ ((i = -1 ∧ l.any p = false) ∨ (0 ≤ i ∧ l.any p = true))) ∧ Below w.heap.size w w' := by
  have HC := Aside0.mk hC
  have HL := Aside0.mk hcl
  have hl := hC.2.1
  clear hC hcl
  go_enter Try.func29, Try.ntmps29
  go_wp2_with fail
  go_loopw [8] (fun i wr => ∃ k : Nat, k ≤ l.length ∧ i = .int .i64 k ∧ Aside0 (l.any p = (l.drop k).any p) ∧ Below w.heap.size w wr) (fun i _ => l.length - (intOf i).toNat)
  case atStart => exact ⟨0, Nat.zero_le _, rfl, ⟨rfl⟩, Below.refl _ _⟩
  case round =>
    obtain ⟨k, hk, rfl, HN, hBr⟩ := hrel
    have HB := Aside0.mk hBr
    clear hBr
    by_cases hlt : k < l.length
    · obtain ⟨ad, rfl, h0, h1, h2, h3⟩ := at_T49 (Kd.C_below HC.out HB.out) (k : Int) (by omega) (by omega)
      simp only [Int.toNat_natCast] at h0 h1 h2 h3
      have hxl : rd_T49 l (k : Int) = l[k] := by simp [rd_T49, List.getD_eq_getElem?_getD, hlt]
      have hdr : l.drop k = l[k] :: l.drop (k + 1) := List.drop_eq_getElem_cons hlt
      have hmem : l[k] ∈ l := List.getElem_mem hlt
      rw [hxl] at h0 h1 h2 h3
      have hcl0 := HL.out l[k] wr HB.out hmem
      generalize l[k] = x at h0 h1 h2 h3 hdr hcl0
      have HD := Aside0.mk hdr
      clear hxl hdr hmem
      cases hb : p x with
      | true =>
        rw [hb] at hcl0
        have HT := Aside0.mk hb
        have hcl1 := Aside0.mk hcl0
        clear hb hcl0
        go_wp2_with (go_at_call 20; (with_reducible refine hcl1.out.mono ?_); rintro e w2 ⟨rfl, hB⟩; have HB2 : Aside0 (Below w.heap.size w w2) := ⟨HB.out.trans (hB.mono HB.out.size)⟩; clear hB)
        go_ret
        exact ⟨⟨k, rfl, .inr ⟨by omega, by rw [HN.out, HD.out, List.any_cons, HT.out]; rfl⟩⟩, HB2.out⟩
      | false =>
        rw [hb] at hcl0
        have HT := Aside0.mk hb
        have hcl1 := Aside0.mk hcl0
        clear hb hcl0
        go_wp2_with (go_at_call 20; (with_reducible refine hcl1.out.mono ?_); rintro e w2 ⟨rfl, hB⟩; have HB2 : Aside0 (Below w.heap.size w w2) := ⟨HB.out.trans (hB.mono HB.out.size)⟩; clear hB)
        exact ⟨⟨k + 1, by omega, by simp, ⟨by rw [HN.out, HD.out, List.any_cons, HT.out]; rfl⟩, HB2.out⟩, by simp [intOf]; omega⟩
    · obtain rfl : k = l.length := by omega
      go_wp2_with fail
      go_ret
      exact ⟨⟨-1, rfl, .inl ⟨rfl, by rw [HN.out]; simp⟩⟩, HB.out⟩
set_option maxHeartbeats 1000000 in
theorem any_evwrong (p : S49 → Bool) (A : Option Addr) (c : Nat) (l : List S49) (w : World) (hC : Kd.C k49 w A l.length l)
    (hcl : ∀ (x : S49) (W : World), Below w.heap.size w W → x ∈ l → Calls Try.prog 20 #[.agg #[.string x.f0, .int .i64 x.f1.f0, .int .i64 x.f1.f1, .string x.f1.f2]] W fun e w' => e = .returned (.bool (p x)) ∧ Below W.heap.size W w') :
    Calls Try.prog 19 #[.slice A l.length c, .func (.func 20) #[] #[]] w fun e w' => e = .returned (.bool (l.any p)) ∧ Below w.heap.size w w' := by
  have HI := Aside0.mk (any_evwrong_index p A c l w hC hcl)
  clear hC hcl
  go_enter Try.func19, Try.ntmps19
  go_wp2_with fail
  refine HI.out.mono ?_
  rintro e w1 ⟨⟨i, rfl, hi⟩, hB⟩
  rcases hi with ⟨rfl, ha⟩ | ⟨h0, ha⟩
  · have HA := Aside0.mk ha
    clear ha
    go_wp2
    go_ret
    exact ⟨by rw [HA.out]; rfl, hB⟩
  · have HA := Aside0.mk ha
    clear ha
    have h0' : decide (0 ≤ i) = true := decide_eq_true h0
    go_wp2
    go_ret
    exact ⟨by rw [HA.out]; rfl, hB⟩

/-! ### in order -/
def nameLt (a b : S49) : Bool := decide (Lib.compareBytes a.f0.data.toList b.f0.data.toList < 0)
def sortedTo (l : List S49) : Nat → Bool
  | 0 => true
  | i + 1 => if nameLt (rd_T49 l ((i + 1 : Nat) : Int)) (rd_T49 l (i : Int)) = true then false else sortedTo l i
def sortedE (l : List S49) : Bool := sortedTo l (l.length - 1)
set_option maxRecDepth 100000 in
set_option maxHeartbeats 4000000 in
theorem wsortedE (A0 : Option Addr) (c0 : Nat) (l : List S49) (w : World) (hr0 : Kd.C k49 w A0 l.length l) :
    Calls Try.prog 21 #[.slice A0 l.length c0, .func (.func 22) #[] #[]] w fun e w' => e = .returned (.bool (sortedE l)) ∧ Below w.heap.size w w' := by
  have HR0 := Aside0.mk hr0
  have hlm := hr0.2.1
  clear hr0
  go_enter Try.func21, Try.ntmps21
  have hL1 : ((l.length : Int) - 1 = ((l.length - 1 : Nat) : Int)) ∨ (l.length = 0) := by omega
  by_cases hl0 : l.length = 0
  · have hS : sortedE l = true := by unfold sortedE; rw [hl0]; rfl
    have HS := Aside0.mk hS
    clear hS hL1
    have hl0' : (l.length : Int) = 0 := by omega
    rw [hl0]
    go_wp2_with fail
    go_loop [5] (fun i => i = .int .i64 (-1)) (fun _ => 0)
    case atStart => rfl
    case round =>
      subst hrel
      go_wp2_with fail
      go_ret
      exact ⟨by rw [HS.out]; rfl, Below.refl _ _⟩
  have hL2 : wrap64 ((l.length : Int) - 1) = ((l.length - 1 : Nat) : Int) := by unfold wrap64; omega
  have HL2 := Aside0.mk hL2
  clear hL1 hL2
  go_wp2_with fail
  go_loopw [5] (fun v wr => ∃ (i : Nat), i < l.length ∧ v = .int .i64 i ∧ Aside0 (sortedE l = sortedTo l i) ∧ Aside0 (Below w.heap.size w wr)) (fun v _ => (intOf v).toNat)
  case atStart => exact ⟨l.length - 1, by omega, by go_num, ⟨rfl⟩, ⟨Below.refl _ _⟩⟩
  case round =>
    obtain ⟨i, hi, rfl, HS, HB⟩ := hrel
    by_cases hi0 : i = 0
    · subst hi0
      go_wp2_with fail
      go_ret
      exact ⟨by rw [HS.out]; rfl, HB.out⟩
    obtain ⟨i, rfl⟩ : ∃ k, i = k + 1 := ⟨i - 1, by omega⟩
    obtain ⟨ad, hA, h0, h1, h2, h3⟩ := at_T49 (Kd.C_below HR0.out HB.out) ((i + 1 : Nat) : Int) (by omega) (by omega)
    obtain ⟨ad', hA', g0, g1, g2, g3⟩ := at_T49 (Kd.C_below HR0.out HB.out) (i : Int) (by omega) (by omega)
    subst hA
    cases hA'
    have hst : sortedTo l (i + 1) = if nameLt (rd_T49 l ((i + 1 : Nat) : Int)) (rd_T49 l (i : Int)) = true then false else sortedTo l i := rfl
    rw [Int.toNat_natCast] at h0 h1 h2 h3 g0 g1 g2 g3
    generalize rd_T49 l ((i + 1 : Nat) : Int) = x at h0 h1 h2 h3 hst
    generalize rd_T49 l (i : Int) = y at g0 g1 g2 g3 hst
    obtain ⟨x0, ⟨x1, x2, x3⟩⟩ := x
    obtain ⟨y0, ⟨y1, y2, y3⟩⟩ := y
    simp only at h0 h1 h2 h3 g0 g1 g2 g3
    have HS2 := Aside0.mk (HS.out.trans hst)
    have hwi : wrap64 (((i + 1 : Nat) : Int) - 1) = (i : Int) := by unfold wrap64; omega
    have hwi2 : ((i + 1 : Nat) : Int) = (i : Int) + 1 := by omega
    have hlt1 : (i : Int) + 1 < (l.length : Int) := by omega
    have hge1 : (0 : Int) ≤ (i : Int) + 1 := by omega
    have hlt0 : (i : Int) < (l.length : Int) := by omega
    have hwr : IntKind.i64.wrap (i : Int) = (i : Int) := by rw [IntKind.wrap_i64]; omega
    clear hst HS
    go_upto_region 4 with fail
    have HBc := Aside0.mk (below_drew (Below.refl wr.heap.size wr))
    refine wp_region_held_drew (S := (fun W => W.cell? (ad.add ((i + 1) * 4)) = some (.string x0) ∧ W.cell? ⟨(ad.add ((i + 1) * 4)).block, (ad.add ((i + 1) * 4)).off + 1, none⟩ = some (.int .i64 x1) ∧ W.cell? ⟨(ad.add ((i + 1) * 4)).block, (ad.add ((i + 1) * 4)).off + 2, none⟩ = some (.int .i64 x2) ∧ W.cell? ⟨(ad.add ((i + 1) * 4)).block, (ad.add ((i + 1) * 4)).off + 3, none⟩ = some (.string x3) ∧ W.cell? (ad.add (i * 4)) = some (.string y0) ∧ W.cell? ⟨(ad.add (i * 4)).block, (ad.add (i * 4)).off + 1, none⟩ = some (.int .i64 y1) ∧ W.cell? ⟨(ad.add (i * 4)).block, (ad.add (i * 4)).off + 2, none⟩ = some (.int .i64 y2) ∧ W.cell? ⟨(ad.add (i * 4)).block, (ad.add (i * 4)).off + 3, none⟩ = some (.string y3))) (by kernel_rfl) ⟨below_cellE HBc.out h0, below_cellE HBc.out h1, below_cellE HBc.out h2, below_cellE HBc.out h3, below_cellE HBc.out g0, below_cellE HBc.out g1, below_cellE HBc.out g2, below_cellE HBc.out g3⟩ (fun hHeld => ?_)
    refine wpAnyH_take (i := 0) (oi := { dst := some 13, op := Op.move (Operand.tmp 1), type := 58, pos := "sort.go:55", after := #[], guard := none }) (v := ?_) rfl (by kernel_rfl) (by kernel_rfl) (by kernel_rfl) (fun _ _ _ h => h) (Or.inl ⟨by rfl, ?_⟩) (by assumption) ?_
    rotate_left
    · intro w hSw
      try dsimp only at hSw
      go_simp
      all_goals with_reducible rfl
    try simp only [Act.put, List.setIfInBounds_toArray, List.set_cons_zero, List.set_cons_succ]
    refine wpAnyH_take (i := 1) (oi := { dst := some 14, op := Op.move (Operand.tmp 0), type := 31, pos := "sort.go:55", after := #[], guard := none }) (v := ?_) rfl (by kernel_rfl) (by kernel_rfl) (by kernel_rfl) (fun _ _ _ h => h) (Or.inl ⟨by rfl, ?_⟩) (by assumption) ?_
    rotate_left
    · intro w hSw
      try dsimp only at hSw
      go_simp
      all_goals with_reducible rfl
    try simp only [Act.put, List.setIfInBounds_toArray, List.set_cons_zero, List.set_cons_succ]
    refine wpAnyH_take (i := 2) (oi := { dst := some 15, op := Op.move (Operand.tmp 5), type := 3, pos := "sort.go:55", after := #[], guard := none }) (v := ?_) rfl (by kernel_rfl) (by kernel_rfl) (by kernel_rfl) (fun _ _ _ h => h) (Or.inl ⟨by rfl, ?_⟩) (by assumption) ?_
    rotate_left
    · intro w hSw
      try dsimp only at hSw
      go_simp
      all_goals with_reducible rfl
    try simp only [Act.put, List.setIfInBounds_toArray, List.set_cons_zero, List.set_cons_succ]
    refine wpAnyH_take (i := 3) (oi := { dst := some 16, op := Op.indexAddr 31 (Operand.tmp 14) (Operand.tmp 15), type := 0, pos := "sort.go:55", after := #[{ on := 1, ground := Ground.data }, { on := 2, ground := Ground.data }], guard := none }) (v := ?_) rfl (by kernel_rfl) (by kernel_rfl) (by kernel_rfl) (fun _ _ _ h => h) (Or.inl ⟨by rfl, ?_⟩) (by assumption) ?_
    rotate_left
    · intro w hSw
      try dsimp only at hSw
      go_simp
      all_goals with_reducible rfl
    try simp only [Act.put, List.setIfInBounds_toArray, List.set_cons_zero, List.set_cons_succ]
    refine wpAnyH_take (i := 4) (oi := { dst := some 17, op := Op.load 49 (Operand.tmp 16), type := 49, pos := "sort.go:55", after := #[{ on := 3, ground := Ground.data }], guard := none }) (v := ?_) rfl (by kernel_rfl) (by kernel_rfl) (by kernel_rfl) (fun _ _ _ h => h) (Or.inl ⟨by rfl, ?_⟩) (by assumption) ?_
    rotate_left
    · intro w hSw
      try dsimp only at hSw
      go_simp
      all_goals with_reducible rfl
    try simp only [Act.put, List.setIfInBounds_toArray, List.set_cons_zero, List.set_cons_succ]
    refine wpAnyH_take (i := 5) (oi := { dst := some 18, op := Op.move (Operand.tmp 0), type := 31, pos := "sort.go:55", after := #[], guard := none }) (v := ?_) rfl (by kernel_rfl) (by kernel_rfl) (by kernel_rfl) (fun _ _ _ h => h) (Or.inl ⟨by rfl, ?_⟩) (by assumption) ?_
    rotate_left
    · intro w hSw
      try dsimp only at hSw
      go_simp
      all_goals with_reducible rfl
    try simp only [Act.put, List.setIfInBounds_toArray, List.set_cons_zero, List.set_cons_succ]
    refine wpAnyH_take (i := 6) (oi := { dst := some 19, op := Op.move (Operand.tmp 5), type := 3, pos := "sort.go:55", after := #[], guard := none }) (v := ?_) rfl (by kernel_rfl) (by kernel_rfl) (by kernel_rfl) (fun _ _ _ h => h) (Or.inl ⟨by rfl, ?_⟩) (by assumption) ?_
    rotate_left
    · intro w hSw
      try dsimp only at hSw
      go_simp
      all_goals with_reducible rfl
    try simp only [Act.put, List.setIfInBounds_toArray, List.set_cons_zero, List.set_cons_succ]
    refine wpAnyH_take (i := 7) (oi := { dst := some 20, op := Op.binOp BinOp.sub 3 (Operand.tmp 19) (Operand.const (Value.int IntKind.i64 1)) 3, type := 3, pos := "sort.go:55", after := #[{ on := 6, ground := Ground.data }], guard := none }) (v := ?_) rfl (by kernel_rfl) (by kernel_rfl) (by kernel_rfl) (fun _ _ _ h => h) (Or.inl ⟨by rfl, ?_⟩) (by assumption) ?_
    rotate_left
    · intro w hSw
      try dsimp only at hSw
      go_simp
      all_goals with_reducible rfl
    try simp only [Act.put, List.setIfInBounds_toArray, List.set_cons_zero, List.set_cons_succ]
    refine wpAnyH_take (i := 8) (oi := { dst := some 21, op := Op.indexAddr 31 (Operand.tmp 18) (Operand.tmp 20), type := 0, pos := "sort.go:55", after := #[{ on := 5, ground := Ground.data }, { on := 7, ground := Ground.data }], guard := none }) (v := ?_) rfl (by kernel_rfl) (by kernel_rfl) (by kernel_rfl) (fun _ _ _ h => h) (Or.inl ⟨by rfl, ?_⟩) (by assumption) ?_
    rotate_left
    · intro w hSw
      try dsimp only at hSw
      go_simp
      all_goals with_reducible rfl
    try simp only [Act.put, List.setIfInBounds_toArray, List.set_cons_zero, List.set_cons_succ]
    refine wpAnyH_take (i := 9) (oi := { dst := some 22, op := Op.load 49 (Operand.tmp 21), type := 49, pos := "sort.go:55", after := #[{ on := 8, ground := Ground.data }], guard := none }) (v := ?_) rfl (by kernel_rfl) (by kernel_rfl) (by kernel_rfl) (fun _ _ _ h => h) (Or.inl ⟨by rfl, ?_⟩) (by assumption) ?_
    rotate_left
    · intro w hSw
      try dsimp only at hSw
      go_simp
      all_goals with_reducible rfl
    try simp only [Act.put, List.setIfInBounds_toArray, List.set_cons_zero, List.set_cons_succ]
    refine wpAnyH_ready (rs := [10]) (by kernel_rfl) (by simp) ?_
    refine AllReadyH.cons (o := { dst := some 23, op := Op.call { callee := Callee.value (Operand.tmp 13), args := #[Operand.tmp 17, Operand.tmp 22], argTypes := #[49, 49] }, type := 3, pos := "sort.go:55", after := #[{ on := 0, ground := Ground.data }, { on := 4, ground := Ground.data }, { on := 9, ground := Ground.data }], guard := none }) rfl (fun K hK => ?_) AllReadyH.nil
    go_simp
    (refine (event_byName.calls x0 x1 x2 x3 y0 y1 y2 y3 (Lib.compareBytes x0.data.toList y0.data.toList) _ rfl).mono ?_; rintro e' w5 ⟨rfl, hX⟩; have HBd := Aside0.mk (HBc.out.trans (hX.mono HBc.out.size)); clear hX HBc; have HBc := HBd; clear HBd)
    go_wp2_with fail
    refine hK.out _ _ ⟨below_cellE HBc.out h0, below_cellE HBc.out h1, below_cellE HBc.out h2, below_cellE HBc.out h3, below_cellE HBc.out g0, below_cellE HBc.out g1, below_cellE HBc.out g2, below_cellE HBc.out g3⟩ (fun hHeld => ?_)
    clear hK K
    try simp only [Act.put, List.setIfInBounds_toArray, List.set_cons_zero, List.set_cons_succ]
    refine wpAnyH_take (i := 11) (oi := { dst := some 24, op := Op.binOp BinOp.lss 3 (Operand.tmp 23) (Operand.const (Value.int IntKind.i64 0)) 3, type := 4, pos := "sort.go:55", after := #[{ on := 10, ground := Ground.data }], guard := none }) (v := ?_) rfl (by kernel_rfl) (by kernel_rfl) (by kernel_rfl) (fun _ _ _ h => h) (Or.inl ⟨by rfl, ?_⟩) (by assumption) ?_
    rotate_left
    · intro w hSw
      try dsimp only at hSw
      go_simp
      all_goals with_reducible rfl
    try simp only [Act.put, List.setIfInBounds_toArray, List.set_cons_zero, List.set_cons_succ]
    refine wpAnyH_done (by kernel_rfl) ?_ _
    clear hHeld
    have HBe := Aside0.mk (HB.out.trans (HBc.out.mono HB.out.size))
    clear HBc h0 h1 h2 h3 g0 g1 g2 g3
    obtain ⟨bb, hbb⟩ : ∃ b, decide (Lib.compareBytes x0.data.toList y0.data.toList < 0) = b := ⟨_, rfl⟩
    rw [hbb]
    have HC := Aside0.mk (show nameLt ⟨x0, ⟨x1, x2, x3⟩⟩ ⟨y0, ⟨y1, y2, y3⟩⟩ = bb from hbb)
    clear hbb
    cases bb with
    | true =>
      go_wp2_with fail
      go_ret
      exact ⟨by rw [HS2.out, if_pos HC.out]; rfl, HBe.out⟩
    | false =>
      go_wp2_with fail
      exact ⟨⟨i, by omega, by go_num, ⟨by rw [HS2.out, if_neg (by rw [HC.out]; decide)]⟩, HBe⟩, by simp [intOf]⟩

/-! ### two of one name -/
def addG {α : Type} [DecidableEq α] (ns : List α) (n : α) : List α := if n ∈ ns then ns else ns ++ [n]
def namesD (l : List S49) : List ByteArray := l.foldl (fun ns x => addG ns x.f0) []
def twiceE (l : List S49) : Bool := decide ((namesD l).length < l.length)
theorem lawNE : Go.Maps.Keyed Try.prog 9 := Go.Maps.string_keyed Try.underlying9
theorem key_nameE (s : ByteArray) (h : s.size ≤ maxLen) : ∃ l, keyOf Try.prog 9 (.string s) = some l := by
  refine ⟨.string s.data.toList, ?_⟩
  unfold keyOf
  rw [Try.underlying9]
  simp [mapKey, Try.underlying9, h]
theorem zeroI (W : World) : (zeroValue 3).run Try.prog W = .ok (.int .i64 0) W := by kernel_rfl
theorem cells4e {W : World} {b T : Nat} {a c d e : Value} (h : W.heap[b]? = some (.cells #[a, c, d, e] T (0, 0))) : W.cell? ⟨b, 0, none⟩ = some a ∧ W.cell? ⟨b, 1, none⟩ = some c ∧ W.cell? ⟨b, 2, none⟩ = some d ∧ W.cell? ⟨b, 3, none⟩ = some e :=
  ⟨by rw [cell_of_row _ _ _ _ _ _ h]; rfl, by rw [cell_of_row _ _ _ _ _ _ h]; rfl, by rw [cell_of_row _ _ _ _ _ _ h]; rfl, by rw [cell_of_row _ _ _ _ _ _ h]; rfl⟩
/-- the map of counts: which names it has -/
def CntM (w W : World) (ks : List ByteArray) : Prop := ∃ f : ByteArray → Int, MapR Try.prog 9 W w.heap.size (ks.map fun n => (Value.string n, Value.int .i64 (f n))) ∧ ks.Nodup ∧ Below w.heap.size w W
theorem cnt_look {W : World} {b : Nat} {f : ByteArray → Int} {ks : List ByteArray} (h : MapR Try.prog 9 W b (ks.map fun n => (Value.string n, Value.int .i64 (f n)))) (n : ByteArray) (hn : n.size ≤ maxLen) :
    ∃ y : Int, (Instr.lookup 66 (.map (some b)) (.string n) false).run Try.prog W = .ok (.int .i64 y) W := by
  obtain ⟨l, hl⟩ := key_nameE n hn
  rcases h.lookup lawNE Try.underlying66 (zeroI W) hl false with ⟨h1, h2⟩ | ⟨j, v, h1, h2⟩
  · exact ⟨0, h1⟩
  · rw [List.getElem?_map, Option.map_eq_some_iff] at h1
    obtain ⟨q, hq, he⟩ := h1
    obtain ⟨e1, e2⟩ := Prod.mk.inj he
    exact ⟨f q, by rw [h2, ← e2]; rfl⟩
theorem cnt_put {w W : World} {f : ByteArray → Int} {ks : List ByteArray} (h : MapR Try.prog 9 W w.heap.size (ks.map fun n => (Value.string n, Value.int .i64 (f n)))) (hk : ks.Nodup) (hB : Below w.heap.size w W) (n : ByteArray) (hn : n.size ≤ maxLen) (y : Int) :
    ∃ W2, (Instr.mapUpdate 66 (.map (some w.heap.size)) (.string n) (.int .i64 y)).run Try.prog W = .ok () W2 ∧ CntM w W2 (addG ks n) := by
  obtain ⟨l, hl⟩ := key_nameE n hn
  obtain ⟨W2, hrun, hg, hcase⟩ := h.update lawNE Try.underlying66 hl (.int .i64 y)
  have hB2 : Below w.heap.size w W2 := hB.grown hg hB.size (fun k hk => by cases hk; exact Nat.le_refl _)
  refine ⟨W2, hrun, ?_⟩
  rcases hcase with ⟨h1, h2⟩ | ⟨j, v0, h1, h2⟩
  · have hnot : n ∉ ks := fun hm => h1 _ (List.mem_map.2 ⟨n, hm, rfl⟩) rfl
    refine ⟨fun x => if x = n then y else f x, ?_, ?_, hB2⟩
    · unfold addG
      rw [if_neg hnot]
      have : ((ks ++ [n]).map fun x => (Value.string x, Value.int .i64 (if x = n then y else f x))) = (ks.map fun x => (Value.string x, Value.int .i64 (f x))) ++ [(Value.string n, Value.int .i64 y)] := by
        rw [List.map_append]
        congr 1
        · exact List.map_congr_left fun x hx => by have hxn : x ≠ n := fun e => hnot (e ▸ hx); simp only [if_neg hxn]
        · simp
      rw [this]; exact h2
    · unfold addG
      rw [if_neg hnot, List.nodup_append]
      exact ⟨hk, by simp, fun a ha b hb => by rw [List.mem_singleton] at hb; subst hb; exact fun e => hnot (e ▸ ha)⟩
  · rw [List.getElem?_map, Option.map_eq_some_iff] at h1
    obtain ⟨q, hq, he⟩ := h1
    obtain ⟨e1, e2⟩ := Prod.mk.inj he
    injection e1 with e1
    subst e1
    have hm : q ∈ ks := List.mem_of_getElem? hq
    refine ⟨fun x => if x = q then y else f x, ?_, ?_, hB2⟩
    · unfold addG
      rw [if_pos hm]
      have : (ks.map fun x => (Value.string x, Value.int .i64 (f x))).set j (Value.string q, Value.int .i64 y) = ks.map fun x => (Value.string x, Value.int .i64 (if x = q then y else f x)) := by
        refine List.ext_getElem? fun i => ?_
        rw [List.getElem?_set, List.getElem?_map, List.getElem?_map]
        obtain ⟨hjl, hje⟩ := List.getElem?_eq_some_iff.1 hq
        by_cases hi : j = i
        · subst hi
          rw [if_pos rfl, if_pos (by simpa using hjl), hq]
          simp
        · rw [if_neg hi]
          cases hkk : ks[i]? with
          | none => rfl
          | some x =>
            obtain ⟨hil, hie⟩ := List.getElem?_eq_some_iff.1 hkk
            have : x ≠ q := by
              rw [← hie, ← hje]
              intro e
              rcases Nat.lt_or_gt_of_ne hi with hlt | hlt
              · exact (List.pairwise_iff_getElem.1 hk) j i hjl hil hlt e.symm
              · exact (List.pairwise_iff_getElem.1 hk) i j hil hjl hlt e
            simp [this]
      rw [← this]; exact h2
    · unfold addG
      rw [if_pos hm]; exact hk
set_option maxRecDepth 100000 in
set_option maxHeartbeats 4000000 in
theorem wtwiceE (A0 : Option Addr) (c0 : Nat) (l : List S49) (w : World) (hr0 : Kd.C k49 w A0 l.length l) (hn : ∀ x ∈ l, x.f0.size ≤ maxLen) :
    Calls Try.prog 23 #[.slice A0 l.length c0] w fun e w' => e = .returned (.bool (twiceE l)) ∧ Below w.heap.size w w' := by
  have HR0 := Aside0.mk hr0
  have HN := Aside0.mk hn
  have hlm := hr0.2.1
  clear hr0 hn
  have hmm := @run_makeMap Try.prog
  have HM0 := Aside0.mk (show CntM w (w.alloc (.map #[] 0)) [] from ⟨fun _ => 0, MapR.made w _ _, List.nodup_nil, (Below.refl _ _).alloc (Nat.le_refl _) _⟩)
  go_enter Try.func23, Try.ntmps23
  go_upto_region 2 with fail
  clear hmm
  generalize w.alloc (.map #[] 0) = w1 at HM0 ⊢
  go_wp2_with fail
  go_loopw [9] (fun i wr => ∃ (j : Nat), j ≤ l.length ∧ i = .int .i64 j ∧ Aside0 (CntM w wr (namesD (l.take j)))) (fun i _ => l.length - (intOf i).toNat)
  case atStart => exact ⟨0, Nat.zero_le _, rfl, HM0⟩
  case round =>
    obtain ⟨j, hj, rfl, HM⟩ := hrel
    clear HM0
    by_cases hlt : j < l.length
    case neg =>
      obtain rfl : j = l.length := by omega
      obtain ⟨f, hM, _, hB⟩ := HM.out
      have hlen := hM.len (ty := 3) Try.underlying66
      rw [List.take_of_length_le (Nat.le_refl _), List.length_map] at hlen
      have HBB := Aside0.mk hB
      clear hM hB HM
      go_wp2_with fail
      go_ret
      exact ⟨rfl, HBB.out⟩
    obtain ⟨f, hM, hnd, hB⟩ := HM.out
    obtain ⟨ad, hA, h0, h1, h2, h3⟩ := at_T49 (Kd.C_below HR0.out hB) (j : Int) (by omega) (by omega)
    subst hA
    rw [Int.toNat_natCast] at h0 h1 h2 h3
    have hmem : rd_T49 l (j : Int) ∈ l := by simp [rd_T49, List.getD_eq_getElem?_getD, hlt]
    have htk : l.take (j + 1) = l.take j ++ [rd_T49 l (j : Int)] := by rw [List.take_add_one]; simp [rd_T49, List.getD_eq_getElem?_getD, hlt]
    have hns := HN.out _ hmem
    generalize rd_T49 l (j : Int) = x at h0 h1 h2 h3 hns htk
    obtain ⟨x0, ⟨x1, x2, x3⟩⟩ := x
    simp only at h0 h1 h2 h3 hns
    have htd : namesD (l.take (j + 1)) = addG (namesD (l.take j)) x0 := by rw [htk]; unfold namesD; rw [List.foldl_append]; rfl
    have HTD := Aside0.mk htd
    generalize namesD (l.take j) = ks at hM hnd HTD HM
    have hM2 := hM.below ((Below.refl _ _).alloc (Nat.le_refl _) (.cells #[.string x0, .int .i64 x1, .int .i64 x2, .string x3] 49 (0, 0)))
    have hB2 := hB.alloc hB.size (.cells #[.string x0, .int .i64 x1, .int .i64 x2, .string x3] 49 (0, 0))
    have hN := heap_alloc_new wr (.cells #[.string x0, .int .i64 x1, .int .i64 x2, .string x3] 49 (0, 0))
    obtain ⟨y, hlk⟩ := cnt_look hM2 x0 hns
    obtain ⟨W2, hrun, hCM⟩ := cnt_put hM2 hnd hB2 x0 hns (wrap64 (y + 1))
    have HCM := Aside0.mk hCM
    have HWS := Aside0.mk hN
    clear hM hnd hB hM2 hB2 hCM hmem htk htd hN HM
    go_upto_region 5 with fail
    clear h0 h1 h2 h3
    obtain ⟨q0, q1, q2, q3⟩ := cells4e HWS.out
    go_wp2_with fail
    exact ⟨⟨j + 1, by omega, by go_num, ⟨by rw [HTD.out]; exact HCM.out⟩⟩, by simp [intOf]; omega⟩

def rightE (l : List S49) : Bool := decide (l.length ≤ 24) && (!(l.any wrongA) && (sortedE l && !(twiceE l)))
set_option maxRecDepth 100000 in
set_option maxHeartbeats 4000000 in
theorem wrightE (A0 : Option Addr) (c0 : Nat) (l : List S49) (w : World) (hr0 : Kd.C k49 w A0 l.length l) (hn : ∀ x ∈ l, x.f0.size ≤ maxLen) :
    Calls Try.prog 14 #[.slice A0 l.length c0] w fun e w' => e = .returned (.bool (rightE l)) ∧ Below w.heap.size w w' := by
  have HR0 := Aside0.mk hr0
  have HN := Aside0.mk hn
  have hlm := hr0.2.1
  have hre : rightE l = (decide (l.length ≤ 24) && (!(l.any wrongA) && (sortedE l && !(twiceE l)))) := rfl
  have H1 := Aside0.mk (any_evwrong wrongA A0 c0 l w hr0 (fun x W hW hx => event_wrong.calls x.f0 x.f1.f0 x.f1.f1 x.f1.f2 (wrongA x) W (wrong_fE x)))
  clear hr0 hn
  generalize rightE l = res at hre ⊢
  by_cases h24 : l.length ≤ 24
  case neg =>
    rw [decide_eq_false h24] at hre
    have h24' : ¬ (l.length : Int) ≤ 24 := by omega
    have HRE := Aside0.mk hre
    clear hre
    go_enter Try.func14, Try.ntmps14
    go_wp2_with fail
    go_ret
    exact ⟨by rw [HRE.out]; rfl, Below.refl _ _⟩
  rw [decide_eq_true h24] at hre
  have h24' : (l.length : Int) ≤ 24 := by omega
  generalize l.any wrongA = b1 at hre H1
  have HRE := Aside0.mk hre
  clear hre
  go_enter Try.func14, Try.ntmps14
  go_wp2_with fail
  refine H1.out.mono ?_
  rintro e w1 ⟨rfl, hX⟩
  have HX := Aside0.mk hX
  clear hX H1
  cases b1 with
  | true =>
    go_wp2_with fail
    go_ret
    exact ⟨by rw [HRE.out]; rfl, HX.out⟩
  | false =>
    have H2 := Aside0.mk (wsortedE A0 c0 l w1 (Kd.C_below HR0.out HX.out))
    have hre := HRE.out
    clear HRE
    generalize sortedE l = b2 at hre H2
    have HRE := Aside0.mk hre
    clear hre
    go_wp2_with fail
    refine H2.out.mono ?_
    rintro e w2 ⟨rfl, hX⟩
    have HX2 := Aside0.mk (HX.out.trans (hX.mono HX.out.size))
    clear hX H2
    cases b2 with
    | false =>
      go_wp2_with fail
      go_ret
      exact ⟨by rw [HRE.out]; rfl, HX2.out⟩
    | true =>
      have H3 := Aside0.mk (wtwiceE A0 c0 l w2 (Kd.C_below HR0.out HX2.out) HN.out)
      have hre := HRE.out
      clear HRE
      generalize twiceE l = b3 at hre H3
      have HRE := Aside0.mk hre
      clear hre
      go_wp2_with fail
      refine H3.out.mono ?_
      rintro e w3 ⟨rfl, hX⟩
      have HX3 := Aside0.mk (HX2.out.trans (hX.mono HX2.out.size))
      clear hX H3
      cases b3 <;> (go_wp2_with fail; go_ret; exact ⟨by rw [HRE.out]; rfl, HX3.out⟩)
end Go.Proofs.Ytbcnknmgljdmlaa
end

section
-- Written by a program of this session (wip/tools/myprint.py), over the kit's print.
namespace Go.Proofs.Ytbcnknmgljdmlaa.G
open Go.RowKit Go.Proofs.YtbcnknmgljdmlaaW.PrintWords Go.Proofs.YtbcnknmgljdmlaaW.PrintLast Go.Proofs.YtbcnknmgljdmlaaW.PrintMore
attribute [local go_sem] max2_int min2_int max_two min_two max_three min_three max_four min_four   -- for this text's walks alone
set_option linter.unusedVariables false
set_option linter.unusedSimpArgs false

/-! ### rosetteref04_less: function 51 -/
mutual
def rosetteref04_less.l0 : Nat → ByteArray → ByteArray → Int → Option (Bool)
  | 0, _, _, _ => none
  | k + 1, x0, x1, x5 => if x5 < (x0.size : Int) then (rosetteref04_less.j1 k x0 x1 x5 (decide (x5 < (x1.size : Int)))) else (rosetteref04_less.j1 k x0 x1 x5 false)
def rosetteref04_less.j1 : Nat → ByteArray → ByteArray → Int → Bool → Option (Bool)
  | 0, _, _, _, _ => none
  | k + 1, x0, x1, x5, x15 => if x15 = true then (if 0 ≤ x5 then (if x5 < (x0.size : Int) then (if x5 < (x1.size : Int) then (if (bt x0 x5) = (bt x1 x5) then (rosetteref04_less.l0 k x0 x1 (wrap64 (x5 + 1))) else (some (decide ((bt x0 x5) < (bt x1 x5))))) else (none)) else (none)) else (none)) else (some (decide ((x0.size : Int) < (x1.size : Int))))
end
def rosetteref04_less.f (k : Nat) (a0 : ByteArray) (a1 : ByteArray) : Option (Bool) := rosetteref04_less.l0 k a0 a1 0
theorem rosetteref04_less.mono_l : ∀ k, (∀ y0 y1 y2, LeO (rosetteref04_less.l0 k y0 y1 y2) (rosetteref04_less.l0 (k + 1) y0 y1 y2)) ∧ (∀ y0 y1 y2 y3, LeO (rosetteref04_less.j1 k y0 y1 y2 y3) (rosetteref04_less.j1 (k + 1) y0 y1 y2 y3))
  | 0 => ⟨fun _ _ _ r h => by simp [rosetteref04_less.l0] at h, fun _ _ _ _ r h => by simp [rosetteref04_less.j1] at h⟩
  | k + 1 => by
    obtain ⟨ih0, ih1⟩ := rosetteref04_less.mono_l k
    refine ⟨?_, ?_⟩
    · intro y0 y1 y2
      unfold rosetteref04_less.l0
      repeat' first
      | (with_reducible exact ih0 _ _ _)
      | (with_reducible exact ih1 _ _ _ _)
      | (with_reducible exact LeO.refl _)
      | (with_reducible exact LeO.none _)
      | (with_reducible refine LeO.ite ?_ ?_)
      | (with_reducible refine LeO.bind ?_ (fun _ => ?_))
      | exact ih0 _ _ _
      | exact ih1 _ _ _ _
      | exact LeO.none _
      | refine LeO.ite ?_ ?_
      | refine LeO.bind ?_ (fun _ => ?_)
    · intro y0 y1 y2 y3
      unfold rosetteref04_less.j1
      repeat' first
      | (with_reducible exact ih0 _ _ _)
      | (with_reducible exact ih1 _ _ _ _)
      | (with_reducible exact LeO.refl _)
      | (with_reducible exact LeO.none _)
      | (with_reducible refine LeO.ite ?_ ?_)
      | (with_reducible refine LeO.bind ?_ (fun _ => ?_))
      | exact ih0 _ _ _
      | exact ih1 _ _ _ _
      | exact LeO.none _
      | refine LeO.ite ?_ ?_
      | refine LeO.bind ?_ (fun _ => ?_)
theorem rosetteref04_less.mono : ∀ a0 a1 k, LeO (rosetteref04_less.f k a0 a1) (rosetteref04_less.f (k + 1) a0 a1) := by
  intro a0 a1 k
  obtain ⟨ih0, ih1⟩ := rosetteref04_less.mono_l k
  unfold rosetteref04_less.f
  repeat' first
      | (with_reducible exact ih0 _ _ _)
      | (with_reducible exact ih1 _ _ _ _)
      | (with_reducible exact LeO.refl _)
      | (with_reducible exact LeO.none _)
      | (with_reducible refine LeO.ite ?_ ?_)
      | (with_reducible refine LeO.bind ?_ (fun _ => ?_))
      | exact ih0 _ _ _
      | exact ih1 _ _ _ _
      | exact LeO.none _
      | refine LeO.ite ?_ ?_
      | refine LeO.bind ?_ (fun _ => ?_)
set_option maxHeartbeats 8000000 in
set_option maxRecDepth 100000 in
theorem rosetteref04_less.calls (k : Nat) (a0 : ByteArray) (a1 : ByteArray) (r : Bool) (w : World) (h : rosetteref04_less.f k a0 a1 = some r) :
    Calls Try.prog 51 #[.string a0, .string a1] w fun e w' => e = .returned (.bool r) ∧ Drawn0 w w' := by
  have H : (rosetteref04_less.l0 k a0 a1 0) = some r := h
  clear h
  have H' := Aside0.mk H
  clear H
  go_enter Try.func51, Try.ntmps51
  go_wp2
  repeat (go_quiet (fail); try go_wp2)
  go_loopg [5] k (fun kq v5 w' => ∃ (x5_1 : Int), v5 = .int .i64 x5_1 ∧ Aside0 (rosetteref04_less.l0 kq a0 a1 x5_1 = some r) ∧ Aside0 (kq ≤ k) ∧ Drawn0 w w')
  case atStart => exact ⟨(0), (by first | rfl | (simp; done) | (simp [*]; done)), H', ⟨Nat.le_refl _⟩, by repeat (first | exact Drawn0.refl _ | apply Drawn0.step)⟩
  case round =>
    clear H'
    try clear p2
    obtain ⟨x5_1, rfl, HA, HK1, ⟨m1, rfl⟩⟩ := hrel
    cases gk with
    | zero => exact absurd HA.out (by simp [rosetteref04_less.l0])
    | succ k1 =>
      have H := HA.out
      clear HA
      simp only [rosetteref04_less.l0] at H
      have HC3 := Aside0.mk H
      clear H
      go_upto_region 2 with (fail)
      repeat (go_quiet (fail); go_upto_region 2 with (fail))
      go_cut [15] (fun v15 wc => ∃ (kq : Nat) (x15_2 : Bool), v15 = .bool x15_2 ∧ Aside0 (rosetteref04_less.j1 kq a0 a1 x5_1 x15_2 = some r) ∧ Aside0 (kq ≤ k1) ∧ Drawn0 w wc)
      case first =>
        have H := HC3.out
        clear HC3
        by_cases c4 : x5_1 < (a0.size : Int)
        · rw [if_pos c4] at H
          have c4b0 : decide (x5_1 < (a0.size : Int)) = true := decide_eq_true c4
          clear c4
          (first | rw [c4b0] | (simp only [i64_w, i32_w]; rw [c4b0]) | skip)
          have H' := Aside0.mk H
          clear H
          go_wp2
          repeat (go_quiet (fail); try go_wp2)
          go_meet
          case rel => exact ⟨_, (decide (x5_1 < (a1.size : Int))), (by first | rfl | (simp; done) | (simp [*]; done)), H', ⟨by have := HK1.out; first | omega | exact Nat.le_refl _⟩, by repeat (first | exact Drawn0.refl _ | apply Drawn0.step)⟩
        · rw [if_neg c4] at H
          have c4b0 : decide (x5_1 < (a0.size : Int)) = false := decide_eq_false c4
          clear c4
          (first | rw [c4b0] | (simp only [i64_w, i32_w]; rw [c4b0]) | skip)
          have H' := Aside0.mk H
          clear H
          go_wp2
          repeat (go_quiet (fail); try go_wp2)
          go_meet
          case rel => exact ⟨_, (false), (by first | rfl | (simp; done) | (simp [*]; done)), H', ⟨by have := HK1.out; first | omega | exact Nat.le_refl _⟩, by repeat (first | exact Drawn0.refl _ | apply Drawn0.step)⟩
      case rest =>
        clear HC3
        try clear p2
        try clear c4
        try clear c4b0
        try clear p2
        obtain ⟨kq, x15_2, rfl, HA, HJ2, ⟨mc2, rfl⟩⟩ := hcut
        cases kq with
        | zero => exact absurd HA.out (by simp [rosetteref04_less.j1])
        | succ kj2 =>
          have H := HA.out
          clear HA
          simp only [rosetteref04_less.j1] at H
          by_cases c5 : x15_2 = true
          · subst c5
            have H1 : (if 0 ≤ x5_1 then (if x5_1 < (a0.size : Int) then (if x5_1 < (a1.size : Int) then (if (bt a0 x5_1) = (bt a1 x5_1) then (rosetteref04_less.l0 kj2 a0 a1 (wrap64 (x5_1 + 1))) else (some (decide ((bt a0 x5_1) < (bt a1 x5_1))))) else (none)) else (none)) else (none)) = some r := by rw [if_pos rfl] at H; exact H
            clear H
            have H := H1
            clear H1
            by_cases c6 : 0 ≤ x5_1
            · rw [if_pos c6] at H
              have c6b0 : decide (0 ≤ x5_1) = true := decide_eq_true c6
              clear c6
              by_cases c7 : x5_1 < (a0.size : Int)
              · rw [if_pos c7] at H
                have c7b0 : decide (x5_1 < (a0.size : Int)) = true := decide_eq_true c7
                clear c7
                by_cases c9 : x5_1 < (a1.size : Int)
                · rw [if_pos c9] at H
                  have c9b0 : decide (x5_1 < (a1.size : Int)) = true := decide_eq_true c9
                  clear c9
                  by_cases c11 : (bt a0 x5_1) = (bt a1 x5_1)
                  · rw [if_pos c11] at H
                    have c11b0 : ((bt a0 x5_1) == (bt a1 x5_1)) = true := beq_iff_eq.mpr c11
                    have c11b1 : ((bt a0 x5_1) != (bt a1 x5_1)) = false := bne_eq_false_iff_eq.mpr c11
                    clear c11
                    have H' := Aside0.mk H
                    clear H
                    have p8 : 0 ≤ (x5_1 : Int) := of_decide_eq_true (by first | (with_reducible assumption) | assumption)
                    have q8 : x5_1 < (a0.size : Int) := of_decide_eq_true (by first | (with_reducible assumption) | assumption)
                    have hx8 := bt_at a0 x5_1
                    replace p8 := eq_true p8
                    replace q8 := eq_true q8
                    have p10 : 0 ≤ (x5_1 : Int) := of_decide_eq_true (by first | (with_reducible assumption) | assumption)
                    have q10 : x5_1 < (a1.size : Int) := of_decide_eq_true (by first | (with_reducible assumption) | assumption)
                    have hx10 := bt_at a1 x5_1
                    replace p10 := eq_true p10
                    replace q10 := eq_true q10
                    go_wp2
                    repeat (go_quiet (fail); try go_wp2)
                    go_roundg kj2
                    case measure => have := HK1.out; have := HJ2.out; omega
                    case rel => exact ⟨(wrap64 (x5_1 + 1)), (by first | rfl | (simp; done) | (simp [*]; done)), H', ⟨by have := HK1.out; have := HJ2.out; omega⟩, by repeat (first | exact Drawn0.refl _ | apply Drawn0.step)⟩
                  · rw [if_neg c11] at H
                    have c11b0 : ((bt a0 x5_1) == (bt a1 x5_1)) = false := beq_eq_false_iff_ne.mpr c11
                    have c11b1 : ((bt a0 x5_1) != (bt a1 x5_1)) = true := bne_iff_ne.mpr c11
                    obtain rfl := Option.some.inj H
                    have p8 : 0 ≤ (x5_1 : Int) := of_decide_eq_true (by first | (with_reducible assumption) | assumption)
                    have q8 : x5_1 < (a0.size : Int) := of_decide_eq_true (by first | (with_reducible assumption) | assumption)
                    have hx8 := bt_at a0 x5_1
                    replace p8 := eq_true p8
                    replace q8 := eq_true q8
                    have p10 : 0 ≤ (x5_1 : Int) := of_decide_eq_true (by first | (with_reducible assumption) | assumption)
                    have q10 : x5_1 < (a1.size : Int) := of_decide_eq_true (by first | (with_reducible assumption) | assumption)
                    have hx10 := bt_at a1 x5_1
                    replace p10 := eq_true p10
                    replace q10 := eq_true q10
                    have p12 : 0 ≤ (x5_1 : Int) := of_decide_eq_true (by first | (with_reducible assumption) | assumption)
                    have q12 : x5_1 < (a0.size : Int) := of_decide_eq_true (by first | (with_reducible assumption) | assumption)
                    have hx12 := bt_at a0 x5_1
                    replace p12 := eq_true p12
                    replace q12 := eq_true q12
                    have p13 : 0 ≤ (x5_1 : Int) := of_decide_eq_true (by first | (with_reducible assumption) | assumption)
                    have q13 : x5_1 < (a1.size : Int) := of_decide_eq_true (by first | (with_reducible assumption) | assumption)
                    have hx13 := bt_at a1 x5_1
                    replace p13 := eq_true p13
                    replace q13 := eq_true q13
                    go_wp2
                    repeat (go_quiet (fail); try go_wp2)
                    go_ret
                    exact ⟨by first | rfl | (simp; done) | (simp [*]; done), by repeat (first | exact Drawn0.refl _ | apply Drawn0.step)⟩
                · rw [if_neg c9] at H
                  exact absurd H (by simp)
              · rw [if_neg c7] at H
                exact absurd H (by simp)
            · rw [if_neg c6] at H
              exact absurd H (by simp)
          · replace c5 := Bool.eq_false_iff.mpr c5
            subst c5
            have H1 : (some (decide ((a0.size : Int) < (a1.size : Int)))) = some r := by rw [if_neg (show ¬ (false = true) by decide)] at H; exact H
            clear H
            have H := H1
            clear H1
            obtain rfl := Option.some.inj H
            go_wp2
            repeat (go_quiet (fail); try go_wp2)
            go_ret
            exact ⟨by first | rfl | (simp; done) | (simp [*]; done), by repeat (first | exact Drawn0.refl _ | apply Drawn0.step)⟩

end Go.Proofs.Ytbcnknmgljdmlaa.G
end

section
-- Written by a program of this session (wip/tools/myprint.py), over the kit's print.
namespace Go.Proofs.Ytbcnknmgljdmlaa.G
open Go.RowKit Go.Proofs.YtbcnknmgljdmlaaW.PrintWords Go.Proofs.YtbcnknmgljdmlaaW.PrintLast Go.Proofs.YtbcnknmgljdmlaaW.PrintMore
attribute [local go_sem] max2_int min2_int max_two min_two max_three min_three max_four min_four   -- for this text's walks alone
set_option linter.unusedVariables false
set_option linter.unusedSimpArgs false

/-! ### rosetteref04_Text: function 50 -/
def rosetteref04_Text.f (k : Nat) (a0 : ByteArray) (a1 : ByteArray) : Option (Int) := if a0.toList = a1.toList then (some 0) else ((rosetteref04_less.f k a0 a1).bind fun t163 => (if t163 = true then (some (-1)) else (some 1)))
theorem rosetteref04_Text.mono : ∀ a0 a1 k, LeO (rosetteref04_Text.f k a0 a1) (rosetteref04_Text.f (k + 1) a0 a1) := by
  intro a0 a1 k
  unfold rosetteref04_Text.f
  repeat' first
      | (with_reducible exact rosetteref04_less.mono _ _ _)
      | (with_reducible exact LeO.refl _)
      | (with_reducible exact LeO.none _)
      | (with_reducible refine LeO.ite ?_ ?_)
      | (with_reducible refine LeO.bind ?_ (fun _ => ?_))
      | exact rosetteref04_less.mono _ _ _
      | exact LeO.none _
      | refine LeO.ite ?_ ?_
      | refine LeO.bind ?_ (fun _ => ?_)
set_option maxHeartbeats 8000000 in
set_option maxRecDepth 100000 in
theorem rosetteref04_Text.calls (k : Nat) (a0 : ByteArray) (a1 : ByteArray) (r : Int) (w : World) (h : rosetteref04_Text.f k a0 a1 = some r) :
    Calls Try.prog 50 #[.string a0, .string a1] w fun e w' => e = .returned (.int .i64 r) ∧ Drawn0 w w' := by
  have H : (if a0.toList = a1.toList then (some 0) else ((rosetteref04_less.f k a0 a1).bind fun t163 => (if t163 = true then (some (-1)) else (some 1)))) = some r := h
  clear h
  by_cases c3 : a0.toList = a1.toList
  · rw [if_pos c3] at H
    have c3b0 : (a0.toList == a1.toList) = true := beq_iff_eq.mpr c3
    have c3b1 : (a0.toList != a1.toList) = false := bne_eq_false_iff_eq.mpr c3
    clear c3
    obtain rfl := Option.some.inj H
    go_enter Try.func50, Try.ntmps50
    go_wp2
    go_ret
    exact ⟨by first | rfl | (simp; done) | (simp [*]; done), by repeat (first | exact Drawn0.refl _ | apply Drawn0.step)⟩
  · rw [if_neg c3] at H
    have c3b0 : (a0.toList == a1.toList) = false := beq_eq_false_iff_ne.mpr c3
    have c3b1 : (a0.toList != a1.toList) = true := bne_iff_ne.mpr c3
    replace H := Option.bind_eq_some_iff.mp H
    obtain ⟨t163, A40, H⟩ := H
    replace H : (if t163 = true then (some (-1)) else (some 1)) = some r := H
    have A4 := Aside0.mk A40
    clear A40
    by_cases c5 : t163 = true
    · subst c5
      have H1 : (some (-1)) = some r := by rw [if_pos rfl] at H; exact H
      clear H
      have H := H1
      clear H1
      obtain rfl := Option.some.inj H
      go_enter Try.func50, Try.ntmps50
      go_wp2_with (first | ((with_reducible refine gate_callee (f := 51) rfl ?_); refine goesL_ (some 10) rfl rfl Try.func51 (by kernel_rfl) rfl #[.string a0, .string a1] rfl (by (try simp only [List.map_toArray, List.map_cons, List.map_nil]); first | done | rfl | (simp only [List.length_drop, List.length_take]; rfl)) ?_; (with_reducible refine (rosetteref04_less.calls k a0 a1 true _ A4.out).mono ?_); rintro e w' ⟨rfl, ⟨nd, rfl⟩⟩; refine ⟨_, rfl, ?_⟩))
      go_ret
      exact ⟨by first | rfl | (simp; done) | (simp [*]; done), by repeat (first | exact Drawn0.refl _ | apply Drawn0.step)⟩
    · replace c5 := Bool.eq_false_iff.mpr c5
      subst c5
      have H1 : (some 1) = some r := by rw [if_neg (show ¬ (false = true) by decide)] at H; exact H
      clear H
      have H := H1
      clear H1
      obtain rfl := Option.some.inj H
      go_enter Try.func50, Try.ntmps50
      go_wp2_with (first | ((with_reducible refine gate_callee (f := 51) rfl ?_); refine goesL_ (some 10) rfl rfl Try.func51 (by kernel_rfl) rfl #[.string a0, .string a1] rfl (by (try simp only [List.map_toArray, List.map_cons, List.map_nil]); first | done | rfl | (simp only [List.length_drop, List.length_take]; rfl)) ?_; (with_reducible refine (rosetteref04_less.calls k a0 a1 false _ A4.out).mono ?_); rintro e w' ⟨rfl, ⟨nd, rfl⟩⟩; refine ⟨_, rfl, ?_⟩))
      go_ret
      exact ⟨by first | rfl | (simp; done) | (simp [*]; done), by repeat (first | exact Drawn0.refl _ | apply Drawn0.step)⟩

end Go.Proofs.Ytbcnknmgljdmlaa.G
end

section
-- Written by a program of this session (wip/tools/myprint.py), over the kit's print.
namespace Go.Proofs.Ytbcnknmgljdmlaa.G
open Go.RowKit Go.Proofs.YtbcnknmgljdmlaaW.PrintWords Go.Proofs.YtbcnknmgljdmlaaW.PrintLast Go.Proofs.YtbcnknmgljdmlaaW.PrintMore
attribute [local go_sem] max2_int min2_int max_two min_two max_three min_three max_four min_four   -- for this text's walks alone
set_option linter.unusedVariables false
set_option linter.unusedSimpArgs false

/-! ### rosetteref04_Compare: function 49 -/
def rosetteref04_Compare.j0 : Nat → Bool → Int → Int → ByteArray → Int → Int → ByteArray → Option (Int)
  | 0, _, _, _, _, _, _, _ => none
  | k + 1, x23, x165000, x165001, x165002, x166000, x166001, x166002 => if x23 = true then (some (-1)) else (if x165000 > x166000 then (some 1) else (if x165001 > x166001 then (some 1) else ((rosetteref04_Text.f k x165002 x166002).bind fun t166 => (some t166))))
def rosetteref04_Compare.f (k : Nat) (a0_0 : Int) (a0_1 : Int) (a0_2 : ByteArray) (a1_0 : Int) (a1_1 : Int) (a1_2 : ByteArray) : Option (Int) := if a0_0 < a1_0 then (rosetteref04_Compare.j0 k true a0_0 a0_1 a0_2 a1_0 a1_1 a1_2) else (if a0_0 = a1_0 then (rosetteref04_Compare.j0 k (decide (a0_1 < a1_1)) a0_0 a0_1 a0_2 a1_0 a1_1 a1_2) else (rosetteref04_Compare.j0 k false a0_0 a0_1 a0_2 a1_0 a1_1 a1_2))
theorem rosetteref04_Compare.mono_l : ∀ k, (∀ y0 y1 y2 y3 y4 y5 y6, LeO (rosetteref04_Compare.j0 k y0 y1 y2 y3 y4 y5 y6) (rosetteref04_Compare.j0 (k + 1) y0 y1 y2 y3 y4 y5 y6))
  | 0 => fun _ _ _ _ _ _ _ r h => by simp [rosetteref04_Compare.j0] at h
  | k + 1 => by
    have ih0 := rosetteref04_Compare.mono_l k
    · intro y0 y1 y2 y3 y4 y5 y6
      unfold rosetteref04_Compare.j0
      repeat' first
      | (with_reducible exact ih0 _ _ _ _ _ _ _)
      | (with_reducible exact rosetteref04_Text.mono _ _ _)
      | (with_reducible exact LeO.refl _)
      | (with_reducible exact LeO.none _)
      | (with_reducible refine LeO.ite ?_ ?_)
      | (with_reducible refine LeO.bind ?_ (fun _ => ?_))
      | exact ih0 _ _ _ _ _ _ _
      | exact rosetteref04_Text.mono _ _ _
      | exact LeO.none _
      | refine LeO.ite ?_ ?_
      | refine LeO.bind ?_ (fun _ => ?_)
theorem rosetteref04_Compare.mono : ∀ a0 a1 a2 a3 a4 a5 k, LeO (rosetteref04_Compare.f k a0 a1 a2 a3 a4 a5) (rosetteref04_Compare.f (k + 1) a0 a1 a2 a3 a4 a5) := by
  intro a0 a1 a2 a3 a4 a5 k
  have ih0 := rosetteref04_Compare.mono_l k
  unfold rosetteref04_Compare.f
  repeat' first
      | (with_reducible exact ih0 _ _ _ _ _ _ _)
      | (with_reducible exact rosetteref04_Text.mono _ _ _)
      | (with_reducible exact LeO.refl _)
      | (with_reducible exact LeO.none _)
      | (with_reducible refine LeO.ite ?_ ?_)
      | (with_reducible refine LeO.bind ?_ (fun _ => ?_))
      | exact ih0 _ _ _ _ _ _ _
      | exact rosetteref04_Text.mono _ _ _
      | exact LeO.none _
      | refine LeO.ite ?_ ?_
      | refine LeO.bind ?_ (fun _ => ?_)
set_option maxHeartbeats 8000000 in
set_option maxRecDepth 100000 in
theorem rosetteref04_Compare.calls (k : Nat) (a0_0 : Int) (a0_1 : Int) (a0_2 : ByteArray) (a1_0 : Int) (a1_1 : Int) (a1_2 : ByteArray) (r : Int) (w : World) (h : rosetteref04_Compare.f k a0_0 a0_1 a0_2 a1_0 a1_1 a1_2 = some r) :
    Calls Try.prog 49 #[.agg #[.int .i64 a0_0, .int .i64 a0_1, .string a0_2], .agg #[.int .i64 a1_0, .int .i64 a1_1, .string a1_2]] w fun e w' => e = .returned (.int .i64 r) ∧ Below w.heap.size w w' := by
  have hu45 := Try.underlying45
  have HB := Aside0.mk (Below.refl w.heap.size w)
  have H : (if a0_0 < a1_0 then (rosetteref04_Compare.j0 k true a0_0 a0_1 a0_2 a1_0 a1_1 a1_2) else (if a0_0 = a1_0 then (rosetteref04_Compare.j0 k (decide (a0_1 < a1_1)) a0_0 a0_1 a0_2 a1_0 a1_1 a1_2) else (rosetteref04_Compare.j0 k false a0_0 a0_1 a0_2 a1_0 a1_1 a1_2))) = some r := h
  clear h
  have HC3 := Aside0.mk H
  clear H
  go_enter Try.func49, Try.ntmps49
  go_upto_region 1 with (first | ((with_reducible refine gate_dst (N := 2) rfl ?_); refine box_event ?hg (N := 2) ?hd (cs := #[.int .i64 a0_0, .int .i64 a0_1, .string a0_2]) (t := 45) ?hr ?_; (case hd => rfl); (case hg => rfl); (case hr => first | (go_simp; done) | (go_simp; rfl)); intro gb164 hg w4 hbox hb; have n0_ := Aside0.mk (below_step (by repeat (first | (with_reducible first | exact HB.out | apply below_alloc | apply pw_below_drewN | apply below_drew1) | exact HB.out)) hb); have n1_ := Aside0.mk (hbox); have n2_ := Aside0.mk ((by rw [hg]; exact (below_size (by repeat (first | (with_reducible first | exact HB.out | apply below_alloc | apply pw_below_drewN | apply below_drew1) | exact HB.out))) : w.heap.size ≤ gb164)); have n3_ := Aside0.mk ((by rw [hg]; exact (below_size (by repeat (first | (with_reducible first | exact HB.out | apply below_alloc | apply pw_below_drewN | apply below_drew1) | exact HB.out))) : w.heap.size ≤ gb164)); clear HB; have HB := n0_; have BK164 := n1_; have GW164 := n2_; have GE164 := n3_; clear n0_ n1_ n2_ n3_; clear hb hbox hg) | ((with_reducible refine gate_dst (N := 3) rfl ?_); refine box_event ?hg (N := 3) ?hd (cs := #[.int .i64 a1_0, .int .i64 a1_1, .string a1_2]) (t := 45) ?hr ?_; (case hd => rfl); (case hg => rfl); (case hr => first | (go_simp; done) | (go_simp; rfl)); intro gb165 hg w5 hbox hb; have n0_ := Aside0.mk (blk_below (g := gb164) (o := .cells #[.int .i64 a0_0, .int .i64 a0_1, .string a0_2] 45 (0, 0)) (by (with_reducible repeat (first | refine blk_drewN ?_ _ | refine blk_drew ?_ | refine blk_alloc ?_ _)); exact BK164.out) hb); have n1_ := Aside0.mk (below_step (by repeat (first | (with_reducible first | exact HB.out | apply below_alloc | apply pw_below_drewN | apply below_drew1 | refine below_set ?_ GE164.out) | exact HB.out)) hb); have n2_ := Aside0.mk (hbox); have n3_ := Aside0.mk ((by rw [hg]; exact (below_size (by repeat (first | (with_reducible first | exact HB.out | apply below_alloc | apply pw_below_drewN | apply below_drew1 | refine below_set ?_ GE164.out) | exact HB.out))) : w.heap.size ≤ gb165)); have n4_ := Aside0.mk ((by rw [hg]; exact (below_size (by repeat (first | (with_reducible first | exact HB.out | apply below_alloc | apply pw_below_drewN | apply below_drew1 | refine below_set ?_ GE164.out) | exact HB.out))) : w.heap.size ≤ gb165)); have n5_ := Aside0.mk ((by rw [hg]; exact Nat.ne_of_lt (blk_lt (g := gb164) (o := .cells #[.int .i64 a0_0, .int .i64 a0_1, .string a0_2] 45 (0, 0)) (by (with_reducible repeat (first | refine blk_drewN ?_ _ | refine blk_drew ?_ | refine blk_alloc ?_ _)); exact BK164.out)) : gb164 ≠ gb165)); have n6_ := Aside0.mk ((by rw [hg]; exact Nat.ne_of_gt (blk_lt (g := gb164) (o := .cells #[.int .i64 a0_0, .int .i64 a0_1, .string a0_2] 45 (0, 0)) (by (with_reducible repeat (first | refine blk_drewN ?_ _ | refine blk_drew ?_ | refine blk_alloc ?_ _)); exact BK164.out)) : gb165 ≠ gb164)); clear BK164; clear HB; have BK164 := n0_; have HB := n1_; have BK165 := n2_; have GW165 := n3_; have GE165 := n4_; have NB164_165 := n5_; have NB165_164 := n6_; clear n0_ n1_ n2_ n3_ n4_ n5_ n6_; clear hb hbox hg))
  (try simp only [Act.put, List.setIfInBounds_toArray, List.set_cons_zero, List.set_cons_succ])
  go_cut [23] (fun v23 wc => ∃ (kq : Nat) (x23_2 : Bool), v23 = .bool x23_2 ∧ Aside0 (rosetteref04_Compare.j0 kq x23_2 a0_0 a0_1 a0_2 a1_0 a1_1 a1_2 = some r) ∧ Aside0 (kq ≤ k) ∧ Aside0 (wc.heap[gb164]? = some (.cells #[.int .i64 a0_0, .int .i64 a0_1, .string a0_2] 45 (0, 0))) ∧ Aside0 (wc.heap[gb165]? = some (.cells #[.int .i64 a1_0, .int .i64 a1_1, .string a1_2] 45 (0, 0))) ∧ Aside0 (Below w.heap.size w wc))
  case first =>
    have H := HC3.out
    clear HC3
    by_cases c6 : a0_0 < a1_0
    · rw [if_pos c6] at H
      have c6b0 : decide (a0_0 < a1_0) = true := decide_eq_true c6
      clear c6
      (first | rw [c6b0] | (simp only [i64_w, i32_w]; rw [c6b0]) | skip)
      have H' := Aside0.mk H
      clear H
      have hnb7 := NB164_165.out
      have hnc7 := NB165_164.out
      have hcz8_0 : w5.cell? ⟨gb164, 0, none⟩ = some (.int .i64 a0_0) := (blk_cell BK164.out 0).trans rfl
      have hcz8_1 : w5.cell? ⟨gb164, 1, none⟩ = some (.int .i64 a0_1) := (blk_cell BK164.out 1).trans rfl
      have hcz8_2 : w5.cell? ⟨gb164, 2, none⟩ = some (.string a0_2) := (blk_cell BK164.out 2).trans rfl
      have hfz8_0 := blk_frozen BK164.out 0
      have hfz8_1 := blk_frozen BK164.out 1
      have hfz8_2 := blk_frozen BK164.out 2
      have hcz9_0 : w5.cell? ⟨gb165, 0, none⟩ = some (.int .i64 a1_0) := (blk_cell BK165.out 0).trans rfl
      have hcz9_1 : w5.cell? ⟨gb165, 1, none⟩ = some (.int .i64 a1_1) := (blk_cell BK165.out 1).trans rfl
      have hcz9_2 : w5.cell? ⟨gb165, 2, none⟩ = some (.string a1_2) := (blk_cell BK165.out 2).trans rfl
      have hfz9_0 := blk_frozen BK165.out 0
      have hfz9_1 := blk_frozen BK165.out 1
      have hfz9_2 := blk_frozen BK165.out 2
      go_wp2
      go_meet
      case rel => exact ⟨_, (true), (by first | rfl | (simp; done) | (simp [*]; done)), H', ⟨by first | omega | exact Nat.le_refl _⟩, ⟨by (with_reducible repeat (first | refine blk_drewN ?_ _ | refine blk_drew ?_ | refine blk_alloc ?_ _)); exact BK164.out⟩, ⟨by (with_reducible repeat (first | refine blk_drewN ?_ _ | refine blk_drew ?_ | refine blk_alloc ?_ _)); exact BK165.out⟩, ⟨by repeat (first | (with_reducible first | exact HB.out | apply below_alloc | apply pw_below_drewN | apply below_drew1 | refine below_set ?_ GE164.out | refine below_set ?_ GE165.out) | exact HB.out)⟩⟩
    · rw [if_neg c6] at H
      have c6b0 : decide (a0_0 < a1_0) = false := decide_eq_false c6
      clear c6
      (first | rw [c6b0] | (simp only [i64_w, i32_w]; rw [c6b0]) | skip)
      by_cases c10 : a0_0 = a1_0
      · rw [if_pos c10] at H
        have c10b0 : (a0_0 == a1_0) = true := beq_iff_eq.mpr c10
        have c10b1 : (a0_0 != a1_0) = false := bne_eq_false_iff_eq.mpr c10
        clear c10
        have H' := Aside0.mk H
        clear H
        have hnb11 := NB164_165.out
        have hnc11 := NB165_164.out
        have hcz12_0 : w5.cell? ⟨gb164, 0, none⟩ = some (.int .i64 a0_0) := (blk_cell BK164.out 0).trans rfl
        have hcz12_1 : w5.cell? ⟨gb164, 1, none⟩ = some (.int .i64 a0_1) := (blk_cell BK164.out 1).trans rfl
        have hcz12_2 : w5.cell? ⟨gb164, 2, none⟩ = some (.string a0_2) := (blk_cell BK164.out 2).trans rfl
        have hfz12_0 := blk_frozen BK164.out 0
        have hfz12_1 := blk_frozen BK164.out 1
        have hfz12_2 := blk_frozen BK164.out 2
        have hcz13_0 : w5.cell? ⟨gb165, 0, none⟩ = some (.int .i64 a1_0) := (blk_cell BK165.out 0).trans rfl
        have hcz13_1 : w5.cell? ⟨gb165, 1, none⟩ = some (.int .i64 a1_1) := (blk_cell BK165.out 1).trans rfl
        have hcz13_2 : w5.cell? ⟨gb165, 2, none⟩ = some (.string a1_2) := (blk_cell BK165.out 2).trans rfl
        have hfz13_0 := blk_frozen BK165.out 0
        have hfz13_1 := blk_frozen BK165.out 1
        have hfz13_2 := blk_frozen BK165.out 2
        go_wp2
        go_meet
        case rel => exact ⟨_, (decide (a0_1 < a1_1)), (by first | rfl | (simp; done) | (simp [*]; done)), H', ⟨by first | omega | exact Nat.le_refl _⟩, ⟨by (with_reducible repeat (first | refine blk_drewN ?_ _ | refine blk_drew ?_ | refine blk_alloc ?_ _)); exact BK164.out⟩, ⟨by (with_reducible repeat (first | refine blk_drewN ?_ _ | refine blk_drew ?_ | refine blk_alloc ?_ _)); exact BK165.out⟩, ⟨by repeat (first | (with_reducible first | exact HB.out | apply below_alloc | apply pw_below_drewN | apply below_drew1 | refine below_set ?_ GE164.out | refine below_set ?_ GE165.out) | exact HB.out)⟩⟩
      · rw [if_neg c10] at H
        have c10b0 : (a0_0 == a1_0) = false := beq_eq_false_iff_ne.mpr c10
        have c10b1 : (a0_0 != a1_0) = true := bne_iff_ne.mpr c10
        have H' := Aside0.mk H
        clear H
        have hnb14 := NB164_165.out
        have hnc14 := NB165_164.out
        have hcz15_0 : w5.cell? ⟨gb164, 0, none⟩ = some (.int .i64 a0_0) := (blk_cell BK164.out 0).trans rfl
        have hcz15_1 : w5.cell? ⟨gb164, 1, none⟩ = some (.int .i64 a0_1) := (blk_cell BK164.out 1).trans rfl
        have hcz15_2 : w5.cell? ⟨gb164, 2, none⟩ = some (.string a0_2) := (blk_cell BK164.out 2).trans rfl
        have hfz15_0 := blk_frozen BK164.out 0
        have hfz15_1 := blk_frozen BK164.out 1
        have hfz15_2 := blk_frozen BK164.out 2
        have hcz16_0 : w5.cell? ⟨gb165, 0, none⟩ = some (.int .i64 a1_0) := (blk_cell BK165.out 0).trans rfl
        have hcz16_1 : w5.cell? ⟨gb165, 1, none⟩ = some (.int .i64 a1_1) := (blk_cell BK165.out 1).trans rfl
        have hcz16_2 : w5.cell? ⟨gb165, 2, none⟩ = some (.string a1_2) := (blk_cell BK165.out 2).trans rfl
        have hfz16_0 := blk_frozen BK165.out 0
        have hfz16_1 := blk_frozen BK165.out 1
        have hfz16_2 := blk_frozen BK165.out 2
        go_wp2
        go_meet
        case rel => exact ⟨_, (false), (by first | rfl | (simp; done) | (simp [*]; done)), H', ⟨by first | omega | exact Nat.le_refl _⟩, ⟨by (with_reducible repeat (first | refine blk_drewN ?_ _ | refine blk_drew ?_ | refine blk_alloc ?_ _)); exact BK164.out⟩, ⟨by (with_reducible repeat (first | refine blk_drewN ?_ _ | refine blk_drew ?_ | refine blk_alloc ?_ _)); exact BK165.out⟩, ⟨by repeat (first | (with_reducible first | exact HB.out | apply below_alloc | apply pw_below_drewN | apply below_drew1 | refine below_set ?_ GE164.out | refine below_set ?_ GE165.out) | exact HB.out)⟩⟩
  case rest =>
    clear HC3
    try clear c1
    try clear p2
    try clear c4
    try clear c6
    try clear c6b0
    try clear c7
    try clear c10
    try clear c10b0
    try clear c10b1
    try clear c11
    try clear c14
    try clear hcz12_0
    try clear hcz12_1
    try clear hcz12_2
    try clear hcz13_0
    try clear hcz13_1
    try clear hcz13_2
    try clear hcz15_0
    try clear hcz15_1
    try clear hcz15_2
    try clear hcz16_0
    try clear hcz16_1
    try clear hcz16_2
    try clear hcz8_0
    try clear hcz8_1
    try clear hcz8_2
    try clear hcz9_0
    try clear hcz9_1
    try clear hcz9_2
    try clear hfz12_0
    try clear hfz12_1
    try clear hfz12_2
    try clear hfz13_0
    try clear hfz13_1
    try clear hfz13_2
    try clear hfz15_0
    try clear hfz15_1
    try clear hfz15_2
    try clear hfz16_0
    try clear hfz16_1
    try clear hfz16_2
    try clear hfz8_0
    try clear hfz8_1
    try clear hfz8_2
    try clear hfz9_0
    try clear hfz9_1
    try clear hfz9_2
    obtain ⟨kq, x23_2, rfl, HA, HJ2, BK164, BK165, HB⟩ := hcut
    cases kq with
    | zero => exact absurd HA.out (by simp [rosetteref04_Compare.j0])
    | succ kj2 =>
      have H := HA.out
      clear HA
      simp only [rosetteref04_Compare.j0] at H
      by_cases c17 : x23_2 = true
      · subst c17
        have H1 : (some (-1)) = some r := by rw [if_pos rfl] at H; exact H
        clear H
        have H := H1
        clear H1
        obtain rfl := Option.some.inj H
        go_wp2
        go_ret
        exact ⟨by first | rfl | (simp [errW_none, errW_some] <;> rfl) | (simp [*, errW_none, errW_some] <;> rfl), by repeat (first | (with_reducible first | exact HB.out | apply below_alloc | apply pw_below_drewN | apply below_drew1 | refine below_set ?_ GE164.out | refine below_set ?_ GE165.out) | exact HB.out)⟩
      · replace c17 := Bool.eq_false_iff.mpr c17
        subst c17
        have H1 : (if a0_0 > a1_0 then (some 1) else (if a0_1 > a1_1 then (some 1) else ((rosetteref04_Text.f kj2 a0_2 a1_2).bind fun t166 => (some t166)))) = some r := by rw [if_neg (show ¬ (false = true) by decide)] at H; exact H
        clear H
        have H := H1
        clear H1
        by_cases c18 : a0_0 > a1_0
        · rw [if_pos c18] at H
          have c18b0 : decide (a1_0 < a0_0) = true := decide_eq_true c18
          clear c18
          obtain rfl := Option.some.inj H
          have hnb19 := NB164_165.out
          have hnc19 := NB165_164.out
          have hcz20_0 : wc.cell? ⟨gb164, 0, none⟩ = some (.int .i64 a0_0) := (blk_cell BK164.out 0).trans rfl
          have hcz20_1 : wc.cell? ⟨gb164, 1, none⟩ = some (.int .i64 a0_1) := (blk_cell BK164.out 1).trans rfl
          have hcz20_2 : wc.cell? ⟨gb164, 2, none⟩ = some (.string a0_2) := (blk_cell BK164.out 2).trans rfl
          have hfz20_0 := blk_frozen BK164.out 0
          have hfz20_1 := blk_frozen BK164.out 1
          have hfz20_2 := blk_frozen BK164.out 2
          have hcz21_0 : wc.cell? ⟨gb165, 0, none⟩ = some (.int .i64 a1_0) := (blk_cell BK165.out 0).trans rfl
          have hcz21_1 : wc.cell? ⟨gb165, 1, none⟩ = some (.int .i64 a1_1) := (blk_cell BK165.out 1).trans rfl
          have hcz21_2 : wc.cell? ⟨gb165, 2, none⟩ = some (.string a1_2) := (blk_cell BK165.out 2).trans rfl
          have hfz21_0 := blk_frozen BK165.out 0
          have hfz21_1 := blk_frozen BK165.out 1
          have hfz21_2 := blk_frozen BK165.out 2
          go_wp2
          go_ret
          exact ⟨by first | rfl | (simp [errW_none, errW_some] <;> rfl) | (simp [*, errW_none, errW_some] <;> rfl), by repeat (first | (with_reducible first | exact HB.out | apply below_alloc | apply pw_below_drewN | apply below_drew1 | refine below_set ?_ GE164.out | refine below_set ?_ GE165.out) | exact HB.out)⟩
        · rw [if_neg c18] at H
          have c18b0 : decide (a1_0 < a0_0) = false := decide_eq_false c18
          clear c18
          by_cases c22 : a0_1 > a1_1
          · rw [if_pos c22] at H
            have c22b0 : decide (a1_1 < a0_1) = true := decide_eq_true c22
            clear c22
            obtain rfl := Option.some.inj H
            have hnb23 := NB164_165.out
            have hnc23 := NB165_164.out
            have hcz24_0 : wc.cell? ⟨gb164, 0, none⟩ = some (.int .i64 a0_0) := (blk_cell BK164.out 0).trans rfl
            have hcz24_1 : wc.cell? ⟨gb164, 1, none⟩ = some (.int .i64 a0_1) := (blk_cell BK164.out 1).trans rfl
            have hcz24_2 : wc.cell? ⟨gb164, 2, none⟩ = some (.string a0_2) := (blk_cell BK164.out 2).trans rfl
            have hfz24_0 := blk_frozen BK164.out 0
            have hfz24_1 := blk_frozen BK164.out 1
            have hfz24_2 := blk_frozen BK164.out 2
            have hcz25_0 : wc.cell? ⟨gb165, 0, none⟩ = some (.int .i64 a1_0) := (blk_cell BK165.out 0).trans rfl
            have hcz25_1 : wc.cell? ⟨gb165, 1, none⟩ = some (.int .i64 a1_1) := (blk_cell BK165.out 1).trans rfl
            have hcz25_2 : wc.cell? ⟨gb165, 2, none⟩ = some (.string a1_2) := (blk_cell BK165.out 2).trans rfl
            have hfz25_0 := blk_frozen BK165.out 0
            have hfz25_1 := blk_frozen BK165.out 1
            have hfz25_2 := blk_frozen BK165.out 2
            go_wp2
            go_ret
            exact ⟨by first | rfl | (simp [errW_none, errW_some] <;> rfl) | (simp [*, errW_none, errW_some] <;> rfl), by repeat (first | (with_reducible first | exact HB.out | apply below_alloc | apply pw_below_drewN | apply below_drew1 | refine below_set ?_ GE164.out | refine below_set ?_ GE165.out) | exact HB.out)⟩
          · rw [if_neg c22] at H
            have c22b0 : decide (a1_1 < a0_1) = false := decide_eq_false c22
            clear c22
            replace H := Option.bind_eq_some_iff.mp H
            obtain ⟨t166, A260, H⟩ := H
            replace H : (some t166) = some r := H
            have A26 := Aside0.mk A260
            clear A260
            obtain rfl := Option.some.inj H
            have hnb27 := NB164_165.out
            have hnc27 := NB165_164.out
            have hcz28_0 : wc.cell? ⟨gb164, 0, none⟩ = some (.int .i64 a0_0) := (blk_cell BK164.out 0).trans rfl
            have hcz28_1 : wc.cell? ⟨gb164, 1, none⟩ = some (.int .i64 a0_1) := (blk_cell BK164.out 1).trans rfl
            have hcz28_2 : wc.cell? ⟨gb164, 2, none⟩ = some (.string a0_2) := (blk_cell BK164.out 2).trans rfl
            have hfz28_0 := blk_frozen BK164.out 0
            have hfz28_1 := blk_frozen BK164.out 1
            have hfz28_2 := blk_frozen BK164.out 2
            have hcz29_0 : wc.cell? ⟨gb165, 0, none⟩ = some (.int .i64 a1_0) := (blk_cell BK165.out 0).trans rfl
            have hcz29_1 : wc.cell? ⟨gb165, 1, none⟩ = some (.int .i64 a1_1) := (blk_cell BK165.out 1).trans rfl
            have hcz29_2 : wc.cell? ⟨gb165, 2, none⟩ = some (.string a1_2) := (blk_cell BK165.out 2).trans rfl
            have hfz29_0 := blk_frozen BK165.out 0
            have hfz29_1 := blk_frozen BK165.out 1
            have hfz29_2 := blk_frozen BK165.out 2
            go_wp2_with (first | ((with_reducible refine gate_callee (f := 50) rfl ?_); refine goesL_ (some 40) rfl rfl Try.func50 (by kernel_rfl) rfl #[.string a0_2, .string a1_2] rfl (by (try simp only [List.map_toArray, List.map_cons, List.map_nil]); first | done | rfl | (simp only [List.length_drop, List.length_take]; rfl)) ?_; (with_reducible refine (rosetteref04_Text.calls kj2 a0_2 a1_2 t166 _ A26.out).mono ?_); rintro e w' ⟨rfl, ⟨nd, rfl⟩⟩; refine ⟨_, rfl, ?_⟩))
            go_ret
            exact ⟨by first | rfl | (simp [errW_none, errW_some] <;> rfl) | (simp [*, errW_none, errW_some] <;> rfl), by repeat (first | (with_reducible first | exact HB.out | apply below_alloc | apply pw_below_drewN | apply below_drew1 | refine below_set ?_ GE164.out | refine below_set ?_ GE165.out) | exact HB.out)⟩

end Go.Proofs.Ytbcnknmgljdmlaa.G
end

section
-- Written by a program of this session (wip/tools/myprint.py), over the kit's print.
namespace Go.Proofs.Ytbcnknmgljdmlaa.G
open Go.RowKit Go.Proofs.YtbcnknmgljdmlaaW.PrintWords Go.Proofs.YtbcnknmgljdmlaaW.PrintLast Go.Proofs.YtbcnknmgljdmlaaW.PrintMore
attribute [local go_sem] max2_int min2_int max_two min_two max_three min_three max_four min_four   -- for this text's walks alone
set_option linter.unusedVariables false
set_option linter.unusedSimpArgs false

/-! ### rosetteref04_Right: function 48 -/
def rosetteref04_Right.f (a0_0 : Int) (a0_1 : Int) (a0_2 : ByteArray) : Option (Bool) := if a0_0 = 1 then (some (a0_2.toList == ([] : List UInt8))) else (if a0_0 = 2 then (if a0_1 = 0 then (some (decide ((a0_2.size : Int) ≤ 64))) else (some false)) else (if a0_0 = 3 then (if a0_2.toList = ([] : List UInt8) then (if a0_1 ≥ 0 then (some (decide (a0_1 ≤ 1))) else (some false)) else (some false)) else (some false)))
set_option maxHeartbeats 8000000 in
set_option maxRecDepth 100000 in
theorem rosetteref04_Right.calls (a0_0 : Int) (a0_1 : Int) (a0_2 : ByteArray) (r : Bool) (w : World) (h : rosetteref04_Right.f a0_0 a0_1 a0_2 = some r) :
    Calls Try.prog 48 #[.agg #[.int .i64 a0_0, .int .i64 a0_1, .string a0_2]] w fun e w' => e = .returned (.bool r) ∧ Below w.heap.size w w' := by
  have hu45 := Try.underlying45
  have HB := Aside0.mk (Below.refl w.heap.size w)
  have H : (if a0_0 = 1 then (some (a0_2.toList == ([] : List UInt8))) else (if a0_0 = 2 then (if a0_1 = 0 then (some (decide ((a0_2.size : Int) ≤ 64))) else (some false)) else (if a0_0 = 3 then (if a0_2.toList = ([] : List UInt8) then (if a0_1 ≥ 0 then (some (decide (a0_1 ≤ 1))) else (some false)) else (some false)) else (some false)))) = some r := h
  clear h
  by_cases c2 : a0_0 = 1
  · rw [if_pos c2] at H
    have c2b0 : (a0_0 == 1) = true := beq_iff_eq.mpr c2
    have c2b1 : (a0_0 != 1) = false := bne_eq_false_iff_eq.mpr c2
    clear c2
    obtain rfl := Option.some.inj H
    go_enter Try.func48, Try.ntmps48
    go_wp2_with (first | ((with_reducible refine gate_dst (N := 1) rfl ?_); (try (refine gate_guard (by rfl) ?_; dsimp only)); refine box_event ?hg (N := 1) ?hd (cs := #[.int .i64 a0_0, .int .i64 a0_1, .string a0_2]) (t := 45) ?hr ?_; (case hd => rfl); (case hg => rfl); (case hr => first | (go_simp; done) | (go_simp; rfl)); intro gb160 hg w3 hbox hb; have n0_ := Aside0.mk (below_step (by repeat (first | (with_reducible first | exact HB.out | apply below_alloc | apply pw_below_drewN | apply below_drew1) | exact HB.out)) hb); have n1_ := Aside0.mk (hbox); have n2_ := Aside0.mk ((by rw [hg]; exact (below_size (by repeat (first | (with_reducible first | exact HB.out | apply below_alloc | apply pw_below_drewN | apply below_drew1) | exact HB.out))) : w.heap.size ≤ gb160)); have n3_ := Aside0.mk ((by rw [hg]; exact (below_size (by repeat (first | (with_reducible first | exact HB.out | apply below_alloc | apply pw_below_drewN | apply below_drew1) | exact HB.out))) : w.heap.size ≤ gb160)); clear HB; have HB := n0_; have BK160 := n1_; have GW160 := n2_; have GE160 := n3_; clear n0_ n1_ n2_ n3_; clear hb hbox hg; have hcz4_0 : w3.cell? ⟨gb160, 0, none⟩ = some (.int .i64 a0_0) := (blk_cell BK160.out 0).trans rfl; have hcz4_1 : w3.cell? ⟨gb160, 1, none⟩ = some (.int .i64 a0_1) := (blk_cell BK160.out 1).trans rfl; have hcz4_2 : w3.cell? ⟨gb160, 2, none⟩ = some (.string a0_2) := (blk_cell BK160.out 2).trans rfl; have hfz4_0 := blk_frozen BK160.out 0; have hfz4_1 := blk_frozen BK160.out 1; have hfz4_2 := blk_frozen BK160.out 2))
    go_ret
    exact ⟨by first | rfl | (simp [errW_none, errW_some] <;> rfl) | (simp [*, errW_none, errW_some] <;> rfl), by repeat (first | (with_reducible first | exact HB.out | apply below_alloc | apply pw_below_drewN | apply below_drew1 | refine below_set ?_ GE160.out) | exact HB.out)⟩
  · rw [if_neg c2] at H
    have c2b0 : (a0_0 == 1) = false := beq_eq_false_iff_ne.mpr c2
    have c2b1 : (a0_0 != 1) = true := bne_iff_ne.mpr c2
    by_cases c5 : a0_0 = 2
    · rw [if_pos c5] at H
      have c5b0 : (a0_0 == 2) = true := beq_iff_eq.mpr c5
      have c5b1 : (a0_0 != 2) = false := bne_eq_false_iff_eq.mpr c5
      clear c5
      by_cases c6 : a0_1 = 0
      · rw [if_pos c6] at H
        have c6b0 : (a0_1 == 0) = true := beq_iff_eq.mpr c6
        have c6b1 : (a0_1 != 0) = false := bne_eq_false_iff_eq.mpr c6
        clear c6
        obtain rfl := Option.some.inj H
        go_enter Try.func48, Try.ntmps48
        go_wp2_with (first | ((with_reducible refine gate_dst (N := 1) rfl ?_); (try (refine gate_guard (by rfl) ?_; dsimp only)); refine box_event ?hg (N := 1) ?hd (cs := #[.int .i64 a0_0, .int .i64 a0_1, .string a0_2]) (t := 45) ?hr ?_; (case hd => rfl); (case hg => rfl); (case hr => first | (go_simp; done) | (go_simp; rfl)); intro gb160 hg w7 hbox hb; have n0_ := Aside0.mk (below_step (by repeat (first | (with_reducible first | exact HB.out | apply below_alloc | apply pw_below_drewN | apply below_drew1) | exact HB.out)) hb); have n1_ := Aside0.mk (hbox); have n2_ := Aside0.mk ((by rw [hg]; exact (below_size (by repeat (first | (with_reducible first | exact HB.out | apply below_alloc | apply pw_below_drewN | apply below_drew1) | exact HB.out))) : w.heap.size ≤ gb160)); have n3_ := Aside0.mk ((by rw [hg]; exact (below_size (by repeat (first | (with_reducible first | exact HB.out | apply below_alloc | apply pw_below_drewN | apply below_drew1) | exact HB.out))) : w.heap.size ≤ gb160)); clear HB; have HB := n0_; have BK160 := n1_; have GW160 := n2_; have GE160 := n3_; clear n0_ n1_ n2_ n3_; clear hb hbox hg; have hcz8_0 : w7.cell? ⟨gb160, 0, none⟩ = some (.int .i64 a0_0) := (blk_cell BK160.out 0).trans rfl; have hcz8_1 : w7.cell? ⟨gb160, 1, none⟩ = some (.int .i64 a0_1) := (blk_cell BK160.out 1).trans rfl; have hcz8_2 : w7.cell? ⟨gb160, 2, none⟩ = some (.string a0_2) := (blk_cell BK160.out 2).trans rfl; have hfz8_0 := blk_frozen BK160.out 0; have hfz8_1 := blk_frozen BK160.out 1; have hfz8_2 := blk_frozen BK160.out 2))
        go_ret
        exact ⟨by first | rfl | (simp [errW_none, errW_some] <;> rfl) | (simp [*, errW_none, errW_some] <;> rfl), by repeat (first | (with_reducible first | exact HB.out | apply below_alloc | apply pw_below_drewN | apply below_drew1 | refine below_set ?_ GE160.out) | exact HB.out)⟩
      · rw [if_neg c6] at H
        have c6b0 : (a0_1 == 0) = false := beq_eq_false_iff_ne.mpr c6
        have c6b1 : (a0_1 != 0) = true := bne_iff_ne.mpr c6
        obtain rfl := Option.some.inj H
        go_enter Try.func48, Try.ntmps48
        go_wp2_with (first | ((with_reducible refine gate_dst (N := 1) rfl ?_); (try (refine gate_guard (by rfl) ?_; dsimp only)); refine box_event ?hg (N := 1) ?hd (cs := #[.int .i64 a0_0, .int .i64 a0_1, .string a0_2]) (t := 45) ?hr ?_; (case hd => rfl); (case hg => rfl); (case hr => first | (go_simp; done) | (go_simp; rfl)); intro gb160 hg w9 hbox hb; have n0_ := Aside0.mk (below_step (by repeat (first | (with_reducible first | exact HB.out | apply below_alloc | apply pw_below_drewN | apply below_drew1) | exact HB.out)) hb); have n1_ := Aside0.mk (hbox); have n2_ := Aside0.mk ((by rw [hg]; exact (below_size (by repeat (first | (with_reducible first | exact HB.out | apply below_alloc | apply pw_below_drewN | apply below_drew1) | exact HB.out))) : w.heap.size ≤ gb160)); have n3_ := Aside0.mk ((by rw [hg]; exact (below_size (by repeat (first | (with_reducible first | exact HB.out | apply below_alloc | apply pw_below_drewN | apply below_drew1) | exact HB.out))) : w.heap.size ≤ gb160)); clear HB; have HB := n0_; have BK160 := n1_; have GW160 := n2_; have GE160 := n3_; clear n0_ n1_ n2_ n3_; clear hb hbox hg; have hcz10_0 : w9.cell? ⟨gb160, 0, none⟩ = some (.int .i64 a0_0) := (blk_cell BK160.out 0).trans rfl; have hcz10_1 : w9.cell? ⟨gb160, 1, none⟩ = some (.int .i64 a0_1) := (blk_cell BK160.out 1).trans rfl; have hcz10_2 : w9.cell? ⟨gb160, 2, none⟩ = some (.string a0_2) := (blk_cell BK160.out 2).trans rfl; have hfz10_0 := blk_frozen BK160.out 0; have hfz10_1 := blk_frozen BK160.out 1; have hfz10_2 := blk_frozen BK160.out 2))
        go_ret
        exact ⟨by first | rfl | (simp [errW_none, errW_some] <;> rfl) | (simp [*, errW_none, errW_some] <;> rfl), by repeat (first | (with_reducible first | exact HB.out | apply below_alloc | apply pw_below_drewN | apply below_drew1 | refine below_set ?_ GE160.out) | exact HB.out)⟩
    · rw [if_neg c5] at H
      have c5b0 : (a0_0 == 2) = false := beq_eq_false_iff_ne.mpr c5
      have c5b1 : (a0_0 != 2) = true := bne_iff_ne.mpr c5
      by_cases c11 : a0_0 = 3
      · rw [if_pos c11] at H
        have c11b0 : (a0_0 == 3) = true := beq_iff_eq.mpr c11
        have c11b1 : (a0_0 != 3) = false := bne_eq_false_iff_eq.mpr c11
        clear c11
        by_cases c12 : a0_2.toList = ([] : List UInt8)
        · rw [if_pos c12] at H
          have c12b0 : (a0_2.toList == ([] : List UInt8)) = true := beq_iff_eq.mpr c12
          have c12b1 : (a0_2.toList != ([] : List UInt8)) = false := bne_eq_false_iff_eq.mpr c12
          clear c12
          by_cases c13 : a0_1 ≥ 0
          · rw [if_pos c13] at H
            have c13b0 : decide (0 ≤ a0_1) = true := decide_eq_true c13
            clear c13
            obtain rfl := Option.some.inj H
            go_enter Try.func48, Try.ntmps48
            go_wp2_with (first | ((with_reducible refine gate_dst (N := 1) rfl ?_); (try (refine gate_guard (by rfl) ?_; dsimp only)); refine box_event ?hg (N := 1) ?hd (cs := #[.int .i64 a0_0, .int .i64 a0_1, .string a0_2]) (t := 45) ?hr ?_; (case hd => rfl); (case hg => rfl); (case hr => first | (go_simp; done) | (go_simp; rfl)); intro gb160 hg w14 hbox hb; have n0_ := Aside0.mk (below_step (by repeat (first | (with_reducible first | exact HB.out | apply below_alloc | apply pw_below_drewN | apply below_drew1) | exact HB.out)) hb); have n1_ := Aside0.mk (hbox); have n2_ := Aside0.mk ((by rw [hg]; exact (below_size (by repeat (first | (with_reducible first | exact HB.out | apply below_alloc | apply pw_below_drewN | apply below_drew1) | exact HB.out))) : w.heap.size ≤ gb160)); have n3_ := Aside0.mk ((by rw [hg]; exact (below_size (by repeat (first | (with_reducible first | exact HB.out | apply below_alloc | apply pw_below_drewN | apply below_drew1) | exact HB.out))) : w.heap.size ≤ gb160)); clear HB; have HB := n0_; have BK160 := n1_; have GW160 := n2_; have GE160 := n3_; clear n0_ n1_ n2_ n3_; clear hb hbox hg; have hcz15_0 : w14.cell? ⟨gb160, 0, none⟩ = some (.int .i64 a0_0) := (blk_cell BK160.out 0).trans rfl; have hcz15_1 : w14.cell? ⟨gb160, 1, none⟩ = some (.int .i64 a0_1) := (blk_cell BK160.out 1).trans rfl; have hcz15_2 : w14.cell? ⟨gb160, 2, none⟩ = some (.string a0_2) := (blk_cell BK160.out 2).trans rfl; have hfz15_0 := blk_frozen BK160.out 0; have hfz15_1 := blk_frozen BK160.out 1; have hfz15_2 := blk_frozen BK160.out 2))
            go_ret
            exact ⟨by first | rfl | (simp [errW_none, errW_some] <;> rfl) | (simp [*, errW_none, errW_some] <;> rfl), by repeat (first | (with_reducible first | exact HB.out | apply below_alloc | apply pw_below_drewN | apply below_drew1 | refine below_set ?_ GE160.out) | exact HB.out)⟩
          · rw [if_neg c13] at H
            have c13b0 : decide (0 ≤ a0_1) = false := decide_eq_false c13
            clear c13
            obtain rfl := Option.some.inj H
            go_enter Try.func48, Try.ntmps48
            go_wp2_with (first | ((with_reducible refine gate_dst (N := 1) rfl ?_); (try (refine gate_guard (by rfl) ?_; dsimp only)); refine box_event ?hg (N := 1) ?hd (cs := #[.int .i64 a0_0, .int .i64 a0_1, .string a0_2]) (t := 45) ?hr ?_; (case hd => rfl); (case hg => rfl); (case hr => first | (go_simp; done) | (go_simp; rfl)); intro gb160 hg w16 hbox hb; have n0_ := Aside0.mk (below_step (by repeat (first | (with_reducible first | exact HB.out | apply below_alloc | apply pw_below_drewN | apply below_drew1) | exact HB.out)) hb); have n1_ := Aside0.mk (hbox); have n2_ := Aside0.mk ((by rw [hg]; exact (below_size (by repeat (first | (with_reducible first | exact HB.out | apply below_alloc | apply pw_below_drewN | apply below_drew1) | exact HB.out))) : w.heap.size ≤ gb160)); have n3_ := Aside0.mk ((by rw [hg]; exact (below_size (by repeat (first | (with_reducible first | exact HB.out | apply below_alloc | apply pw_below_drewN | apply below_drew1) | exact HB.out))) : w.heap.size ≤ gb160)); clear HB; have HB := n0_; have BK160 := n1_; have GW160 := n2_; have GE160 := n3_; clear n0_ n1_ n2_ n3_; clear hb hbox hg; have hcz17_0 : w16.cell? ⟨gb160, 0, none⟩ = some (.int .i64 a0_0) := (blk_cell BK160.out 0).trans rfl; have hcz17_1 : w16.cell? ⟨gb160, 1, none⟩ = some (.int .i64 a0_1) := (blk_cell BK160.out 1).trans rfl; have hcz17_2 : w16.cell? ⟨gb160, 2, none⟩ = some (.string a0_2) := (blk_cell BK160.out 2).trans rfl; have hfz17_0 := blk_frozen BK160.out 0; have hfz17_1 := blk_frozen BK160.out 1; have hfz17_2 := blk_frozen BK160.out 2))
            go_ret
            exact ⟨by first | rfl | (simp [errW_none, errW_some] <;> rfl) | (simp [*, errW_none, errW_some] <;> rfl), by repeat (first | (with_reducible first | exact HB.out | apply below_alloc | apply pw_below_drewN | apply below_drew1 | refine below_set ?_ GE160.out) | exact HB.out)⟩
        · rw [if_neg c12] at H
          have c12b0 : (a0_2.toList == ([] : List UInt8)) = false := beq_eq_false_iff_ne.mpr c12
          have c12b1 : (a0_2.toList != ([] : List UInt8)) = true := bne_iff_ne.mpr c12
          obtain rfl := Option.some.inj H
          go_enter Try.func48, Try.ntmps48
          go_wp2_with (first | ((with_reducible refine gate_dst (N := 1) rfl ?_); (try (refine gate_guard (by rfl) ?_; dsimp only)); refine box_event ?hg (N := 1) ?hd (cs := #[.int .i64 a0_0, .int .i64 a0_1, .string a0_2]) (t := 45) ?hr ?_; (case hd => rfl); (case hg => rfl); (case hr => first | (go_simp; done) | (go_simp; rfl)); intro gb160 hg w18 hbox hb; have n0_ := Aside0.mk (below_step (by repeat (first | (with_reducible first | exact HB.out | apply below_alloc | apply pw_below_drewN | apply below_drew1) | exact HB.out)) hb); have n1_ := Aside0.mk (hbox); have n2_ := Aside0.mk ((by rw [hg]; exact (below_size (by repeat (first | (with_reducible first | exact HB.out | apply below_alloc | apply pw_below_drewN | apply below_drew1) | exact HB.out))) : w.heap.size ≤ gb160)); have n3_ := Aside0.mk ((by rw [hg]; exact (below_size (by repeat (first | (with_reducible first | exact HB.out | apply below_alloc | apply pw_below_drewN | apply below_drew1) | exact HB.out))) : w.heap.size ≤ gb160)); clear HB; have HB := n0_; have BK160 := n1_; have GW160 := n2_; have GE160 := n3_; clear n0_ n1_ n2_ n3_; clear hb hbox hg; have hcz19_0 : w18.cell? ⟨gb160, 0, none⟩ = some (.int .i64 a0_0) := (blk_cell BK160.out 0).trans rfl; have hcz19_1 : w18.cell? ⟨gb160, 1, none⟩ = some (.int .i64 a0_1) := (blk_cell BK160.out 1).trans rfl; have hcz19_2 : w18.cell? ⟨gb160, 2, none⟩ = some (.string a0_2) := (blk_cell BK160.out 2).trans rfl; have hfz19_0 := blk_frozen BK160.out 0; have hfz19_1 := blk_frozen BK160.out 1; have hfz19_2 := blk_frozen BK160.out 2))
          go_ret
          exact ⟨by first | rfl | (simp [errW_none, errW_some] <;> rfl) | (simp [*, errW_none, errW_some] <;> rfl), by repeat (first | (with_reducible first | exact HB.out | apply below_alloc | apply pw_below_drewN | apply below_drew1 | refine below_set ?_ GE160.out) | exact HB.out)⟩
      · rw [if_neg c11] at H
        have c11b0 : (a0_0 == 3) = false := beq_eq_false_iff_ne.mpr c11
        have c11b1 : (a0_0 != 3) = true := bne_iff_ne.mpr c11
        obtain rfl := Option.some.inj H
        go_enter Try.func48, Try.ntmps48
        go_wp2_with (first | ((with_reducible refine gate_dst (N := 1) rfl ?_); (try (refine gate_guard (by rfl) ?_; dsimp only)); refine box_event ?hg (N := 1) ?hd (cs := #[.int .i64 a0_0, .int .i64 a0_1, .string a0_2]) (t := 45) ?hr ?_; (case hd => rfl); (case hg => rfl); (case hr => first | (go_simp; done) | (go_simp; rfl)); intro gb160 hg w20 hbox hb; have n0_ := Aside0.mk (below_step (by repeat (first | (with_reducible first | exact HB.out | apply below_alloc | apply pw_below_drewN | apply below_drew1) | exact HB.out)) hb); have n1_ := Aside0.mk (hbox); have n2_ := Aside0.mk ((by rw [hg]; exact (below_size (by repeat (first | (with_reducible first | exact HB.out | apply below_alloc | apply pw_below_drewN | apply below_drew1) | exact HB.out))) : w.heap.size ≤ gb160)); have n3_ := Aside0.mk ((by rw [hg]; exact (below_size (by repeat (first | (with_reducible first | exact HB.out | apply below_alloc | apply pw_below_drewN | apply below_drew1) | exact HB.out))) : w.heap.size ≤ gb160)); clear HB; have HB := n0_; have BK160 := n1_; have GW160 := n2_; have GE160 := n3_; clear n0_ n1_ n2_ n3_; clear hb hbox hg; have hcz21_0 : w20.cell? ⟨gb160, 0, none⟩ = some (.int .i64 a0_0) := (blk_cell BK160.out 0).trans rfl; have hcz21_1 : w20.cell? ⟨gb160, 1, none⟩ = some (.int .i64 a0_1) := (blk_cell BK160.out 1).trans rfl; have hcz21_2 : w20.cell? ⟨gb160, 2, none⟩ = some (.string a0_2) := (blk_cell BK160.out 2).trans rfl; have hfz21_0 := blk_frozen BK160.out 0; have hfz21_1 := blk_frozen BK160.out 1; have hfz21_2 := blk_frozen BK160.out 2))
        go_ret
        exact ⟨by first | rfl | (simp [errW_none, errW_some] <;> rfl) | (simp [*, errW_none, errW_some] <;> rfl), by repeat (first | (with_reducible first | exact HB.out | apply below_alloc | apply pw_below_drewN | apply below_drew1 | refine below_set ?_ GE160.out) | exact HB.out)⟩

end Go.Proofs.Ytbcnknmgljdmlaa.G
end

section
-- Written by a program of this session (wip/tools/myprint.py), over the kit's print.
namespace Go.Proofs.Ytbcnknmgljdmlaa.G
open Go.RowKit Go.Proofs.YtbcnknmgljdmlaaW.PrintWords Go.Proofs.YtbcnknmgljdmlaaW.PrintLast Go.Proofs.YtbcnknmgljdmlaaW.PrintMore
attribute [local go_sem] max2_int min2_int max_two min_two max_three min_three max_four min_four   -- for this text's walks alone
set_option linter.unusedVariables false
set_option linter.unusedSimpArgs false

attribute [local go_sem high] eqA45
/-! ### rosetteref06_Right: function 47 -/
def rosetteref06_Right.j0 : Nat → Bool → ByteArray → Int → Int → Int → ByteArray → Option (Bool)
  | 0, _, _, _, _, _, _ => none
  | k + 1, x13, x162000, x162001, x162002, x162003, x162004 => if x13 = true then (some false) else (if x162001 = 8 then (some (x162002 == 0 && (x162003 == 0 && (x162004.toList == ([] : List UInt8))))) else ((rosetteref04_Right.f x162002 x162003 x162004).bind fun t162 => (if t162 = true then (if (x162004.size : Int) ≤ 32 then (if x162001 ≥ 1 then (if x162001 ≤ 7 then (if x162001 = 7 then (some (x162002 == 2)) else (some true)) else (some false)) else (some false)) else (some false)) else (some false))))
def rosetteref06_Right.f (k : Nat) (a0_0 : ByteArray) (a0_1 : Int) (a0_2 : Int) (a0_3 : Int) (a0_4 : ByteArray) : Option (Bool) := if (a0_0.size : Int) < 1 then (rosetteref06_Right.j0 k true a0_0 a0_1 a0_2 a0_3 a0_4) else (rosetteref06_Right.j0 k (decide ((a0_0.size : Int) > 16)) a0_0 a0_1 a0_2 a0_3 a0_4)
theorem rosetteref06_Right.mono_l : ∀ k, (∀ y0 y1 y2 y3 y4 y5, LeO (rosetteref06_Right.j0 k y0 y1 y2 y3 y4 y5) (rosetteref06_Right.j0 (k + 1) y0 y1 y2 y3 y4 y5))
  | 0 => fun _ _ _ _ _ _ r h => by simp [rosetteref06_Right.j0] at h
  | k + 1 => by
    have ih0 := rosetteref06_Right.mono_l k
    · intro y0 y1 y2 y3 y4 y5
      unfold rosetteref06_Right.j0
      repeat' first
      | (with_reducible exact ih0 _ _ _ _ _ _)
      | (with_reducible exact LeO.refl _)
      | (with_reducible exact LeO.none _)
      | (with_reducible refine LeO.ite ?_ ?_)
      | (with_reducible refine LeO.bind ?_ (fun _ => ?_))
      | exact ih0 _ _ _ _ _ _
      | exact LeO.none _
      | refine LeO.ite ?_ ?_
      | refine LeO.bind ?_ (fun _ => ?_)
theorem rosetteref06_Right.mono : ∀ a0 a1 a2 a3 a4 k, LeO (rosetteref06_Right.f k a0 a1 a2 a3 a4) (rosetteref06_Right.f (k + 1) a0 a1 a2 a3 a4) := by
  intro a0 a1 a2 a3 a4 k
  have ih0 := rosetteref06_Right.mono_l k
  unfold rosetteref06_Right.f
  repeat' first
      | (with_reducible exact ih0 _ _ _ _ _ _)
      | (with_reducible exact LeO.refl _)
      | (with_reducible exact LeO.none _)
      | (with_reducible refine LeO.ite ?_ ?_)
      | (with_reducible refine LeO.bind ?_ (fun _ => ?_))
      | exact ih0 _ _ _ _ _ _
      | exact LeO.none _
      | refine LeO.ite ?_ ?_
      | refine LeO.bind ?_ (fun _ => ?_)
set_option maxHeartbeats 8000000 in
set_option maxRecDepth 100000 in
theorem rosetteref06_Right.calls (k : Nat) (a0_0 : ByteArray) (a0_1 : Int) (a0_2 : Int) (a0_3 : Int) (a0_4 : ByteArray) (r : Bool) (w : World) (h : rosetteref06_Right.f k a0_0 a0_1 a0_2 a0_3 a0_4 = some r) :
    Calls Try.prog 47 #[.agg #[.string a0_0, .int .i64 a0_1, .int .i64 a0_2, .int .i64 a0_3, .string a0_4]] w fun e w' => e = .returned (.bool r) ∧ Below w.heap.size w w' := by
  have hu47 := Try.underlying47
  have hu45 := Try.underlying45
  have HB := Aside0.mk (Below.refl w.heap.size w)
  have H : (if (a0_0.size : Int) < 1 then (rosetteref06_Right.j0 k true a0_0 a0_1 a0_2 a0_3 a0_4) else (rosetteref06_Right.j0 k (decide ((a0_0.size : Int) > 16)) a0_0 a0_1 a0_2 a0_3 a0_4)) = some r := h
  clear h
  have HC2 := Aside0.mk H
  clear H
  go_enter Try.func47, Try.ntmps47
  go_upto_region 1 with (first | ((with_reducible refine gate_dst (N := 1) rfl ?_); (try (refine gate_guard (by rfl) ?_; dsimp only)); refine box_event ?hg (N := 1) ?hd (cs := #[.string a0_0, .int .i64 a0_1, .int .i64 a0_2, .int .i64 a0_3, .string a0_4]) (t := 47) ?hr ?_; (case hd => rfl); (case hg => rfl); (case hr => first | (go_simp; done) | (go_simp; rfl)); intro gb161 hg w3 hbox hb; have n0_ := Aside0.mk (below_step (by repeat (first | (with_reducible first | exact HB.out | apply below_alloc | apply pw_below_drewN | apply below_drew1) | exact HB.out)) hb); have n1_ := Aside0.mk (hbox); have n2_ := Aside0.mk ((by rw [hg]; exact (below_size (by repeat (first | (with_reducible first | exact HB.out | apply below_alloc | apply pw_below_drewN | apply below_drew1) | exact HB.out))) : w.heap.size ≤ gb161)); have n3_ := Aside0.mk ((by rw [hg]; exact (below_size (by repeat (first | (with_reducible first | exact HB.out | apply below_alloc | apply pw_below_drewN | apply below_drew1) | exact HB.out))) : w.heap.size ≤ gb161)); clear HB; have HB := n0_; have BK161 := n1_; have GW161 := n2_; have GE161 := n3_; clear n0_ n1_ n2_ n3_; clear hb hbox hg))
  (try simp only [Act.put, List.setIfInBounds_toArray, List.set_cons_zero, List.set_cons_succ])
  go_cut [13] (fun v13 wc => ∃ (kq : Nat) (x13_1 : Bool), v13 = .bool x13_1 ∧ Aside0 (rosetteref06_Right.j0 kq x13_1 a0_0 a0_1 a0_2 a0_3 a0_4 = some r) ∧ Aside0 (kq ≤ k) ∧ Aside0 (wc.heap[gb161]? = some (.cells #[.string a0_0, .int .i64 a0_1, .int .i64 a0_2, .int .i64 a0_3, .string a0_4] 47 (0, 0))) ∧ Aside0 (Below w.heap.size w wc))
  case first =>
    have H := HC2.out
    clear HC2
    by_cases c4 : (a0_0.size : Int) < 1
    · rw [if_pos c4] at H
      have c4b0 : decide ((a0_0.size : Int) < 1) = true := decide_eq_true c4
      have c4b1 : decide (a0_0.size < 1) = true := decide_eq_true (by omega)
      clear c4
      (first | rw [c4b0] | (simp only [i64_w, i32_w]; rw [c4b0]) | skip)
      have H' := Aside0.mk H
      clear H
      have hcz5_0 : w3.cell? ⟨gb161, 0, none⟩ = some (.string a0_0) := (blk_cell BK161.out 0).trans rfl
      have hcz5_1 : w3.cell? ⟨gb161, 1, none⟩ = some (.int .i64 a0_1) := (blk_cell BK161.out 1).trans rfl
      have hcz5_2 : w3.cell? ⟨gb161, 2, none⟩ = some (.int .i64 a0_2) := (blk_cell BK161.out 2).trans rfl
      have hcz5_3 : w3.cell? ⟨gb161, 3, none⟩ = some (.int .i64 a0_3) := (blk_cell BK161.out 3).trans rfl
      have hcz5_4 : w3.cell? ⟨gb161, 4, none⟩ = some (.string a0_4) := (blk_cell BK161.out 4).trans rfl
      have hfz5_0 := blk_frozen BK161.out 0
      have hfz5_1 := blk_frozen BK161.out 1
      have hfz5_2 := blk_frozen BK161.out 2
      have hfz5_3 := blk_frozen BK161.out 3
      have hfz5_4 := blk_frozen BK161.out 4
      go_wp2
      go_meet
      case rel => exact ⟨_, (true), (by first | rfl | (simp; done) | (simp [*]; done)), H', ⟨by first | omega | exact Nat.le_refl _⟩, ⟨by (with_reducible repeat (first | refine blk_drewN ?_ _ | refine blk_drew ?_ | refine blk_alloc ?_ _)); exact BK161.out⟩, ⟨by repeat (first | (with_reducible first | exact HB.out | apply below_alloc | apply pw_below_drewN | apply below_drew1 | refine below_set ?_ GE161.out) | exact HB.out)⟩⟩
    · rw [if_neg c4] at H
      have c4b0 : decide ((a0_0.size : Int) < 1) = false := decide_eq_false c4
      have c4b1 : decide (a0_0.size < 1) = false := decide_eq_false (by omega)
      clear c4
      (first | rw [c4b0] | (simp only [i64_w, i32_w]; rw [c4b0]) | skip)
      have H' := Aside0.mk H
      clear H
      have hcz6_0 : w3.cell? ⟨gb161, 0, none⟩ = some (.string a0_0) := (blk_cell BK161.out 0).trans rfl
      have hcz6_1 : w3.cell? ⟨gb161, 1, none⟩ = some (.int .i64 a0_1) := (blk_cell BK161.out 1).trans rfl
      have hcz6_2 : w3.cell? ⟨gb161, 2, none⟩ = some (.int .i64 a0_2) := (blk_cell BK161.out 2).trans rfl
      have hcz6_3 : w3.cell? ⟨gb161, 3, none⟩ = some (.int .i64 a0_3) := (blk_cell BK161.out 3).trans rfl
      have hcz6_4 : w3.cell? ⟨gb161, 4, none⟩ = some (.string a0_4) := (blk_cell BK161.out 4).trans rfl
      have hfz6_0 := blk_frozen BK161.out 0
      have hfz6_1 := blk_frozen BK161.out 1
      have hfz6_2 := blk_frozen BK161.out 2
      have hfz6_3 := blk_frozen BK161.out 3
      have hfz6_4 := blk_frozen BK161.out 4
      go_wp2
      go_meet
      case rel => exact ⟨_, (decide ((a0_0.size : Int) > 16)), (by first | rfl | (simp; done) | (simp [*]; done)), H', ⟨by first | omega | exact Nat.le_refl _⟩, ⟨by (with_reducible repeat (first | refine blk_drewN ?_ _ | refine blk_drew ?_ | refine blk_alloc ?_ _)); exact BK161.out⟩, ⟨by repeat (first | (with_reducible first | exact HB.out | apply below_alloc | apply pw_below_drewN | apply below_drew1 | refine below_set ?_ GE161.out) | exact HB.out)⟩⟩
  case rest =>
    clear HC2
    try clear p2
    try clear c4
    try clear c4b0
    try clear c4b1
    try clear hcz5_0
    try clear hcz5_1
    try clear hcz5_2
    try clear hcz5_3
    try clear hcz5_4
    try clear hcz6_0
    try clear hcz6_1
    try clear hcz6_2
    try clear hcz6_3
    try clear hcz6_4
    try clear hfz5_0
    try clear hfz5_1
    try clear hfz5_2
    try clear hfz5_3
    try clear hfz5_4
    try clear hfz6_0
    try clear hfz6_1
    try clear hfz6_2
    try clear hfz6_3
    try clear hfz6_4
    obtain ⟨kq, x13_1, rfl, HA, HJ1, BK161, HB⟩ := hcut
    cases kq with
    | zero => exact absurd HA.out (by simp [rosetteref06_Right.j0])
    | succ kj1 =>
      have H := HA.out
      clear HA
      simp only [rosetteref06_Right.j0] at H
      by_cases c7 : x13_1 = true
      · subst c7
        have H1 : (some false) = some r := by rw [if_pos rfl] at H; exact H
        clear H
        have H := H1
        clear H1
        obtain rfl := Option.some.inj H
        go_wp2
        go_ret
        exact ⟨by first | rfl | (simp [errW_none, errW_some] <;> rfl) | (simp [*, errW_none, errW_some] <;> rfl), by repeat (first | (with_reducible first | exact HB.out | apply below_alloc | apply pw_below_drewN | apply below_drew1 | refine below_set ?_ GE161.out) | exact HB.out)⟩
      · replace c7 := Bool.eq_false_iff.mpr c7
        subst c7
        have H1 : (if a0_1 = 8 then (some (a0_2 == 0 && (a0_3 == 0 && (a0_4.toList == ([] : List UInt8))))) else ((rosetteref04_Right.f a0_2 a0_3 a0_4).bind fun t162 => (if t162 = true then (if (a0_4.size : Int) ≤ 32 then (if a0_1 ≥ 1 then (if a0_1 ≤ 7 then (if a0_1 = 7 then (some (a0_2 == 2)) else (some true)) else (some false)) else (some false)) else (some false)) else (some false)))) = some r := by rw [if_neg (show ¬ (false = true) by decide)] at H; exact H
        clear H
        have H := H1
        clear H1
        by_cases c8 : a0_1 = 8
        · rw [if_pos c8] at H
          have c8b0 : (a0_1 == 8) = true := beq_iff_eq.mpr c8
          have c8b1 : (a0_1 != 8) = false := bne_eq_false_iff_eq.mpr c8
          clear c8
          obtain rfl := Option.some.inj H
          have hcz9_0 : wc.cell? ⟨gb161, 0, none⟩ = some (.string a0_0) := (blk_cell BK161.out 0).trans rfl
          have hcz9_1 : wc.cell? ⟨gb161, 1, none⟩ = some (.int .i64 a0_1) := (blk_cell BK161.out 1).trans rfl
          have hcz9_2 : wc.cell? ⟨gb161, 2, none⟩ = some (.int .i64 a0_2) := (blk_cell BK161.out 2).trans rfl
          have hcz9_3 : wc.cell? ⟨gb161, 3, none⟩ = some (.int .i64 a0_3) := (blk_cell BK161.out 3).trans rfl
          have hcz9_4 : wc.cell? ⟨gb161, 4, none⟩ = some (.string a0_4) := (blk_cell BK161.out 4).trans rfl
          have hfz9_0 := blk_frozen BK161.out 0
          have hfz9_1 := blk_frozen BK161.out 1
          have hfz9_2 := blk_frozen BK161.out 2
          have hfz9_3 := blk_frozen BK161.out 3
          have hfz9_4 := blk_frozen BK161.out 4
          go_wp2
          go_ret
          exact ⟨by first | rfl | (simp [errW_none, errW_some] <;> rfl) | (simp [*, errW_none, errW_some] <;> rfl), by repeat (first | (with_reducible first | exact HB.out | apply below_alloc | apply pw_below_drewN | apply below_drew1 | refine below_set ?_ GE161.out) | exact HB.out)⟩
        · rw [if_neg c8] at H
          have c8b0 : (a0_1 == 8) = false := beq_eq_false_iff_ne.mpr c8
          have c8b1 : (a0_1 != 8) = true := bne_iff_ne.mpr c8
          replace H := Option.bind_eq_some_iff.mp H
          obtain ⟨t162, A100, H⟩ := H
          replace H : (if t162 = true then (if (a0_4.size : Int) ≤ 32 then (if a0_1 ≥ 1 then (if a0_1 ≤ 7 then (if a0_1 = 7 then (some (a0_2 == 2)) else (some true)) else (some false)) else (some false)) else (some false)) else (some false)) = some r := H
          have A10 := Aside0.mk A100
          clear A100
          by_cases c11 : t162 = true
          · subst c11
            have H1 : (if (a0_4.size : Int) ≤ 32 then (if a0_1 ≥ 1 then (if a0_1 ≤ 7 then (if a0_1 = 7 then (some (a0_2 == 2)) else (some true)) else (some false)) else (some false)) else (some false)) = some r := by rw [if_pos rfl] at H; exact H
            clear H
            have H := H1
            clear H1
            by_cases c12 : (a0_4.size : Int) ≤ 32
            · rw [if_pos c12] at H
              have c12b0 : decide ((a0_4.size : Int) ≤ 32) = true := decide_eq_true c12
              have c12b1 : decide (a0_4.size ≤ 32) = true := decide_eq_true (by omega)
              clear c12
              by_cases c13 : a0_1 ≥ 1
              · rw [if_pos c13] at H
                have c13b0 : decide (1 ≤ a0_1) = true := decide_eq_true c13
                clear c13
                by_cases c14 : a0_1 ≤ 7
                · rw [if_pos c14] at H
                  have c14b0 : decide (a0_1 ≤ 7) = true := decide_eq_true c14
                  clear c14
                  by_cases c15 : a0_1 = 7
                  · rw [if_pos c15] at H
                    have c15b0 : (a0_1 == 7) = true := beq_iff_eq.mpr c15
                    have c15b1 : (a0_1 != 7) = false := bne_eq_false_iff_eq.mpr c15
                    clear c15
                    obtain rfl := Option.some.inj H
                    have hcz16_0 : wc.cell? ⟨gb161, 0, none⟩ = some (.string a0_0) := (blk_cell BK161.out 0).trans rfl
                    have hcz16_1 : wc.cell? ⟨gb161, 1, none⟩ = some (.int .i64 a0_1) := (blk_cell BK161.out 1).trans rfl
                    have hcz16_2 : wc.cell? ⟨gb161, 2, none⟩ = some (.int .i64 a0_2) := (blk_cell BK161.out 2).trans rfl
                    have hcz16_3 : wc.cell? ⟨gb161, 3, none⟩ = some (.int .i64 a0_3) := (blk_cell BK161.out 3).trans rfl
                    have hcz16_4 : wc.cell? ⟨gb161, 4, none⟩ = some (.string a0_4) := (blk_cell BK161.out 4).trans rfl
                    have hfz16_0 := blk_frozen BK161.out 0
                    have hfz16_1 := blk_frozen BK161.out 1
                    have hfz16_2 := blk_frozen BK161.out 2
                    have hfz16_3 := blk_frozen BK161.out 3
                    have hfz16_4 := blk_frozen BK161.out 4
                    go_wp2_with (first | ((with_reducible refine gate_callee (f := 48) rfl ?_); refine goesL_ (some 23) rfl rfl Try.func48 (by kernel_rfl) rfl #[.agg #[.int .i64 a0_2, .int .i64 a0_3, .string a0_4]] rfl (by (try simp only [List.map_toArray, List.map_cons, List.map_nil]); first | done | rfl | (simp only [List.length_drop, List.length_take]; rfl)) ?_; (with_reducible refine (rosetteref04_Right.calls a0_2 a0_3 a0_4 true _ A10.out).mono ?_); rintro e w17 ⟨rfl, hb⟩; refine ⟨_, rfl, ?_⟩; have n0_ := Aside0.mk (blk_below (g := gb161) (o := .cells #[.string a0_0, .int .i64 a0_1, .int .i64 a0_2, .int .i64 a0_3, .string a0_4] 47 (0, 0)) (by (with_reducible repeat (first | refine blk_drewN ?_ _ | refine blk_drew ?_ | refine blk_alloc ?_ _)); exact BK161.out) hb); have n1_ := Aside0.mk (below_step (by repeat (first | (with_reducible first | exact HB.out | apply below_alloc | apply pw_below_drewN | apply below_drew1 | refine below_set ?_ GE161.out) | exact HB.out)) hb); clear BK161; clear HB; have BK161 := n0_; have HB := n1_; clear n0_ n1_; (try clear hb); (try clear hb2); (try clear hk); (try clear hi); have hcz18_0 : w17.cell? ⟨gb161, 0, none⟩ = some (.string a0_0) := (blk_cell BK161.out 0).trans rfl; have hcz18_1 : w17.cell? ⟨gb161, 1, none⟩ = some (.int .i64 a0_1) := (blk_cell BK161.out 1).trans rfl; have hcz18_2 : w17.cell? ⟨gb161, 2, none⟩ = some (.int .i64 a0_2) := (blk_cell BK161.out 2).trans rfl; have hcz18_3 : w17.cell? ⟨gb161, 3, none⟩ = some (.int .i64 a0_3) := (blk_cell BK161.out 3).trans rfl; have hcz18_4 : w17.cell? ⟨gb161, 4, none⟩ = some (.string a0_4) := (blk_cell BK161.out 4).trans rfl; have hfz18_0 := blk_frozen BK161.out 0; have hfz18_1 := blk_frozen BK161.out 1; have hfz18_2 := blk_frozen BK161.out 2; have hfz18_3 := blk_frozen BK161.out 3; have hfz18_4 := blk_frozen BK161.out 4))
                    go_ret
                    exact ⟨by first | rfl | (simp [errW_none, errW_some] <;> rfl) | (simp [*, errW_none, errW_some] <;> rfl), by repeat (first | (with_reducible first | exact HB.out | apply below_alloc | apply pw_below_drewN | apply below_drew1 | refine below_set ?_ GE161.out) | exact HB.out)⟩
                  · rw [if_neg c15] at H
                    have c15b0 : (a0_1 == 7) = false := beq_eq_false_iff_ne.mpr c15
                    have c15b1 : (a0_1 != 7) = true := bne_iff_ne.mpr c15
                    obtain rfl := Option.some.inj H
                    have hcz19_0 : wc.cell? ⟨gb161, 0, none⟩ = some (.string a0_0) := (blk_cell BK161.out 0).trans rfl
                    have hcz19_1 : wc.cell? ⟨gb161, 1, none⟩ = some (.int .i64 a0_1) := (blk_cell BK161.out 1).trans rfl
                    have hcz19_2 : wc.cell? ⟨gb161, 2, none⟩ = some (.int .i64 a0_2) := (blk_cell BK161.out 2).trans rfl
                    have hcz19_3 : wc.cell? ⟨gb161, 3, none⟩ = some (.int .i64 a0_3) := (blk_cell BK161.out 3).trans rfl
                    have hcz19_4 : wc.cell? ⟨gb161, 4, none⟩ = some (.string a0_4) := (blk_cell BK161.out 4).trans rfl
                    have hfz19_0 := blk_frozen BK161.out 0
                    have hfz19_1 := blk_frozen BK161.out 1
                    have hfz19_2 := blk_frozen BK161.out 2
                    have hfz19_3 := blk_frozen BK161.out 3
                    have hfz19_4 := blk_frozen BK161.out 4
                    go_wp2_with (first | ((with_reducible refine gate_callee (f := 48) rfl ?_); refine goesL_ (some 23) rfl rfl Try.func48 (by kernel_rfl) rfl #[.agg #[.int .i64 a0_2, .int .i64 a0_3, .string a0_4]] rfl (by (try simp only [List.map_toArray, List.map_cons, List.map_nil]); first | done | rfl | (simp only [List.length_drop, List.length_take]; rfl)) ?_; (with_reducible refine (rosetteref04_Right.calls a0_2 a0_3 a0_4 true _ A10.out).mono ?_); rintro e w20 ⟨rfl, hb⟩; refine ⟨_, rfl, ?_⟩; have n0_ := Aside0.mk (blk_below (g := gb161) (o := .cells #[.string a0_0, .int .i64 a0_1, .int .i64 a0_2, .int .i64 a0_3, .string a0_4] 47 (0, 0)) (by (with_reducible repeat (first | refine blk_drewN ?_ _ | refine blk_drew ?_ | refine blk_alloc ?_ _)); exact BK161.out) hb); have n1_ := Aside0.mk (below_step (by repeat (first | (with_reducible first | exact HB.out | apply below_alloc | apply pw_below_drewN | apply below_drew1 | refine below_set ?_ GE161.out) | exact HB.out)) hb); clear BK161; clear HB; have BK161 := n0_; have HB := n1_; clear n0_ n1_; (try clear hb); (try clear hb2); (try clear hk); (try clear hi); have hcz21_0 : w20.cell? ⟨gb161, 0, none⟩ = some (.string a0_0) := (blk_cell BK161.out 0).trans rfl; have hcz21_1 : w20.cell? ⟨gb161, 1, none⟩ = some (.int .i64 a0_1) := (blk_cell BK161.out 1).trans rfl; have hcz21_2 : w20.cell? ⟨gb161, 2, none⟩ = some (.int .i64 a0_2) := (blk_cell BK161.out 2).trans rfl; have hcz21_3 : w20.cell? ⟨gb161, 3, none⟩ = some (.int .i64 a0_3) := (blk_cell BK161.out 3).trans rfl; have hcz21_4 : w20.cell? ⟨gb161, 4, none⟩ = some (.string a0_4) := (blk_cell BK161.out 4).trans rfl; have hfz21_0 := blk_frozen BK161.out 0; have hfz21_1 := blk_frozen BK161.out 1; have hfz21_2 := blk_frozen BK161.out 2; have hfz21_3 := blk_frozen BK161.out 3; have hfz21_4 := blk_frozen BK161.out 4))
                    go_ret
                    exact ⟨by first | rfl | (simp [errW_none, errW_some] <;> rfl) | (simp [*, errW_none, errW_some] <;> rfl), by repeat (first | (with_reducible first | exact HB.out | apply below_alloc | apply pw_below_drewN | apply below_drew1 | refine below_set ?_ GE161.out) | exact HB.out)⟩
                · rw [if_neg c14] at H
                  have c14b0 : decide (a0_1 ≤ 7) = false := decide_eq_false c14
                  clear c14
                  obtain rfl := Option.some.inj H
                  have hcz22_0 : wc.cell? ⟨gb161, 0, none⟩ = some (.string a0_0) := (blk_cell BK161.out 0).trans rfl
                  have hcz22_1 : wc.cell? ⟨gb161, 1, none⟩ = some (.int .i64 a0_1) := (blk_cell BK161.out 1).trans rfl
                  have hcz22_2 : wc.cell? ⟨gb161, 2, none⟩ = some (.int .i64 a0_2) := (blk_cell BK161.out 2).trans rfl
                  have hcz22_3 : wc.cell? ⟨gb161, 3, none⟩ = some (.int .i64 a0_3) := (blk_cell BK161.out 3).trans rfl
                  have hcz22_4 : wc.cell? ⟨gb161, 4, none⟩ = some (.string a0_4) := (blk_cell BK161.out 4).trans rfl
                  have hfz22_0 := blk_frozen BK161.out 0
                  have hfz22_1 := blk_frozen BK161.out 1
                  have hfz22_2 := blk_frozen BK161.out 2
                  have hfz22_3 := blk_frozen BK161.out 3
                  have hfz22_4 := blk_frozen BK161.out 4
                  go_wp2_with (first | ((with_reducible refine gate_callee (f := 48) rfl ?_); refine goesL_ (some 23) rfl rfl Try.func48 (by kernel_rfl) rfl #[.agg #[.int .i64 a0_2, .int .i64 a0_3, .string a0_4]] rfl (by (try simp only [List.map_toArray, List.map_cons, List.map_nil]); first | done | rfl | (simp only [List.length_drop, List.length_take]; rfl)) ?_; (with_reducible refine (rosetteref04_Right.calls a0_2 a0_3 a0_4 true _ A10.out).mono ?_); rintro e w23 ⟨rfl, hb⟩; refine ⟨_, rfl, ?_⟩; have n0_ := Aside0.mk (blk_below (g := gb161) (o := .cells #[.string a0_0, .int .i64 a0_1, .int .i64 a0_2, .int .i64 a0_3, .string a0_4] 47 (0, 0)) (by (with_reducible repeat (first | refine blk_drewN ?_ _ | refine blk_drew ?_ | refine blk_alloc ?_ _)); exact BK161.out) hb); have n1_ := Aside0.mk (below_step (by repeat (first | (with_reducible first | exact HB.out | apply below_alloc | apply pw_below_drewN | apply below_drew1 | refine below_set ?_ GE161.out) | exact HB.out)) hb); clear BK161; clear HB; have BK161 := n0_; have HB := n1_; clear n0_ n1_; (try clear hb); (try clear hb2); (try clear hk); (try clear hi); have hcz24_0 : w23.cell? ⟨gb161, 0, none⟩ = some (.string a0_0) := (blk_cell BK161.out 0).trans rfl; have hcz24_1 : w23.cell? ⟨gb161, 1, none⟩ = some (.int .i64 a0_1) := (blk_cell BK161.out 1).trans rfl; have hcz24_2 : w23.cell? ⟨gb161, 2, none⟩ = some (.int .i64 a0_2) := (blk_cell BK161.out 2).trans rfl; have hcz24_3 : w23.cell? ⟨gb161, 3, none⟩ = some (.int .i64 a0_3) := (blk_cell BK161.out 3).trans rfl; have hcz24_4 : w23.cell? ⟨gb161, 4, none⟩ = some (.string a0_4) := (blk_cell BK161.out 4).trans rfl; have hfz24_0 := blk_frozen BK161.out 0; have hfz24_1 := blk_frozen BK161.out 1; have hfz24_2 := blk_frozen BK161.out 2; have hfz24_3 := blk_frozen BK161.out 3; have hfz24_4 := blk_frozen BK161.out 4))
                  go_ret
                  exact ⟨by first | rfl | (simp [errW_none, errW_some] <;> rfl) | (simp [*, errW_none, errW_some] <;> rfl), by repeat (first | (with_reducible first | exact HB.out | apply below_alloc | apply pw_below_drewN | apply below_drew1 | refine below_set ?_ GE161.out) | exact HB.out)⟩
              · rw [if_neg c13] at H
                have c13b0 : decide (1 ≤ a0_1) = false := decide_eq_false c13
                clear c13
                obtain rfl := Option.some.inj H
                have hcz25_0 : wc.cell? ⟨gb161, 0, none⟩ = some (.string a0_0) := (blk_cell BK161.out 0).trans rfl
                have hcz25_1 : wc.cell? ⟨gb161, 1, none⟩ = some (.int .i64 a0_1) := (blk_cell BK161.out 1).trans rfl
                have hcz25_2 : wc.cell? ⟨gb161, 2, none⟩ = some (.int .i64 a0_2) := (blk_cell BK161.out 2).trans rfl
                have hcz25_3 : wc.cell? ⟨gb161, 3, none⟩ = some (.int .i64 a0_3) := (blk_cell BK161.out 3).trans rfl
                have hcz25_4 : wc.cell? ⟨gb161, 4, none⟩ = some (.string a0_4) := (blk_cell BK161.out 4).trans rfl
                have hfz25_0 := blk_frozen BK161.out 0
                have hfz25_1 := blk_frozen BK161.out 1
                have hfz25_2 := blk_frozen BK161.out 2
                have hfz25_3 := blk_frozen BK161.out 3
                have hfz25_4 := blk_frozen BK161.out 4
                go_wp2_with (first | ((with_reducible refine gate_callee (f := 48) rfl ?_); refine goesL_ (some 23) rfl rfl Try.func48 (by kernel_rfl) rfl #[.agg #[.int .i64 a0_2, .int .i64 a0_3, .string a0_4]] rfl (by (try simp only [List.map_toArray, List.map_cons, List.map_nil]); first | done | rfl | (simp only [List.length_drop, List.length_take]; rfl)) ?_; (with_reducible refine (rosetteref04_Right.calls a0_2 a0_3 a0_4 true _ A10.out).mono ?_); rintro e w26 ⟨rfl, hb⟩; refine ⟨_, rfl, ?_⟩; have n0_ := Aside0.mk (blk_below (g := gb161) (o := .cells #[.string a0_0, .int .i64 a0_1, .int .i64 a0_2, .int .i64 a0_3, .string a0_4] 47 (0, 0)) (by (with_reducible repeat (first | refine blk_drewN ?_ _ | refine blk_drew ?_ | refine blk_alloc ?_ _)); exact BK161.out) hb); have n1_ := Aside0.mk (below_step (by repeat (first | (with_reducible first | exact HB.out | apply below_alloc | apply pw_below_drewN | apply below_drew1 | refine below_set ?_ GE161.out) | exact HB.out)) hb); clear BK161; clear HB; have BK161 := n0_; have HB := n1_; clear n0_ n1_; (try clear hb); (try clear hb2); (try clear hk); (try clear hi); have hcz27_0 : w26.cell? ⟨gb161, 0, none⟩ = some (.string a0_0) := (blk_cell BK161.out 0).trans rfl; have hcz27_1 : w26.cell? ⟨gb161, 1, none⟩ = some (.int .i64 a0_1) := (blk_cell BK161.out 1).trans rfl; have hcz27_2 : w26.cell? ⟨gb161, 2, none⟩ = some (.int .i64 a0_2) := (blk_cell BK161.out 2).trans rfl; have hcz27_3 : w26.cell? ⟨gb161, 3, none⟩ = some (.int .i64 a0_3) := (blk_cell BK161.out 3).trans rfl; have hcz27_4 : w26.cell? ⟨gb161, 4, none⟩ = some (.string a0_4) := (blk_cell BK161.out 4).trans rfl; have hfz27_0 := blk_frozen BK161.out 0; have hfz27_1 := blk_frozen BK161.out 1; have hfz27_2 := blk_frozen BK161.out 2; have hfz27_3 := blk_frozen BK161.out 3; have hfz27_4 := blk_frozen BK161.out 4))
                go_ret
                exact ⟨by first | rfl | (simp [errW_none, errW_some] <;> rfl) | (simp [*, errW_none, errW_some] <;> rfl), by repeat (first | (with_reducible first | exact HB.out | apply below_alloc | apply pw_below_drewN | apply below_drew1 | refine below_set ?_ GE161.out) | exact HB.out)⟩
            · rw [if_neg c12] at H
              have c12b0 : decide ((a0_4.size : Int) ≤ 32) = false := decide_eq_false c12
              have c12b1 : decide (a0_4.size ≤ 32) = false := decide_eq_false (by omega)
              clear c12
              obtain rfl := Option.some.inj H
              have hcz28_0 : wc.cell? ⟨gb161, 0, none⟩ = some (.string a0_0) := (blk_cell BK161.out 0).trans rfl
              have hcz28_1 : wc.cell? ⟨gb161, 1, none⟩ = some (.int .i64 a0_1) := (blk_cell BK161.out 1).trans rfl
              have hcz28_2 : wc.cell? ⟨gb161, 2, none⟩ = some (.int .i64 a0_2) := (blk_cell BK161.out 2).trans rfl
              have hcz28_3 : wc.cell? ⟨gb161, 3, none⟩ = some (.int .i64 a0_3) := (blk_cell BK161.out 3).trans rfl
              have hcz28_4 : wc.cell? ⟨gb161, 4, none⟩ = some (.string a0_4) := (blk_cell BK161.out 4).trans rfl
              have hfz28_0 := blk_frozen BK161.out 0
              have hfz28_1 := blk_frozen BK161.out 1
              have hfz28_2 := blk_frozen BK161.out 2
              have hfz28_3 := blk_frozen BK161.out 3
              have hfz28_4 := blk_frozen BK161.out 4
              go_wp2_with (first | ((with_reducible refine gate_callee (f := 48) rfl ?_); refine goesL_ (some 23) rfl rfl Try.func48 (by kernel_rfl) rfl #[.agg #[.int .i64 a0_2, .int .i64 a0_3, .string a0_4]] rfl (by (try simp only [List.map_toArray, List.map_cons, List.map_nil]); first | done | rfl | (simp only [List.length_drop, List.length_take]; rfl)) ?_; (with_reducible refine (rosetteref04_Right.calls a0_2 a0_3 a0_4 true _ A10.out).mono ?_); rintro e w29 ⟨rfl, hb⟩; refine ⟨_, rfl, ?_⟩; have n0_ := Aside0.mk (blk_below (g := gb161) (o := .cells #[.string a0_0, .int .i64 a0_1, .int .i64 a0_2, .int .i64 a0_3, .string a0_4] 47 (0, 0)) (by (with_reducible repeat (first | refine blk_drewN ?_ _ | refine blk_drew ?_ | refine blk_alloc ?_ _)); exact BK161.out) hb); have n1_ := Aside0.mk (below_step (by repeat (first | (with_reducible first | exact HB.out | apply below_alloc | apply pw_below_drewN | apply below_drew1 | refine below_set ?_ GE161.out) | exact HB.out)) hb); clear BK161; clear HB; have BK161 := n0_; have HB := n1_; clear n0_ n1_; (try clear hb); (try clear hb2); (try clear hk); (try clear hi); have hcz30_0 : w29.cell? ⟨gb161, 0, none⟩ = some (.string a0_0) := (blk_cell BK161.out 0).trans rfl; have hcz30_1 : w29.cell? ⟨gb161, 1, none⟩ = some (.int .i64 a0_1) := (blk_cell BK161.out 1).trans rfl; have hcz30_2 : w29.cell? ⟨gb161, 2, none⟩ = some (.int .i64 a0_2) := (blk_cell BK161.out 2).trans rfl; have hcz30_3 : w29.cell? ⟨gb161, 3, none⟩ = some (.int .i64 a0_3) := (blk_cell BK161.out 3).trans rfl; have hcz30_4 : w29.cell? ⟨gb161, 4, none⟩ = some (.string a0_4) := (blk_cell BK161.out 4).trans rfl; have hfz30_0 := blk_frozen BK161.out 0; have hfz30_1 := blk_frozen BK161.out 1; have hfz30_2 := blk_frozen BK161.out 2; have hfz30_3 := blk_frozen BK161.out 3; have hfz30_4 := blk_frozen BK161.out 4))
              go_ret
              exact ⟨by first | rfl | (simp [errW_none, errW_some] <;> rfl) | (simp [*, errW_none, errW_some] <;> rfl), by repeat (first | (with_reducible first | exact HB.out | apply below_alloc | apply pw_below_drewN | apply below_drew1 | refine below_set ?_ GE161.out) | exact HB.out)⟩
          · replace c11 := Bool.eq_false_iff.mpr c11
            subst c11
            have H1 : (some false) = some r := by rw [if_neg (show ¬ (false = true) by decide)] at H; exact H
            clear H
            have H := H1
            clear H1
            obtain rfl := Option.some.inj H
            have hcz31_0 : wc.cell? ⟨gb161, 0, none⟩ = some (.string a0_0) := (blk_cell BK161.out 0).trans rfl
            have hcz31_1 : wc.cell? ⟨gb161, 1, none⟩ = some (.int .i64 a0_1) := (blk_cell BK161.out 1).trans rfl
            have hcz31_2 : wc.cell? ⟨gb161, 2, none⟩ = some (.int .i64 a0_2) := (blk_cell BK161.out 2).trans rfl
            have hcz31_3 : wc.cell? ⟨gb161, 3, none⟩ = some (.int .i64 a0_3) := (blk_cell BK161.out 3).trans rfl
            have hcz31_4 : wc.cell? ⟨gb161, 4, none⟩ = some (.string a0_4) := (blk_cell BK161.out 4).trans rfl
            have hfz31_0 := blk_frozen BK161.out 0
            have hfz31_1 := blk_frozen BK161.out 1
            have hfz31_2 := blk_frozen BK161.out 2
            have hfz31_3 := blk_frozen BK161.out 3
            have hfz31_4 := blk_frozen BK161.out 4
            go_wp2_with (first | ((with_reducible refine gate_callee (f := 48) rfl ?_); refine goesL_ (some 23) rfl rfl Try.func48 (by kernel_rfl) rfl #[.agg #[.int .i64 a0_2, .int .i64 a0_3, .string a0_4]] rfl (by (try simp only [List.map_toArray, List.map_cons, List.map_nil]); first | done | rfl | (simp only [List.length_drop, List.length_take]; rfl)) ?_; (with_reducible refine (rosetteref04_Right.calls a0_2 a0_3 a0_4 false _ A10.out).mono ?_); rintro e w32 ⟨rfl, hb⟩; refine ⟨_, rfl, ?_⟩; have n0_ := Aside0.mk (blk_below (g := gb161) (o := .cells #[.string a0_0, .int .i64 a0_1, .int .i64 a0_2, .int .i64 a0_3, .string a0_4] 47 (0, 0)) (by (with_reducible repeat (first | refine blk_drewN ?_ _ | refine blk_drew ?_ | refine blk_alloc ?_ _)); exact BK161.out) hb); have n1_ := Aside0.mk (below_step (by repeat (first | (with_reducible first | exact HB.out | apply below_alloc | apply pw_below_drewN | apply below_drew1 | refine below_set ?_ GE161.out) | exact HB.out)) hb); clear BK161; clear HB; have BK161 := n0_; have HB := n1_; clear n0_ n1_; (try clear hb); (try clear hb2); (try clear hk); (try clear hi)))
            go_ret
            exact ⟨by first | rfl | (simp [errW_none, errW_some] <;> rfl) | (simp [*, errW_none, errW_some] <;> rfl), by repeat (first | (with_reducible first | exact HB.out | apply below_alloc | apply pw_below_drewN | apply below_drew1 | refine below_set ?_ GE161.out) | exact HB.out)⟩

end Go.Proofs.Ytbcnknmgljdmlaa.G
end
