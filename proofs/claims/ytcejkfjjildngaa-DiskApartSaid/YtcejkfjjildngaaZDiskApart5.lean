import Derived.Deep.RegionHeld
import Derived.Test.YtcejkfjjildngaaZDiskApart4
section
/- a region that draws its order: a load may be taken first as long as the one operation that spoils it has not come up -/
set_option linter.unusedVariables false
set_option autoImplicit false
namespace Go.Proofs.Ytcejkfjjildngaa
open Go

section
variable {P : Program} {ops : Array Oper} {Q : Exit → Act → World → Prop} {md : Region.Mode} {d : Nat} {F S : World → Prop}
/-- whatever order is picked from here on: S holds behind each operation, F as long as number d has not come up -/
def wpAnyD (P : Program) (md : Region.Mode) (ops : Array Oper) (Q : Exit → Act → World → Prop) (d : Nat) (F S : World → Prop) : Nat → Array Bool → Act → World → Prop
  | 0, listed, a, w => Region.ready md ops listed = [] ∧ Q .normal a w
  | fuel + 1, listed, a, w =>
    (Region.ready md ops listed = [] → Q .normal a w) ∧
    ∀ i ∈ Region.ready md ops listed, wpOp P ops Q i (fun a' w' => (((listed.setIfInBounds i true).getD d true = false → F w') ∧ S w') ∧ wpAnyD P md ops Q d F S fuel (listed.setIfInBounds i true) a' w') a w
theorem wpAny_of_D : ∀ (fuel : Nat) (listed : Array Bool) (a : Act) (w : World), wpAnyD P md ops Q d F S fuel listed a w → wpAny P md ops Q fuel listed a w
  | 0, _, _, _, h => h
  | fuel + 1, _, _, _, h => ⟨h.1, fun i hi => wpOp_mono (fun a' w' h' => wpAny_of_D fuel _ a' w' h'.2) (h.2 i hi)⟩
theorem wpAnyD_first {i : Nat} {oi : Oper} {v : Value} (hi : ops[i]? = some oi) (hsel : ∀ (j : Nat) (o : Oper) cs b, ops[j]? = some o → o.op ≠ .select cs b)
    (hQ : ∀ c a w, Q (.panic c) (a.put oi.dst v) w → Q (.panic c) a w) (hid : i ≠ d) (hwait : ∀ od, ops[d]? = some od → ∃ e ∈ od.after, Region.binds md e = true ∧ e.on = i) :
    ∀ (fuel : Nat) (listed : Array Bool) (a : Act) (w : World),
      (∀ j oj, ops[j]? = some oj → j ≠ i → listed.getD j true = false → (∀ e ∈ oj.after, Region.binds md e = true → e.on ≠ i) → oi.apart ops oj = true) →
      i ∈ Region.ready md ops listed → YieldsIf P ops (fun w => F w ∧ S w) oi v a → listed.getD d true = false → F w → S w →
      wpAnyD P md ops Q d F S fuel (listed.setIfInBounds i true) (a.put oi.dst v) w → wpAnyD P md ops Q d F S (fuel + 1) listed a w := by
  intro fuel
  induction fuel with
  | zero =>
    intro listed a w _ hr hy hd hF hS H
    refine ⟨fun h => (by rw [h] at hr; cases hr), fun j hj => ?_⟩
    by_cases hji : j = i
    · subst hji; exact hy.wpOp hi ⟨hF, hS⟩ ⟨⟨fun _ => hF, hS⟩, H⟩
    · have := ready_mono hj hji
      rw [H.1] at this
      cases this
  | succ fuel ih =>
    intro listed a w hfree hr hy hd hF hS H
    refine ⟨fun h => (by rw [h] at hr; cases hr), fun j hj => ?_⟩
    by_cases hji : j = i
    · subst hji; exact hy.wpOp hi ⟨hF, hS⟩ ⟨⟨fun _ => hF, hS⟩, H⟩
    · have h1 := H.2 j (ready_mono hj hji)
      obtain ⟨hjun, oj, hoj, hall⟩ := mem_ready.1 hj
      have hnot : ∀ e ∈ oj.after, Region.binds md e = true → e.on ≠ i := fun e he hb heq => by
        have h1 := hall e he hb
        have h0 := (mem_ready.1 hr).1
        rw [heq] at h1
        rcases Nat.lt_or_ge i listed.size with h' | h'
        · simp [h'] at h0 h1; rw [h0] at h1; cases h1
        · simp [Array.getElem?_eq_none h'] at h1
      have hjd : j ≠ d := fun e => by
        subst e
        obtain ⟨ed, h4, h5, h6⟩ := hwait oj hoj
        exact hnot ed h4 h5 h6
      have h2 := wpOp_putIf hoj (hfree j oj hoj hji hjun hnot) (fun cs b => hsel i oi cs b hi) (fun cs b => hsel j oj cs b hoj) hQ hy h1
      have hfree' : ∀ k ok, ops[k]? = some ok → k ≠ i → (listed.setIfInBounds j true).getD k true = false →
          (∀ e ∈ ok.after, Region.binds md e = true → e.on ≠ i) → oi.apart ops ok = true := fun k ok hk hki hun hno => by
        refine hfree k ok hk hki ?_ hno
        by_cases hjk : j = k
        · subst hjk; exact hjun
        · rw [getD_set_ne true hjk] at hun; exact hun
      have hdj : (listed.setIfInBounds j true).getD d true = false := by rw [getD_set_ne true hjd]; exact hd
      have hdij : ((listed.setIfInBounds i true).setIfInBounds j true).getD d true = false := by rw [getD_set_ne true hjd, getD_set_ne true hid]; exact hd
      refine wpOp_mono (fun a' w' h3 => ⟨⟨fun _ => h3.2.1.1 hdij, h3.2.1.2⟩, ih (listed.setIfInBounds j true) a' w' hfree' (ready_mono hr (Ne.symm hji)) h3.1 hdj (h3.2.1.1 hdij) h3.2.1.2 ?_⟩) h2
      rw [Array.setIfInBounds_comm _ _ hji]
      exact h3.2.2
theorem wpAnyD_firstS {i : Nat} {oi : Oper} {v : Value} (hi : ops[i]? = some oi) (hsel : ∀ (j : Nat) (o : Oper) cs b, ops[j]? = some o → o.op ≠ .select cs b)
    (hQ : ∀ c a w, Q (.panic c) (a.put oi.dst v) w → Q (.panic c) a w) (hid : i ≠ d) :
    ∀ (fuel : Nat) (listed : Array Bool) (a : Act) (w : World),
      (∀ j oj, ops[j]? = some oj → j ≠ i → listed.getD j true = false → (∀ e ∈ oj.after, Region.binds md e = true → e.on ≠ i) → oi.apart ops oj = true) →
      i ∈ Region.ready md ops listed → YieldsIf P ops S oi v a → (listed.getD d true = false → F w) → S w →
      wpAnyD P md ops Q d F S fuel (listed.setIfInBounds i true) (a.put oi.dst v) w → wpAnyD P md ops Q d F S (fuel + 1) listed a w := by
  intro fuel
  induction fuel with
  | zero =>
    intro listed a w _ hr hy hF hS H
    refine ⟨fun h => (by rw [h] at hr; cases hr), fun j hj => ?_⟩
    by_cases hji : j = i
    · subst hji; exact hy.wpOp hi hS ⟨⟨fun h => hF (by rw [getD_set_ne true hid] at h; exact h), hS⟩, H⟩
    · have := ready_mono hj hji
      rw [H.1] at this
      cases this
  | succ fuel ih =>
    intro listed a w hfree hr hy hF hS H
    refine ⟨fun h => (by rw [h] at hr; cases hr), fun j hj => ?_⟩
    by_cases hji : j = i
    · subst hji; exact hy.wpOp hi hS ⟨⟨fun h => hF (by rw [getD_set_ne true hid] at h; exact h), hS⟩, H⟩
    · have h1 := H.2 j (ready_mono hj hji)
      obtain ⟨hjun, oj, hoj, hall⟩ := mem_ready.1 hj
      have hnot : ∀ e ∈ oj.after, Region.binds md e = true → e.on ≠ i := fun e he hb heq => by
        have h1 := hall e he hb
        have h0 := (mem_ready.1 hr).1
        rw [heq] at h1
        rcases Nat.lt_or_ge i listed.size with h' | h'
        · simp [h'] at h0 h1; rw [h0] at h1; cases h1
        · simp [Array.getElem?_eq_none h'] at h1
      have h2 := wpOp_putIf hoj (hfree j oj hoj hji hjun hnot) (fun cs b => hsel i oi cs b hi) (fun cs b => hsel j oj cs b hoj) hQ hy h1
      have hfree' : ∀ k ok, ops[k]? = some ok → k ≠ i → (listed.setIfInBounds j true).getD k true = false →
          (∀ e ∈ ok.after, Region.binds md e = true → e.on ≠ i) → oi.apart ops ok = true := fun k ok hk hki hun hno => by
        refine hfree k ok hk hki ?_ hno
        by_cases hjk : j = k
        · subst hjk; exact hjun
        · rw [getD_set_ne true hjk] at hun; exact hun
      have hsame : (listed.setIfInBounds j true).getD d true = false → ((listed.setIfInBounds i true).setIfInBounds j true).getD d true = false := fun h => by
        rw [Array.setIfInBounds_comm _ _ (Ne.symm hji), getD_set_ne true hid]
        exact h
      refine wpOp_mono (fun a' w' h3 => ⟨⟨fun h => h3.2.1.1 (hsame h), h3.2.1.2⟩, ih (listed.setIfInBounds j true) a' w' hfree' (ready_mono hr (Ne.symm hji)) h3.1 (fun h => h3.2.1.1 (hsame h)) h3.2.1.2 ?_⟩) h2
      rw [Array.setIfInBounds_comm _ _ hji]
      exact h3.2.2
/-- number d waits for number i -/
def waitsB (md : Region.Mode) (ops : Array Oper) (d i : Nat) : Bool := match ops[d]? with | some od => od.after.any fun e => Region.binds md e && e.on == i | none => true
theorem waits_of {i : Nat} (h : waitsB md ops d i = true) : ∀ od, ops[d]? = some od → ∃ e ∈ od.after, Region.binds md e = true ∧ e.on = i := by
  intro od ho
  unfold waitsB at h
  rw [ho] at h
  simp only [Array.any_eq_true'] at h
  obtain ⟨e, he, h2⟩ := h
  simp only [Bool.and_eq_true, beq_iff_eq] at h2
  exact ⟨e, he, h2⟩
theorem wpAnyD_takeF {i : Nat} {oi : Oper} {v : Value} {fuel : Nat} {listed : Array Bool} {a : Act} {w : World} (hi : ops[i]? = some oi)
    (hs : Region.noSelect ops = true) (hf : Region.free md ops listed i = true) (hr : (Region.ready md ops listed).contains i = true) (hid : i ≠ d) (hwt : waitsB md ops d i = true) (hd : listed.getD d true = false)
    (hQ : ∀ c a w, Q (.panic c) (a.put oi.dst v) w → Q (.panic c) a w) (hy : YieldsIf P ops (fun w => F w ∧ S w) oi v a) (hF : listed.getD d true = false → F w) (hS : S w)
    (h : wpAnyD P md ops Q d F S fuel (listed.setIfInBounds i true) (a.put oi.dst v) w) : wpAnyD P md ops Q d F S (fuel + 1) listed a w :=
  wpAnyD_first hi (Region.noSelect_spec hs) hQ hid (waits_of hwt) fuel listed a w (Region.free_spec hi hf) (by simpa using hr) hy hd (hF hd) hS h
theorem wpAnyD_takeS {i : Nat} {oi : Oper} {v : Value} {fuel : Nat} {listed : Array Bool} {a : Act} {w : World} (hi : ops[i]? = some oi)
    (hs : Region.noSelect ops = true) (hf : Region.free md ops listed i = true) (hr : (Region.ready md ops listed).contains i = true) (hid : i ≠ d)
    (hQ : ∀ c a w, Q (.panic c) (a.put oi.dst v) w → Q (.panic c) a w) (hy : YieldsIf P ops S oi v a) (hF : listed.getD d true = false → F w) (hS : S w)
    (h : wpAnyD P md ops Q d F S fuel (listed.setIfInBounds i true) (a.put oi.dst v) w) : wpAnyD P md ops Q d F S (fuel + 1) listed a w :=
  wpAnyD_firstS hi (Region.noSelect_spec hs) hQ hid fuel listed a w (Region.free_spec hi hf) (by simpa using hr) hy hF hS h
def AllReadyD (P : Program) (md : Region.Mode) (ops : Array Oper) (Q : Exit → Act → World → Prop) (d : Nat) (F S : World → Prop) (fuel : Nat) (listed : Array Bool) (a : Act) (w : World) (rs : List Nat) : Prop :=
  ∀ i ∈ rs, wpOp P ops Q i (fun a' w' => (((listed.setIfInBounds i true).getD d true = false → F w') ∧ S w') ∧ wpAnyD P md ops Q d F S fuel (listed.setIfInBounds i true) a' w') a w
theorem AllReadyD.nil {fuel : Nat} {listed : Array Bool} {a : Act} {w : World} : AllReadyD P md ops Q d F S fuel listed a w [] := fun _ h => by cases h
theorem AllReadyD.cons {fuel : Nat} {listed : Array Bool} {a : Act} {w : World} {i : Nat} {o : Oper} {rs : List Nat} (ho : ops[i]? = some o)
    (h : ∀ K' : Act → World → Prop, Shut (∀ a w, ((listed.setIfInBounds i true).getD d true = false → F w) → S w → (((listed.setIfInBounds i true).getD d true = false → F w) → S w → wpAnyD P md ops Q d F S fuel (listed.setIfInBounds i true) a w) → K' a w) → if Region.wanted o (yielded ops a.tmps) = true then Oper.wp P o a w K' Q else K' (a.put o.dst undef) w)
    (hs : AllReadyD P md ops Q d F S fuel listed a w rs) : AllReadyD P md ops Q d F S fuel listed a w (i :: rs) := fun j hj => by
  rcases List.mem_cons.1 hj with rfl | hj
  · exact wpOp_step ho (fun K' hK => h K' (fun a w hF hS hW => hK a w ⟨⟨hF, hS⟩, hW hF hS⟩))
  · exact hs j hj
theorem wpAnyD_ready {rs : List Nat} {fuel : Nat} {listed : Array Bool} {a : Act} {w : World} (hr : Region.ready md ops listed = rs) (hne : rs ≠ [])
    (h : AllReadyD P md ops Q d F S fuel listed a w rs) : wpAnyD P md ops Q d F S (fuel + 1) listed a w := ⟨fun h0 => absurd (hr ▸ h0) hne, hr ▸ h⟩
theorem wpAnyD_done {listed : Array Bool} {a : Act} {w : World} (hr : Region.ready md ops listed = []) (h : Q .normal a w) :
    ∀ fuel, wpAnyD P md ops Q d F S fuel listed a w
  | 0 => ⟨hr, h⟩
  | _ + 1 => ⟨fun _ => h, by rw [hr]; simp⟩
theorem wp_region_D (d : Nat) (F S : World → Prop) {id : Nat} {a : Act} {w : World} (hm : P.follows .mixedOrders = true) (hF : F w.drew) (hS : S w.drew)
    (h : ((Array.replicate ops.size false).getD d true = false → F w.drew) → S w.drew → wpAnyD P .any ops Q d F S ops.size (Array.replicate ops.size false) a w.drew) : (Code.region id ops true).wp P Q a w :=
  wp_region_any hm (wpAny_of_D _ _ _ _ (h (fun _ => hF) hS))
end

/-! ### the operations on maps, and an append, as steps of a region that draws -/
section
variable {P : Program} {ops : Array Oper} {o : Oper} {a : Act} {W : World} {K : Act → World → Prop} {Q : Exit → Act → World → Prop} {E : Prop}
theorem step_lookup (hgd : o.guard = none) (t : TypeId) (m x : Operand) (c : Bool) (ho : o.op = .lookup t m x c) (mv key : Value) (hm : a.eval m = mv) (hx : a.eval x = key) (r : Value) (hrun : (Instr.lookup t mv key c).run P W = .ok r W) (h : K (a.put o.dst r) W) :
    if Region.wanted o (yielded ops a.tmps) = true then Oper.wp P o a W K Q else E := by
  rw [if_pos (by simp [Region.wanted, hgd])]
  unfold Oper.wp
  simp [execOp, ho, hm, hx, hrun, Result.andThen, Oper.upon]
  exact h
theorem step_mapUpdate (hgd : o.guard = none) (t : TypeId) (m x v : Operand) (ho : o.op = .mapUpdate t m x v) (mv key val : Value) (hm : a.eval m = mv) (hx : a.eval x = key) (hv : a.eval v = val) (w' : World) (hrun : (Instr.mapUpdate t mv key val).run P W = .ok () w') (h : K (a.put o.dst undef) w') :
    if Region.wanted o (yielded ops a.tmps) = true then Oper.wp P o a W K Q else E := by
  rw [if_pos (by simp [Region.wanted, hgd])]
  unfold Oper.wp
  simp [execOp, ho, hm, hx, hv, hrun, Result.andThen, Oper.upon]
  exact h
theorem step_mapEntry (hgd : o.guard = none) (t : TypeId) (m x : Operand) (ho : o.op = .mapEntry t m x) (mv key : Value) (hm : a.eval m = mv) (hx : a.eval x = key) (r : Value) (w' : World) (hrun : (Instr.mapEntry t mv key).run P W = .ok r w') (h : K (a.put o.dst r) w') :
    if Region.wanted o (yielded ops a.tmps) = true then Oper.wp P o a W K Q else E := by
  rw [if_pos (by simp [Region.wanted, hgd])]
  unfold Oper.wp
  simp [execOp, ho, hm, hx, hrun, Result.andThen, Oper.upon]
  exact h
theorem step_entryStore (hgd : o.guard = none) (t : TypeId) (m x v : Operand) (ho : o.op = .entryStore t m x v) (mv st val : Value) (hm : a.eval m = mv) (hx : a.eval x = st) (hv : a.eval v = val) (w' : World) (hrun : (Instr.entryStore t mv st val).run P W = .ok () w') (h : K (a.put o.dst undef) w') :
    if Region.wanted o (yielded ops a.tmps) = true then Oper.wp P o a W K Q else E := by
  rw [if_pos (by simp [Region.wanted, hgd])]
  unfold Oper.wp
  simp [execOp, ho, hm, hx, hv, hrun, Result.andThen, Oper.upon]
  exact h
end
end Go.Proofs.Ytcejkfjjildngaa
end

section
/- the disk: Crash, walked -/
set_option linter.unusedVariables false
set_option linter.unusedSimpArgs false
set_option autoImplicit false
namespace Go.Proofs.Ytcejkfjjildngaa
open Go Go.RowKit Go.Proofs.YtcejkfjjildngaaW.PrintWords Go.Proofs.YtcejkfjjildngaaW.PrintLast Go.Proofs.YtcejkfjjildngaaW.PrintMore Go.Proofs.Ytcejkfjjildngaa.G

def crashS (keep : Int) (f : FileV) : Int := f.s + min (max keep 0) ((f.d.length : Int) - f.s)
def crashF (keep : Int) (f : FileV) : FileV := ⟨f.n, f.d.take (crashS keep f).toNat, crashS keep f⟩
def DD.crash (D : DD) (keep : Int) : DD := { D with fs := D.fs.map (crashF keep), dies := false, dead := false }
theorem crash_range {f : FileV} (h : FileOk f) (keep : Int) : 0 ≤ crashS keep f ∧ f.s ≤ crashS keep f ∧ crashS keep f ≤ f.d.length := by
  have h0 := h.s0
  have h1 := h.s1
  unfold crashS
  omega
theorem crash_len {f : FileV} (h : FileOk f) (keep : Int) : ((crashF keep f).d.length : Int) = crashS keep f := by
  have := crash_range h keep
  unfold crashF
  rw [List.length_take]
  omega
theorem crash_fok {f : FileV} (h : FileOk f) (keep : Int) : FileOk (crashF keep f) := by
  have h1 := crash_range h keep
  have h2 := crash_len h keep
  exact ⟨h1.1, by rw [h2]; exact Int.le_refl _, u8s_take h.u8 _, h.n⟩
theorem crash_nums {f : FileV} (hf : FileOk f) (hb : f.d.length ≤ 100000) (keep : Int) : ∃ K L M : Int, (if keep < 0 then 0 else keep) = K ∧ (IntKind.i64.wrap ((f.d.length : Int) - f.s) = L ∧ wrap64 ((f.d.length : Int) - f.s) = L) ∧ ((if L < K then L else K) = M ∧ (if K < L then K else L) = M ∧ (if K ≤ L then K else L) = M ∧ (if L ≤ K then L else K) = M) ∧ IntKind.i64.wrap (f.s + M) = crashS keep f ∧ wrap64 (f.s + M) = crashS keep f := by
  have h0 := hf.s0
  have h1 := hf.s1
  have hr := crash_range hf keep
  have hc : crashS keep f = f.s + min (max keep 0) ((f.d.length : Int) - f.s) := rfl
  refine ⟨max keep 0, (f.d.length : Int) - f.s, min (max keep 0) ((f.d.length : Int) - f.s), by split <;> omega, ⟨wsmallk _ (by omega) (by omega), wsmall _ (by omega) (by omega)⟩, ⟨by split <;> omega, by split <;> omega, by split <;> omega, by split <;> omega⟩, ?_, ?_⟩
  · rw [hc]; exact wsmallk _ (by omega) (by omega)
  · rw [hc]; exact wsmall _ (by omega) (by omega)
def psC (keep : Int) (ps : List (FileV × Nat)) (js : List Nat) : List (FileV × Nat) := ps.mapIdx fun i q => if i ∈ js then q else (crashF keep q.1, q.2)
theorem psC_at (keep : Int) (ps : List (FileV × Nat)) (js : List Nat) (i : Nat) : (psC keep ps js)[i]? = (ps[i]?).map fun q => if i ∈ js then q else (crashF keep q.1, q.2) := by unfold psC; rw [List.getElem?_mapIdx]
theorem psC_all (keep : Int) (ps : List (FileV × Nat)) : psC keep ps (List.range ps.length) = ps := by
  refine List.ext_getElem? fun i => ?_
  rw [psC_at]
  cases h : ps[i]? with
  | none => rfl
  | some q =>
    have := (List.getElem?_eq_some_iff.1 h).1
    simp [this]
theorem psC_nil (keep : Int) (ps : List (FileV × Nat)) : (psC keep ps []).map Prod.fst = (ps.map Prod.fst).map (crashF keep) := by
  refine List.ext_getElem? fun i => ?_
  rw [List.getElem?_map, psC_at, List.getElem?_map, List.getElem?_map]
  cases ps[i]? <;> simp
theorem psC_erase (keep : Int) {ps : List (FileV × Nat)} {js : List Nat} (hn : js.Nodup) {j : Nat} {q : FileV × Nat} (hq : ps[j]? = some q) : psC keep ps (js.erase j) = (psC keep ps js).set j (crashF keep q.1, q.2) := by
  refine List.ext_getElem? fun i => ?_
  rw [List.getElem?_set, psC_at, psC_at]
  by_cases hi : j = i
  · subst hi
    rw [if_pos rfl, hq]
    have hl : j < (psC keep ps js).length := by
      unfold psC
      rw [List.length_mapIdx]
      exact (List.getElem?_eq_some_iff.1 hq).1
    rw [if_pos hl]
    simp [hn.mem_erase_iff]
  · rw [if_neg hi]
    have hi' : ¬ i = j := fun e => hi e.symm
    cases ps[i]? with
    | none => rfl
    | some x => simp [hn.mem_erase_iff, hi']
theorem psC_ents (keep : Int) (ps : List (FileV × Nat)) (js : List Nat) : entsOf (psC keep ps js) = entsOf ps := by
  unfold entsOf
  refine List.ext_getElem? fun i => ?_
  rw [List.getElem?_map, psC_at, List.getElem?_map]
  cases ps[i]? with
  | none => rfl
  | some q => by_cases h : i ∈ js <;> simp [h, crashF]
theorem Rng.nodup {P : Program} {k : TypeId} {w : World} {b r : Nat} {kv : List (Value × Value)} {js : List Nat} (h : Rng P k w b r kv js) : js.Nodup := by
  obtain ⟨es, clock, since, seen, c0, h1, hr, hold, hsc, hcc, rfl, hnd, hjl, hj⟩ := h
  exact hnd
theorem own_cut {S : Nat → Prop} {w : World} {A : Option Addr} {n c : Nat} {xs : List Int} (h : (Kd.int .u8).R 5 w 0 S (.slice A n c) xs) (m : Nat) (hm : m ≤ n) : (Kd.int .u8).R 5 w 0 S (.slice A m c) (xs.take m) := by
  have hn := (Kd.R_reads' h).1
  have h1 := Kd.own_of_R h
  rw [← hn] at h1
  have h2 := own_take h1 hm
  have hl : (xs.take m).length = m := by rw [List.length_take]; omega
  refine Kd.R_of_own ?_ (fun k hk => h.1 k (by cases A with
    | none => simp [Value.ownBlock] at hk
    | some ad => simpa [Value.ownBlock] using hk))
  rw [hl]
  have e : (encs (Value.int .u8) xs).take (m * 1) = encs (Value.int .u8) (xs.take m) := by unfold encs; rw [Nat.mul_one, List.map_take]
  rw [e] at h2
  exact h2
set_option maxRecDepth 100000 in
set_option maxHeartbeats 4000000 in
theorem Parts.keepS {S : Nat → Prop} {w w' : World} {g : Nat} {D : DD} {m : Nat} {ps : List (FileV × Nat)} (h : Parts S w g D m ps) (hk : ∀ k, S k → w'.heap[k]? = w.heap[k]?) (hs : w.heap.size ≤ w'.heap.size) : Parts S w' g D m ps :=
  ⟨h.ok, fun k hk => Nat.lt_of_lt_of_le (h.bound k hk) hs, h.own, h.fs, (hk g h.own).trans h.cells, h.ownm, h.map.keep (hk m h.ownm), h.apart, fun q hq => (h.files q hq).keep fun k h _ => hk k h⟩
set_option maxRecDepth 100000 in
set_option maxHeartbeats 4000000 in
theorem wCrash {S : Nat → Prop} {g : Nat} {D : DD} {w : World} (h : DiskR S w g D) (keep : Int) (hl : sumL D.fs ≤ 100000) :
    Calls Try.prog 19 #[.pointer (some ⟨g, 0, none⟩), .int .i64 keep] w fun e w' => e = .returned (.tuple #[]) ∧ After S w w' g (D.crash keep) := by
  obtain ⟨m, ps, hP⟩ := h.parts
  obtain ⟨⟨c0, -⟩, -⟩ := hP.at
  obtain ⟨w1, hrun, hR, hB, hsz⟩ := hP.map.range Try.underlying49
  have hlen : (entsOf ps).length = ps.length := by unfold entsOf; rw [List.length_map]
  rw [hlen] at hR
  have HP := Aside0.mk hP
  have HR := Aside0.mk hR
  have HB := Aside0.mk hB
  have HL := Aside0.mk hl
  have HSR := Aside0.mk (fun k hk => show k ≠ w.heap.size from fun e => by have := hP.bound k hk; omega)
  have HP1 := Aside0.mk (show Parts S w1 g { D with fs := (psC keep ps (List.range ps.length)).map Prod.fst } m (psC keep ps (List.range ps.length)) from by rw [psC_all, ← hP.fs]; exact hP.below hB)
  clear hP hR hB hl h hlen hsz
  go_enter Try.func19, Try.ntmps19
  go_upto_region 1 with fail
  go_loopw [] (fun wr => ∃ js : List Nat, Aside0 (Rng Try.prog 9 wr m w.heap.size (entsOf ps) js) ∧ Aside0 (Fr (fun k => S k ∨ k = w.heap.size) w wr) ∧ Aside0 (Parts S wr g { D with fs := (psC keep ps js).map Prod.fst } m (psC keep ps js))) (fun wr => wr.rangeLeft m w.heap.size)
  case atStart => exact ⟨List.range ps.length, HR, ⟨Fr.of_below HB.out⟩, HP1⟩
  case round =>
    obtain ⟨js, HRr, HFr, HPr⟩ := hrel
    clear HR HB HP1 hrun
    rcases HRr.out.next 0 with ⟨rfl, hnx⟩ | ⟨j, key, v, w2, hj, hkv, hnx, hR2, hg2, hs2, hen⟩
    case inl =>
      have hPn := HPr.out
      rw [psC_nil, ← HP.out.fs] at hPn
      obtain ⟨⟨-, -, c2, -, c4⟩, hfr⟩ := hPn.at
      have f2 := hfr 2
      have f4 := hfr 4
      have h1 := hPn.put { D with fs := D.fs.map (crashF keep), dies := false } rfl ⟨hPn.ok.files, hPn.ok.names, hPn.ok.total, hPn.ok.room, hPn.ok.left0, hPn.ok.left1⟩ 2 (.bool false) rfl
      have h2 := h1.put { D with fs := D.fs.map (crashF keep), dies := false, dead := false } rfl ⟨hPn.ok.files, hPn.ok.names, hPn.ok.total, hPn.ok.room, hPn.ok.left0, hPn.ok.left1⟩ 4 (.bool false) rfl
      have HA := Aside0.mk (h2.after (((Fr.refl S w).trans HFr.out (fun k hk => hk.elim .inl (fun e => .inr (Nat.le_of_eq e.symm)))).trans ((Fr.set hPn.own 2 _).trans (Fr.set hPn.own 4 _) (fun k hk => .inl hk)) (fun k hk => .inl hk)))
      clear h1 h2 hPn hfr HRr HFr HPr HP HSR
      go_wp2_with fail
      go_end0
      exact ⟨rfl, HA.out⟩
    obtain ⟨q, hq, rfl, rfl⟩ := ents_at hkv
    have hqC : (psC keep ps js)[j]? = some q := by rw [psC_at, hq]; simp [hj]
    have hP2 := HPr.out.keepS (w' := w2) (fun k hk => hg2.block k (HPr.out.bound k hk) (fun e => HSR.out k hk (Option.some.inj e))) hg2.size
    obtain ⟨hSq, fv, hfv, hfR⟩ := hP2.files q (List.mem_of_getElem? hqC)
    obtain ⟨A, c, rfl⟩ := Kd.R_slice hfR
    have hfo : FileOk q.1 := HP.out.ok.files q.1 (by rw [HP.out.fs]; exact List.mem_map.2 ⟨q, List.mem_of_getElem? hq, rfl⟩)
    have hqb : q.1.d.length ≤ 100000 := Nat.le_trans (mem_len (by rw [HP.out.fs]; exact List.mem_map.2 ⟨q, List.mem_of_getElem? hq, rfl⟩)) HL.out
    have hcr := crash_range hfo keep
    obtain ⟨x0, x1⟩ := two_cells hfv
    have hmn : q.2 ≠ m ∧ q.2 ≠ w.heap.size := ⟨fun e => (hR2.ne_cells hfv).2 e.symm, fun e => (hR2.ne_cells hfv).1 e.symm⟩
    have HQ := Aside0.mk (And.intro hq (And.intro hqC (And.intro hfv (And.intro hfR (And.intro hfo (And.intro hP2 (And.intro hR2 (And.intro hg2 (And.intro hmn (And.intro hj (And.intro hSq (And.intro hcr (Kd.R_reads' hfR).2.1))))))))))))
    clear hkv hq hqC hP2 hSq hfv hfR hR2 hg2 hmn hj hs2
    obtain ⟨KK, LL, MM, hmx, ⟨hwk, hw6⟩, ⟨hm1, hm2, hm3, hm4⟩, hsk, hs6⟩ := crash_nums HQ.out.2.2.2.2.1 hqb keep
    obtain ⟨n1, hn1⟩ : ∃ n : Nat, crashS keep q.1 = (n : Int) := ⟨(crashS keep q.1).toNat, by have := hcr.1; omega⟩
    have HS1 := Aside0.mk hn1
    rw [hn1] at hsk hs6
    have hn1c : n1 ≤ c := by have := HQ.out.2.2.2.2.2.2.2.2.2.2.2.2; have := hcr.2.2; omega
    have hn1d : n1 ≤ q.1.d.length := by have := hcr.2.2; omega
    have HND := Aside0.mk hn1d
    have hz1 : (w2.drew.setCell ⟨q.2, 1, none⟩ (.int .i64 (n1 : Int))).heap[q.2]? = some (.cells #[.slice A q.1.d.length c, .int .i64 (n1 : Int)] 56 (0, 0)) := by
      rw [heap_setCell_same _ _ _ _ _ _ (show w2.drew.heap[q.2]? = _ from HQ.out.2.2.1)]; rfl
    have HZ1 := Aside0.mk hz1
    have f1 : w2.frozen? ⟨q.2, 1, none⟩ = false := frozen_of_row _ _ _ _ _ HQ.out.2.2.1
    have f0 : w2.frozen? ⟨q.2, 0, none⟩ = false := frozen_of_row _ _ _ _ _ HQ.out.2.2.1
    have hfd1 : w2.drew.frozen? ⟨q.2, 1, none⟩ = false := f1
    clear hn1 hqb hfo hcr hz1 hn1d
    go_upto_region 3 with fail
    refine wp_region_D 20 (fun W => W.cell? ⟨q.2, 1, none⟩ = some (.int .i64 q.1.s)) (fun W => W.cell? ⟨q.2, 0, none⟩ = some (.slice A q.1.d.length c)) (by kernel_rfl) x1 x0 (fun hFq hHeld => ?_)
    have hFw := hFq (by kernel_rfl)
    clear hFq
    refine wpAnyD_takeS (i := 0) (oi := { dst := some 15, op := Op.move (Operand.tmp 5), type := 59, pos := "disk.go:153", after := #[], guard := none }) (v := ?_) rfl (by kernel_rfl) (by kernel_rfl) (by kernel_rfl) (by decide) (fun _ _ _ h => h) (Or.inl ⟨by rfl, ?_⟩) (fun _ => by assumption) (by assumption) ?_
    rotate_left
    · intro w hSw
      try dsimp only at hSw
      go_simp
      all_goals with_reducible rfl
    try simp only [Act.put, List.setIfInBounds_toArray, List.set_cons_zero, List.set_cons_succ]
    refine wpAnyD_takeS (i := 1) (oi := { dst := some 16, op := Op.nilCheck (Operand.tmp 15), type := 0, pos := "disk.go:153", after := #[{ on := 0, ground := Ground.data }], guard := none }) (v := ?_) rfl (by kernel_rfl) (by kernel_rfl) (by kernel_rfl) (by decide) (fun _ _ _ h => h) (Or.inl ⟨by rfl, ?_⟩) (fun _ => by assumption) (by assumption) ?_
    rotate_left
    · intro w hSw
      try dsimp only at hSw
      go_simp
      all_goals with_reducible rfl
    try simp only [Act.put, List.setIfInBounds_toArray, List.set_cons_zero, List.set_cons_succ]
    refine wpAnyD_takeS (i := 2) (oi := { dst := some 17, op := Op.fieldAddr 56 (Operand.tmp 16) 1, type := 0, pos := "disk.go:153", after := #[{ on := 1, ground := Ground.data }], guard := none }) (v := ?_) rfl (by kernel_rfl) (by kernel_rfl) (by kernel_rfl) (by decide) (fun _ _ _ h => h) (Or.inl ⟨by rfl, ?_⟩) (fun _ => by assumption) (by assumption) ?_
    rotate_left
    · intro w hSw
      try dsimp only at hSw
      go_simp
      all_goals with_reducible rfl
    try simp only [Act.put, List.setIfInBounds_toArray, List.set_cons_zero, List.set_cons_succ]
    refine wpAnyD_takeF (i := 3) (oi := { dst := some 18, op := Op.load 3 (Operand.tmp 17), type := 3, pos := "disk.go:153", after := #[{ on := 2, ground := Ground.data }], guard := none }) (v := ?_) rfl (by kernel_rfl) (by kernel_rfl) (by kernel_rfl) (by decide) (by kernel_rfl) (by kernel_rfl) (fun _ _ _ h => h) (Or.inl ⟨by rfl, ?_⟩) (fun _ => by assumption) (by assumption) ?_
    rotate_left
    · intro w hSw
      try dsimp only at hSw
      go_simp
      all_goals with_reducible rfl
    try simp only [Act.put, List.setIfInBounds_toArray, List.set_cons_zero, List.set_cons_succ]
    refine wpAnyD_takeS (i := 4) (oi := { dst := some 19, op := Op.move (Operand.tmp 1), type := 3, pos := "disk.go:153", after := #[], guard := none }) (v := ?_) rfl (by kernel_rfl) (by kernel_rfl) (by kernel_rfl) (by decide) (fun _ _ _ h => h) (Or.inl ⟨by rfl, ?_⟩) (fun _ => by assumption) (by assumption) ?_
    rotate_left
    · intro w hSw
      try dsimp only at hSw
      go_simp
      all_goals with_reducible rfl
    try simp only [Act.put, List.setIfInBounds_toArray, List.set_cons_zero, List.set_cons_succ]
    refine wpAnyD_takeS (i := 5) (oi := { dst := some 20, op := Op.call { callee := Callee.builtin Builtin.max, args := #[Operand.tmp 19, Operand.const (Value.int IntKind.i64 0)], argTypes := #[3, 3] }, type := 3, pos := "disk.go:153", after := #[{ on := 4, ground := Ground.data }], guard := none }) (v := ?_) rfl (by kernel_rfl) (by kernel_rfl) (by kernel_rfl) (by decide) (fun _ _ _ h => h) (Or.inl ⟨by rfl, ?_⟩) (fun _ => by assumption) (by assumption) ?_
    rotate_left
    · intro w hSw
      try dsimp only at hSw
      go_simp
      all_goals with_reducible rfl
    try simp only [Act.put, List.setIfInBounds_toArray, List.set_cons_zero, List.set_cons_succ]
    refine wpAnyD_takeS (i := 6) (oi := { dst := some 21, op := Op.move (Operand.tmp 5), type := 59, pos := "disk.go:153", after := #[], guard := none }) (v := ?_) rfl (by kernel_rfl) (by kernel_rfl) (by kernel_rfl) (by decide) (fun _ _ _ h => h) (Or.inl ⟨by rfl, ?_⟩) (fun _ => by assumption) (by assumption) ?_
    rotate_left
    · intro w hSw
      try dsimp only at hSw
      go_simp
      all_goals with_reducible rfl
    try simp only [Act.put, List.setIfInBounds_toArray, List.set_cons_zero, List.set_cons_succ]
    refine wpAnyD_takeS (i := 7) (oi := { dst := some 22, op := Op.nilCheck (Operand.tmp 21), type := 0, pos := "disk.go:153", after := #[{ on := 6, ground := Ground.data }], guard := none }) (v := ?_) rfl (by kernel_rfl) (by kernel_rfl) (by kernel_rfl) (by decide) (fun _ _ _ h => h) (Or.inl ⟨by rfl, ?_⟩) (fun _ => by assumption) (by assumption) ?_
    rotate_left
    · intro w hSw
      try dsimp only at hSw
      go_simp
      all_goals with_reducible rfl
    try simp only [Act.put, List.setIfInBounds_toArray, List.set_cons_zero, List.set_cons_succ]
    refine wpAnyD_takeS (i := 8) (oi := { dst := some 23, op := Op.fieldAddr 56 (Operand.tmp 22) 0, type := 0, pos := "disk.go:153", after := #[{ on := 7, ground := Ground.data }], guard := none }) (v := ?_) rfl (by kernel_rfl) (by kernel_rfl) (by kernel_rfl) (by decide) (fun _ _ _ h => h) (Or.inl ⟨by rfl, ?_⟩) (fun _ => by assumption) (by assumption) ?_
    rotate_left
    · intro w hSw
      try dsimp only at hSw
      go_simp
      all_goals with_reducible rfl
    try simp only [Act.put, List.setIfInBounds_toArray, List.set_cons_zero, List.set_cons_succ]
    refine wpAnyD_takeS (i := 9) (oi := { dst := some 24, op := Op.load 22 (Operand.tmp 23), type := 22, pos := "disk.go:153", after := #[{ on := 8, ground := Ground.data }], guard := none }) (v := ?_) rfl (by kernel_rfl) (by kernel_rfl) (by kernel_rfl) (by decide) (fun _ _ _ h => h) (Or.inl ⟨by rfl, ?_⟩) (fun _ => by assumption) (by assumption) ?_
    rotate_left
    · intro w hSw
      try dsimp only at hSw
      go_simp
      all_goals with_reducible rfl
    try simp only [Act.put, List.setIfInBounds_toArray, List.set_cons_zero, List.set_cons_succ]
    refine wpAnyD_takeS (i := 10) (oi := { dst := some 25, op := Op.call { callee := Callee.builtin Builtin.len, args := #[Operand.tmp 24], argTypes := #[22] }, type := 3, pos := "disk.go:153", after := #[{ on := 9, ground := Ground.data }], guard := none }) (v := ?_) rfl (by kernel_rfl) (by kernel_rfl) (by kernel_rfl) (by decide) (fun _ _ _ h => h) (Or.inl ⟨by rfl, ?_⟩) (fun _ => by assumption) (by assumption) ?_
    rotate_left
    · intro w hSw
      try dsimp only at hSw
      go_simp
      all_goals with_reducible rfl
    try simp only [Act.put, List.setIfInBounds_toArray, List.set_cons_zero, List.set_cons_succ]
    refine wpAnyD_takeS (i := 11) (oi := { dst := some 26, op := Op.move (Operand.tmp 5), type := 59, pos := "disk.go:153", after := #[], guard := none }) (v := ?_) rfl (by kernel_rfl) (by kernel_rfl) (by kernel_rfl) (by decide) (fun _ _ _ h => h) (Or.inl ⟨by rfl, ?_⟩) (fun _ => by assumption) (by assumption) ?_
    rotate_left
    · intro w hSw
      try dsimp only at hSw
      go_simp
      all_goals with_reducible rfl
    try simp only [Act.put, List.setIfInBounds_toArray, List.set_cons_zero, List.set_cons_succ]
    refine wpAnyD_takeS (i := 12) (oi := { dst := some 27, op := Op.nilCheck (Operand.tmp 26), type := 0, pos := "disk.go:153", after := #[{ on := 11, ground := Ground.data }], guard := none }) (v := ?_) rfl (by kernel_rfl) (by kernel_rfl) (by kernel_rfl) (by decide) (fun _ _ _ h => h) (Or.inl ⟨by rfl, ?_⟩) (fun _ => by assumption) (by assumption) ?_
    rotate_left
    · intro w hSw
      try dsimp only at hSw
      go_simp
      all_goals with_reducible rfl
    try simp only [Act.put, List.setIfInBounds_toArray, List.set_cons_zero, List.set_cons_succ]
    refine wpAnyD_takeS (i := 13) (oi := { dst := some 28, op := Op.fieldAddr 56 (Operand.tmp 27) 1, type := 0, pos := "disk.go:153", after := #[{ on := 12, ground := Ground.data }], guard := none }) (v := ?_) rfl (by kernel_rfl) (by kernel_rfl) (by kernel_rfl) (by decide) (fun _ _ _ h => h) (Or.inl ⟨by rfl, ?_⟩) (fun _ => by assumption) (by assumption) ?_
    rotate_left
    · intro w hSw
      try dsimp only at hSw
      go_simp
      all_goals with_reducible rfl
    try simp only [Act.put, List.setIfInBounds_toArray, List.set_cons_zero, List.set_cons_succ]
    refine wpAnyD_takeF (i := 14) (oi := { dst := some 29, op := Op.load 3 (Operand.tmp 28), type := 3, pos := "disk.go:153", after := #[{ on := 13, ground := Ground.data }], guard := none }) (v := ?_) rfl (by kernel_rfl) (by kernel_rfl) (by kernel_rfl) (by decide) (by kernel_rfl) (by kernel_rfl) (fun _ _ _ h => h) (Or.inl ⟨by rfl, ?_⟩) (fun _ => by assumption) (by assumption) ?_
    rotate_left
    · intro w hSw
      try dsimp only at hSw
      go_simp
      all_goals with_reducible rfl
    try simp only [Act.put, List.setIfInBounds_toArray, List.set_cons_zero, List.set_cons_succ]
    refine wpAnyD_takeS (i := 15) (oi := { dst := some 30, op := Op.binOp BinOp.sub 3 (Operand.tmp 25) (Operand.tmp 29) 3, type := 3, pos := "disk.go:153", after := #[{ on := 10, ground := Ground.data }, { on := 14, ground := Ground.data }], guard := none }) (v := ?_) rfl (by kernel_rfl) (by kernel_rfl) (by kernel_rfl) (by decide) (fun _ _ _ h => h) (Or.inl ⟨by rfl, ?_⟩) (fun _ => by assumption) (by assumption) ?_
    rotate_left
    · intro w hSw
      try dsimp only at hSw
      go_simp
      all_goals with_reducible rfl
    try simp only [Act.put, List.setIfInBounds_toArray, List.set_cons_zero, List.set_cons_succ]
    refine wpAnyD_takeS (i := 16) (oi := { dst := some 31, op := Op.call { callee := Callee.builtin Builtin.min, args := #[Operand.tmp 20, Operand.tmp 30], argTypes := #[3, 3] }, type := 3, pos := "disk.go:153", after := #[{ on := 5, ground := Ground.data }, { on := 15, ground := Ground.data }], guard := none }) (v := ?_) rfl (by kernel_rfl) (by kernel_rfl) (by kernel_rfl) (by decide) (fun _ _ _ h => h) (Or.inl ⟨by rfl, ?_⟩) (fun _ => by assumption) (by assumption) ?_
    rotate_left
    · intro w hSw
      try dsimp only at hSw
      go_simp
      all_goals with_reducible rfl
    try simp only [Act.put, List.setIfInBounds_toArray, List.set_cons_zero, List.set_cons_succ]
    refine wpAnyD_takeS (i := 17) (oi := { dst := some 32, op := Op.binOp BinOp.add 3 (Operand.tmp 18) (Operand.tmp 31) 3, type := 3, pos := "disk.go:153", after := #[{ on := 3, ground := Ground.data }, { on := 16, ground := Ground.data }], guard := none }) (v := ?_) rfl (by kernel_rfl) (by kernel_rfl) (by kernel_rfl) (by decide) (fun _ _ _ h => h) (Or.inl ⟨by rfl, ?_⟩) (fun _ => by assumption) (by assumption) ?_
    rotate_left
    · intro w hSw
      try dsimp only at hSw
      go_simp
      all_goals with_reducible rfl
    try simp only [Act.put, List.setIfInBounds_toArray, List.set_cons_zero, List.set_cons_succ]
    refine wpAnyD_takeS (i := 18) (oi := { dst := some 33, op := Op.nilCheck (Operand.tmp 15), type := 0, pos := "disk.go:153", after := #[{ on := 0, ground := Ground.data }, { on := 0, ground := Ground.phase }, { on := 1, ground := Ground.phase }, { on := 2, ground := Ground.phase }, { on := 3, ground := Ground.phase }, { on := 4, ground := Ground.phase }, { on := 5, ground := Ground.phase }, { on := 6, ground := Ground.phase }, { on := 7, ground := Ground.phase }, { on := 8, ground := Ground.phase }, { on := 9, ground := Ground.phase }, { on := 10, ground := Ground.phase }, { on := 11, ground := Ground.phase }, { on := 12, ground := Ground.phase }, { on := 13, ground := Ground.phase }, { on := 14, ground := Ground.phase }, { on := 15, ground := Ground.phase }, { on := 16, ground := Ground.phase }, { on := 17, ground := Ground.phase }], guard := none }) (v := ?_) rfl (by kernel_rfl) (by kernel_rfl) (by kernel_rfl) (by decide) (fun _ _ _ h => h) (Or.inl ⟨by rfl, ?_⟩) (fun _ => by assumption) (by assumption) ?_
    rotate_left
    · intro w hSw
      try dsimp only at hSw
      go_simp
      all_goals with_reducible rfl
    try simp only [Act.put, List.setIfInBounds_toArray, List.set_cons_zero, List.set_cons_succ]
    refine wpAnyD_takeS (i := 19) (oi := { dst := some 34, op := Op.fieldAddr 56 (Operand.tmp 33) 1, type := 0, pos := "disk.go:153", after := #[{ on := 18, ground := Ground.data }, { on := 0, ground := Ground.phase }, { on := 1, ground := Ground.phase }, { on := 2, ground := Ground.phase }, { on := 3, ground := Ground.phase }, { on := 4, ground := Ground.phase }, { on := 5, ground := Ground.phase }, { on := 6, ground := Ground.phase }, { on := 7, ground := Ground.phase }, { on := 8, ground := Ground.phase }, { on := 9, ground := Ground.phase }, { on := 10, ground := Ground.phase }, { on := 11, ground := Ground.phase }, { on := 12, ground := Ground.phase }, { on := 13, ground := Ground.phase }, { on := 14, ground := Ground.phase }, { on := 15, ground := Ground.phase }, { on := 16, ground := Ground.phase }, { on := 17, ground := Ground.phase }], guard := none }) (v := ?_) rfl (by kernel_rfl) (by kernel_rfl) (by kernel_rfl) (by decide) (fun _ _ _ h => h) (Or.inl ⟨by rfl, ?_⟩) (fun _ => by assumption) (by assumption) ?_
    rotate_left
    · intro w hSw
      try dsimp only at hSw
      go_simp
      all_goals with_reducible rfl
    try simp only [Act.put, List.setIfInBounds_toArray, List.set_cons_zero, List.set_cons_succ]
    refine wpAnyD_ready (rs := [20]) (by kernel_rfl) (by simp) ?_
    refine AllReadyD.cons (o := { dst := none, op := Op.store 3 (Operand.tmp 34) (Operand.tmp 32), type := 0, pos := "disk.go:153", after := #[{ on := 19, ground := Ground.data }, { on := 17, ground := Ground.data }, { on := 0, ground := Ground.phase }, { on := 1, ground := Ground.phase }, { on := 2, ground := Ground.phase }, { on := 3, ground := Ground.phase }, { on := 4, ground := Ground.phase }, { on := 5, ground := Ground.phase }, { on := 6, ground := Ground.phase }, { on := 7, ground := Ground.phase }, { on := 8, ground := Ground.phase }, { on := 9, ground := Ground.phase }, { on := 10, ground := Ground.phase }, { on := 11, ground := Ground.phase }, { on := 12, ground := Ground.phase }, { on := 13, ground := Ground.phase }, { on := 14, ground := Ground.phase }, { on := 15, ground := Ground.phase }, { on := 16, ground := Ground.phase }, { on := 17, ground := Ground.phase }], guard := none }) rfl (fun K hK => ?_) AllReadyD.nil
    go_simp
    (have HX0 := Aside0.mk (two_cells HZ1.out).1)
    refine hK.out _ _ (fun h => Bool.noConfusion (h.symm.trans (show _ = true by kernel_rfl))) HX0.out (fun hFq hHeld => ?_)
    clear hK K hFq
    try clear hFw
    try simp only [Act.put, List.setIfInBounds_toArray, List.set_cons_zero, List.set_cons_succ]
    refine wpAnyD_done (by kernel_rfl) ?_ _
    clear hmx hwk hw6 hm1 hm2 hm3 hm4 hsk hs6
    obtain ⟨y0, y1⟩ := two_cells HZ1.out
    have g0 : (w2.drew.setCell ⟨q.2, 1, none⟩ (.int .i64 (n1 : Int))).frozen? ⟨q.2, 0, none⟩ = false := frozen_of_row _ _ _ _ _ HZ1.out
    have HY1 := Aside0.mk (show (w2.drew.setCell ⟨q.2, 1, none⟩ (.int .i64 (n1 : Int))).drew.cell? ⟨q.2, 1, none⟩ = _ from y1)
    have hsn : (0 : Int) ≤ (n1 : Int) := Int.natCast_nonneg _
    go_upto_region 4 with fail
    refine wp_region_D 12 (fun W => W.cell? ⟨q.2, 0, none⟩ = some (.slice A q.1.d.length c)) (fun W => W.cell? ⟨q.2, 1, none⟩ = some (.int .i64 (n1 : Int))) (by kernel_rfl) y0 y1 (fun hFq hHeld => ?_)
    have hFw := hFq (by kernel_rfl)
    clear hFq
    refine wpAnyD_takeS (i := 0) (oi := { dst := some 35, op := Op.move (Operand.tmp 5), type := 59, pos := "disk.go:154", after := #[], guard := none }) (v := ?_) rfl (by kernel_rfl) (by kernel_rfl) (by kernel_rfl) (by decide) (fun _ _ _ h => h) (Or.inl ⟨by rfl, ?_⟩) (fun _ => by assumption) (by assumption) ?_
    rotate_left
    · intro w hSw
      try dsimp only at hSw
      go_simp
      all_goals with_reducible rfl
    try simp only [Act.put, List.setIfInBounds_toArray, List.set_cons_zero, List.set_cons_succ]
    refine wpAnyD_takeS (i := 1) (oi := { dst := some 36, op := Op.move (Operand.tmp 5), type := 59, pos := "disk.go:154", after := #[], guard := none }) (v := ?_) rfl (by kernel_rfl) (by kernel_rfl) (by kernel_rfl) (by decide) (fun _ _ _ h => h) (Or.inl ⟨by rfl, ?_⟩) (fun _ => by assumption) (by assumption) ?_
    rotate_left
    · intro w hSw
      try dsimp only at hSw
      go_simp
      all_goals with_reducible rfl
    try simp only [Act.put, List.setIfInBounds_toArray, List.set_cons_zero, List.set_cons_succ]
    refine wpAnyD_takeS (i := 2) (oi := { dst := some 37, op := Op.nilCheck (Operand.tmp 36), type := 0, pos := "disk.go:154", after := #[{ on := 1, ground := Ground.data }], guard := none }) (v := ?_) rfl (by kernel_rfl) (by kernel_rfl) (by kernel_rfl) (by decide) (fun _ _ _ h => h) (Or.inl ⟨by rfl, ?_⟩) (fun _ => by assumption) (by assumption) ?_
    rotate_left
    · intro w hSw
      try dsimp only at hSw
      go_simp
      all_goals with_reducible rfl
    try simp only [Act.put, List.setIfInBounds_toArray, List.set_cons_zero, List.set_cons_succ]
    refine wpAnyD_takeS (i := 3) (oi := { dst := some 38, op := Op.fieldAddr 56 (Operand.tmp 37) 0, type := 0, pos := "disk.go:154", after := #[{ on := 2, ground := Ground.data }], guard := none }) (v := ?_) rfl (by kernel_rfl) (by kernel_rfl) (by kernel_rfl) (by decide) (fun _ _ _ h => h) (Or.inl ⟨by rfl, ?_⟩) (fun _ => by assumption) (by assumption) ?_
    rotate_left
    · intro w hSw
      try dsimp only at hSw
      go_simp
      all_goals with_reducible rfl
    try simp only [Act.put, List.setIfInBounds_toArray, List.set_cons_zero, List.set_cons_succ]
    refine wpAnyD_takeF (i := 4) (oi := { dst := some 39, op := Op.load 22 (Operand.tmp 38), type := 22, pos := "disk.go:154", after := #[{ on := 3, ground := Ground.data }], guard := none }) (v := ?_) rfl (by kernel_rfl) (by kernel_rfl) (by kernel_rfl) (by decide) (by kernel_rfl) (by kernel_rfl) (fun _ _ _ h => h) (Or.inl ⟨by rfl, ?_⟩) (fun _ => by assumption) (by assumption) ?_
    rotate_left
    · intro w hSw
      try dsimp only at hSw
      go_simp
      all_goals with_reducible rfl
    try simp only [Act.put, List.setIfInBounds_toArray, List.set_cons_zero, List.set_cons_succ]
    refine wpAnyD_takeS (i := 5) (oi := { dst := some 40, op := Op.move (Operand.tmp 5), type := 59, pos := "disk.go:154", after := #[], guard := none }) (v := ?_) rfl (by kernel_rfl) (by kernel_rfl) (by kernel_rfl) (by decide) (fun _ _ _ h => h) (Or.inl ⟨by rfl, ?_⟩) (fun _ => by assumption) (by assumption) ?_
    rotate_left
    · intro w hSw
      try dsimp only at hSw
      go_simp
      all_goals with_reducible rfl
    try simp only [Act.put, List.setIfInBounds_toArray, List.set_cons_zero, List.set_cons_succ]
    refine wpAnyD_takeS (i := 6) (oi := { dst := some 41, op := Op.nilCheck (Operand.tmp 40), type := 0, pos := "disk.go:154", after := #[{ on := 5, ground := Ground.data }], guard := none }) (v := ?_) rfl (by kernel_rfl) (by kernel_rfl) (by kernel_rfl) (by decide) (fun _ _ _ h => h) (Or.inl ⟨by rfl, ?_⟩) (fun _ => by assumption) (by assumption) ?_
    rotate_left
    · intro w hSw
      try dsimp only at hSw
      go_simp
      all_goals with_reducible rfl
    try simp only [Act.put, List.setIfInBounds_toArray, List.set_cons_zero, List.set_cons_succ]
    refine wpAnyD_takeS (i := 7) (oi := { dst := some 42, op := Op.fieldAddr 56 (Operand.tmp 41) 1, type := 0, pos := "disk.go:154", after := #[{ on := 6, ground := Ground.data }], guard := none }) (v := ?_) rfl (by kernel_rfl) (by kernel_rfl) (by kernel_rfl) (by decide) (fun _ _ _ h => h) (Or.inl ⟨by rfl, ?_⟩) (fun _ => by assumption) (by assumption) ?_
    rotate_left
    · intro w hSw
      try dsimp only at hSw
      go_simp
      all_goals with_reducible rfl
    try simp only [Act.put, List.setIfInBounds_toArray, List.set_cons_zero, List.set_cons_succ]
    refine wpAnyD_takeS (i := 8) (oi := { dst := some 43, op := Op.load 3 (Operand.tmp 42), type := 3, pos := "disk.go:154", after := #[{ on := 7, ground := Ground.data }], guard := none }) (v := ?_) rfl (by kernel_rfl) (by kernel_rfl) (by kernel_rfl) (by decide) (fun _ _ _ h => h) (Or.inl ⟨by rfl, ?_⟩) (fun _ => by assumption) (by assumption) ?_
    rotate_left
    · intro w hSw
      try dsimp only at hSw
      go_simp
      all_goals with_reducible rfl
    try simp only [Act.put, List.setIfInBounds_toArray, List.set_cons_zero, List.set_cons_succ]
    refine wpAnyD_takeS (i := 9) (oi := { dst := some 44, op := Op.slice 22 (Operand.tmp 39) none (some (Operand.tmp 43)) none, type := 22, pos := "disk.go:154", after := #[{ on := 4, ground := Ground.data }, { on := 8, ground := Ground.data }], guard := none }) (v := ?_) rfl (by kernel_rfl) (by kernel_rfl) (by kernel_rfl) (by decide) (fun _ _ _ h => h) (Or.inl ⟨by rfl, ?_⟩) (fun _ => by assumption) (by assumption) ?_
    rotate_left
    · intro w hSw
      try dsimp only at hSw
      go_simp
      all_goals with_reducible rfl
    try simp only [Act.put, List.setIfInBounds_toArray, List.set_cons_zero, List.set_cons_succ]
    refine wpAnyD_takeS (i := 10) (oi := { dst := some 45, op := Op.nilCheck (Operand.tmp 35), type := 0, pos := "disk.go:154", after := #[{ on := 0, ground := Ground.data }, { on := 0, ground := Ground.phase }, { on := 1, ground := Ground.phase }, { on := 2, ground := Ground.phase }, { on := 3, ground := Ground.phase }, { on := 4, ground := Ground.phase }, { on := 5, ground := Ground.phase }, { on := 6, ground := Ground.phase }, { on := 7, ground := Ground.phase }, { on := 8, ground := Ground.phase }, { on := 9, ground := Ground.phase }], guard := none }) (v := ?_) rfl (by kernel_rfl) (by kernel_rfl) (by kernel_rfl) (by decide) (fun _ _ _ h => h) (Or.inl ⟨by rfl, ?_⟩) (fun _ => by assumption) (by assumption) ?_
    rotate_left
    · intro w hSw
      try dsimp only at hSw
      go_simp
      all_goals with_reducible rfl
    try simp only [Act.put, List.setIfInBounds_toArray, List.set_cons_zero, List.set_cons_succ]
    refine wpAnyD_takeS (i := 11) (oi := { dst := some 46, op := Op.fieldAddr 56 (Operand.tmp 45) 0, type := 0, pos := "disk.go:154", after := #[{ on := 10, ground := Ground.data }, { on := 0, ground := Ground.phase }, { on := 1, ground := Ground.phase }, { on := 2, ground := Ground.phase }, { on := 3, ground := Ground.phase }, { on := 4, ground := Ground.phase }, { on := 5, ground := Ground.phase }, { on := 6, ground := Ground.phase }, { on := 7, ground := Ground.phase }, { on := 8, ground := Ground.phase }, { on := 9, ground := Ground.phase }], guard := none }) (v := ?_) rfl (by kernel_rfl) (by kernel_rfl) (by kernel_rfl) (by decide) (fun _ _ _ h => h) (Or.inl ⟨by rfl, ?_⟩) (fun _ => by assumption) (by assumption) ?_
    rotate_left
    · intro w hSw
      try dsimp only at hSw
      go_simp
      all_goals with_reducible rfl
    try simp only [Act.put, List.setIfInBounds_toArray, List.set_cons_zero, List.set_cons_succ]
    refine wpAnyD_ready (rs := [12]) (by kernel_rfl) (by simp) ?_
    refine AllReadyD.cons (o := { dst := none, op := Op.store 22 (Operand.tmp 46) (Operand.tmp 44), type := 0, pos := "disk.go:154", after := #[{ on := 11, ground := Ground.data }, { on := 9, ground := Ground.data }, { on := 0, ground := Ground.phase }, { on := 1, ground := Ground.phase }, { on := 2, ground := Ground.phase }, { on := 3, ground := Ground.phase }, { on := 4, ground := Ground.phase }, { on := 5, ground := Ground.phase }, { on := 6, ground := Ground.phase }, { on := 7, ground := Ground.phase }, { on := 8, ground := Ground.phase }, { on := 9, ground := Ground.phase }], guard := none }) rfl (fun K hK => ?_) AllReadyD.nil
    go_simp
    (have HYd := Aside0.mk ((show ((w2.drew.setCell ⟨q.2, 1, none⟩ (.int .i64 (n1 : Int))).drew.setCell ⟨q.2, 0, none⟩ (.slice A n1 c)).cell? ⟨q.2, 1, none⟩ = some (.int .i64 (n1 : Int)) from (two_cells (show ((w2.drew.setCell ⟨q.2, 1, none⟩ (.int .i64 (n1 : Int))).drew.setCell ⟨q.2, 0, none⟩ (.slice A n1 c)).heap[q.2]? = some (.cells #[.slice A n1 c, .int .i64 (n1 : Int)] 56 (0, 0)) from by rw [heap_setCell_same _ _ _ _ _ _ (show (w2.drew.setCell ⟨q.2, 1, none⟩ (.int .i64 (n1 : Int))).drew.heap[q.2]? = _ from HZ1.out)]; rfl)).2)); clear HY1; have HY1 := HYd; clear HYd)
    refine hK.out _ _ (fun h => Bool.noConfusion (h.symm.trans (show _ = true by kernel_rfl))) HY1.out (fun hFq hHeld => ?_)
    clear hK K hFq
    try clear hFw
    try simp only [Act.put, List.setIfInBounds_toArray, List.set_cons_zero, List.set_cons_succ]
    refine wpAnyD_done (by kernel_rfl) ?_ _
    go_wp2_with fail
    have hzF : ((w2.drew.setCell ⟨q.2, 1, none⟩ (.int .i64 (n1 : Int))).drew.setCell ⟨q.2, 0, none⟩ (.slice A n1 c)).heap[q.2]? = some (.cells #[.slice A n1 c, .int .i64 (n1 : Int)] 56 (0, 0)) := by rw [heap_setCell_same _ _ _ _ _ _ (show (w2.drew.setCell ⟨q.2, 1, none⟩ (.int .i64 (n1 : Int))).drew.heap[q.2]? = _ from HZ1.out)]; rfl
    have hgF : w2.grownBy ((w2.drew.setCell ⟨q.2, 1, none⟩ (.int .i64 (n1 : Int))).drew.setCell ⟨q.2, 0, none⟩ (.slice A n1 c)) (some q.2) := ⟨rfl, rfl, rfl, by simp [World.setCell], fun k hk hne => (Below.heap_setCell _ _ _ k (fun e => hne (by rw [e]))).trans (Below.heap_setCell w2.drew _ _ k (fun e => hne (by rw [e])))⟩
    obtain ⟨hq, hqC, hfv, hfR, hfo, hP2, hR2, hg2, hmn, hj, hSq, hcr, hlc⟩ := HQ.out
    have hcf : crashF keep q.1 = ⟨q.1.n, q.1.d.take n1, (n1 : Int)⟩ := by unfold crashF; rw [HS1.out, Int.toNat_natCast]
    have hPF := hP2.setFile (f := crashF keep q.1) hqC hgF rfl (v := .slice A n1 c) (by rw [hcf]; exact hzF) (by rw [hcf]; exact own_cut hfR n1 HND.out) (crash_fok hfo keep) (by rw [hcf]; exact (by rw [List.length_take]; omega))
    have hPF' : Parts S ((w2.drew.setCell ⟨q.2, 1, none⟩ (.int .i64 (n1 : Int))).drew.setCell ⟨q.2, 0, none⟩ (.slice A n1 c)) g { D with fs := (psC keep ps (js.erase j)).map Prod.fst } m (psC keep ps (js.erase j)) := by rw [psC_erase keep HRr.out.nodup hq, List.map_set]; exact hPF
    have hRF : Rng Try.prog 9 ((w2.drew.setCell ⟨q.2, 1, none⟩ (.int .i64 (n1 : Int))).drew.setCell ⟨q.2, 0, none⟩ (.slice A n1 c)) m w.heap.size (entsOf ps) (js.erase j) := hR2.keep (hgF.block m hR2.map.lt (fun e => hmn.1 (Option.some.inj e).symm)) (hgF.block w.heap.size hR2.lt (fun e => hmn.2 (Option.some.inj e).symm))
    refine ⟨⟨js.erase j, ⟨hRF⟩, ⟨(HFr.out.trans (Fr.of_grown (S := fun k => S k ∨ k = w.heap.size) hg2 (fun k hk => by cases hk; exact .inr rfl)) (fun k hk => .inl hk)).trans (Fr.of_grown (S := fun k => S k ∨ k = w.heap.size) hgF (fun k hk => by cases hk; exact .inl hSq)) (fun k hk => .inl hk)⟩, ⟨hPF'⟩⟩, ?_⟩
    show ((w2.drew.setCell ⟨q.2, 1, none⟩ (.int .i64 (n1 : Int))).drew.setCell ⟨q.2, 0, none⟩ (.slice A n1 c)).rangeLeft m w.heap.size < _
    rw [hRF.left, HRr.out.left, List.length_erase_of_mem hj]
    have := List.length_pos_of_mem hj
    omega
end Go.Proofs.Ytcejkfjjildngaa
end
