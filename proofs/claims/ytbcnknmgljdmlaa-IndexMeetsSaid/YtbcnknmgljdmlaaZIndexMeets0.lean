import Derived.Deep.RegionHeld
import Derived.Test.YtbcnknmgljdmlaaWWords
import Derived.Test.YtbcnknmgljdmlaaWLast
import Derived.Laws.CopyOwn
import Derived.Laws.Tables
import Derived.Lib.SliceRun
import Derived.ArgAppend
import Derived.Lib.SlBytesConst
import Derived.Maps.Own
import Derived.DeepKeys4
import Derived.Below
import Derived.Maps.AppendAt
import Derived.Laws.OwnMore
import Derived.Test.YtbcnknmgljdmlaaProg
import Derived.Deep.Draws
import Derived.Deep.AppendLies
import Derived.OwnWalk
import Derived.Laws.BytesArg
import Derived.Laws.MakeOwn
import Derived.Deep.OwnRows
import Derived.Tactics
import Derived.Lib.ConvBytes
import Derived.Laws.Slices
import Derived.WalkKit
import Derived.KernelRfl
import Derived.RowKit3
import Derived.Deep.LoopGhost
import Derived.Deep.QuietTactic
import Derived.BigQuiet
import Derived.WideLaws
import Derived.Deep.DeepCutAuto
import Derived.Deep.CutBlock
import Derived.Deep.RegionHeld3
import Derived.Laws.Rows
import Derived.Lib.AppendStr
import Derived.Laws.IdiomCopy
import Derived.OrdersHeld
import Derived.Laws.BitsLemmas
import Derived.RowKit
import Derived.Test.YtbcnknmgljdmlaaWTab
import Derived.Test.YtbcnknmgljdmlaaWEqStruct
import Derived.Test.YtbcnknmgljdmlaaWRepsOne
import Derived.Test.YtbcnknmgljdmlaaWGuard
import Derived.Outline
section
/- a region that draws its order: a load may be taken first as long as the one operation that spoils it has not come up -/
set_option linter.unusedVariables false
set_option autoImplicit false
namespace Go.Proofs.Ytbcnknmgljdmlaa
open Go

section
variable {P : Program} {ops : Array Oper} {Q : Exit → Act → World → Prop} {md : Region.Mode} {d : Nat} {F S : World → Prop}
/-- whatever order is picked from here on: S holds behind each operation, F as long as number d has not come up -/
def wpAnyD (P : Program) (md : Region.Mode) (ops : Array Oper) (Q : Exit → Act → World → Prop) (d : Nat) (F S : World → Prop) : Nat → Array Bool → Act → World → Prop
  | 0, listed, a, w => Region.ready md ops listed = [] ∧ Q .normal a w
  | fuel + 1, listed, a, w =>
    (Region.ready md ops listed = [] → Q .normal a w) ∧
    ∀ i ∈ Region.ready md ops listed, wpOp P ops Q i (fun a' w' => (((listed.setIfInBounds i true).getD d true = false → F w') ∧ S w') ∧ wpAnyD P md ops Q d F S fuel (listed.setIfInBounds i true) a' w') a w
theorem wpAny_of_D : ∀ (fuel : Nat) (listed : Array Bool) (a : Act) (w : World), wpAnyD P md ops Q d F S fuel listed a w → wpAny P md ops Q fuel listed a w
  | 0, _, _, _, h => h
  | fuel + 1, _, _, _, h => ⟨h.1, fun i hi => wpOp_mono (fun a' w' h' => wpAny_of_D fuel _ a' w' h'.2) (h.2 i hi)⟩
theorem wpAnyD_first {i : Nat} {oi : Oper} {v : Value} (hi : ops[i]? = some oi) (hsel : ∀ (j : Nat) (o : Oper) cs b, ops[j]? = some o → o.op ≠ .select cs b)
    (hQ : ∀ c a w, Q (.panic c) (a.put oi.dst v) w → Q (.panic c) a w) (hid : i ≠ d) (hwait : ∀ od, ops[d]? = some od → ∃ e ∈ od.after, Region.binds md e = true ∧ e.on = i) :
    ∀ (fuel : Nat) (listed : Array Bool) (a : Act) (w : World),
      (∀ j oj, ops[j]? = some oj → j ≠ i → listed.getD j true = false → (∀ e ∈ oj.after, Region.binds md e = true → e.on ≠ i) → oi.apart ops oj = true) →
      i ∈ Region.ready md ops listed → YieldsIf P ops (fun w => F w ∧ S w) oi v a → listed.getD d true = false → F w → S w →
      wpAnyD P md ops Q d F S fuel (listed.setIfInBounds i true) (a.put oi.dst v) w → wpAnyD P md ops Q d F S (fuel + 1) listed a w := by
  intro fuel
  induction fuel with
  | zero =>
    intro listed a w _ hr hy hd hF hS H
    refine ⟨fun h => (by rw [h] at hr; cases hr), fun j hj => ?_⟩
    by_cases hji : j = i
    · subst hji; exact hy.wpOp hi ⟨hF, hS⟩ ⟨⟨fun _ => hF, hS⟩, H⟩
    · have := ready_mono hj hji
      rw [H.1] at this
      cases this
  | succ fuel ih =>
    intro listed a w hfree hr hy hd hF hS H
    refine ⟨fun h => (by rw [h] at hr; cases hr), fun j hj => ?_⟩
    by_cases hji : j = i
    · subst hji; exact hy.wpOp hi ⟨hF, hS⟩ ⟨⟨fun _ => hF, hS⟩, H⟩
    · have h1 := H.2 j (ready_mono hj hji)
      obtain ⟨hjun, oj, hoj, hall⟩ := mem_ready.1 hj
      have hnot : ∀ e ∈ oj.after, Region.binds md e = true → e.on ≠ i := fun e he hb heq => by
        have h1 := hall e he hb
        have h0 := (mem_ready.1 hr).1
        rw [heq] at h1
        rcases Nat.lt_or_ge i listed.size with h' | h'
        · simp [h'] at h0 h1; rw [h0] at h1; cases h1
        · simp [Array.getElem?_eq_none h'] at h1
      have hjd : j ≠ d := fun e => by
        subst e
        obtain ⟨ed, h4, h5, h6⟩ := hwait oj hoj
        exact hnot ed h4 h5 h6
      have h2 := wpOp_putIf hoj (hfree j oj hoj hji hjun hnot) (fun cs b => hsel i oi cs b hi) (fun cs b => hsel j oj cs b hoj) hQ hy h1
      have hfree' : ∀ k ok, ops[k]? = some ok → k ≠ i → (listed.setIfInBounds j true).getD k true = false →
          (∀ e ∈ ok.after, Region.binds md e = true → e.on ≠ i) → oi.apart ops ok = true := fun k ok hk hki hun hno => by
        refine hfree k ok hk hki ?_ hno
        by_cases hjk : j = k
        · subst hjk; exact hjun
        · rw [getD_set_ne true hjk] at hun; exact hun
      have hdj : (listed.setIfInBounds j true).getD d true = false := by rw [getD_set_ne true hjd]; exact hd
      have hdij : ((listed.setIfInBounds i true).setIfInBounds j true).getD d true = false := by rw [getD_set_ne true hjd, getD_set_ne true hid]; exact hd
      refine wpOp_mono (fun a' w' h3 => ⟨⟨fun _ => h3.2.1.1 hdij, h3.2.1.2⟩, ih (listed.setIfInBounds j true) a' w' hfree' (ready_mono hr (Ne.symm hji)) h3.1 hdj (h3.2.1.1 hdij) h3.2.1.2 ?_⟩) h2
      rw [Array.setIfInBounds_comm _ _ hji]
      exact h3.2.2
theorem wpAnyD_firstS {i : Nat} {oi : Oper} {v : Value} (hi : ops[i]? = some oi) (hsel : ∀ (j : Nat) (o : Oper) cs b, ops[j]? = some o → o.op ≠ .select cs b)
    (hQ : ∀ c a w, Q (.panic c) (a.put oi.dst v) w → Q (.panic c) a w) (hid : i ≠ d) :
    ∀ (fuel : Nat) (listed : Array Bool) (a : Act) (w : World),
      (∀ j oj, ops[j]? = some oj → j ≠ i → listed.getD j true = false → (∀ e ∈ oj.after, Region.binds md e = true → e.on ≠ i) → oi.apart ops oj = true) →
      i ∈ Region.ready md ops listed → YieldsIf P ops S oi v a → (listed.getD d true = false → F w) → S w →
      wpAnyD P md ops Q d F S fuel (listed.setIfInBounds i true) (a.put oi.dst v) w → wpAnyD P md ops Q d F S (fuel + 1) listed a w := by
  intro fuel
  induction fuel with
  | zero =>
    intro listed a w _ hr hy hF hS H
    refine ⟨fun h => (by rw [h] at hr; cases hr), fun j hj => ?_⟩
    by_cases hji : j = i
    · subst hji; exact hy.wpOp hi hS ⟨⟨fun h => hF (by rw [getD_set_ne true hid] at h; exact h), hS⟩, H⟩
    · have := ready_mono hj hji
      rw [H.1] at this
      cases this
  | succ fuel ih =>
    intro listed a w hfree hr hy hF hS H
    refine ⟨fun h => (by rw [h] at hr; cases hr), fun j hj => ?_⟩
    by_cases hji : j = i
    · subst hji; exact hy.wpOp hi hS ⟨⟨fun h => hF (by rw [getD_set_ne true hid] at h; exact h), hS⟩, H⟩
    · have h1 := H.2 j (ready_mono hj hji)
      obtain ⟨hjun, oj, hoj, hall⟩ := mem_ready.1 hj
      have hnot : ∀ e ∈ oj.after, Region.binds md e = true → e.on ≠ i := fun e he hb heq => by
        have h1 := hall e he hb
        have h0 := (mem_ready.1 hr).1
        rw [heq] at h1
        rcases Nat.lt_or_ge i listed.size with h' | h'
        · simp [h'] at h0 h1; rw [h0] at h1; cases h1
        · simp [Array.getElem?_eq_none h'] at h1
      have h2 := wpOp_putIf hoj (hfree j oj hoj hji hjun hnot) (fun cs b => hsel i oi cs b hi) (fun cs b => hsel j oj cs b hoj) hQ hy h1
      have hfree' : ∀ k ok, ops[k]? = some ok → k ≠ i → (listed.setIfInBounds j true).getD k true = false →
          (∀ e ∈ ok.after, Region.binds md e = true → e.on ≠ i) → oi.apart ops ok = true := fun k ok hk hki hun hno => by
        refine hfree k ok hk hki ?_ hno
        by_cases hjk : j = k
        · subst hjk; exact hjun
        · rw [getD_set_ne true hjk] at hun; exact hun
      have hsame : (listed.setIfInBounds j true).getD d true = false → ((listed.setIfInBounds i true).setIfInBounds j true).getD d true = false := fun h => by
        rw [Array.setIfInBounds_comm _ _ (Ne.symm hji), getD_set_ne true hid]
        exact h
      refine wpOp_mono (fun a' w' h3 => ⟨⟨fun h => h3.2.1.1 (hsame h), h3.2.1.2⟩, ih (listed.setIfInBounds j true) a' w' hfree' (ready_mono hr (Ne.symm hji)) h3.1 (fun h => h3.2.1.1 (hsame h)) h3.2.1.2 ?_⟩) h2
      rw [Array.setIfInBounds_comm _ _ hji]
      exact h3.2.2
/-- number d waits for number i -/
def waitsB (md : Region.Mode) (ops : Array Oper) (d i : Nat) : Bool := match ops[d]? with | some od => od.after.any fun e => Region.binds md e && e.on == i | none => true
theorem waits_of {i : Nat} (h : waitsB md ops d i = true) : ∀ od, ops[d]? = some od → ∃ e ∈ od.after, Region.binds md e = true ∧ e.on = i := by
  intro od ho
  unfold waitsB at h
  rw [ho] at h
  simp only [Array.any_eq_true'] at h
  obtain ⟨e, he, h2⟩ := h
  simp only [Bool.and_eq_true, beq_iff_eq] at h2
  exact ⟨e, he, h2⟩
theorem wpAnyD_takeF {i : Nat} {oi : Oper} {v : Value} {fuel : Nat} {listed : Array Bool} {a : Act} {w : World} (hi : ops[i]? = some oi)
    (hs : Region.noSelect ops = true) (hf : Region.free md ops listed i = true) (hr : (Region.ready md ops listed).contains i = true) (hid : i ≠ d) (hwt : waitsB md ops d i = true) (hd : listed.getD d true = false)
    (hQ : ∀ c a w, Q (.panic c) (a.put oi.dst v) w → Q (.panic c) a w) (hy : YieldsIf P ops (fun w => F w ∧ S w) oi v a) (hF : listed.getD d true = false → F w) (hS : S w)
    (h : wpAnyD P md ops Q d F S fuel (listed.setIfInBounds i true) (a.put oi.dst v) w) : wpAnyD P md ops Q d F S (fuel + 1) listed a w :=
  wpAnyD_first hi (Region.noSelect_spec hs) hQ hid (waits_of hwt) fuel listed a w (Region.free_spec hi hf) (by simpa using hr) hy hd (hF hd) hS h
theorem wpAnyD_takeS {i : Nat} {oi : Oper} {v : Value} {fuel : Nat} {listed : Array Bool} {a : Act} {w : World} (hi : ops[i]? = some oi)
    (hs : Region.noSelect ops = true) (hf : Region.free md ops listed i = true) (hr : (Region.ready md ops listed).contains i = true) (hid : i ≠ d)
    (hQ : ∀ c a w, Q (.panic c) (a.put oi.dst v) w → Q (.panic c) a w) (hy : YieldsIf P ops S oi v a) (hF : listed.getD d true = false → F w) (hS : S w)
    (h : wpAnyD P md ops Q d F S fuel (listed.setIfInBounds i true) (a.put oi.dst v) w) : wpAnyD P md ops Q d F S (fuel + 1) listed a w :=
  wpAnyD_firstS hi (Region.noSelect_spec hs) hQ hid fuel listed a w (Region.free_spec hi hf) (by simpa using hr) hy hF hS h
def AllReadyD (P : Program) (md : Region.Mode) (ops : Array Oper) (Q : Exit → Act → World → Prop) (d : Nat) (F S : World → Prop) (fuel : Nat) (listed : Array Bool) (a : Act) (w : World) (rs : List Nat) : Prop :=
  ∀ i ∈ rs, wpOp P ops Q i (fun a' w' => (((listed.setIfInBounds i true).getD d true = false → F w') ∧ S w') ∧ wpAnyD P md ops Q d F S fuel (listed.setIfInBounds i true) a' w') a w
theorem AllReadyD.nil {fuel : Nat} {listed : Array Bool} {a : Act} {w : World} : AllReadyD P md ops Q d F S fuel listed a w [] := fun _ h => by cases h
theorem AllReadyD.cons {fuel : Nat} {listed : Array Bool} {a : Act} {w : World} {i : Nat} {o : Oper} {rs : List Nat} (ho : ops[i]? = some o)
    (h : ∀ K' : Act → World → Prop, Shut (∀ a w, ((listed.setIfInBounds i true).getD d true = false → F w) → S w → (((listed.setIfInBounds i true).getD d true = false → F w) → S w → wpAnyD P md ops Q d F S fuel (listed.setIfInBounds i true) a w) → K' a w) → if Region.wanted o (yielded ops a.tmps) = true then Oper.wp P o a w K' Q else K' (a.put o.dst undef) w)
    (hs : AllReadyD P md ops Q d F S fuel listed a w rs) : AllReadyD P md ops Q d F S fuel listed a w (i :: rs) := fun j hj => by
  rcases List.mem_cons.1 hj with rfl | hj
  · exact wpOp_step ho (fun K' hK => h K' (fun a w hF hS hW => hK a w ⟨⟨hF, hS⟩, hW hF hS⟩))
  · exact hs j hj
theorem wpAnyD_ready {rs : List Nat} {fuel : Nat} {listed : Array Bool} {a : Act} {w : World} (hr : Region.ready md ops listed = rs) (hne : rs ≠ [])
    (h : AllReadyD P md ops Q d F S fuel listed a w rs) : wpAnyD P md ops Q d F S (fuel + 1) listed a w := ⟨fun h0 => absurd (hr ▸ h0) hne, hr ▸ h⟩
theorem wpAnyD_done {listed : Array Bool} {a : Act} {w : World} (hr : Region.ready md ops listed = []) (h : Q .normal a w) :
    ∀ fuel, wpAnyD P md ops Q d F S fuel listed a w
  | 0 => ⟨hr, h⟩
  | _ + 1 => ⟨fun _ => h, by rw [hr]; simp⟩
theorem wp_region_D (d : Nat) (F S : World → Prop) {id : Nat} {a : Act} {w : World} (hm : P.follows .mixedOrders = true) (hF : F w.drew) (hS : S w.drew)
    (h : ((Array.replicate ops.size false).getD d true = false → F w.drew) → S w.drew → wpAnyD P .any ops Q d F S ops.size (Array.replicate ops.size false) a w.drew) : (Code.region id ops true).wp P Q a w :=
  wp_region_any hm (wpAny_of_D _ _ _ _ (h (fun _ => hF) hS))
end

/-! ### the operations on maps, and an append, as steps of a region that draws -/
section
variable {P : Program} {ops : Array Oper} {o : Oper} {a : Act} {W : World} {K : Act → World → Prop} {Q : Exit → Act → World → Prop} {E : Prop}
theorem step_lookup (hgd : o.guard = none) (t : TypeId) (m x : Operand) (c : Bool) (ho : o.op = .lookup t m x c) (mv key : Value) (hm : a.eval m = mv) (hx : a.eval x = key) (r : Value) (hrun : (Instr.lookup t mv key c).run P W = .ok r W) (h : K (a.put o.dst r) W) :
    if Region.wanted o (yielded ops a.tmps) = true then Oper.wp P o a W K Q else E := by
  rw [if_pos (by simp [Region.wanted, hgd])]
  unfold Oper.wp
  simp [execOp, ho, hm, hx, hrun, Result.andThen, Oper.upon]
  exact h
theorem step_mapUpdate (hgd : o.guard = none) (t : TypeId) (m x v : Operand) (ho : o.op = .mapUpdate t m x v) (mv key val : Value) (hm : a.eval m = mv) (hx : a.eval x = key) (hv : a.eval v = val) (w' : World) (hrun : (Instr.mapUpdate t mv key val).run P W = .ok () w') (h : K (a.put o.dst undef) w') :
    if Region.wanted o (yielded ops a.tmps) = true then Oper.wp P o a W K Q else E := by
  rw [if_pos (by simp [Region.wanted, hgd])]
  unfold Oper.wp
  simp [execOp, ho, hm, hx, hv, hrun, Result.andThen, Oper.upon]
  exact h
theorem step_mapEntry (hgd : o.guard = none) (t : TypeId) (m x : Operand) (ho : o.op = .mapEntry t m x) (mv key : Value) (hm : a.eval m = mv) (hx : a.eval x = key) (r : Value) (w' : World) (hrun : (Instr.mapEntry t mv key).run P W = .ok r w') (h : K (a.put o.dst r) w') :
    if Region.wanted o (yielded ops a.tmps) = true then Oper.wp P o a W K Q else E := by
  rw [if_pos (by simp [Region.wanted, hgd])]
  unfold Oper.wp
  simp [execOp, ho, hm, hx, hrun, Result.andThen, Oper.upon]
  exact h
theorem step_entryStore (hgd : o.guard = none) (t : TypeId) (m x v : Operand) (ho : o.op = .entryStore t m x v) (mv st val : Value) (hm : a.eval m = mv) (hx : a.eval x = st) (hv : a.eval v = val) (w' : World) (hrun : (Instr.entryStore t mv st val).run P W = .ok () w') (h : K (a.put o.dst undef) w') :
    if Region.wanted o (yielded ops a.tmps) = true then Oper.wp P o a W K Q else E := by
  rw [if_pos (by simp [Region.wanted, hgd])]
  unfold Oper.wp
  simp [execOp, ho, hm, hx, hv, hrun, Result.andThen, Oper.upon]
  exact h
end
end Go.Proofs.Ytbcnknmgljdmlaa
end

section
namespace Go.Proofs.YtbcnknmgljdmlaaW.PrintMore
open Go.RowKit Go.Proofs.YtbcnknmgljdmlaaW.PrintWords
/-- 'max' and 'min' of two whole numbers. -/
theorem max2_int (k k' : IntKind) (x y : Int) : Builtin.max2 (.int k x) (.int k' y) = pure (.int k (if x < y then y else x)) := by simp only [Builtin.max2, gt_iff_lt]
theorem min2_int (k k' : IntKind) (x y : Int) : Builtin.min2 (.int k x) (.int k' y) = pure (.int k (if y < x then y else x)) := by simp only [Builtin.min2]
theorem max_two (ats : Array TypeId) (ty : TypeId) (a b : Value) : Builtin.max_ ats ty #[a, b] = (Builtin.max2 a b >>= fun s => pure s) := by simp only [Builtin.max_, List.foldlM_cons, List.foldlM_nil]
theorem min_two (ats : Array TypeId) (ty : TypeId) (a b : Value) : Builtin.min_ ats ty #[a, b] = (Builtin.min2 a b >>= fun s => pure s) := by simp only [Builtin.min_, List.foldlM_cons, List.foldlM_nil]
theorem max_three (ats : Array TypeId) (ty : TypeId) (a b c : Value) : Builtin.max_ ats ty #[a, b, c] = (Builtin.max2 a b >>= fun s => Builtin.max2 s c >>= fun s => pure s) := by simp only [Builtin.max_, List.foldlM_cons, List.foldlM_nil]
theorem min_three (ats : Array TypeId) (ty : TypeId) (a b c : Value) : Builtin.min_ ats ty #[a, b, c] = (Builtin.min2 a b >>= fun s => Builtin.min2 s c >>= fun s => pure s) := by simp only [Builtin.min_, List.foldlM_cons, List.foldlM_nil]
theorem max_four (ats : Array TypeId) (ty : TypeId) (a b c d : Value) : Builtin.max_ ats ty #[a, b, c, d] = (Builtin.max2 a b >>= fun s => Builtin.max2 s c >>= fun s => Builtin.max2 s d >>= fun s => pure s) := by simp only [Builtin.max_, List.foldlM_cons, List.foldlM_nil]
theorem min_four (ats : Array TypeId) (ty : TypeId) (a b c d : Value) : Builtin.min_ ats ty #[a, b, c, d] = (Builtin.min2 a b >>= fun s => Builtin.min2 s c >>= fun s => Builtin.min2 s d >>= fun s => pure s) := by simp only [Builtin.min_, List.foldlM_cons, List.foldlM_nil]
end Go.Proofs.YtbcnknmgljdmlaaW.PrintMore
namespace Go.Proofs.YtbcnknmgljdmlaaW.PrintWords
open Go.RowKit
section
variable {P : Program} {ops : Array Oper} {rest : List Oper} {o : Oper} {a : Act} {Q : Exit → Act → World → Prop} {W : World}
/-- The operation is a call of this function (a cheap look ahead of a dear step). -/
theorem gate_callee {f : FuncId} {xs : Array Operand} {ts : Array TypeId} (_ho : o.op = .call { callee := .value (.func f), args := xs, argTypes := ts }) (h : wpList P ops Q (o :: rest) a W) : wpList P ops Q (o :: rest) a W := h
/-- The operation is a builtin over these places. -/
theorem gate_builtin {b : Builtin} {xs : Array Operand} {ts : Array TypeId} (_ho : o.op = .call { callee := .builtin b, args := xs, argTypes := ts }) (h : wpList P ops Q (o :: rest) a W) : wpList P ops Q (o :: rest) a W := h
end
/-- A call's arguments, spelled otherwise. -/
theorem calls_of_args {P : Program} {f : FuncId} {args args' : Array Value} {w : World} {Q : Ending → World → Prop} (h : args = args') (hc : Calls P f args' w Q) : Calls P f args w Q := h ▸ hc
/-- The greater of two whole numbers, xs Go's max tells it. -/
def mx (a b : Int) : Int := if a < b then b else a
/-- The smaller of two whole numbers, xs Go's min tells it. -/
def mn (a b : Int) : Int := if b < a then b else a
/-- A shift to the left, xs Go tells it: a count beyond the width leaves nothing. -/
def shl (k : IntKind) (x y : Int) : Int := k.wrap (x * 2 ^ min y.toNat k.bits)
/-- A shift to the right: a count beyond the width leaves the sign. -/
def shr (k : IntKind) (x y : Int) : Int := x / 2 ^ min y.toNat k.bits
theorem shl_small {k : IntKind} {x y j : Int} (h : shl k x y = j) (hy : y ≤ k.bits) : k.wrap (x * 2 ^ y.toNat) = j := by rw [← h]; unfold shl; rw [Nat.min_eq_left (by omega)]
theorem shr_small {k : IntKind} {x y j : Int} (h : shr k x y = j) (hy : y ≤ k.bits) : x / 2 ^ y.toNat = j := by rw [← h]; unfold shr; rw [Nat.min_eq_left (by omega)]
end Go.Proofs.YtbcnknmgljdmlaaW.PrintWords
end

section
set_option linter.unusedVariables false
set_option linter.unusedSimpArgs false
namespace Go.Proofs.Ytbcnknmgljdmlaa
open Go.RowKit Go.Proofs.YtbcnknmgljdmlaaW.PrintWords Go.Proofs.YtbcnknmgljdmlaaW.PrintLast Go.Proofs.YtbcnknmgljdmlaaW.PrintMore

theorem kd_own {W : World} {base e : Nat} {k : IntKind} {ok : Nat → Prop} {v : Value} {xs : List Int} (h : (Kd.int k).R e W base ok v xs) : W.ownsRow base e 1 v xs.length (nums k xs) := Kd.own_of_R h
theorem kd_R {W : World} {base e : Nat} {k : IntKind} {v : Value} {xs : List Int} (h : W.ownsRow base e 1 v xs.length (nums k xs)) : (Kd.int k).R e W base (fun _ => True) v xs := Kd.R_of_own h (fun _ _ => trivial)

section
variable {P : Program} {ops : Array Oper} {rest : List Oper} {o : Oper} {a : Act} {Q : Exit → Act → World → Prop}
/-- append(v, y), one whole number, to a row of the call's own -/
theorem app_num {w0 W : World} (base : Nat) (hgd : o.guard = none) (s x : Operand) (t e : TypeId) (k : IntKind) (bytes : Nat)
    (ho : o.op = .call { callee := .builtin .append, args := #[s, x], argTypes := #[t, t] })
    (ht : P.underlying t = some (.slice e)) (hinfo : (P.info? e).map (fun i => (i.zero, i.size, i.bytes)) = some (some (.int k 0), 1, bytes)) (hb0 : 0 < bytes)
    (v : Value) (xs : List Int) (y : Int) (hs : a.eval s = v) (hx : a.eval x = .slice (some ⟨W.heap.size, 0, none⟩) 1 1)
    (HO : (Kd.int k).R e W base (fun _ => True) v xs) (HB : Below base w0 W) (hbase : base ≤ W.heap.size) (hl : (xs.length + 1) * bytes ≤ 140737488355328)
    (h : ∀ v1 w1, Aside0 ((Kd.int k).R e w1 base (fun _ => True) v1 (xs ++ [y])) → Below base w0 w1 → wpList P ops Q rest (a.put o.dst v1) w1) :
    wpList P ops Q (o :: rest) a (W.alloc (.cells #[.int k y] e)) :=
  print_append_num base hgd s x t e k bytes ho ht hinfo hb0 v xs y hs hx (kd_own HO) HB hbase hl fun v1 w1 ho hB _ _ => h v1 w1 ⟨kd_R ho⟩ hB

/-- copy(dst, src) where dst is as long as src and was just made: what dst then is -/
theorem copy_made {w0 W : World} (base : Nat) (hgd : o.guard = none) (d s : Operand) (dT sT e : TypeId) (k : IntKind)
    (ho : o.op = .call { callee := .builtin .copy, args := #[d, s], argTypes := #[dT, sT] })
    (hu : P.underlying dT = some (.slice e)) (hsz : (P.info? e).map (·.size) = some 1)
    (g n dc C : Nat) (A : Option Addr) (c : Nat) (xs : List Int) (hn : xs.length = n)
    (hd : a.eval d = .slice (some ⟨g, 0, none⟩) n dc) (hs : a.eval s = .slice A n c)
    (hg : W.heap[g]? = some (.cells (madeCells #[.int k 0] C) e (0, 0))) (hC : dc = C) (hnC : n ≤ C) (hC2 : C ≤ maxLen)
    (hr : (Kd.int k).C W A n xs) (HB : Below base w0 W) (hbg : base ≤ g)
    (h : ∀ w1, Aside0 ((Kd.int k).R e w1 base (fun _ => True) (.slice (some ⟨g, 0, none⟩) n dc) xs) → Below base w0 w1 → wpList P ops Q rest (a.put o.dst (goInt n)) w1) :
    wpList P ops Q (o :: rest) a W := by
  subst hC
  have hreads := Kd.reads_of_C (d := (0 : Int)) hr
  have hlen : (nums k xs).length = n := by rw [nums_length]; exact hn
  have hcl : (madeCells #[.int k 0] dc).toList.length = dc := by simp [madeCells]
  refine wpList_copy_splice hgd d s dT sT ho e hu hsz (some ⟨g, 0, none⟩) A n dc n c hd hs g 0 (madeCells #[.int k 0] dc).toList e (by simpa using hg) (nums k xs) (by rw [hlen]; simp) ?_ (by rw [hlen, hcl]; omega) ?_ base w0 HB hbg ?_
  · intro h0
    refine ⟨rfl, ?_⟩
    obtain ⟨ad, hA, hc⟩ := hreads.2.2 (by omega)
    refine ⟨ad, hA, fun j v hj => ?_⟩
    simp only [nums, List.getElem?_map, Option.map_eq_some_iff] at hj
    obtain ⟨x, hx, rfl⟩ := hj
    have hjn : j < n := by have := (List.getElem?_eq_some_iff.1 hx).1; omega
    have := hc j hjn
    rw [List.getD_eq_getElem?_getD, hx] at this
    simpa using this
  · intro v hv
    simp only [nums, List.mem_map] at hv
    obtain ⟨x, _, rfl⟩ := hv
    rfl
  · intro w1 H1 hB1
    rw [hlen]
    refine h w1 ⟨kd_R ⟨by rw [hlen, hn]; simp, .inr ⟨g, dc, _, by rw [hn], hbg, H1.out, by omega, hC2, ?_, ?_⟩⟩⟩ hB1
    · have := length_splice (madeCells #[.int k 0] dc).toList 0 (nums k xs) (by rw [hlen, hcl]; omega)
      simp only [List.size_toArray]
      rw [this, hcl, Nat.mul_one]
    · simp only [splice, List.take_zero, List.nil_append, Nat.zero_add]
      rw [Nat.mul_one, List.take_append_of_le_length (by rw [hlen, hn]; exact Nat.le_refl _), List.take_of_length_le (by rw [hlen, hn]; exact Nat.le_refl _)]
end

/-- make([]T, n, c) of whole numbers -/
theorem make_cap {P : Program} (t e : TypeId) (k : IntKind) (bytes : Nat) (ht : P.underlying t = some (.slice e)) (hinfo : (P.info? e).map (fun i => (i.zero, i.size, i.bytes)) = some (some (.int k 0), 1, bytes))
    (n c : Int) (hn : 0 ≤ n) (hnc : n ≤ c) (hb : (bytes : Int) * c ≤ 281474976710656) (hc : c ≤ 9223372036854775807) (W : World) :
    (Instr.makeSlice t (.int .i64 n) (.int .i64 c)).run P W = .ok (.slice (some ⟨W.heap.size, 0, none⟩) n.toNat c.toNat) (W.alloc (.cells (madeCells #[.int k 0] c.toNat) e)) := by
  obtain ⟨i0, hi, hz⟩ := Option.map_eq_some_iff.1 hinfo
  simp only [Prod.mk.injEq] at hz
  obtain ⟨hz0, hz1, hz2⟩ := hz
  have h := run_make (P := P) (w := W) t e i0 (.int k 0) ht hi hz0 .i64 .i64 n c hn hnc (by rw [hz2]; exact hb) hc
  rw [hz1, Nat.mul_one] at h
  simpa [Value.cells] using h

theorem pow_min8 (n : Nat) : (2 : Int) ^ min n 8 % 256 = 2 ^ n % 256 := by
  by_cases h : n ≤ 8
  · rw [Nat.min_eq_left h]
  · rw [Nat.min_eq_right (by omega)]
    obtain ⟨m, rfl⟩ : ∃ m, n = 8 + m := ⟨n - 8, by omega⟩
    rw [Int.pow_add, show (2 : Int) ^ 8 = 256 from rfl, Int.mul_emod_right]; rfl
/-- a literal's cells, just laid -/
theorem lit_C (W : World) (e : TypeId) (k : IntKind) (xs : List Int) (hl : xs.length ≤ 9223372036854775807) (fr : Nat × Nat := (0, 0)) : (Kd.int k).C (W.alloc (.cells (nums k xs).toArray e fr)) (some ⟨W.heap.size, 0, none⟩) xs.length xs := by
  refine Kd.C_of_reads (d := (0 : Int)) ⟨rfl, hl, fun _ => ⟨_, rfl, fun j hj => ?_⟩⟩
  have hadd : (⟨W.heap.size, 0, none⟩ : Addr).add j = ⟨W.heap.size, j, none⟩ := add_plain _ _
  rw [hadd, cell_of_row _ _ _ _ _ _ (heap_alloc_new W _)]
  simp [nums, hj, List.getD_eq_getElem?_getD]
theorem nil_C (W : World) (k : IntKind) : (Kd.int k).C W none 0 ([] : List Int) := Kd.C_nil _ _
/-- what is owned reads -/
theorem own_C {W : World} {base e : Nat} {k : IntKind} {ok : Nat → Prop} {v : Value} {xs : List Int} (h : (Kd.int k).R e W base ok v xs) : ∃ A c, v = .slice A xs.length c ∧ xs.length ≤ c ∧ (Kd.int k).C W A xs.length xs := Kd.R_reads h

/-- a slice that is the call's own, or one without spare room that only reads: what is appended lies in memory of the call's own -/
def Outs (k : IntKind) (e : Nat) (W : World) (base : Nat) (v : Value) (xs : List Int) : Prop :=
  (Kd.int k).R e W base (fun _ => True) v xs ∨ (∃ A, v = .slice A xs.length xs.length ∧ (Kd.int k).C W A xs.length xs ∧ (A = none → xs.length = 0))
section
variable {P : Program} {ops : Array Oper} {rest : List Oper} {o : Oper} {a : Act} {Q : Exit → Act → World → Prop}
theorem app_outs {w0 W : World} (base : Nat) (hgd : o.guard = none) (s x : Operand) (t e : TypeId) (k : IntKind) (bytes : Nat)
    (ho : o.op = .call { callee := .builtin .append, args := #[s, x], argTypes := #[t, t] })
    (ht : P.underlying t = some (.slice e)) (hinfo : (P.info? e).map (fun i => (i.zero, i.size, i.bytes)) = some (some (.int k 0), 1, bytes)) (hb0 : 0 < bytes)
    (v : Value) (xs : List Int) (y : Int) (hs : a.eval s = v) (hx : a.eval x = .slice (some ⟨W.heap.size, 0, none⟩) 1 1)
    (HO : Outs k e W base v xs) (HB : Below base w0 W) (hbase : base ≤ W.heap.size) (hl : (xs.length + 1) * bytes ≤ 140737488355328)
    (h : ∀ v1 w1, Aside0 ((Kd.int k).R e w1 base (fun _ => True) v1 (xs ++ [y])) → Below base w0 w1 → wpList P ops Q rest (a.put o.dst v1) w1) :
    wpList P ops Q (o :: rest) a (W.alloc (.cells #[.int k y] e)) := by
  rcases HO with HO | ⟨A, rfl, hC, hn⟩
  · exact app_num base hgd s x t e k bytes ho ht hinfo hb0 v xs y hs hx HO HB hbase hl h
  · obtain ⟨i0, hi, hzz⟩ := Option.map_eq_some_iff.1 hinfo
    simp only [Prod.mk.injEq] at hzz
    obtain ⟨hz0, hz1, hz2⟩ := hzz
    have hlen : xs.length + 1 ≤ 140737488355328 := Nat.le_trans (Nat.le_mul_of_pos_right _ hb0) hl
    have hC2 := Kd.C_alloc hC (.cells #[.int k y] e)
    refine wpList_append_grows (W.alloc (.cells #[.int k y] e)) hgd s x t ho e i0 (.int k 0) 1 bytes ht hi hz0 hz1 hz2 rfl (by decide) A xs.length xs.length (nums k xs) hs (fun hA => ⟨hn hA, hn hA⟩) (by rw [nums_length, Nat.mul_one]) ?_ ⟨W.heap.size, 0, none⟩ 1 1 [.int k y] hx rfl
      (World.news_of_block (cs := #[.int k y]) (t := e) (fr := (0, 0)) (heap_alloc_new W _)) (by simp [Value.oneCell']) (by omega) (by simp only [maxLen]; omega) hl ?_
    · rintro b rfl j u hj
      simp only [nums, List.getElem?_map, Option.map_eq_some_iff] at hj
      obtain ⟨z, hz, rfl⟩ := hj
      obtain ⟨_, _, hr⟩ := Kd.reads_of_C (d := (0 : Int)) hC2
      have hjl := (List.getElem?_eq_some_iff.1 hz).1
      obtain ⟨ad, e1, hc⟩ := hr (by omega)
      cases e1
      have := hc j hjl
      rw [List.getD_eq_getElem?_getD, hz] at this
      simpa using this
    · intro v1 w1 ho1 hg1
      refine h v1 w1 ⟨kd_R ?_⟩ ((HB.alloc hbase _).grown hg1 (by simp; omega) (fun k hk => by cases hk))
      have h2 : w1.ownsRow (W.alloc (.cells #[.int k y] e)).heap.size e 1 v1 (xs ++ [y]).length (nums k (xs ++ [y])) := by
        rw [nums_append, List.length_append]; exact ho1
      exact own_weaken h2 (by simp; omega)
end
theorem outs_below {k : IntKind} {e : Nat} {W W1 : World} {base : Nat} {v : Value} {xs : List Int} (h : Outs k e W base v xs) (hb : Below W.heap.size W W1) : Outs k e W1 base v xs := by
  rcases h with h | ⟨A, rfl, hC, hn⟩
  · exact .inl (Kd.R_below h hb)
  · exact .inr ⟨A, rfl, Kd.C_below hC hb, hn⟩
end Go.Proofs.Ytbcnknmgljdmlaa
end

section
/- maps as rows of keys and values, in the order in which they were laid: what the operations do -/
set_option linter.unusedVariables false
set_option linter.unusedSimpArgs false
set_option autoImplicit false
namespace Go.Proofs.Ytbcnknmgljdmlaa
open Go.RowKit
open Go.Maps (Keyed)
open Go.ChangeMaps (setBlock modify_eq_set heap_setBlock_same heap_setBlock_other)

section
variable {P : Program} {k : TypeId} {w W : World} {b : Nat}
/-- block b is a map of these keys and values; each entry's stamp is known -/
structure MapE (P : Program) (k : TypeId) (W : World) (b : Nat) (kv : List (Value × Value)) (es : Array MapEntry) (clock : Nat) : Prop where
  heap : W.heap[b]? = some (.map es clock)
  kv : es.toList.map (fun e => (e.key, e.val)) = kv
  keys : ∀ e ∈ es.toList, ∃ l, keyOf P k e.key = some l
  apart : es.toList.Pairwise (fun x y => x.born ≠ y.born)
  old : ∀ e ∈ es.toList, e.born < clock
def MapR (P : Program) (k : TypeId) (W : World) (b : Nat) (kv : List (Value × Value)) : Prop := ∃ es clock, MapE P k W b kv es clock
theorem MapR.made (w : World) (P : Program) (k : TypeId) : MapR P k (w.alloc (.map #[] 0)) w.heap.size [] :=
  ⟨#[], 0, (MapKept.heap_alloc w _).1, rfl, by simp, by simp, by simp⟩
theorem MapE.keep {kv : List (Value × Value)} {es : Array MapEntry} {clock : Nat} (h : MapE P k w b kv es clock) (hk : W.heap[b]? = w.heap[b]?) : MapE P k W b kv es clock :=
  ⟨hk.trans h.heap, h.kv, h.keys, h.apart, h.old⟩
theorem MapR.keep {kv : List (Value × Value)} (h : MapR P k w b kv) (hk : W.heap[b]? = w.heap[b]?) : MapR P k W b kv := by
  obtain ⟨es, c, h⟩ := h
  exact ⟨es, c, h.keep hk⟩
theorem MapR.lt {kv : List (Value × Value)} (h : MapR P k w b kv) : b < w.heap.size := by
  obtain ⟨es, c, h⟩ := h
  exact (Array.getElem?_eq_some_iff.1 h.heap).1
theorem MapR.below {kv : List (Value × Value)} (h : MapR P k w b kv) (hb : Below w.heap.size w W) : MapR P k W b kv := h.keep (hb.block b h.lt)
theorem MapR.grown {kv : List (Value × Value)} {row : Option Nat} (h : MapR P k w b kv) (hg : w.grownBy W row) (hne : some b ≠ row) : MapR P k W b kv := h.keep (hg.block b h.lt hne)
theorem MapE.at_ {kv : List (Value × Value)} {es : Array MapEntry} {clock : Nat} (h : MapE P k w b kv es clock) (j : Nat) (e : MapEntry) (he : es.toList[j]? = some e) : kv[j]? = some (e.key, e.val) := by
  rw [← h.kv, List.getElem?_map, he]
  rfl
theorem MapE.no {kv : List (Value × Value)} {es : Array MapEntry} {clock : Nat} (h : MapE P k w b kv es clock) {x : Value} (hx : ∀ e ∈ es.toList, e.key ≠ x) : ∀ p ∈ kv, p.1 ≠ x := by
  intro p hp
  rw [← h.kv] at hp
  obtain ⟨e, he, rfl⟩ := List.mem_map.1 hp
  exact hx e he
/-- m[x]; v, ok := m[x] -/
theorem MapR.lookup {kv : List (Value × Value)} {t e : TypeId} (h : MapR P k w b kv) (K : Keyed P k) (ht : P.underlying t = some (.map k e)) {z : Value} (hz : (zeroValue e).run P w = .ok z w) {x : Value} {lx : Lit} (hx : keyOf P k x = some lx) (c : Bool) :
    ((Instr.lookup t (.map (some b)) x c).run P w = .ok (if c then .tuple #[z, .bool false] else z) w ∧ ∀ p ∈ kv, p.1 ≠ x) ∨
    ∃ (j : Nat) (v : Value), kv[j]? = some (x, v) ∧ (Instr.lookup t (.map (some b)) x c).run P w = .ok (if c then .tuple #[v, .bool true] else v) w := by
  obtain ⟨es, clock, h⟩ := h
  rcases K.find w hx es.toList h.keys with ⟨h1, h2⟩ | ⟨j, e0, h1, h2, h3⟩
  · exact .inl ⟨by simp [Instr.lookup, run_underlying ht, MapKept.run_getObj_map h.heap, K.check w _ hx, h1, hz, Result.andThen], h.no h2⟩
  · exact .inr ⟨j, e0.val, by rw [h.at_ j e0 h2, h3], by simp [Instr.lookup, run_underlying ht, MapKept.run_getObj_map h.heap, K.check w _ hx, h1, Result.andThen]⟩
theorem grown_setBlock {kv : List (Value × Value)} {es es' : Array MapEntry} {clock clock' : Nat} (h : MapE P k w b kv es clock) : w.grownBy (setBlock w b (.map es' clock')) (some b) :=
  ⟨rfl, rfl, rfl, by simp [setBlock], fun i _ hi => heap_setBlock_other h.heap _ (fun e => hi (by rw [e]))⟩
theorem MapE.push {kv : List (Value × Value)} {es : Array MapEntry} {clock : Nat} (h : MapE P k w b kv es clock) {x v : Value} {lx : Lit} (hx : keyOf P k x = some lx) :
    MapE P k (setBlock w b (.map (es.push ⟨x, v, clock⟩) (clock + 1))) b (kv ++ [(x, v)]) (es.push ⟨x, v, clock⟩) (clock + 1) := by
  refine ⟨heap_setBlock_same h.heap _, by simp [← h.kv], ?_, ?_, ?_⟩
  · intro e he
    simp only [Array.toList_push, List.mem_append, List.mem_singleton] at he
    rcases he with he | rfl
    · exact h.keys e he
    · exact ⟨_, hx⟩
  · rw [Array.toList_push, List.pairwise_append]
    refine ⟨h.apart, by simp, fun a ha c hc => ?_⟩
    rw [List.mem_singleton] at hc
    subst hc
    have := h.old a ha
    exact Nat.ne_of_lt this
  · intro e he
    simp only [Array.toList_push, List.mem_append, List.mem_singleton] at he
    rcases he with he | rfl
    · exact Nat.lt_succ_of_lt (h.old e he)
    · exact Nat.lt_succ_self _
theorem MapE.put {kv : List (Value × Value)} {es : Array MapEntry} {clock : Nat} (h : MapE P k w b kv es clock) {j : Nat} {e0 : MapEntry} (hj : es.toList[j]? = some e0) (v : Value) :
    (es.modify j (fun e' => { e' with val := v })).toList = es.toList.set j { e0 with val := v } ∧ MapE P k (setBlock w b (.map (es.modify j (fun e' => { e' with val := v })) clock)) b (kv.set j (e0.key, v)) (es.modify j (fun e' => { e' with val := v })) clock := by
  have hlist : (es.modify j (fun e' => { e' with val := v })).toList = es.toList.set j { e0 with val := v } := by rw [Array.toList_modify, modify_eq_set _ _ _ _ hj]
  have hmem : ∀ x ∈ es.toList.set j { e0 with val := v }, ∃ y ∈ es.toList, x.key = y.key ∧ x.born = y.born := by
    intro x hx
    rcases List.mem_or_eq_of_mem_set hx with hx | rfl
    · exact ⟨x, hx, rfl, rfl⟩
    · exact ⟨e0, List.mem_of_getElem? hj, rfl, rfl⟩
  refine ⟨hlist, heap_setBlock_same h.heap _, by rw [hlist, List.map_set, ← h.kv], ?_, ?_, ?_⟩
  · intro x hx
    rw [hlist] at hx
    obtain ⟨y, hy, e1, _⟩ := hmem x hx
    rw [e1]
    exact h.keys y hy
  · rw [hlist]
    have hb : (es.toList.set j { e0 with val := v }).map (·.born) = es.toList.map (·.born) := by
      rw [List.map_set]
      have hjl := (List.getElem?_eq_some_iff.1 hj)
      refine List.ext_getElem? fun i => ?_
      rw [List.getElem?_set]
      split
      · rename_i he
        subst he
        split
        · simp [hj]
        · rename_i hn
          exact absurd (by simpa using hjl.1) hn
      · rfl
    have h2 := List.pairwise_map (f := fun (e : MapEntry) => e.born) (R := fun a b => a ≠ b) (l := es.toList)
    have h3 := List.pairwise_map (f := fun (e : MapEntry) => e.born) (R := fun a b => a ≠ b) (l := es.toList.set j { e0 with val := v })
    exact h3.1 (by rw [hb]; exact h2.2 h.apart)
  · intro x hx
    rw [hlist] at hx
    obtain ⟨y, hy, _, e2⟩ := hmem x hx
    rw [e2]
    exact h.old y hy
/-- m[x] = v -/
theorem MapR.update {kv : List (Value × Value)} {t e : TypeId} (h : MapR P k w b kv) (K : Keyed P k) (ht : P.underlying t = some (.map k e)) {x : Value} {lx : Lit} (hx : keyOf P k x = some lx) (v : Value) :
    ∃ w', (Instr.mapUpdate t (.map (some b)) x v).run P w = .ok () w' ∧ w.grownBy w' (some b) ∧
      (((∀ p ∈ kv, p.1 ≠ x) ∧ MapR P k w' b (kv ++ [(x, v)])) ∨ ∃ (j : Nat) (v0 : Value), kv[j]? = some (x, v0) ∧ MapR P k w' b (kv.set j (x, v))) := by
  obtain ⟨es, clock, h⟩ := h
  rcases K.find w hx es.toList h.keys with ⟨h1, h2⟩ | ⟨j, e0, h1, h2, h3⟩
  · refine ⟨_, ?_, grown_setBlock (es' := es.push ⟨x, v, clock⟩) (clock' := clock + 1) h, .inl ⟨h.no h2, _, _, h.push hx⟩⟩
    simp [Instr.mapUpdate, run_underlying ht, MapKept.run_getObj_map h.heap, K.check w false hx, h1, MapKept.run_setObj_map _ h.heap, Result.andThen, setBlock]
  · have hj : es[j]? = some e0 := by simpa using h2
    have hm : es.modify j (fun e' => { e' with key := x, val := v }) = es.modify j (fun e' => { e' with val := v }) := by
      apply Array.ext'
      rw [Array.toList_modify, Array.toList_modify, modify_eq_set _ _ _ _ h2, modify_eq_set _ _ _ _ h2, ← h3]
    have hp := (h.put h2 v).2
    refine ⟨_, ?_, grown_setBlock (es' := es.modify j (fun e' => { e' with val := v })) (clock' := clock) h, .inr ⟨j, e0.val, by rw [h.at_ j e0 h2, h3], _, _, by rw [h3] at hp; exact hp⟩⟩
    rw [← hm]
    simp [Instr.mapUpdate, run_underlying ht, MapKept.run_getObj_map h.heap, K.check w false hx, h1, hj, h3, K.stays w hx, MapKept.run_setObj_map _ h.heap, Result.andThen, setBlock]
/-- the entry at place j bears this stamp -/
def Stamp (W : World) (b j s : Nat) : Prop := ∃ es clock e, W.heap[b]? = some (.map es clock) ∧ es.toList[j]? = some e ∧ e.born = s
theorem Stamp.keep {j s : Nat} (h : Stamp w b j s) (hk : W.heap[b]? = w.heap[b]?) : Stamp W b j s := by
  obtain ⟨es, c, e, h1, h2, h3⟩ := h
  exact ⟨es, c, e, hk.trans h1, h2, h3⟩
/-- m[x] = f(m[x]): the entry is made ahead .. -/
theorem MapR.entry {kv : List (Value × Value)} {t e : TypeId} (h : MapR P k w b kv) (K : Keyed P k) (ht : P.underlying t = some (.map k e)) {z : Value} (hz : (zeroValue e).run P w = .ok z w) {x : Value} {lx : Lit} (hx : keyOf P k x = some lx) :
    ∃ w' v s, (Instr.mapEntry t (.map (some b)) x).run P w = .ok (.tuple #[v, .int .i64 (s : Nat)]) w' ∧ w.grownBy w' (some b) ∧
      (((∀ p ∈ kv, p.1 ≠ x) ∧ v = z ∧ MapR P k w' b (kv ++ [(x, z)]) ∧ Stamp w' b kv.length s) ∨ ∃ (j : Nat), kv[j]? = some (x, v) ∧ MapR P k w' b kv ∧ Stamp w' b j s) := by
  obtain ⟨es, clock, h⟩ := h
  rcases K.find w hx es.toList h.keys with ⟨h1, h2⟩ | ⟨j, e0, h1, h2, h3⟩
  · refine ⟨_, z, clock, ?_, grown_setBlock (es' := es.push ⟨x, z, clock⟩) (clock' := clock + 1) h, .inl ⟨h.no h2, rfl, ⟨_, _, h.push hx⟩, _, _, ⟨x, z, clock⟩, heap_setBlock_same h.heap _, ?_, rfl⟩⟩
    · simp [Instr.mapEntry, run_underlying ht, MapKept.run_getObj_map h.heap, K.check w false hx, h1, hz, MapKept.run_setObj_map _ h.heap, Result.andThen, setBlock, goInt]
    · have hl : kv.length = es.toList.length := by rw [← h.kv, List.length_map]
      rw [hl, Array.toList_push]
      simp
  · have hj : es[j]? = some e0 := by simpa using h2
    have hm : es.modify j (fun e' => { e' with key := x }) = es := by
      apply Array.ext'
      rw [Array.toList_modify, modify_eq_set _ _ _ _ h2, ← h3]
      refine List.ext_getElem? fun i => ?_
      rw [List.getElem?_set]
      split
      · rename_i he
        subst he
        split
        · exact h2.symm
        · rename_i hn
          exact absurd (List.getElem?_eq_some_iff.1 h2).1 hn
      · rfl
    have hs : setBlock w b (.map es clock) = w := by
      have hb := h.heap
      obtain ⟨hlt, he⟩ := Array.getElem?_eq_some_iff.1 hb
      unfold setBlock
      have e1 : w.heap.setIfInBounds b (.map es clock) = w.heap := by
        apply Array.ext'
        rw [Array.toList_setIfInBounds]
        refine List.ext_getElem? fun i => ?_
        rw [List.getElem?_set]
        split
        · rename_i hi
          subst hi
          rw [if_pos (by simpa using hlt)]
          simpa using hb.symm
        · rfl
      rw [e1]
    refine ⟨w, e0.val, e0.born, ?_, World.grownBy.refl w _, .inr ⟨j, by rw [h.at_ j e0 h2, h3], ⟨es, clock, h⟩, es, clock, e0, h.heap, h2, rfl⟩⟩
    have hrun : (Instr.mapEntry t (.map (some b)) x).run P w = .ok (.tuple #[e0.val, .int .i64 (e0.born : Nat)]) (setBlock w b (.map (es.modify j (fun e' => { e' with key := x })) clock)) := by
      simp [Instr.mapEntry, run_underlying ht, MapKept.run_getObj_map h.heap, K.check w false hx, h1, hj, h3, K.stays w hx, MapKept.run_setObj_map _ h.heap, Result.andThen, setBlock, goInt]
    rw [hm, hs] at hrun
    exact hrun
/-- .. and stored into behind -/
theorem MapR.entryStore {kv : List (Value × Value)} {t : TypeId} (h : MapR P k w b kv) {j s : Nat} (hs : Stamp w b j s) {x v0 : Value} (hj : kv[j]? = some (x, v0)) (v : Value) :
    ∃ w', (Instr.entryStore t (.map (some b)) (.int .i64 (s : Nat)) v).run P w = .ok () w' ∧ w.grownBy w' (some b) ∧ MapR P k w' b (kv.set j (x, v)) := by
  obtain ⟨es, clock, h⟩ := h
  obtain ⟨es', clock', e, h1, h2, h3⟩ := hs
  rw [h.heap] at h1
  obtain ⟨rfl, rfl⟩ : es = es' ∧ clock = clock' := by
    have h1 := Option.some.inj h1
    injection h1 with a b
    exact ⟨a, b⟩
  have hx : e.key = x := by
    have := h.at_ j e h2
    rw [hj] at this
    exact (Prod.mk.inj (Option.some.inj this)).1.symm
  have hp := (h.put h2 v).2
  have hidx : es.findIdx? (fun e' => (e'.born : Int) == (s : Int)) = some j := by
    have hjl := (List.getElem?_eq_some_iff.1 h2)
    rw [Array.findIdx?_eq_some_iff_getElem]
    refine ⟨by simpa using hjl.1, ?_, fun i hi => ?_⟩
    · have : es[j]'(by simpa using hjl.1) = e := by simpa using hjl.2
      rw [this, h3]
      simp
    · have hil : i < es.toList.length := by have := hjl.1; omega
      have hne := (List.pairwise_iff_getElem.1 h.apart) i j hil hjl.1 hi
      rw [hjl.2] at hne
      have : es[i]'(by simpa using hil) = es.toList[i] := by simp
      rw [this, ← h3]
      simp only [beq_iff_eq]
      intro hh
      exact hne (by omega)
  refine ⟨_, ?_, grown_setBlock (es' := es.modify j (fun e' => { e' with val := v })) (clock' := clock) h, _, _, by rw [hx] at hp; exact hp⟩
  simp [Instr.entryStore, MapKept.run_getObj_map h.heap, hidx, MapKept.run_setObj_map _ h.heap, Result.andThen, setBlock, asInt, asIntOf]
/-- len(m) -/
theorem MapR.len {kv : List (Value × Value)} {t ty : TypeId} {e : TypeId} (h : MapR P k w b kv) (ht : P.underlying t = some (.map k e)) : (Builtin.len_ #[t] ty #[.map (some b)]).run P w = .ok (.int .i64 (kv.length : Nat)) w := by
  obtain ⟨es, clock, h⟩ := h
  have hl : kv.length = es.size := by rw [← h.kv, List.length_map]; simp
  rw [hl]
  simp [Builtin.len_, run_underlying ht, MapKept.run_getObj_map h.heap, goInt, Result.andThen]
end
end Go.Proofs.Ytbcnknmgljdmlaa
end

section
/- rows of the call's own, each in a block that no other has -/
set_option linter.unusedVariables false
set_option autoImplicit false
namespace Go.Proofs.Ytbcnknmgljdmlaa
open Go Go.RowKit Go.Proofs.YtbcnknmgljdmlaaW.PrintWords Go.Proofs.YtbcnknmgljdmlaaW.PrintLast

structure RowC where
  e : Nat
  sz : Nat
  n : Nat
  cells : List Value
def OwnR (W : World) (base : Nat) (v : Value) (r : RowC) : Prop := W.ownsRow base r.e r.sz v r.n r.cells
structure OwnAll {ι : Type} (W : World) (base : Nat) (val : ι → Value) (row : ι → RowC) : Prop where
  own : ∀ s, OwnR W base (val s) (row s)
  apart : ∀ s t, s ≠ t → ∀ g, (val s).ownBlock = some g → (val t).ownBlock ≠ some g
theorem grown_of_below {W W' : World} (hb : Below W.heap.size W W') : W.grownBy W' none := ⟨hb.os, hb.tape, hb.output, hb.size, fun k hk _ => hb.block k hk⟩
section
variable {ι : Type} {W W' : World} {base : Nat} {val : ι → Value} {row : ι → RowC}
theorem OwnAll.below (h : OwnAll W base val row) (hb : Below W.heap.size W W') : OwnAll W' base val row := by
  refine ⟨fun s => World.ownsRow.kept (h.own s) (grown_of_below hb) ?_, h.apart⟩
  cases hv : (val s).ownBlock with
  | none => exact .inl rfl
  | some g => exact .inr (by simp)
theorem OwnAll.low (h : OwnAll W base val row) {b : Nat} (hg : W.grownBy W' (some b)) (hb : b < base) : OwnAll W' base val row := by
  refine ⟨fun s => World.ownsRow.kept (h.own s) hg ?_, h.apart⟩
  cases hv : (val s).ownBlock with
  | none => exact .inl rfl
  | some g => exact .inr (fun e => by have h1 := (World.ownsRow.lt (h.own s) g hv).1; have h2 := Option.some.inj e; omega)
theorem OwnAll.grow (h : OwnAll W base val row) (s : ι) (v1 : Value) (row' : ι → RowC) (hown : OwnR W' base v1 (row' s)) (hne : ∀ t, t ≠ s → row' t = row t) (hg : W.grownBy W' (val s).ownBlock)
    (hat : v1.ownBlock = (val s).ownBlock ∨ ∃ b, v1.ownBlock = some b ∧ W.heap.size ≤ b) : ∃ val' : ι → Value, val' s = v1 ∧ (∀ t, t ≠ s → val' t = val t) ∧ OwnAll W' base val' row' := by
  classical
  have hlt : ∀ t g, (val t).ownBlock = some g → g < W.heap.size := fun t g hv => (World.ownsRow.lt (h.own t) g hv).2
  refine ⟨fun t => if t = s then v1 else val t, by simp, fun t ht => by simp [ht], ⟨fun t => ?_, fun t u htu g => ?_⟩⟩
  · by_cases ht : t = s
    · subst ht; simp only [if_true]; exact hown
    · simp only [if_neg ht, hne t ht]
      refine World.ownsRow.kept (h.own t) hg ?_
      cases hv : (val t).ownBlock with
      | none => exact .inl rfl
      | some g => exact .inr (fun e => h.apart t s ht g hv e.symm)
  · by_cases ht : t = s
    · subst ht
      have hu : u ≠ t := Ne.symm htu
      simp only [if_true, if_neg hu]
      intro hv
      rcases hat with hat | ⟨b, hb, hb2⟩
      · exact h.apart t u htu g (by rw [← hat]; exact hv)
      · rw [hb] at hv
        cases hv
        intro e
        have := hlt u _ e
        omega
    · simp only [if_neg ht]
      intro hv
      by_cases hu : u = s
      · subst hu
        simp only [if_true]
        rcases hat with hat | ⟨b, hb, hb2⟩
        · rw [hat]; exact h.apart t u ht g hv
        · rw [hb]
          intro e
          cases e
          have := hlt t _ hv
          omega
      · simp only [if_neg hu]
        exact h.apart t u htu g hv
end
section
variable {P : Program} {ops : Array Oper} {o : Oper} {a : Act} {W : World} {K : Act → World → Prop} {Q : Exit → Act → World → Prop} {E : Prop}
/-- append(v, x), v of the call's own, x in a block made ahead -/
theorem step_app1 (base : Nat) (hgd : o.guard = none) (s x : Operand) (t e : TypeId) (z : Value) (size bytes : Nat)
    (ho : o.op = .call { callee := .builtin .append, args := #[s, x], argTypes := #[t, t] })
    (ht : P.underlying t = some (.slice e)) (hinfo : (P.info? e).map (fun i => (i.zero, i.size, i.bytes)) = some (some z, size, bytes)) (hz : z.cells.size = size) (hs0 : 0 < size) (hb0 : 0 < bytes)
    (v : Value) (n : Nat) (xs ys : List Value) (b c : Nat) (hs : a.eval s = v) (hx : a.eval x = .slice (some ⟨b, 0, none⟩) 1 c) (hbk : W.heap[b]? = some (.cells ys.toArray e (0, 0))) (hys : ys.length = size) (h1 : ∀ u ∈ ys, u.oneCell' = true)
    (HO : W.ownsRow base e size v n xs) (hbase : base ≤ W.heap.size) (hl : (n + 1) * bytes ≤ 140737488355328)
    (h : ∀ v1 w1, w1.ownsRow base e size v1 (n + 1) (xs ++ ys) → W.grownBy w1 v.ownBlock → (v1.ownBlock = v.ownBlock ∨ ∃ b, v1.ownBlock = some b ∧ W.heap.size ≤ b) → K (a.put o.dst v1) w1) :
    if Region.wanted o (yielded ops a.tmps) = true then Oper.wp P o a W K Q else E := by
  rw [if_pos (by simp [Region.wanted, hgd])]
  obtain ⟨i0, hi, hzz⟩ := Option.map_eq_some_iff.1 hinfo
  simp only [Prod.mk.injEq] at hzz
  obtain ⟨hz0, hz1, hz2⟩ := hzz
  have hlen : n + 1 ≤ 140737488355328 := Nat.le_trans (Nat.le_mul_of_pos_right _ hb0) hl
  obtain ⟨v1, w1, hr, h2, h3, _, h5⟩ := run_append_own_at (P := P) (w := W) base t o.type e i0 z size bytes ht hi hz0 hz1 hz2 hz hs0 v n xs HO ⟨b, 0, none⟩ 1 c ys (by rw [hys, Nat.one_mul])
    (by intro j u hu; rw [add_plain, cell_of_row _ _ _ _ _ _ hbk]; simpa using hu) h1 (by simp only [maxLen]; omega) hl hbase
  unfold Oper.wp execOp
  simp only [ho, resolve, invoke, builtin, Sem.run_bind, Sem.run_pure, Result.andThen_ok, List.map_toArray, List.map_cons, List.map_nil, hs, hx, hr]
  exact h v1 w1 h2 h3 (h5.imp id fun e => ⟨_, e, Nat.le_refl _⟩)
end
end Go.Proofs.Ytbcnknmgljdmlaa
end

section
set_option linter.unusedVariables false
set_option linter.unusedSimpArgs false
set_option autoImplicit false
namespace Go.Proofs.Ytbcnknmgljdmlaa
open Go.RowKit Go.Proofs.YtbcnknmgljdmlaaW.PrintWords Go.Proofs.YtbcnknmgljdmlaaW.PrintLast Go.Proofs.YtbcnknmgljdmlaaW.PrintMore

/-- the bytes that a slice tells, in blocks of which S tells -/
def HeldB (w : World) (S : Nat → Prop) (A : Option Addr) (l : List Int) : Prop :=
  0 < l.length → ∃ ad, A = some ad ∧ S ad.block ∧ ∀ j, j < l.length → w.cell? (ad.add j) = some (.int .u8 (rd l j))
theorem lt_of_heap {w : World} {g : Nat} {o : Obj} (h : w.heap[g]? = some o) : g < w.heap.size := (Array.getElem?_eq_some_iff.1 h).1
theorem HeldB.keep {w w' : World} {S : Nat → Prop} {A : Option Addr} {l : List Int} (h : HeldB w S A l) (hk : ∀ k, k < w.heap.size → S k → w'.heap[k]? = w.heap[k]?) : HeldB w' S A l := by
  intro hl
  obtain ⟨ad, rfl, hS, hc⟩ := h hl
  refine ⟨ad, rfl, hS, fun j hj => ?_⟩
  have h1 := hc j hj
  have hlt := World.block_lt_of_cell? w _ h1
  have hb : (ad.add j).block = ad.block := add_block _ _
  rw [World.cell?_of_block (w := w) (by rw [hb]; exact hk _ (by rwa [hb] at hlt) hS)]
  exact h1
theorem HeldB.C {w : World} {S : Nat → Prop} {A : Option Addr} {l : List Int} (h : HeldB w S A l) (hl : l.length ≤ 9223372036854775807) : (Kd.int .u8).C w A l.length l :=
  Kd.C_of_reads (d := (0 : Int)) ⟨rfl, hl, fun h0 => by obtain ⟨ad, rfl, _, hc⟩ := h h0; exact ⟨ad, rfl, fun j hj => by have := hc j hj; simpa [rd] using this⟩⟩
theorem HeldB.of_C {w : World} {S : Nat → Prop} {A : Option Addr} {l : List Int} (h : (Kd.int .u8).C w A l.length l) (hS : ∀ ad, A = some ad → 0 < l.length → S ad.block) : HeldB w S A l := by
  intro h0
  obtain ⟨_, _, hr⟩ := Kd.reads_of_C (d := (0 : Int)) h
  obtain ⟨ad, rfl, hc⟩ := hr h0
  exact ⟨ad, rfl, hS ad rfl h0, fun j hj => by have := hc j hj; simpa [rd] using this⟩

theorem held_own {W : World} {base e : Nat} {ok : Nat → Prop} {v : Value} {xs : List Int} (h : (Kd.int .u8).R e W base ok v xs) :
    ∃ A c, v = .slice A xs.length c ∧ xs.length ≤ c ∧ c ≤ 9223372036854775807 ∧ HeldB W (fun k => base ≤ k ∧ k < W.heap.size) A xs ∧ (Kd.int .u8).C W A xs.length xs := by
  obtain ⟨A, c, rfl, hc, hC⟩ := own_C h
  obtain ⟨_, ho⟩ := kd_own h
  rcases ho with ⟨h1, h2⟩ | ⟨g, cap, cur, h1, h2, h3, h4, h5, h6, h7⟩
  · simp only [Value.slice.injEq] at h1
    obtain ⟨rfl, _, rfl⟩ := h1
    exact ⟨none, 0, rfl, by omega, by omega, fun h0 => absurd h0 (by omega), hC⟩
  · cases h1
    refine ⟨_, _, rfl, hc, by simpa [maxLen] using h5, HeldB.of_C hC ?_, hC⟩
    rintro ad hA _
    cases hA
    exact ⟨h2, lt_of_heap h3⟩
theorem HeldB.below {w w' : World} {S : Nat → Prop} {A : Option Addr} {l : List Int} (h : HeldB w S A l) (hb : Below w.heap.size w w') : HeldB w' S A l := h.keep fun k hk _ => hb.block k hk
theorem HeldB.grown {w w' : World} {S : Nat → Prop} {A : Option Addr} {l : List Int} {r : Nat} (h : HeldB w S A l) (hb : w.grownBy w' (some r)) (h2 : ¬ S r) : HeldB w' S A l :=
  h.keep fun k hk hs => hb.block k hk (fun e => by cases e; exact h2 hs)
theorem HeldB.low {w : World} {A : Option Addr} {l : List Int} (h : (Kd.int .u8).C w A l.length l) : HeldB w (fun k => k < w.heap.size) A l := by
  refine HeldB.of_C h ?_
  rintro ad rfl h0
  obtain ⟨_, _, hr⟩ := Kd.reads_of_C (d := (0 : Int)) h
  obtain ⟨ad', e, hc⟩ := hr h0
  cases e
  have := World.block_lt_of_cell? _ _ (hc 0 h0)
  rwa [add_block] at this
theorem below_of_grown {w0 a b : World} {g : Nat} (h : Below w0.heap.size w0 a) (k : a.grownBy b (some g)) (hg : w0.heap.size ≤ g) : Below w0.heap.size w0 b :=
  h.grown k h.size (fun k hk => by cases hk; exact hg)
theorem below_via {w W W' : World} (h : Below W.heap.size W W') (h0 : Below w.heap.size w W) : Below w.heap.size w W' := h0.trans (h.mono h0.size)
end Go.Proofs.Ytbcnknmgljdmlaa
end

section
-- Written by a program of this session (wip/tools/myprint.py), over the kit's print.
namespace Go.Proofs.Ytbcnknmgljdmlaa.G
open Go.RowKit Go.Proofs.YtbcnknmgljdmlaaW.PrintWords Go.Proofs.YtbcnknmgljdmlaaW.PrintLast Go.Proofs.YtbcnknmgljdmlaaW.PrintMore
attribute [local go_sem] max2_int min2_int max_two min_two max_three min_three max_four min_four   -- for this text's walks alone
set_option linter.unusedVariables false
set_option linter.unusedSimpArgs false



def errW : Option Int → Value
  | none => .nilIface
  | some c => .iface 0 (.int .i64 c)
theorem errW_none : errW none = .nilIface := rfl
theorem errW_some (c : Int) : errW (some c) = .iface 0 (.int .i64 c) := rfl

theorem info3 : (Try.prog.info? 3).map (fun i => (i.zero, i.size, i.bytes)) = some (some (.int .i64 0), 1, 8) := by kernel_rfl
theorem info47 : (Try.prog.info? 47).map (fun i => (i.zero, i.size, i.bytes)) = some (some (.agg #[(.string ⟨#[]⟩), (.int .i64 0), (.int .i64 0), (.int .i64 0), (.string ⟨#[]⟩)]), 5, 56) := by kernel_rfl
-- the values' own types
/-! #### struct type 45 -/
structure S45 where
  f0 : Int
  f1 : Int
  f2 : ByteArray
def z45 : S45 := ⟨(0 : Int), (0 : Int), (⟨#[]⟩ : ByteArray)⟩
def k45 : Kd S45 := Kd.iso (Kd.pair (Kd.int .i64) (Kd.pair (Kd.int .i64) Kd.string)) (fun x : S45 => (x.f0, x.f1, x.f2))
theorem k45_open {w : World} {x : S45} {cs : List Value} (h : k45.K w x cs) : cs = [.int .i64 x.f0, .int .i64 x.f1, .string x.f2] := by
  obtain ⟨_, _, rfl, rfl, ⟨_, _, rfl, rfl, rfl⟩⟩ := h
  exact rfl
theorem k45_openM {w : World} {base : Nat} {ok : Nat → Prop} {x : S45} {cs : List Value} (h : k45.M w base ok x cs) : cs = [.int .i64 x.f0, .int .i64 x.f1, .string x.f2] := by
  obtain ⟨_, _, rfl, rfl, ⟨_, _, rfl, rfl, rfl⟩⟩ := h
  exact rfl
theorem k45_mk (w : World) (x : S45)  : k45.K w x [.int .i64 x.f0, .int .i64 x.f1, .string x.f2] := ⟨[.int .i64 x.f0], [.int .i64 x.f1, .string x.f2], rfl, rfl, ⟨[.int .i64 x.f1], [.string x.f2], rfl, rfl, rfl⟩⟩
theorem k45_mkM (w : World) (base : Nat) (ok : Nat → Prop) (x : S45)  : k45.M w base ok x [.int .i64 x.f0, .int .i64 x.f1, .string x.f2] := ⟨[.int .i64 x.f0], [.int .i64 x.f1, .string x.f2], rfl, rfl, ⟨[.int .i64 x.f1], [.string x.f2], rfl, rfl, rfl⟩⟩
def rd_T45 (xs : List S45) (i : Int) : S45 := xs.getD i.toNat z45
theorem at_T45 {w : World} {A : Option Addr} {n : Nat} {xs : List S45} (h : Kd.C k45 w A n xs) (i : Int) (h0 : 0 ≤ i) (h1 : i < n) : ∃ ad , A = some ad ∧ w.cell? (ad.add (i.toNat * 3)) = some (.int .i64 (rd_T45 xs i).f0) ∧ w.cell? ⟨(ad.add (i.toNat * 3)).block, (ad.add (i.toNat * 3)).off + 1, none⟩ = some (.int .i64 (rd_T45 xs i).f1) ∧ w.cell? ⟨(ad.add (i.toNat * 3)).block, (ad.add (i.toNat * 3)).off + 2, none⟩ = some (.string (rd_T45 xs i).f2) := by
  obtain ⟨ad, c, e, _, hK, hc0⟩ := Kd.C_get h z45 i h0 h1
  have hc : ∀ j u, c[j]? = some u → w.cell? (ad.add (i.toNat * 3 + j)) = some u := hc0
  obtain rfl := k45_open hK
  exact ⟨ad, e, hc 0 _ rfl, by rw [← add_field _ _ 1 (by omega)]; exact hc 1 _ rfl, by rw [← add_field _ _ 2 (by omega)]; exact hc 2 _ rfl⟩

/-! #### struct type 47 -/
structure S47 where
  f0 : ByteArray
  f1 : Int
  f2 : S45
def z47 : S47 := ⟨(⟨#[]⟩ : ByteArray), (0 : Int), z45⟩
def k47 : Kd S47 := Kd.iso (Kd.pair Kd.string (Kd.pair (Kd.int .i64) k45)) (fun x : S47 => (x.f0, x.f1, x.f2))
theorem k47_open {w : World} {x : S47} {cs : List Value} (h : k47.K w x cs) : cs = [.string x.f0, .int .i64 x.f1, .int .i64 x.f2.f0, .int .i64 x.f2.f1, .string x.f2.f2] := by
  obtain ⟨_, _, rfl, rfl, ⟨_, _, rfl, rfl, s2⟩⟩ := h
  obtain rfl := k45_open s2
  exact rfl
theorem k47_openM {w : World} {base : Nat} {ok : Nat → Prop} {x : S47} {cs : List Value} (h : k47.M w base ok x cs) : cs = [.string x.f0, .int .i64 x.f1, .int .i64 x.f2.f0, .int .i64 x.f2.f1, .string x.f2.f2] := by
  obtain ⟨_, _, rfl, rfl, ⟨_, _, rfl, rfl, s2⟩⟩ := h
  obtain rfl := k45_openM s2
  exact rfl
theorem k47_mk (w : World) (x : S47)  : k47.K w x [.string x.f0, .int .i64 x.f1, .int .i64 x.f2.f0, .int .i64 x.f2.f1, .string x.f2.f2] := ⟨[.string x.f0], [.int .i64 x.f1, .int .i64 x.f2.f0, .int .i64 x.f2.f1, .string x.f2.f2], rfl, rfl, ⟨[.int .i64 x.f1], [.int .i64 x.f2.f0, .int .i64 x.f2.f1, .string x.f2.f2], rfl, rfl, (k45_mk w x.f2 )⟩⟩
theorem k47_mkM (w : World) (base : Nat) (ok : Nat → Prop) (x : S47)  : k47.M w base ok x [.string x.f0, .int .i64 x.f1, .int .i64 x.f2.f0, .int .i64 x.f2.f1, .string x.f2.f2] := ⟨[.string x.f0], [.int .i64 x.f1, .int .i64 x.f2.f0, .int .i64 x.f2.f1, .string x.f2.f2], rfl, rfl, ⟨[.int .i64 x.f1], [.int .i64 x.f2.f0, .int .i64 x.f2.f1, .string x.f2.f2], rfl, rfl, (k45_mkM w base ok x.f2 )⟩⟩
def rd_T47 (xs : List S47) (i : Int) : S47 := xs.getD i.toNat z47
theorem at_T47 {w : World} {A : Option Addr} {n : Nat} {xs : List S47} (h : Kd.C k47 w A n xs) (i : Int) (h0 : 0 ≤ i) (h1 : i < n) : ∃ ad , A = some ad ∧ w.cell? (ad.add (i.toNat * 5)) = some (.string (rd_T47 xs i).f0) ∧ w.cell? ⟨(ad.add (i.toNat * 5)).block, (ad.add (i.toNat * 5)).off + 1, none⟩ = some (.int .i64 (rd_T47 xs i).f1) ∧ w.cell? ⟨(ad.add (i.toNat * 5)).block, (ad.add (i.toNat * 5)).off + 2, none⟩ = some (.int .i64 (rd_T47 xs i).f2.f0) ∧ w.cell? ⟨(ad.add (i.toNat * 5)).block, (ad.add (i.toNat * 5)).off + 3, none⟩ = some (.int .i64 (rd_T47 xs i).f2.f1) ∧ w.cell? ⟨(ad.add (i.toNat * 5)).block, (ad.add (i.toNat * 5)).off + 4, none⟩ = some (.string (rd_T47 xs i).f2.f2) := by
  obtain ⟨ad, c, e, _, hK, hc0⟩ := Kd.C_get h z47 i h0 h1
  have hc : ∀ j u, c[j]? = some u → w.cell? (ad.add (i.toNat * 5 + j)) = some u := hc0
  obtain rfl := k47_open hK
  exact ⟨ad, e, hc 0 _ rfl, by rw [← add_field _ _ 1 (by omega)]; exact hc 1 _ rfl, by rw [← add_field _ _ 2 (by omega)]; exact hc 2 _ rfl, by rw [← add_field _ _ 3 (by omega)]; exact hc 3 _ rfl, by rw [← add_field _ _ 4 (by omega)]; exact hc 4 _ rfl⟩

def rd_L4 (xs : List (List S47)) (i : Int) : (List S47) := xs.getD i.toNat ([] : List S47)
theorem at_L4 {w : World} {A : Option Addr} {n : Nat} {xs : List (List S47)} (h : Kd.C (Kd.slice 47 k47) w A n xs) (i : Int) (h0 : 0 ≤ i) (h1 : i < n) : ∃ ad A0 c0, A = some ad ∧ w.cell? (ad.add i.toNat) = some (.slice A0 (rd_L4 xs i).length c0) ∧ (rd_L4 xs i).length ≤ c0 ∧ k47.C w A0 (rd_L4 xs i).length (rd_L4 xs i) := by
  obtain ⟨ad, c, e, _, hK, hc0⟩ := Kd.C_get h ([] : List S47) i h0 h1
  have hc : ∀ j u, c[j]? = some u → w.cell? (ad.add (i.toNat * 1 + j)) = some u := hc0
  obtain ⟨A0, c0, rfl, l0, g0⟩ := hK
  exact ⟨ad, A0, c0, e, by have hq := hc 0 _ rfl; rwa [Nat.mul_one, Nat.add_zero] at hq, l0, g0⟩

/-! #### struct type 41 -/
structure S41 where
  f0 : Int
  f1 : Int
  f2 : (List S47)
def z41 : S41 := ⟨(0 : Int), (0 : Int), ([] : List S47)⟩
def k41 : Kd S41 := Kd.iso (Kd.pair (Kd.int .i64) (Kd.pair (Kd.int .i64) (Kd.slice 47 k47))) (fun x : S41 => (x.f0, x.f1, x.f2))
theorem k41_open {w : World} {x : S41} {cs : List Value} (h : k41.K w x cs) : ∃ A2 c2, cs = [.int .i64 x.f0, .int .i64 x.f1, .slice A2 x.f2.length c2] ∧ x.f2.length ≤ c2 ∧ k47.C w A2 x.f2.length x.f2 := by
  obtain ⟨_, _, rfl, rfl, ⟨_, _, rfl, rfl, ⟨A2, c2, rfl, l2, g2⟩⟩⟩ := h
  exact ⟨A2, c2, rfl, l2, g2⟩
theorem k41_openM {w : World} {base : Nat} {ok : Nat → Prop} {x : S41} {cs : List Value} (h : k41.M w base ok x cs) : ∃ v2, cs = [.int .i64 x.f0, .int .i64 x.f1, v2] ∧ k47.R 47 w base ok v2 x.f2 := by
  obtain ⟨_, _, rfl, rfl, ⟨_, _, rfl, rfl, ⟨v2, rfl, g2⟩⟩⟩ := h
  exact ⟨v2, rfl, g2⟩
theorem k41_mk (w : World) (x : S41) {A2 : Option Addr} {c2 : Nat} (l2 : x.f2.length ≤ c2) (g2 : k47.C w A2 x.f2.length x.f2) : k41.K w x [.int .i64 x.f0, .int .i64 x.f1, .slice A2 x.f2.length c2] := ⟨[.int .i64 x.f0], [.int .i64 x.f1, .slice A2 x.f2.length c2], rfl, rfl, ⟨[.int .i64 x.f1], [.slice A2 x.f2.length c2], rfl, rfl, ⟨A2, c2, rfl, l2, g2⟩⟩⟩
theorem k41_mkM (w : World) (base : Nat) (ok : Nat → Prop) (x : S41) {v2 : Value} (g2 : k47.R 47 w base ok v2 x.f2) : k41.M w base ok x [.int .i64 x.f0, .int .i64 x.f1, v2] := ⟨[.int .i64 x.f0], [.int .i64 x.f1, v2], rfl, rfl, ⟨[.int .i64 x.f1], [v2], rfl, rfl, ⟨v2, rfl, g2⟩⟩⟩
def rd_T41 (xs : List S41) (i : Int) : S41 := xs.getD i.toNat z41
theorem at_T41 {w : World} {A : Option Addr} {n : Nat} {xs : List S41} (h : Kd.C k41 w A n xs) (i : Int) (h0 : 0 ≤ i) (h1 : i < n) : ∃ ad A2 c2, A = some ad ∧ w.cell? (ad.add (i.toNat * 3)) = some (.int .i64 (rd_T41 xs i).f0) ∧ w.cell? ⟨(ad.add (i.toNat * 3)).block, (ad.add (i.toNat * 3)).off + 1, none⟩ = some (.int .i64 (rd_T41 xs i).f1) ∧ w.cell? ⟨(ad.add (i.toNat * 3)).block, (ad.add (i.toNat * 3)).off + 2, none⟩ = some (.slice A2 (rd_T41 xs i).f2.length c2) ∧ (rd_T41 xs i).f2.length ≤ c2 ∧ k47.C w A2 (rd_T41 xs i).f2.length (rd_T41 xs i).f2 := by
  obtain ⟨ad, c, e, _, hK, hc0⟩ := Kd.C_get h z41 i h0 h1
  have hc : ∀ j u, c[j]? = some u → w.cell? (ad.add (i.toNat * 3 + j)) = some u := hc0
  obtain ⟨A2, c2, rfl, l2, g2⟩ := k41_open hK
  exact ⟨ad, A2, c2, e, hc 0 _ rfl, by rw [← add_field _ _ 1 (by omega)]; exact hc 1 _ rfl, by rw [← add_field _ _ 2 (by omega)]; exact hc 2 _ rfl, l2, g2⟩

/-! #### struct type 49 -/
structure S49 where
  f0 : ByteArray
  f1 : S45
def z49 : S49 := ⟨(⟨#[]⟩ : ByteArray), z45⟩
def k49 : Kd S49 := Kd.iso (Kd.pair Kd.string k45) (fun x : S49 => (x.f0, x.f1))
theorem k49_open {w : World} {x : S49} {cs : List Value} (h : k49.K w x cs) : cs = [.string x.f0, .int .i64 x.f1.f0, .int .i64 x.f1.f1, .string x.f1.f2] := by
  obtain ⟨_, _, rfl, rfl, s1⟩ := h
  obtain rfl := k45_open s1
  exact rfl
theorem k49_openM {w : World} {base : Nat} {ok : Nat → Prop} {x : S49} {cs : List Value} (h : k49.M w base ok x cs) : cs = [.string x.f0, .int .i64 x.f1.f0, .int .i64 x.f1.f1, .string x.f1.f2] := by
  obtain ⟨_, _, rfl, rfl, s1⟩ := h
  obtain rfl := k45_openM s1
  exact rfl
theorem k49_mk (w : World) (x : S49)  : k49.K w x [.string x.f0, .int .i64 x.f1.f0, .int .i64 x.f1.f1, .string x.f1.f2] := ⟨[.string x.f0], [.int .i64 x.f1.f0, .int .i64 x.f1.f1, .string x.f1.f2], rfl, rfl, (k45_mk w x.f1 )⟩
theorem k49_mkM (w : World) (base : Nat) (ok : Nat → Prop) (x : S49)  : k49.M w base ok x [.string x.f0, .int .i64 x.f1.f0, .int .i64 x.f1.f1, .string x.f1.f2] := ⟨[.string x.f0], [.int .i64 x.f1.f0, .int .i64 x.f1.f1, .string x.f1.f2], rfl, rfl, (k45_mkM w base ok x.f1 )⟩
def rd_T49 (xs : List S49) (i : Int) : S49 := xs.getD i.toNat z49
theorem at_T49 {w : World} {A : Option Addr} {n : Nat} {xs : List S49} (h : Kd.C k49 w A n xs) (i : Int) (h0 : 0 ≤ i) (h1 : i < n) : ∃ ad , A = some ad ∧ w.cell? (ad.add (i.toNat * 4)) = some (.string (rd_T49 xs i).f0) ∧ w.cell? ⟨(ad.add (i.toNat * 4)).block, (ad.add (i.toNat * 4)).off + 1, none⟩ = some (.int .i64 (rd_T49 xs i).f1.f0) ∧ w.cell? ⟨(ad.add (i.toNat * 4)).block, (ad.add (i.toNat * 4)).off + 2, none⟩ = some (.int .i64 (rd_T49 xs i).f1.f1) ∧ w.cell? ⟨(ad.add (i.toNat * 4)).block, (ad.add (i.toNat * 4)).off + 3, none⟩ = some (.string (rd_T49 xs i).f1.f2) := by
  obtain ⟨ad, c, e, _, hK, hc0⟩ := Kd.C_get h z49 i h0 h1
  have hc : ∀ j u, c[j]? = some u → w.cell? (ad.add (i.toNat * 4 + j)) = some u := hc0
  obtain rfl := k49_open hK
  exact ⟨ad, e, hc 0 _ rfl, by rw [← add_field _ _ 1 (by omega)]; exact hc 1 _ rfl, by rw [← add_field _ _ 2 (by omega)]; exact hc 2 _ rfl, by rw [← add_field _ _ 3 (by omega)]; exact hc 3 _ rfl⟩

end Go.Proofs.Ytbcnknmgljdmlaa.G
end

section
/- an index in memory: what its maps and slices hold -/
set_option linter.unusedVariables false
set_option linter.unusedSimpArgs false
set_option autoImplicit false
namespace Go.Proofs.Ytbcnknmgljdmlaa
open Go Go.RowKit Go.Proofs.YtbcnknmgljdmlaaW.PrintWords Go.Proofs.YtbcnknmgljdmlaaW.PrintLast Go.Proofs.YtbcnknmgljdmlaaW.PrintMore Go.Proofs.Ytbcnknmgljdmlaa.G
open Go.Maps (Keyed)

/-! ### predicates as keys -/
instance : DecidableEq S45 := fun a b => decidable_of_iff (a.f0 = b.f0 ∧ a.f1 = b.f1 ∧ a.f2 = b.f2) ⟨fun h => by cases a; cases b; simp at h ⊢; exact h, fun h => by subst h; simp⟩
instance : DecidableEq S47 := fun a b => decidable_of_iff (a.f0 = b.f0 ∧ a.f1 = b.f1 ∧ a.f2 = b.f2) ⟨fun h => by cases a; cases b; simp at h ⊢; exact h, fun h => by subst h; simp⟩
def predC (p : S47) : List Value := [.string p.f0, .int .i64 p.f1, .int .i64 p.f2.f0, .int .i64 p.f2.f1, .string p.f2.f2]
def predV (p : S47) : Value := .agg #[.string p.f0, .int .i64 p.f1, .int .i64 p.f2.f0, .int .i64 p.f2.f1, .string p.f2.f2]
theorem predV_inj {p q : S47} (h : predV p = predV q) : p = q := by
  obtain ⟨a, b, c, d, e⟩ := p
  obtain ⟨a', b', c', d', e'⟩ := q
  simp [predV] at h
  obtain ⟨rfl, rfl, rfl, rfl, rfl⟩ := h
  rfl
theorem laidOutI : laidOutB Try.prog = true := by kernel_rfl
theorem rowP : (47 : TypeId) < Try.prog.types.size := of_decide_eq_true (by kernel_rfl)
theorem deepP : Try.prog.keyTypeAt 3 47 = true := by kernel_rfl
theorem wideP : (match Try.prog.underlying 47 with | some (.array _ _) | some (.struct _) => true | _ => false) = true := by kernel_rfl
theorem lawP : Keyed Try.prog 47 := Keyed.of_law (deep_law_laid laidOutI (m := 3) (by omega) rowP deepP wideP)
theorem lawN : Keyed Try.prog 9 := Go.Maps.string_keyed Try.underlying9
def KeyOk (p : S47) : Prop := (p.f0.size ≤ maxLen ∧ (Lit.int .i64 p.f1).wf = true) ∧ ((Lit.int .i64 p.f2.f0).wf = true ∧ (Lit.int .i64 p.f2.f1).wf = true) ∧ p.f2.f2.size ≤ maxLen
theorem keyTypeP : Try.prog.keyType 47 = true := by kernel_rfl
theorem cellsP : Try.prog.cellsOf 47 = 5 := by kernel_rfl
theorem cellsVv : Try.prog.cellsOf 45 = 3 := by kernel_rfl
theorem cellsSt : Try.prog.cellsOf 9 = 1 := by kernel_rfl
theorem cellsIn : Try.prog.cellsOf 3 = 1 := by kernel_rfl
theorem sizeTy : ∃ n, Try.prog.types.size = n + 1 + 1 := ⟨Try.prog.types.size - 2, by kernel_rfl⟩
theorem litsV (m : Nat) (a b : Int) (s : ByteArray) (h3 : (Lit.int .i64 a).wf = true) (h4 : (Lit.int .i64 b).wf = true) (h5 : s.size ≤ maxLen) :
    Try.prog.keyLits (m + 1 + 1) 45 [.int .i64 a, .int .i64 b, .string s] = some [.int .i64 a, .int .i64 b, .string s.data.toList] := by
  unfold Program.keyLits
  simp only [Try.underlying45]
  rw [if_pos ⟨by rw [cellsVv]; rfl, by kernel_rfl⟩]
  simp [Program.keyLits, Try.underlying9, Try.underlying3, cellsSt, cellsIn, h3, h4, h5]
theorem litsP (m : Nat) (p : S47) (h1 : p.f0.size ≤ maxLen) (h2 : (Lit.int .i64 p.f1).wf = true) (h3 : (Lit.int .i64 p.f2.f0).wf = true) (h4 : (Lit.int .i64 p.f2.f1).wf = true) (h5 : p.f2.f2.size ≤ maxLen) :
    ∃ l, Try.prog.keyLits (m + 1 + 1 + 1) 47 [.string p.f0, .int .i64 p.f1, .int .i64 p.f2.f0, .int .i64 p.f2.f1, .string p.f2.f2] = some l := by
  have hV := litsV m p.f2.f0 p.f2.f1 p.f2.f2 h3 h4 h5
  unfold Program.keyLits
  simp only [Try.underlying47]
  rw [if_pos ⟨by rw [cellsP]; rfl, by kernel_rfl⟩]
  have hS : Try.prog.keyLits (m + 1 + 1) 9 [.string p.f0] = some [.string p.f0.data.toList] := by simp [Program.keyLits, Try.underlying9, h1]
  have hI : Try.prog.keyLits (m + 1 + 1) 3 [.int .i64 p.f1] = some [.int .i64 p.f1] := by simp [Program.keyLits, Try.underlying3, h2]
  simp [cellsP, cellsVv, cellsSt, cellsIn, hV, hS, hI]
theorem key_pred (p : S47) (h : KeyOk p) : ∃ l, keyOf Try.prog 47 (predV p) = some l := by
  obtain ⟨n, hn⟩ := sizeTy
  obtain ⟨⟨h1, h2⟩, ⟨h3, h4⟩, h5⟩ := h
  have hf : (predV p).formed Try.prog 47 = true := by simp [predV, Value.formed, Try.underlying47, cellsP]
  unfold keyOf
  rw [Try.underlying47]
  simp only [keyTypeP, hf, Bool.and_self, if_true, hn]
  obtain ⟨ls, hls⟩ := litsP n p h1 h2 h3 h4 h5
  refine ⟨.string (keyBytes ls), ?_⟩
  show (Try.prog.keyLits (n + 1 + 1 + 1) 47 (predV p).cells.toList).map _ = _
  rw [show (predV p).cells.toList = [.string p.f0, .int .i64 p.f1, .int .i64 p.f2.f0, .int .i64 p.f2.f1, .string p.f2.f2] from rfl, hls]
  rfl
theorem key_name (s : ByteArray) (h : s.size ≤ maxLen) : ∃ l, keyOf Try.prog 9 (.string s) = some l := by
  refine ⟨.string s.data.toList, ?_⟩
  unfold keyOf
  rw [Try.underlying9]
  simp [mapKey, Try.underlying9, h]

/-! ### what an index holds -/
abbrev Slot := Sum S47 (Sum ByteArray Bool)
def intsV (l : List Int) : List Value := l.map (Value.int .i64)
def rowI (oc : S47 → List Int) (nmd : ByteArray → List S47) (ids needs : List Int) : Slot → RowC
  | .inl p => ⟨3, 1, (oc p).length, intsV (oc p)⟩
  | .inr (.inl n) => ⟨47, 5, (nmd n).length, (nmd n).flatMap predC⟩
  | .inr (.inr true) => ⟨3, 1, ids.length, intsV ids⟩
  | .inr (.inr false) => ⟨3, 1, needs.length, intsV needs⟩
def addK {α : Type} [DecidableEq α] (ks : List α) (a : α) : List α := if a ∈ ks then ks else ks ++ [a]
theorem addK_nodup {α : Type} [DecidableEq α] {ks : List α} (h : ks.Nodup) (a : α) : (addK ks a).Nodup := by
  unfold addK
  split
  · exact h
  · rename_i hn
    rw [List.nodup_append]
    exact ⟨h, by simp, fun x hx y hy => by rw [List.mem_singleton] at hy; subst hy; exact fun e => hn (e ▸ hx)⟩
theorem addK_mem {α : Type} [DecidableEq α] {ks : List α} {a x : α} : x ∈ addK ks a ↔ x ∈ ks ∨ x = a := by
  unfold addK
  split
  · rename_i h
    exact ⟨.inl, fun h2 => h2.elim id fun e => e ▸ h⟩
  · simp
structure IxS (w W : World) (fs : List (Nat × Obj)) (oc : S47 → List Int) (nmd : ByteArray → List S47) (ids needs : List Int) (ko : List S47) (kn : List ByteArray) (val : Slot → Value) (xi xn : Value) : Prop where
  heap : W.heap[w.heap.size + 2]? = some (.cells #[.map (some w.heap.size), .map (some (w.heap.size + 1)), xi, xn] 53 (0, 0))
  of : MapR Try.prog 47 W w.heap.size (ko.map fun p => (predV p, val (.inl p)))
  nm : MapR Try.prog 9 W (w.heap.size + 1) (kn.map fun n => (.string n, val (.inr (.inl n))))
  own : OwnAll W (w.heap.size + 3) val (rowI oc nmd ids needs)
  nko : ko.Nodup
  nkn : kn.Nodup
  zo : ∀ p, p ∉ ko → val (.inl p) = .slice none 0 0
  zn : ∀ n, n ∉ kn → val (.inr (.inl n)) = .slice none 0 0
  noff : ∀ s g, (val s).ownBlock = some g → ∀ x ∈ fs, x.1 ≠ g
  fr : ∀ x ∈ fs, W.heap[x.1]? = some x.2 ∧ w.heap.size + 3 ≤ x.1
  below : Below w.heap.size w W
section
variable {w W W1 W2 : World} {fs : List (Nat × Obj)} {oc oc' : S47 → List Int} {nmd nmd' : ByteArray → List S47} {ids needs : List Int} {ko : List S47} {kn : List ByteArray} {val : Slot → Value} {xi xn : Value}
theorem IxS.size (h : IxS w W fs oc nmd ids needs ko kn val xi xn) : w.heap.size + 3 ≤ W.heap.size := by have := lt_of_heap h.heap; omega
theorem IxS.step (h : IxS w W fs oc nmd ids needs ko kn val xi xn) (hb : Below W.heap.size W W1) : IxS w W1 fs oc nmd ids needs ko kn val xi xn :=
  ⟨by rw [hb.block _ (lt_of_heap h.heap)]; exact h.heap, h.of.below hb, h.nm.below hb, h.own.below hb, h.nko, h.nkn, h.zo, h.zn, h.noff, fun x hx => ⟨by rw [hb.block _ (lt_of_heap (h.fr x hx).1)]; exact (h.fr x hx).1, (h.fr x hx).2⟩, h.below.trans (hb.mono h.below.size)⟩
/-- a block that was made is nobody's -/
theorem IxS.foreign (h : IxS w W fs oc nmd ids needs ko kn val xi xn) (o : Obj) : IxS w (W.alloc o) ((W.heap.size, o) :: fs) oc nmd ids needs ko kn val xi xn := by
  have hs := h.step ((Below.refl W.heap.size W).alloc (Nat.le_refl _) o)
  refine ⟨hs.heap, hs.of, hs.nm, hs.own, h.nko, h.nkn, h.zo, h.zn, ?_, ?_, hs.below⟩
  · intro s g hg x hx
    rcases List.mem_cons.1 hx with rfl | hx
    · have := (World.ownsRow.lt (h.own.own s) _ hg).2
      simp only
      omega
    · exact h.noff s g hg x hx
  · intro x hx
    rcases List.mem_cons.1 hx with rfl | hx
    · exact ⟨heap_alloc_new W o, h.size⟩
    · exact hs.fr x hx
theorem IxS.drop (h : IxS w W fs oc nmd ids needs ko kn val xi xn) {fs' : List (Nat × Obj)} (hf : ∀ x ∈ fs', x ∈ fs) : IxS w W fs' oc nmd ids needs ko kn val xi xn :=
  ⟨h.heap, h.of, h.nm, h.own, h.nko, h.nkn, h.zo, h.zn, fun s g hg x hx => h.noff s g hg x (hf x hx), fun x hx => h.fr x (hf x hx), h.below⟩
theorem IxS.noff_put (h : IxS w W fs oc nmd ids needs ko kn val xi xn) (s0 : Slot) {val' : Slot → Value} (e2 : ∀ t, t ≠ s0 → val' t = val t) (hat : (val' s0).ownBlock = (val s0).ownBlock ∨ ∃ b, (val' s0).ownBlock = some b ∧ W.heap.size ≤ b) : ∀ s g, (val' s).ownBlock = some g → ∀ x ∈ fs, x.1 ≠ g := by
  intro s g hs x hx
  by_cases e : s = s0
  · subst e
    rcases hat with hat | ⟨b, hb, hb2⟩
    · rw [hat] at hs; exact h.noff _ g hs x hx
    · rw [hb] at hs; cases hs; have := lt_of_heap (h.fr x hx).1; omega
  · rw [e2 s e] at hs; exact h.noff s g hs x hx
theorem map_set_nodup {α β : Type} (ks : List α) (hn : ks.Nodup) (f f' : α → β) (j : Nat) (a : α) (hj : ks[j]? = some a) (hf : ∀ x, x ≠ a → f' x = f x) : (ks.map f).set j (f' a) = ks.map f' := by
  refine List.ext_getElem? fun i => ?_
  rw [List.getElem?_set, List.getElem?_map, List.getElem?_map]
  obtain ⟨hjl, hje⟩ := List.getElem?_eq_some_iff.1 hj
  by_cases hi : j = i
  · subst hi
    rw [if_pos rfl, if_pos (by simpa using hjl), hj]
    rfl
  · rw [if_neg hi]
    cases hk : ks[i]? with
    | none => rfl
    | some x =>
      obtain ⟨hil, hie⟩ := List.getElem?_eq_some_iff.1 hk
      have : x ≠ a := by
        rw [← hie, ← hje]
        intro e
        rcases Nat.lt_or_gt_of_ne hi with hlt | hlt
        · exact (List.pairwise_iff_getElem.1 hn) j i hjl hil hlt e.symm
        · exact (List.pairwise_iff_getElem.1 hn) i j hil hjl hlt e
      simp [hf x this]
/-- v, ok := of[p] -/
theorem IxS.lookOf (h : IxS w W fs oc nmd ids needs ko kn val xi xn) (p : S47) (hp : KeyOk p) (hz : (zeroValue 32).run Try.prog W = .ok (.slice none 0 0) W) (c : Bool) :
    (Instr.lookup 50 (.map (some w.heap.size)) (predV p) c).run Try.prog W = .ok (if c then .tuple #[val (.inl p), .bool (decide (p ∈ ko))] else val (.inl p)) W := by
  obtain ⟨l, hl⟩ := key_pred p hp
  rcases h.of.lookup lawP Try.underlying50 hz hl c with ⟨h1, h2⟩ | ⟨j, v, h1, h2⟩
  · have hn : p ∉ ko := fun hm => h2 _ (List.mem_map.2 ⟨p, hm, rfl⟩) rfl
    rw [h1, h.zo p hn]
    simp [hn]
  · rw [List.getElem?_map, Option.map_eq_some_iff] at h1
    obtain ⟨q, hq, he⟩ := h1
    obtain ⟨e1, e2⟩ := Prod.mk.inj he
    obtain rfl := predV_inj e1
    have hm : q ∈ ko := List.mem_of_getElem? hq
    rw [h2, ← e2]
    simp [hm]
/-- named[n] -/
theorem IxS.lookNm (h : IxS w W fs oc nmd ids needs ko kn val xi xn) (n : ByteArray) (hn : n.size ≤ maxLen) (hz : (zeroValue 39).run Try.prog W = .ok (.slice none 0 0) W) :
    (Instr.lookup 51 (.map (some (w.heap.size + 1))) (.string n) false).run Try.prog W = .ok (val (.inr (.inl n))) W := by
  obtain ⟨l, hl⟩ := key_name n hn
  rcases h.nm.lookup lawN Try.underlying51 hz hl false with ⟨h1, h2⟩ | ⟨j, v, h1, h2⟩
  · have hn : n ∉ kn := fun hm => h2 _ (List.mem_map.2 ⟨n, hm, rfl⟩) rfl
    rw [h1, h.zn n hn]
    rfl
  · rw [List.getElem?_map, Option.map_eq_some_iff] at h1
    obtain ⟨q, hq, he⟩ := h1
    obtain ⟨e1, e2⟩ := Prod.mk.inj he
    injection e1 with e1
    subst e1
    rw [h2, ← e2]
    rfl
/-- an append to a row of its own leaves the blocks that are no row's -/
theorem IxS.kept (h : IxS w W fs oc nmd ids needs ko kn val xi xn) (s : Slot) (hg : W.grownBy W1 (val s).ownBlock) : (∀ k, k < w.heap.size + 3 → W1.heap[k]? = W.heap[k]?) ∧ (∀ x ∈ fs, W1.heap[x.1]? = some x.2 ∧ w.heap.size + 3 ≤ x.1) ∧ Below w.heap.size w W1 := by
  have hs := h.size
  have hne : ∀ k, k < w.heap.size + 3 → some k ≠ (val s).ownBlock := fun k hk e => by
    have := (World.ownsRow.lt (h.own.own s) k e.symm).1
    omega
  refine ⟨fun k hk => hg.block k (by omega) (hne k hk), fun x hx => ⟨by rw [hg.block _ (lt_of_heap (h.fr x hx).1) (fun e => h.noff s x.1 e.symm x hx rfl)]; exact (h.fr x hx).1, (h.fr x hx).2⟩, ?_⟩
  refine h.below.grown hg h.below.size (fun k hk => ?_)
  have := (World.ownsRow.lt (h.own.own s) k hk).1
  omega
/-- append(ids, x) -/
theorem IxS.appIds (h : IxS w W fs oc nmd ids needs ko kn val xi xn) (x : Int) (v1 : Value) (hown : W1.ownsRow (w.heap.size + 3) 3 1 v1 (ids.length + 1) (intsV ids ++ [.int .i64 x])) (hg : W.grownBy W1 (val (.inr (.inr true))).ownBlock) (hat : v1.ownBlock = (val (.inr (.inr true))).ownBlock ∨ ∃ b, v1.ownBlock = some b ∧ W.heap.size ≤ b) :
    ∃ val', val' (.inr (.inr true)) = v1 ∧ (∀ t, t ≠ .inr (.inr true) → val' t = val t) ∧ IxS w W1 fs oc nmd (ids ++ [x]) needs ko kn val' xi xn := by
  obtain ⟨k1, k2, k3⟩ := h.kept _ hg
  obtain ⟨val', e1, e2, ho⟩ := h.own.grow (.inr (.inr true)) v1 (rowI oc nmd (ids ++ [x]) needs) (by simpa [OwnR, rowI, intsV] using hown) (by rintro (p | n | b) ht; rfl; rfl; cases b; rfl; exact absurd rfl ht) hg hat
  refine ⟨val', e1, e2, ⟨by rw [k1 _ (by omega)]; exact h.heap, ?_, ?_, ho, h.nko, h.nkn, fun p hp => by rw [e2 _ (by simp)]; exact h.zo p hp, fun n hn => by rw [e2 _ (by simp)]; exact h.zn n hn, h.noff_put _ e2 (by rw [e1]; exact hat), k2, k3⟩⟩
  · have : (ko.map fun p => (predV p, val' (.inl p))) = ko.map fun p => (predV p, val (.inl p)) := List.map_congr_left fun p _ => by rw [e2 _ (by simp)]
    rw [this]; exact h.of.keep (k1 _ (by omega))
  · have : (kn.map fun n => (Value.string n, val' (.inr (.inl n)))) = kn.map fun n => (Value.string n, val (.inr (.inl n))) := List.map_congr_left fun p _ => by rw [e2 _ (by simp)]
    rw [this]; exact h.nm.keep (k1 _ (by omega))
/-- append(needs, x) -/
theorem IxS.appNeeds (h : IxS w W fs oc nmd ids needs ko kn val xi xn) (x : Int) (v1 : Value) (hown : W1.ownsRow (w.heap.size + 3) 3 1 v1 (needs.length + 1) (intsV needs ++ [.int .i64 x])) (hg : W.grownBy W1 (val (.inr (.inr false))).ownBlock) (hat : v1.ownBlock = (val (.inr (.inr false))).ownBlock ∨ ∃ b, v1.ownBlock = some b ∧ W.heap.size ≤ b) :
    ∃ val', val' (.inr (.inr false)) = v1 ∧ (∀ t, t ≠ .inr (.inr false) → val' t = val t) ∧ IxS w W1 fs oc nmd ids (needs ++ [x]) ko kn val' xi xn := by
  obtain ⟨k1, k2, k3⟩ := h.kept _ hg
  obtain ⟨val', e1, e2, ho⟩ := h.own.grow (.inr (.inr false)) v1 (rowI oc nmd ids (needs ++ [x])) (by simpa [OwnR, rowI, intsV] using hown) (by rintro (p | n | b) ht; rfl; rfl; cases b; exact absurd rfl ht; rfl) hg hat
  refine ⟨val', e1, e2, ⟨by rw [k1 _ (by omega)]; exact h.heap, ?_, ?_, ho, h.nko, h.nkn, fun p hp => by rw [e2 _ (by simp)]; exact h.zo p hp, fun n hn => by rw [e2 _ (by simp)]; exact h.zn n hn, h.noff_put _ e2 (by rw [e1]; exact hat), k2, k3⟩⟩
  · have : (ko.map fun p => (predV p, val' (.inl p))) = ko.map fun p => (predV p, val (.inl p)) := List.map_congr_left fun p _ => by rw [e2 _ (by simp)]
    rw [this]; exact h.of.keep (k1 _ (by omega))
  · have : (kn.map fun n => (Value.string n, val' (.inr (.inl n)))) = kn.map fun n => (Value.string n, val (.inr (.inl n))) := List.map_congr_left fun p _ => by rw [e2 _ (by simp)]
    rw [this]; exact h.nm.keep (k1 _ (by omega))
/-- x.ids = v; x.needs = v -/
theorem IxS.setIds (h : IxS w W fs oc nmd ids needs ko kn val xi xn) (v : Value) : IxS w (W.setCell ⟨w.heap.size + 2, 2, none⟩ v) fs oc nmd ids needs ko kn val v xn := by
  have hg : W.grownBy (W.setCell ⟨w.heap.size + 2, 2, none⟩ v) (some (w.heap.size + 2)) := ⟨rfl, rfl, rfl, by simp [World.setCell], fun k hk hne => Below.heap_setCell _ _ _ _ (fun e => hne (by rw [show k = w.heap.size + 2 from e]))⟩
  exact ⟨heap_setCell_same _ _ _ _ _ _ h.heap, h.of.grown hg (by simp), h.nm.grown hg (by simp), h.own.low hg (by omega), h.nko, h.nkn, h.zo, h.zn, h.noff, fun x hx => ⟨by rw [hg.block _ (lt_of_heap (h.fr x hx).1) (fun e => by have := Option.some.inj e; have := (h.fr x hx).2; omega)]; exact (h.fr x hx).1, (h.fr x hx).2⟩, h.below.setCell (by simp) _⟩
theorem IxS.setNeeds (h : IxS w W fs oc nmd ids needs ko kn val xi xn) (v : Value) : IxS w (W.setCell ⟨w.heap.size + 2, 3, none⟩ v) fs oc nmd ids needs ko kn val xi v := by
  have hg : W.grownBy (W.setCell ⟨w.heap.size + 2, 3, none⟩ v) (some (w.heap.size + 2)) := ⟨rfl, rfl, rfl, by simp [World.setCell], fun k hk hne => Below.heap_setCell _ _ _ _ (fun e => hne (by rw [show k = w.heap.size + 2 from e]))⟩
  exact ⟨heap_setCell_same _ _ _ _ _ _ h.heap, h.of.grown hg (by simp), h.nm.grown hg (by simp), h.own.low hg (by omega), h.nko, h.nkn, h.zo, h.zn, h.noff, fun x hx => ⟨by rw [hg.block _ (lt_of_heap (h.fr x hx).1) (fun e => by have := Option.some.inj e; have := (h.fr x hx).2; omega)]; exact (h.fr x hx).1, (h.fr x hx).2⟩, h.below.setCell (by simp) _⟩
/-- named[n] = append(named[n], p): behind the append -/
theorem IxS.putNm (h : IxS w W fs oc nmd ids needs ko kn val xi xn) (p : S47) (hp : p.f0.size ≤ maxLen) (v1 : Value) (hown : W1.ownsRow (w.heap.size + 3) 47 5 v1 ((nmd p.f0).length + 1) ((nmd p.f0).flatMap predC ++ predC p)) (hg : W.grownBy W1 (val (.inr (.inl p.f0))).ownBlock) (hat : v1.ownBlock = (val (.inr (.inl p.f0))).ownBlock ∨ ∃ b, v1.ownBlock = some b ∧ W.heap.size ≤ b)
    (hn1 : nmd' p.f0 = nmd p.f0 ++ [p]) (hn2 : ∀ n, n ≠ p.f0 → nmd' n = nmd n) :
    ∃ W2 val', (Instr.mapUpdate 51 (.map (some (w.heap.size + 1))) (.string p.f0) v1).run Try.prog W1 = .ok () W2 ∧ IxS w W2 fs oc nmd' ids needs ko (addK kn p.f0) val' xi xn ∧ (∀ t, t ≠ .inr (.inl p.f0) → val' t = val t) := by
  obtain ⟨k1, k2, k3⟩ := h.kept _ hg
  obtain ⟨val', e1, e2, ho⟩ := h.own.grow (.inr (.inl p.f0)) v1 (rowI oc nmd' ids needs) (by simpa [OwnR, rowI, hn1] using hown) (by rintro (q | n | b) ht; rfl; simp only [rowI]; rw [hn2 n (fun e => ht (by rw [e]))]; cases b <;> rfl) hg hat
  obtain ⟨l, hl⟩ := key_name p.f0 hp
  have hnm := h.nm.keep (k1 _ (show w.heap.size + 1 < w.heap.size + 3 by omega))
  have hof := h.of.keep (k1 _ (show w.heap.size < w.heap.size + 3 by omega))
  obtain ⟨W2, hrun, hg2, hcase⟩ := hnm.update lawN Try.underlying51 hl v1
  have hsz := h.size
  have hsz1 := hg.size
  refine ⟨W2, val', hrun, ⟨?_, ?_, ?_, ho.low hg2 (by omega), h.nko, addK_nodup h.nkn _, fun q hq => by rw [e2 _ (by simp)]; exact h.zo q hq, fun n hn => ?_, h.noff_put _ e2 (by rw [e1]; exact hat), fun x hx => ⟨by rw [hg2.block _ (lt_of_heap (k2 x hx).1) (fun e => by have := Option.some.inj e; have := (k2 x hx).2; omega)]; exact (k2 x hx).1, (k2 x hx).2⟩, k3.grown hg2 k3.size (fun k hk => by cases hk; omega)⟩, e2⟩
  · rw [hg2.block _ (by omega) (by simp), k1 _ (by omega)]
    exact h.heap
  · have : (ko.map fun p => (predV p, val' (.inl p))) = ko.map fun p => (predV p, val (.inl p)) := List.map_congr_left fun p _ => by rw [e2 _ (by simp)]
    rw [this]; exact hof.grown hg2 (by simp)
  · rcases hcase with ⟨h1, h2⟩ | ⟨j, v0, h1, h2⟩
    · have hnot : p.f0 ∉ kn := fun hm => h1 _ (List.mem_map.2 ⟨p.f0, hm, rfl⟩) rfl
      unfold addK
      rw [if_neg hnot, List.map_append, List.map_singleton, e1]
      have : (kn.map fun n => (Value.string n, val' (.inr (.inl n)))) = kn.map fun n => (Value.string n, val (.inr (.inl n))) := List.map_congr_left fun n hm => by rw [e2 _ (by simp; intro e; exact hnot (e ▸ hm))]
      rw [this]; exact h2
    · rw [List.getElem?_map, Option.map_eq_some_iff] at h1
      obtain ⟨q, hq, he⟩ := h1
      obtain ⟨e3, e4⟩ := Prod.mk.inj he
      injection e3 with e3
      subst e3
      have hm : p.f0 ∈ kn := List.mem_of_getElem? hq
      unfold addK
      rw [if_pos hm]
      have := map_set_nodup kn h.nkn (fun n => (Value.string n, val (.inr (.inl n)))) (fun n => (Value.string n, val' (.inr (.inl n)))) j p.f0 hq (fun x hx => by rw [e2 _ (by simpa using hx)])
      rw [← this, e1]; exact h2
  · have : n ∉ kn := fun hm => hn (addK_mem.2 (.inl hm))
    rw [e2 _ (by simp; intro e; exact hn (addK_mem.2 (.inr e)))]
    exact h.zn n this
/-- of[p] = append(of[p], k): ahead of the append -/
theorem IxS.entryOf (h : IxS w W fs oc nmd ids needs ko kn val xi xn) (p : S47) (hp : KeyOk p) (hz : (zeroValue 32).run Try.prog W = .ok (.slice none 0 0) W) :
    ∃ (W1 : World) (s j : Nat), (Instr.mapEntry 50 (.map (some w.heap.size)) (predV p)).run Try.prog W = .ok (.tuple #[val (.inl p), .int .i64 s]) W1 ∧ W.grownBy W1 (some w.heap.size) ∧ Stamp W1 w.heap.size j s ∧ (addK ko p)[j]? = some p ∧ IxS w W1 fs oc nmd ids needs (addK ko p) kn val xi xn := by
  obtain ⟨l, hl⟩ := key_pred p hp
  obtain ⟨W1, v, s, hrun, hg, hcase⟩ := h.of.entry lawP Try.underlying50 hz hl
  have hsz := h.size
  have base : ∀ ks : List S47, ks.Nodup → (∀ q, q ∉ ks → val (.inl q) = .slice none 0 0) → MapR Try.prog 47 W1 w.heap.size (ks.map fun p => (predV p, val (.inl p))) → IxS w W1 fs oc nmd ids needs ks kn val xi xn := fun ks hk hz hm =>
    ⟨by rw [hg.block _ (by omega) (by simp)]; exact h.heap, hm, h.nm.grown hg (by simp), h.own.low hg (by omega), hk, h.nkn, hz, h.zn, h.noff, fun x hx => ⟨by rw [hg.block _ (lt_of_heap (h.fr x hx).1) (fun e => by have := Option.some.inj e; have := (h.fr x hx).2; omega)]; exact (h.fr x hx).1, (h.fr x hx).2⟩, h.below.grown hg h.below.size (fun k hk => by cases hk; omega)⟩
  rcases hcase with ⟨h1, rfl, h2, h3⟩ | ⟨j, h1, h2, h3⟩
  · have hnot : p ∉ ko := fun hm => h1 _ (List.mem_map.2 ⟨p, hm, rfl⟩) rfl
    have ha : addK ko p = ko ++ [p] := by unfold addK; rw [if_neg hnot]
    refine ⟨W1, s, ko.length, by rw [hrun, h.zo p hnot], hg, by simpa using h3, by rw [ha]; simp, base _ (addK_nodup h.nko _) (fun q hq => h.zo q (fun hm => hq (addK_mem.2 (.inl hm)))) ?_⟩
    rw [ha, List.map_append, List.map_singleton, h.zo p hnot]
    exact h2
  · rw [List.getElem?_map, Option.map_eq_some_iff] at h1
    obtain ⟨q, hq, he⟩ := h1
    obtain ⟨e3, e4⟩ := Prod.mk.inj he
    obtain rfl := predV_inj e3
    have hm : q ∈ ko := List.mem_of_getElem? hq
    have ha : addK ko q = ko := by unfold addK; rw [if_pos hm]
    exact ⟨W1, s, j, by rw [hrun, ← e4], hg, h3, by rw [ha]; exact hq, by rw [ha]; exact base ko h.nko h.zo h2⟩
/-- .. behind the append -/
theorem IxS.putOf (h : IxS w W fs oc nmd ids needs ko kn val xi xn) (p : S47) (x : Int) {s j : Nat} (hs : Stamp W w.heap.size j s) (hj : ko[j]? = some p) (v1 : Value) (hown : W1.ownsRow (w.heap.size + 3) 3 1 v1 ((oc p).length + 1) (intsV (oc p) ++ [.int .i64 x])) (hg : W.grownBy W1 (val (.inl p)).ownBlock) (hat : v1.ownBlock = (val (.inl p)).ownBlock ∨ ∃ b, v1.ownBlock = some b ∧ W.heap.size ≤ b)
    (hn1 : oc' p = oc p ++ [x]) (hn2 : ∀ q, q ≠ p → oc' q = oc q) :
    ∃ W2 val', (Instr.entryStore 50 (.map (some w.heap.size)) (.int .i64 s) v1).run Try.prog W1 = .ok () W2 ∧ IxS w W2 fs oc' nmd ids needs ko kn val' xi xn ∧ (∀ t, t ≠ .inl p → val' t = val t) := by
  obtain ⟨k1, k2, k3⟩ := h.kept _ hg
  obtain ⟨val', e1, e2, ho⟩ := h.own.grow (.inl p) v1 (rowI oc' nmd ids needs) (by simpa [OwnR, rowI, hn1, intsV] using hown) (by rintro (q | n | b) ht; simp only [rowI]; rw [hn2 q (fun e => ht (by rw [e]))]; rfl; cases b <;> rfl) hg hat
  have hnm := h.nm.keep (k1 _ (show w.heap.size + 1 < w.heap.size + 3 by omega))
  have hof := h.of.keep (k1 _ (show w.heap.size < w.heap.size + 3 by omega))
  have hst := hs.keep (k1 _ (show w.heap.size < w.heap.size + 3 by omega))
  obtain ⟨W2, hrun, hg2, hmap⟩ := hof.entryStore (t := 50) hst (x := predV p) (v0 := val (.inl p)) (by rw [List.getElem?_map, hj]; rfl) v1
  have hsz := h.size
  have hsz1 := hg.size
  refine ⟨W2, val', hrun, ⟨?_, ?_, ?_, ho.low hg2 (by omega), h.nko, h.nkn, fun q hq => ?_, fun n hn => by rw [e2 _ (by simp)]; exact h.zn n hn, h.noff_put _ e2 (by rw [e1]; exact hat), fun x hx => ⟨by rw [hg2.block _ (lt_of_heap (k2 x hx).1) (fun e => by have := Option.some.inj e; have := (k2 x hx).2; omega)]; exact (k2 x hx).1, (k2 x hx).2⟩, k3.grown hg2 k3.size (fun k hk => by cases hk; omega)⟩, e2⟩
  · rw [hg2.block _ (by omega) (by simp), k1 _ (by omega)]
    exact h.heap
  · have := map_set_nodup ko h.nko (fun q => (predV q, val (.inl q))) (fun q => (predV q, val' (.inl q))) j p hj (fun x hx => by rw [e2 _ (by simpa using hx)])
    rw [← this, e1]; exact hmap
  · have : (kn.map fun n => (Value.string n, val' (.inr (.inl n)))) = kn.map fun n => (Value.string n, val (.inr (.inl n))) := List.map_congr_left fun p _ => by rw [e2 _ (by simp)]
    rw [this]; exact hnm.grown hg2 (by simp)
  · have : q ≠ p := fun e => hq (e ▸ List.mem_of_getElem? hj)
    rw [e2 _ (by simpa using this)]
    exact h.zo q hq
end
end Go.Proofs.Ytbcnknmgljdmlaa
end

section
/- index.Build, walked -/
set_option linter.unusedVariables false
set_option linter.unusedSimpArgs false
set_option autoImplicit false
namespace Go.Proofs.Ytbcnknmgljdmlaa
open Go Go.RowKit Go.Proofs.YtbcnknmgljdmlaaW.PrintWords Go.Proofs.YtbcnknmgljdmlaaW.PrintLast Go.Proofs.YtbcnknmgljdmlaaW.PrintMore Go.Proofs.Ytbcnknmgljdmlaa.G

/-! ### what is laid, pair by pair: an entry's place, and one of its predicates -/
def pairsFrom : Nat → List S41 → List (Int × S47)
  | _, [] => []
  | i, e :: l => e.f2.map (fun p => ((i : Int), p)) ++ pairsFrom (i + 1) l
theorem pairs_snoc (e : S41) : ∀ (l : List S41) (i : Nat), pairsFrom i (l ++ [e]) = pairsFrom i l ++ e.f2.map (fun p => (((i + l.length : Nat) : Int), p)) := by
  intro l
  induction l with
  | nil => intro i; simp [pairsFrom]
  | cons x l ih => intro i; simp [pairsFrom, ih]; intro a _; omega
def keysOf (q : List (Int × S47)) : List S47 := q.foldl (fun ks x => addK ks x.2) []
def namesIn (ks : List S47) : List ByteArray := ks.foldl (fun ns p => addK ns p.f0) []
def occ (q : List (Int × S47)) (p : S47) : List Int := (q.filter fun x => decide (x.2 = p)).map (·.1)
def named (ks : List S47) (n : ByteArray) : List S47 := ks.filter fun p => decide (p.f0 = n)
theorem keys_snoc (q : List (Int × S47)) (k : Int) (p : S47) : keysOf (q ++ [(k, p)]) = addK (keysOf q) p := by simp [keysOf, List.foldl_append]
theorem occ_same (q : List (Int × S47)) (k : Int) (p : S47) : occ (q ++ [(k, p)]) p = occ q p ++ [k] := by simp [occ]
theorem occ_other (q : List (Int × S47)) (k : Int) (p x : S47) (h : x ≠ p) : occ (q ++ [(k, p)]) x = occ q x := by
  have : ¬ p = x := fun e => h e.symm
  simp [occ, this]
theorem occ_len (q : List (Int × S47)) (p : S47) : (occ q p).length ≤ q.length := by
  unfold occ
  rw [List.length_map]
  exact List.length_filter_le _ _
theorem keys_len (q : List (Int × S47)) : (keysOf q).length ≤ q.length := by
  have h : ∀ (l : List (Int × S47)) (ks : List S47), (l.foldl (fun ks x => addK ks x.2) ks).length ≤ ks.length + l.length := by
    intro l
    induction l with
    | nil => intro ks; simp
    | cons x l ih =>
      intro ks
      have h1 := ih (addK ks x.2)
      have h2 : (addK ks x.2).length ≤ ks.length + 1 := by unfold addK; split <;> simp
      simp only [List.foldl_cons, List.length_cons]
      omega
  simpa [keysOf] using h q []
theorem named_len (ks : List S47) (n : ByteArray) : (named ks n).length ≤ ks.length := List.length_filter_le _ _
theorem named_same (ks : List S47) (p : S47) : named (ks ++ [p]) p.f0 = named ks p.f0 ++ [p] := by simp [named]
theorem named_other (ks : List S47) (p : S47) (n : ByteArray) (h : n ≠ p.f0) : named (ks ++ [p]) n = named ks n := by
  have : ¬ p.f0 = n := fun e => h e.symm
  simp [named, this]
theorem namesIn_snoc (ks : List S47) (p : S47) : namesIn (ks ++ [p]) = addK (namesIn ks) p.f0 := by simp [namesIn, List.foldl_append]
/-- where Build stands -/
structure IxQ (w W : World) (fs : List (Nat × Obj)) (q : List (Int × S47)) (ids needs : List Int) : Prop where
  ex : ∃ val, IxS w W fs (occ q) (named (keysOf q)) ids needs (keysOf q) (namesIn (keysOf q)) val (val (.inr (.inr true))) (val (.inr (.inr false)))
theorem own_slice {W : World} {base e sz n : Nat} {v : Value} {xs : List Value} (h : W.ownsRow base e sz v n xs) : ∃ A c, v = .slice A n c := by
  rcases h.2 with ⟨rfl, rfl⟩ | ⟨g, cap, cur, rfl, _⟩
  · exact ⟨none, 0, rfl⟩
  · exact ⟨_, _, rfl⟩
theorem cells4x {W : World} {b T : Nat} {a c d e : Value} (h : W.heap[b]? = some (.cells #[a, c, d, e] T (0, 0))) :
    (W.cell? ⟨b, 0, none⟩ = some a ∧ W.cell? ⟨b, 1, none⟩ = some c ∧ W.cell? ⟨b, 2, none⟩ = some d ∧ W.cell? ⟨b, 3, none⟩ = some e) ∧ W.frozen? ⟨b, 0, none⟩ = false ∧ W.frozen? ⟨b, 1, none⟩ = false ∧ W.frozen? ⟨b, 2, none⟩ = false ∧ W.frozen? ⟨b, 3, none⟩ = false :=
  ⟨⟨by rw [cell_of_row _ _ _ _ _ _ h]; rfl, by rw [cell_of_row _ _ _ _ _ _ h]; rfl, by rw [cell_of_row _ _ _ _ _ _ h]; rfl, by rw [cell_of_row _ _ _ _ _ _ h]; rfl⟩, frozen_of_row _ _ _ _ _ h, frozen_of_row _ _ _ _ _ h, frozen_of_row _ _ _ _ _ h, frozen_of_row _ _ _ _ _ h⟩
theorem cells3x {W : World} {b T : Nat} {a c d : Value} (h : W.heap[b]? = some (.cells #[a, c, d] T (0, 0))) :
    (W.cell? ⟨b, 0, none⟩ = some a ∧ W.cell? ⟨b, 1, none⟩ = some c ∧ W.cell? ⟨b, 2, none⟩ = some d) ∧ W.frozen? ⟨b, 0, none⟩ = false ∧ W.frozen? ⟨b, 1, none⟩ = false ∧ W.frozen? ⟨b, 2, none⟩ = false :=
  ⟨⟨by rw [cell_of_row _ _ _ _ _ _ h]; rfl, by rw [cell_of_row _ _ _ _ _ _ h]; rfl, by rw [cell_of_row _ _ _ _ _ _ h]; rfl⟩, frozen_of_row _ _ _ _ _ h, frozen_of_row _ _ _ _ _ h, frozen_of_row _ _ _ _ _ h⟩
theorem cells5x {W : World} {b T : Nat} {a c d e f : Value} (h : W.heap[b]? = some (.cells #[a, c, d, e, f] T (0, 0))) :
    W.cell? ⟨b, 0, none⟩ = some a ∧ W.cell? ⟨b, 1, none⟩ = some c ∧ W.cell? ⟨b, 2, none⟩ = some d ∧ W.cell? ⟨b, 3, none⟩ = some e ∧ W.cell? ⟨b, 4, none⟩ = some f :=
  ⟨by rw [cell_of_row _ _ _ _ _ _ h]; rfl, by rw [cell_of_row _ _ _ _ _ _ h]; rfl, by rw [cell_of_row _ _ _ _ _ _ h]; rfl, by rw [cell_of_row _ _ _ _ _ _ h]; rfl, by rw [cell_of_row _ _ _ _ _ _ h]; rfl⟩
theorem IxS.start (w : World) : IxS w (((w.alloc (.map #[] 0)).alloc (.map #[] 0)).alloc (.cells #[.map (some w.heap.size), .map (some (w.heap.size + 1)), .slice none 0 0, .slice none 0 0] 53)) [] (fun _ => []) (fun _ => []) [] [] [] [] (fun _ => .slice none 0 0) (.slice none 0 0) (.slice none 0 0) := by
  have b1 := (Below.refl w.heap.size w).alloc (Nat.le_refl _) (.map #[] 0)
  have b2 := b1.alloc b1.size (.map #[] 0)
  have b3 := b2.alloc b2.size (.cells #[.map (some w.heap.size), .map (some (w.heap.size + 1)), .slice none 0 0, .slice none 0 0] 53)
  have m1 := MapR.made w Try.prog 47
  have m2 := MapR.made (w.alloc (.map #[] 0)) Try.prog 9
  have s1 : (w.alloc (.map #[] 0)).heap.size = w.heap.size + 1 := by simp
  have c1 : Below (w.alloc (.map #[] 0)).heap.size (w.alloc (.map #[] 0)) ((w.alloc (.map #[] 0)).alloc (.map #[] 0)) := (Below.refl _ _).alloc (Nat.le_refl _) _
  have c2 : Below ((w.alloc (.map #[] 0)).alloc (.map #[] 0)).heap.size ((w.alloc (.map #[] 0)).alloc (.map #[] 0)) (((w.alloc (.map #[] 0)).alloc (.map #[] 0)).alloc (.cells #[.map (some w.heap.size), .map (some (w.heap.size + 1)), .slice none 0 0, .slice none 0 0] 53)) := (Below.refl _ _).alloc (Nat.le_refl _) _
  have hN := heap_alloc_new ((w.alloc (.map #[] 0)).alloc (.map #[] 0)) (.cells #[.map (some w.heap.size), .map (some (w.heap.size + 1)), .slice none 0 0, .slice none 0 0] 53)
  rw [s1] at m2
  refine ⟨by simpa using hN, (m1.below c1).below c2, m2.below c2, ⟨fun s => ?_, fun s t _ g hg => by simp [Value.ownBlock] at hg⟩, List.nodup_nil, List.nodup_nil, fun _ _ => rfl, fun _ _ => rfl, fun s g hg => by simp [Value.ownBlock] at hg, by simp, b3⟩
  rcases s with p | n | b
  · exact World.ownsRow_nil _ _ _ _
  · exact World.ownsRow_nil _ _ _ _
  · cases b <;> exact World.ownsRow_nil _ _ _ _
theorem ixs_eq {w W : World} {fs : List (Nat × Obj)} {oc : S47 → List Int} {nmd : ByteArray → List S47} {ids needs : List Int} {ko : List S47} {kn : List ByteArray} {val : Slot → Value} {xi xn xi' xn' : Value} (h : IxS w W fs oc nmd ids needs ko kn val xi xn) (e1 : xi = xi') (e2 : xn = xn') : IxS w W fs oc nmd ids needs ko kn val xi' xn' := by subst e1; subst e2; exact h
theorem below_cell {w W : World} (hb : Below w.heap.size w W) {p : Addr} {v : Value} (h : w.cell? p = some v) : W.cell? p = some v := (hb.cell (World.block_lt_of_cell? _ _ h)).trans h
theorem zeroSI (W : World) : (zeroValue 32).run Try.prog W = .ok (.slice none 0 0) W := by kernel_rfl
theorem zeroSP (W : World) : (zeroValue 39).run Try.prog W = .ok (.slice none 0 0) W := by kernel_rfl
theorem pairs_part (l : List S41) (k : Nat) : (pairsFrom 0 (l.take k)).length ≤ (pairsFrom 0 l).length := by
  have h : ∀ (l m : List S41) (i : Nat), (pairsFrom i l).length ≤ (pairsFrom i (l ++ m)).length := by
    intro l
    induction l with
    | nil => intro m i; simp [pairsFrom]
    | cons x l ih => intro m i; simp only [pairsFrom, List.cons_append, List.length_append]; have := ih m (i + 1); omega
  have := h (l.take k) (l.drop k) 0
  rwa [List.take_append_drop] at this
set_option maxRecDepth 100000 in
set_option maxHeartbeats 8000000 in
theorem wbuild (A0 : Option Addr) (c0 : Nat) (l : List S41) (w : World) (hr0 : Kd.C k41 w A0 l.length l) (hc0 : l.length ≤ c0) (hl : l.length ≤ 1000000) (hlf : (pairsFrom 0 l).length ≤ 1000000000) (hlf2 : ∀ e ∈ l, e.f2.length ≤ 1000000) (hk : ∀ e ∈ l, ∀ p ∈ e.f2, KeyOk p) :
    Calls Try.prog 10 #[.slice A0 l.length c0] w fun e w' => e = .returned (.pointer (some ⟨w.heap.size + 2, 0, none⟩)) ∧ IxQ w w' [] (pairsFrom 0 l) (l.map (·.f0)) (l.map fun e => (e.f2.length : Int)) := by
  have HR0 := Aside0.mk hr0
  have HK := Aside0.mk hk
  have HLF := Aside0.mk (And.intro hlf hlf2)
  have hlm := hr0.2.1
  clear hr0 hk hlf hlf2
  have HS0 := Aside0.mk (show IxQ w _ [] [] [] [] from ⟨_, IxS.start w⟩)
  have hmm := @run_makeMap Try.prog
  go_enter Try.func10, Try.ntmps10
  go_upto_region 2 with fail
  clear hmm
  generalize ((w.alloc (.map #[] 0)).alloc (.map #[] 0)).alloc (.cells #[.map (some w.heap.size), .map (some (w.heap.size + 1)), .slice none 0 0, .slice none 0 0] 53) = w1 at HS0 ⊢
  go_wp2_with fail
  go_loopw [16] (fun i wr => ∃ (k : Nat), k ≤ l.length ∧ i = .int .i64 k ∧ Aside0 (IxQ w wr [] (pairsFrom 0 (l.take k)) ((l.take k).map (·.f0)) ((l.take k).map fun e => (e.f2.length : Int)))) (fun i _ => l.length - (intOf i).toNat)
  case atStart => exact ⟨0, Nat.zero_le _, rfl, HS0⟩
  case round =>
    obtain ⟨k, hk, rfl, HQ⟩ := hrel
    clear HS0
    by_cases hlt : k < l.length
    case neg =>
      obtain rfl : k = l.length := by omega
      go_wp2_with fail
      go_ret
      exact ⟨rfl, by have h_ := HQ.out; rw [List.take_of_length_le (Nat.le_refl _)] at h_; exact h_⟩
    obtain ⟨val, hI0⟩ := HQ.out.ex
    have HI0 := Aside0.mk hI0
    clear hI0 HQ
    obtain ⟨ad, Af, cf, hA, h0, h1, h2, hlx, hCx⟩ := at_T41 HR0.out (k : Int) (by omega) (by omega)
    subst hA
    rw [Int.toNat_natCast] at h0 h1 h2
    replace h0 := below_cell HI0.out.below h0
    replace h1 := below_cell HI0.out.below h1
    replace h2 := below_cell HI0.out.below h2
    have hmem : rd_T41 l (k : Int) ∈ l := by simp [rd_T41, List.getD_eq_getElem?_getD, hlt]
    have htk : l.take (k + 1) = l.take k ++ [rd_T41 l (k : Int)] := by rw [List.take_add_one]; simp [rd_T41, List.getD_eq_getElem?_getD, hlt]
    have HKF := Aside0.mk (HK.out _ hmem)
    have HLX := Aside0.mk (HLF.out.2 _ hmem)
    obtain ⟨q0, hq0⟩ : ∃ q, q = pairsFrom 0 (l.take k) := ⟨_, rfl⟩
    obtain ⟨ids0, hid0⟩ : ∃ q, q = (l.take k).map (·.f0) := ⟨_, rfl⟩
    obtain ⟨needs0, hnd0⟩ : ∃ q, q = (l.take k).map (fun e => (e.f2.length : Int)) := ⟨_, rfl⟩
    have hps := pairs_snoc (rd_T41 l (k : Int)) (l.take k) 0
    have hlk : (l.take k).length = k := by rw [List.length_take]; omega
    rw [hlk, Nat.zero_add, ← htk, ← hq0] at hps
    have HTK := Aside0.mk (show pairsFrom 0 (l.take (k + 1)) = q0 ++ (rd_T41 l (k : Int)).f2.map (fun p => ((k : Int), p)) ∧ (l.take (k + 1)).map (·.f0) = ids0 ++ [(rd_T41 l (k : Int)).f0] ∧ (l.take (k + 1)).map (fun e => (e.f2.length : Int)) = needs0 ++ [((rd_T41 l (k : Int)).f2.length : Int)] from ⟨hps, by rw [htk, hid0]; simp, by rw [htk, hnd0]; simp⟩)
    have HLT := Aside0.mk (show q0.length + (rd_T41 l (k : Int)).f2.length ≤ 1000000000 by have h1 := pairs_part l (k + 1); rw [hps, List.length_append, List.length_map] at h1; have := HLF.out.1; omega)
    have HLI := Aside0.mk (show ids0.length ≤ 1000000 ∧ needs0.length ≤ 1000000 by rw [hid0, hnd0, List.length_map, List.length_map, hlk]; omega)
    rw [← hq0, ← hid0, ← hnd0] at HI0
    clear hps hmem htk hlk hq0 hid0 hnd0
    generalize rd_T41 l (k : Int) = e at h0 h1 h2 hlx hCx HKF HLX HTK HLT
    obtain ⟨f0, f1, f2⟩ := e
    simp only at h0 h1 h2 hlx hCx
    have hlf := hCx.2.1
    have HCF := Aside0.mk hCx
    clear hCx
    go_upto_region 5 with fail
    have HIc := Aside0.mk ((HI0.out.foreign (.cells #[.int .i64 f0, .int .i64 f1, .slice Af f2.length cf] 41 (0, 0))).step (below_drew (Below.refl _ _)))
    clear h0 h1 h2 HI0
    generalize wr.heap.size = eb at HIc ⊢
    obtain ⟨ids, hids⟩ : ∃ q, q = ids0 ++ [f0] := ⟨_, rfl⟩
    obtain ⟨needs, hneeds⟩ : ∃ q, q = needs0 ++ [(f2.length : Int)] := ⟨_, rfl⟩
    obtain ⟨xi, hxi⟩ : ∃ v, v = val (.inr (.inr true)) := ⟨_, rfl⟩
    obtain ⟨xn, hxn⟩ : ∃ v, v = val (.inr (.inr false)) := ⟨_, rfl⟩
    rw [← hxi, ← hxn] at HIc
    have HXI := Aside0.mk hxi
    have HXN := Aside0.mk hxn
    have HDS := Aside0.mk (And.intro hids hneeds)
    clear hxi hxn hids hneeds
    obtain ⟨wz, hwz⟩ : ∃ q, q = wr.alloc (.cells #[.int .i64 f0, .int .i64 f1, .slice Af f2.length cf] 41 (0, 0)) := ⟨_, rfl⟩
    rw [← hwz] at HIc ⊢
    clear hwz
    go_cut [21] from 21 to 43 (fun _ wx => Aside0 (IxQ w wx [(eb, (.cells #[.int .i64 f0, .int .i64 f1, .slice Af f2.length cf] 41 (0, 0)))] q0 ids needs))
    case first =>
      refine wp_region_D 21 (fun W => W.cell? ⟨w.heap.size + 2, 2, none⟩ = some xi ∧ W.cell? ⟨w.heap.size + 2, 3, none⟩ = some xn) (fun W => W.cell? ⟨eb, 0, none⟩ = some (.int .i64 f0) ∧ W.cell? ⟨eb, 2, none⟩ = some (.slice Af f2.length cf)) (by kernel_rfl) ⟨(cells4x HIc.out.heap).1.2.2.1, (cells4x HIc.out.heap).1.2.2.2⟩ ⟨(cells3x (HIc.out.fr (eb, (.cells #[.int .i64 f0, .int .i64 f1, .slice Af f2.length cf] 41 (0, 0))) (by simp)).1).1.1, (cells3x (HIc.out.fr (eb, (.cells #[.int .i64 f0, .int .i64 f1, .slice Af f2.length cf] 41 (0, 0))) (by simp)).1).1.2.2⟩ (fun hFq hHeld => ?_)
      have hFw := hFq (by kernel_rfl)
      clear hFq
      refine wpAnyD_takeS (i := 0) (oi := { dst := some 21, op := Op.move (Operand.tmp 3), type := 26, pos := "index.go:21", after := #[], guard := none }) (v := ?_) rfl (by kernel_rfl) (by kernel_rfl) (by kernel_rfl) (by decide) (fun _ _ _ h => h) (Or.inl ⟨by rfl, ?_⟩) (fun _ => by assumption) (by assumption) ?_
      rotate_left
      · intro w hSw
        try dsimp only at hSw
        go_simp
        all_goals with_reducible rfl
      try simp only [Act.put, List.setIfInBounds_toArray, List.set_cons_zero, List.set_cons_succ]
      refine wpAnyD_takeS (i := 1) (oi := { dst := some 22, op := Op.move (Operand.tmp 3), type := 26, pos := "index.go:21", after := #[{ on := 21, ground := Ground.gcOnly Departure.lateStores }], guard := none }) (v := ?_) rfl (by kernel_rfl) (by kernel_rfl) (by kernel_rfl) (by decide) (fun _ _ _ h => h) (Or.inl ⟨by rfl, ?_⟩) (fun _ => by assumption) (by assumption) ?_
      rotate_left
      · intro w hSw
        try dsimp only at hSw
        go_simp
        all_goals with_reducible rfl
      try simp only [Act.put, List.setIfInBounds_toArray, List.set_cons_zero, List.set_cons_succ]
      refine wpAnyD_takeS (i := 2) (oi := { dst := some 23, op := Op.move (Operand.tmp 3), type := 26, pos := "index.go:21", after := #[], guard := none }) (v := ?_) rfl (by kernel_rfl) (by kernel_rfl) (by kernel_rfl) (by decide) (fun _ _ _ h => h) (Or.inl ⟨by rfl, ?_⟩) (fun _ => by assumption) (by assumption) ?_
      rotate_left
      · intro w hSw
        try dsimp only at hSw
        go_simp
        all_goals with_reducible rfl
      try simp only [Act.put, List.setIfInBounds_toArray, List.set_cons_zero, List.set_cons_succ]
      refine wpAnyD_takeS (i := 3) (oi := { dst := some 24, op := Op.nilCheck (Operand.tmp 23), type := 0, pos := "index.go:21", after := #[{ on := 2, ground := Ground.data }], guard := none }) (v := ?_) rfl (by kernel_rfl) (by kernel_rfl) (by kernel_rfl) (by decide) (fun _ _ _ h => h) (Or.inl ⟨by rfl, ?_⟩) (fun _ => by assumption) (by assumption) ?_
      rotate_left
      · intro w hSw
        try dsimp only at hSw
        go_simp
        all_goals with_reducible rfl
      try simp only [Act.put, List.setIfInBounds_toArray, List.set_cons_zero, List.set_cons_succ]
      refine wpAnyD_takeS (i := 4) (oi := { dst := some 25, op := Op.fieldAddr 53 (Operand.tmp 24) 2, type := 0, pos := "index.go:21", after := #[{ on := 3, ground := Ground.data }], guard := none }) (v := ?_) rfl (by kernel_rfl) (by kernel_rfl) (by kernel_rfl) (by decide) (fun _ _ _ h => h) (Or.inl ⟨by rfl, ?_⟩) (fun _ => by assumption) (by assumption) ?_
      rotate_left
      · intro w hSw
        try dsimp only at hSw
        go_simp
        all_goals with_reducible rfl
      try simp only [Act.put, List.setIfInBounds_toArray, List.set_cons_zero, List.set_cons_succ]
      refine wpAnyD_takeF (i := 5) (oi := { dst := some 26, op := Op.load 32 (Operand.tmp 25), type := 32, pos := "index.go:21", after := #[{ on := 4, ground := Ground.data }], guard := none }) (v := ?_) rfl (by kernel_rfl) (by kernel_rfl) (by kernel_rfl) (by decide) (by kernel_rfl) (by kernel_rfl) (fun _ _ _ h => h) (Or.inl ⟨by rfl, ?_⟩) (fun _ => by assumption) (by assumption) ?_
      rotate_left
      · intro w hSw
        try dsimp only at hSw
        go_simp
        all_goals with_reducible rfl
      try simp only [Act.put, List.setIfInBounds_toArray, List.set_cons_zero, List.set_cons_succ]
      refine wpAnyD_takeS (i := 6) (oi := { dst := some 27, op := Op.fieldAddr 41 (Operand.tmp 5) 0, type := 0, pos := "index.go:21", after := #[], guard := none }) (v := ?_) rfl (by kernel_rfl) (by kernel_rfl) (by kernel_rfl) (by decide) (fun _ _ _ h => h) (Or.inl ⟨by rfl, ?_⟩) (fun _ => by assumption) (by assumption) ?_
      rotate_left
      · intro w hSw
        try dsimp only at hSw
        go_simp
        all_goals with_reducible rfl
      try simp only [Act.put, List.setIfInBounds_toArray, List.set_cons_zero, List.set_cons_succ]
      refine wpAnyD_takeS (i := 7) (oi := { dst := some 28, op := Op.load 3 (Operand.tmp 27), type := 3, pos := "index.go:21", after := #[{ on := 6, ground := Ground.data }], guard := none }) (v := ?_) rfl (by kernel_rfl) (by kernel_rfl) (by kernel_rfl) (by decide) (fun _ _ _ h => h) (Or.inl ⟨by rfl, ?_⟩) (fun _ => by assumption) (by assumption) ?_
      rotate_left
      · intro w hSw
        try dsimp only at hSw
        go_simp
        all_goals with_reducible rfl
      try simp only [Act.put, List.setIfInBounds_toArray, List.set_cons_zero, List.set_cons_succ]
      refine wpAnyD_takeS (i := 10) (oi := { dst := some 31, op := Op.move (Operand.tmp 3), type := 26, pos := "index.go:21", after := #[], guard := none }) (v := ?_) rfl (by kernel_rfl) (by kernel_rfl) (by kernel_rfl) (by decide) (fun _ _ _ h => h) (Or.inl ⟨by rfl, ?_⟩) (fun _ => by assumption) (by assumption) ?_
      rotate_left
      · intro w hSw
        try dsimp only at hSw
        go_simp
        all_goals with_reducible rfl
      try simp only [Act.put, List.setIfInBounds_toArray, List.set_cons_zero, List.set_cons_succ]
      refine wpAnyD_takeS (i := 11) (oi := { dst := some 32, op := Op.nilCheck (Operand.tmp 31), type := 0, pos := "index.go:21", after := #[{ on := 10, ground := Ground.data }], guard := none }) (v := ?_) rfl (by kernel_rfl) (by kernel_rfl) (by kernel_rfl) (by decide) (fun _ _ _ h => h) (Or.inl ⟨by rfl, ?_⟩) (fun _ => by assumption) (by assumption) ?_
      rotate_left
      · intro w hSw
        try dsimp only at hSw
        go_simp
        all_goals with_reducible rfl
      try simp only [Act.put, List.setIfInBounds_toArray, List.set_cons_zero, List.set_cons_succ]
      refine wpAnyD_takeS (i := 12) (oi := { dst := some 33, op := Op.fieldAddr 53 (Operand.tmp 32) 3, type := 0, pos := "index.go:21", after := #[{ on := 11, ground := Ground.data }], guard := none }) (v := ?_) rfl (by kernel_rfl) (by kernel_rfl) (by kernel_rfl) (by decide) (fun _ _ _ h => h) (Or.inl ⟨by rfl, ?_⟩) (fun _ => by assumption) (by assumption) ?_
      rotate_left
      · intro w hSw
        try dsimp only at hSw
        go_simp
        all_goals with_reducible rfl
      try simp only [Act.put, List.setIfInBounds_toArray, List.set_cons_zero, List.set_cons_succ]
      refine wpAnyD_takeF (i := 13) (oi := { dst := some 34, op := Op.load 32 (Operand.tmp 33), type := 32, pos := "index.go:21", after := #[{ on := 12, ground := Ground.data }], guard := none }) (v := ?_) rfl (by kernel_rfl) (by kernel_rfl) (by kernel_rfl) (by decide) (by kernel_rfl) (by kernel_rfl) (fun _ _ _ h => h) (Or.inl ⟨by rfl, ?_⟩) (fun _ => by assumption) (by assumption) ?_
      rotate_left
      · intro w hSw
        try dsimp only at hSw
        go_simp
        all_goals with_reducible rfl
      try simp only [Act.put, List.setIfInBounds_toArray, List.set_cons_zero, List.set_cons_succ]
      refine wpAnyD_takeS (i := 14) (oi := { dst := some 35, op := Op.fieldAddr 41 (Operand.tmp 5) 2, type := 0, pos := "index.go:21", after := #[], guard := none }) (v := ?_) rfl (by kernel_rfl) (by kernel_rfl) (by kernel_rfl) (by decide) (fun _ _ _ h => h) (Or.inl ⟨by rfl, ?_⟩) (fun _ => by assumption) (by assumption) ?_
      rotate_left
      · intro w hSw
        try dsimp only at hSw
        go_simp
        all_goals with_reducible rfl
      try simp only [Act.put, List.setIfInBounds_toArray, List.set_cons_zero, List.set_cons_succ]
      refine wpAnyD_takeS (i := 15) (oi := { dst := some 36, op := Op.load 39 (Operand.tmp 35), type := 39, pos := "index.go:21", after := #[{ on := 14, ground := Ground.data }], guard := none }) (v := ?_) rfl (by kernel_rfl) (by kernel_rfl) (by kernel_rfl) (by decide) (fun _ _ _ h => h) (Or.inl ⟨by rfl, ?_⟩) (fun _ => by assumption) (by assumption) ?_
      rotate_left
      · intro w hSw
        try dsimp only at hSw
        go_simp
        all_goals with_reducible rfl
      try simp only [Act.put, List.setIfInBounds_toArray, List.set_cons_zero, List.set_cons_succ]
      refine wpAnyD_takeS (i := 16) (oi := { dst := some 37, op := Op.call { callee := Callee.builtin Builtin.len, args := #[Operand.tmp 36], argTypes := #[39] }, type := 3, pos := "index.go:21", after := #[{ on := 15, ground := Ground.data }], guard := none }) (v := ?_) rfl (by kernel_rfl) (by kernel_rfl) (by kernel_rfl) (by decide) (fun _ _ _ h => h) (Or.inl ⟨by rfl, ?_⟩) (fun _ => by assumption) (by assumption) ?_
      rotate_left
      · intro w hSw
        try dsimp only at hSw
        go_simp
        all_goals with_reducible rfl
      try simp only [Act.put, List.setIfInBounds_toArray, List.set_cons_zero, List.set_cons_succ]
      refine wpAnyD_ready (rs := [8, 17]) (by kernel_rfl) (by simp) ?_
      refine AllReadyD.cons (o := { dst := some 29, op := Op.buildSlice 32 1 #[(0, Operand.tmp 28)], type := 32, pos := "index.go:21", after := #[{ on := 7, ground := Ground.data }], guard := none }) rfl (fun K hK => ?_) ?_
      · skip
        go_simp
        (have HId := Aside0.mk (HIc.out.foreign (.cells #[.int .i64 f0] 3 (0, 0))); clear HIc; have HIc := HId; clear HId)
        refine hK.out _ _ (fun _ => ⟨(cells4x HIc.out.heap).1.2.2.1, (cells4x HIc.out.heap).1.2.2.2⟩) ⟨(cells3x (HIc.out.fr (eb, (.cells #[.int .i64 f0, .int .i64 f1, .slice Af f2.length cf] 41 (0, 0))) (by simp)).1).1.1, (cells3x (HIc.out.fr (eb, (.cells #[.int .i64 f0, .int .i64 f1, .slice Af f2.length cf] 41 (0, 0))) (by simp)).1).1.2.2⟩ (fun hFq hHeld => ?_)
        clear hK K
        have hFw := hFq (by kernel_rfl)
        clear hFq
        try simp only [Act.put, List.setIfInBounds_toArray, List.set_cons_zero, List.set_cons_succ]
        refine wpAnyD_ready (rs := [9, 17]) (by kernel_rfl) (by simp) ?_
        refine AllReadyD.cons (o := { dst := some 30, op := Op.call { callee := Callee.builtin Builtin.append, args := #[Operand.tmp 26, Operand.tmp 29], argTypes := #[32, 32] }, type := 32, pos := "index.go:21", after := #[{ on := 5, ground := Ground.data }, { on := 8, ground := Ground.data }], guard := none }) rfl (fun K hK => ?_) ?_
        · skip
          (refine step_app1 (w.heap.size + 3) (by rfl) (.tmp 26) (.tmp 29) 32 3 _ 1 8 rfl Try.underlying32 info3 rfl (by decide) (by decide) xi ids0.length (intsV ids0) [.int .i64 f0] _ _ rfl rfl (HIc.out.fr (_, .cells #[.int .i64 f0] 3 (0, 0)) (by simp)).1 rfl (by simp [Value.oneCell']) (by have h_ := HIc.out.own.own (.inr (.inr true)); rw [← HXI.out] at h_; exact h_) HIc.out.size (by have := HLI.out; omega) ?_; intro v1 w1 hown hg hat; obtain ⟨A1, c1, rfl⟩ := own_slice hown; rw [HXI.out] at hg hat; obtain ⟨val1, e1, e2, hI⟩ := HIc.out.appIds f0 _ hown hg hat; have HId := Aside0.mk hI; have HV1 := Aside0.mk (And.intro e1 (e2 (.inr (.inr false)) (by simp))); clear HIc; have HIc := HId; clear HId; clear hown hg hat e1 e2 hI)
          refine hK.out _ _ (fun _ => ⟨(cells4x HIc.out.heap).1.2.2.1, (cells4x HIc.out.heap).1.2.2.2⟩) ⟨(cells3x (HIc.out.fr (eb, (.cells #[.int .i64 f0, .int .i64 f1, .slice Af f2.length cf] 41 (0, 0))) (by simp)).1).1.1, (cells3x (HIc.out.fr (eb, (.cells #[.int .i64 f0, .int .i64 f1, .slice Af f2.length cf] 41 (0, 0))) (by simp)).1).1.2.2⟩ (fun hFq hHeld => ?_)
          clear hK K
          have hFw := hFq (by kernel_rfl)
          clear hFq
          try simp only [Act.put, List.setIfInBounds_toArray, List.set_cons_zero, List.set_cons_succ]
          refine wpAnyD_ready (rs := [17]) (by kernel_rfl) (by simp) ?_
          refine AllReadyD.cons (o := { dst := some 38, op := Op.buildSlice 32 1 #[(0, Operand.tmp 37)], type := 32, pos := "index.go:21", after := #[{ on := 16, ground := Ground.data }], guard := none }) rfl (fun K hK => ?_) AllReadyD.nil
          go_simp
          (have HId := Aside0.mk (HIc.out.foreign (.cells #[.int .i64 (f2.length : Int)] 3 (0, 0))); clear HIc; have HIc := HId; clear HId)
          refine hK.out _ _ (fun _ => ⟨(cells4x HIc.out.heap).1.2.2.1, (cells4x HIc.out.heap).1.2.2.2⟩) ⟨(cells3x (HIc.out.fr (eb, (.cells #[.int .i64 f0, .int .i64 f1, .slice Af f2.length cf] 41 (0, 0))) (by simp)).1).1.1, (cells3x (HIc.out.fr (eb, (.cells #[.int .i64 f0, .int .i64 f1, .slice Af f2.length cf] 41 (0, 0))) (by simp)).1).1.2.2⟩ (fun hFq hHeld => ?_)
          clear hK K
          have hFw := hFq (by kernel_rfl)
          clear hFq
          try simp only [Act.put, List.setIfInBounds_toArray, List.set_cons_zero, List.set_cons_succ]
          refine wpAnyD_ready (rs := [18]) (by kernel_rfl) (by simp) ?_
          refine AllReadyD.cons (o := { dst := some 39, op := Op.call { callee := Callee.builtin Builtin.append, args := #[Operand.tmp 34, Operand.tmp 38], argTypes := #[32, 32] }, type := 32, pos := "index.go:21", after := #[{ on := 13, ground := Ground.data }, { on := 17, ground := Ground.data }, { on := 9, ground := Ground.chain }], guard := none }) rfl (fun K hK => ?_) AllReadyD.nil
          (refine step_app1 (w.heap.size + 3) (by rfl) (.tmp 34) (.tmp 38) 32 3 _ 1 8 rfl Try.underlying32 info3 rfl (by decide) (by decide) xn needs0.length (intsV needs0) [.int .i64 (f2.length : Int)] _ _ rfl rfl (HIc.out.fr (_, .cells #[.int .i64 (f2.length : Int)] 3 (0, 0)) (by simp)).1 rfl (by simp [Value.oneCell']) (by have h_ := HIc.out.own.own (.inr (.inr false)); rw [HV1.out.2, ← HXN.out] at h_; exact h_) HIc.out.size (by have := HLI.out; omega) ?_; intro v2 w2 hown hg hat; obtain ⟨A2, c2, rfl⟩ := own_slice hown; rw [HXN.out, ← HV1.out.2] at hg hat; obtain ⟨val2, e1, e2, hI⟩ := HIc.out.appNeeds (f2.length : Int) _ hown hg hat; have HId := Aside0.mk hI; have HV2 := Aside0.mk (And.intro e1 ((e2 (.inr (.inr true)) (by simp)).trans HV1.out.1)); clear HIc; have HIc := HId; clear HId; clear hown hg hat e1 e2 hI; obtain ⟨⟨z0, z1, z2, z3⟩, z4, z5, z6, z7⟩ := cells4x HIc.out.heap)
          refine hK.out _ _ (fun _ => ⟨(cells4x HIc.out.heap).1.2.2.1, (cells4x HIc.out.heap).1.2.2.2⟩) ⟨(cells3x (HIc.out.fr (eb, (.cells #[.int .i64 f0, .int .i64 f1, .slice Af f2.length cf] 41 (0, 0))) (by simp)).1).1.1, (cells3x (HIc.out.fr (eb, (.cells #[.int .i64 f0, .int .i64 f1, .slice Af f2.length cf] 41 (0, 0))) (by simp)).1).1.2.2⟩ (fun hFq hHeld => ?_)
          clear hK K
          have hFw := hFq (by kernel_rfl)
          clear hFq
          try simp only [Act.put, List.setIfInBounds_toArray, List.set_cons_zero, List.set_cons_succ]
          refine wpAnyD_takeS (i := 19) (oi := { dst := some 40, op := Op.nilCheck (Operand.tmp 21), type := 0, pos := "index.go:21", after := #[{ on := 0, ground := Ground.data }, { on := 0, ground := Ground.phase }, { on := 1, ground := Ground.textOnly Departure.lateStores }, { on := 2, ground := Ground.phase }, { on := 3, ground := Ground.phase }, { on := 4, ground := Ground.phase }, { on := 5, ground := Ground.phase }, { on := 6, ground := Ground.phase }, { on := 7, ground := Ground.phase }, { on := 8, ground := Ground.phase }, { on := 9, ground := Ground.phase }, { on := 10, ground := Ground.textOnly Departure.lateStores }, { on := 11, ground := Ground.textOnly Departure.lateStoresUnsure }, { on := 12, ground := Ground.textOnly Departure.lateStoresUnsure }, { on := 13, ground := Ground.phase }, { on := 14, ground := Ground.textOnly Departure.lateStores }, { on := 15, ground := Ground.textOnly Departure.lateStores }, { on := 16, ground := Ground.textOnly Departure.lateStoresUnsure }, { on := 17, ground := Ground.textOnly Departure.lateStoresUnsure }, { on := 18, ground := Ground.phase }], guard := none }) (v := ?_) rfl (by kernel_rfl) (by kernel_rfl) (by kernel_rfl) (by decide) (fun _ _ _ h => h) (Or.inl ⟨by rfl, ?_⟩) (fun _ => by assumption) (by assumption) ?_
          rotate_left
          · intro w hSw
            try dsimp only at hSw
            go_simp
            all_goals with_reducible rfl
          try simp only [Act.put, List.setIfInBounds_toArray, List.set_cons_zero, List.set_cons_succ]
          refine wpAnyD_takeS (i := 20) (oi := { dst := some 41, op := Op.fieldAddr 53 (Operand.tmp 40) 2, type := 0, pos := "index.go:21", after := #[{ on := 19, ground := Ground.data }, { on := 0, ground := Ground.phase }, { on := 1, ground := Ground.textOnly Departure.lateStores }, { on := 2, ground := Ground.phase }, { on := 3, ground := Ground.phase }, { on := 4, ground := Ground.phase }, { on := 5, ground := Ground.phase }, { on := 6, ground := Ground.phase }, { on := 7, ground := Ground.phase }, { on := 8, ground := Ground.phase }, { on := 9, ground := Ground.phase }, { on := 10, ground := Ground.textOnly Departure.lateStores }, { on := 11, ground := Ground.textOnly Departure.lateStoresUnsure }, { on := 12, ground := Ground.textOnly Departure.lateStoresUnsure }, { on := 13, ground := Ground.phase }, { on := 14, ground := Ground.textOnly Departure.lateStores }, { on := 15, ground := Ground.textOnly Departure.lateStores }, { on := 16, ground := Ground.textOnly Departure.lateStoresUnsure }, { on := 17, ground := Ground.textOnly Departure.lateStoresUnsure }, { on := 18, ground := Ground.phase }], guard := none }) (v := ?_) rfl (by kernel_rfl) (by kernel_rfl) (by kernel_rfl) (by decide) (fun _ _ _ h => h) (Or.inl ⟨by rfl, ?_⟩) (fun _ => by assumption) (by assumption) ?_
          rotate_left
          · intro w hSw
            try dsimp only at hSw
            go_simp
            all_goals with_reducible rfl
          try simp only [Act.put, List.setIfInBounds_toArray, List.set_cons_zero, List.set_cons_succ]
          refine wpAnyD_ready (rs := [21]) (by kernel_rfl) (by simp) ?_
          refine AllReadyD.cons (o := { dst := none, op := Op.store 32 (Operand.tmp 41) (Operand.tmp 30), type := 0, pos := "index.go:21", after := #[{ on := 20, ground := Ground.data }, { on := 9, ground := Ground.data }, { on := 18, ground := Ground.chain }, { on := 0, ground := Ground.phase }, { on := 1, ground := Ground.textOnly Departure.lateStores }, { on := 2, ground := Ground.phase }, { on := 3, ground := Ground.phase }, { on := 4, ground := Ground.phase }, { on := 5, ground := Ground.phase }, { on := 6, ground := Ground.phase }, { on := 7, ground := Ground.phase }, { on := 8, ground := Ground.phase }, { on := 9, ground := Ground.phase }, { on := 10, ground := Ground.textOnly Departure.lateStores }, { on := 11, ground := Ground.textOnly Departure.lateStoresUnsure }, { on := 12, ground := Ground.textOnly Departure.lateStoresUnsure }, { on := 13, ground := Ground.phase }, { on := 14, ground := Ground.textOnly Departure.lateStores }, { on := 15, ground := Ground.textOnly Departure.lateStores }, { on := 16, ground := Ground.textOnly Departure.lateStoresUnsure }, { on := 17, ground := Ground.textOnly Departure.lateStoresUnsure }, { on := 18, ground := Ground.phase }], guard := none }) rfl (fun K hK => ?_) AllReadyD.nil
          go_simp
          (have HId := Aside0.mk (HIc.out.setIds (.slice A1 (ids0.length + 1) c1)); clear HIc; have HIc := HId; clear HId; clear z0 z1 z2 z3 z4 z5 z6 z7; obtain ⟨⟨z0, z1, z2, z3⟩, z4, z5, z6, z7⟩ := cells4x HIc.out.heap)
          refine hK.out _ _ (fun h => Bool.noConfusion (h.symm.trans (show _ = true by kernel_rfl))) ⟨(cells3x (HIc.out.fr (eb, (.cells #[.int .i64 f0, .int .i64 f1, .slice Af f2.length cf] 41 (0, 0))) (by simp)).1).1.1, (cells3x (HIc.out.fr (eb, (.cells #[.int .i64 f0, .int .i64 f1, .slice Af f2.length cf] 41 (0, 0))) (by simp)).1).1.2.2⟩ (fun hFq hHeld => ?_)
          clear hK K hFq
          try clear hFw
          try simp only [Act.put, List.setIfInBounds_toArray, List.set_cons_zero, List.set_cons_succ]
          refine wpAnyD_takeS (i := 22) (oi := { dst := some 42, op := Op.nilCheck (Operand.tmp 22), type := 0, pos := "index.go:21", after := #[{ on := 1, ground := Ground.data }, { on := 0, ground := Ground.phase }, { on := 1, ground := Ground.phase }, { on := 2, ground := Ground.phase }, { on := 3, ground := Ground.phase }, { on := 4, ground := Ground.phase }, { on := 5, ground := Ground.phase }, { on := 6, ground := Ground.phase }, { on := 7, ground := Ground.phase }, { on := 8, ground := Ground.phase }, { on := 9, ground := Ground.phase }, { on := 10, ground := Ground.phase }, { on := 11, ground := Ground.phase }, { on := 12, ground := Ground.phase }, { on := 13, ground := Ground.phase }, { on := 14, ground := Ground.phase }, { on := 15, ground := Ground.phase }, { on := 16, ground := Ground.phase }, { on := 17, ground := Ground.phase }, { on := 18, ground := Ground.phase }, { on := 19, ground := Ground.phase }, { on := 20, ground := Ground.phase }, { on := 21, ground := Ground.phase }], guard := none }) (v := ?_) rfl (by kernel_rfl) (by kernel_rfl) (by kernel_rfl) (by decide) (fun _ _ _ h => h) (Or.inl ⟨by rfl, ?_⟩) (fun h => Bool.noConfusion (h.symm.trans (show _ = true by kernel_rfl))) (by assumption) ?_
          rotate_left
          · intro w hSw
            try dsimp only at hSw
            go_simp
            all_goals with_reducible rfl
          try simp only [Act.put, List.setIfInBounds_toArray, List.set_cons_zero, List.set_cons_succ]
          refine wpAnyD_takeS (i := 23) (oi := { dst := some 43, op := Op.fieldAddr 53 (Operand.tmp 42) 3, type := 0, pos := "index.go:21", after := #[{ on := 22, ground := Ground.data }, { on := 0, ground := Ground.phase }, { on := 1, ground := Ground.phase }, { on := 2, ground := Ground.phase }, { on := 3, ground := Ground.phase }, { on := 4, ground := Ground.phase }, { on := 5, ground := Ground.phase }, { on := 6, ground := Ground.phase }, { on := 7, ground := Ground.phase }, { on := 8, ground := Ground.phase }, { on := 9, ground := Ground.phase }, { on := 10, ground := Ground.phase }, { on := 11, ground := Ground.phase }, { on := 12, ground := Ground.phase }, { on := 13, ground := Ground.phase }, { on := 14, ground := Ground.phase }, { on := 15, ground := Ground.phase }, { on := 16, ground := Ground.phase }, { on := 17, ground := Ground.phase }, { on := 18, ground := Ground.phase }, { on := 19, ground := Ground.phase }, { on := 20, ground := Ground.phase }, { on := 21, ground := Ground.phase }], guard := none }) (v := ?_) rfl (by kernel_rfl) (by kernel_rfl) (by kernel_rfl) (by decide) (fun _ _ _ h => h) (Or.inl ⟨by rfl, ?_⟩) (fun h => Bool.noConfusion (h.symm.trans (show _ = true by kernel_rfl))) (by assumption) ?_
          rotate_left
          · intro w hSw
            try dsimp only at hSw
            go_simp
            all_goals with_reducible rfl
          try simp only [Act.put, List.setIfInBounds_toArray, List.set_cons_zero, List.set_cons_succ]
          refine wpAnyD_ready (rs := [24]) (by kernel_rfl) (by simp) ?_
          refine AllReadyD.cons (o := { dst := none, op := Op.store 32 (Operand.tmp 43) (Operand.tmp 39), type := 0, pos := "index.go:21", after := #[{ on := 23, ground := Ground.data }, { on := 18, ground := Ground.data }, { on := 21, ground := Ground.chain }, { on := 0, ground := Ground.phase }, { on := 1, ground := Ground.phase }, { on := 2, ground := Ground.phase }, { on := 3, ground := Ground.phase }, { on := 4, ground := Ground.phase }, { on := 5, ground := Ground.phase }, { on := 6, ground := Ground.phase }, { on := 7, ground := Ground.phase }, { on := 8, ground := Ground.phase }, { on := 9, ground := Ground.phase }, { on := 10, ground := Ground.phase }, { on := 11, ground := Ground.phase }, { on := 12, ground := Ground.phase }, { on := 13, ground := Ground.phase }, { on := 14, ground := Ground.phase }, { on := 15, ground := Ground.phase }, { on := 16, ground := Ground.phase }, { on := 17, ground := Ground.phase }, { on := 18, ground := Ground.phase }, { on := 19, ground := Ground.phase }, { on := 20, ground := Ground.phase }, { on := 21, ground := Ground.phase }], guard := none }) rfl (fun K hK => ?_) AllReadyD.nil
          go_simp
          (have HId := Aside0.mk (HIc.out.setNeeds (.slice A2 (needs0.length + 1) c2)); clear HIc; have HIc := HId; clear HId; clear z0 z1 z2 z3 z4 z5 z6 z7)
          refine hK.out _ _ (fun h => Bool.noConfusion (h.symm.trans (show _ = true by kernel_rfl))) ⟨(cells3x (HIc.out.fr (eb, (.cells #[.int .i64 f0, .int .i64 f1, .slice Af f2.length cf] 41 (0, 0))) (by simp)).1).1.1, (cells3x (HIc.out.fr (eb, (.cells #[.int .i64 f0, .int .i64 f1, .slice Af f2.length cf] 41 (0, 0))) (by simp)).1).1.2.2⟩ (fun hFq hHeld => ?_)
          clear hK K hFq
          try clear hFw
          try simp only [Act.put, List.setIfInBounds_toArray, List.set_cons_zero, List.set_cons_succ]
          refine wpAnyD_done (by kernel_rfl) ?_ _
          have HQ := Aside0.mk (show IxQ w _ _ q0 _ _ from ⟨val2, ixs_eq (HIc.out.drop (fs' := [(eb, (.cells #[.int .i64 f0, .int .i64 f1, .slice Af f2.length cf] 41 (0, 0)))]) (by simp)) HV2.out.2.symm HV2.out.1.symm⟩)
          clear HIc HV1 HV2
          rw [← HDS.out.1, ← HDS.out.2] at HQ
          go_wp2_with fail
          go_meet
          exact HQ
        refine AllReadyD.cons (o := { dst := some 38, op := Op.buildSlice 32 1 #[(0, Operand.tmp 37)], type := 32, pos := "index.go:21", after := #[{ on := 16, ground := Ground.data }], guard := none }) rfl (fun K hK => ?_) AllReadyD.nil
        go_simp
        (have HId := Aside0.mk (HIc.out.foreign (.cells #[.int .i64 (f2.length : Int)] 3 (0, 0))); clear HIc; have HIc := HId; clear HId)
        refine hK.out _ _ (fun _ => ⟨(cells4x HIc.out.heap).1.2.2.1, (cells4x HIc.out.heap).1.2.2.2⟩) ⟨(cells3x (HIc.out.fr (eb, (.cells #[.int .i64 f0, .int .i64 f1, .slice Af f2.length cf] 41 (0, 0))) (by simp)).1).1.1, (cells3x (HIc.out.fr (eb, (.cells #[.int .i64 f0, .int .i64 f1, .slice Af f2.length cf] 41 (0, 0))) (by simp)).1).1.2.2⟩ (fun hFq hHeld => ?_)
        clear hK K
        have hFw := hFq (by kernel_rfl)
        clear hFq
        try simp only [Act.put, List.setIfInBounds_toArray, List.set_cons_zero, List.set_cons_succ]
        refine wpAnyD_ready (rs := [9]) (by kernel_rfl) (by simp) ?_
        refine AllReadyD.cons (o := { dst := some 30, op := Op.call { callee := Callee.builtin Builtin.append, args := #[Operand.tmp 26, Operand.tmp 29], argTypes := #[32, 32] }, type := 32, pos := "index.go:21", after := #[{ on := 5, ground := Ground.data }, { on := 8, ground := Ground.data }], guard := none }) rfl (fun K hK => ?_) AllReadyD.nil
        (refine step_app1 (w.heap.size + 3) (by rfl) (.tmp 26) (.tmp 29) 32 3 _ 1 8 rfl Try.underlying32 info3 rfl (by decide) (by decide) xi ids0.length (intsV ids0) [.int .i64 f0] _ _ rfl rfl (HIc.out.fr (_, .cells #[.int .i64 f0] 3 (0, 0)) (by simp)).1 rfl (by simp [Value.oneCell']) (by have h_ := HIc.out.own.own (.inr (.inr true)); rw [← HXI.out] at h_; exact h_) HIc.out.size (by have := HLI.out; omega) ?_; intro v1 w1 hown hg hat; obtain ⟨A1, c1, rfl⟩ := own_slice hown; rw [HXI.out] at hg hat; obtain ⟨val1, e1, e2, hI⟩ := HIc.out.appIds f0 _ hown hg hat; have HId := Aside0.mk hI; have HV1 := Aside0.mk (And.intro e1 (e2 (.inr (.inr false)) (by simp))); clear HIc; have HIc := HId; clear HId; clear hown hg hat e1 e2 hI)
        refine hK.out _ _ (fun _ => ⟨(cells4x HIc.out.heap).1.2.2.1, (cells4x HIc.out.heap).1.2.2.2⟩) ⟨(cells3x (HIc.out.fr (eb, (.cells #[.int .i64 f0, .int .i64 f1, .slice Af f2.length cf] 41 (0, 0))) (by simp)).1).1.1, (cells3x (HIc.out.fr (eb, (.cells #[.int .i64 f0, .int .i64 f1, .slice Af f2.length cf] 41 (0, 0))) (by simp)).1).1.2.2⟩ (fun hFq hHeld => ?_)
        clear hK K
        have hFw := hFq (by kernel_rfl)
        clear hFq
        try simp only [Act.put, List.setIfInBounds_toArray, List.set_cons_zero, List.set_cons_succ]
        refine wpAnyD_ready (rs := [18]) (by kernel_rfl) (by simp) ?_
        refine AllReadyD.cons (o := { dst := some 39, op := Op.call { callee := Callee.builtin Builtin.append, args := #[Operand.tmp 34, Operand.tmp 38], argTypes := #[32, 32] }, type := 32, pos := "index.go:21", after := #[{ on := 13, ground := Ground.data }, { on := 17, ground := Ground.data }, { on := 9, ground := Ground.chain }], guard := none }) rfl (fun K hK => ?_) AllReadyD.nil
        (refine step_app1 (w.heap.size + 3) (by rfl) (.tmp 34) (.tmp 38) 32 3 _ 1 8 rfl Try.underlying32 info3 rfl (by decide) (by decide) xn needs0.length (intsV needs0) [.int .i64 (f2.length : Int)] _ _ rfl rfl (HIc.out.fr (_, .cells #[.int .i64 (f2.length : Int)] 3 (0, 0)) (by simp)).1 rfl (by simp [Value.oneCell']) (by have h_ := HIc.out.own.own (.inr (.inr false)); rw [HV1.out.2, ← HXN.out] at h_; exact h_) HIc.out.size (by have := HLI.out; omega) ?_; intro v2 w2 hown hg hat; obtain ⟨A2, c2, rfl⟩ := own_slice hown; rw [HXN.out, ← HV1.out.2] at hg hat; obtain ⟨val2, e1, e2, hI⟩ := HIc.out.appNeeds (f2.length : Int) _ hown hg hat; have HId := Aside0.mk hI; have HV2 := Aside0.mk (And.intro e1 ((e2 (.inr (.inr true)) (by simp)).trans HV1.out.1)); clear HIc; have HIc := HId; clear HId; clear hown hg hat e1 e2 hI; obtain ⟨⟨z0, z1, z2, z3⟩, z4, z5, z6, z7⟩ := cells4x HIc.out.heap)
        refine hK.out _ _ (fun _ => ⟨(cells4x HIc.out.heap).1.2.2.1, (cells4x HIc.out.heap).1.2.2.2⟩) ⟨(cells3x (HIc.out.fr (eb, (.cells #[.int .i64 f0, .int .i64 f1, .slice Af f2.length cf] 41 (0, 0))) (by simp)).1).1.1, (cells3x (HIc.out.fr (eb, (.cells #[.int .i64 f0, .int .i64 f1, .slice Af f2.length cf] 41 (0, 0))) (by simp)).1).1.2.2⟩ (fun hFq hHeld => ?_)
        clear hK K
        have hFw := hFq (by kernel_rfl)
        clear hFq
        try simp only [Act.put, List.setIfInBounds_toArray, List.set_cons_zero, List.set_cons_succ]
        refine wpAnyD_takeS (i := 19) (oi := { dst := some 40, op := Op.nilCheck (Operand.tmp 21), type := 0, pos := "index.go:21", after := #[{ on := 0, ground := Ground.data }, { on := 0, ground := Ground.phase }, { on := 1, ground := Ground.textOnly Departure.lateStores }, { on := 2, ground := Ground.phase }, { on := 3, ground := Ground.phase }, { on := 4, ground := Ground.phase }, { on := 5, ground := Ground.phase }, { on := 6, ground := Ground.phase }, { on := 7, ground := Ground.phase }, { on := 8, ground := Ground.phase }, { on := 9, ground := Ground.phase }, { on := 10, ground := Ground.textOnly Departure.lateStores }, { on := 11, ground := Ground.textOnly Departure.lateStoresUnsure }, { on := 12, ground := Ground.textOnly Departure.lateStoresUnsure }, { on := 13, ground := Ground.phase }, { on := 14, ground := Ground.textOnly Departure.lateStores }, { on := 15, ground := Ground.textOnly Departure.lateStores }, { on := 16, ground := Ground.textOnly Departure.lateStoresUnsure }, { on := 17, ground := Ground.textOnly Departure.lateStoresUnsure }, { on := 18, ground := Ground.phase }], guard := none }) (v := ?_) rfl (by kernel_rfl) (by kernel_rfl) (by kernel_rfl) (by decide) (fun _ _ _ h => h) (Or.inl ⟨by rfl, ?_⟩) (fun _ => by assumption) (by assumption) ?_
        rotate_left
        · intro w hSw
          try dsimp only at hSw
          go_simp
          all_goals with_reducible rfl
        try simp only [Act.put, List.setIfInBounds_toArray, List.set_cons_zero, List.set_cons_succ]
        refine wpAnyD_takeS (i := 20) (oi := { dst := some 41, op := Op.fieldAddr 53 (Operand.tmp 40) 2, type := 0, pos := "index.go:21", after := #[{ on := 19, ground := Ground.data }, { on := 0, ground := Ground.phase }, { on := 1, ground := Ground.textOnly Departure.lateStores }, { on := 2, ground := Ground.phase }, { on := 3, ground := Ground.phase }, { on := 4, ground := Ground.phase }, { on := 5, ground := Ground.phase }, { on := 6, ground := Ground.phase }, { on := 7, ground := Ground.phase }, { on := 8, ground := Ground.phase }, { on := 9, ground := Ground.phase }, { on := 10, ground := Ground.textOnly Departure.lateStores }, { on := 11, ground := Ground.textOnly Departure.lateStoresUnsure }, { on := 12, ground := Ground.textOnly Departure.lateStoresUnsure }, { on := 13, ground := Ground.phase }, { on := 14, ground := Ground.textOnly Departure.lateStores }, { on := 15, ground := Ground.textOnly Departure.lateStores }, { on := 16, ground := Ground.textOnly Departure.lateStoresUnsure }, { on := 17, ground := Ground.textOnly Departure.lateStoresUnsure }, { on := 18, ground := Ground.phase }], guard := none }) (v := ?_) rfl (by kernel_rfl) (by kernel_rfl) (by kernel_rfl) (by decide) (fun _ _ _ h => h) (Or.inl ⟨by rfl, ?_⟩) (fun _ => by assumption) (by assumption) ?_
        rotate_left
        · intro w hSw
          try dsimp only at hSw
          go_simp
          all_goals with_reducible rfl
        try simp only [Act.put, List.setIfInBounds_toArray, List.set_cons_zero, List.set_cons_succ]
        refine wpAnyD_ready (rs := [21]) (by kernel_rfl) (by simp) ?_
        refine AllReadyD.cons (o := { dst := none, op := Op.store 32 (Operand.tmp 41) (Operand.tmp 30), type := 0, pos := "index.go:21", after := #[{ on := 20, ground := Ground.data }, { on := 9, ground := Ground.data }, { on := 18, ground := Ground.chain }, { on := 0, ground := Ground.phase }, { on := 1, ground := Ground.textOnly Departure.lateStores }, { on := 2, ground := Ground.phase }, { on := 3, ground := Ground.phase }, { on := 4, ground := Ground.phase }, { on := 5, ground := Ground.phase }, { on := 6, ground := Ground.phase }, { on := 7, ground := Ground.phase }, { on := 8, ground := Ground.phase }, { on := 9, ground := Ground.phase }, { on := 10, ground := Ground.textOnly Departure.lateStores }, { on := 11, ground := Ground.textOnly Departure.lateStoresUnsure }, { on := 12, ground := Ground.textOnly Departure.lateStoresUnsure }, { on := 13, ground := Ground.phase }, { on := 14, ground := Ground.textOnly Departure.lateStores }, { on := 15, ground := Ground.textOnly Departure.lateStores }, { on := 16, ground := Ground.textOnly Departure.lateStoresUnsure }, { on := 17, ground := Ground.textOnly Departure.lateStoresUnsure }, { on := 18, ground := Ground.phase }], guard := none }) rfl (fun K hK => ?_) AllReadyD.nil
        go_simp
        (have HId := Aside0.mk (HIc.out.setIds (.slice A1 (ids0.length + 1) c1)); clear HIc; have HIc := HId; clear HId; clear z0 z1 z2 z3 z4 z5 z6 z7; obtain ⟨⟨z0, z1, z2, z3⟩, z4, z5, z6, z7⟩ := cells4x HIc.out.heap)
        refine hK.out _ _ (fun h => Bool.noConfusion (h.symm.trans (show _ = true by kernel_rfl))) ⟨(cells3x (HIc.out.fr (eb, (.cells #[.int .i64 f0, .int .i64 f1, .slice Af f2.length cf] 41 (0, 0))) (by simp)).1).1.1, (cells3x (HIc.out.fr (eb, (.cells #[.int .i64 f0, .int .i64 f1, .slice Af f2.length cf] 41 (0, 0))) (by simp)).1).1.2.2⟩ (fun hFq hHeld => ?_)
        clear hK K hFq
        try clear hFw
        try simp only [Act.put, List.setIfInBounds_toArray, List.set_cons_zero, List.set_cons_succ]
        refine wpAnyD_takeS (i := 22) (oi := { dst := some 42, op := Op.nilCheck (Operand.tmp 22), type := 0, pos := "index.go:21", after := #[{ on := 1, ground := Ground.data }, { on := 0, ground := Ground.phase }, { on := 1, ground := Ground.phase }, { on := 2, ground := Ground.phase }, { on := 3, ground := Ground.phase }, { on := 4, ground := Ground.phase }, { on := 5, ground := Ground.phase }, { on := 6, ground := Ground.phase }, { on := 7, ground := Ground.phase }, { on := 8, ground := Ground.phase }, { on := 9, ground := Ground.phase }, { on := 10, ground := Ground.phase }, { on := 11, ground := Ground.phase }, { on := 12, ground := Ground.phase }, { on := 13, ground := Ground.phase }, { on := 14, ground := Ground.phase }, { on := 15, ground := Ground.phase }, { on := 16, ground := Ground.phase }, { on := 17, ground := Ground.phase }, { on := 18, ground := Ground.phase }, { on := 19, ground := Ground.phase }, { on := 20, ground := Ground.phase }, { on := 21, ground := Ground.phase }], guard := none }) (v := ?_) rfl (by kernel_rfl) (by kernel_rfl) (by kernel_rfl) (by decide) (fun _ _ _ h => h) (Or.inl ⟨by rfl, ?_⟩) (fun h => Bool.noConfusion (h.symm.trans (show _ = true by kernel_rfl))) (by assumption) ?_
        rotate_left
        · intro w hSw
          try dsimp only at hSw
          go_simp
          all_goals with_reducible rfl
        try simp only [Act.put, List.setIfInBounds_toArray, List.set_cons_zero, List.set_cons_succ]
        refine wpAnyD_takeS (i := 23) (oi := { dst := some 43, op := Op.fieldAddr 53 (Operand.tmp 42) 3, type := 0, pos := "index.go:21", after := #[{ on := 22, ground := Ground.data }, { on := 0, ground := Ground.phase }, { on := 1, ground := Ground.phase }, { on := 2, ground := Ground.phase }, { on := 3, ground := Ground.phase }, { on := 4, ground := Ground.phase }, { on := 5, ground := Ground.phase }, { on := 6, ground := Ground.phase }, { on := 7, ground := Ground.phase }, { on := 8, ground := Ground.phase }, { on := 9, ground := Ground.phase }, { on := 10, ground := Ground.phase }, { on := 11, ground := Ground.phase }, { on := 12, ground := Ground.phase }, { on := 13, ground := Ground.phase }, { on := 14, ground := Ground.phase }, { on := 15, ground := Ground.phase }, { on := 16, ground := Ground.phase }, { on := 17, ground := Ground.phase }, { on := 18, ground := Ground.phase }, { on := 19, ground := Ground.phase }, { on := 20, ground := Ground.phase }, { on := 21, ground := Ground.phase }], guard := none }) (v := ?_) rfl (by kernel_rfl) (by kernel_rfl) (by kernel_rfl) (by decide) (fun _ _ _ h => h) (Or.inl ⟨by rfl, ?_⟩) (fun h => Bool.noConfusion (h.symm.trans (show _ = true by kernel_rfl))) (by assumption) ?_
        rotate_left
        · intro w hSw
          try dsimp only at hSw
          go_simp
          all_goals with_reducible rfl
        try simp only [Act.put, List.setIfInBounds_toArray, List.set_cons_zero, List.set_cons_succ]
        refine wpAnyD_ready (rs := [24]) (by kernel_rfl) (by simp) ?_
        refine AllReadyD.cons (o := { dst := none, op := Op.store 32 (Operand.tmp 43) (Operand.tmp 39), type := 0, pos := "index.go:21", after := #[{ on := 23, ground := Ground.data }, { on := 18, ground := Ground.data }, { on := 21, ground := Ground.chain }, { on := 0, ground := Ground.phase }, { on := 1, ground := Ground.phase }, { on := 2, ground := Ground.phase }, { on := 3, ground := Ground.phase }, { on := 4, ground := Ground.phase }, { on := 5, ground := Ground.phase }, { on := 6, ground := Ground.phase }, { on := 7, ground := Ground.phase }, { on := 8, ground := Ground.phase }, { on := 9, ground := Ground.phase }, { on := 10, ground := Ground.phase }, { on := 11, ground := Ground.phase }, { on := 12, ground := Ground.phase }, { on := 13, ground := Ground.phase }, { on := 14, ground := Ground.phase }, { on := 15, ground := Ground.phase }, { on := 16, ground := Ground.phase }, { on := 17, ground := Ground.phase }, { on := 18, ground := Ground.phase }, { on := 19, ground := Ground.phase }, { on := 20, ground := Ground.phase }, { on := 21, ground := Ground.phase }], guard := none }) rfl (fun K hK => ?_) AllReadyD.nil
        go_simp
        (have HId := Aside0.mk (HIc.out.setNeeds (.slice A2 (needs0.length + 1) c2)); clear HIc; have HIc := HId; clear HId; clear z0 z1 z2 z3 z4 z5 z6 z7)
        refine hK.out _ _ (fun h => Bool.noConfusion (h.symm.trans (show _ = true by kernel_rfl))) ⟨(cells3x (HIc.out.fr (eb, (.cells #[.int .i64 f0, .int .i64 f1, .slice Af f2.length cf] 41 (0, 0))) (by simp)).1).1.1, (cells3x (HIc.out.fr (eb, (.cells #[.int .i64 f0, .int .i64 f1, .slice Af f2.length cf] 41 (0, 0))) (by simp)).1).1.2.2⟩ (fun hFq hHeld => ?_)
        clear hK K hFq
        try clear hFw
        try simp only [Act.put, List.setIfInBounds_toArray, List.set_cons_zero, List.set_cons_succ]
        refine wpAnyD_done (by kernel_rfl) ?_ _
        have HQ := Aside0.mk (show IxQ w _ _ q0 _ _ from ⟨val2, ixs_eq (HIc.out.drop (fs' := [(eb, (.cells #[.int .i64 f0, .int .i64 f1, .slice Af f2.length cf] 41 (0, 0)))]) (by simp)) HV2.out.2.symm HV2.out.1.symm⟩)
        clear HIc HV1 HV2
        rw [← HDS.out.1, ← HDS.out.2] at HQ
        go_wp2_with fail
        go_meet
        exact HQ
      refine AllReadyD.cons (o := { dst := some 38, op := Op.buildSlice 32 1 #[(0, Operand.tmp 37)], type := 32, pos := "index.go:21", after := #[{ on := 16, ground := Ground.data }], guard := none }) rfl (fun K hK => ?_) AllReadyD.nil
      go_simp
      (have HId := Aside0.mk (HIc.out.foreign (.cells #[.int .i64 (f2.length : Int)] 3 (0, 0))); clear HIc; have HIc := HId; clear HId)
      refine hK.out _ _ (fun _ => ⟨(cells4x HIc.out.heap).1.2.2.1, (cells4x HIc.out.heap).1.2.2.2⟩) ⟨(cells3x (HIc.out.fr (eb, (.cells #[.int .i64 f0, .int .i64 f1, .slice Af f2.length cf] 41 (0, 0))) (by simp)).1).1.1, (cells3x (HIc.out.fr (eb, (.cells #[.int .i64 f0, .int .i64 f1, .slice Af f2.length cf] 41 (0, 0))) (by simp)).1).1.2.2⟩ (fun hFq hHeld => ?_)
      clear hK K
      have hFw := hFq (by kernel_rfl)
      clear hFq
      try simp only [Act.put, List.setIfInBounds_toArray, List.set_cons_zero, List.set_cons_succ]
      refine wpAnyD_ready (rs := [8]) (by kernel_rfl) (by simp) ?_
      refine AllReadyD.cons (o := { dst := some 29, op := Op.buildSlice 32 1 #[(0, Operand.tmp 28)], type := 32, pos := "index.go:21", after := #[{ on := 7, ground := Ground.data }], guard := none }) rfl (fun K hK => ?_) AllReadyD.nil
      go_simp
      (have HId := Aside0.mk (HIc.out.foreign (.cells #[.int .i64 f0] 3 (0, 0))); clear HIc; have HIc := HId; clear HId)
      refine hK.out _ _ (fun _ => ⟨(cells4x HIc.out.heap).1.2.2.1, (cells4x HIc.out.heap).1.2.2.2⟩) ⟨(cells3x (HIc.out.fr (eb, (.cells #[.int .i64 f0, .int .i64 f1, .slice Af f2.length cf] 41 (0, 0))) (by simp)).1).1.1, (cells3x (HIc.out.fr (eb, (.cells #[.int .i64 f0, .int .i64 f1, .slice Af f2.length cf] 41 (0, 0))) (by simp)).1).1.2.2⟩ (fun hFq hHeld => ?_)
      clear hK K
      have hFw := hFq (by kernel_rfl)
      clear hFq
      try simp only [Act.put, List.setIfInBounds_toArray, List.set_cons_zero, List.set_cons_succ]
      refine wpAnyD_ready (rs := [9]) (by kernel_rfl) (by simp) ?_
      refine AllReadyD.cons (o := { dst := some 30, op := Op.call { callee := Callee.builtin Builtin.append, args := #[Operand.tmp 26, Operand.tmp 29], argTypes := #[32, 32] }, type := 32, pos := "index.go:21", after := #[{ on := 5, ground := Ground.data }, { on := 8, ground := Ground.data }], guard := none }) rfl (fun K hK => ?_) AllReadyD.nil
      (refine step_app1 (w.heap.size + 3) (by rfl) (.tmp 26) (.tmp 29) 32 3 _ 1 8 rfl Try.underlying32 info3 rfl (by decide) (by decide) xi ids0.length (intsV ids0) [.int .i64 f0] _ _ rfl rfl (HIc.out.fr (_, .cells #[.int .i64 f0] 3 (0, 0)) (by simp)).1 rfl (by simp [Value.oneCell']) (by have h_ := HIc.out.own.own (.inr (.inr true)); rw [← HXI.out] at h_; exact h_) HIc.out.size (by have := HLI.out; omega) ?_; intro v1 w1 hown hg hat; obtain ⟨A1, c1, rfl⟩ := own_slice hown; rw [HXI.out] at hg hat; obtain ⟨val1, e1, e2, hI⟩ := HIc.out.appIds f0 _ hown hg hat; have HId := Aside0.mk hI; have HV1 := Aside0.mk (And.intro e1 (e2 (.inr (.inr false)) (by simp))); clear HIc; have HIc := HId; clear HId; clear hown hg hat e1 e2 hI)
      refine hK.out _ _ (fun _ => ⟨(cells4x HIc.out.heap).1.2.2.1, (cells4x HIc.out.heap).1.2.2.2⟩) ⟨(cells3x (HIc.out.fr (eb, (.cells #[.int .i64 f0, .int .i64 f1, .slice Af f2.length cf] 41 (0, 0))) (by simp)).1).1.1, (cells3x (HIc.out.fr (eb, (.cells #[.int .i64 f0, .int .i64 f1, .slice Af f2.length cf] 41 (0, 0))) (by simp)).1).1.2.2⟩ (fun hFq hHeld => ?_)
      clear hK K
      have hFw := hFq (by kernel_rfl)
      clear hFq
      try simp only [Act.put, List.setIfInBounds_toArray, List.set_cons_zero, List.set_cons_succ]
      refine wpAnyD_ready (rs := [18]) (by kernel_rfl) (by simp) ?_
      refine AllReadyD.cons (o := { dst := some 39, op := Op.call { callee := Callee.builtin Builtin.append, args := #[Operand.tmp 34, Operand.tmp 38], argTypes := #[32, 32] }, type := 32, pos := "index.go:21", after := #[{ on := 13, ground := Ground.data }, { on := 17, ground := Ground.data }, { on := 9, ground := Ground.chain }], guard := none }) rfl (fun K hK => ?_) AllReadyD.nil
      (refine step_app1 (w.heap.size + 3) (by rfl) (.tmp 34) (.tmp 38) 32 3 _ 1 8 rfl Try.underlying32 info3 rfl (by decide) (by decide) xn needs0.length (intsV needs0) [.int .i64 (f2.length : Int)] _ _ rfl rfl (HIc.out.fr (_, .cells #[.int .i64 (f2.length : Int)] 3 (0, 0)) (by simp)).1 rfl (by simp [Value.oneCell']) (by have h_ := HIc.out.own.own (.inr (.inr false)); rw [HV1.out.2, ← HXN.out] at h_; exact h_) HIc.out.size (by have := HLI.out; omega) ?_; intro v2 w2 hown hg hat; obtain ⟨A2, c2, rfl⟩ := own_slice hown; rw [HXN.out, ← HV1.out.2] at hg hat; obtain ⟨val2, e1, e2, hI⟩ := HIc.out.appNeeds (f2.length : Int) _ hown hg hat; have HId := Aside0.mk hI; have HV2 := Aside0.mk (And.intro e1 ((e2 (.inr (.inr true)) (by simp)).trans HV1.out.1)); clear HIc; have HIc := HId; clear HId; clear hown hg hat e1 e2 hI; obtain ⟨⟨z0, z1, z2, z3⟩, z4, z5, z6, z7⟩ := cells4x HIc.out.heap)
      refine hK.out _ _ (fun _ => ⟨(cells4x HIc.out.heap).1.2.2.1, (cells4x HIc.out.heap).1.2.2.2⟩) ⟨(cells3x (HIc.out.fr (eb, (.cells #[.int .i64 f0, .int .i64 f1, .slice Af f2.length cf] 41 (0, 0))) (by simp)).1).1.1, (cells3x (HIc.out.fr (eb, (.cells #[.int .i64 f0, .int .i64 f1, .slice Af f2.length cf] 41 (0, 0))) (by simp)).1).1.2.2⟩ (fun hFq hHeld => ?_)
      clear hK K
      have hFw := hFq (by kernel_rfl)
      clear hFq
      try simp only [Act.put, List.setIfInBounds_toArray, List.set_cons_zero, List.set_cons_succ]
      refine wpAnyD_takeS (i := 19) (oi := { dst := some 40, op := Op.nilCheck (Operand.tmp 21), type := 0, pos := "index.go:21", after := #[{ on := 0, ground := Ground.data }, { on := 0, ground := Ground.phase }, { on := 1, ground := Ground.textOnly Departure.lateStores }, { on := 2, ground := Ground.phase }, { on := 3, ground := Ground.phase }, { on := 4, ground := Ground.phase }, { on := 5, ground := Ground.phase }, { on := 6, ground := Ground.phase }, { on := 7, ground := Ground.phase }, { on := 8, ground := Ground.phase }, { on := 9, ground := Ground.phase }, { on := 10, ground := Ground.textOnly Departure.lateStores }, { on := 11, ground := Ground.textOnly Departure.lateStoresUnsure }, { on := 12, ground := Ground.textOnly Departure.lateStoresUnsure }, { on := 13, ground := Ground.phase }, { on := 14, ground := Ground.textOnly Departure.lateStores }, { on := 15, ground := Ground.textOnly Departure.lateStores }, { on := 16, ground := Ground.textOnly Departure.lateStoresUnsure }, { on := 17, ground := Ground.textOnly Departure.lateStoresUnsure }, { on := 18, ground := Ground.phase }], guard := none }) (v := ?_) rfl (by kernel_rfl) (by kernel_rfl) (by kernel_rfl) (by decide) (fun _ _ _ h => h) (Or.inl ⟨by rfl, ?_⟩) (fun _ => by assumption) (by assumption) ?_
      rotate_left
      · intro w hSw
        try dsimp only at hSw
        go_simp
        all_goals with_reducible rfl
      try simp only [Act.put, List.setIfInBounds_toArray, List.set_cons_zero, List.set_cons_succ]
      refine wpAnyD_takeS (i := 20) (oi := { dst := some 41, op := Op.fieldAddr 53 (Operand.tmp 40) 2, type := 0, pos := "index.go:21", after := #[{ on := 19, ground := Ground.data }, { on := 0, ground := Ground.phase }, { on := 1, ground := Ground.textOnly Departure.lateStores }, { on := 2, ground := Ground.phase }, { on := 3, ground := Ground.phase }, { on := 4, ground := Ground.phase }, { on := 5, ground := Ground.phase }, { on := 6, ground := Ground.phase }, { on := 7, ground := Ground.phase }, { on := 8, ground := Ground.phase }, { on := 9, ground := Ground.phase }, { on := 10, ground := Ground.textOnly Departure.lateStores }, { on := 11, ground := Ground.textOnly Departure.lateStoresUnsure }, { on := 12, ground := Ground.textOnly Departure.lateStoresUnsure }, { on := 13, ground := Ground.phase }, { on := 14, ground := Ground.textOnly Departure.lateStores }, { on := 15, ground := Ground.textOnly Departure.lateStores }, { on := 16, ground := Ground.textOnly Departure.lateStoresUnsure }, { on := 17, ground := Ground.textOnly Departure.lateStoresUnsure }, { on := 18, ground := Ground.phase }], guard := none }) (v := ?_) rfl (by kernel_rfl) (by kernel_rfl) (by kernel_rfl) (by decide) (fun _ _ _ h => h) (Or.inl ⟨by rfl, ?_⟩) (fun _ => by assumption) (by assumption) ?_
      rotate_left
      · intro w hSw
        try dsimp only at hSw
        go_simp
        all_goals with_reducible rfl
      try simp only [Act.put, List.setIfInBounds_toArray, List.set_cons_zero, List.set_cons_succ]
      refine wpAnyD_ready (rs := [21]) (by kernel_rfl) (by simp) ?_
      refine AllReadyD.cons (o := { dst := none, op := Op.store 32 (Operand.tmp 41) (Operand.tmp 30), type := 0, pos := "index.go:21", after := #[{ on := 20, ground := Ground.data }, { on := 9, ground := Ground.data }, { on := 18, ground := Ground.chain }, { on := 0, ground := Ground.phase }, { on := 1, ground := Ground.textOnly Departure.lateStores }, { on := 2, ground := Ground.phase }, { on := 3, ground := Ground.phase }, { on := 4, ground := Ground.phase }, { on := 5, ground := Ground.phase }, { on := 6, ground := Ground.phase }, { on := 7, ground := Ground.phase }, { on := 8, ground := Ground.phase }, { on := 9, ground := Ground.phase }, { on := 10, ground := Ground.textOnly Departure.lateStores }, { on := 11, ground := Ground.textOnly Departure.lateStoresUnsure }, { on := 12, ground := Ground.textOnly Departure.lateStoresUnsure }, { on := 13, ground := Ground.phase }, { on := 14, ground := Ground.textOnly Departure.lateStores }, { on := 15, ground := Ground.textOnly Departure.lateStores }, { on := 16, ground := Ground.textOnly Departure.lateStoresUnsure }, { on := 17, ground := Ground.textOnly Departure.lateStoresUnsure }, { on := 18, ground := Ground.phase }], guard := none }) rfl (fun K hK => ?_) AllReadyD.nil
      go_simp
      (have HId := Aside0.mk (HIc.out.setIds (.slice A1 (ids0.length + 1) c1)); clear HIc; have HIc := HId; clear HId; clear z0 z1 z2 z3 z4 z5 z6 z7; obtain ⟨⟨z0, z1, z2, z3⟩, z4, z5, z6, z7⟩ := cells4x HIc.out.heap)
      refine hK.out _ _ (fun h => Bool.noConfusion (h.symm.trans (show _ = true by kernel_rfl))) ⟨(cells3x (HIc.out.fr (eb, (.cells #[.int .i64 f0, .int .i64 f1, .slice Af f2.length cf] 41 (0, 0))) (by simp)).1).1.1, (cells3x (HIc.out.fr (eb, (.cells #[.int .i64 f0, .int .i64 f1, .slice Af f2.length cf] 41 (0, 0))) (by simp)).1).1.2.2⟩ (fun hFq hHeld => ?_)
      clear hK K hFq
      try clear hFw
      try simp only [Act.put, List.setIfInBounds_toArray, List.set_cons_zero, List.set_cons_succ]
      refine wpAnyD_takeS (i := 22) (oi := { dst := some 42, op := Op.nilCheck (Operand.tmp 22), type := 0, pos := "index.go:21", after := #[{ on := 1, ground := Ground.data }, { on := 0, ground := Ground.phase }, { on := 1, ground := Ground.phase }, { on := 2, ground := Ground.phase }, { on := 3, ground := Ground.phase }, { on := 4, ground := Ground.phase }, { on := 5, ground := Ground.phase }, { on := 6, ground := Ground.phase }, { on := 7, ground := Ground.phase }, { on := 8, ground := Ground.phase }, { on := 9, ground := Ground.phase }, { on := 10, ground := Ground.phase }, { on := 11, ground := Ground.phase }, { on := 12, ground := Ground.phase }, { on := 13, ground := Ground.phase }, { on := 14, ground := Ground.phase }, { on := 15, ground := Ground.phase }, { on := 16, ground := Ground.phase }, { on := 17, ground := Ground.phase }, { on := 18, ground := Ground.phase }, { on := 19, ground := Ground.phase }, { on := 20, ground := Ground.phase }, { on := 21, ground := Ground.phase }], guard := none }) (v := ?_) rfl (by kernel_rfl) (by kernel_rfl) (by kernel_rfl) (by decide) (fun _ _ _ h => h) (Or.inl ⟨by rfl, ?_⟩) (fun h => Bool.noConfusion (h.symm.trans (show _ = true by kernel_rfl))) (by assumption) ?_
      rotate_left
      · intro w hSw
        try dsimp only at hSw
        go_simp
        all_goals with_reducible rfl
      try simp only [Act.put, List.setIfInBounds_toArray, List.set_cons_zero, List.set_cons_succ]
      refine wpAnyD_takeS (i := 23) (oi := { dst := some 43, op := Op.fieldAddr 53 (Operand.tmp 42) 3, type := 0, pos := "index.go:21", after := #[{ on := 22, ground := Ground.data }, { on := 0, ground := Ground.phase }, { on := 1, ground := Ground.phase }, { on := 2, ground := Ground.phase }, { on := 3, ground := Ground.phase }, { on := 4, ground := Ground.phase }, { on := 5, ground := Ground.phase }, { on := 6, ground := Ground.phase }, { on := 7, ground := Ground.phase }, { on := 8, ground := Ground.phase }, { on := 9, ground := Ground.phase }, { on := 10, ground := Ground.phase }, { on := 11, ground := Ground.phase }, { on := 12, ground := Ground.phase }, { on := 13, ground := Ground.phase }, { on := 14, ground := Ground.phase }, { on := 15, ground := Ground.phase }, { on := 16, ground := Ground.phase }, { on := 17, ground := Ground.phase }, { on := 18, ground := Ground.phase }, { on := 19, ground := Ground.phase }, { on := 20, ground := Ground.phase }, { on := 21, ground := Ground.phase }], guard := none }) (v := ?_) rfl (by kernel_rfl) (by kernel_rfl) (by kernel_rfl) (by decide) (fun _ _ _ h => h) (Or.inl ⟨by rfl, ?_⟩) (fun h => Bool.noConfusion (h.symm.trans (show _ = true by kernel_rfl))) (by assumption) ?_
      rotate_left
      · intro w hSw
        try dsimp only at hSw
        go_simp
        all_goals with_reducible rfl
      try simp only [Act.put, List.setIfInBounds_toArray, List.set_cons_zero, List.set_cons_succ]
      refine wpAnyD_ready (rs := [24]) (by kernel_rfl) (by simp) ?_
      refine AllReadyD.cons (o := { dst := none, op := Op.store 32 (Operand.tmp 43) (Operand.tmp 39), type := 0, pos := "index.go:21", after := #[{ on := 23, ground := Ground.data }, { on := 18, ground := Ground.data }, { on := 21, ground := Ground.chain }, { on := 0, ground := Ground.phase }, { on := 1, ground := Ground.phase }, { on := 2, ground := Ground.phase }, { on := 3, ground := Ground.phase }, { on := 4, ground := Ground.phase }, { on := 5, ground := Ground.phase }, { on := 6, ground := Ground.phase }, { on := 7, ground := Ground.phase }, { on := 8, ground := Ground.phase }, { on := 9, ground := Ground.phase }, { on := 10, ground := Ground.phase }, { on := 11, ground := Ground.phase }, { on := 12, ground := Ground.phase }, { on := 13, ground := Ground.phase }, { on := 14, ground := Ground.phase }, { on := 15, ground := Ground.phase }, { on := 16, ground := Ground.phase }, { on := 17, ground := Ground.phase }, { on := 18, ground := Ground.phase }, { on := 19, ground := Ground.phase }, { on := 20, ground := Ground.phase }, { on := 21, ground := Ground.phase }], guard := none }) rfl (fun K hK => ?_) AllReadyD.nil
      go_simp
      (have HId := Aside0.mk (HIc.out.setNeeds (.slice A2 (needs0.length + 1) c2)); clear HIc; have HIc := HId; clear HId; clear z0 z1 z2 z3 z4 z5 z6 z7)
      refine hK.out _ _ (fun h => Bool.noConfusion (h.symm.trans (show _ = true by kernel_rfl))) ⟨(cells3x (HIc.out.fr (eb, (.cells #[.int .i64 f0, .int .i64 f1, .slice Af f2.length cf] 41 (0, 0))) (by simp)).1).1.1, (cells3x (HIc.out.fr (eb, (.cells #[.int .i64 f0, .int .i64 f1, .slice Af f2.length cf] 41 (0, 0))) (by simp)).1).1.2.2⟩ (fun hFq hHeld => ?_)
      clear hK K hFq
      try clear hFw
      try simp only [Act.put, List.setIfInBounds_toArray, List.set_cons_zero, List.set_cons_succ]
      refine wpAnyD_done (by kernel_rfl) ?_ _
      have HQ := Aside0.mk (show IxQ w _ _ q0 _ _ from ⟨val2, ixs_eq (HIc.out.drop (fs' := [(eb, (.cells #[.int .i64 f0, .int .i64 f1, .slice Af f2.length cf] 41 (0, 0)))]) (by simp)) HV2.out.2.symm HV2.out.1.symm⟩)
      clear HIc HV1 HV2
      rw [← HDS.out.1, ← HDS.out.2] at HQ
      go_wp2_with fail
      go_meet
      exact HQ
    case rest =>
    have HQ5 := hcut
    clear HIc HXI HXN
    obtain ⟨w5, hw5⟩ : ∃ q, q = wc := ⟨_, rfl⟩
    rw [← hw5] at HQ5 ⊢
    clear hw5
    obtain ⟨val5, hI5⟩ := HQ5.out.ex
    have hE5 := (cells3x (hI5.fr (eb, (.cells #[.int .i64 f0, .int .i64 f1, .slice Af f2.length cf] 41 (0, 0))) (by simp)).1).1
    obtain ⟨x0, x1, x2⟩ := hE5
    clear hI5
    rw [← HDS.out.1, ← HDS.out.2] at HTK
    go_upto_block 2 with fail
    clear x0 x1 x2
    go_wp2_with fail
    go_loopw [47] (fun i wr => ∃ (j : Nat), j ≤ f2.length ∧ i = .int .i64 j ∧ Aside0 (IxQ w wr [(eb, (.cells #[.int .i64 f0, .int .i64 f1, .slice Af f2.length cf] 41 (0, 0)))] (q0 ++ (f2.take j).map fun p => ((k : Int), p)) ids needs)) (fun i _ => f2.length - (intOf i).toNat)
    case atStart => exact ⟨0, Nat.zero_le _, rfl, ⟨by rw [List.take_zero, List.map_nil, List.append_nil]; exact HQ5.out⟩⟩
    case round =>
      obtain ⟨j, hj, rfl, HQ⟩ := hrel
      clear HQ5
      by_cases hlt : j < f2.length
      case neg =>
        obtain rfl : j = f2.length := by omega
        go_wp2_with fail
        exact ⟨⟨k + 1, by omega, by go_num, ⟨by have h_ := HQ.out; rw [List.take_of_length_le (Nat.le_refl _)] at h_; rw [← HTK.out.1, ← HTK.out.2.1, ← HTK.out.2.2] at h_; obtain ⟨v_, h_⟩ := h_.ex; exact ⟨v_, h_.drop (by simp)⟩⟩⟩, by simp [intOf]; omega⟩
      obtain ⟨val, hI0⟩ := HQ.out.ex
      obtain ⟨wq, hwq⟩ : ∃ q, q = wr := ⟨_, rfl⟩
      rw [← hwq] at hI0 ⊢
      clear hwq HQ
      have HI0 := Aside0.mk hI0
      clear hI0
      obtain ⟨adf, hA, h0, h1, h2, h3, h4⟩ := at_T47 (Kd.C_below HCF.out (show Below w.heap.size w wq from HI0.out.below)) (j : Int) (by omega) (by omega)
      subst hA
      rw [Int.toNat_natCast] at h0 h1 h2 h3 h4
      have hmem := HKF.out (rd_T47 f2 (j : Int)) (by simp [rd_T47, List.getD_eq_getElem?_getD, hlt])
      have htk : f2.take (j + 1) = f2.take j ++ [rd_T47 f2 (j : Int)] := by rw [List.take_add_one]; simp [rd_T47, List.getD_eq_getElem?_getD, hlt]
      generalize rd_T47 f2 (j : Int) = p at h0 h1 h2 h3 h4 hmem htk
      obtain ⟨pf0, pf1, ⟨pf20, pf21, pf22⟩⟩ := p
      simp only at h0 h1 h2 h3 h4
      obtain ⟨q, hq⟩ : ∃ q, q = q0 ++ (f2.take j).map fun p => ((k : Int), p) := ⟨_, rfl⟩
      have HQ1 := Aside0.mk (show q0 ++ (f2.take (j + 1)).map (fun p => ((k : Int), p)) = q ++ [((k : Int), (⟨pf0, pf1, ⟨pf20, pf21, pf22⟩⟩ : S47))] by rw [hq, htk, List.map_append, ← List.append_assoc]; rfl)
      have HLQ := Aside0.mk (show q.length ≤ 1000000000 by rw [hq, List.length_append, List.length_map, List.length_take]; have := HLT.out; omega)
      rw [← hq] at HI0
      have HKO := Aside0.mk hmem
      clear hq htk hmem
      go_upto_region 9 with fail
      have HIc := Aside0.mk ((HI0.out.foreign (.cells #[.string pf0, .int .i64 pf1, .int .i64 pf20, .int .i64 pf21, .string pf22] 47 (0, 0))).step (below_drew (Below.refl _ _)))
      clear h0 h1 h2 h3 h4 HI0
      generalize hpb : wq.heap.size = pb at HIc ⊢
      clear hpb
      refine wp_region_held_drew (S := (fun W => W.cell? ⟨w.heap.size + 2, 0, none⟩ = some (.map (some w.heap.size)) ∧ (W.cell? ⟨pb, 0, none⟩ = some (.string pf0) ∧ W.cell? ⟨pb, 1, none⟩ = some (.int .i64 pf1) ∧ W.cell? ⟨pb, 2, none⟩ = some (.int .i64 pf20) ∧ W.cell? ⟨pb, 3, none⟩ = some (.int .i64 pf21) ∧ W.cell? ⟨pb, 4, none⟩ = some (.string pf22)) ∧ (Instr.lookup 50 (.map (some w.heap.size)) (.agg #[.string pf0, .int .i64 pf1, .int .i64 pf20, .int .i64 pf21, .string pf22]) true).run Try.prog W = .ok (.tuple #[val (.inl (⟨pf0, pf1, ⟨pf20, pf21, pf22⟩⟩ : S47)), .bool (decide ((⟨pf0, pf1, ⟨pf20, pf21, pf22⟩⟩ : S47) ∈ keysOf q))]) W)) (by kernel_rfl) ⟨(cells4x HIc.out.heap).1.1, cells5x (HIc.out.fr (pb, (.cells #[.string pf0, .int .i64 pf1, .int .i64 pf20, .int .i64 pf21, .string pf22] 47 (0, 0))) (by simp)).1, HIc.out.lookOf (⟨pf0, pf1, ⟨pf20, pf21, pf22⟩⟩ : S47) HKO.out (zeroSI _) true⟩ (fun hHeld => ?_)
      refine wpAnyH_take (i := 0) (oi := { dst := some 52, op := Op.move (Operand.tmp 3), type := 26, pos := "index.go:23", after := #[], guard := none }) (v := ?_) rfl (by kernel_rfl) (by kernel_rfl) (by kernel_rfl) (fun _ _ _ h => h) (Or.inl ⟨by rfl, ?_⟩) (by assumption) ?_
      rotate_left
      · intro w hSw
        try dsimp only at hSw
        go_simp
        all_goals with_reducible rfl
      try simp only [Act.put, List.setIfInBounds_toArray, List.set_cons_zero, List.set_cons_succ]
      refine wpAnyH_take (i := 1) (oi := { dst := some 53, op := Op.nilCheck (Operand.tmp 52), type := 0, pos := "index.go:23", after := #[{ on := 0, ground := Ground.data }], guard := none }) (v := ?_) rfl (by kernel_rfl) (by kernel_rfl) (by kernel_rfl) (fun _ _ _ h => h) (Or.inl ⟨by rfl, ?_⟩) (by assumption) ?_
      rotate_left
      · intro w hSw
        try dsimp only at hSw
        go_simp
        all_goals with_reducible rfl
      try simp only [Act.put, List.setIfInBounds_toArray, List.set_cons_zero, List.set_cons_succ]
      refine wpAnyH_take (i := 2) (oi := { dst := some 54, op := Op.fieldAddr 53 (Operand.tmp 53) 0, type := 0, pos := "index.go:23", after := #[{ on := 1, ground := Ground.data }], guard := none }) (v := ?_) rfl (by kernel_rfl) (by kernel_rfl) (by kernel_rfl) (fun _ _ _ h => h) (Or.inl ⟨by rfl, ?_⟩) (by assumption) ?_
      rotate_left
      · intro w hSw
        try dsimp only at hSw
        go_simp
        all_goals with_reducible rfl
      try simp only [Act.put, List.setIfInBounds_toArray, List.set_cons_zero, List.set_cons_succ]
      refine wpAnyH_take (i := 3) (oi := { dst := some 55, op := Op.load 50 (Operand.tmp 54), type := 50, pos := "index.go:23", after := #[{ on := 2, ground := Ground.data }], guard := none }) (v := ?_) rfl (by kernel_rfl) (by kernel_rfl) (by kernel_rfl) (fun _ _ _ h => h) (Or.inl ⟨by rfl, ?_⟩) (by assumption) ?_
      rotate_left
      · intro w hSw
        try dsimp only at hSw
        go_simp
        all_goals with_reducible rfl
      try simp only [Act.put, List.setIfInBounds_toArray, List.set_cons_zero, List.set_cons_succ]
      refine wpAnyH_take (i := 4) (oi := { dst := some 56, op := Op.load 47 (Operand.tmp 7), type := 47, pos := "index.go:23", after := #[], guard := none }) (v := ?_) rfl (by kernel_rfl) (by kernel_rfl) (by kernel_rfl) (fun _ _ _ h => h) (Or.inl ⟨by rfl, ?_⟩) (by assumption) ?_
      rotate_left
      · intro w hSw
        try dsimp only at hSw
        go_simp
        all_goals with_reducible rfl
      try simp only [Act.put, List.setIfInBounds_toArray, List.set_cons_zero, List.set_cons_succ]
      refine wpAnyH_take (i := 5) (oi := { dst := some 57, op := Op.lookup 50 (Operand.tmp 55) (Operand.tmp 56) true, type := 54, pos := "index.go:23", after := #[{ on := 3, ground := Ground.data }, { on := 4, ground := Ground.data }], guard := none }) (v := ?_) rfl (by kernel_rfl) (by kernel_rfl) (by kernel_rfl) (fun _ _ _ h => h) (Or.inl ⟨by rfl, ?_⟩) (by assumption) ?_
      rotate_left
      · intro w hSw
        try dsimp only at hSw
        go_simp
        all_goals with_reducible rfl
      try simp only [Act.put, List.setIfInBounds_toArray, List.set_cons_zero, List.set_cons_succ]
      refine wpAnyH_take (i := 6) (oi := { dst := some 51, op := Op.move (Operand.tmp 57), type := 54, pos := "index.go:23", after := #[{ on := 5, ground := Ground.data }], guard := none }) (v := ?_) rfl (by kernel_rfl) (by kernel_rfl) (by kernel_rfl) (fun _ _ _ h => h) (Or.inl ⟨by rfl, ?_⟩) (by assumption) ?_
      rotate_left
      · intro w hSw
        try dsimp only at hSw
        go_simp
        all_goals with_reducible rfl
      try simp only [Act.put, List.setIfInBounds_toArray, List.set_cons_zero, List.set_cons_succ]
      refine wpAnyH_take (i := 7) (oi := { dst := some 58, op := Op.extract (Operand.tmp 51) 0, type := 32, pos := "index.go:23", after := #[{ on := 6, ground := Ground.data }], guard := none }) (v := ?_) rfl (by kernel_rfl) (by kernel_rfl) (by kernel_rfl) (fun _ _ _ h => h) (Or.inl ⟨by rfl, ?_⟩) (by assumption) ?_
      rotate_left
      · intro w hSw
        try dsimp only at hSw
        go_simp
        all_goals with_reducible rfl
      try simp only [Act.put, List.setIfInBounds_toArray, List.set_cons_zero, List.set_cons_succ]
      refine wpAnyH_take (i := 8) (oi := { dst := some 59, op := Op.extract (Operand.tmp 51) 1, type := 4, pos := "index.go:23", after := #[{ on := 6, ground := Ground.data }, { on := 9, ground := Ground.gcOnly Departure.lateStores }], guard := none }) (v := ?_) rfl (by kernel_rfl) (by kernel_rfl) (by kernel_rfl) (fun _ _ _ h => h) (Or.inl ⟨by rfl, ?_⟩) (by assumption) ?_
      rotate_left
      · intro w hSw
        try dsimp only at hSw
        go_simp
        all_goals with_reducible rfl
      try simp only [Act.put, List.setIfInBounds_toArray, List.set_cons_zero, List.set_cons_succ]
      refine wpAnyH_take (i := 9) (oi := { dst := some 8, op := Op.assign (Operand.tmp 58), type := 32, pos := "index.go:23", after := #[{ on := 7, ground := Ground.data }, { on := 0, ground := Ground.phase }, { on := 1, ground := Ground.phase }, { on := 2, ground := Ground.phase }, { on := 3, ground := Ground.phase }, { on := 4, ground := Ground.phase }, { on := 5, ground := Ground.phase }, { on := 6, ground := Ground.phase }, { on := 7, ground := Ground.phase }, { on := 8, ground := Ground.textOnly Departure.lateStores }], guard := none }) (v := ?_) rfl (by kernel_rfl) (by kernel_rfl) (by kernel_rfl) (fun _ _ _ h => h) (Or.inl ⟨by rfl, ?_⟩) (by assumption) ?_
      rotate_left
      · intro w hSw
        try dsimp only at hSw
        go_simp
        all_goals with_reducible rfl
      try simp only [Act.put, List.setIfInBounds_toArray, List.set_cons_zero, List.set_cons_succ]
      refine wpAnyH_take (i := 10) (oi := { dst := some 9, op := Op.assign (Operand.tmp 59), type := 4, pos := "index.go:23", after := #[{ on := 8, ground := Ground.data }, { on := 9, ground := Ground.chain }, { on := 0, ground := Ground.phase }, { on := 1, ground := Ground.phase }, { on := 2, ground := Ground.phase }, { on := 3, ground := Ground.phase }, { on := 4, ground := Ground.phase }, { on := 5, ground := Ground.phase }, { on := 6, ground := Ground.phase }, { on := 7, ground := Ground.phase }, { on := 8, ground := Ground.phase }, { on := 9, ground := Ground.phase }], guard := none }) (v := ?_) rfl (by kernel_rfl) (by kernel_rfl) (by kernel_rfl) (fun _ _ _ h => h) (Or.inl ⟨by rfl, ?_⟩) (by assumption) ?_
      rotate_left
      · intro w hSw
        try dsimp only at hSw
        go_simp
        all_goals with_reducible rfl
      try simp only [Act.put, List.setIfInBounds_toArray, List.set_cons_zero, List.set_cons_succ]
      refine wpAnyH_done (by kernel_rfl) ?_ _
      go_upto_region 10 with fail
      obtain ⟨w9, hw9⟩ : ∃ q, q = (wq.alloc (.cells #[.string pf0, .int .i64 pf1, .int .i64 pf20, .int .i64 pf21, .string pf22] 47 (0, 0))).drew := ⟨_, rfl⟩
      rw [← hw9] at HIc ⊢
      clear hw9 hHeld
      obtain ⟨bb, hbb⟩ : ∃ b, decide ((⟨pf0, pf1, ⟨pf20, pf21, pf22⟩⟩ : S47) ∈ keysOf q) = b := ⟨_, rfl⟩
      rw [hbb]
      have HBB := Aside0.mk hbb
      clear hbb
      go_upto_if 61 with fail
      go_cut [62] from 62 to 77 (fun _ wx => ∃ val', Aside0 (IxS w wx [(pb, (.cells #[.string pf0, .int .i64 pf1, .int .i64 pf20, .int .i64 pf21, .string pf22] 47 (0, 0))), (eb, (.cells #[.int .i64 f0, .int .i64 f1, .slice (some adf) f2.length cf] 41 (0, 0)))] (occ q) (named (keysOf (q ++ [((k : Int), (⟨pf0, pf1, ⟨pf20, pf21, pf22⟩⟩ : S47))]))) ids needs (keysOf q) (namesIn (keysOf (q ++ [((k : Int), (⟨pf0, pf1, ⟨pf20, pf21, pf22⟩⟩ : S47))]))) val' (val' (.inr (.inr true))) (val' (.inr (.inr false)))))
      case first =>
        cases bb with
        | true =>
          have hin := of_decide_eq_true HBB.out
          have ha : keysOf (q ++ [((k : Int), (⟨pf0, pf1, ⟨pf20, pf21, pf22⟩⟩ : S47))]) = keysOf q := by rw [keys_snoc]; unfold addK; rw [if_pos hin]
          have HA := Aside0.mk ha
          clear ha hin
          go_wp2_with fail
          go_meet
          exact ⟨val, ⟨by rw [HA.out]; exact HIc.out⟩⟩
        | false =>
          have hin := of_decide_eq_false HBB.out
          have HNK := Aside0.mk (show keysOf (q ++ [((k : Int), (⟨pf0, pf1, ⟨pf20, pf21, pf22⟩⟩ : S47))]) = keysOf q ++ [(⟨pf0, pf1, ⟨pf20, pf21, pf22⟩⟩ : S47)] by rw [keys_snoc]; unfold addK; rw [if_neg hin])
          have HNN := Aside0.mk (show namesIn (keysOf (q ++ [((k : Int), (⟨pf0, pf1, ⟨pf20, pf21, pf22⟩⟩ : S47))])) = addK (namesIn (keysOf q)) pf0 by rw [HNK.out, namesIn_snoc])
          clear hin
          go_upto_region 11 with fail
          have HId := Aside0.mk (HIc.out.step (below_drew (Below.refl _ _)))
          clear HIc
          have HIc := HId
          clear HId
          refine wp_region_held_drew (S := (fun W => W.cell? ⟨w.heap.size + 2, 1, none⟩ = some (.map (some (w.heap.size + 1))) ∧ (W.cell? ⟨pb, 0, none⟩ = some (.string pf0) ∧ W.cell? ⟨pb, 1, none⟩ = some (.int .i64 pf1) ∧ W.cell? ⟨pb, 2, none⟩ = some (.int .i64 pf20) ∧ W.cell? ⟨pb, 3, none⟩ = some (.int .i64 pf21) ∧ W.cell? ⟨pb, 4, none⟩ = some (.string pf22)))) (by kernel_rfl) ⟨(cells4x HIc.out.heap).1.2.1, cells5x (HIc.out.fr (pb, (.cells #[.string pf0, .int .i64 pf1, .int .i64 pf20, .int .i64 pf21, .string pf22] 47 (0, 0))) (by simp)).1⟩ (fun hHeld => ?_)
          refine wpAnyH_take (i := 0) (oi := { dst := some 62, op := Op.move (Operand.tmp 3), type := 26, pos := "index.go:24", after := #[], guard := none }) (v := ?_) rfl (by kernel_rfl) (by kernel_rfl) (by kernel_rfl) (fun _ _ _ h => h) (Or.inl ⟨by rfl, ?_⟩) (by assumption) ?_
          rotate_left
          · intro w hSw
            try dsimp only at hSw
            go_simp
            all_goals with_reducible rfl
          try simp only [Act.put, List.setIfInBounds_toArray, List.set_cons_zero, List.set_cons_succ]
          refine wpAnyH_take (i := 1) (oi := { dst := some 63, op := Op.nilCheck (Operand.tmp 62), type := 0, pos := "index.go:24", after := #[{ on := 0, ground := Ground.data }], guard := none }) (v := ?_) rfl (by kernel_rfl) (by kernel_rfl) (by kernel_rfl) (fun _ _ _ h => h) (Or.inl ⟨by rfl, ?_⟩) (by assumption) ?_
          rotate_left
          · intro w hSw
            try dsimp only at hSw
            go_simp
            all_goals with_reducible rfl
          try simp only [Act.put, List.setIfInBounds_toArray, List.set_cons_zero, List.set_cons_succ]
          refine wpAnyH_take (i := 2) (oi := { dst := some 64, op := Op.fieldAddr 53 (Operand.tmp 63) 1, type := 0, pos := "index.go:24", after := #[{ on := 1, ground := Ground.data }], guard := none }) (v := ?_) rfl (by kernel_rfl) (by kernel_rfl) (by kernel_rfl) (fun _ _ _ h => h) (Or.inl ⟨by rfl, ?_⟩) (by assumption) ?_
          rotate_left
          · intro w hSw
            try dsimp only at hSw
            go_simp
            all_goals with_reducible rfl
          try simp only [Act.put, List.setIfInBounds_toArray, List.set_cons_zero, List.set_cons_succ]
          refine wpAnyH_take (i := 3) (oi := { dst := some 65, op := Op.load 51 (Operand.tmp 64), type := 51, pos := "index.go:24", after := #[{ on := 2, ground := Ground.data }], guard := none }) (v := ?_) rfl (by kernel_rfl) (by kernel_rfl) (by kernel_rfl) (fun _ _ _ h => h) (Or.inl ⟨by rfl, ?_⟩) (by assumption) ?_
          rotate_left
          · intro w hSw
            try dsimp only at hSw
            go_simp
            all_goals with_reducible rfl
          try simp only [Act.put, List.setIfInBounds_toArray, List.set_cons_zero, List.set_cons_succ]
          refine wpAnyH_take (i := 4) (oi := { dst := some 66, op := Op.fieldAddr 47 (Operand.tmp 7) 0, type := 0, pos := "index.go:24", after := #[], guard := none }) (v := ?_) rfl (by kernel_rfl) (by kernel_rfl) (by kernel_rfl) (fun _ _ _ h => h) (Or.inl ⟨by rfl, ?_⟩) (by assumption) ?_
          rotate_left
          · intro w hSw
            try dsimp only at hSw
            go_simp
            all_goals with_reducible rfl
          try simp only [Act.put, List.setIfInBounds_toArray, List.set_cons_zero, List.set_cons_succ]
          refine wpAnyH_take (i := 5) (oi := { dst := some 67, op := Op.load 9 (Operand.tmp 66), type := 9, pos := "index.go:24", after := #[{ on := 4, ground := Ground.data }], guard := none }) (v := ?_) rfl (by kernel_rfl) (by kernel_rfl) (by kernel_rfl) (fun _ _ _ h => h) (Or.inl ⟨by rfl, ?_⟩) (by assumption) ?_
          rotate_left
          · intro w hSw
            try dsimp only at hSw
            go_simp
            all_goals with_reducible rfl
          try simp only [Act.put, List.setIfInBounds_toArray, List.set_cons_zero, List.set_cons_succ]
          refine wpAnyH_take (i := 6) (oi := { dst := some 68, op := Op.move (Operand.tmp 3), type := 26, pos := "index.go:24", after := #[], guard := none }) (v := ?_) rfl (by kernel_rfl) (by kernel_rfl) (by kernel_rfl) (fun _ _ _ h => h) (Or.inl ⟨by rfl, ?_⟩) (by assumption) ?_
          rotate_left
          · intro w hSw
            try dsimp only at hSw
            go_simp
            all_goals with_reducible rfl
          try simp only [Act.put, List.setIfInBounds_toArray, List.set_cons_zero, List.set_cons_succ]
          refine wpAnyH_take (i := 7) (oi := { dst := some 69, op := Op.nilCheck (Operand.tmp 68), type := 0, pos := "index.go:24", after := #[{ on := 6, ground := Ground.data }], guard := none }) (v := ?_) rfl (by kernel_rfl) (by kernel_rfl) (by kernel_rfl) (fun _ _ _ h => h) (Or.inl ⟨by rfl, ?_⟩) (by assumption) ?_
          rotate_left
          · intro w hSw
            try dsimp only at hSw
            go_simp
            all_goals with_reducible rfl
          try simp only [Act.put, List.setIfInBounds_toArray, List.set_cons_zero, List.set_cons_succ]
          refine wpAnyH_take (i := 8) (oi := { dst := some 70, op := Op.fieldAddr 53 (Operand.tmp 69) 1, type := 0, pos := "index.go:24", after := #[{ on := 7, ground := Ground.data }], guard := none }) (v := ?_) rfl (by kernel_rfl) (by kernel_rfl) (by kernel_rfl) (fun _ _ _ h => h) (Or.inl ⟨by rfl, ?_⟩) (by assumption) ?_
          rotate_left
          · intro w hSw
            try dsimp only at hSw
            go_simp
            all_goals with_reducible rfl
          try simp only [Act.put, List.setIfInBounds_toArray, List.set_cons_zero, List.set_cons_succ]
          refine wpAnyH_take (i := 9) (oi := { dst := some 71, op := Op.load 51 (Operand.tmp 70), type := 51, pos := "index.go:24", after := #[{ on := 8, ground := Ground.data }], guard := none }) (v := ?_) rfl (by kernel_rfl) (by kernel_rfl) (by kernel_rfl) (fun _ _ _ h => h) (Or.inl ⟨by rfl, ?_⟩) (by assumption) ?_
          rotate_left
          · intro w hSw
            try dsimp only at hSw
            go_simp
            all_goals with_reducible rfl
          try simp only [Act.put, List.setIfInBounds_toArray, List.set_cons_zero, List.set_cons_succ]
          refine wpAnyH_take (i := 10) (oi := { dst := some 72, op := Op.fieldAddr 47 (Operand.tmp 7) 0, type := 0, pos := "index.go:24", after := #[], guard := none }) (v := ?_) rfl (by kernel_rfl) (by kernel_rfl) (by kernel_rfl) (fun _ _ _ h => h) (Or.inl ⟨by rfl, ?_⟩) (by assumption) ?_
          rotate_left
          · intro w hSw
            try dsimp only at hSw
            go_simp
            all_goals with_reducible rfl
          try simp only [Act.put, List.setIfInBounds_toArray, List.set_cons_zero, List.set_cons_succ]
          refine wpAnyH_take (i := 11) (oi := { dst := some 73, op := Op.load 9 (Operand.tmp 72), type := 9, pos := "index.go:24", after := #[{ on := 10, ground := Ground.data }], guard := none }) (v := ?_) rfl (by kernel_rfl) (by kernel_rfl) (by kernel_rfl) (fun _ _ _ h => h) (Or.inl ⟨by rfl, ?_⟩) (by assumption) ?_
          rotate_left
          · intro w hSw
            try dsimp only at hSw
            go_simp
            all_goals with_reducible rfl
          try simp only [Act.put, List.setIfInBounds_toArray, List.set_cons_zero, List.set_cons_succ]
          refine wpAnyH_take (i := 13) (oi := { dst := some 75, op := Op.load 47 (Operand.tmp 7), type := 47, pos := "index.go:24", after := #[], guard := none }) (v := ?_) rfl (by kernel_rfl) (by kernel_rfl) (by kernel_rfl) (fun _ _ _ h => h) (Or.inl ⟨by rfl, ?_⟩) (by assumption) ?_
          rotate_left
          · intro w hSw
            try dsimp only at hSw
            go_simp
            all_goals with_reducible rfl
          try simp only [Act.put, List.setIfInBounds_toArray, List.set_cons_zero, List.set_cons_succ]
          refine wpAnyH_ready (rs := [12, 14]) (by kernel_rfl) (by simp) ?_
          refine AllReadyH.cons (o := { dst := some 74, op := Op.lookup 51 (Operand.tmp 71) (Operand.tmp 73) false, type := 39, pos := "index.go:24", after := #[{ on := 9, ground := Ground.data }, { on := 11, ground := Ground.data }], guard := none }) rfl (fun K hK => ?_) ?_
          · skip
            (refine step_lookup (by rfl) 51 (.tmp 71) (.tmp 73) false rfl (.map (some (w.heap.size + 1))) (.string pf0) rfl rfl _ (HIc.out.lookNm pf0 HKO.out.1.1 (zeroSP _)) ?_)
            refine hK.out _ _ (by first | exact ⟨(cells4x HIc.out.heap).1.2.1, cells5x (HIc.out.fr (pb, (.cells #[.string pf0, .int .i64 pf1, .int .i64 pf20, .int .i64 pf21, .string pf22] 47 (0, 0))) (by simp)).1⟩ | exact ⟨by rw [cell_of_row _ _ _ _ _ _ ((K11.out.1 _ (by omega)).trans HIc.out.heap)]; rfl, cells5x (K11.out.2.1 (pb, (.cells #[.string pf0, .int .i64 pf1, .int .i64 pf20, .int .i64 pf21, .string pf22] 47 (0, 0))) (by simp)).1⟩) (fun hHeld => ?_)
            clear hK K
            try simp only [Act.put, List.setIfInBounds_toArray, List.set_cons_zero, List.set_cons_succ]
            refine wpAnyH_ready (rs := [14]) (by kernel_rfl) (by simp) ?_
            refine AllReadyH.cons (o := { dst := some 76, op := Op.buildSlice 39 1 #[(0, Operand.tmp 75)], type := 39, pos := "index.go:24", after := #[{ on := 13, ground := Ground.data }], guard := none }) rfl (fun K hK => ?_) AllReadyH.nil
            go_simp
            (have HId := Aside0.mk (HIc.out.foreign (.cells #[.string pf0, .int .i64 pf1, .int .i64 pf20, .int .i64 pf21, .string pf22] 47 (0, 0))); clear HIc; have HIc := HId; clear HId)
            refine hK.out _ _ (by first | exact ⟨(cells4x HIc.out.heap).1.2.1, cells5x (HIc.out.fr (pb, (.cells #[.string pf0, .int .i64 pf1, .int .i64 pf20, .int .i64 pf21, .string pf22] 47 (0, 0))) (by simp)).1⟩ | exact ⟨by rw [cell_of_row _ _ _ _ _ _ ((K11.out.1 _ (by omega)).trans HIc.out.heap)]; rfl, cells5x (K11.out.2.1 (pb, (.cells #[.string pf0, .int .i64 pf1, .int .i64 pf20, .int .i64 pf21, .string pf22] 47 (0, 0))) (by simp)).1⟩) (fun hHeld => ?_)
            clear hK K
            try simp only [Act.put, List.setIfInBounds_toArray, List.set_cons_zero, List.set_cons_succ]
            refine wpAnyH_ready (rs := [15]) (by kernel_rfl) (by simp) ?_
            refine AllReadyH.cons (o := { dst := some 77, op := Op.call { callee := Callee.builtin Builtin.append, args := #[Operand.tmp 74, Operand.tmp 76], argTypes := #[39, 39] }, type := 39, pos := "index.go:24", after := #[{ on := 12, ground := Ground.data }, { on := 14, ground := Ground.data }], guard := none }) rfl (fun K hK => ?_) AllReadyH.nil
            (refine step_app1 (w.heap.size + 3) (by rfl) (.tmp 74) (.tmp 76) 39 47 _ 5 56 rfl Try.underlying39 info47 rfl (by decide) (by decide) (val (.inr (.inl pf0))) (named (keysOf q) pf0).length ((named (keysOf q) pf0).flatMap predC) [.string pf0, .int .i64 pf1, .int .i64 pf20, .int .i64 pf21, .string pf22] _ _ rfl rfl (HIc.out.fr _ (List.mem_cons_self ..)).1 rfl (by simp [Value.oneCell']) (HIc.out.own.own (.inr (.inl pf0))) HIc.out.size (by have h1_ := named_len (keysOf q) pf0; have h2_ := keys_len q; have := HLQ.out; omega) ?_; intro v1 w1 hown hg hat; obtain ⟨W2, val2, hrun, hI, e2⟩ := HIc.out.putNm (⟨pf0, pf1, ⟨pf20, pf21, pf22⟩⟩ : S47) HKO.out.1.1 v1 hown hg hat (nmd' := named (keysOf (q ++ [((k : Int), (⟨pf0, pf1, ⟨pf20, pf21, pf22⟩⟩ : S47))]))) (by rw [HNK.out]; exact named_same _ _) (fun n hn => by rw [HNK.out]; exact named_other _ _ _ hn); have HR := Aside0.mk hrun; have HJ := Aside0.mk hI; have HE2 := Aside0.mk e2; have K11 := Aside0.mk (HIc.out.kept _ hg); clear hown hg hat hrun hI e2)
            refine hK.out _ _ (by first | exact ⟨(cells4x HIc.out.heap).1.2.1, cells5x (HIc.out.fr (pb, (.cells #[.string pf0, .int .i64 pf1, .int .i64 pf20, .int .i64 pf21, .string pf22] 47 (0, 0))) (by simp)).1⟩ | exact ⟨by rw [cell_of_row _ _ _ _ _ _ ((K11.out.1 _ (by omega)).trans HIc.out.heap)]; rfl, cells5x (K11.out.2.1 (pb, (.cells #[.string pf0, .int .i64 pf1, .int .i64 pf20, .int .i64 pf21, .string pf22] 47 (0, 0))) (by simp)).1⟩) (fun hHeld => ?_)
            clear hK K
            try simp only [Act.put, List.setIfInBounds_toArray, List.set_cons_zero, List.set_cons_succ]
            refine wpAnyH_ready (rs := [16]) (by kernel_rfl) (by simp) ?_
            refine AllReadyH.cons (o := { dst := none, op := Op.mapUpdate 51 (Operand.tmp 65) (Operand.tmp 67) (Operand.tmp 77), type := 0, pos := "index.go:24", after := #[{ on := 3, ground := Ground.data }, { on := 5, ground := Ground.data }, { on := 15, ground := Ground.data }, { on := 15, ground := Ground.chain }, { on := 0, ground := Ground.phase }, { on := 1, ground := Ground.phase }, { on := 2, ground := Ground.phase }, { on := 3, ground := Ground.phase }, { on := 4, ground := Ground.phase }, { on := 5, ground := Ground.phase }, { on := 6, ground := Ground.phase }, { on := 7, ground := Ground.phase }, { on := 8, ground := Ground.phase }, { on := 9, ground := Ground.phase }, { on := 10, ground := Ground.phase }, { on := 11, ground := Ground.phase }, { on := 12, ground := Ground.phase }, { on := 13, ground := Ground.phase }, { on := 14, ground := Ground.phase }, { on := 15, ground := Ground.phase }], guard := none }) rfl (fun K hK => ?_) AllReadyH.nil
            (refine step_mapUpdate (by rfl) 51 (.tmp 65) (.tmp 67) (.tmp 77) rfl (.map (some (w.heap.size + 1))) (.string pf0) v1 rfl rfl rfl W2 HR.out ?_; clear HIc; have HIc := HJ; clear HJ HR)
            refine hK.out _ _ (by first | exact ⟨(cells4x HIc.out.heap).1.2.1, cells5x (HIc.out.fr (pb, (.cells #[.string pf0, .int .i64 pf1, .int .i64 pf20, .int .i64 pf21, .string pf22] 47 (0, 0))) (by simp)).1⟩ | exact ⟨by rw [cell_of_row _ _ _ _ _ _ ((K11.out.1 _ (by omega)).trans HIc.out.heap)]; rfl, cells5x (K11.out.2.1 (pb, (.cells #[.string pf0, .int .i64 pf1, .int .i64 pf20, .int .i64 pf21, .string pf22] 47 (0, 0))) (by simp)).1⟩) (fun hHeld => ?_)
            clear hK K
            try simp only [Act.put, List.setIfInBounds_toArray, List.set_cons_zero, List.set_cons_succ]
            refine wpAnyH_done (by kernel_rfl) ?_ _
            go_wp2_with fail
            go_meet
            exact ⟨val2, ⟨by have h_ := ixs_eq (HIc.out.drop (fs' := [(pb, (.cells #[.string pf0, .int .i64 pf1, .int .i64 pf20, .int .i64 pf21, .string pf22] 47 (0, 0))), (eb, (.cells #[.int .i64 f0, .int .i64 f1, .slice (some adf) f2.length cf] 41 (0, 0)))]) (by simp)) (HE2.out (.inr (.inr true)) (by simp)).symm (HE2.out (.inr (.inr false)) (by simp)).symm; rw [← HNN.out] at h_; exact h_⟩⟩
          refine AllReadyH.cons (o := { dst := some 76, op := Op.buildSlice 39 1 #[(0, Operand.tmp 75)], type := 39, pos := "index.go:24", after := #[{ on := 13, ground := Ground.data }], guard := none }) rfl (fun K hK => ?_) AllReadyH.nil
          go_simp
          (have HId := Aside0.mk (HIc.out.foreign (.cells #[.string pf0, .int .i64 pf1, .int .i64 pf20, .int .i64 pf21, .string pf22] 47 (0, 0))); clear HIc; have HIc := HId; clear HId)
          refine hK.out _ _ (by first | exact ⟨(cells4x HIc.out.heap).1.2.1, cells5x (HIc.out.fr (pb, (.cells #[.string pf0, .int .i64 pf1, .int .i64 pf20, .int .i64 pf21, .string pf22] 47 (0, 0))) (by simp)).1⟩ | exact ⟨by rw [cell_of_row _ _ _ _ _ _ ((K11.out.1 _ (by omega)).trans HIc.out.heap)]; rfl, cells5x (K11.out.2.1 (pb, (.cells #[.string pf0, .int .i64 pf1, .int .i64 pf20, .int .i64 pf21, .string pf22] 47 (0, 0))) (by simp)).1⟩) (fun hHeld => ?_)
          clear hK K
          try simp only [Act.put, List.setIfInBounds_toArray, List.set_cons_zero, List.set_cons_succ]
          refine wpAnyH_ready (rs := [12]) (by kernel_rfl) (by simp) ?_
          refine AllReadyH.cons (o := { dst := some 74, op := Op.lookup 51 (Operand.tmp 71) (Operand.tmp 73) false, type := 39, pos := "index.go:24", after := #[{ on := 9, ground := Ground.data }, { on := 11, ground := Ground.data }], guard := none }) rfl (fun K hK => ?_) AllReadyH.nil
          (refine step_lookup (by rfl) 51 (.tmp 71) (.tmp 73) false rfl (.map (some (w.heap.size + 1))) (.string pf0) rfl rfl _ (HIc.out.lookNm pf0 HKO.out.1.1 (zeroSP _)) ?_)
          refine hK.out _ _ (by first | exact ⟨(cells4x HIc.out.heap).1.2.1, cells5x (HIc.out.fr (pb, (.cells #[.string pf0, .int .i64 pf1, .int .i64 pf20, .int .i64 pf21, .string pf22] 47 (0, 0))) (by simp)).1⟩ | exact ⟨by rw [cell_of_row _ _ _ _ _ _ ((K11.out.1 _ (by omega)).trans HIc.out.heap)]; rfl, cells5x (K11.out.2.1 (pb, (.cells #[.string pf0, .int .i64 pf1, .int .i64 pf20, .int .i64 pf21, .string pf22] 47 (0, 0))) (by simp)).1⟩) (fun hHeld => ?_)
          clear hK K
          try simp only [Act.put, List.setIfInBounds_toArray, List.set_cons_zero, List.set_cons_succ]
          refine wpAnyH_ready (rs := [15]) (by kernel_rfl) (by simp) ?_
          refine AllReadyH.cons (o := { dst := some 77, op := Op.call { callee := Callee.builtin Builtin.append, args := #[Operand.tmp 74, Operand.tmp 76], argTypes := #[39, 39] }, type := 39, pos := "index.go:24", after := #[{ on := 12, ground := Ground.data }, { on := 14, ground := Ground.data }], guard := none }) rfl (fun K hK => ?_) AllReadyH.nil
          (refine step_app1 (w.heap.size + 3) (by rfl) (.tmp 74) (.tmp 76) 39 47 _ 5 56 rfl Try.underlying39 info47 rfl (by decide) (by decide) (val (.inr (.inl pf0))) (named (keysOf q) pf0).length ((named (keysOf q) pf0).flatMap predC) [.string pf0, .int .i64 pf1, .int .i64 pf20, .int .i64 pf21, .string pf22] _ _ rfl rfl (HIc.out.fr _ (List.mem_cons_self ..)).1 rfl (by simp [Value.oneCell']) (HIc.out.own.own (.inr (.inl pf0))) HIc.out.size (by have h1_ := named_len (keysOf q) pf0; have h2_ := keys_len q; have := HLQ.out; omega) ?_; intro v1 w1 hown hg hat; obtain ⟨W2, val2, hrun, hI, e2⟩ := HIc.out.putNm (⟨pf0, pf1, ⟨pf20, pf21, pf22⟩⟩ : S47) HKO.out.1.1 v1 hown hg hat (nmd' := named (keysOf (q ++ [((k : Int), (⟨pf0, pf1, ⟨pf20, pf21, pf22⟩⟩ : S47))]))) (by rw [HNK.out]; exact named_same _ _) (fun n hn => by rw [HNK.out]; exact named_other _ _ _ hn); have HR := Aside0.mk hrun; have HJ := Aside0.mk hI; have HE2 := Aside0.mk e2; have K11 := Aside0.mk (HIc.out.kept _ hg); clear hown hg hat hrun hI e2)
          refine hK.out _ _ (by first | exact ⟨(cells4x HIc.out.heap).1.2.1, cells5x (HIc.out.fr (pb, (.cells #[.string pf0, .int .i64 pf1, .int .i64 pf20, .int .i64 pf21, .string pf22] 47 (0, 0))) (by simp)).1⟩ | exact ⟨by rw [cell_of_row _ _ _ _ _ _ ((K11.out.1 _ (by omega)).trans HIc.out.heap)]; rfl, cells5x (K11.out.2.1 (pb, (.cells #[.string pf0, .int .i64 pf1, .int .i64 pf20, .int .i64 pf21, .string pf22] 47 (0, 0))) (by simp)).1⟩) (fun hHeld => ?_)
          clear hK K
          try simp only [Act.put, List.setIfInBounds_toArray, List.set_cons_zero, List.set_cons_succ]
          refine wpAnyH_ready (rs := [16]) (by kernel_rfl) (by simp) ?_
          refine AllReadyH.cons (o := { dst := none, op := Op.mapUpdate 51 (Operand.tmp 65) (Operand.tmp 67) (Operand.tmp 77), type := 0, pos := "index.go:24", after := #[{ on := 3, ground := Ground.data }, { on := 5, ground := Ground.data }, { on := 15, ground := Ground.data }, { on := 15, ground := Ground.chain }, { on := 0, ground := Ground.phase }, { on := 1, ground := Ground.phase }, { on := 2, ground := Ground.phase }, { on := 3, ground := Ground.phase }, { on := 4, ground := Ground.phase }, { on := 5, ground := Ground.phase }, { on := 6, ground := Ground.phase }, { on := 7, ground := Ground.phase }, { on := 8, ground := Ground.phase }, { on := 9, ground := Ground.phase }, { on := 10, ground := Ground.phase }, { on := 11, ground := Ground.phase }, { on := 12, ground := Ground.phase }, { on := 13, ground := Ground.phase }, { on := 14, ground := Ground.phase }, { on := 15, ground := Ground.phase }], guard := none }) rfl (fun K hK => ?_) AllReadyH.nil
          (refine step_mapUpdate (by rfl) 51 (.tmp 65) (.tmp 67) (.tmp 77) rfl (.map (some (w.heap.size + 1))) (.string pf0) v1 rfl rfl rfl W2 HR.out ?_; clear HIc; have HIc := HJ; clear HJ HR)
          refine hK.out _ _ (by first | exact ⟨(cells4x HIc.out.heap).1.2.1, cells5x (HIc.out.fr (pb, (.cells #[.string pf0, .int .i64 pf1, .int .i64 pf20, .int .i64 pf21, .string pf22] 47 (0, 0))) (by simp)).1⟩ | exact ⟨by rw [cell_of_row _ _ _ _ _ _ ((K11.out.1 _ (by omega)).trans HIc.out.heap)]; rfl, cells5x (K11.out.2.1 (pb, (.cells #[.string pf0, .int .i64 pf1, .int .i64 pf20, .int .i64 pf21, .string pf22] 47 (0, 0))) (by simp)).1⟩) (fun hHeld => ?_)
          clear hK K
          try simp only [Act.put, List.setIfInBounds_toArray, List.set_cons_zero, List.set_cons_succ]
          refine wpAnyH_done (by kernel_rfl) ?_ _
          go_wp2_with fail
          go_meet
          exact ⟨val2, ⟨by have h_ := ixs_eq (HIc.out.drop (fs' := [(pb, (.cells #[.string pf0, .int .i64 pf1, .int .i64 pf20, .int .i64 pf21, .string pf22] 47 (0, 0))), (eb, (.cells #[.int .i64 f0, .int .i64 f1, .slice (some adf) f2.length cf] 41 (0, 0)))]) (by simp)) (HE2.out (.inr (.inr true)) (by simp)).symm (HE2.out (.inr (.inr false)) (by simp)).symm; rw [← HNN.out] at h_; exact h_⟩⟩
      case rest =>
      obtain ⟨val', HIn⟩ := hcut
      clear HIc
      obtain ⟨val, hval⟩ : ∃ v, v = val' := ⟨_, rfl⟩
      rw [← hval] at HIn
      go_upto_region 12 with fail
      have HIc := Aside0.mk (HIn.out.step (below_drew (Below.refl _ _)))
      clear HIn hval
      refine wp_region_held_drew (S := (fun W => W.cell? ⟨w.heap.size + 2, 0, none⟩ = some (.map (some w.heap.size)) ∧ (W.cell? ⟨pb, 0, none⟩ = some (.string pf0) ∧ W.cell? ⟨pb, 1, none⟩ = some (.int .i64 pf1) ∧ W.cell? ⟨pb, 2, none⟩ = some (.int .i64 pf20) ∧ W.cell? ⟨pb, 3, none⟩ = some (.int .i64 pf21) ∧ W.cell? ⟨pb, 4, none⟩ = some (.string pf22)))) (by kernel_rfl) ⟨(cells4x HIc.out.heap).1.1, cells5x (HIc.out.fr (pb, (.cells #[.string pf0, .int .i64 pf1, .int .i64 pf20, .int .i64 pf21, .string pf22] 47 (0, 0))) (by simp)).1⟩ (fun hHeld => ?_)
      refine wpAnyH_take (i := 0) (oi := { dst := some 78, op := Op.move (Operand.tmp 3), type := 26, pos := "index.go:26", after := #[], guard := none }) (v := ?_) rfl (by kernel_rfl) (by kernel_rfl) (by kernel_rfl) (fun _ _ _ h => h) (Or.inl ⟨by rfl, ?_⟩) (by assumption) ?_
      rotate_left
      · intro w hSw
        try dsimp only at hSw
        go_simp
        all_goals with_reducible rfl
      try simp only [Act.put, List.setIfInBounds_toArray, List.set_cons_zero, List.set_cons_succ]
      refine wpAnyH_take (i := 1) (oi := { dst := some 79, op := Op.nilCheck (Operand.tmp 78), type := 0, pos := "index.go:26", after := #[{ on := 0, ground := Ground.data }], guard := none }) (v := ?_) rfl (by kernel_rfl) (by kernel_rfl) (by kernel_rfl) (fun _ _ _ h => h) (Or.inl ⟨by rfl, ?_⟩) (by assumption) ?_
      rotate_left
      · intro w hSw
        try dsimp only at hSw
        go_simp
        all_goals with_reducible rfl
      try simp only [Act.put, List.setIfInBounds_toArray, List.set_cons_zero, List.set_cons_succ]
      refine wpAnyH_take (i := 2) (oi := { dst := some 80, op := Op.fieldAddr 53 (Operand.tmp 79) 0, type := 0, pos := "index.go:26", after := #[{ on := 1, ground := Ground.data }], guard := none }) (v := ?_) rfl (by kernel_rfl) (by kernel_rfl) (by kernel_rfl) (fun _ _ _ h => h) (Or.inl ⟨by rfl, ?_⟩) (by assumption) ?_
      rotate_left
      · intro w hSw
        try dsimp only at hSw
        go_simp
        all_goals with_reducible rfl
      try simp only [Act.put, List.setIfInBounds_toArray, List.set_cons_zero, List.set_cons_succ]
      refine wpAnyH_take (i := 3) (oi := { dst := some 81, op := Op.load 50 (Operand.tmp 80), type := 50, pos := "index.go:26", after := #[{ on := 2, ground := Ground.data }], guard := none }) (v := ?_) rfl (by kernel_rfl) (by kernel_rfl) (by kernel_rfl) (fun _ _ _ h => h) (Or.inl ⟨by rfl, ?_⟩) (by assumption) ?_
      rotate_left
      · intro w hSw
        try dsimp only at hSw
        go_simp
        all_goals with_reducible rfl
      try simp only [Act.put, List.setIfInBounds_toArray, List.set_cons_zero, List.set_cons_succ]
      refine wpAnyH_take (i := 4) (oi := { dst := some 82, op := Op.load 47 (Operand.tmp 7), type := 47, pos := "index.go:26", after := #[], guard := none }) (v := ?_) rfl (by kernel_rfl) (by kernel_rfl) (by kernel_rfl) (fun _ _ _ h => h) (Or.inl ⟨by rfl, ?_⟩) (by assumption) ?_
      rotate_left
      · intro w hSw
        try dsimp only at hSw
        go_simp
        all_goals with_reducible rfl
      try simp only [Act.put, List.setIfInBounds_toArray, List.set_cons_zero, List.set_cons_succ]
      refine wpAnyH_take (i := 5) (oi := { dst := some 84, op := Op.move (Operand.tmp 4), type := 3, pos := "index.go:26", after := #[], guard := none }) (v := ?_) rfl (by kernel_rfl) (by kernel_rfl) (by kernel_rfl) (fun _ _ _ h => h) (Or.inl ⟨by rfl, ?_⟩) (by assumption) ?_
      rotate_left
      · intro w hSw
        try dsimp only at hSw
        go_simp
        all_goals with_reducible rfl
      try simp only [Act.put, List.setIfInBounds_toArray, List.set_cons_zero, List.set_cons_succ]
      refine wpAnyH_ready (rs := [6]) (by kernel_rfl) (by simp) ?_
      refine AllReadyH.cons (o := { dst := some 85, op := Op.buildSlice 32 1 #[(0, Operand.tmp 84)], type := 32, pos := "index.go:26", after := #[{ on := 5, ground := Ground.data }], guard := none }) rfl (fun K hK => ?_) AllReadyH.nil
      go_simp
      (have HId := Aside0.mk (HIc.out.foreign (.cells #[.int .i64 (k : Int)] 3 (0, 0))); clear HIc; have HIc := HId; clear HId)
      refine hK.out _ _ (by first | exact ⟨(cells4x HIc.out.heap).1.1, cells5x (HIc.out.fr (pb, (.cells #[.string pf0, .int .i64 pf1, .int .i64 pf20, .int .i64 pf21, .string pf22] 47 (0, 0))) (by simp)).1⟩ | exact ⟨by rw [cell_of_row _ _ _ _ _ _ ((K11.out.1 _ (by omega)).trans HIc.out.heap)]; rfl, cells5x (K11.out.2.1 (pb, (.cells #[.string pf0, .int .i64 pf1, .int .i64 pf20, .int .i64 pf21, .string pf22] 47 (0, 0))) (by simp)).1⟩) (fun hHeld => ?_)
      clear hK K
      try simp only [Act.put, List.setIfInBounds_toArray, List.set_cons_zero, List.set_cons_succ]
      refine wpAnyH_ready (rs := [7]) (by kernel_rfl) (by simp) ?_
      refine AllReadyH.cons (o := { dst := some 86, op := Op.mapEntry 50 (Operand.tmp 81) (Operand.tmp 82), type := 0, pos := "index.go:26", after := #[{ on := 3, ground := Ground.data }, { on := 4, ground := Ground.data }, { on := 0, ground := Ground.phase }, { on := 1, ground := Ground.phase }, { on := 2, ground := Ground.phase }, { on := 3, ground := Ground.phase }, { on := 4, ground := Ground.phase }, { on := 5, ground := Ground.phase }, { on := 6, ground := Ground.phase }], guard := none }) rfl (fun K hK => ?_) AllReadyH.nil
      (obtain ⟨W1, st, j', hrun, hg, hst, hj', hI⟩ := HIc.out.entryOf (⟨pf0, pf1, ⟨pf20, pf21, pf22⟩⟩ : S47) HKO.out (zeroSI _); refine step_mapEntry (by rfl) 50 (.tmp 81) (.tmp 82) rfl (.map (some w.heap.size)) (.agg #[.string pf0, .int .i64 pf1, .int .i64 pf20, .int .i64 pf21, .string pf22]) rfl rfl _ W1 hrun ?_; have HST := Aside0.mk hst; have HJ' := Aside0.mk hj'; have HId := Aside0.mk hI; clear HIc; have HIc := HId; clear HId; clear hrun hg hst hj' hI)
      refine hK.out _ _ (by first | exact ⟨(cells4x HIc.out.heap).1.1, cells5x (HIc.out.fr (pb, (.cells #[.string pf0, .int .i64 pf1, .int .i64 pf20, .int .i64 pf21, .string pf22] 47 (0, 0))) (by simp)).1⟩ | exact ⟨by rw [cell_of_row _ _ _ _ _ _ ((K11.out.1 _ (by omega)).trans HIc.out.heap)]; rfl, cells5x (K11.out.2.1 (pb, (.cells #[.string pf0, .int .i64 pf1, .int .i64 pf20, .int .i64 pf21, .string pf22] 47 (0, 0))) (by simp)).1⟩) (fun hHeld => ?_)
      clear hK K
      try simp only [Act.put, List.setIfInBounds_toArray, List.set_cons_zero, List.set_cons_succ]
      refine wpAnyH_take (i := 8) (oi := { dst := some 83, op := Op.extract (Operand.tmp 86) 0, type := 32, pos := "index.go:26", after := #[{ on := 7, ground := Ground.data }], guard := none }) (v := ?_) rfl (by kernel_rfl) (by kernel_rfl) (by kernel_rfl) (fun _ _ _ h => h) (Or.inl ⟨by rfl, ?_⟩) (by assumption) ?_
      rotate_left
      · intro w hSw
        try dsimp only at hSw
        go_simp
        all_goals with_reducible rfl
      try simp only [Act.put, List.setIfInBounds_toArray, List.set_cons_zero, List.set_cons_succ]
      refine wpAnyH_take (i := 10) (oi := { dst := some 88, op := Op.extract (Operand.tmp 86) 1, type := 3, pos := "index.go:26", after := #[{ on := 7, ground := Ground.data }], guard := none }) (v := ?_) rfl (by kernel_rfl) (by kernel_rfl) (by kernel_rfl) (fun _ _ _ h => h) (Or.inl ⟨by rfl, ?_⟩) (by assumption) ?_
      rotate_left
      · intro w hSw
        try dsimp only at hSw
        go_simp
        all_goals with_reducible rfl
      try simp only [Act.put, List.setIfInBounds_toArray, List.set_cons_zero, List.set_cons_succ]
      refine wpAnyH_ready (rs := [9]) (by kernel_rfl) (by simp) ?_
      refine AllReadyH.cons (o := { dst := some 87, op := Op.call { callee := Callee.builtin Builtin.append, args := #[Operand.tmp 83, Operand.tmp 85], argTypes := #[32, 32] }, type := 32, pos := "index.go:26", after := #[{ on := 8, ground := Ground.data }, { on := 6, ground := Ground.data }, { on := 7, ground := Ground.chain }], guard := none }) rfl (fun K hK => ?_) AllReadyH.nil
      (refine step_app1 (w.heap.size + 3) (by rfl) (.tmp 83) (.tmp 85) 32 3 _ 1 8 rfl Try.underlying32 info3 rfl (by decide) (by decide) (val (.inl (⟨pf0, pf1, ⟨pf20, pf21, pf22⟩⟩ : S47))) (occ q (⟨pf0, pf1, ⟨pf20, pf21, pf22⟩⟩ : S47)).length (intsV (occ q (⟨pf0, pf1, ⟨pf20, pf21, pf22⟩⟩ : S47))) [.int .i64 (k : Int)] _ _ rfl rfl (HIc.out.fr (_, .cells #[.int .i64 (k : Int)] 3 (0, 0)) (by simp)).1 rfl (by simp [Value.oneCell']) (HIc.out.own.own (.inl (⟨pf0, pf1, ⟨pf20, pf21, pf22⟩⟩ : S47))) HIc.out.size (by have h1_ := occ_len q (⟨pf0, pf1, ⟨pf20, pf21, pf22⟩⟩ : S47); have := HLQ.out; omega) ?_; intro v1 w1 hown hg hat; obtain ⟨W2, val2, hrun, hI, e2⟩ := HIc.out.putOf (⟨pf0, pf1, ⟨pf20, pf21, pf22⟩⟩ : S47) (k : Int) HST.out HJ'.out v1 hown hg hat (oc' := occ (q ++ [((k : Int), (⟨pf0, pf1, ⟨pf20, pf21, pf22⟩⟩ : S47))])) (occ_same _ _ _) (fun x hx => occ_other _ _ _ _ hx); have HR := Aside0.mk hrun; have HJ := Aside0.mk hI; have HE2 := Aside0.mk e2; have K11 := Aside0.mk (HIc.out.kept _ hg); clear hown hg hat hrun hI e2)
      refine hK.out _ _ (by first | exact ⟨(cells4x HIc.out.heap).1.1, cells5x (HIc.out.fr (pb, (.cells #[.string pf0, .int .i64 pf1, .int .i64 pf20, .int .i64 pf21, .string pf22] 47 (0, 0))) (by simp)).1⟩ | exact ⟨by rw [cell_of_row _ _ _ _ _ _ ((K11.out.1 _ (by omega)).trans HIc.out.heap)]; rfl, cells5x (K11.out.2.1 (pb, (.cells #[.string pf0, .int .i64 pf1, .int .i64 pf20, .int .i64 pf21, .string pf22] 47 (0, 0))) (by simp)).1⟩) (fun hHeld => ?_)
      clear hK K
      try simp only [Act.put, List.setIfInBounds_toArray, List.set_cons_zero, List.set_cons_succ]
      refine wpAnyH_ready (rs := [11]) (by kernel_rfl) (by simp) ?_
      refine AllReadyH.cons (o := { dst := none, op := Op.entryStore 50 (Operand.tmp 81) (Operand.tmp 88) (Operand.tmp 87), type := 0, pos := "index.go:26", after := #[{ on := 3, ground := Ground.data }, { on := 10, ground := Ground.data }, { on := 9, ground := Ground.data }, { on := 9, ground := Ground.chain }, { on := 0, ground := Ground.phase }, { on := 1, ground := Ground.phase }, { on := 2, ground := Ground.phase }, { on := 3, ground := Ground.phase }, { on := 4, ground := Ground.phase }, { on := 5, ground := Ground.phase }, { on := 6, ground := Ground.phase }, { on := 7, ground := Ground.phase }, { on := 8, ground := Ground.phase }, { on := 9, ground := Ground.phase }, { on := 10, ground := Ground.phase }], guard := none }) rfl (fun K hK => ?_) AllReadyH.nil
      (refine step_entryStore (by rfl) 50 (.tmp 81) (.tmp 88) (.tmp 87) rfl (.map (some w.heap.size)) (.int .i64 st) v1 rfl rfl rfl W2 HR.out ?_; clear HIc; have HIc := HJ; clear HJ HR)
      refine hK.out _ _ (by first | exact ⟨(cells4x HIc.out.heap).1.1, cells5x (HIc.out.fr (pb, (.cells #[.string pf0, .int .i64 pf1, .int .i64 pf20, .int .i64 pf21, .string pf22] 47 (0, 0))) (by simp)).1⟩ | exact ⟨by rw [cell_of_row _ _ _ _ _ _ ((K11.out.1 _ (by omega)).trans HIc.out.heap)]; rfl, cells5x (K11.out.2.1 (pb, (.cells #[.string pf0, .int .i64 pf1, .int .i64 pf20, .int .i64 pf21, .string pf22] 47 (0, 0))) (by simp)).1⟩) (fun hHeld => ?_)
      clear hK K
      try simp only [Act.put, List.setIfInBounds_toArray, List.set_cons_zero, List.set_cons_succ]
      refine wpAnyH_done (by kernel_rfl) ?_ _
      go_wp2_with fail
      have HQ := Aside0.mk (IxQ.mk (w := w) (fs := [(eb, (.cells #[.int .i64 f0, .int .i64 f1, .slice (some adf) f2.length cf] 41 (0, 0)))]) (q := q ++ [((k : Int), (⟨pf0, pf1, ⟨pf20, pf21, pf22⟩⟩ : S47))]) (ids := ids) (needs := needs) ⟨val2, by have h_ := ixs_eq (HIc.out.drop (fs' := [(eb, (.cells #[.int .i64 f0, .int .i64 f1, .slice (some adf) f2.length cf] 41 (0, 0)))]) (by simp)) (HE2.out (.inr (.inr true)) (by simp)).symm (HE2.out (.inr (.inr false)) (by simp)).symm; rw [keys_snoc] at h_ ⊢; exact h_⟩)
      exact ⟨⟨j + 1, by omega, by go_num, ⟨by have h_ := HQ.out; rw [← HQ1.out] at h_; exact h_⟩⟩, by simp [intOf]; omega⟩
end Go.Proofs.Ytbcnknmgljdmlaa
end

section
-- Written by a program of this session (wip/tools/myprint.py), over the kit's print.
namespace Go.Proofs.Ytbcnknmgljdmlaa.G
open Go.RowKit Go.Proofs.YtbcnknmgljdmlaaW.PrintWords Go.Proofs.YtbcnknmgljdmlaaW.PrintLast Go.Proofs.YtbcnknmgljdmlaaW.PrintMore
attribute [local go_sem] max2_int min2_int max_two min_two max_three min_three max_four min_four   -- for this text's walks alone
set_option linter.unusedVariables false
set_option linter.unusedSimpArgs false

/-! ### value_Right: function 30 -/
def value_Right.f (a0_0 : Int) (a0_1 : Int) (a0_2 : ByteArray) : Option (Bool) := if a0_0 = 1 then (some (a0_2.toList == ([] : List UInt8))) else (if a0_0 = 2 then (if a0_1 = 0 then (some (decide ((a0_2.size : Int) ≤ 64))) else (some false)) else (if a0_0 = 3 then (if a0_2.toList = ([] : List UInt8) then (some ((Go.bits .andNot .i64 a0_1 1) == 0)) else (some false)) else (some false)))
set_option maxHeartbeats 8000000 in
set_option maxRecDepth 100000 in
theorem value_Right.calls (a0_0 : Int) (a0_1 : Int) (a0_2 : ByteArray) (r : Bool) (w : World) (h : value_Right.f a0_0 a0_1 a0_2 = some r) :
    Calls Try.prog 30 #[.agg #[.int .i64 a0_0, .int .i64 a0_1, .string a0_2]] w fun e w' => e = .returned (.bool r) ∧ Below w.heap.size w w' := by
  have hu45 := Try.underlying45
  have HB := Aside0.mk (Below.refl w.heap.size w)
  have H : (if a0_0 = 1 then (some (a0_2.toList == ([] : List UInt8))) else (if a0_0 = 2 then (if a0_1 = 0 then (some (decide ((a0_2.size : Int) ≤ 64))) else (some false)) else (if a0_0 = 3 then (if a0_2.toList = ([] : List UInt8) then (some ((Go.bits .andNot .i64 a0_1 1) == 0)) else (some false)) else (some false)))) = some r := h
  clear h
  by_cases c2 : a0_0 = 1
  · rw [if_pos c2] at H
    have c2b0 : (a0_0 == 1) = true := beq_iff_eq.mpr c2
    have c2b1 : (a0_0 != 1) = false := bne_eq_false_iff_eq.mpr c2
    clear c2
    obtain rfl := Option.some.inj H
    go_enter Try.func30, Try.ntmps30
    go_wp2_with (first | ((with_reducible refine gate_dst (N := 1) rfl ?_); (try (refine gate_guard (by rfl) ?_; dsimp only)); refine box_event ?hg (N := 1) ?hd (cs := #[.int .i64 a0_0, .int .i64 a0_1, .string a0_2]) (t := 45) ?hr ?_; (case hd => rfl); (case hg => rfl); (case hr => first | (go_simp; done) | (go_simp; rfl)); intro gb101 hg w3 hbox hb; have n0_ := Aside0.mk (below_step (by repeat (first | (with_reducible first | exact HB.out | apply below_alloc | apply pw_below_drewN | apply below_drew1) | exact HB.out)) hb); have n1_ := Aside0.mk (hbox); have n2_ := Aside0.mk ((by rw [hg]; exact (below_size (by repeat (first | (with_reducible first | exact HB.out | apply below_alloc | apply pw_below_drewN | apply below_drew1) | exact HB.out))) : w.heap.size ≤ gb101)); have n3_ := Aside0.mk ((by rw [hg]; exact (below_size (by repeat (first | (with_reducible first | exact HB.out | apply below_alloc | apply pw_below_drewN | apply below_drew1) | exact HB.out))) : w.heap.size ≤ gb101)); clear HB; have HB := n0_; have BK101 := n1_; have GW101 := n2_; have GE101 := n3_; clear n0_ n1_ n2_ n3_; clear hb hbox hg; have hcz4_0 : w3.cell? ⟨gb101, 0, none⟩ = some (.int .i64 a0_0) := (blk_cell BK101.out 0).trans rfl; have hcz4_1 : w3.cell? ⟨gb101, 1, none⟩ = some (.int .i64 a0_1) := (blk_cell BK101.out 1).trans rfl; have hcz4_2 : w3.cell? ⟨gb101, 2, none⟩ = some (.string a0_2) := (blk_cell BK101.out 2).trans rfl; have hfz4_0 := blk_frozen BK101.out 0; have hfz4_1 := blk_frozen BK101.out 1; have hfz4_2 := blk_frozen BK101.out 2))
    go_ret
    exact ⟨by first | rfl | (simp [errW_none, errW_some] <;> rfl) | (simp [*, errW_none, errW_some] <;> rfl), by repeat (first | (with_reducible first | exact HB.out | apply below_alloc | apply pw_below_drewN | apply below_drew1 | refine below_set ?_ GE101.out) | exact HB.out)⟩
  · rw [if_neg c2] at H
    have c2b0 : (a0_0 == 1) = false := beq_eq_false_iff_ne.mpr c2
    have c2b1 : (a0_0 != 1) = true := bne_iff_ne.mpr c2
    by_cases c5 : a0_0 = 2
    · rw [if_pos c5] at H
      have c5b0 : (a0_0 == 2) = true := beq_iff_eq.mpr c5
      have c5b1 : (a0_0 != 2) = false := bne_eq_false_iff_eq.mpr c5
      clear c5
      by_cases c6 : a0_1 = 0
      · rw [if_pos c6] at H
        have c6b0 : (a0_1 == 0) = true := beq_iff_eq.mpr c6
        have c6b1 : (a0_1 != 0) = false := bne_eq_false_iff_eq.mpr c6
        clear c6
        obtain rfl := Option.some.inj H
        go_enter Try.func30, Try.ntmps30
        go_wp2_with (first | ((with_reducible refine gate_dst (N := 1) rfl ?_); (try (refine gate_guard (by rfl) ?_; dsimp only)); refine box_event ?hg (N := 1) ?hd (cs := #[.int .i64 a0_0, .int .i64 a0_1, .string a0_2]) (t := 45) ?hr ?_; (case hd => rfl); (case hg => rfl); (case hr => first | (go_simp; done) | (go_simp; rfl)); intro gb101 hg w7 hbox hb; have n0_ := Aside0.mk (below_step (by repeat (first | (with_reducible first | exact HB.out | apply below_alloc | apply pw_below_drewN | apply below_drew1) | exact HB.out)) hb); have n1_ := Aside0.mk (hbox); have n2_ := Aside0.mk ((by rw [hg]; exact (below_size (by repeat (first | (with_reducible first | exact HB.out | apply below_alloc | apply pw_below_drewN | apply below_drew1) | exact HB.out))) : w.heap.size ≤ gb101)); have n3_ := Aside0.mk ((by rw [hg]; exact (below_size (by repeat (first | (with_reducible first | exact HB.out | apply below_alloc | apply pw_below_drewN | apply below_drew1) | exact HB.out))) : w.heap.size ≤ gb101)); clear HB; have HB := n0_; have BK101 := n1_; have GW101 := n2_; have GE101 := n3_; clear n0_ n1_ n2_ n3_; clear hb hbox hg; have hcz8_0 : w7.cell? ⟨gb101, 0, none⟩ = some (.int .i64 a0_0) := (blk_cell BK101.out 0).trans rfl; have hcz8_1 : w7.cell? ⟨gb101, 1, none⟩ = some (.int .i64 a0_1) := (blk_cell BK101.out 1).trans rfl; have hcz8_2 : w7.cell? ⟨gb101, 2, none⟩ = some (.string a0_2) := (blk_cell BK101.out 2).trans rfl; have hfz8_0 := blk_frozen BK101.out 0; have hfz8_1 := blk_frozen BK101.out 1; have hfz8_2 := blk_frozen BK101.out 2))
        go_ret
        exact ⟨by first | rfl | (simp [errW_none, errW_some] <;> rfl) | (simp [*, errW_none, errW_some] <;> rfl), by repeat (first | (with_reducible first | exact HB.out | apply below_alloc | apply pw_below_drewN | apply below_drew1 | refine below_set ?_ GE101.out) | exact HB.out)⟩
      · rw [if_neg c6] at H
        have c6b0 : (a0_1 == 0) = false := beq_eq_false_iff_ne.mpr c6
        have c6b1 : (a0_1 != 0) = true := bne_iff_ne.mpr c6
        obtain rfl := Option.some.inj H
        go_enter Try.func30, Try.ntmps30
        go_wp2_with (first | ((with_reducible refine gate_dst (N := 1) rfl ?_); (try (refine gate_guard (by rfl) ?_; dsimp only)); refine box_event ?hg (N := 1) ?hd (cs := #[.int .i64 a0_0, .int .i64 a0_1, .string a0_2]) (t := 45) ?hr ?_; (case hd => rfl); (case hg => rfl); (case hr => first | (go_simp; done) | (go_simp; rfl)); intro gb101 hg w9 hbox hb; have n0_ := Aside0.mk (below_step (by repeat (first | (with_reducible first | exact HB.out | apply below_alloc | apply pw_below_drewN | apply below_drew1) | exact HB.out)) hb); have n1_ := Aside0.mk (hbox); have n2_ := Aside0.mk ((by rw [hg]; exact (below_size (by repeat (first | (with_reducible first | exact HB.out | apply below_alloc | apply pw_below_drewN | apply below_drew1) | exact HB.out))) : w.heap.size ≤ gb101)); have n3_ := Aside0.mk ((by rw [hg]; exact (below_size (by repeat (first | (with_reducible first | exact HB.out | apply below_alloc | apply pw_below_drewN | apply below_drew1) | exact HB.out))) : w.heap.size ≤ gb101)); clear HB; have HB := n0_; have BK101 := n1_; have GW101 := n2_; have GE101 := n3_; clear n0_ n1_ n2_ n3_; clear hb hbox hg; have hcz10_0 : w9.cell? ⟨gb101, 0, none⟩ = some (.int .i64 a0_0) := (blk_cell BK101.out 0).trans rfl; have hcz10_1 : w9.cell? ⟨gb101, 1, none⟩ = some (.int .i64 a0_1) := (blk_cell BK101.out 1).trans rfl; have hcz10_2 : w9.cell? ⟨gb101, 2, none⟩ = some (.string a0_2) := (blk_cell BK101.out 2).trans rfl; have hfz10_0 := blk_frozen BK101.out 0; have hfz10_1 := blk_frozen BK101.out 1; have hfz10_2 := blk_frozen BK101.out 2))
        go_ret
        exact ⟨by first | rfl | (simp [errW_none, errW_some] <;> rfl) | (simp [*, errW_none, errW_some] <;> rfl), by repeat (first | (with_reducible first | exact HB.out | apply below_alloc | apply pw_below_drewN | apply below_drew1 | refine below_set ?_ GE101.out) | exact HB.out)⟩
    · rw [if_neg c5] at H
      have c5b0 : (a0_0 == 2) = false := beq_eq_false_iff_ne.mpr c5
      have c5b1 : (a0_0 != 2) = true := bne_iff_ne.mpr c5
      by_cases c11 : a0_0 = 3
      · rw [if_pos c11] at H
        have c11b0 : (a0_0 == 3) = true := beq_iff_eq.mpr c11
        have c11b1 : (a0_0 != 3) = false := bne_eq_false_iff_eq.mpr c11
        clear c11
        by_cases c12 : a0_2.toList = ([] : List UInt8)
        · rw [if_pos c12] at H
          have c12b0 : (a0_2.toList == ([] : List UInt8)) = true := beq_iff_eq.mpr c12
          have c12b1 : (a0_2.toList != ([] : List UInt8)) = false := bne_eq_false_iff_eq.mpr c12
          clear c12
          obtain rfl := Option.some.inj H
          go_enter Try.func30, Try.ntmps30
          go_wp2_with (first | ((with_reducible refine gate_dst (N := 1) rfl ?_); (try (refine gate_guard (by rfl) ?_; dsimp only)); refine box_event ?hg (N := 1) ?hd (cs := #[.int .i64 a0_0, .int .i64 a0_1, .string a0_2]) (t := 45) ?hr ?_; (case hd => rfl); (case hg => rfl); (case hr => first | (go_simp; done) | (go_simp; rfl)); intro gb101 hg w13 hbox hb; have n0_ := Aside0.mk (below_step (by repeat (first | (with_reducible first | exact HB.out | apply below_alloc | apply pw_below_drewN | apply below_drew1) | exact HB.out)) hb); have n1_ := Aside0.mk (hbox); have n2_ := Aside0.mk ((by rw [hg]; exact (below_size (by repeat (first | (with_reducible first | exact HB.out | apply below_alloc | apply pw_below_drewN | apply below_drew1) | exact HB.out))) : w.heap.size ≤ gb101)); have n3_ := Aside0.mk ((by rw [hg]; exact (below_size (by repeat (first | (with_reducible first | exact HB.out | apply below_alloc | apply pw_below_drewN | apply below_drew1) | exact HB.out))) : w.heap.size ≤ gb101)); clear HB; have HB := n0_; have BK101 := n1_; have GW101 := n2_; have GE101 := n3_; clear n0_ n1_ n2_ n3_; clear hb hbox hg; have hcz14_0 : w13.cell? ⟨gb101, 0, none⟩ = some (.int .i64 a0_0) := (blk_cell BK101.out 0).trans rfl; have hcz14_1 : w13.cell? ⟨gb101, 1, none⟩ = some (.int .i64 a0_1) := (blk_cell BK101.out 1).trans rfl; have hcz14_2 : w13.cell? ⟨gb101, 2, none⟩ = some (.string a0_2) := (blk_cell BK101.out 2).trans rfl; have hfz14_0 := blk_frozen BK101.out 0; have hfz14_1 := blk_frozen BK101.out 1; have hfz14_2 := blk_frozen BK101.out 2))
          go_ret
          exact ⟨by first | rfl | (simp [errW_none, errW_some] <;> rfl) | (simp [*, errW_none, errW_some] <;> rfl), by repeat (first | (with_reducible first | exact HB.out | apply below_alloc | apply pw_below_drewN | apply below_drew1 | refine below_set ?_ GE101.out) | exact HB.out)⟩
        · rw [if_neg c12] at H
          have c12b0 : (a0_2.toList == ([] : List UInt8)) = false := beq_eq_false_iff_ne.mpr c12
          have c12b1 : (a0_2.toList != ([] : List UInt8)) = true := bne_iff_ne.mpr c12
          obtain rfl := Option.some.inj H
          go_enter Try.func30, Try.ntmps30
          go_wp2_with (first | ((with_reducible refine gate_dst (N := 1) rfl ?_); (try (refine gate_guard (by rfl) ?_; dsimp only)); refine box_event ?hg (N := 1) ?hd (cs := #[.int .i64 a0_0, .int .i64 a0_1, .string a0_2]) (t := 45) ?hr ?_; (case hd => rfl); (case hg => rfl); (case hr => first | (go_simp; done) | (go_simp; rfl)); intro gb101 hg w15 hbox hb; have n0_ := Aside0.mk (below_step (by repeat (first | (with_reducible first | exact HB.out | apply below_alloc | apply pw_below_drewN | apply below_drew1) | exact HB.out)) hb); have n1_ := Aside0.mk (hbox); have n2_ := Aside0.mk ((by rw [hg]; exact (below_size (by repeat (first | (with_reducible first | exact HB.out | apply below_alloc | apply pw_below_drewN | apply below_drew1) | exact HB.out))) : w.heap.size ≤ gb101)); have n3_ := Aside0.mk ((by rw [hg]; exact (below_size (by repeat (first | (with_reducible first | exact HB.out | apply below_alloc | apply pw_below_drewN | apply below_drew1) | exact HB.out))) : w.heap.size ≤ gb101)); clear HB; have HB := n0_; have BK101 := n1_; have GW101 := n2_; have GE101 := n3_; clear n0_ n1_ n2_ n3_; clear hb hbox hg; have hcz16_0 : w15.cell? ⟨gb101, 0, none⟩ = some (.int .i64 a0_0) := (blk_cell BK101.out 0).trans rfl; have hcz16_1 : w15.cell? ⟨gb101, 1, none⟩ = some (.int .i64 a0_1) := (blk_cell BK101.out 1).trans rfl; have hcz16_2 : w15.cell? ⟨gb101, 2, none⟩ = some (.string a0_2) := (blk_cell BK101.out 2).trans rfl; have hfz16_0 := blk_frozen BK101.out 0; have hfz16_1 := blk_frozen BK101.out 1; have hfz16_2 := blk_frozen BK101.out 2))
          go_ret
          exact ⟨by first | rfl | (simp [errW_none, errW_some] <;> rfl) | (simp [*, errW_none, errW_some] <;> rfl), by repeat (first | (with_reducible first | exact HB.out | apply below_alloc | apply pw_below_drewN | apply below_drew1 | refine below_set ?_ GE101.out) | exact HB.out)⟩
      · rw [if_neg c11] at H
        have c11b0 : (a0_0 == 3) = false := beq_eq_false_iff_ne.mpr c11
        have c11b1 : (a0_0 != 3) = true := bne_iff_ne.mpr c11
        obtain rfl := Option.some.inj H
        go_enter Try.func30, Try.ntmps30
        go_wp2_with (first | ((with_reducible refine gate_dst (N := 1) rfl ?_); (try (refine gate_guard (by rfl) ?_; dsimp only)); refine box_event ?hg (N := 1) ?hd (cs := #[.int .i64 a0_0, .int .i64 a0_1, .string a0_2]) (t := 45) ?hr ?_; (case hd => rfl); (case hg => rfl); (case hr => first | (go_simp; done) | (go_simp; rfl)); intro gb101 hg w17 hbox hb; have n0_ := Aside0.mk (below_step (by repeat (first | (with_reducible first | exact HB.out | apply below_alloc | apply pw_below_drewN | apply below_drew1) | exact HB.out)) hb); have n1_ := Aside0.mk (hbox); have n2_ := Aside0.mk ((by rw [hg]; exact (below_size (by repeat (first | (with_reducible first | exact HB.out | apply below_alloc | apply pw_below_drewN | apply below_drew1) | exact HB.out))) : w.heap.size ≤ gb101)); have n3_ := Aside0.mk ((by rw [hg]; exact (below_size (by repeat (first | (with_reducible first | exact HB.out | apply below_alloc | apply pw_below_drewN | apply below_drew1) | exact HB.out))) : w.heap.size ≤ gb101)); clear HB; have HB := n0_; have BK101 := n1_; have GW101 := n2_; have GE101 := n3_; clear n0_ n1_ n2_ n3_; clear hb hbox hg; have hcz18_0 : w17.cell? ⟨gb101, 0, none⟩ = some (.int .i64 a0_0) := (blk_cell BK101.out 0).trans rfl; have hcz18_1 : w17.cell? ⟨gb101, 1, none⟩ = some (.int .i64 a0_1) := (blk_cell BK101.out 1).trans rfl; have hcz18_2 : w17.cell? ⟨gb101, 2, none⟩ = some (.string a0_2) := (blk_cell BK101.out 2).trans rfl; have hfz18_0 := blk_frozen BK101.out 0; have hfz18_1 := blk_frozen BK101.out 1; have hfz18_2 := blk_frozen BK101.out 2))
        go_ret
        exact ⟨by first | rfl | (simp [errW_none, errW_some] <;> rfl) | (simp [*, errW_none, errW_some] <;> rfl), by repeat (first | (with_reducible first | exact HB.out | apply below_alloc | apply pw_below_drewN | apply below_drew1 | refine below_set ?_ GE101.out) | exact HB.out)⟩

end Go.Proofs.Ytbcnknmgljdmlaa.G
end

section
-- Written by a program of this session (wip/tools/myprint.py), over the kit's print.
namespace Go.Proofs.Ytbcnknmgljdmlaa.G
open Go.RowKit Go.Proofs.YtbcnknmgljdmlaaW.PrintWords Go.Proofs.YtbcnknmgljdmlaaW.PrintLast Go.Proofs.YtbcnknmgljdmlaaW.PrintMore
attribute [local go_sem] max2_int min2_int max_two min_two max_three min_three max_four min_four   -- for this text's walks alone
set_option linter.unusedVariables false
set_option linter.unusedSimpArgs false

theorem eqA45 (d : Nat) (w : World) (x0 y0 : Int) (x1 y1 : Int) (x2 y2 : ByteArray) :
    (Op.equalIn (d + 2) 45 (.agg #[.int .i64 x0, .int .i64 x1, .string x2]) (.agg #[.int .i64 y0, .int .i64 y1, .string y2])).run Try.prog w = .ok (x0 == y0 && (x1 == y1 && (x2.toList == y2.toList))) w := by
  refine eqA_of Try.underlying45 (by kernel_rfl) ?_
  refine eqf_cons (by rfl) (by go_simp; rfl) (by go_simp; rfl) (by go_simp) ?_
  refine eqf_cons (by rfl) (by go_simp; rfl) (by go_simp; rfl) (by go_simp) ?_
  exact eqf_last (by rfl) (by go_simp; rfl) (by go_simp; rfl) (by go_simp)
end Go.Proofs.Ytbcnknmgljdmlaa.G
end
