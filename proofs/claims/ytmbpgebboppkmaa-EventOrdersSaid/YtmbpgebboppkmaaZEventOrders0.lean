import Derived.Test.YtmbpgebboppkmaaWWords
import Derived.Test.YtmbpgebboppkmaaWLast
import Derived.Laws.CopyOwn
import Derived.Laws.Tables
import Derived.Lib.SliceRun
import Derived.ArgAppend
import Derived.Lib.SlBytesConst
import Derived.Test.YtmbpgebboppkmaaProg
import Derived.Below
import Derived.Deep.Draws
import Derived.Deep.AppendLies
import Derived.Maps.AppendAt
import Derived.OwnWalk
import Derived.Laws.BytesArg
import Derived.Laws.MakeOwn
import Derived.Laws.OwnMore
import Derived.Deep.OwnRows
import Derived.Tactics
import Derived.Lib.ConvBytes
import Derived.Laws.Slices
import Derived.WalkKit
import Derived.KernelRfl
import Derived.RowKit3
import Derived.Deep.LoopGhost
import Derived.Deep.QuietTactic
import Derived.BigQuiet
import Derived.WideLaws
import Derived.Deep.DeepCutAuto
import Derived.Deep.CutBlock
import Derived.Deep.RegionHeld3
import Derived.Laws.Rows
import Derived.Lib.AppendStr
import Derived.Laws.IdiomCopy
import Derived.OrdersHeld
import Derived.Laws.BitsLemmas
import Derived.RowKit
import Derived.Test.YtmbpgebboppkmaaWTab
import Derived.Test.YtmbpgebboppkmaaWEqStruct
import Derived.Test.YtmbpgebboppkmaaWRepsOne
import Derived.Test.YtmbpgebboppkmaaWGuard
import Derived.RangeFuncNested
import Derived.RangeFuncBound
import Derived.RangeFuncCalls
import Derived.RangeFuncLeaves
import Derived.RangeFuncBox
import Derived.Shelf.Abstract
import Derived.Shelf.RegionOpen
import Derived.OwnWalkIn
import Derived.TacticsInMore
import Derived.LoopNIn
import Derived.LoopIn
import Derived.Lib.Strings
import Derived.Lib.Slices
import Derived.Lib.Walk
import Derived.Lib.Bytealg
import Derived.Shelf.SlSortCmp.InsertionK
import Derived.Shelf.SlLaysF0
import Derived.Maps.Own
import Derived.DeepKeys4
import Derived.Deep.RegionHeld
import Derived.Shelf.SlSortCmp.WholeK
import Derived.Shelf.SlSortCmp.NoneTotal
section
namespace Go.Proofs.YtmbpgebboppkmaaW.PrintMore
open Go.RowKit Go.Proofs.YtmbpgebboppkmaaW.PrintWords
/-- 'max' and 'min' of two whole numbers. -/
theorem max2_int (k k' : IntKind) (x y : Int) : Builtin.max2 (.int k x) (.int k' y) = pure (.int k (if x < y then y else x)) := by simp only [Builtin.max2, gt_iff_lt]
theorem min2_int (k k' : IntKind) (x y : Int) : Builtin.min2 (.int k x) (.int k' y) = pure (.int k (if y < x then y else x)) := by simp only [Builtin.min2]
theorem max_two (ats : Array TypeId) (ty : TypeId) (a b : Value) : Builtin.max_ ats ty #[a, b] = (Builtin.max2 a b >>= fun s => pure s) := by simp only [Builtin.max_, List.foldlM_cons, List.foldlM_nil]
theorem min_two (ats : Array TypeId) (ty : TypeId) (a b : Value) : Builtin.min_ ats ty #[a, b] = (Builtin.min2 a b >>= fun s => pure s) := by simp only [Builtin.min_, List.foldlM_cons, List.foldlM_nil]
theorem max_three (ats : Array TypeId) (ty : TypeId) (a b c : Value) : Builtin.max_ ats ty #[a, b, c] = (Builtin.max2 a b >>= fun s => Builtin.max2 s c >>= fun s => pure s) := by simp only [Builtin.max_, List.foldlM_cons, List.foldlM_nil]
theorem min_three (ats : Array TypeId) (ty : TypeId) (a b c : Value) : Builtin.min_ ats ty #[a, b, c] = (Builtin.min2 a b >>= fun s => Builtin.min2 s c >>= fun s => pure s) := by simp only [Builtin.min_, List.foldlM_cons, List.foldlM_nil]
theorem max_four (ats : Array TypeId) (ty : TypeId) (a b c d : Value) : Builtin.max_ ats ty #[a, b, c, d] = (Builtin.max2 a b >>= fun s => Builtin.max2 s c >>= fun s => Builtin.max2 s d >>= fun s => pure s) := by simp only [Builtin.max_, List.foldlM_cons, List.foldlM_nil]
theorem min_four (ats : Array TypeId) (ty : TypeId) (a b c d : Value) : Builtin.min_ ats ty #[a, b, c, d] = (Builtin.min2 a b >>= fun s => Builtin.min2 s c >>= fun s => Builtin.min2 s d >>= fun s => pure s) := by simp only [Builtin.min_, List.foldlM_cons, List.foldlM_nil]
end Go.Proofs.YtmbpgebboppkmaaW.PrintMore
namespace Go.Proofs.YtmbpgebboppkmaaW.PrintWords
open Go.RowKit
section
variable {P : Program} {ops : Array Oper} {rest : List Oper} {o : Oper} {a : Act} {Q : Exit → Act → World → Prop} {W : World}
/-- The operation is a call of this function (a cheap look ahead of a dear step). -/
theorem gate_callee {f : FuncId} {xs : Array Operand} {ts : Array TypeId} (_ho : o.op = .call { callee := .value (.func f), args := xs, argTypes := ts }) (h : wpList P ops Q (o :: rest) a W) : wpList P ops Q (o :: rest) a W := h
/-- The operation is a builtin over these places. -/
theorem gate_builtin {b : Builtin} {xs : Array Operand} {ts : Array TypeId} (_ho : o.op = .call { callee := .builtin b, args := xs, argTypes := ts }) (h : wpList P ops Q (o :: rest) a W) : wpList P ops Q (o :: rest) a W := h
end
/-- A call's arguments, spelled otherwise. -/
theorem calls_of_args {P : Program} {f : FuncId} {args args' : Array Value} {w : World} {Q : Ending → World → Prop} (h : args = args') (hc : Calls P f args' w Q) : Calls P f args w Q := h ▸ hc
/-- The greater of two whole numbers, xs Go's max tells it. -/
def mx (a b : Int) : Int := if a < b then b else a
/-- The smaller of two whole numbers, xs Go's min tells it. -/
def mn (a b : Int) : Int := if b < a then b else a
/-- A shift to the left, xs Go tells it: a count beyond the width leaves nothing. -/
def shl (k : IntKind) (x y : Int) : Int := k.wrap (x * 2 ^ min y.toNat k.bits)
/-- A shift to the right: a count beyond the width leaves the sign. -/
def shr (k : IntKind) (x y : Int) : Int := x / 2 ^ min y.toNat k.bits
theorem shl_small {k : IntKind} {x y j : Int} (h : shl k x y = j) (hy : y ≤ k.bits) : k.wrap (x * 2 ^ y.toNat) = j := by rw [← h]; unfold shl; rw [Nat.min_eq_left (by omega)]
theorem shr_small {k : IntKind} {x y j : Int} (h : shr k x y = j) (hy : y ≤ k.bits) : x / 2 ^ y.toNat = j := by rw [← h]; unfold shr; rw [Nat.min_eq_left (by omega)]
end Go.Proofs.YtmbpgebboppkmaaW.PrintWords
end

section
set_option linter.unusedVariables false
set_option linter.unusedSimpArgs false
namespace Go.Proofs.Ytmbpgebboppkmaa
open Go.RowKit Go.Proofs.YtmbpgebboppkmaaW.PrintWords Go.Proofs.YtmbpgebboppkmaaW.PrintLast Go.Proofs.YtmbpgebboppkmaaW.PrintMore

theorem kd_own {W : World} {base e : Nat} {k : IntKind} {ok : Nat → Prop} {v : Value} {xs : List Int} (h : (Kd.int k).R e W base ok v xs) : W.ownsRow base e 1 v xs.length (nums k xs) := Kd.own_of_R h
theorem kd_R {W : World} {base e : Nat} {k : IntKind} {v : Value} {xs : List Int} (h : W.ownsRow base e 1 v xs.length (nums k xs)) : (Kd.int k).R e W base (fun _ => True) v xs := Kd.R_of_own h (fun _ _ => trivial)

section
variable {P : Program} {ops : Array Oper} {rest : List Oper} {o : Oper} {a : Act} {Q : Exit → Act → World → Prop}
/-- append(v, y), one whole number, to a row of the call's own -/
theorem app_num {w0 W : World} (base : Nat) (hgd : o.guard = none) (s x : Operand) (t e : TypeId) (k : IntKind) (bytes : Nat)
    (ho : o.op = .call { callee := .builtin .append, args := #[s, x], argTypes := #[t, t] })
    (ht : P.underlying t = some (.slice e)) (hinfo : (P.info? e).map (fun i => (i.zero, i.size, i.bytes)) = some (some (.int k 0), 1, bytes)) (hb0 : 0 < bytes)
    (v : Value) (xs : List Int) (y : Int) (hs : a.eval s = v) (hx : a.eval x = .slice (some ⟨W.heap.size, 0, none⟩) 1 1)
    (HO : (Kd.int k).R e W base (fun _ => True) v xs) (HB : Below base w0 W) (hbase : base ≤ W.heap.size) (hl : (xs.length + 1) * bytes ≤ 140737488355328)
    (h : ∀ v1 w1, Aside0 ((Kd.int k).R e w1 base (fun _ => True) v1 (xs ++ [y])) → Below base w0 w1 → wpList P ops Q rest (a.put o.dst v1) w1) :
    wpList P ops Q (o :: rest) a (W.alloc (.cells #[.int k y] e)) :=
  print_append_num base hgd s x t e k bytes ho ht hinfo hb0 v xs y hs hx (kd_own HO) HB hbase hl fun v1 w1 ho hB _ _ => h v1 w1 ⟨kd_R ho⟩ hB

/-- copy(dst, src) where dst is as long as src and was just made: what dst then is -/
theorem copy_made {w0 W : World} (base : Nat) (hgd : o.guard = none) (d s : Operand) (dT sT e : TypeId) (k : IntKind)
    (ho : o.op = .call { callee := .builtin .copy, args := #[d, s], argTypes := #[dT, sT] })
    (hu : P.underlying dT = some (.slice e)) (hsz : (P.info? e).map (·.size) = some 1)
    (g n dc C : Nat) (A : Option Addr) (c : Nat) (xs : List Int) (hn : xs.length = n)
    (hd : a.eval d = .slice (some ⟨g, 0, none⟩) n dc) (hs : a.eval s = .slice A n c)
    (hg : W.heap[g]? = some (.cells (madeCells #[.int k 0] C) e (0, 0))) (hC : dc = C) (hnC : n ≤ C) (hC2 : C ≤ maxLen)
    (hr : (Kd.int k).C W A n xs) (HB : Below base w0 W) (hbg : base ≤ g)
    (h : ∀ w1, Aside0 ((Kd.int k).R e w1 base (fun _ => True) (.slice (some ⟨g, 0, none⟩) n dc) xs) → Below base w0 w1 → wpList P ops Q rest (a.put o.dst (goInt n)) w1) :
    wpList P ops Q (o :: rest) a W := by
  subst hC
  have hreads := Kd.reads_of_C (d := (0 : Int)) hr
  have hlen : (nums k xs).length = n := by rw [nums_length]; exact hn
  have hcl : (madeCells #[.int k 0] dc).toList.length = dc := by simp [madeCells]
  refine wpList_copy_splice hgd d s dT sT ho e hu hsz (some ⟨g, 0, none⟩) A n dc n c hd hs g 0 (madeCells #[.int k 0] dc).toList e (by simpa using hg) (nums k xs) (by rw [hlen]; simp) ?_ (by rw [hlen, hcl]; omega) ?_ base w0 HB hbg ?_
  · intro h0
    refine ⟨rfl, ?_⟩
    obtain ⟨ad, hA, hc⟩ := hreads.2.2 (by omega)
    refine ⟨ad, hA, fun j v hj => ?_⟩
    simp only [nums, List.getElem?_map, Option.map_eq_some_iff] at hj
    obtain ⟨x, hx, rfl⟩ := hj
    have hjn : j < n := by have := (List.getElem?_eq_some_iff.1 hx).1; omega
    have := hc j hjn
    rw [List.getD_eq_getElem?_getD, hx] at this
    simpa using this
  · intro v hv
    simp only [nums, List.mem_map] at hv
    obtain ⟨x, _, rfl⟩ := hv
    rfl
  · intro w1 H1 hB1
    rw [hlen]
    refine h w1 ⟨kd_R ⟨by rw [hlen, hn]; simp, .inr ⟨g, dc, _, by rw [hn], hbg, H1.out, by omega, hC2, ?_, ?_⟩⟩⟩ hB1
    · have := length_splice (madeCells #[.int k 0] dc).toList 0 (nums k xs) (by rw [hlen, hcl]; omega)
      simp only [List.size_toArray]
      rw [this, hcl, Nat.mul_one]
    · simp only [splice, List.take_zero, List.nil_append, Nat.zero_add]
      rw [Nat.mul_one, List.take_append_of_le_length (by rw [hlen, hn]; exact Nat.le_refl _), List.take_of_length_le (by rw [hlen, hn]; exact Nat.le_refl _)]
end

/-- make([]T, n, c) of whole numbers -/
theorem make_cap {P : Program} (t e : TypeId) (k : IntKind) (bytes : Nat) (ht : P.underlying t = some (.slice e)) (hinfo : (P.info? e).map (fun i => (i.zero, i.size, i.bytes)) = some (some (.int k 0), 1, bytes))
    (n c : Int) (hn : 0 ≤ n) (hnc : n ≤ c) (hb : (bytes : Int) * c ≤ 281474976710656) (hc : c ≤ 9223372036854775807) (W : World) :
    (Instr.makeSlice t (.int .i64 n) (.int .i64 c)).run P W = .ok (.slice (some ⟨W.heap.size, 0, none⟩) n.toNat c.toNat) (W.alloc (.cells (madeCells #[.int k 0] c.toNat) e)) := by
  obtain ⟨i0, hi, hz⟩ := Option.map_eq_some_iff.1 hinfo
  simp only [Prod.mk.injEq] at hz
  obtain ⟨hz0, hz1, hz2⟩ := hz
  have h := run_make (P := P) (w := W) t e i0 (.int k 0) ht hi hz0 .i64 .i64 n c hn hnc (by rw [hz2]; exact hb) hc
  rw [hz1, Nat.mul_one] at h
  simpa [Value.cells] using h

theorem pow_min8 (n : Nat) : (2 : Int) ^ min n 8 % 256 = 2 ^ n % 256 := by
  by_cases h : n ≤ 8
  · rw [Nat.min_eq_left h]
  · rw [Nat.min_eq_right (by omega)]
    obtain ⟨m, rfl⟩ : ∃ m, n = 8 + m := ⟨n - 8, by omega⟩
    rw [Int.pow_add, show (2 : Int) ^ 8 = 256 from rfl, Int.mul_emod_right]; rfl
/-- a literal's cells, just laid -/
theorem lit_C (W : World) (e : TypeId) (k : IntKind) (xs : List Int) (hl : xs.length ≤ 9223372036854775807) (fr : Nat × Nat := (0, 0)) : (Kd.int k).C (W.alloc (.cells (nums k xs).toArray e fr)) (some ⟨W.heap.size, 0, none⟩) xs.length xs := by
  refine Kd.C_of_reads (d := (0 : Int)) ⟨rfl, hl, fun _ => ⟨_, rfl, fun j hj => ?_⟩⟩
  have hadd : (⟨W.heap.size, 0, none⟩ : Addr).add j = ⟨W.heap.size, j, none⟩ := add_plain _ _
  rw [hadd, cell_of_row _ _ _ _ _ _ (heap_alloc_new W _)]
  simp [nums, hj, List.getD_eq_getElem?_getD]
theorem nil_C (W : World) (k : IntKind) : (Kd.int k).C W none 0 ([] : List Int) := Kd.C_nil _ _
/-- what is owned reads -/
theorem own_C {W : World} {base e : Nat} {k : IntKind} {ok : Nat → Prop} {v : Value} {xs : List Int} (h : (Kd.int k).R e W base ok v xs) : ∃ A c, v = .slice A xs.length c ∧ xs.length ≤ c ∧ (Kd.int k).C W A xs.length xs := Kd.R_reads h

/-- a slice that is the call's own, or one without spare room that only reads: what is appended lies in memory of the call's own -/
def Outs (k : IntKind) (e : Nat) (W : World) (base : Nat) (v : Value) (xs : List Int) : Prop :=
  (Kd.int k).R e W base (fun _ => True) v xs ∨ (∃ A, v = .slice A xs.length xs.length ∧ (Kd.int k).C W A xs.length xs ∧ (A = none → xs.length = 0))
section
variable {P : Program} {ops : Array Oper} {rest : List Oper} {o : Oper} {a : Act} {Q : Exit → Act → World → Prop}
theorem app_outs {w0 W : World} (base : Nat) (hgd : o.guard = none) (s x : Operand) (t e : TypeId) (k : IntKind) (bytes : Nat)
    (ho : o.op = .call { callee := .builtin .append, args := #[s, x], argTypes := #[t, t] })
    (ht : P.underlying t = some (.slice e)) (hinfo : (P.info? e).map (fun i => (i.zero, i.size, i.bytes)) = some (some (.int k 0), 1, bytes)) (hb0 : 0 < bytes)
    (v : Value) (xs : List Int) (y : Int) (hs : a.eval s = v) (hx : a.eval x = .slice (some ⟨W.heap.size, 0, none⟩) 1 1)
    (HO : Outs k e W base v xs) (HB : Below base w0 W) (hbase : base ≤ W.heap.size) (hl : (xs.length + 1) * bytes ≤ 140737488355328)
    (h : ∀ v1 w1, Aside0 ((Kd.int k).R e w1 base (fun _ => True) v1 (xs ++ [y])) → Below base w0 w1 → wpList P ops Q rest (a.put o.dst v1) w1) :
    wpList P ops Q (o :: rest) a (W.alloc (.cells #[.int k y] e)) := by
  rcases HO with HO | ⟨A, rfl, hC, hn⟩
  · exact app_num base hgd s x t e k bytes ho ht hinfo hb0 v xs y hs hx HO HB hbase hl h
  · obtain ⟨i0, hi, hzz⟩ := Option.map_eq_some_iff.1 hinfo
    simp only [Prod.mk.injEq] at hzz
    obtain ⟨hz0, hz1, hz2⟩ := hzz
    have hlen : xs.length + 1 ≤ 140737488355328 := Nat.le_trans (Nat.le_mul_of_pos_right _ hb0) hl
    have hC2 := Kd.C_alloc hC (.cells #[.int k y] e)
    refine wpList_append_grows (W.alloc (.cells #[.int k y] e)) hgd s x t ho e i0 (.int k 0) 1 bytes ht hi hz0 hz1 hz2 rfl (by decide) A xs.length xs.length (nums k xs) hs (fun hA => ⟨hn hA, hn hA⟩) (by rw [nums_length, Nat.mul_one]) ?_ ⟨W.heap.size, 0, none⟩ 1 1 [.int k y] hx rfl
      (World.news_of_block (cs := #[.int k y]) (t := e) (fr := (0, 0)) (heap_alloc_new W _)) (by simp [Value.oneCell']) (by omega) (by simp only [maxLen]; omega) hl ?_
    · rintro b rfl j u hj
      simp only [nums, List.getElem?_map, Option.map_eq_some_iff] at hj
      obtain ⟨z, hz, rfl⟩ := hj
      obtain ⟨_, _, hr⟩ := Kd.reads_of_C (d := (0 : Int)) hC2
      have hjl := (List.getElem?_eq_some_iff.1 hz).1
      obtain ⟨ad, e1, hc⟩ := hr (by omega)
      cases e1
      have := hc j hjl
      rw [List.getD_eq_getElem?_getD, hz] at this
      simpa using this
    · intro v1 w1 ho1 hg1
      refine h v1 w1 ⟨kd_R ?_⟩ ((HB.alloc hbase _).grown hg1 (by simp; omega) (fun k hk => by cases hk))
      have h2 : w1.ownsRow (W.alloc (.cells #[.int k y] e)).heap.size e 1 v1 (xs ++ [y]).length (nums k (xs ++ [y])) := by
        rw [nums_append, List.length_append]; exact ho1
      exact own_weaken h2 (by simp; omega)
end
theorem outs_below {k : IntKind} {e : Nat} {W W1 : World} {base : Nat} {v : Value} {xs : List Int} (h : Outs k e W base v xs) (hb : Below W.heap.size W W1) : Outs k e W1 base v xs := by
  rcases h with h | ⟨A, rfl, hC, hn⟩
  · exact .inl (Kd.R_below h hb)
  · exact .inr ⟨A, rfl, Kd.C_below hC hb, hn⟩
end Go.Proofs.Ytmbpgebboppkmaa
end

section
set_option linter.unusedVariables false
set_option linter.unusedSimpArgs false
set_option autoImplicit false
namespace Go.Proofs.Ytmbpgebboppkmaa
open Go.RowKit Go.Proofs.YtmbpgebboppkmaaW.PrintWords Go.Proofs.YtmbpgebboppkmaaW.PrintLast Go.Proofs.YtmbpgebboppkmaaW.PrintMore

/-- the bytes that a slice tells, in blocks of which S tells -/
def HeldB (w : World) (S : Nat → Prop) (A : Option Addr) (l : List Int) : Prop :=
  0 < l.length → ∃ ad, A = some ad ∧ S ad.block ∧ ∀ j, j < l.length → w.cell? (ad.add j) = some (.int .u8 (rd l j))
theorem lt_of_heap {w : World} {g : Nat} {o : Obj} (h : w.heap[g]? = some o) : g < w.heap.size := (Array.getElem?_eq_some_iff.1 h).1
theorem HeldB.keep {w w' : World} {S : Nat → Prop} {A : Option Addr} {l : List Int} (h : HeldB w S A l) (hk : ∀ k, k < w.heap.size → S k → w'.heap[k]? = w.heap[k]?) : HeldB w' S A l := by
  intro hl
  obtain ⟨ad, rfl, hS, hc⟩ := h hl
  refine ⟨ad, rfl, hS, fun j hj => ?_⟩
  have h1 := hc j hj
  have hlt := World.block_lt_of_cell? w _ h1
  have hb : (ad.add j).block = ad.block := add_block _ _
  rw [World.cell?_of_block (w := w) (by rw [hb]; exact hk _ (by rwa [hb] at hlt) hS)]
  exact h1
theorem HeldB.C {w : World} {S : Nat → Prop} {A : Option Addr} {l : List Int} (h : HeldB w S A l) (hl : l.length ≤ 9223372036854775807) : (Kd.int .u8).C w A l.length l :=
  Kd.C_of_reads (d := (0 : Int)) ⟨rfl, hl, fun h0 => by obtain ⟨ad, rfl, _, hc⟩ := h h0; exact ⟨ad, rfl, fun j hj => by have := hc j hj; simpa [rd] using this⟩⟩
theorem HeldB.of_C {w : World} {S : Nat → Prop} {A : Option Addr} {l : List Int} (h : (Kd.int .u8).C w A l.length l) (hS : ∀ ad, A = some ad → 0 < l.length → S ad.block) : HeldB w S A l := by
  intro h0
  obtain ⟨_, _, hr⟩ := Kd.reads_of_C (d := (0 : Int)) h
  obtain ⟨ad, rfl, hc⟩ := hr h0
  exact ⟨ad, rfl, hS ad rfl h0, fun j hj => by have := hc j hj; simpa [rd] using this⟩

theorem held_own {W : World} {base e : Nat} {ok : Nat → Prop} {v : Value} {xs : List Int} (h : (Kd.int .u8).R e W base ok v xs) :
    ∃ A c, v = .slice A xs.length c ∧ xs.length ≤ c ∧ c ≤ 9223372036854775807 ∧ HeldB W (fun k => base ≤ k ∧ k < W.heap.size) A xs ∧ (Kd.int .u8).C W A xs.length xs := by
  obtain ⟨A, c, rfl, hc, hC⟩ := own_C h
  obtain ⟨_, ho⟩ := kd_own h
  rcases ho with ⟨h1, h2⟩ | ⟨g, cap, cur, h1, h2, h3, h4, h5, h6, h7⟩
  · simp only [Value.slice.injEq] at h1
    obtain ⟨rfl, _, rfl⟩ := h1
    exact ⟨none, 0, rfl, by omega, by omega, fun h0 => absurd h0 (by omega), hC⟩
  · cases h1
    refine ⟨_, _, rfl, hc, by simpa [maxLen] using h5, HeldB.of_C hC ?_, hC⟩
    rintro ad hA _
    cases hA
    exact ⟨h2, lt_of_heap h3⟩
theorem HeldB.below {w w' : World} {S : Nat → Prop} {A : Option Addr} {l : List Int} (h : HeldB w S A l) (hb : Below w.heap.size w w') : HeldB w' S A l := h.keep fun k hk _ => hb.block k hk
theorem HeldB.grown {w w' : World} {S : Nat → Prop} {A : Option Addr} {l : List Int} {r : Nat} (h : HeldB w S A l) (hb : w.grownBy w' (some r)) (h2 : ¬ S r) : HeldB w' S A l :=
  h.keep fun k hk hs => hb.block k hk (fun e => by cases e; exact h2 hs)
theorem HeldB.low {w : World} {A : Option Addr} {l : List Int} (h : (Kd.int .u8).C w A l.length l) : HeldB w (fun k => k < w.heap.size) A l := by
  refine HeldB.of_C h ?_
  rintro ad rfl h0
  obtain ⟨_, _, hr⟩ := Kd.reads_of_C (d := (0 : Int)) h
  obtain ⟨ad', e, hc⟩ := hr h0
  cases e
  have := World.block_lt_of_cell? _ _ (hc 0 h0)
  rwa [add_block] at this
theorem below_of_grown {w0 a b : World} {g : Nat} (h : Below w0.heap.size w0 a) (k : a.grownBy b (some g)) (hg : w0.heap.size ≤ g) : Below w0.heap.size w0 b :=
  h.grown k h.size (fun k hk => by cases hk; exact hg)
theorem below_via {w W W' : World} (h : Below W.heap.size W W') (h0 : Below w.heap.size w W) : Below w.heap.size w W' := h0.trans (h.mono h0.size)
end Go.Proofs.Ytmbpgebboppkmaa
end

section
-- Written by a program of this session (wip/tools/myprint.py), over the kit's print.
namespace Go.Proofs.Ytmbpgebboppkmaa.G
open Go.RowKit Go.Proofs.YtmbpgebboppkmaaW.PrintWords Go.Proofs.YtmbpgebboppkmaaW.PrintLast Go.Proofs.YtmbpgebboppkmaaW.PrintMore
attribute [local go_sem] max2_int min2_int max_two min_two max_three min_three max_four min_four   -- for this text's walks alone
set_option linter.unusedVariables false
set_option linter.unusedSimpArgs false



def errW : Option Int → Value
  | none => .nilIface
  | some c => .iface 0 (.int .i64 c)
theorem errW_none : errW none = .nilIface := rfl
theorem errW_some (c : Int) : errW (some c) = .iface 0 (.int .i64 c) := rfl

theorem info32 : (Try.prog.info? 32).map (fun i => (i.zero, i.size, i.bytes)) = some (some (.agg #[(.string ⟨#[]⟩), (.int .i64 0), (.int .i64 0), (.string ⟨#[]⟩)]), 4, 48) := by kernel_rfl
-- the values' own types
/-! #### struct type 30 -/
structure S30 where
  f0 : Int
  f1 : Int
  f2 : ByteArray
def z30 : S30 := ⟨(0 : Int), (0 : Int), (⟨#[]⟩ : ByteArray)⟩
def k30 : Kd S30 := Kd.iso (Kd.pair (Kd.int .i64) (Kd.pair (Kd.int .i64) Kd.string)) (fun x : S30 => (x.f0, x.f1, x.f2))
theorem k30_open {w : World} {x : S30} {cs : List Value} (h : k30.K w x cs) : cs = [.int .i64 x.f0, .int .i64 x.f1, .string x.f2] := by
  obtain ⟨_, _, rfl, rfl, ⟨_, _, rfl, rfl, rfl⟩⟩ := h
  exact rfl
theorem k30_openM {w : World} {base : Nat} {ok : Nat → Prop} {x : S30} {cs : List Value} (h : k30.M w base ok x cs) : cs = [.int .i64 x.f0, .int .i64 x.f1, .string x.f2] := by
  obtain ⟨_, _, rfl, rfl, ⟨_, _, rfl, rfl, rfl⟩⟩ := h
  exact rfl
theorem k30_mk (w : World) (x : S30)  : k30.K w x [.int .i64 x.f0, .int .i64 x.f1, .string x.f2] := ⟨[.int .i64 x.f0], [.int .i64 x.f1, .string x.f2], rfl, rfl, ⟨[.int .i64 x.f1], [.string x.f2], rfl, rfl, rfl⟩⟩
theorem k30_mkM (w : World) (base : Nat) (ok : Nat → Prop) (x : S30)  : k30.M w base ok x [.int .i64 x.f0, .int .i64 x.f1, .string x.f2] := ⟨[.int .i64 x.f0], [.int .i64 x.f1, .string x.f2], rfl, rfl, ⟨[.int .i64 x.f1], [.string x.f2], rfl, rfl, rfl⟩⟩
def rd_T30 (xs : List S30) (i : Int) : S30 := xs.getD i.toNat z30
theorem at_T30 {w : World} {A : Option Addr} {n : Nat} {xs : List S30} (h : Kd.C k30 w A n xs) (i : Int) (h0 : 0 ≤ i) (h1 : i < n) : ∃ ad , A = some ad ∧ w.cell? (ad.add (i.toNat * 3)) = some (.int .i64 (rd_T30 xs i).f0) ∧ w.cell? ⟨(ad.add (i.toNat * 3)).block, (ad.add (i.toNat * 3)).off + 1, none⟩ = some (.int .i64 (rd_T30 xs i).f1) ∧ w.cell? ⟨(ad.add (i.toNat * 3)).block, (ad.add (i.toNat * 3)).off + 2, none⟩ = some (.string (rd_T30 xs i).f2) := by
  obtain ⟨ad, c, e, _, hK, hc0⟩ := Kd.C_get h z30 i h0 h1
  have hc : ∀ j u, c[j]? = some u → w.cell? (ad.add (i.toNat * 3 + j)) = some u := hc0
  obtain rfl := k30_open hK
  exact ⟨ad, e, hc 0 _ rfl, by rw [← add_field _ _ 1 (by omega)]; exact hc 1 _ rfl, by rw [← add_field _ _ 2 (by omega)]; exact hc 2 _ rfl⟩

/-! #### struct type 32 -/
structure S32 where
  f0 : ByteArray
  f1 : S30
def z32 : S32 := ⟨(⟨#[]⟩ : ByteArray), z30⟩
def k32 : Kd S32 := Kd.iso (Kd.pair Kd.string k30) (fun x : S32 => (x.f0, x.f1))
theorem k32_open {w : World} {x : S32} {cs : List Value} (h : k32.K w x cs) : cs = [.string x.f0, .int .i64 x.f1.f0, .int .i64 x.f1.f1, .string x.f1.f2] := by
  obtain ⟨_, _, rfl, rfl, s1⟩ := h
  obtain rfl := k30_open s1
  exact rfl
theorem k32_openM {w : World} {base : Nat} {ok : Nat → Prop} {x : S32} {cs : List Value} (h : k32.M w base ok x cs) : cs = [.string x.f0, .int .i64 x.f1.f0, .int .i64 x.f1.f1, .string x.f1.f2] := by
  obtain ⟨_, _, rfl, rfl, s1⟩ := h
  obtain rfl := k30_openM s1
  exact rfl
theorem k32_mk (w : World) (x : S32)  : k32.K w x [.string x.f0, .int .i64 x.f1.f0, .int .i64 x.f1.f1, .string x.f1.f2] := ⟨[.string x.f0], [.int .i64 x.f1.f0, .int .i64 x.f1.f1, .string x.f1.f2], rfl, rfl, (k30_mk w x.f1 )⟩
theorem k32_mkM (w : World) (base : Nat) (ok : Nat → Prop) (x : S32)  : k32.M w base ok x [.string x.f0, .int .i64 x.f1.f0, .int .i64 x.f1.f1, .string x.f1.f2] := ⟨[.string x.f0], [.int .i64 x.f1.f0, .int .i64 x.f1.f1, .string x.f1.f2], rfl, rfl, (k30_mkM w base ok x.f1 )⟩
def rd_T32 (xs : List S32) (i : Int) : S32 := xs.getD i.toNat z32
theorem at_T32 {w : World} {A : Option Addr} {n : Nat} {xs : List S32} (h : Kd.C k32 w A n xs) (i : Int) (h0 : 0 ≤ i) (h1 : i < n) : ∃ ad , A = some ad ∧ w.cell? (ad.add (i.toNat * 4)) = some (.string (rd_T32 xs i).f0) ∧ w.cell? ⟨(ad.add (i.toNat * 4)).block, (ad.add (i.toNat * 4)).off + 1, none⟩ = some (.int .i64 (rd_T32 xs i).f1.f0) ∧ w.cell? ⟨(ad.add (i.toNat * 4)).block, (ad.add (i.toNat * 4)).off + 2, none⟩ = some (.int .i64 (rd_T32 xs i).f1.f1) ∧ w.cell? ⟨(ad.add (i.toNat * 4)).block, (ad.add (i.toNat * 4)).off + 3, none⟩ = some (.string (rd_T32 xs i).f1.f2) := by
  obtain ⟨ad, c, e, _, hK, hc0⟩ := Kd.C_get h z32 i h0 h1
  have hc : ∀ j u, c[j]? = some u → w.cell? (ad.add (i.toNat * 4 + j)) = some u := hc0
  obtain rfl := k32_open hK
  exact ⟨ad, e, hc 0 _ rfl, by rw [← add_field _ _ 1 (by omega)]; exact hc 1 _ rfl, by rw [← add_field _ _ 2 (by omega)]; exact hc 2 _ rfl, by rw [← add_field _ _ 3 (by omega)]; exact hc 3 _ rfl⟩

def rd_L4 (xs : List (List S32)) (i : Int) : (List S32) := xs.getD i.toNat ([] : List S32)
theorem at_L4 {w : World} {A : Option Addr} {n : Nat} {xs : List (List S32)} (h : Kd.C (Kd.slice 32 k32) w A n xs) (i : Int) (h0 : 0 ≤ i) (h1 : i < n) : ∃ ad A0 c0, A = some ad ∧ w.cell? (ad.add i.toNat) = some (.slice A0 (rd_L4 xs i).length c0) ∧ (rd_L4 xs i).length ≤ c0 ∧ k32.C w A0 (rd_L4 xs i).length (rd_L4 xs i) := by
  obtain ⟨ad, c, e, _, hK, hc0⟩ := Kd.C_get h ([] : List S32) i h0 h1
  have hc : ∀ j u, c[j]? = some u → w.cell? (ad.add (i.toNat * 1 + j)) = some u := hc0
  obtain ⟨A0, c0, rfl, l0, g0⟩ := hK
  exact ⟨ad, A0, c0, e, by have hq := hc 0 _ rfl; rwa [Nat.mul_one, Nat.add_zero] at hq, l0, g0⟩

end Go.Proofs.Ytmbpgebboppkmaa.G
end

section
-- Written by a program of this session (wip/tools/myprint.py), over the kit's print.
namespace Go.Proofs.Ytmbpgebboppkmaa.G
open Go.RowKit Go.Proofs.YtmbpgebboppkmaaW.PrintWords Go.Proofs.YtmbpgebboppkmaaW.PrintLast Go.Proofs.YtmbpgebboppkmaaW.PrintMore
attribute [local go_sem] max2_int min2_int max_two min_two max_three min_three max_four min_four   -- for this text's walks alone
set_option linter.unusedVariables false
set_option linter.unusedSimpArgs false

theorem eqA30 (d : Nat) (w : World) (x0 y0 : Int) (x1 y1 : Int) (x2 y2 : ByteArray) :
    (Op.equalIn (d + 2) 30 (.agg #[.int .i64 x0, .int .i64 x1, .string x2]) (.agg #[.int .i64 y0, .int .i64 y1, .string y2])).run Try.prog w = .ok (x0 == y0 && (x1 == y1 && (x2.toList == y2.toList))) w := by
  refine eqA_of Try.underlying30 (by kernel_rfl) ?_
  refine eqf_cons (by rfl) (by go_simp; rfl) (by go_simp; rfl) (by go_simp) ?_
  refine eqf_cons (by rfl) (by go_simp; rfl) (by go_simp; rfl) (by go_simp) ?_
  exact eqf_last (by rfl) (by go_simp; rfl) (by go_simp; rfl) (by go_simp)
end Go.Proofs.Ytmbpgebboppkmaa.G
end

section
/- slices.Values at attributes, walked: the iterator's contract -/
set_option linter.unusedVariables false
set_option linter.unusedSimpArgs false
set_option autoImplicit false
namespace Go.Proofs.Ytmbpgebboppkmaa
open Go Go.RowKit Go.Shelf Go.Proofs.YtmbpgebboppkmaaW.PrintWords Go.Proofs.YtmbpgebboppkmaaW.PrintLast Go.Proofs.YtmbpgebboppkmaaW.PrintMore Go.Proofs.Ytmbpgebboppkmaa.G
attribute [local go_sem] Oper.semAt_some

def atV (x : S32) : Value := .agg #[.string x.f0, .int .i64 x.f1.f0, .int .i64 x.f1.f1, .string x.f1.f2]
def atO (x : S32) : Obj := .cells #[.string x.f0, .int .i64 x.f1.f0, .int .i64 x.f1.f1, .string x.f1.f2] 32 (0, 0)
set_option maxRecDepth 100000 in
set_option maxHeartbeats 1000000 in
/-- the closure of slices.Values: it reads the row between the rounds -/
theorem values1 (F : Fence) (n : Nat) (h31 : F.fn 31) (hro : F.round = none) (hn : 1 ≤ n) (l Bs : Nat) (A : Option Addr) (c : Nat) (zs : List S32) (w0 : World) (hC : Kd.C k32 w0 A zs.length zs) (J Jx : List S32 → World → Prop)
    (hY : ∀ pre x W, J pre W → pre.length < zs.length → YieldAt F (n - 1) Try.prog l #[atV x] W fun e W' =>
      (e = .returned (.bool true) ∧ J (pre ++ [x]) W' ∧ Below w0.heap.size W W') ∨ (e = .returned (.bool false) ∧ Jx (pre ++ [x]) W'))
    (W : World) (hJ : AbidesFrom W.heap.size J) (hW : Below w0.heap.size w0 W) (hBs : W.cell? ⟨Bs, 0, none⟩ = some (.slice A zs.length c)) (h0 : J [] W) :
    CallsIn F n Try.prog 31 #[.func (.yield l) #[] #[], .pointer (some ⟨Bs, 0, none⟩)] W fun e W' => (∃ v, e = .returned v) ∧
      ((∃ ys, ys = zs ∧ J ys W') ∨ (∃ pre, pre <+: zs ∧ Jx pre W')) := by
  have hl := hC.2.1
  refine callsIn_of_wp Try.func31 rfl h31 ?_ hro
  simp only [Try.ntmps31, List.size_toArray, List.length_cons, List.length_nil, Nat.reduceAdd, Nat.reduceSub, Array.replicate_succ, Array.replicate_zero, List.push_toArray, List.append_toArray, List.nil_append, List.cons_append]
  gi_wp2
  gi_loopw [7] (fun i wr => ∃ k : Nat, k ≤ zs.length ∧ i = .int .i64 k ∧ J (zs.take k) wr ∧ Below w0.heap.size w0 wr)
    (fun i _ => zs.length - (intOf i).toNat)
  case atStart => exact ⟨0, Nat.zero_le _, rfl, by simpa using h0, hW⟩
  case round =>
    obtain ⟨k, hk, rfl, hJs, hnx⟩ := hrel
    by_cases hlt : k < zs.length
    · obtain ⟨ad, hA, q0, q1, q2, q3⟩ := at_T32 (Kd.C_below hC hnx) (k : Int) (by omega) (by omega)
      subst hA
      rw [Int.toNat_natCast] at q0 q1 q2 q3
      have hxl : rd_T32 zs (k : Int) = zs[k] := by simp [rd_T32, List.getD_eq_getElem?_getD, hlt]
      have htk : zs.take (k + 1) = zs.take k ++ [zs[k]] := by rw [List.take_add_one]; simp [hlt]
      rw [hxl] at q0 q1 q2 q3
      have hpre : zs.take (k + 1) <+: zs := List.take_prefix _ _
      have HT := Aside0.mk htk
      have HP := Aside0.mk hpre
      clear hxl htk hpre
      generalize zs[k] = x at q0 q1 q2 q3 HT
      obtain ⟨fn, tmps, assign, body, hy, hR⟩ := hY (zs.take k) x (wr.alloc (atO x)) (hJ _ _ _ none hJs (World.grownBy_alloc wr _ none) (fun r e => by cases e)) (by rw [List.length_take]; omega)
      unfold atV at hy
      unfold atO at hy hR
      have hBl := Aside0.mk ((Below.refl w0.heap.size wr).alloc hnx.size (atO x))
      gi_wp2
      refine hR.mono ?_
      rintro e W3 (⟨rfl, hJ3, hk3⟩ | ⟨rfl, hJx3⟩)
      · gi_wp2
        go_roundw
        case rel => exact ⟨k + 1, by omega, by go_num, by rw [HT.out]; exact hJ3, hnx.trans (hBl.out.trans hk3)⟩
        case measure => simp [intOf]; omega
      · gi_wp2
        refine bodyPost_ret (results_none rfl _ _ _) rfl ?_
        exact ⟨⟨_, rfl⟩, .inr ⟨_, HP.out, by rw [HT.out]; exact hJx3⟩⟩
    · obtain rfl : k = zs.length := by omega
      gi_wp2
      go_end0
      exact ⟨⟨_, rfl⟩, .inl ⟨_, rfl, by simpa using hJs⟩⟩
/-- what slices.Values hands back gives the row's elements, in their order -/
theorem values_stops (F : Fence) (n : Nat) (h31 : F.fn 31) (hro : F.round = none) (hn : 1 ≤ n) (Bs : Nat) (A : Option Addr) (c : Nat) (zs : List S32) (w0 W0 : World) (hC : Kd.C k32 w0 A zs.length zs) (h0 : Below w0.heap.size w0 W0) (hBl : Bs < W0.heap.size) (hBs : W0.cell? ⟨Bs, 0, none⟩ = some (.slice A zs.length c)) :
    SeqStopsK F n Try.prog 31 #[.pointer (some ⟨Bs, 0, none⟩)] (fun x : S32 => #[atV x]) (Below w0.heap.size) (fun ys => ys = zs) (fun pre => pre <+: zs) zs.length W0 := fun l J Jx W hW hJ _ hY hJ0 =>
  values1 F n h31 hro hn l Bs A c zs w0 hC J Jx hY W hJ (h0.trans (hW.mono h0.size)) ((hW.cell (p := ⟨Bs, 0, none⟩) hBl).trans hBs) hJ0
def atC (x : S32) : List Value := [.string x.f0, .int .i64 x.f1.f0, .int .i64 x.f1.f1, .string x.f1.f2]
theorem info_at5 : (Try.prog.info? 32).map (fun i => (i.zero, i.size, i.bytes)) = some (some (.agg #[.string ⟨#[]⟩, .int .i64 0, .int .i64 0, .string ⟨#[]⟩]), 4, 48) := by kernel_rfl
theorem cells_new5 (w : World) (a b c d : Value) (t : TypeId) : ∀ j u, [a, b, c, d][j]? = some u → (w.alloc (.cells #[a, b, c, d] t)).cell? ((⟨w.heap.size, 0, none⟩ : Addr).add j) = some u := by
  intro j u hj
  rw [add_plain, cell_of_row _ _ _ _ _ _ (heap_alloc_new w (.cells #[a, b, c, d] t)), ← hj]
  simp
theorem cells4f {W : World} {b T : Nat} {x0 x1 x2 x3 : Value} (h : W.heap[b]? = some (.cells #[x0, x1, x2, x3] T (0, 0))) : W.cell? ⟨b, 0, none⟩ = some x0 ∧ W.cell? ⟨b, 1, none⟩ = some x1 ∧ W.cell? ⟨b, 2, none⟩ = some x2 ∧ W.cell? ⟨b, 3, none⟩ = some x3 :=
  ⟨by rw [cell_of_row _ _ _ _ _ _ h]; rfl, by rw [cell_of_row _ _ _ _ _ _ h]; rfl, by rw [cell_of_row _ _ _ _ _ _ h]; rfl, by rw [cell_of_row _ _ _ _ _ _ h]; rfl⟩
theorem obj_own5 {β : Type} (B : Nat) (x : S32) : Own (fun (_ : β) W => W.heap[B]? = some (atO x)) := fun s X Y row hs hg hrow => by
  refine (hg.block B (Array.getElem?_eq_some_iff.1 hs).1 (fun e' => ?_)).trans hs
  obtain ⟨o, ho, hc⟩ := hrow B e'.symm
  rw [hs] at ho
  cases ho
  cases hc
set_option maxRecDepth 100000 in
set_option maxHeartbeats 2000000 in
theorem appendSeq (F : Fence) (n : Nat) (h31 : F.fn 31) (h35 : F.fn 35) (hro : F.round = none) (hn : 3 ≤ n) (Bs : Nat) (A : Option Addr) (c : Nat) (zs : List S32) (w : World) (hC : Kd.C k32 w A zs.length zs) (hBl : Bs < w.heap.size) (hBs : w.cell? ⟨Bs, 0, none⟩ = some (.slice A zs.length c)) (hz : zs.length ≤ 100000) :
    CallsIn F n Try.prog 35 #[.slice none 0 0, .func (.func 31) #[] #[.pointer (some ⟨Bs, 0, none⟩)]] w fun e w' => ∃ v, e = .returned v ∧ w'.ownsRow w.heap.size 32 4 v zs.length (zs.flatMap atC) ∧ Below w.heap.size w w' := by
  have h1 : 1 ≤ n := by omega
  obtain ⟨i0, hi, hz0, hz1, hz2⟩ := info_parts info_at5
  refine callsIn_of_wp_marks Try.func35 rfl h35 ?_ hro
  simp only [Try.ntmps35, List.size_toArray, List.length_cons, List.length_nil, Nat.reduceAdd, Nat.reduceSub, Array.replicate_succ, Array.replicate_zero, List.push_toArray, List.append_toArray, List.nil_append, List.cons_append]
  gi_wp2
  have bO := Boxed.new w 22 (.slice none 0 0)
  have hB0 : Below w.heap.size w (w.alloc (.cells #[.slice none 0 0] 22)) := (Below.refl _ w).alloc (Nat.le_refl _) _
  refine wpIn_rangeFunc_ownH hro h1 (gf := 31) (lb := #[.pointer (some ⟨Bs, 0, none⟩)]) rfl h31 (enters_of Try.func31 (by kernel_rfl) rfl)
    (values_stops F (n - 1) h31 hro (by omega) Bs A c zs w _ hC hB0 (by rw [World.size_alloc]; omega) ((hB0.cell (p := ⟨Bs, 0, none⟩) hBl).trans hBs)) belowK_t (belowK_b (by rw [World.size_alloc]; omega)) (Below.refl _ _) (fun _ => rfl)
    (fun pre W => (∃ v, Boxed W w.heap.size 22 v ∧ W.ownsRow w.heap.size 32 4 v pre.length (pre.flatMap atC) ∧ True) ∧ Below w.heap.size w W)
    (fun _ _ _ => False)
    (OwnFrom.and (Own.from (holdsRow_own w.heap.size w.heap.size 22 32 4 (fun pre : List S32 => pre.length) (fun pre : List S32 => pre.flatMap atC) (fun _ _ => True)) _) (ownFrom_below (Nat.le_refl _) (by rw [World.size_alloc]; omega)))
    (fun _ _ _ _ _ hs _ _ => hs)
    ⟨⟨_, bO, World.ownsRow_nil _ _ _ _, trivial⟩, hB0⟩
    (fun x a' W => ∃ Bx, w.heap.size < Bx ∧ W.heap[Bx]? = some (atO x) ∧ a' = { tmps := #[.slice none 0 0, .func (.func 31) #[] #[.pointer (some ⟨Bs, 0, none⟩)], .pointer (some ⟨w.heap.size, 0, none⟩), undef, .slice none 0 0, .pointer (some ⟨Bx, 0, none⟩), .func (.func 31) #[] #[.pointer (some ⟨Bs, 0, none⟩)], atV x, undef, undef, undef, undef, undef], defers := [] })
    (fun x a' => Own.from (fun s X Y row hs hg hrow => by obtain ⟨Bx, h1, h2, h3⟩ := hs; exact ⟨Bx, h1, obj_own5 Bx x s X Y row h2 hg hrow, h3⟩) _) ?assign ?body ?done ?stop
  case assign =>
    rintro l pre x W K ⟨⟨v, hv, hrow, _⟩, hB⟩ hK
    unfold atV at hK ⊢
    gi_wp2
    exact hK _ _ ((KeepsOthers.alloc _ _).from _) ((Below.refl _ W).alloc hB.size _) ⟨⟨v, hv.alloc _, hrow.alloc _, trivial⟩, hB.alloc hB.size _⟩ ⟨W.heap.size, hv.lt, heap_alloc_new W _, rfl⟩
  case body =>
    rintro l pre x a' W hl ⟨r, hr⟩ ⟨⟨v, hv, hrow, _⟩, hB⟩ ⟨Bx, hBx, bX, rfl⟩ hlt
    have hc := hv.cell
    unfold atO at bX
    unfold atV
    obtain ⟨x0, x1, x2, x3⟩ := cells4f bX
    gi_wp2_with (gi_at_builtin; refine wpListIn_append_own _ rfl _ _ 22 rfl w.heap.size 32 i0 (.agg #[.string ⟨#[]⟩, .int .i64 0, .int .i64 0, .string ⟨#[]⟩]) 4 48 Try.underlying22 hi hz0 hz1 hz2 rfl (by decide) _ _ _ rfl (hrow.alloc _) ⟨W.heap.size, 0, none⟩ 1 1 [.string x.f0, .int .i64 x.f1.f0, .int .i64 x.f1.f1, .string x.f1.f2] rfl rfl (cells_new5 _ _ _ _ _ _) (by simp [Value.oneCell']) (by simp only [maxLen]; omega) (by omega) (by have := hB.size; simp; omega) ?_; intro v' w1 hown' hgrow _; obtain ⟨g', cap', rfl⟩ := ownsRow_succ hown'; obtain ⟨hv1, hv2, hr2, hk2, hb2⟩ := hv.appended (by decide) hrow hB.size (Nat.le_refl _) hown' hgrow; have hc1 := hv1.cell; have hf1 := hv1.frozen)
    exact ⟨hk2.from _, hb2, ⟨_, hv2, by simpa [atC] using hr2, trivial⟩, hB.trans hb2⟩
  case done =>
    rintro D ys W hD rfl ⟨⟨v, hv, hrow, _⟩, hB⟩ hK
    have hc := hv.cell
    gi_wp2
    refine ⟨by simp, .inl ⟨_, _, rfl, run_takeDeferred hK, ?_⟩⟩
    exact ⟨_, results_tmp rfl _ _ _, v, rfl, ownsRow_putObj hrow _ hK rfl, hB.trans (belowK_b (w := w) (Nat.le_refl _) W D _ _ (by simp at hD; omega) hK rfl rfl)⟩
  case stop =>
    rintro D c pre W _ _ h _
    exact h.elim
end Go.Proofs.Ytmbpgebboppkmaa
end

section
-- Written by a program of this session (wip/tools/myprint.py), over the kit's print.
namespace Go.Proofs.Ytmbpgebboppkmaa.G
open Go.RowKit Go.Proofs.YtmbpgebboppkmaaW.PrintWords Go.Proofs.YtmbpgebboppkmaaW.PrintLast Go.Proofs.YtmbpgebboppkmaaW.PrintMore
attribute [local go_sem] max2_int min2_int max_two min_two max_three min_three max_four min_four   -- for this text's walks alone
set_option linter.unusedVariables false
set_option linter.unusedSimpArgs false

-- BY HAND
-- LIB Derived.Lib.Strings
-- LIB Derived.Lib.Slices
-- LIB Derived.Lib.Walk
-- LIB Derived.Lib.Bytealg
set_option maxHeartbeats 1000000 in
set_option maxRecDepth 100000 in
theorem compare_bytes (a b : ByteArray) (w : World) :
    Calls Try.prog 38 #[.string a, .string b] w fun e w' => e = .returned (.int .i64 (Lib.compareBytes a.data.toList b.data.toList)) ∧ w' = w := by
  go_enter Try.func38, Try.ntmps38
  go_wp2
  rw [run_callFunc_extern Try.func49 (by kernel_rfl) (by kernel_rfl) (by kernel_rfl) (e := Extern.BytealgCompare.compare) (by kernel_rfl), Lib.run_compareString]
  simp only [Result.andThen]
  rw [Oper.upon_value]
  go_wp2
  go_ret
  exact ⟨rfl, rfl⟩
def strings_Compare.f (a0 a1 : ByteArray) : Option Int := some (Lib.compareBytes a0.data.toList a1.data.toList)
set_option maxHeartbeats 1000000 in
theorem strings_Compare.calls (a0 a1 : ByteArray) (r : Int) (w : World) (h : strings_Compare.f a0 a1 = some r) :
    Calls Try.prog 32 #[.string a0, .string a1] w fun e w' => e = .returned (.int .i64 r) ∧ Drawn0 w w' := by
  obtain rfl := Option.some.inj h
  go_enter Try.func32, Try.ntmps32
  go_wp2_with (go_at_call 38; refine (compare_bytes _ _ _).mono ?_; rintro e w' ⟨rfl, rfl⟩)
  go_ret
  exact ⟨rfl, Drawn0.refl _⟩

end Go.Proofs.Ytmbpgebboppkmaa.G
end

section
/- event.byName as a sort wants it; a sorted row; plain laws -/
set_option linter.unusedVariables false
set_option linter.unusedSimpArgs false
set_option autoImplicit false
namespace Go.Proofs.Ytmbpgebboppkmaa
open Go Go.RowKit Go.Shelf Go.Sort Go.Proofs.YtmbpgebboppkmaaW.PrintWords Go.Proofs.YtmbpgebboppkmaaW.PrintLast Go.Proofs.YtmbpgebboppkmaaW.PrintMore Go.Proofs.Ytmbpgebboppkmaa.G

theorem cmpB_zero : ∀ (a b : List UInt8), Lib.compareBytes a b = 0 ↔ a = b
  | [], [] => by simp [Lib.compareBytes]
  | [], _ :: _ => by simp [Lib.compareBytes]
  | _ :: _, [] => by simp [Lib.compareBytes]
  | x :: a, y :: b => by
    have ih := cmpB_zero a b
    simp only [Lib.compareBytes, UInt8.lt_iff_toNat_lt, List.cons.injEq, ← UInt8.toNat_inj]
    by_cases h1 : x.toNat < y.toNat
    · rw [if_pos h1]; simp; omega
    · rw [if_neg h1]
      by_cases h2 : y.toNat < x.toNat
      · rw [if_pos h2]; simp; omega
      · rw [if_neg h2, ih]
        constructor
        · intro h; exact ⟨by omega, h⟩
        · exact fun h => h.2
theorem cmpB_in : ∀ (a b : List UInt8), Lib.compareBytes a b = -1 ∨ Lib.compareBytes a b = 0 ∨ Lib.compareBytes a b = 1
  | [], [] => .inr (.inl rfl)
  | [], _ :: _ => .inl rfl
  | _ :: _, [] => .inr (.inr rfl)
  | x :: a, y :: b => by
    simp only [Lib.compareBytes]
    split
    · exact .inl rfl
    split
    · exact .inr (.inr rfl)
    · exact cmpB_in a b
theorem cmpB_neg : ∀ (a b : List UInt8), Lib.compareBytes b a = -Lib.compareBytes a b
  | [], [] => rfl
  | [], _ :: _ => rfl
  | _ :: _, [] => rfl
  | x :: a, y :: b => by
    have ih := cmpB_neg a b
    simp only [Lib.compareBytes, UInt8.lt_iff_toNat_lt]
    by_cases h1 : x.toNat < y.toNat
    · simp [h1, show ¬ y.toNat < x.toNat by omega]
    · by_cases h2 : y.toNat < x.toNat
      · simp [h1, h2]
      · simp [h1, h2, ih]
theorem cmpB_trans : ∀ (a b c : List UInt8), Lib.compareBytes a b ≤ 0 → Lib.compareBytes b c ≤ 0 → Lib.compareBytes a c ≤ 0
  | [], _, [] => fun _ _ => by simp [Lib.compareBytes]
  | [], _, _ :: _ => fun _ _ => by simp [Lib.compareBytes]
  | x :: a, [], c => fun h _ => by simp [Lib.compareBytes] at h
  | x :: a, y :: b, [] => fun _ h => by simp [Lib.compareBytes] at h
  | x :: a, y :: b, z :: c => by
    have ih := cmpB_trans a b c
    simp only [Lib.compareBytes, UInt8.lt_iff_toNat_lt]
    by_cases h1 : x.toNat < y.toNat
    · rw [if_pos h1]
      by_cases h3 : y.toNat < z.toNat
      · intro _ _; rw [if_pos (by omega)]; decide
      · rw [if_neg h3]
        by_cases h4 : z.toNat < y.toNat
        · rw [if_pos h4]; intro _ h; omega
        · rw [if_neg h4]; intro _ _; rw [if_pos (by omega)]; decide
    · rw [if_neg h1]
      by_cases h2 : y.toNat < x.toNat
      · rw [if_pos h2]; intro h; omega
      · rw [if_neg h2]
        by_cases h3 : y.toNat < z.toNat
        · intro _ _; rw [if_pos (by omega)]; decide
        · rw [if_neg h3]
          by_cases h4 : z.toNat < y.toNat
          · rw [if_pos h4]; intro _ h; omega
          · rw [if_neg h4, if_neg (by omega), if_neg (by omega)]; exact ih

def cmpN (x y : S32) : Int := Lib.compareBytes x.f0.data.toList y.f0.data.toList
set_option maxHeartbeats 1000000 in
theorem str_cmp (a b : ByteArray) (w : World) : Calls Try.prog 32 #[.string a, .string b] w fun e w' => e = .returned (.int .i64 (Lib.compareBytes a.data.toList b.data.toList)) ∧ w' = w := by
  go_enter Try.func32, Try.ntmps32
  go_wp2_with (go_at_call 38; refine (compare_bytes _ _ _).mono ?_; rintro e w' ⟨rfl, rfl⟩)
  go_ret
  exact ⟨rfl, rfl⟩
set_option maxHeartbeats 1000000 in
theorem wbyName (x y : S32) (W : World) : Calls Try.prog 23 #[.agg #[.string x.f0, .int .i64 x.f1.f0, .int .i64 x.f1.f1, .string x.f1.f2], .agg #[.string y.f0, .int .i64 y.f1.f0, .int .i64 y.f1.f1, .string y.f1.f2]] W fun e w' => e = .returned (.int .i64 (cmpN x y)) ∧ ∃ q os', w' = grow (W.drewN q) os' := by
  have hcon := fun W' => str_cmp x.f0 y.f0 W'
  unfold cmpN
  generalize Lib.compareBytes x.f0.data.toList y.f0.data.toList = r at hcon ⊢
  go_enter Try.func23, Try.ntmps23
  go_wp2_with (go_at_call 32; refine (hcon _).mono ?_; rintro e w' ⟨rfl, rfl⟩)
  go_ret
  exact ⟨rfl, 0, _, by rw [alloc_eq_grow, alloc_eq_grow, grow_grow]; rfl⟩
theorem ltN (x y : S32) : ltOf cmpN x y = true ↔ Lib.compareBytes x.f0.data.toList y.f0.data.toList < 0 := by unfold ltOf cmpN; simp
theorem ltN_f (x y : S32) : ltOf cmpN x y = false ↔ 0 ≤ Lib.compareBytes x.f0.data.toList y.f0.data.toList := by unfold ltOf cmpN; simp
/-- names stand in one order -/
theorem swoN : SWO (ltOf cmpN) where
  irrefl x := by rw [ltN_f, (cmpB_zero _ _).2 rfl]; decide
  trans x y z h1 h2 := by
    rw [ltN] at *
    have h3 := cmpB_trans _ _ _ (by omega : Lib.compareBytes x.f0.data.toList y.f0.data.toList ≤ 0) (by omega : Lib.compareBytes y.f0.data.toList z.f0.data.toList ≤ 0)
    by_cases h : Lib.compareBytes x.f0.data.toList z.f0.data.toList = 0
    · have e := (cmpB_zero _ _).1 h
      rw [← e, cmpB_neg] at h2
      omega
    · omega
  ntrans x y z h1 h2 := by
    rw [ltN_f] at *
    have a1 := cmpB_neg x.f0.data.toList y.f0.data.toList
    have a2 := cmpB_neg y.f0.data.toList z.f0.data.toList
    have a3 := cmpB_neg x.f0.data.toList z.f0.data.toList
    have h3 := cmpB_trans _ _ _ (by omega : Lib.compareBytes z.f0.data.toList y.f0.data.toList ≤ 0) (by omega : Lib.compareBytes y.f0.data.toList x.f0.data.toList ≤ 0)
    omega
instance : Inhabited S32 := ⟨⟨⟨#[]⟩, ⟨0, 0, ⟨#[]⟩⟩⟩⟩
theorem flat4_len (l : List S32) : (l.flatMap atC).length = l.length * 4 := by
  induction l with
  | nil => rfl
  | cons a l ih => rw [List.flatMap_cons, List.length_append, ih]; simp [atC]; omega
theorem flat4_at (l : List S32) (j i : Nat) (x : S32) (hj : l[j]? = some x) (hi : i < 4) : (l.flatMap atC)[j * 4 + i]? = (atC x)[i]? := by
  induction l generalizing j with
  | nil => simp at hj
  | cons a l ih =>
    have ha : (atC a).length = 4 := rfl
    cases j with
    | zero =>
      simp only [List.getElem?_cons_zero, Option.some.injEq] at hj
      subst hj
      rw [Nat.zero_mul, Nat.zero_add, List.flatMap_cons, List.getElem?_append_left (by omega)]
    | succ j =>
      rw [List.getElem?_cons_succ] at hj
      rw [List.flatMap_cons, List.getElem?_append_right (by omega), show (j + 1) * 4 + i - (atC a).length = j * 4 + i by omega]
      exact ih j hj
theorem flatK_list (d : Array S32) : (flatK atC 4 d).toList = d.toList.flatMap atC := by
  apply List.ext_getElem
  · rw [flat4_len]; simp
  · intro t h1 h2
    rw [flat4_len] at h2
    have hd : t / 4 < d.size := by simp at h2; omega
    have hm : t % 4 < 4 := Nat.mod_lt _ (by decide)
    have h3 := flat4_at d.toList (t / 4) (t % 4) d[t / 4] (by simp [hd]) hm
    rw [show t / 4 * 4 + t % 4 = t by omega] at h3
    rw [List.getElem?_eq_getElem (by rw [flat4_len]; exact h2)] at h3
    have h4 : (atC d[t / 4])[t % 4]? = some ((atC d[t / 4])[t % 4]'(by show t % 4 < 4; exact hm)) := List.getElem?_eq_getElem _
    rw [h4, Option.some.injEq] at h3
    rw [h3]
    have h5 := get_flatK atC 4 d t (by simpa using h2)
    have h6 : (flatK atC 4 d).toList[t] = (flatK atC 4 d)[t]! := by
      rw [getElem!_pos (flatK atC 4 d) t (by simpa using h2)]
      simp
    rw [h6, h5, getElem!_pos d (t / 4) hd, getElem!_pos (atC d[t / 4]) (t % 4) (by show t % 4 < 4; exact hm)]
/-- a row's cells, the row laid anew -/
theorem heap_putRow {w : World} {g : Nat} {cur : Array Value} {T : Nat} (hg : w.heap[g]? = some (.cells cur T (0, 0))) (F : Array Value) : (putRow id w g 0 F).heap[g]? = some (.cells (putCells id 0 F cur) T (0, 0)) := by
  unfold putRow mapBlock
  simp only
  rw [Array.getElem?_modify, if_pos rfl, hg]
  rfl
theorem put_take (F cur : Array Value) (h : F.size ≤ cur.size) : (putCells id 0 F cur).size = cur.size ∧ (putCells id 0 F cur).toList.take F.size = F.toList := by
  refine ⟨by simp [putCells], ?_⟩
  apply List.ext_getElem?
  intro i
  rw [List.getElem?_take]
  by_cases hi : i < F.size
  · rw [if_pos hi]
    have h2 : i < cur.size := by omega
    simp [putCells, hi, h2]
  · rw [if_neg hi]
    simp [hi]
end Go.Proofs.Ytmbpgebboppkmaa
end

section
/- slices.Collect at attributes, walked; the rows that a sort takes and leaves -/
set_option linter.unusedVariables false
set_option linter.unusedSimpArgs false
set_option autoImplicit false
namespace Go.Proofs.Ytmbpgebboppkmaa
open Go Go.RowKit Go.Shelf Go.Sort Go.Proofs.YtmbpgebboppkmaaW.PrintWords Go.Proofs.YtmbpgebboppkmaaW.PrintLast Go.Proofs.YtmbpgebboppkmaaW.PrintMore Go.Proofs.Ytmbpgebboppkmaa.G
attribute [local go_sem] Oper.semAt_some

set_option maxHeartbeats 1000000 in
theorem collectIn (F : Fence) (n : Nat) (h29 : F.fn 29) (h31 : F.fn 31) (h35 : F.fn 35) (hro : F.round = none) (hn : 4 ≤ n) (Bs : Nat) (A : Option Addr) (c : Nat) (zs : List S32) (w : World) (hC : Kd.C k32 w A zs.length zs) (hBl : Bs < w.heap.size) (hBs : w.cell? ⟨Bs, 0, none⟩ = some (.slice A zs.length c)) (hz : zs.length ≤ 100000) :
    CallsIn F n Try.prog 29 #[.func (.func 31) #[] #[.pointer (some ⟨Bs, 0, none⟩)]] w fun e w' => ∃ A' c', e = .returned (.slice A' zs.length c') ∧ w'.ownsRow w.heap.size 32 4 (.slice A' zs.length c') zs.length (zs.flatMap atC) ∧ Below w.heap.size w w' := by
  have h1 : 1 ≤ n := by omega
  have HA := Aside0.mk (appendSeq F (n - 1) h31 h35 hro (by omega) Bs A c zs w hC hBl hBs hz)
  clear hC hBs
  refine callsIn_of_wp Try.func29 rfl h29 ?_ hro
  simp only [Try.ntmps29, List.size_toArray, List.length_cons, List.length_nil, Nat.reduceAdd, Nat.reduceSub, Array.replicate_succ, Array.replicate_zero, List.push_toArray, List.append_toArray, List.nil_append, List.cons_append]
  gi_wp2_with (gi_at_call 35; refine HA.out.mono ?_; rintro e w' ⟨v, rfl, hR, hB⟩; have HR := Aside0.mk hR; have HB := Aside0.mk hB; obtain ⟨A', c', rfl⟩ : ∃ A' c', v = .slice A' zs.length c' := (by rcases hR.2 with ⟨rfl, h0⟩ | ⟨g, cap, cur, rfl, _⟩; exact ⟨none, 0, by rw [h0]⟩; exact ⟨_, _, rfl⟩); clear hR hB)
  go_ret
  exact ⟨_, _, rfl, HR.out, HB.out⟩
theorem collect (Bs : Nat) (A : Option Addr) (c : Nat) (zs : List S32) (w : World) (hC : Kd.C k32 w A zs.length zs) (hBl : Bs < w.heap.size) (hBs : w.cell? ⟨Bs, 0, none⟩ = some (.slice A zs.length c)) (hz : zs.length ≤ 100000) :
    Calls Try.prog 29 #[.func (.func 31) #[] #[.pointer (some ⟨Bs, 0, none⟩)]] w fun e w' => ∃ A' c', e = .returned (.slice A' zs.length c') ∧ w'.ownsRow w.heap.size 32 4 (.slice A' zs.length c') zs.length (zs.flatMap atC) ∧ Below w.heap.size w w' :=
  callsIn_wide.1 (collectIn Fence.wide 4 trivial trivial trivial rfl (Nat.le_refl _) Bs A c zs w hC hBl hBs hz)
theorem holds_row {W : World} {g cap : Nat} {cur : Array Value} {zs : List S32} (hg : W.heap[g]? = some (.cells cur 32 (0, 0))) (hsz : cur.size = cap * 4) (hcap : zs.length ≤ cap) (htk : cur.toList.take (zs.length * 4) = zs.flatMap atC) : HoldsK atC 4 W g 0 zs.toArray := by
  intro j hj
  have hj' : j < zs.length * 4 := by simpa using hj
  refine ⟨?_, frozen_of_row _ _ _ _ _ hg⟩
  rw [Nat.zero_add, cell_of_row _ _ _ _ _ _ hg]
  have h1 : cur[j]? = (cur.toList.take (zs.length * 4))[j]? := by rw [List.getElem?_take, if_pos hj']; simp
  have h2 : (flatK atC 4 zs.toArray)[j]? = some (flatK atC 4 zs.toArray)[j]! := by rw [getElem!_pos (flatK atC 4 zs.toArray) j hj]; exact Array.getElem?_eq_getElem hj
  rw [h1, htk, show zs.flatMap atC = (flatK atC 4 zs.toArray).toList by rw [flatK_list]]
  rw [Array.getElem?_toList, h2]
  rfl
theorem below_set5 {B g : Nat} {w0 W : World} {cur F : Array Value} {T n : Nat} {os : Array Obj} (h : Below B w0 W) (hg : W.heap[g]? = some (.cells cur T (0, 0))) (hb : B ≤ g) : Below B w0 (grow (putRow id (Sort.ahead W n) g 0 F) os) := by
  have hlt : g < W.heap.size := (Array.getElem?_eq_some_iff.1 hg).1
  refine ⟨h.os, h.tape, h.output, ?_, fun k hk => ?_⟩
  · show w0.heap.size ≤ ((putRow id (Sort.ahead W n) g 0 F).heap ++ os).size
    rw [Array.size_append, size_putRow]
    have := h.size
    show w0.heap.size ≤ W.heap.size + os.size
    omega
  · have h1 := h.block k hk
    rw [← h1]
    show ((putRow id (Sort.ahead W n) g 0 F).heap ++ os)[k]? = _
    have hks : k < (putRow id (Sort.ahead W n) g 0 F).heap.size := by rw [size_putRow]; show k < W.heap.size; omega
    rw [Array.getElem?_append_left hks]
    unfold putRow mapBlock
    simp only
    rw [Array.getElem?_modify, if_neg (by omega)]
    rfl
theorem sorted_row {W : World} {base g cap n : Nat} {cur : Array Value} {d' : Array S32} {os : Array Obj} (hg : W.heap[g]? = some (.cells cur 32 (0, 0))) (hb : base ≤ g) (hcap : d'.size ≤ cap) (hmax : cap ≤ maxLen) (hsz : cur.size = cap * 4) :
    (sortWorldK atC 4 W g 0 n d' os).ownsRow base 32 4 (.slice (some ⟨g, 0, none⟩) d'.size cap) d'.size (d'.toList.flatMap atC) ∧ ∀ B w0, Below B w0 W → B ≤ g → Below B w0 (sortWorldK atC 4 W g 0 n d' os) := by
  have hF : (flatK atC 4 d').size = d'.size * 4 := size_flatK _ _ _
  have hp := put_take (flatK atC 4 d') cur (by rw [hF, hsz]; omega)
  refine ⟨⟨by rw [flat4_len]; simp, .inr ⟨g, cap, putCells id 0 (flatK atC 4 d') cur, rfl, hb, ?_, hcap, hmax, by rw [hp.1]; exact hsz, ?_⟩⟩, fun B w0 h hB => below_set5 h hg hB⟩
  · show ((putRow id (Sort.ahead W n) g 0 (flatK atC 4 d')).heap ++ os)[g]? = _
    have hlt : g < W.heap.size := (Array.getElem?_eq_some_iff.1 hg).1
    rw [Array.getElem?_append_left (by rw [size_putRow]; exact hlt)]
    exact heap_putRow (w := Sort.ahead W n) hg _
  · rw [← hF, hp.2, flatK_list]
end Go.Proofs.Ytmbpgebboppkmaa
end

section
/- slices.SortFunc at attributes: the kit's contract, laid at this program -/
set_option autoImplicit false
namespace Go.Proofs.Ytmbpgebboppkmaa
open Go Go.Shelf
def evSort_ren : Go.Shelf.Ren := ⟨fun | 6 => 30 | 15 => 37 | 14 => 36 | 28 => 47 | 29 => 48 | 20 => 39 | 21 => 40 | 22 => 41 | 23 => 42 | 24 => 43 | 25 => 44 | 26 => 45 | 27 => 46 | 46 => 50 | 47 => 51 | 48 => 52 | 49 => 53 | 50 => 54 | 57 => 55 | n => n, fun | 22 => 22 | 24 => 32 | 25 => 44 | 3 => 3 | 39 => 55 | 0 => 0 | 53 => 65 | 55 => 67 | 4 => 4 | 46 => 58 | 45 => 57 | 50 => 62 | 5 => 5 | 9 => 9 | 66 => 68 | 70 => 72 | 76 => 74 | 77 => 75 | n => n, fun | n => n⟩
theorem evSort : Go.Proofs.SlLaysF0.n6 Try.prog evSort_ren := {
  mixed := by kernel_rfl,
  f6 := ⟨Try.f30.name, by decide, Try.func30.trans (congrArg some (by kernel_rfl))⟩,
  f14 := ⟨Try.f36.name, by decide, Try.func36.trans (congrArg some (by kernel_rfl))⟩,
  f15 := Try.func37.trans (congrArg some (by kernel_rfl)),
  f20 := ⟨Try.f39.name, by decide, Try.func39.trans (congrArg some (by kernel_rfl))⟩,
  f21 := ⟨Try.f40.name, by decide, Try.func40.trans (congrArg some (by kernel_rfl))⟩,
  f22 := ⟨Try.f41.name, by decide, Try.func41.trans (congrArg some (by kernel_rfl))⟩,
  f23 := ⟨Try.f42.name, by decide, Try.func42.trans (congrArg some (by kernel_rfl))⟩,
  f24 := ⟨Try.f43.name, by decide, Try.func43.trans (congrArg some (by kernel_rfl))⟩,
  f25 := ⟨Try.f44.name, by decide, Try.func44.trans (congrArg some (by kernel_rfl))⟩,
  f26 := ⟨Try.f45.name, by decide, Try.func45.trans (congrArg some (by kernel_rfl))⟩,
  f27 := ⟨Try.f46.name, by decide, Try.func46.trans (congrArg some (by kernel_rfl))⟩,
  f28 := Try.func47.trans (congrArg some (by kernel_rfl)),
  f29 := Try.func48.trans (congrArg some (by kernel_rfl)),
  f46 := ⟨Try.f50.name, by decide, Try.func50.trans (congrArg some (by kernel_rfl))⟩,
  f47 := Try.func51.trans (congrArg some (by kernel_rfl)),
  f48 := Try.func52.trans (congrArg some (by kernel_rfl)),
  f49 := ⟨Try.f53.name, by decide, Try.func53.trans (congrArg some (by kernel_rfl))⟩,
  f50 := ⟨Try.f54.name, by decide, Try.func54.trans (congrArg some (by kernel_rfl))⟩,
  f57 := ⟨Try.f55.name, by decide, Try.func55.trans (congrArg some (by kernel_rfl))⟩,
  t0 := Try.underlying0,
  a0 := Try.isAgg0,
  z0 := Try.sizeOf0,
  v0 := Try.zeroValue0,
  t3 := Try.underlying3,
  a3 := Try.isAgg3,
  z3 := Try.sizeOf3,
  v3 := Try.zeroValue3,
  t4 := Try.underlying4,
  a4 := Try.isAgg4,
  z4 := Try.sizeOf4,
  v4 := Try.zeroValue4,
  t5 := Try.underlying5,
  a5 := Try.isAgg5,
  z5 := Try.sizeOf5,
  v5 := Try.zeroValue5,
  t9 := Try.underlying9,
  a9 := Try.isAgg9,
  z9 := Try.sizeOf9,
  v9 := Try.zeroValue9,
  t22 := Try.underlying22,
  a22 := Try.isAgg22,
  z22 := Try.sizeOf22,
  v22 := Try.zeroValue22,
  t25 := Try.underlying44,
  a25 := Try.isAgg44,
  z25 := Try.sizeOf44,
  v25 := Try.zeroValue44,
  t39 := Try.underlying55,
  a39 := Try.isAgg55,
  z39 := Try.sizeOf55,
  v39 := Try.zeroValue55,
  t45 := Try.underlying57,
  a45 := Try.isAgg57,
  z45 := Try.sizeOf57,
  v45 := Try.zeroValue57,
  t46 := Try.underlying58,
  a46 := Try.isAgg58,
  z46 := Try.sizeOf58,
  v46 := Try.zeroValue58,
  t50 := Try.underlying62,
  a50 := Try.isAgg62,
  z50 := Try.sizeOf62,
  v50 := Try.zeroValue62,
  t53 := Try.underlying65,
  a53 := Try.isAgg65,
  z53 := Try.sizeOf65,
  v53 := Try.zeroValue65,
  t55 := Try.underlying67,
  a55 := Try.isAgg67,
  z55 := Try.sizeOf67,
  v55 := Try.zeroValue67,
  t66 := Try.underlying68,
  a66 := Try.isAgg68,
  z66 := Try.sizeOf68,
  v66 := Try.zeroValue68,
  t70 := Try.underlying72,
  a70 := Try.isAgg72,
  z70 := Try.sizeOf72,
  v70 := Try.zeroValue72,
  t76 := Try.underlying74,
  a76 := Try.isAgg74,
  z76 := Try.sizeOf74,
  v76 := Try.zeroValue74,
  t77 := Try.underlying75,
  a77 := Try.isAgg75,
  z77 := Try.sizeOf75,
  v77 := Try.zeroValue75 }
end Go.Proofs.Ytmbpgebboppkmaa
end

section
/- maps as rows of keys and values, in the order in which they were laid: what the operations do -/
set_option linter.unusedVariables false
set_option linter.unusedSimpArgs false
set_option autoImplicit false
namespace Go.Proofs.Ytmbpgebboppkmaa
open Go.RowKit
open Go.Maps (Keyed)
open Go.ChangeMaps (setBlock modify_eq_set heap_setBlock_same heap_setBlock_other)

section
variable {P : Program} {k : TypeId} {w W : World} {b : Nat}
/-- block b is a map of these keys and values; each entry's stamp is known -/
structure MapE (P : Program) (k : TypeId) (W : World) (b : Nat) (kv : List (Value × Value)) (es : Array MapEntry) (clock : Nat) : Prop where
  heap : W.heap[b]? = some (.map es clock)
  kv : es.toList.map (fun e => (e.key, e.val)) = kv
  keys : ∀ e ∈ es.toList, ∃ l, keyOf P k e.key = some l
  apart : es.toList.Pairwise (fun x y => x.born ≠ y.born)
  old : ∀ e ∈ es.toList, e.born < clock
def MapR (P : Program) (k : TypeId) (W : World) (b : Nat) (kv : List (Value × Value)) : Prop := ∃ es clock, MapE P k W b kv es clock
theorem MapR.made (w : World) (P : Program) (k : TypeId) : MapR P k (w.alloc (.map #[] 0)) w.heap.size [] :=
  ⟨#[], 0, (MapKept.heap_alloc w _).1, rfl, by simp, by simp, by simp⟩
theorem MapE.keep {kv : List (Value × Value)} {es : Array MapEntry} {clock : Nat} (h : MapE P k w b kv es clock) (hk : W.heap[b]? = w.heap[b]?) : MapE P k W b kv es clock :=
  ⟨hk.trans h.heap, h.kv, h.keys, h.apart, h.old⟩
theorem MapR.keep {kv : List (Value × Value)} (h : MapR P k w b kv) (hk : W.heap[b]? = w.heap[b]?) : MapR P k W b kv := by
  obtain ⟨es, c, h⟩ := h
  exact ⟨es, c, h.keep hk⟩
theorem MapR.lt {kv : List (Value × Value)} (h : MapR P k w b kv) : b < w.heap.size := by
  obtain ⟨es, c, h⟩ := h
  exact (Array.getElem?_eq_some_iff.1 h.heap).1
theorem MapR.below {kv : List (Value × Value)} (h : MapR P k w b kv) (hb : Below w.heap.size w W) : MapR P k W b kv := h.keep (hb.block b h.lt)
theorem MapR.grown {kv : List (Value × Value)} {row : Option Nat} (h : MapR P k w b kv) (hg : w.grownBy W row) (hne : some b ≠ row) : MapR P k W b kv := h.keep (hg.block b h.lt hne)
theorem MapE.at_ {kv : List (Value × Value)} {es : Array MapEntry} {clock : Nat} (h : MapE P k w b kv es clock) (j : Nat) (e : MapEntry) (he : es.toList[j]? = some e) : kv[j]? = some (e.key, e.val) := by
  rw [← h.kv, List.getElem?_map, he]
  rfl
theorem MapE.no {kv : List (Value × Value)} {es : Array MapEntry} {clock : Nat} (h : MapE P k w b kv es clock) {x : Value} (hx : ∀ e ∈ es.toList, e.key ≠ x) : ∀ p ∈ kv, p.1 ≠ x := by
  intro p hp
  rw [← h.kv] at hp
  obtain ⟨e, he, rfl⟩ := List.mem_map.1 hp
  exact hx e he
/-- m[x]; v, ok := m[x] -/
theorem MapR.lookup {kv : List (Value × Value)} {t e : TypeId} (h : MapR P k w b kv) (K : Keyed P k) (ht : P.underlying t = some (.map k e)) {z : Value} (hz : (zeroValue e).run P w = .ok z w) {x : Value} {lx : Lit} (hx : keyOf P k x = some lx) (c : Bool) :
    ((Instr.lookup t (.map (some b)) x c).run P w = .ok (if c then .tuple #[z, .bool false] else z) w ∧ ∀ p ∈ kv, p.1 ≠ x) ∨
    ∃ (j : Nat) (v : Value), kv[j]? = some (x, v) ∧ (Instr.lookup t (.map (some b)) x c).run P w = .ok (if c then .tuple #[v, .bool true] else v) w := by
  obtain ⟨es, clock, h⟩ := h
  rcases K.find w hx es.toList h.keys with ⟨h1, h2⟩ | ⟨j, e0, h1, h2, h3⟩
  · exact .inl ⟨by simp [Instr.lookup, run_underlying ht, MapKept.run_getObj_map h.heap, K.check w _ hx, h1, hz, Result.andThen], h.no h2⟩
  · exact .inr ⟨j, e0.val, by rw [h.at_ j e0 h2, h3], by simp [Instr.lookup, run_underlying ht, MapKept.run_getObj_map h.heap, K.check w _ hx, h1, Result.andThen]⟩
theorem grown_setBlock {kv : List (Value × Value)} {es es' : Array MapEntry} {clock clock' : Nat} (h : MapE P k w b kv es clock) : w.grownBy (setBlock w b (.map es' clock')) (some b) :=
  ⟨rfl, rfl, rfl, by simp [setBlock], fun i _ hi => heap_setBlock_other h.heap _ (fun e => hi (by rw [e]))⟩
theorem MapE.push {kv : List (Value × Value)} {es : Array MapEntry} {clock : Nat} (h : MapE P k w b kv es clock) {x v : Value} {lx : Lit} (hx : keyOf P k x = some lx) :
    MapE P k (setBlock w b (.map (es.push ⟨x, v, clock⟩) (clock + 1))) b (kv ++ [(x, v)]) (es.push ⟨x, v, clock⟩) (clock + 1) := by
  refine ⟨heap_setBlock_same h.heap _, by simp [← h.kv], ?_, ?_, ?_⟩
  · intro e he
    simp only [Array.toList_push, List.mem_append, List.mem_singleton] at he
    rcases he with he | rfl
    · exact h.keys e he
    · exact ⟨_, hx⟩
  · rw [Array.toList_push, List.pairwise_append]
    refine ⟨h.apart, by simp, fun a ha c hc => ?_⟩
    rw [List.mem_singleton] at hc
    subst hc
    have := h.old a ha
    exact Nat.ne_of_lt this
  · intro e he
    simp only [Array.toList_push, List.mem_append, List.mem_singleton] at he
    rcases he with he | rfl
    · exact Nat.lt_succ_of_lt (h.old e he)
    · exact Nat.lt_succ_self _
theorem MapE.put {kv : List (Value × Value)} {es : Array MapEntry} {clock : Nat} (h : MapE P k w b kv es clock) {j : Nat} {e0 : MapEntry} (hj : es.toList[j]? = some e0) (v : Value) :
    (es.modify j (fun e' => { e' with val := v })).toList = es.toList.set j { e0 with val := v } ∧ MapE P k (setBlock w b (.map (es.modify j (fun e' => { e' with val := v })) clock)) b (kv.set j (e0.key, v)) (es.modify j (fun e' => { e' with val := v })) clock := by
  have hlist : (es.modify j (fun e' => { e' with val := v })).toList = es.toList.set j { e0 with val := v } := by rw [Array.toList_modify, modify_eq_set _ _ _ _ hj]
  have hmem : ∀ x ∈ es.toList.set j { e0 with val := v }, ∃ y ∈ es.toList, x.key = y.key ∧ x.born = y.born := by
    intro x hx
    rcases List.mem_or_eq_of_mem_set hx with hx | rfl
    · exact ⟨x, hx, rfl, rfl⟩
    · exact ⟨e0, List.mem_of_getElem? hj, rfl, rfl⟩
  refine ⟨hlist, heap_setBlock_same h.heap _, by rw [hlist, List.map_set, ← h.kv], ?_, ?_, ?_⟩
  · intro x hx
    rw [hlist] at hx
    obtain ⟨y, hy, e1, _⟩ := hmem x hx
    rw [e1]
    exact h.keys y hy
  · rw [hlist]
    have hb : (es.toList.set j { e0 with val := v }).map (·.born) = es.toList.map (·.born) := by
      rw [List.map_set]
      have hjl := (List.getElem?_eq_some_iff.1 hj)
      refine List.ext_getElem? fun i => ?_
      rw [List.getElem?_set]
      split
      · rename_i he
        subst he
        split
        · simp [hj]
        · rename_i hn
          exact absurd (by simpa using hjl.1) hn
      · rfl
    have h2 := List.pairwise_map (f := fun (e : MapEntry) => e.born) (R := fun a b => a ≠ b) (l := es.toList)
    have h3 := List.pairwise_map (f := fun (e : MapEntry) => e.born) (R := fun a b => a ≠ b) (l := es.toList.set j { e0 with val := v })
    exact h3.1 (by rw [hb]; exact h2.2 h.apart)
  · intro x hx
    rw [hlist] at hx
    obtain ⟨y, hy, _, e2⟩ := hmem x hx
    rw [e2]
    exact h.old y hy
/-- m[x] = v -/
theorem MapR.update {kv : List (Value × Value)} {t e : TypeId} (h : MapR P k w b kv) (K : Keyed P k) (ht : P.underlying t = some (.map k e)) {x : Value} {lx : Lit} (hx : keyOf P k x = some lx) (v : Value) :
    ∃ w', (Instr.mapUpdate t (.map (some b)) x v).run P w = .ok () w' ∧ w.grownBy w' (some b) ∧
      (((∀ p ∈ kv, p.1 ≠ x) ∧ MapR P k w' b (kv ++ [(x, v)])) ∨ ∃ (j : Nat) (v0 : Value), kv[j]? = some (x, v0) ∧ MapR P k w' b (kv.set j (x, v))) := by
  obtain ⟨es, clock, h⟩ := h
  rcases K.find w hx es.toList h.keys with ⟨h1, h2⟩ | ⟨j, e0, h1, h2, h3⟩
  · refine ⟨_, ?_, grown_setBlock (es' := es.push ⟨x, v, clock⟩) (clock' := clock + 1) h, .inl ⟨h.no h2, _, _, h.push hx⟩⟩
    simp [Instr.mapUpdate, run_underlying ht, MapKept.run_getObj_map h.heap, K.check w false hx, h1, MapKept.run_setObj_map _ h.heap, Result.andThen, setBlock]
  · have hj : es[j]? = some e0 := by simpa using h2
    have hm : es.modify j (fun e' => { e' with key := x, val := v }) = es.modify j (fun e' => { e' with val := v }) := by
      apply Array.ext'
      rw [Array.toList_modify, Array.toList_modify, modify_eq_set _ _ _ _ h2, modify_eq_set _ _ _ _ h2, ← h3]
    have hp := (h.put h2 v).2
    refine ⟨_, ?_, grown_setBlock (es' := es.modify j (fun e' => { e' with val := v })) (clock' := clock) h, .inr ⟨j, e0.val, by rw [h.at_ j e0 h2, h3], _, _, by rw [h3] at hp; exact hp⟩⟩
    rw [← hm]
    simp [Instr.mapUpdate, run_underlying ht, MapKept.run_getObj_map h.heap, K.check w false hx, h1, hj, h3, K.stays w hx, MapKept.run_setObj_map _ h.heap, Result.andThen, setBlock]
/-- the entry at place j bears this stamp -/
def Stamp (W : World) (b j s : Nat) : Prop := ∃ es clock e, W.heap[b]? = some (.map es clock) ∧ es.toList[j]? = some e ∧ e.born = s
theorem Stamp.keep {j s : Nat} (h : Stamp w b j s) (hk : W.heap[b]? = w.heap[b]?) : Stamp W b j s := by
  obtain ⟨es, c, e, h1, h2, h3⟩ := h
  exact ⟨es, c, e, hk.trans h1, h2, h3⟩
/-- m[x] = f(m[x]): the entry is made ahead .. -/
theorem MapR.entry {kv : List (Value × Value)} {t e : TypeId} (h : MapR P k w b kv) (K : Keyed P k) (ht : P.underlying t = some (.map k e)) {z : Value} (hz : (zeroValue e).run P w = .ok z w) {x : Value} {lx : Lit} (hx : keyOf P k x = some lx) :
    ∃ w' v s, (Instr.mapEntry t (.map (some b)) x).run P w = .ok (.tuple #[v, .int .i64 (s : Nat)]) w' ∧ w.grownBy w' (some b) ∧
      (((∀ p ∈ kv, p.1 ≠ x) ∧ v = z ∧ MapR P k w' b (kv ++ [(x, z)]) ∧ Stamp w' b kv.length s) ∨ ∃ (j : Nat), kv[j]? = some (x, v) ∧ MapR P k w' b kv ∧ Stamp w' b j s) := by
  obtain ⟨es, clock, h⟩ := h
  rcases K.find w hx es.toList h.keys with ⟨h1, h2⟩ | ⟨j, e0, h1, h2, h3⟩
  · refine ⟨_, z, clock, ?_, grown_setBlock (es' := es.push ⟨x, z, clock⟩) (clock' := clock + 1) h, .inl ⟨h.no h2, rfl, ⟨_, _, h.push hx⟩, _, _, ⟨x, z, clock⟩, heap_setBlock_same h.heap _, ?_, rfl⟩⟩
    · simp [Instr.mapEntry, run_underlying ht, MapKept.run_getObj_map h.heap, K.check w false hx, h1, hz, MapKept.run_setObj_map _ h.heap, Result.andThen, setBlock, goInt]
    · have hl : kv.length = es.toList.length := by rw [← h.kv, List.length_map]
      rw [hl, Array.toList_push]
      simp
  · have hj : es[j]? = some e0 := by simpa using h2
    have hm : es.modify j (fun e' => { e' with key := x }) = es := by
      apply Array.ext'
      rw [Array.toList_modify, modify_eq_set _ _ _ _ h2, ← h3]
      refine List.ext_getElem? fun i => ?_
      rw [List.getElem?_set]
      split
      · rename_i he
        subst he
        split
        · exact h2.symm
        · rename_i hn
          exact absurd (List.getElem?_eq_some_iff.1 h2).1 hn
      · rfl
    have hs : setBlock w b (.map es clock) = w := by
      have hb := h.heap
      obtain ⟨hlt, he⟩ := Array.getElem?_eq_some_iff.1 hb
      unfold setBlock
      have e1 : w.heap.setIfInBounds b (.map es clock) = w.heap := by
        apply Array.ext'
        rw [Array.toList_setIfInBounds]
        refine List.ext_getElem? fun i => ?_
        rw [List.getElem?_set]
        split
        · rename_i hi
          subst hi
          rw [if_pos (by simpa using hlt)]
          simpa using hb.symm
        · rfl
      rw [e1]
    refine ⟨w, e0.val, e0.born, ?_, World.grownBy.refl w _, .inr ⟨j, by rw [h.at_ j e0 h2, h3], ⟨es, clock, h⟩, es, clock, e0, h.heap, h2, rfl⟩⟩
    have hrun : (Instr.mapEntry t (.map (some b)) x).run P w = .ok (.tuple #[e0.val, .int .i64 (e0.born : Nat)]) (setBlock w b (.map (es.modify j (fun e' => { e' with key := x })) clock)) := by
      simp [Instr.mapEntry, run_underlying ht, MapKept.run_getObj_map h.heap, K.check w false hx, h1, hj, h3, K.stays w hx, MapKept.run_setObj_map _ h.heap, Result.andThen, setBlock, goInt]
    rw [hm, hs] at hrun
    exact hrun
/-- .. and stored into behind -/
theorem MapR.entryStore {kv : List (Value × Value)} {t : TypeId} (h : MapR P k w b kv) {j s : Nat} (hs : Stamp w b j s) {x v0 : Value} (hj : kv[j]? = some (x, v0)) (v : Value) :
    ∃ w', (Instr.entryStore t (.map (some b)) (.int .i64 (s : Nat)) v).run P w = .ok () w' ∧ w.grownBy w' (some b) ∧ MapR P k w' b (kv.set j (x, v)) := by
  obtain ⟨es, clock, h⟩ := h
  obtain ⟨es', clock', e, h1, h2, h3⟩ := hs
  rw [h.heap] at h1
  obtain ⟨rfl, rfl⟩ : es = es' ∧ clock = clock' := by
    have h1 := Option.some.inj h1
    injection h1 with a b
    exact ⟨a, b⟩
  have hx : e.key = x := by
    have := h.at_ j e h2
    rw [hj] at this
    exact (Prod.mk.inj (Option.some.inj this)).1.symm
  have hp := (h.put h2 v).2
  have hidx : es.findIdx? (fun e' => (e'.born : Int) == (s : Int)) = some j := by
    have hjl := (List.getElem?_eq_some_iff.1 h2)
    rw [Array.findIdx?_eq_some_iff_getElem]
    refine ⟨by simpa using hjl.1, ?_, fun i hi => ?_⟩
    · have : es[j]'(by simpa using hjl.1) = e := by simpa using hjl.2
      rw [this, h3]
      simp
    · have hil : i < es.toList.length := by have := hjl.1; omega
      have hne := (List.pairwise_iff_getElem.1 h.apart) i j hil hjl.1 hi
      rw [hjl.2] at hne
      have : es[i]'(by simpa using hil) = es.toList[i] := by simp
      rw [this, ← h3]
      simp only [beq_iff_eq]
      intro hh
      exact hne (by omega)
  refine ⟨_, ?_, grown_setBlock (es' := es.modify j (fun e' => { e' with val := v })) (clock' := clock) h, _, _, by rw [hx] at hp; exact hp⟩
  simp [Instr.entryStore, MapKept.run_getObj_map h.heap, hidx, MapKept.run_setObj_map _ h.heap, Result.andThen, setBlock, asInt, asIntOf]
/-- len(m) -/
theorem MapR.len {kv : List (Value × Value)} {t ty : TypeId} {e : TypeId} (h : MapR P k w b kv) (ht : P.underlying t = some (.map k e)) : (Builtin.len_ #[t] ty #[.map (some b)]).run P w = .ok (.int .i64 (kv.length : Nat)) w := by
  obtain ⟨es, clock, h⟩ := h
  have hl : kv.length = es.size := by rw [← h.kv, List.length_map]; simp
  rw [hl]
  simp [Builtin.len_, run_underlying ht, MapKept.run_getObj_map h.heap, goInt, Result.andThen]
end
end Go.Proofs.Ytmbpgebboppkmaa
end

section
-- Written by a program of this session (wip/tools/myprint.py), over the kit's print.
namespace Go.Proofs.Ytmbpgebboppkmaa.G
open Go.RowKit Go.Proofs.YtmbpgebboppkmaaW.PrintWords Go.Proofs.YtmbpgebboppkmaaW.PrintLast Go.Proofs.YtmbpgebboppkmaaW.PrintMore
attribute [local go_sem] max2_int min2_int max_two min_two max_three min_three max_four min_four   -- for this text's walks alone
set_option linter.unusedVariables false
set_option linter.unusedSimpArgs false

/-! ### value_Right: function 17 -/
def value_Right.f (a0_0 : Int) (a0_1 : Int) (a0_2 : ByteArray) : Option (Bool) := if a0_0 = 1 then (some (a0_2.toList == ([] : List UInt8))) else (if a0_0 = 2 then (if a0_1 = 0 then (some (decide ((a0_2.size : Int) ≤ 64))) else (some false)) else (if a0_0 = 3 then (if a0_2.toList = ([] : List UInt8) then (some ((Go.bits .andNot .i64 a0_1 1) == 0)) else (some false)) else (some false)))
set_option maxHeartbeats 8000000 in
set_option maxRecDepth 100000 in
theorem value_Right.calls (a0_0 : Int) (a0_1 : Int) (a0_2 : ByteArray) (r : Bool) (w : World) (h : value_Right.f a0_0 a0_1 a0_2 = some r) :
    Calls Try.prog 17 #[.agg #[.int .i64 a0_0, .int .i64 a0_1, .string a0_2]] w fun e w' => e = .returned (.bool r) ∧ Below w.heap.size w w' := by
  have hu30 := Try.underlying30
  have HB := Aside0.mk (Below.refl w.heap.size w)
  have H : (if a0_0 = 1 then (some (a0_2.toList == ([] : List UInt8))) else (if a0_0 = 2 then (if a0_1 = 0 then (some (decide ((a0_2.size : Int) ≤ 64))) else (some false)) else (if a0_0 = 3 then (if a0_2.toList = ([] : List UInt8) then (some ((Go.bits .andNot .i64 a0_1 1) == 0)) else (some false)) else (some false)))) = some r := h
  clear h
  by_cases c2 : a0_0 = 1
  · rw [if_pos c2] at H
    have c2b0 : (a0_0 == 1) = true := beq_iff_eq.mpr c2
    have c2b1 : (a0_0 != 1) = false := bne_eq_false_iff_eq.mpr c2
    clear c2
    obtain rfl := Option.some.inj H
    go_enter Try.func17, Try.ntmps17
    go_wp2_with (first | ((with_reducible refine gate_dst (N := 1) rfl ?_); (try (refine gate_guard (by rfl) ?_; dsimp only)); refine box_event ?hg (N := 1) ?hd (cs := #[.int .i64 a0_0, .int .i64 a0_1, .string a0_2]) (t := 30) ?hr ?_; (case hd => rfl); (case hg => rfl); (case hr => first | (go_simp; done) | (go_simp; rfl)); intro gb101 hg w3 hbox hb; have n0_ := Aside0.mk (below_step (by repeat (first | (with_reducible first | exact HB.out | apply below_alloc | apply pw_below_drewN | apply below_drew1) | exact HB.out)) hb); have n1_ := Aside0.mk (hbox); have n2_ := Aside0.mk ((by rw [hg]; exact (below_size (by repeat (first | (with_reducible first | exact HB.out | apply below_alloc | apply pw_below_drewN | apply below_drew1) | exact HB.out))) : w.heap.size ≤ gb101)); have n3_ := Aside0.mk ((by rw [hg]; exact (below_size (by repeat (first | (with_reducible first | exact HB.out | apply below_alloc | apply pw_below_drewN | apply below_drew1) | exact HB.out))) : w.heap.size ≤ gb101)); clear HB; have HB := n0_; have BK101 := n1_; have GW101 := n2_; have GE101 := n3_; clear n0_ n1_ n2_ n3_; clear hb hbox hg; have hcz4_0 : w3.cell? ⟨gb101, 0, none⟩ = some (.int .i64 a0_0) := (blk_cell BK101.out 0).trans rfl; have hcz4_1 : w3.cell? ⟨gb101, 1, none⟩ = some (.int .i64 a0_1) := (blk_cell BK101.out 1).trans rfl; have hcz4_2 : w3.cell? ⟨gb101, 2, none⟩ = some (.string a0_2) := (blk_cell BK101.out 2).trans rfl; have hfz4_0 := blk_frozen BK101.out 0; have hfz4_1 := blk_frozen BK101.out 1; have hfz4_2 := blk_frozen BK101.out 2))
    go_ret
    exact ⟨by first | rfl | (simp [errW_none, errW_some] <;> rfl) | (simp [*, errW_none, errW_some] <;> rfl), by repeat (first | (with_reducible first | exact HB.out | apply below_alloc | apply pw_below_drewN | apply below_drew1 | refine below_set ?_ GE101.out) | exact HB.out)⟩
  · rw [if_neg c2] at H
    have c2b0 : (a0_0 == 1) = false := beq_eq_false_iff_ne.mpr c2
    have c2b1 : (a0_0 != 1) = true := bne_iff_ne.mpr c2
    by_cases c5 : a0_0 = 2
    · rw [if_pos c5] at H
      have c5b0 : (a0_0 == 2) = true := beq_iff_eq.mpr c5
      have c5b1 : (a0_0 != 2) = false := bne_eq_false_iff_eq.mpr c5
      clear c5
      by_cases c6 : a0_1 = 0
      · rw [if_pos c6] at H
        have c6b0 : (a0_1 == 0) = true := beq_iff_eq.mpr c6
        have c6b1 : (a0_1 != 0) = false := bne_eq_false_iff_eq.mpr c6
        clear c6
        obtain rfl := Option.some.inj H
        go_enter Try.func17, Try.ntmps17
        go_wp2_with (first | ((with_reducible refine gate_dst (N := 1) rfl ?_); (try (refine gate_guard (by rfl) ?_; dsimp only)); refine box_event ?hg (N := 1) ?hd (cs := #[.int .i64 a0_0, .int .i64 a0_1, .string a0_2]) (t := 30) ?hr ?_; (case hd => rfl); (case hg => rfl); (case hr => first | (go_simp; done) | (go_simp; rfl)); intro gb101 hg w7 hbox hb; have n0_ := Aside0.mk (below_step (by repeat (first | (with_reducible first | exact HB.out | apply below_alloc | apply pw_below_drewN | apply below_drew1) | exact HB.out)) hb); have n1_ := Aside0.mk (hbox); have n2_ := Aside0.mk ((by rw [hg]; exact (below_size (by repeat (first | (with_reducible first | exact HB.out | apply below_alloc | apply pw_below_drewN | apply below_drew1) | exact HB.out))) : w.heap.size ≤ gb101)); have n3_ := Aside0.mk ((by rw [hg]; exact (below_size (by repeat (first | (with_reducible first | exact HB.out | apply below_alloc | apply pw_below_drewN | apply below_drew1) | exact HB.out))) : w.heap.size ≤ gb101)); clear HB; have HB := n0_; have BK101 := n1_; have GW101 := n2_; have GE101 := n3_; clear n0_ n1_ n2_ n3_; clear hb hbox hg; have hcz8_0 : w7.cell? ⟨gb101, 0, none⟩ = some (.int .i64 a0_0) := (blk_cell BK101.out 0).trans rfl; have hcz8_1 : w7.cell? ⟨gb101, 1, none⟩ = some (.int .i64 a0_1) := (blk_cell BK101.out 1).trans rfl; have hcz8_2 : w7.cell? ⟨gb101, 2, none⟩ = some (.string a0_2) := (blk_cell BK101.out 2).trans rfl; have hfz8_0 := blk_frozen BK101.out 0; have hfz8_1 := blk_frozen BK101.out 1; have hfz8_2 := blk_frozen BK101.out 2))
        go_ret
        exact ⟨by first | rfl | (simp [errW_none, errW_some] <;> rfl) | (simp [*, errW_none, errW_some] <;> rfl), by repeat (first | (with_reducible first | exact HB.out | apply below_alloc | apply pw_below_drewN | apply below_drew1 | refine below_set ?_ GE101.out) | exact HB.out)⟩
      · rw [if_neg c6] at H
        have c6b0 : (a0_1 == 0) = false := beq_eq_false_iff_ne.mpr c6
        have c6b1 : (a0_1 != 0) = true := bne_iff_ne.mpr c6
        obtain rfl := Option.some.inj H
        go_enter Try.func17, Try.ntmps17
        go_wp2_with (first | ((with_reducible refine gate_dst (N := 1) rfl ?_); (try (refine gate_guard (by rfl) ?_; dsimp only)); refine box_event ?hg (N := 1) ?hd (cs := #[.int .i64 a0_0, .int .i64 a0_1, .string a0_2]) (t := 30) ?hr ?_; (case hd => rfl); (case hg => rfl); (case hr => first | (go_simp; done) | (go_simp; rfl)); intro gb101 hg w9 hbox hb; have n0_ := Aside0.mk (below_step (by repeat (first | (with_reducible first | exact HB.out | apply below_alloc | apply pw_below_drewN | apply below_drew1) | exact HB.out)) hb); have n1_ := Aside0.mk (hbox); have n2_ := Aside0.mk ((by rw [hg]; exact (below_size (by repeat (first | (with_reducible first | exact HB.out | apply below_alloc | apply pw_below_drewN | apply below_drew1) | exact HB.out))) : w.heap.size ≤ gb101)); have n3_ := Aside0.mk ((by rw [hg]; exact (below_size (by repeat (first | (with_reducible first | exact HB.out | apply below_alloc | apply pw_below_drewN | apply below_drew1) | exact HB.out))) : w.heap.size ≤ gb101)); clear HB; have HB := n0_; have BK101 := n1_; have GW101 := n2_; have GE101 := n3_; clear n0_ n1_ n2_ n3_; clear hb hbox hg; have hcz10_0 : w9.cell? ⟨gb101, 0, none⟩ = some (.int .i64 a0_0) := (blk_cell BK101.out 0).trans rfl; have hcz10_1 : w9.cell? ⟨gb101, 1, none⟩ = some (.int .i64 a0_1) := (blk_cell BK101.out 1).trans rfl; have hcz10_2 : w9.cell? ⟨gb101, 2, none⟩ = some (.string a0_2) := (blk_cell BK101.out 2).trans rfl; have hfz10_0 := blk_frozen BK101.out 0; have hfz10_1 := blk_frozen BK101.out 1; have hfz10_2 := blk_frozen BK101.out 2))
        go_ret
        exact ⟨by first | rfl | (simp [errW_none, errW_some] <;> rfl) | (simp [*, errW_none, errW_some] <;> rfl), by repeat (first | (with_reducible first | exact HB.out | apply below_alloc | apply pw_below_drewN | apply below_drew1 | refine below_set ?_ GE101.out) | exact HB.out)⟩
    · rw [if_neg c5] at H
      have c5b0 : (a0_0 == 2) = false := beq_eq_false_iff_ne.mpr c5
      have c5b1 : (a0_0 != 2) = true := bne_iff_ne.mpr c5
      by_cases c11 : a0_0 = 3
      · rw [if_pos c11] at H
        have c11b0 : (a0_0 == 3) = true := beq_iff_eq.mpr c11
        have c11b1 : (a0_0 != 3) = false := bne_eq_false_iff_eq.mpr c11
        clear c11
        by_cases c12 : a0_2.toList = ([] : List UInt8)
        · rw [if_pos c12] at H
          have c12b0 : (a0_2.toList == ([] : List UInt8)) = true := beq_iff_eq.mpr c12
          have c12b1 : (a0_2.toList != ([] : List UInt8)) = false := bne_eq_false_iff_eq.mpr c12
          clear c12
          obtain rfl := Option.some.inj H
          go_enter Try.func17, Try.ntmps17
          go_wp2_with (first | ((with_reducible refine gate_dst (N := 1) rfl ?_); (try (refine gate_guard (by rfl) ?_; dsimp only)); refine box_event ?hg (N := 1) ?hd (cs := #[.int .i64 a0_0, .int .i64 a0_1, .string a0_2]) (t := 30) ?hr ?_; (case hd => rfl); (case hg => rfl); (case hr => first | (go_simp; done) | (go_simp; rfl)); intro gb101 hg w13 hbox hb; have n0_ := Aside0.mk (below_step (by repeat (first | (with_reducible first | exact HB.out | apply below_alloc | apply pw_below_drewN | apply below_drew1) | exact HB.out)) hb); have n1_ := Aside0.mk (hbox); have n2_ := Aside0.mk ((by rw [hg]; exact (below_size (by repeat (first | (with_reducible first | exact HB.out | apply below_alloc | apply pw_below_drewN | apply below_drew1) | exact HB.out))) : w.heap.size ≤ gb101)); have n3_ := Aside0.mk ((by rw [hg]; exact (below_size (by repeat (first | (with_reducible first | exact HB.out | apply below_alloc | apply pw_below_drewN | apply below_drew1) | exact HB.out))) : w.heap.size ≤ gb101)); clear HB; have HB := n0_; have BK101 := n1_; have GW101 := n2_; have GE101 := n3_; clear n0_ n1_ n2_ n3_; clear hb hbox hg; have hcz14_0 : w13.cell? ⟨gb101, 0, none⟩ = some (.int .i64 a0_0) := (blk_cell BK101.out 0).trans rfl; have hcz14_1 : w13.cell? ⟨gb101, 1, none⟩ = some (.int .i64 a0_1) := (blk_cell BK101.out 1).trans rfl; have hcz14_2 : w13.cell? ⟨gb101, 2, none⟩ = some (.string a0_2) := (blk_cell BK101.out 2).trans rfl; have hfz14_0 := blk_frozen BK101.out 0; have hfz14_1 := blk_frozen BK101.out 1; have hfz14_2 := blk_frozen BK101.out 2))
          go_ret
          exact ⟨by first | rfl | (simp [errW_none, errW_some] <;> rfl) | (simp [*, errW_none, errW_some] <;> rfl), by repeat (first | (with_reducible first | exact HB.out | apply below_alloc | apply pw_below_drewN | apply below_drew1 | refine below_set ?_ GE101.out) | exact HB.out)⟩
        · rw [if_neg c12] at H
          have c12b0 : (a0_2.toList == ([] : List UInt8)) = false := beq_eq_false_iff_ne.mpr c12
          have c12b1 : (a0_2.toList != ([] : List UInt8)) = true := bne_iff_ne.mpr c12
          obtain rfl := Option.some.inj H
          go_enter Try.func17, Try.ntmps17
          go_wp2_with (first | ((with_reducible refine gate_dst (N := 1) rfl ?_); (try (refine gate_guard (by rfl) ?_; dsimp only)); refine box_event ?hg (N := 1) ?hd (cs := #[.int .i64 a0_0, .int .i64 a0_1, .string a0_2]) (t := 30) ?hr ?_; (case hd => rfl); (case hg => rfl); (case hr => first | (go_simp; done) | (go_simp; rfl)); intro gb101 hg w15 hbox hb; have n0_ := Aside0.mk (below_step (by repeat (first | (with_reducible first | exact HB.out | apply below_alloc | apply pw_below_drewN | apply below_drew1) | exact HB.out)) hb); have n1_ := Aside0.mk (hbox); have n2_ := Aside0.mk ((by rw [hg]; exact (below_size (by repeat (first | (with_reducible first | exact HB.out | apply below_alloc | apply pw_below_drewN | apply below_drew1) | exact HB.out))) : w.heap.size ≤ gb101)); have n3_ := Aside0.mk ((by rw [hg]; exact (below_size (by repeat (first | (with_reducible first | exact HB.out | apply below_alloc | apply pw_below_drewN | apply below_drew1) | exact HB.out))) : w.heap.size ≤ gb101)); clear HB; have HB := n0_; have BK101 := n1_; have GW101 := n2_; have GE101 := n3_; clear n0_ n1_ n2_ n3_; clear hb hbox hg; have hcz16_0 : w15.cell? ⟨gb101, 0, none⟩ = some (.int .i64 a0_0) := (blk_cell BK101.out 0).trans rfl; have hcz16_1 : w15.cell? ⟨gb101, 1, none⟩ = some (.int .i64 a0_1) := (blk_cell BK101.out 1).trans rfl; have hcz16_2 : w15.cell? ⟨gb101, 2, none⟩ = some (.string a0_2) := (blk_cell BK101.out 2).trans rfl; have hfz16_0 := blk_frozen BK101.out 0; have hfz16_1 := blk_frozen BK101.out 1; have hfz16_2 := blk_frozen BK101.out 2))
          go_ret
          exact ⟨by first | rfl | (simp [errW_none, errW_some] <;> rfl) | (simp [*, errW_none, errW_some] <;> rfl), by repeat (first | (with_reducible first | exact HB.out | apply below_alloc | apply pw_below_drewN | apply below_drew1 | refine below_set ?_ GE101.out) | exact HB.out)⟩
      · rw [if_neg c11] at H
        have c11b0 : (a0_0 == 3) = false := beq_eq_false_iff_ne.mpr c11
        have c11b1 : (a0_0 != 3) = true := bne_iff_ne.mpr c11
        obtain rfl := Option.some.inj H
        go_enter Try.func17, Try.ntmps17
        go_wp2_with (first | ((with_reducible refine gate_dst (N := 1) rfl ?_); (try (refine gate_guard (by rfl) ?_; dsimp only)); refine box_event ?hg (N := 1) ?hd (cs := #[.int .i64 a0_0, .int .i64 a0_1, .string a0_2]) (t := 30) ?hr ?_; (case hd => rfl); (case hg => rfl); (case hr => first | (go_simp; done) | (go_simp; rfl)); intro gb101 hg w17 hbox hb; have n0_ := Aside0.mk (below_step (by repeat (first | (with_reducible first | exact HB.out | apply below_alloc | apply pw_below_drewN | apply below_drew1) | exact HB.out)) hb); have n1_ := Aside0.mk (hbox); have n2_ := Aside0.mk ((by rw [hg]; exact (below_size (by repeat (first | (with_reducible first | exact HB.out | apply below_alloc | apply pw_below_drewN | apply below_drew1) | exact HB.out))) : w.heap.size ≤ gb101)); have n3_ := Aside0.mk ((by rw [hg]; exact (below_size (by repeat (first | (with_reducible first | exact HB.out | apply below_alloc | apply pw_below_drewN | apply below_drew1) | exact HB.out))) : w.heap.size ≤ gb101)); clear HB; have HB := n0_; have BK101 := n1_; have GW101 := n2_; have GE101 := n3_; clear n0_ n1_ n2_ n3_; clear hb hbox hg; have hcz18_0 : w17.cell? ⟨gb101, 0, none⟩ = some (.int .i64 a0_0) := (blk_cell BK101.out 0).trans rfl; have hcz18_1 : w17.cell? ⟨gb101, 1, none⟩ = some (.int .i64 a0_1) := (blk_cell BK101.out 1).trans rfl; have hcz18_2 : w17.cell? ⟨gb101, 2, none⟩ = some (.string a0_2) := (blk_cell BK101.out 2).trans rfl; have hfz18_0 := blk_frozen BK101.out 0; have hfz18_1 := blk_frozen BK101.out 1; have hfz18_2 := blk_frozen BK101.out 2))
        go_ret
        exact ⟨by first | rfl | (simp [errW_none, errW_some] <;> rfl) | (simp [*, errW_none, errW_some] <;> rfl), by repeat (first | (with_reducible first | exact HB.out | apply below_alloc | apply pw_below_drewN | apply below_drew1 | refine below_set ?_ GE101.out) | exact HB.out)⟩

end Go.Proofs.Ytmbpgebboppkmaa.G
end

section
-- Written by a program of this session (wip/tools/myprint.py), over the kit's print.
namespace Go.Proofs.Ytmbpgebboppkmaa.G
open Go.RowKit Go.Proofs.YtmbpgebboppkmaaW.PrintWords Go.Proofs.YtmbpgebboppkmaaW.PrintLast Go.Proofs.YtmbpgebboppkmaaW.PrintMore
attribute [local go_sem] max2_int min2_int max_two min_two max_three min_three max_four min_four   -- for this text's walks alone
set_option linter.unusedVariables false
set_option linter.unusedSimpArgs false

/-! ### event_wrong: function 19 -/
def event_wrong.f (a0_0 : ByteArray) (a0_1 : Int) (a0_2 : Int) (a0_3 : ByteArray) : Option (Bool) := if a0_0.toList = ([] : List UInt8) then (some true) else (if (a0_0.size : Int) > 16 then (some true) else ((value_Right.f a0_1 a0_2 a0_3).bind fun t103 => (some (!t103))))
set_option maxHeartbeats 8000000 in
set_option maxRecDepth 100000 in
theorem event_wrong.calls (a0_0 : ByteArray) (a0_1 : Int) (a0_2 : Int) (a0_3 : ByteArray) (r : Bool) (w : World) (h : event_wrong.f a0_0 a0_1 a0_2 a0_3 = some r) :
    Calls Try.prog 19 #[.agg #[.string a0_0, .int .i64 a0_1, .int .i64 a0_2, .string a0_3]] w fun e w' => e = .returned (.bool r) ∧ Below w.heap.size w w' := by
  have hu32 := Try.underlying32
  have hu30 := Try.underlying30
  have HB := Aside0.mk (Below.refl w.heap.size w)
  have H : (if a0_0.toList = ([] : List UInt8) then (some true) else (if (a0_0.size : Int) > 16 then (some true) else ((value_Right.f a0_1 a0_2 a0_3).bind fun t103 => (some (!t103))))) = some r := h
  clear h
  by_cases c2 : a0_0.toList = ([] : List UInt8)
  · rw [if_pos c2] at H
    have c2b0 : (a0_0.toList == ([] : List UInt8)) = true := beq_iff_eq.mpr c2
    have c2b1 : (a0_0.toList != ([] : List UInt8)) = false := bne_eq_false_iff_eq.mpr c2
    clear c2
    obtain rfl := Option.some.inj H
    go_enter Try.func19, Try.ntmps19
    go_wp2_with (first | ((with_reducible refine gate_dst (N := 1) rfl ?_); (try (refine gate_guard (by rfl) ?_; dsimp only)); refine box_event ?hg (N := 1) ?hd (cs := #[.string a0_0, .int .i64 a0_1, .int .i64 a0_2, .string a0_3]) (t := 32) ?hr ?_; (case hd => rfl); (case hg => rfl); (case hr => first | (go_simp; done) | (go_simp; rfl)); intro gb102 hg w3 hbox hb; have n0_ := Aside0.mk (below_step (by repeat (first | (with_reducible first | exact HB.out | apply below_alloc | apply pw_below_drewN | apply below_drew1) | exact HB.out)) hb); have n1_ := Aside0.mk (hbox); have n2_ := Aside0.mk ((by rw [hg]; exact (below_size (by repeat (first | (with_reducible first | exact HB.out | apply below_alloc | apply pw_below_drewN | apply below_drew1) | exact HB.out))) : w.heap.size ≤ gb102)); have n3_ := Aside0.mk ((by rw [hg]; exact (below_size (by repeat (first | (with_reducible first | exact HB.out | apply below_alloc | apply pw_below_drewN | apply below_drew1) | exact HB.out))) : w.heap.size ≤ gb102)); clear HB; have HB := n0_; have BK102 := n1_; have GW102 := n2_; have GE102 := n3_; clear n0_ n1_ n2_ n3_; clear hb hbox hg; have hcz4_0 : w3.cell? ⟨gb102, 0, none⟩ = some (.string a0_0) := (blk_cell BK102.out 0).trans rfl; have hcz4_1 : w3.cell? ⟨gb102, 1, none⟩ = some (.int .i64 a0_1) := (blk_cell BK102.out 1).trans rfl; have hcz4_2 : w3.cell? ⟨gb102, 2, none⟩ = some (.int .i64 a0_2) := (blk_cell BK102.out 2).trans rfl; have hcz4_3 : w3.cell? ⟨gb102, 3, none⟩ = some (.string a0_3) := (blk_cell BK102.out 3).trans rfl; have hfz4_0 := blk_frozen BK102.out 0; have hfz4_1 := blk_frozen BK102.out 1; have hfz4_2 := blk_frozen BK102.out 2; have hfz4_3 := blk_frozen BK102.out 3))
    go_ret
    exact ⟨by first | rfl | (simp [errW_none, errW_some] <;> rfl) | (simp [*, errW_none, errW_some] <;> rfl), by repeat (first | (with_reducible first | exact HB.out | apply below_alloc | apply pw_below_drewN | apply below_drew1 | refine below_set ?_ GE102.out) | exact HB.out)⟩
  · rw [if_neg c2] at H
    have c2b0 : (a0_0.toList == ([] : List UInt8)) = false := beq_eq_false_iff_ne.mpr c2
    have c2b1 : (a0_0.toList != ([] : List UInt8)) = true := bne_iff_ne.mpr c2
    by_cases c5 : (a0_0.size : Int) > 16
    · rw [if_pos c5] at H
      have c5b0 : decide (16 < (a0_0.size : Int)) = true := decide_eq_true c5
      have c5b1 : decide (16 < a0_0.size) = true := decide_eq_true (by omega)
      clear c5
      obtain rfl := Option.some.inj H
      go_enter Try.func19, Try.ntmps19
      go_wp2_with (first | ((with_reducible refine gate_dst (N := 1) rfl ?_); (try (refine gate_guard (by rfl) ?_; dsimp only)); refine box_event ?hg (N := 1) ?hd (cs := #[.string a0_0, .int .i64 a0_1, .int .i64 a0_2, .string a0_3]) (t := 32) ?hr ?_; (case hd => rfl); (case hg => rfl); (case hr => first | (go_simp; done) | (go_simp; rfl)); intro gb102 hg w6 hbox hb; have n0_ := Aside0.mk (below_step (by repeat (first | (with_reducible first | exact HB.out | apply below_alloc | apply pw_below_drewN | apply below_drew1) | exact HB.out)) hb); have n1_ := Aside0.mk (hbox); have n2_ := Aside0.mk ((by rw [hg]; exact (below_size (by repeat (first | (with_reducible first | exact HB.out | apply below_alloc | apply pw_below_drewN | apply below_drew1) | exact HB.out))) : w.heap.size ≤ gb102)); have n3_ := Aside0.mk ((by rw [hg]; exact (below_size (by repeat (first | (with_reducible first | exact HB.out | apply below_alloc | apply pw_below_drewN | apply below_drew1) | exact HB.out))) : w.heap.size ≤ gb102)); clear HB; have HB := n0_; have BK102 := n1_; have GW102 := n2_; have GE102 := n3_; clear n0_ n1_ n2_ n3_; clear hb hbox hg; have hcz7_0 : w6.cell? ⟨gb102, 0, none⟩ = some (.string a0_0) := (blk_cell BK102.out 0).trans rfl; have hcz7_1 : w6.cell? ⟨gb102, 1, none⟩ = some (.int .i64 a0_1) := (blk_cell BK102.out 1).trans rfl; have hcz7_2 : w6.cell? ⟨gb102, 2, none⟩ = some (.int .i64 a0_2) := (blk_cell BK102.out 2).trans rfl; have hcz7_3 : w6.cell? ⟨gb102, 3, none⟩ = some (.string a0_3) := (blk_cell BK102.out 3).trans rfl; have hfz7_0 := blk_frozen BK102.out 0; have hfz7_1 := blk_frozen BK102.out 1; have hfz7_2 := blk_frozen BK102.out 2; have hfz7_3 := blk_frozen BK102.out 3))
      go_ret
      exact ⟨by first | rfl | (simp [errW_none, errW_some] <;> rfl) | (simp [*, errW_none, errW_some] <;> rfl), by repeat (first | (with_reducible first | exact HB.out | apply below_alloc | apply pw_below_drewN | apply below_drew1 | refine below_set ?_ GE102.out) | exact HB.out)⟩
    · rw [if_neg c5] at H
      have c5b0 : decide (16 < (a0_0.size : Int)) = false := decide_eq_false c5
      have c5b1 : decide (16 < a0_0.size) = false := decide_eq_false (by omega)
      clear c5
      replace H := Option.bind_eq_some_iff.mp H
      obtain ⟨t103, A80, H⟩ := H
      replace H : (some (!t103)) = some r := H
      have A8 := Aside0.mk A80
      clear A80
      obtain rfl := Option.some.inj H
      go_enter Try.func19, Try.ntmps19
      go_wp2_with (first | ((with_reducible refine gate_dst (N := 1) rfl ?_); (try (refine gate_guard (by rfl) ?_; dsimp only)); refine box_event ?hg (N := 1) ?hd (cs := #[.string a0_0, .int .i64 a0_1, .int .i64 a0_2, .string a0_3]) (t := 32) ?hr ?_; (case hd => rfl); (case hg => rfl); (case hr => first | (go_simp; done) | (go_simp; rfl)); intro gb102 hg w9 hbox hb; have n0_ := Aside0.mk (below_step (by repeat (first | (with_reducible first | exact HB.out | apply below_alloc | apply pw_below_drewN | apply below_drew1) | exact HB.out)) hb); have n1_ := Aside0.mk (hbox); have n2_ := Aside0.mk ((by rw [hg]; exact (below_size (by repeat (first | (with_reducible first | exact HB.out | apply below_alloc | apply pw_below_drewN | apply below_drew1) | exact HB.out))) : w.heap.size ≤ gb102)); have n3_ := Aside0.mk ((by rw [hg]; exact (below_size (by repeat (first | (with_reducible first | exact HB.out | apply below_alloc | apply pw_below_drewN | apply below_drew1) | exact HB.out))) : w.heap.size ≤ gb102)); clear HB; have HB := n0_; have BK102 := n1_; have GW102 := n2_; have GE102 := n3_; clear n0_ n1_ n2_ n3_; clear hb hbox hg; have hcz10_0 : w9.cell? ⟨gb102, 0, none⟩ = some (.string a0_0) := (blk_cell BK102.out 0).trans rfl; have hcz10_1 : w9.cell? ⟨gb102, 1, none⟩ = some (.int .i64 a0_1) := (blk_cell BK102.out 1).trans rfl; have hcz10_2 : w9.cell? ⟨gb102, 2, none⟩ = some (.int .i64 a0_2) := (blk_cell BK102.out 2).trans rfl; have hcz10_3 : w9.cell? ⟨gb102, 3, none⟩ = some (.string a0_3) := (blk_cell BK102.out 3).trans rfl; have hfz10_0 := blk_frozen BK102.out 0; have hfz10_1 := blk_frozen BK102.out 1; have hfz10_2 := blk_frozen BK102.out 2; have hfz10_3 := blk_frozen BK102.out 3) | (go_at_call 17; (with_reducible refine (value_Right.calls a0_1 a0_2 a0_3 t103 _ A8.out).mono ?_); rintro e w11 ⟨rfl, hb⟩; have n0_ := Aside0.mk (blk_below (g := gb102) (o := .cells #[.string a0_0, .int .i64 a0_1, .int .i64 a0_2, .string a0_3] 32 (0, 0)) (by (with_reducible repeat (first | refine blk_drewN ?_ _ | refine blk_drew ?_ | refine blk_alloc ?_ _)); exact BK102.out) hb); have n1_ := Aside0.mk (below_step (by repeat (first | (with_reducible first | exact HB.out | apply below_alloc | apply pw_below_drewN | apply below_drew1 | refine below_set ?_ GE102.out) | exact HB.out)) hb); clear BK102; clear HB; have BK102 := n0_; have HB := n1_; clear n0_ n1_; (try clear hb); (try clear hb2); (try clear hk); (try clear hi)))
      go_ret
      exact ⟨by first | rfl | (simp [errW_none, errW_some] <;> rfl) | (simp [*, errW_none, errW_some] <;> rfl), by repeat (first | (with_reducible first | exact HB.out | apply below_alloc | apply pw_below_drewN | apply below_drew1 | refine below_set ?_ GE102.out) | exact HB.out)⟩

end Go.Proofs.Ytmbpgebboppkmaa.G
end

section
-- Written by a program of this session (wip/tools/myprint.py), over the kit's print.
namespace Go.Proofs.Ytmbpgebboppkmaa.G
open Go.RowKit Go.Proofs.YtmbpgebboppkmaaW.PrintWords Go.Proofs.YtmbpgebboppkmaaW.PrintLast Go.Proofs.YtmbpgebboppkmaaW.PrintMore
attribute [local go_sem] max2_int min2_int max_two min_two max_three min_three max_four min_four   -- for this text's walks alone
set_option linter.unusedVariables false
set_option linter.unusedSimpArgs false

/-! ### event_byName: function 23 -/
def event_byName.f (a0_0 : ByteArray) (a0_1 : Int) (a0_2 : Int) (a0_3 : ByteArray) (a1_0 : ByteArray) (a1_1 : Int) (a1_2 : Int) (a1_3 : ByteArray) : Option (Int) := (strings_Compare.f a0_0 a1_0).bind fun t108 => (some t108)
set_option maxHeartbeats 8000000 in
set_option maxRecDepth 100000 in
theorem event_byName.calls (a0_0 : ByteArray) (a0_1 : Int) (a0_2 : Int) (a0_3 : ByteArray) (a1_0 : ByteArray) (a1_1 : Int) (a1_2 : Int) (a1_3 : ByteArray) (r : Int) (w : World) (h : event_byName.f a0_0 a0_1 a0_2 a0_3 a1_0 a1_1 a1_2 a1_3 = some r) :
    Calls Try.prog 23 #[.agg #[.string a0_0, .int .i64 a0_1, .int .i64 a0_2, .string a0_3], .agg #[.string a1_0, .int .i64 a1_1, .int .i64 a1_2, .string a1_3]] w fun e w' => e = .returned (.int .i64 r) ∧ Below w.heap.size w w' := by
  have hu32 := Try.underlying32
  have HB := Aside0.mk (Below.refl w.heap.size w)
  have H : ((strings_Compare.f a0_0 a1_0).bind fun t108 => (some t108)) = some r := h
  clear h
  replace H := Option.bind_eq_some_iff.mp H
  obtain ⟨t108, A30, H⟩ := H
  replace H : (some t108) = some r := H
  have A3 := Aside0.mk A30
  clear A30
  obtain rfl := Option.some.inj H
  go_enter Try.func23, Try.ntmps23
  go_wp2_with (first | ((with_reducible refine gate_dst (N := 2) rfl ?_); refine box_event ?hg (N := 2) ?hd (cs := #[.string a0_0, .int .i64 a0_1, .int .i64 a0_2, .string a0_3]) (t := 32) ?hr ?_; (case hd => rfl); (case hg => rfl); (case hr => first | (go_simp; done) | (go_simp; rfl)); intro gb106 hg w4 hbox hb; have n0_ := Aside0.mk (below_step (by repeat (first | (with_reducible first | exact HB.out | apply below_alloc | apply pw_below_drewN | apply below_drew1) | exact HB.out)) hb); have n1_ := Aside0.mk (hbox); have n2_ := Aside0.mk ((by rw [hg]; exact (below_size (by repeat (first | (with_reducible first | exact HB.out | apply below_alloc | apply pw_below_drewN | apply below_drew1) | exact HB.out))) : w.heap.size ≤ gb106)); have n3_ := Aside0.mk ((by rw [hg]; exact (below_size (by repeat (first | (with_reducible first | exact HB.out | apply below_alloc | apply pw_below_drewN | apply below_drew1) | exact HB.out))) : w.heap.size ≤ gb106)); clear HB; have HB := n0_; have BK106 := n1_; have GW106 := n2_; have GE106 := n3_; clear n0_ n1_ n2_ n3_; clear hb hbox hg) | ((with_reducible refine gate_dst (N := 3) rfl ?_); refine box_event ?hg (N := 3) ?hd (cs := #[.string a1_0, .int .i64 a1_1, .int .i64 a1_2, .string a1_3]) (t := 32) ?hr ?_; (case hd => rfl); (case hg => rfl); (case hr => first | (go_simp; done) | (go_simp; rfl)); intro gb107 hg w5 hbox hb; have n0_ := Aside0.mk (blk_below (g := gb106) (o := .cells #[.string a0_0, .int .i64 a0_1, .int .i64 a0_2, .string a0_3] 32 (0, 0)) (by (with_reducible repeat (first | refine blk_drewN ?_ _ | refine blk_drew ?_ | refine blk_alloc ?_ _)); exact BK106.out) hb); have n1_ := Aside0.mk (below_step (by repeat (first | (with_reducible first | exact HB.out | apply below_alloc | apply pw_below_drewN | apply below_drew1 | refine below_set ?_ GE106.out) | exact HB.out)) hb); have n2_ := Aside0.mk (hbox); have n3_ := Aside0.mk ((by rw [hg]; exact (below_size (by repeat (first | (with_reducible first | exact HB.out | apply below_alloc | apply pw_below_drewN | apply below_drew1 | refine below_set ?_ GE106.out) | exact HB.out))) : w.heap.size ≤ gb107)); have n4_ := Aside0.mk ((by rw [hg]; exact (below_size (by repeat (first | (with_reducible first | exact HB.out | apply below_alloc | apply pw_below_drewN | apply below_drew1 | refine below_set ?_ GE106.out) | exact HB.out))) : w.heap.size ≤ gb107)); have n5_ := Aside0.mk ((by rw [hg]; exact Nat.ne_of_lt (blk_lt (g := gb106) (o := .cells #[.string a0_0, .int .i64 a0_1, .int .i64 a0_2, .string a0_3] 32 (0, 0)) (by (with_reducible repeat (first | refine blk_drewN ?_ _ | refine blk_drew ?_ | refine blk_alloc ?_ _)); exact BK106.out)) : gb106 ≠ gb107)); have n6_ := Aside0.mk ((by rw [hg]; exact Nat.ne_of_gt (blk_lt (g := gb106) (o := .cells #[.string a0_0, .int .i64 a0_1, .int .i64 a0_2, .string a0_3] 32 (0, 0)) (by (with_reducible repeat (first | refine blk_drewN ?_ _ | refine blk_drew ?_ | refine blk_alloc ?_ _)); exact BK106.out)) : gb107 ≠ gb106)); clear BK106; clear HB; have BK106 := n0_; have HB := n1_; have BK107 := n2_; have GW107 := n3_; have GE107 := n4_; have NB106_107 := n5_; have NB107_106 := n6_; clear n0_ n1_ n2_ n3_ n4_ n5_ n6_; clear hb hbox hg; have hnb6 := NB106_107.out; have hnc6 := NB107_106.out; have hcz7_0 : w5.cell? ⟨gb106, 0, none⟩ = some (.string a0_0) := (blk_cell BK106.out 0).trans rfl; have hcz7_1 : w5.cell? ⟨gb106, 1, none⟩ = some (.int .i64 a0_1) := (blk_cell BK106.out 1).trans rfl; have hcz7_2 : w5.cell? ⟨gb106, 2, none⟩ = some (.int .i64 a0_2) := (blk_cell BK106.out 2).trans rfl; have hcz7_3 : w5.cell? ⟨gb106, 3, none⟩ = some (.string a0_3) := (blk_cell BK106.out 3).trans rfl; have hfz7_0 := blk_frozen BK106.out 0; have hfz7_1 := blk_frozen BK106.out 1; have hfz7_2 := blk_frozen BK106.out 2; have hfz7_3 := blk_frozen BK106.out 3; have hcz8_0 : w5.cell? ⟨gb107, 0, none⟩ = some (.string a1_0) := (blk_cell BK107.out 0).trans rfl; have hcz8_1 : w5.cell? ⟨gb107, 1, none⟩ = some (.int .i64 a1_1) := (blk_cell BK107.out 1).trans rfl; have hcz8_2 : w5.cell? ⟨gb107, 2, none⟩ = some (.int .i64 a1_2) := (blk_cell BK107.out 2).trans rfl; have hcz8_3 : w5.cell? ⟨gb107, 3, none⟩ = some (.string a1_3) := (blk_cell BK107.out 3).trans rfl; have hfz8_0 := blk_frozen BK107.out 0; have hfz8_1 := blk_frozen BK107.out 1; have hfz8_2 := blk_frozen BK107.out 2; have hfz8_3 := blk_frozen BK107.out 3) | ((with_reducible refine gate_callee (f := 32) rfl ?_); refine goesL_ (some 9) rfl rfl Try.func32 (by kernel_rfl) rfl #[.string a0_0, .string a1_0] rfl (by (try simp only [List.map_toArray, List.map_cons, List.map_nil]); first | done | rfl | (simp only [List.length_drop, List.length_take]; rfl)) ?_; (with_reducible refine (strings_Compare.calls a0_0 a1_0 t108 _ A3.out).mono ?_); rintro e w' ⟨rfl, ⟨nd, rfl⟩⟩; refine ⟨_, rfl, ?_⟩))
  go_ret
  exact ⟨by first | rfl | (simp [errW_none, errW_some] <;> rfl) | (simp [*, errW_none, errW_some] <;> rfl), by repeat (first | (with_reducible first | exact HB.out | apply below_alloc | apply pw_below_drewN | apply below_drew1 | refine below_set ?_ GE106.out | refine below_set ?_ GE107.out) | exact HB.out)⟩

end Go.Proofs.Ytmbpgebboppkmaa.G
end

section
/- event.Right, walked -/
set_option linter.unusedVariables false
set_option linter.unusedSimpArgs false
set_option autoImplicit false
namespace Go.Proofs.Ytmbpgebboppkmaa
open Go Go.RowKit Go.Proofs.YtmbpgebboppkmaaW.PrintWords Go.Proofs.YtmbpgebboppkmaaW.PrintLast Go.Proofs.YtmbpgebboppkmaaW.PrintMore Go.Proofs.Ytmbpgebboppkmaa.G

theorem vkeepE {W W' : World} {b : Nat} {o : Obj} (h : W.heap[b]? = some o) (hB : Below W.heap.size W W') : W'.heap[b]? = some o := by rw [hB.block _ (lt_of_heap h)]; exact h
theorem below_cellE {w W : World} (hb : Below w.heap.size w W) {p : Addr} {v : Value} (h : w.cell? p = some v) : W.cell? p = some v := (hb.cell (World.block_lt_of_cell? _ _ h)).trans h
/-! ### which attributes may not be -/
def vrightB (k i : Int) (t : ByteArray) : Bool := if k = 1 then t.toList == [] else if k = 2 then (if i = 0 then decide ((t.size : Int) ≤ 64) else false) else if k = 3 then (if t.toList = [] then Go.bits .andNot .i64 i 1 == 0 else false) else false
theorem vright_fE (k i : Int) (t : ByteArray) : value_Right.f k i t = some (vrightB k i t) := by
  unfold value_Right.f vrightB
  split
  · rfl
  split
  · split <;> rfl
  split
  · split <;> rfl
  · rfl
def wrongA (x : S32) : Bool := if x.f0.toList = [] then true else if (x.f0.size : Int) > 16 then true else !(vrightB x.f1.f0 x.f1.f1 x.f1.f2)
theorem wrong_fE (x : S32) : event_wrong.f x.f0 x.f1.f0 x.f1.f1 x.f1.f2 = some (wrongA x) := by
  unfold event_wrong.f wrongA
  split
  · rfl
  split
  · rfl
  · rw [vright_fE]; rfl
set_option maxRecDepth 100000 in
set_option maxHeartbeats 2000000 in
theorem any_evwrong_index (p : S32 → Bool) (A : Option Addr) (c : Nat) (l : List S32) (w : World) (hC : Kd.C k32 w A l.length l)
    (hcl : ∀ (x : S32) (W : World), Below w.heap.size w W → x ∈ l → Calls Try.prog 19 #[.agg #[.string x.f0, .int .i64 x.f1.f0, .int .i64 x.f1.f1, .string x.f1.f2]] W fun e w' => e = .returned (.bool (p x)) ∧ Below W.heap.size W w') :
    Calls Try.prog 27 #[.slice A l.length c, .func (.func 19) #[] #[]] w fun e w' =>
      (∃ i : Int, e = .returned (.int .i64 i) ∧ ((i = -1 ∧ l.any p = false) ∨ (0 ≤ i ∧ l.any p = true))) ∧ Below w.heap.size w w' := by
  have HC := Aside0.mk hC
  have HL := Aside0.mk hcl
  have hl := hC.2.1
  clear hC hcl
  go_enter Try.func27, Try.ntmps27
  go_wp2_with fail
  go_loopw [8] (fun i wr => ∃ k : Nat, k ≤ l.length ∧ i = .int .i64 k ∧ Aside0 (l.any p = (l.drop k).any p) ∧ Below w.heap.size w wr) (fun i _ => l.length - (intOf i).toNat)
  case atStart => exact ⟨0, Nat.zero_le _, rfl, ⟨rfl⟩, Below.refl _ _⟩
  case round =>
    obtain ⟨k, hk, rfl, HN, hBr⟩ := hrel
    have HB := Aside0.mk hBr
    clear hBr
    by_cases hlt : k < l.length
    · obtain ⟨ad, rfl, h0, h1, h2, h3⟩ := at_T32 (Kd.C_below HC.out HB.out) (k : Int) (by omega) (by omega)
      simp only [Int.toNat_natCast] at h0 h1 h2 h3
      have hxl : rd_T32 l (k : Int) = l[k] := by simp [rd_T32, List.getD_eq_getElem?_getD, hlt]
      have hdr : l.drop k = l[k] :: l.drop (k + 1) := List.drop_eq_getElem_cons hlt
      have hmem : l[k] ∈ l := List.getElem_mem hlt
      rw [hxl] at h0 h1 h2 h3
      have hcl0 := HL.out l[k] wr HB.out hmem
      generalize l[k] = x at h0 h1 h2 h3 hdr hcl0
      have HD := Aside0.mk hdr
      clear hxl hdr hmem
      cases hb : p x with
      | true =>
        rw [hb] at hcl0
        have HT := Aside0.mk hb
        have hcl1 := Aside0.mk hcl0
        clear hb hcl0
        go_wp2_with (go_at_call 19; (with_reducible refine hcl1.out.mono ?_); rintro e w2 ⟨rfl, hB⟩; have HB2 : Aside0 (Below w.heap.size w w2) := ⟨HB.out.trans (hB.mono HB.out.size)⟩; clear hB)
        go_ret
        exact ⟨⟨k, rfl, .inr ⟨by omega, by rw [HN.out, HD.out, List.any_cons, HT.out]; rfl⟩⟩, HB2.out⟩
      | false =>
        rw [hb] at hcl0
        have HT := Aside0.mk hb
        have hcl1 := Aside0.mk hcl0
        clear hb hcl0
        go_wp2_with (go_at_call 19; (with_reducible refine hcl1.out.mono ?_); rintro e w2 ⟨rfl, hB⟩; have HB2 : Aside0 (Below w.heap.size w w2) := ⟨HB.out.trans (hB.mono HB.out.size)⟩; clear hB)
        exact ⟨⟨k + 1, by omega, by simp, ⟨by rw [HN.out, HD.out, List.any_cons, HT.out]; rfl⟩, HB2.out⟩, by simp [intOf]; omega⟩
    · obtain rfl : k = l.length := by omega
      go_wp2_with fail
      go_ret
      exact ⟨⟨-1, rfl, .inl ⟨rfl, by rw [HN.out]; simp⟩⟩, HB.out⟩
set_option maxHeartbeats 1000000 in
theorem any_evwrong (p : S32 → Bool) (A : Option Addr) (c : Nat) (l : List S32) (w : World) (hC : Kd.C k32 w A l.length l)
    (hcl : ∀ (x : S32) (W : World), Below w.heap.size w W → x ∈ l → Calls Try.prog 19 #[.agg #[.string x.f0, .int .i64 x.f1.f0, .int .i64 x.f1.f1, .string x.f1.f2]] W fun e w' => e = .returned (.bool (p x)) ∧ Below W.heap.size W w') :
    Calls Try.prog 18 #[.slice A l.length c, .func (.func 19) #[] #[]] w fun e w' => e = .returned (.bool (l.any p)) ∧ Below w.heap.size w w' := by
  have HI := Aside0.mk (any_evwrong_index p A c l w hC hcl)
  clear hC hcl
  go_enter Try.func18, Try.ntmps18
  go_wp2_with fail
  refine HI.out.mono ?_
  rintro e w1 ⟨⟨i, rfl, hi⟩, hB⟩
  rcases hi with ⟨rfl, ha⟩ | ⟨h0, ha⟩
  · have HA := Aside0.mk ha
    clear ha
    go_wp2
    go_ret
    exact ⟨by rw [HA.out]; rfl, hB⟩
  · have HA := Aside0.mk ha
    clear ha
    have h0' : decide (0 ≤ i) = true := decide_eq_true h0
    go_wp2
    go_ret
    exact ⟨by rw [HA.out]; rfl, hB⟩

/-! ### in order -/
def nameLt (a b : S32) : Bool := decide (Lib.compareBytes a.f0.data.toList b.f0.data.toList < 0)
def sortedTo (l : List S32) : Nat → Bool
  | 0 => true
  | i + 1 => if nameLt (rd_T32 l ((i + 1 : Nat) : Int)) (rd_T32 l (i : Int)) = true then false else sortedTo l i
def sortedE (l : List S32) : Bool := sortedTo l (l.length - 1)
set_option maxRecDepth 100000 in
set_option maxHeartbeats 4000000 in
theorem wsortedE (A0 : Option Addr) (c0 : Nat) (l : List S32) (w : World) (hr0 : Kd.C k32 w A0 l.length l) :
    Calls Try.prog 26 #[.slice A0 l.length c0, .func (.func 23) #[] #[]] w fun e w' => e = .returned (.bool (sortedE l)) ∧ Below w.heap.size w w' := by
  have HR0 := Aside0.mk hr0
  have hlm := hr0.2.1
  clear hr0
  go_enter Try.func26, Try.ntmps26
  have hL1 : ((l.length : Int) - 1 = ((l.length - 1 : Nat) : Int)) ∨ (l.length = 0) := by omega
  by_cases hl0 : l.length = 0
  · have hS : sortedE l = true := by unfold sortedE; rw [hl0]; rfl
    have HS := Aside0.mk hS
    clear hS hL1
    have hl0' : (l.length : Int) = 0 := by omega
    rw [hl0]
    go_wp2_with fail
    go_loop [5] (fun i => i = .int .i64 (-1)) (fun _ => 0)
    case atStart => rfl
    case round =>
      subst hrel
      go_wp2_with fail
      go_ret
      exact ⟨by rw [HS.out]; rfl, Below.refl _ _⟩
  have hL2 : wrap64 ((l.length : Int) - 1) = ((l.length - 1 : Nat) : Int) := by unfold wrap64; omega
  have HL2 := Aside0.mk hL2
  clear hL1 hL2
  go_wp2_with fail
  go_loopw [5] (fun v wr => ∃ (i : Nat), i < l.length ∧ v = .int .i64 i ∧ Aside0 (sortedE l = sortedTo l i) ∧ Aside0 (Below w.heap.size w wr)) (fun v _ => (intOf v).toNat)
  case atStart => exact ⟨l.length - 1, by omega, by go_num, ⟨rfl⟩, ⟨Below.refl _ _⟩⟩
  case round =>
    obtain ⟨i, hi, rfl, HS, HB⟩ := hrel
    by_cases hi0 : i = 0
    · subst hi0
      go_wp2_with fail
      go_ret
      exact ⟨by rw [HS.out]; rfl, HB.out⟩
    obtain ⟨i, rfl⟩ : ∃ k, i = k + 1 := ⟨i - 1, by omega⟩
    obtain ⟨ad, hA, h0, h1, h2, h3⟩ := at_T32 (Kd.C_below HR0.out HB.out) ((i + 1 : Nat) : Int) (by omega) (by omega)
    obtain ⟨ad', hA', g0, g1, g2, g3⟩ := at_T32 (Kd.C_below HR0.out HB.out) (i : Int) (by omega) (by omega)
    subst hA
    cases hA'
    have hst : sortedTo l (i + 1) = if nameLt (rd_T32 l ((i + 1 : Nat) : Int)) (rd_T32 l (i : Int)) = true then false else sortedTo l i := rfl
    rw [Int.toNat_natCast] at h0 h1 h2 h3 g0 g1 g2 g3
    generalize rd_T32 l ((i + 1 : Nat) : Int) = x at h0 h1 h2 h3 hst
    generalize rd_T32 l (i : Int) = y at g0 g1 g2 g3 hst
    obtain ⟨x0, ⟨x1, x2, x3⟩⟩ := x
    obtain ⟨y0, ⟨y1, y2, y3⟩⟩ := y
    simp only at h0 h1 h2 h3 g0 g1 g2 g3
    have HS2 := Aside0.mk (HS.out.trans hst)
    have hwi : wrap64 (((i + 1 : Nat) : Int) - 1) = (i : Int) := by unfold wrap64; omega
    have hwi2 : ((i + 1 : Nat) : Int) = (i : Int) + 1 := by omega
    have hlt1 : (i : Int) + 1 < (l.length : Int) := by omega
    have hge1 : (0 : Int) ≤ (i : Int) + 1 := by omega
    have hlt0 : (i : Int) < (l.length : Int) := by omega
    have hwr : IntKind.i64.wrap (i : Int) = (i : Int) := by rw [IntKind.wrap_i64]; omega
    clear hst HS
    go_upto_region 4 with fail
    have HBc := Aside0.mk (below_drew (Below.refl wr.heap.size wr))
    refine wp_region_held_drew (S := (fun W => W.cell? (ad.add ((i + 1) * 4)) = some (.string x0) ∧ W.cell? ⟨(ad.add ((i + 1) * 4)).block, (ad.add ((i + 1) * 4)).off + 1, none⟩ = some (.int .i64 x1) ∧ W.cell? ⟨(ad.add ((i + 1) * 4)).block, (ad.add ((i + 1) * 4)).off + 2, none⟩ = some (.int .i64 x2) ∧ W.cell? ⟨(ad.add ((i + 1) * 4)).block, (ad.add ((i + 1) * 4)).off + 3, none⟩ = some (.string x3) ∧ W.cell? (ad.add (i * 4)) = some (.string y0) ∧ W.cell? ⟨(ad.add (i * 4)).block, (ad.add (i * 4)).off + 1, none⟩ = some (.int .i64 y1) ∧ W.cell? ⟨(ad.add (i * 4)).block, (ad.add (i * 4)).off + 2, none⟩ = some (.int .i64 y2) ∧ W.cell? ⟨(ad.add (i * 4)).block, (ad.add (i * 4)).off + 3, none⟩ = some (.string y3))) (by kernel_rfl) ⟨below_cellE HBc.out h0, below_cellE HBc.out h1, below_cellE HBc.out h2, below_cellE HBc.out h3, below_cellE HBc.out g0, below_cellE HBc.out g1, below_cellE HBc.out g2, below_cellE HBc.out g3⟩ (fun hHeld => ?_)
    refine wpAnyH_take (i := 0) (oi := { dst := some 13, op := Op.move (Operand.tmp 1), type := 44, pos := "sort.go:55", after := #[], guard := none }) (v := ?_) rfl (by kernel_rfl) (by kernel_rfl) (by kernel_rfl) (fun _ _ _ h => h) (Or.inl ⟨by rfl, ?_⟩) (by assumption) ?_
    rotate_left
    · intro w hSw
      try dsimp only at hSw
      go_simp
      all_goals with_reducible rfl
    try simp only [Act.put, List.setIfInBounds_toArray, List.set_cons_zero, List.set_cons_succ]
    refine wpAnyH_take (i := 1) (oi := { dst := some 14, op := Op.move (Operand.tmp 0), type := 22, pos := "sort.go:55", after := #[], guard := none }) (v := ?_) rfl (by kernel_rfl) (by kernel_rfl) (by kernel_rfl) (fun _ _ _ h => h) (Or.inl ⟨by rfl, ?_⟩) (by assumption) ?_
    rotate_left
    · intro w hSw
      try dsimp only at hSw
      go_simp
      all_goals with_reducible rfl
    try simp only [Act.put, List.setIfInBounds_toArray, List.set_cons_zero, List.set_cons_succ]
    refine wpAnyH_take (i := 2) (oi := { dst := some 15, op := Op.move (Operand.tmp 5), type := 3, pos := "sort.go:55", after := #[], guard := none }) (v := ?_) rfl (by kernel_rfl) (by kernel_rfl) (by kernel_rfl) (fun _ _ _ h => h) (Or.inl ⟨by rfl, ?_⟩) (by assumption) ?_
    rotate_left
    · intro w hSw
      try dsimp only at hSw
      go_simp
      all_goals with_reducible rfl
    try simp only [Act.put, List.setIfInBounds_toArray, List.set_cons_zero, List.set_cons_succ]
    refine wpAnyH_take (i := 3) (oi := { dst := some 16, op := Op.indexAddr 22 (Operand.tmp 14) (Operand.tmp 15), type := 0, pos := "sort.go:55", after := #[{ on := 1, ground := Ground.data }, { on := 2, ground := Ground.data }], guard := none }) (v := ?_) rfl (by kernel_rfl) (by kernel_rfl) (by kernel_rfl) (fun _ _ _ h => h) (Or.inl ⟨by rfl, ?_⟩) (by assumption) ?_
    rotate_left
    · intro w hSw
      try dsimp only at hSw
      go_simp
      all_goals with_reducible rfl
    try simp only [Act.put, List.setIfInBounds_toArray, List.set_cons_zero, List.set_cons_succ]
    refine wpAnyH_take (i := 4) (oi := { dst := some 17, op := Op.load 32 (Operand.tmp 16), type := 32, pos := "sort.go:55", after := #[{ on := 3, ground := Ground.data }], guard := none }) (v := ?_) rfl (by kernel_rfl) (by kernel_rfl) (by kernel_rfl) (fun _ _ _ h => h) (Or.inl ⟨by rfl, ?_⟩) (by assumption) ?_
    rotate_left
    · intro w hSw
      try dsimp only at hSw
      go_simp
      all_goals with_reducible rfl
    try simp only [Act.put, List.setIfInBounds_toArray, List.set_cons_zero, List.set_cons_succ]
    refine wpAnyH_take (i := 5) (oi := { dst := some 18, op := Op.move (Operand.tmp 0), type := 22, pos := "sort.go:55", after := #[], guard := none }) (v := ?_) rfl (by kernel_rfl) (by kernel_rfl) (by kernel_rfl) (fun _ _ _ h => h) (Or.inl ⟨by rfl, ?_⟩) (by assumption) ?_
    rotate_left
    · intro w hSw
      try dsimp only at hSw
      go_simp
      all_goals with_reducible rfl
    try simp only [Act.put, List.setIfInBounds_toArray, List.set_cons_zero, List.set_cons_succ]
    refine wpAnyH_take (i := 6) (oi := { dst := some 19, op := Op.move (Operand.tmp 5), type := 3, pos := "sort.go:55", after := #[], guard := none }) (v := ?_) rfl (by kernel_rfl) (by kernel_rfl) (by kernel_rfl) (fun _ _ _ h => h) (Or.inl ⟨by rfl, ?_⟩) (by assumption) ?_
    rotate_left
    · intro w hSw
      try dsimp only at hSw
      go_simp
      all_goals with_reducible rfl
    try simp only [Act.put, List.setIfInBounds_toArray, List.set_cons_zero, List.set_cons_succ]
    refine wpAnyH_take (i := 7) (oi := { dst := some 20, op := Op.binOp BinOp.sub 3 (Operand.tmp 19) (Operand.const (Value.int IntKind.i64 1)) 3, type := 3, pos := "sort.go:55", after := #[{ on := 6, ground := Ground.data }], guard := none }) (v := ?_) rfl (by kernel_rfl) (by kernel_rfl) (by kernel_rfl) (fun _ _ _ h => h) (Or.inl ⟨by rfl, ?_⟩) (by assumption) ?_
    rotate_left
    · intro w hSw
      try dsimp only at hSw
      go_simp
      all_goals with_reducible rfl
    try simp only [Act.put, List.setIfInBounds_toArray, List.set_cons_zero, List.set_cons_succ]
    refine wpAnyH_take (i := 8) (oi := { dst := some 21, op := Op.indexAddr 22 (Operand.tmp 18) (Operand.tmp 20), type := 0, pos := "sort.go:55", after := #[{ on := 5, ground := Ground.data }, { on := 7, ground := Ground.data }], guard := none }) (v := ?_) rfl (by kernel_rfl) (by kernel_rfl) (by kernel_rfl) (fun _ _ _ h => h) (Or.inl ⟨by rfl, ?_⟩) (by assumption) ?_
    rotate_left
    · intro w hSw
      try dsimp only at hSw
      go_simp
      all_goals with_reducible rfl
    try simp only [Act.put, List.setIfInBounds_toArray, List.set_cons_zero, List.set_cons_succ]
    refine wpAnyH_take (i := 9) (oi := { dst := some 22, op := Op.load 32 (Operand.tmp 21), type := 32, pos := "sort.go:55", after := #[{ on := 8, ground := Ground.data }], guard := none }) (v := ?_) rfl (by kernel_rfl) (by kernel_rfl) (by kernel_rfl) (fun _ _ _ h => h) (Or.inl ⟨by rfl, ?_⟩) (by assumption) ?_
    rotate_left
    · intro w hSw
      try dsimp only at hSw
      go_simp
      all_goals with_reducible rfl
    try simp only [Act.put, List.setIfInBounds_toArray, List.set_cons_zero, List.set_cons_succ]
    refine wpAnyH_ready (rs := [10]) (by kernel_rfl) (by simp) ?_
    refine AllReadyH.cons (o := { dst := some 23, op := Op.call { callee := Callee.value (Operand.tmp 13), args := #[Operand.tmp 17, Operand.tmp 22], argTypes := #[32, 32] }, type := 3, pos := "sort.go:55", after := #[{ on := 0, ground := Ground.data }, { on := 4, ground := Ground.data }, { on := 9, ground := Ground.data }], guard := none }) rfl (fun K hK => ?_) AllReadyH.nil
    go_simp
    (refine (event_byName.calls x0 x1 x2 x3 y0 y1 y2 y3 (Lib.compareBytes x0.data.toList y0.data.toList) _ rfl).mono ?_; rintro e' w5 ⟨rfl, hX⟩; have HBd := Aside0.mk (HBc.out.trans (hX.mono HBc.out.size)); clear hX HBc; have HBc := HBd; clear HBd)
    go_wp2_with fail
    refine hK.out _ _ ⟨below_cellE HBc.out h0, below_cellE HBc.out h1, below_cellE HBc.out h2, below_cellE HBc.out h3, below_cellE HBc.out g0, below_cellE HBc.out g1, below_cellE HBc.out g2, below_cellE HBc.out g3⟩ (fun hHeld => ?_)
    clear hK K
    try simp only [Act.put, List.setIfInBounds_toArray, List.set_cons_zero, List.set_cons_succ]
    refine wpAnyH_take (i := 11) (oi := { dst := some 24, op := Op.binOp BinOp.lss 3 (Operand.tmp 23) (Operand.const (Value.int IntKind.i64 0)) 3, type := 4, pos := "sort.go:55", after := #[{ on := 10, ground := Ground.data }], guard := none }) (v := ?_) rfl (by kernel_rfl) (by kernel_rfl) (by kernel_rfl) (fun _ _ _ h => h) (Or.inl ⟨by rfl, ?_⟩) (by assumption) ?_
    rotate_left
    · intro w hSw
      try dsimp only at hSw
      go_simp
      all_goals with_reducible rfl
    try simp only [Act.put, List.setIfInBounds_toArray, List.set_cons_zero, List.set_cons_succ]
    refine wpAnyH_done (by kernel_rfl) ?_ _
    clear hHeld
    have HBe := Aside0.mk (HB.out.trans (HBc.out.mono HB.out.size))
    clear HBc h0 h1 h2 h3 g0 g1 g2 g3
    obtain ⟨bb, hbb⟩ : ∃ b, decide (Lib.compareBytes x0.data.toList y0.data.toList < 0) = b := ⟨_, rfl⟩
    rw [hbb]
    have HC := Aside0.mk (show nameLt ⟨x0, ⟨x1, x2, x3⟩⟩ ⟨y0, ⟨y1, y2, y3⟩⟩ = bb from hbb)
    clear hbb
    cases bb with
    | true =>
      go_wp2_with fail
      go_ret
      exact ⟨by rw [HS2.out, if_pos HC.out]; rfl, HBe.out⟩
    | false =>
      go_wp2_with fail
      exact ⟨⟨i, by omega, by go_num, ⟨by rw [HS2.out, if_neg (by rw [HC.out]; decide)]⟩, HBe⟩, by simp [intOf]⟩

/-! ### two of one name -/
def addG {α : Type} [DecidableEq α] (ns : List α) (n : α) : List α := if n ∈ ns then ns else ns ++ [n]
def namesD (l : List S32) : List ByteArray := l.foldl (fun ns x => addG ns x.f0) []
def twiceE (l : List S32) : Bool := decide ((namesD l).length < l.length)
theorem lawNE : Go.Maps.Keyed Try.prog 9 := Go.Maps.string_keyed Try.underlying9
theorem key_nameE (s : ByteArray) (h : s.size ≤ maxLen) : ∃ l, keyOf Try.prog 9 (.string s) = some l := by
  refine ⟨.string s.data.toList, ?_⟩
  unfold keyOf
  rw [Try.underlying9]
  simp [mapKey, Try.underlying9, h]
theorem zeroI (W : World) : (zeroValue 3).run Try.prog W = .ok (.int .i64 0) W := by kernel_rfl
theorem cells4e {W : World} {b T : Nat} {a c d e : Value} (h : W.heap[b]? = some (.cells #[a, c, d, e] T (0, 0))) : W.cell? ⟨b, 0, none⟩ = some a ∧ W.cell? ⟨b, 1, none⟩ = some c ∧ W.cell? ⟨b, 2, none⟩ = some d ∧ W.cell? ⟨b, 3, none⟩ = some e :=
  ⟨by rw [cell_of_row _ _ _ _ _ _ h]; rfl, by rw [cell_of_row _ _ _ _ _ _ h]; rfl, by rw [cell_of_row _ _ _ _ _ _ h]; rfl, by rw [cell_of_row _ _ _ _ _ _ h]; rfl⟩
/-- the map of counts: which names it has -/
def CntM (w W : World) (ks : List ByteArray) : Prop := ∃ f : ByteArray → Int, MapR Try.prog 9 W w.heap.size (ks.map fun n => (Value.string n, Value.int .i64 (f n))) ∧ ks.Nodup ∧ Below w.heap.size w W
theorem cnt_look {W : World} {b : Nat} {f : ByteArray → Int} {ks : List ByteArray} (h : MapR Try.prog 9 W b (ks.map fun n => (Value.string n, Value.int .i64 (f n)))) (n : ByteArray) (hn : n.size ≤ maxLen) :
    ∃ y : Int, (Instr.lookup 48 (.map (some b)) (.string n) false).run Try.prog W = .ok (.int .i64 y) W := by
  obtain ⟨l, hl⟩ := key_nameE n hn
  rcases h.lookup lawNE Try.underlying48 (zeroI W) hl false with ⟨h1, h2⟩ | ⟨j, v, h1, h2⟩
  · exact ⟨0, h1⟩
  · rw [List.getElem?_map, Option.map_eq_some_iff] at h1
    obtain ⟨q, hq, he⟩ := h1
    obtain ⟨e1, e2⟩ := Prod.mk.inj he
    exact ⟨f q, by rw [h2, ← e2]; rfl⟩
theorem cnt_put {w W : World} {f : ByteArray → Int} {ks : List ByteArray} (h : MapR Try.prog 9 W w.heap.size (ks.map fun n => (Value.string n, Value.int .i64 (f n)))) (hk : ks.Nodup) (hB : Below w.heap.size w W) (n : ByteArray) (hn : n.size ≤ maxLen) (y : Int) :
    ∃ W2, (Instr.mapUpdate 48 (.map (some w.heap.size)) (.string n) (.int .i64 y)).run Try.prog W = .ok () W2 ∧ CntM w W2 (addG ks n) := by
  obtain ⟨l, hl⟩ := key_nameE n hn
  obtain ⟨W2, hrun, hg, hcase⟩ := h.update lawNE Try.underlying48 hl (.int .i64 y)
  have hB2 : Below w.heap.size w W2 := hB.grown hg hB.size (fun k hk => by cases hk; exact Nat.le_refl _)
  refine ⟨W2, hrun, ?_⟩
  rcases hcase with ⟨h1, h2⟩ | ⟨j, v0, h1, h2⟩
  · have hnot : n ∉ ks := fun hm => h1 _ (List.mem_map.2 ⟨n, hm, rfl⟩) rfl
    refine ⟨fun x => if x = n then y else f x, ?_, ?_, hB2⟩
    · unfold addG
      rw [if_neg hnot]
      have : ((ks ++ [n]).map fun x => (Value.string x, Value.int .i64 (if x = n then y else f x))) = (ks.map fun x => (Value.string x, Value.int .i64 (f x))) ++ [(Value.string n, Value.int .i64 y)] := by
        rw [List.map_append]
        congr 1
        · exact List.map_congr_left fun x hx => by have hxn : x ≠ n := fun e => hnot (e ▸ hx); simp only [if_neg hxn]
        · simp
      rw [this]; exact h2
    · unfold addG
      rw [if_neg hnot, List.nodup_append]
      exact ⟨hk, by simp, fun a ha b hb => by rw [List.mem_singleton] at hb; subst hb; exact fun e => hnot (e ▸ ha)⟩
  · rw [List.getElem?_map, Option.map_eq_some_iff] at h1
    obtain ⟨q, hq, he⟩ := h1
    obtain ⟨e1, e2⟩ := Prod.mk.inj he
    injection e1 with e1
    subst e1
    have hm : q ∈ ks := List.mem_of_getElem? hq
    refine ⟨fun x => if x = q then y else f x, ?_, ?_, hB2⟩
    · unfold addG
      rw [if_pos hm]
      have : (ks.map fun x => (Value.string x, Value.int .i64 (f x))).set j (Value.string q, Value.int .i64 y) = ks.map fun x => (Value.string x, Value.int .i64 (if x = q then y else f x)) := by
        refine List.ext_getElem? fun i => ?_
        rw [List.getElem?_set, List.getElem?_map, List.getElem?_map]
        obtain ⟨hjl, hje⟩ := List.getElem?_eq_some_iff.1 hq
        by_cases hi : j = i
        · subst hi
          rw [if_pos rfl, if_pos (by simpa using hjl), hq]
          simp
        · rw [if_neg hi]
          cases hkk : ks[i]? with
          | none => rfl
          | some x =>
            obtain ⟨hil, hie⟩ := List.getElem?_eq_some_iff.1 hkk
            have : x ≠ q := by
              rw [← hie, ← hje]
              intro e
              rcases Nat.lt_or_gt_of_ne hi with hlt | hlt
              · exact (List.pairwise_iff_getElem.1 hk) j i hjl hil hlt e.symm
              · exact (List.pairwise_iff_getElem.1 hk) i j hil hjl hlt e
            simp [this]
      rw [← this]; exact h2
    · unfold addG
      rw [if_pos hm]; exact hk
set_option maxRecDepth 100000 in
set_option maxHeartbeats 4000000 in
theorem wtwiceE (A0 : Option Addr) (c0 : Nat) (l : List S32) (w : World) (hr0 : Kd.C k32 w A0 l.length l) (hn : ∀ x ∈ l, x.f0.size ≤ maxLen) :
    Calls Try.prog 20 #[.slice A0 l.length c0] w fun e w' => e = .returned (.bool (twiceE l)) ∧ Below w.heap.size w w' := by
  have HR0 := Aside0.mk hr0
  have HN := Aside0.mk hn
  have hlm := hr0.2.1
  clear hr0 hn
  have hmm := @run_makeMap Try.prog
  have HM0 := Aside0.mk (show CntM w (w.alloc (.map #[] 0)) [] from ⟨fun _ => 0, MapR.made w _ _, List.nodup_nil, (Below.refl _ _).alloc (Nat.le_refl _) _⟩)
  go_enter Try.func20, Try.ntmps20
  go_upto_region 2 with fail
  clear hmm
  generalize w.alloc (.map #[] 0) = w1 at HM0 ⊢
  go_wp2_with fail
  go_loopw [9] (fun i wr => ∃ (j : Nat), j ≤ l.length ∧ i = .int .i64 j ∧ Aside0 (CntM w wr (namesD (l.take j)))) (fun i _ => l.length - (intOf i).toNat)
  case atStart => exact ⟨0, Nat.zero_le _, rfl, HM0⟩
  case round =>
    obtain ⟨j, hj, rfl, HM⟩ := hrel
    clear HM0
    by_cases hlt : j < l.length
    case neg =>
      obtain rfl : j = l.length := by omega
      obtain ⟨f, hM, _, hB⟩ := HM.out
      have hlen := hM.len (ty := 3) Try.underlying48
      rw [List.take_of_length_le (Nat.le_refl _), List.length_map] at hlen
      have HBB := Aside0.mk hB
      clear hM hB HM
      go_wp2_with fail
      go_ret
      exact ⟨rfl, HBB.out⟩
    obtain ⟨f, hM, hnd, hB⟩ := HM.out
    obtain ⟨ad, hA, h0, h1, h2, h3⟩ := at_T32 (Kd.C_below HR0.out hB) (j : Int) (by omega) (by omega)
    subst hA
    rw [Int.toNat_natCast] at h0 h1 h2 h3
    have hmem : rd_T32 l (j : Int) ∈ l := by simp [rd_T32, List.getD_eq_getElem?_getD, hlt]
    have htk : l.take (j + 1) = l.take j ++ [rd_T32 l (j : Int)] := by rw [List.take_add_one]; simp [rd_T32, List.getD_eq_getElem?_getD, hlt]
    have hns := HN.out _ hmem
    generalize rd_T32 l (j : Int) = x at h0 h1 h2 h3 hns htk
    obtain ⟨x0, ⟨x1, x2, x3⟩⟩ := x
    simp only at h0 h1 h2 h3 hns
    have htd : namesD (l.take (j + 1)) = addG (namesD (l.take j)) x0 := by rw [htk]; unfold namesD; rw [List.foldl_append]; rfl
    have HTD := Aside0.mk htd
    generalize namesD (l.take j) = ks at hM hnd HTD HM
    have hM2 := hM.below ((Below.refl _ _).alloc (Nat.le_refl _) (.cells #[.string x0, .int .i64 x1, .int .i64 x2, .string x3] 32 (0, 0)))
    have hB2 := hB.alloc hB.size (.cells #[.string x0, .int .i64 x1, .int .i64 x2, .string x3] 32 (0, 0))
    have hN := heap_alloc_new wr (.cells #[.string x0, .int .i64 x1, .int .i64 x2, .string x3] 32 (0, 0))
    obtain ⟨y, hlk⟩ := cnt_look hM2 x0 hns
    obtain ⟨W2, hrun, hCM⟩ := cnt_put hM2 hnd hB2 x0 hns (wrap64 (y + 1))
    have HCM := Aside0.mk hCM
    have HWS := Aside0.mk hN
    clear hM hnd hB hM2 hB2 hCM hmem htk htd hN HM
    go_upto_region 5 with fail
    clear h0 h1 h2 h3
    obtain ⟨q0, q1, q2, q3⟩ := cells4e HWS.out
    go_wp2_with fail
    exact ⟨⟨j + 1, by omega, by go_num, ⟨by rw [HTD.out]; exact HCM.out⟩⟩, by simp [intOf]; omega⟩

def rightE (l : List S32) : Bool := decide (l.length ≤ 24) && (!(l.any wrongA) && (sortedE l && !(twiceE l)))
set_option maxRecDepth 100000 in
set_option maxHeartbeats 4000000 in
theorem wrightE (A0 : Option Addr) (c0 : Nat) (l : List S32) (w : World) (hr0 : Kd.C k32 w A0 l.length l) (hn : ∀ x ∈ l, x.f0.size ≤ maxLen) :
    Calls Try.prog 13 #[.slice A0 l.length c0] w fun e w' => e = .returned (.bool (rightE l)) ∧ Below w.heap.size w w' := by
  have HR0 := Aside0.mk hr0
  have HN := Aside0.mk hn
  have hlm := hr0.2.1
  have hre : rightE l = (decide (l.length ≤ 24) && (!(l.any wrongA) && (sortedE l && !(twiceE l)))) := rfl
  have H1 := Aside0.mk (any_evwrong wrongA A0 c0 l w hr0 (fun x W hW hx => event_wrong.calls x.f0 x.f1.f0 x.f1.f1 x.f1.f2 (wrongA x) W (wrong_fE x)))
  clear hr0 hn
  generalize rightE l = res at hre ⊢
  by_cases h24 : l.length ≤ 24
  case neg =>
    rw [decide_eq_false h24] at hre
    have h24' : ¬ (l.length : Int) ≤ 24 := by omega
    have HRE := Aside0.mk hre
    clear hre
    go_enter Try.func13, Try.ntmps13
    go_wp2_with fail
    go_ret
    exact ⟨by rw [HRE.out]; rfl, Below.refl _ _⟩
  rw [decide_eq_true h24] at hre
  have h24' : (l.length : Int) ≤ 24 := by omega
  generalize l.any wrongA = b1 at hre H1
  have HRE := Aside0.mk hre
  clear hre
  go_enter Try.func13, Try.ntmps13
  go_wp2_with fail
  refine H1.out.mono ?_
  rintro e w1 ⟨rfl, hX⟩
  have HX := Aside0.mk hX
  clear hX H1
  cases b1 with
  | true =>
    go_wp2_with fail
    go_ret
    exact ⟨by rw [HRE.out]; rfl, HX.out⟩
  | false =>
    have H2 := Aside0.mk (wsortedE A0 c0 l w1 (Kd.C_below HR0.out HX.out))
    have hre := HRE.out
    clear HRE
    generalize sortedE l = b2 at hre H2
    have HRE := Aside0.mk hre
    clear hre
    go_wp2_with fail
    refine H2.out.mono ?_
    rintro e w2 ⟨rfl, hX⟩
    have HX2 := Aside0.mk (HX.out.trans (hX.mono HX.out.size))
    clear hX H2
    cases b2 with
    | false =>
      go_wp2_with fail
      go_ret
      exact ⟨by rw [HRE.out]; rfl, HX2.out⟩
    | true =>
      have H3 := Aside0.mk (wtwiceE A0 c0 l w2 (Kd.C_below HR0.out HX2.out) HN.out)
      have hre := HRE.out
      clear HRE
      generalize twiceE l = b3 at hre H3
      have HRE := Aside0.mk hre
      clear hre
      go_wp2_with fail
      refine H3.out.mono ?_
      rintro e w3 ⟨rfl, hX⟩
      have HX3 := Aside0.mk (HX2.out.trans (hX.mono HX2.out.size))
      clear hX H3
      cases b3 <;> (go_wp2_with fail; go_ret; exact ⟨by rw [HRE.out]; rfl, HX3.out⟩)
end Go.Proofs.Ytmbpgebboppkmaa
end

section
/- names stand in one order: sorting without a choice; plain laws -/
set_option linter.unusedVariables false
set_option linter.unusedSimpArgs false
set_option autoImplicit false
namespace Go.Proofs.Ytmbpgebboppkmaa
open Go Go.RowKit Go.Shelf Go.Sort Go.Proofs.YtmbpgebboppkmaaW.PrintWords Go.Proofs.YtmbpgebboppkmaaW.PrintLast Go.Proofs.Ytmbpgebboppkmaa.G

def OrdN (l : List S32) : Prop := l.Pairwise fun a b => ltOf cmpN b a = false
def makeE (l : List S32) : Int := if 24 < l.length then 4 else if l.any wrongA = true then 1 else if twiceE l = true then 8 else 0
def insN (x : S32) : List S32 → List S32
  | [] => [x]
  | a :: l => if ltOf cmpN a x = true then a :: insN x l else x :: a :: l
def srtN (l : List S32) : List S32 := l.foldl (fun out x => insN x out) []
theorem insN_perm (x : S32) : ∀ l, (insN x l).Perm (x :: l) := by
  intro l
  induction l with
  | nil => exact List.Perm.refl _
  | cons a l ih =>
    rw [insN]
    split
    · exact (ih.cons a).trans (List.Perm.swap x a l)
    · exact List.Perm.refl _
theorem srt_go : ∀ (l out : List S32), (l.foldl (fun out x => insN x out) out).Perm (out ++ l) := by
  intro l
  induction l with
  | nil => intro out; simp
  | cons x l ih =>
    intro out
    rw [List.foldl_cons]
    refine (ih (insN x out)).trans ?_
    refine ((insN_perm x out).append_right l).trans ?_
    exact (List.perm_middle (l₁ := out) (l₂ := l) (a := x)).symm
theorem srtN_perm (l : List S32) : (srtN l).Perm l := srt_go l []
theorem insN_ord (x : S32) : ∀ l, OrdN l → OrdN (insN x l) := by
  intro l
  induction l with
  | nil => intro _; exact List.pairwise_singleton _ _
  | cons a l ih =>
    intro h
    obtain ⟨h1, h2⟩ := List.pairwise_cons.1 h
    rw [insN]
    split
    · rename_i hlt
      refine List.pairwise_cons.2 ⟨fun y hy => ?_, ih h2⟩
      rcases List.mem_cons.1 ((insN_perm x l).mem_iff.1 hy) with rfl | hy
      · cases hb : ltOf cmpN y a with
        | false => rfl
        | true => have := swoN.trans _ _ _ hlt hb; rw [swoN.irrefl] at this; cases this
      · exact h1 y hy
    · rename_i hlt
      have hlt : ltOf cmpN a x = false := by simpa using hlt
      refine List.pairwise_cons.2 ⟨fun y hy => ?_, h⟩
      rcases List.mem_cons.1 hy with rfl | hy
      · exact hlt
      · exact swoN.ntrans _ _ _ (h1 y hy) hlt
theorem srt_ord : ∀ (l out : List S32), OrdN out → OrdN (l.foldl (fun out x => insN x out) out) := by
  intro l
  induction l with
  | nil => intro out h; exact h
  | cons x l ih => intro out h; exact ih _ (insN_ord x out h)
theorem srtN_ord (l : List S32) : OrdN (srtN l) := srt_ord l [] List.Pairwise.nil
theorem name_inj {l : List S32} (hn : (l.map (·.f0)).Nodup) {a b : S32} (ha : a ∈ l) (hb : b ∈ l) (h : a.f0 = b.f0) : a = b := by
  induction l with
  | nil => cases ha
  | cons x l ih =>
    rw [List.map_cons, List.nodup_cons] at hn
    rcases List.mem_cons.1 ha with e1 | ha'
    · rcases List.mem_cons.1 hb with e2 | hb'
      · rw [e1, e2]
      · exact (hn.1 (List.mem_map.2 ⟨b, hb', by rw [← e1]; exact h.symm⟩)).elim
    · rcases List.mem_cons.1 hb with e2 | hb'
      · exact (hn.1 (List.mem_map.2 ⟨a, ha', by rw [← e2]; exact h⟩)).elim
      · exact ih hn.2 ha' hb'
theorem cmp_names {a b : S32} (h1 : ltOf cmpN b a = false) (h2 : ltOf cmpN a b = false) : a.f0 = b.f0 := by
  rw [ltN_f] at h1 h2
  have h3 := cmpB_neg a.f0.data.toList b.f0.data.toList
  have h4 := (cmpB_zero a.f0.data.toList b.f0.data.toList).1 (by omega)
  have h5 := Array.toList_inj.1 h4
  cases ha : a.f0; cases hb : b.f0; rw [ha, hb] at h5; simp at h5; rw [h5]
/-- sorted, names unlike: there is one such list -/
theorem ord_one {r l : List S32} (hn : (l.map (·.f0)).Nodup) (hp : r.Perm l) (ho : OrdN r) : r = srtN l :=
  List.Perm.eq_of_pairwise (le := fun a b => ltOf cmpN b a = false) (fun a b ha hb h1 h2 => name_inj hn (hp.mem_iff.1 ha) ((srtN_perm l).mem_iff.1 hb) (cmp_names h1 h2)) ho (srtN_ord l) (hp.trans (srtN_perm l).symm)
/-! ### names of attributes, none twice -/
theorem addG_sub (ns : List ByteArray) (l : List S32) : (l.foldl (fun ns x => addG ns x.f0) ns).length ≤ ns.length + l.length := by
  induction l generalizing ns with
  | nil => simp
  | cons x l ih =>
    rw [List.foldl_cons]
    have := ih (addG ns x.f0)
    have h2 : (addG ns x.f0).length ≤ ns.length + 1 := by unfold addG; split <;> simp
    simp only [List.length_cons]
    omega
theorem names_nodup : ∀ (l : List S32) (ns : List ByteArray), ns.Nodup → (l.foldl (fun ns x => addG ns x.f0) ns).length = ns.length + l.length → (l.map (·.f0)).Nodup ∧ ∀ x ∈ l, x.f0 ∉ ns := by
  intro l
  induction l with
  | nil => intro ns _ _; exact ⟨List.nodup_nil, fun x hx => by cases hx⟩
  | cons x l ih =>
    intro ns hn h
    rw [List.foldl_cons] at h
    have h1 := addG_sub (addG ns x.f0) l
    simp only [List.length_cons] at h
    by_cases hm : x.f0 ∈ ns
    · exfalso
      have : (addG ns x.f0).length = ns.length := by unfold addG; rw [if_pos hm]
      omega
    · have hg : addG ns x.f0 = ns ++ [x.f0] := by unfold addG; rw [if_neg hm]
      rw [hg] at h h1
      obtain ⟨h2, h3⟩ := ih (ns ++ [x.f0]) (by rw [List.nodup_append]; exact ⟨hn, by simp, fun a ha b hb => by rw [List.mem_singleton] at hb; subst hb; exact fun e => hm (e ▸ ha)⟩) (by rw [h]; simp; omega)
      refine ⟨?_, fun y hy => ?_⟩
      · rw [List.map_cons, List.nodup_cons]
        refine ⟨fun hmem => ?_, h2⟩
        obtain ⟨y, hy, he⟩ := List.mem_map.1 hmem
        exact h3 y hy (by rw [he]; simp)
      · rcases List.mem_cons.1 hy with rfl | hy
        · exact hm
        · exact fun hh => h3 y hy (by simp [hh])
theorem twice_nodup {l : List S32} (h : twiceE l = false) : (l.map (·.f0)).Nodup := by
  have ht : ¬ (namesD l).length < l.length := by
    intro hh
    unfold twiceE at h
    rw [decide_eq_true hh] at h
    cases h
  have h1 := addG_sub [] l
  exact (names_nodup l [] List.nodup_nil (by unfold namesD at ht; simp only [List.length_nil, Nat.zero_add] at h1 ⊢; omega)).1
theorem make_nodup {l : List S32} (h : makeE l = 0) : (l.map (·.f0)).Nodup := by
  unfold makeE at h
  split at h
  · cases h
  · split at h
    · cases h
    · split at h
      · cases h
      · rename_i _ _ ht
        exact twice_nodup (by simpa using ht)
/-- what is made of attributes -/
def madeL (l : List S32) : List S32 := if makeE l = 0 then srtN l else []
theorem made_one {l r : List S32} (h1 : makeE l = 0 → r.Perm l ∧ OrdN r) (h2 : makeE l ≠ 0 → r = []) : r = madeL l := by
  unfold madeL
  by_cases h : makeE l = 0
  · rw [if_pos h]; exact ord_one (make_nodup h) (h1 h).1 (h1 h).2
  · rw [if_neg h]; exact h2 h
end Go.Proofs.Ytmbpgebboppkmaa
end

section
/- event.Make, walked -/
set_option linter.unusedVariables false
set_option linter.unusedSimpArgs false
set_option autoImplicit false
namespace Go.Proofs.Ytmbpgebboppkmaa
open Go Go.RowKit Go.Shelf Go.Sort Go.Proofs.YtmbpgebboppkmaaW.PrintWords Go.Proofs.YtmbpgebboppkmaaW.PrintLast Go.Proofs.YtmbpgebboppkmaaW.PrintMore Go.Proofs.Ytmbpgebboppkmaa.G

set_option maxHeartbeats 1000000 in
theorem wsortF {W : World} {base g cap : Nat} {cur : Array Value} {zs : List S32} (hg : W.heap[g]? = some (.cells cur 32 (0, 0))) (hb : base ≤ g) (hcap : zs.length ≤ cap) (hmax : cap ≤ maxLen) (hsz : cur.size = cap * 4) (htk : cur.toList.take (zs.length * 4) = zs.flatMap atC) (hz : zs.length ≤ 100000) :
    Calls Try.prog 30 #[.slice (some ⟨g, 0, none⟩) zs.length cap, .func (.func 23) #[] #[]] W fun e w' => e = .returned (.tuple #[]) ∧ ∃ zs', zs'.Perm zs ∧ OrdN zs' ∧ w'.ownsRow base 32 4 (.slice (some ⟨g, 0, none⟩) zs.length cap) zs.length (zs'.flatMap atC) ∧ ∀ B w0, Below B w0 W → B ≤ g → Below B w0 w' := by
  have eg : ∀ args w, (callFunc 23 args).run Try.prog w = .ok (.enter 23 args) w := enters_of Try.func23 (by kernel_rfl) rfl
  have hlt : g < W.heap.size := (Array.getElem?_eq_some_iff.1 hg).1
  have hcon := AnyQ.slices_SortFunc evSort 4 Try.isAgg32 Try.sizeOf32 atC (fun _ => rfl) (fun x v hv => by simp [atC] at hv; rcases hv with rfl | rfl | rfl | rfl <;> rfl) cmpN swoN 23 #[] g 0 cap zs.toArray W eg (fun _ _ _ _ x y => wbyName x y _) (holds_row hg hsz hcap htk) hlt (by simp; omega)
  change Calls Try.prog 30 _ _ _ at hcon
  refine hcon.mono ?_
  rintro e w' ⟨rfl, d', n, os, hp, hs, rfl⟩
  have hsz' : d'.size = zs.length := by have := hp.1; simpa using this
  have hperm : d'.toList.Perm zs := by
    have h := hp.2.2
    have e1 : d'.extract 0 zs.toArray.size = d' := by rw [← hp.1]; simp
    have e2 : zs.toArray.extract 0 zs.toArray.size = zs.toArray := by simp
    rw [e1, e2] at h
    exact h
  obtain ⟨h1, h2⟩ := sorted_row (W := W) (base := base) (n := n) (d' := d') (os := os) hg hb (by omega) hmax hsz
  rw [hsz'] at h1
  refine ⟨rfl, d'.toList, hperm, ?_, h1, h2⟩
  unfold OrdN
  rw [List.pairwise_iff_getElem]
  intro i j hi hj hij
  have hi' : i < d'.size := by simpa using hi
  have hj' : j < d'.size := by simpa using hj
  have h := hs i j (Nat.zero_le _) hij (by have := hp.1; omega)
  rw [getElem!_pos d' j hj', getElem!_pos d' i hi'] at h
  simpa using h
end Go.Proofs.Ytmbpgebboppkmaa
end

section
/- slices.SortedFunc and event.Make, walked -/
set_option linter.unusedVariables false
set_option linter.unusedSimpArgs false
set_option autoImplicit false
namespace Go.Proofs.Ytmbpgebboppkmaa
open Go Go.RowKit Go.Shelf Go.Sort Go.Proofs.YtmbpgebboppkmaaW.PrintWords Go.Proofs.YtmbpgebboppkmaaW.PrintLast Go.Proofs.YtmbpgebboppkmaaW.PrintMore Go.Proofs.Ytmbpgebboppkmaa.G

theorem reps_attrs : ∀ (l : List S32) (W : World) (base : Nat) (ok : Nat → Prop), Reps (fun p cs => k32.M W base ok p cs) 4 l (l.flatMap atC) := by
  intro l W base ok
  refine ⟨?_, fun j p hj => ?_⟩
  · induction l with
    | nil => rfl
    | cons x l ih => simp only [List.flatMap_cons, List.length_append, List.length_cons]; rw [ih]; simp [atC]; omega
  · have : ((l.flatMap atC).drop (j * 4)).take 4 = atC p := by
      induction l generalizing j with
      | nil => simp at hj
      | cons x l ih =>
        cases j with
        | zero =>
          simp only [List.getElem?_cons_zero, Option.some.injEq] at hj
          subst hj
          rw [Nat.zero_mul, List.drop_zero, List.flatMap_cons, List.take_append_of_le_length (by simp [atC])]
          rfl
        | succ j =>
          rw [List.getElem?_cons_succ] at hj
          have := ih j hj
          rw [List.flatMap_cons, show (j + 1) * 4 = (atC x).length + j * 4 by simp [atC]; omega, ← List.drop_drop, List.drop_left]
          exact this
    rw [this]
    exact k32_mkM W base ok p
theorem attrs_C {W : World} {base : Nat} {v : Value} {l : List S32} (h : W.ownsRow base 32 4 v l.length (l.flatMap atC)) : ∃ A c, v = .slice A l.length c ∧ l.length ≤ c ∧ k32.C W A l.length l := by
  have hR : k32.R 32 W base (fun _ => True) v l := ⟨fun _ _ => trivial, l.flatMap atC, h, reps_attrs l _ _ _⟩
  obtain ⟨A, c, rfl⟩ := Kd.R_slice hR
  have := Kd.R_reads' hR
  exact ⟨A, c, rfl, this.2.1, this.2.2⟩
theorem wsort0 (A : Option Addr) (cap : Nat) (w : World) : Calls Try.prog 30 #[.slice A 0 cap, .func (.func 23) #[] #[]] w fun e w' => e = .returned (.tuple #[]) ∧ w' = w := by
  have h := AnyF.slices_SortFunc_none evSort A cap (.func (.func 23) #[] #[]) w
  change Calls Try.prog 30 _ _ _ at h
  exact h
/-- the sort, of a row of the call's own -/
theorem wsortR {w W : World} {A : Option Addr} {cap : Nat} {zs : List S32} (h : W.ownsRow w.heap.size 32 4 (.slice A zs.length cap) zs.length (zs.flatMap atC)) (hB : Below w.heap.size w W) (hz : zs.length ≤ 100000) :
    Calls Try.prog 30 #[.slice A zs.length cap, .func (.func 23) #[] #[]] W fun e w' => e = .returned (.tuple #[]) ∧ ∃ zs', zs'.Perm zs ∧ OrdN zs' ∧ w'.ownsRow w.heap.size 32 4 (.slice A zs.length cap) zs.length (zs'.flatMap atC) ∧ Below w.heap.size w w' := by
  rcases h.2 with ⟨_, h0⟩ | ⟨g, cap', cur, he, hb, hg, hcap, hmax, hsz, htk⟩
  · have hnil : zs = [] := List.eq_nil_of_length_eq_zero h0
    subst hnil
    refine (wsort0 A cap W).mono ?_
    rintro e w' ⟨rfl, rfl⟩
    exact ⟨rfl, [], List.Perm.refl _, List.Pairwise.nil, h, hB⟩
  · injection he with e1 _ e3
    subst e1
    subst e3
    refine (wsortF (base := w.heap.size) hg hb hcap hmax hsz htk hz).mono ?_
    rintro e w' ⟨rfl, zs', h1, h2, h3, h4⟩
    exact ⟨rfl, zs', h1, h2, h3, h4 _ _ hB hb⟩
set_option maxHeartbeats 1000000 in
theorem wsorted (Bs : Nat) (A : Option Addr) (c : Nat) (zs : List S32) (w : World) (hC : Kd.C k32 w A zs.length zs) (hBl : Bs < w.heap.size) (hBs : w.cell? ⟨Bs, 0, none⟩ = some (.slice A zs.length c)) (hz : zs.length ≤ 100000) :
    Calls Try.prog 21 #[.func (.func 31) #[] #[.pointer (some ⟨Bs, 0, none⟩)], .func (.func 23) #[] #[]] w fun e w' => ∃ A' c' zs', e = .returned (.slice A' zs.length c') ∧ zs'.Perm zs ∧ OrdN zs' ∧ w'.ownsRow w.heap.size 32 4 (.slice A' zs.length c') zs.length (zs'.flatMap atC) ∧ Below w.heap.size w w' := by
  have HC := Aside0.mk (collect Bs A c zs w hC hBl hBs hz)
  clear hC hBs
  go_enter Try.func21, Try.ntmps21
  go_wp2_with fail
  refine HC.out.mono ?_
  rintro e w1 ⟨A', c', rfl, hR, hB⟩
  have HS := Aside0.mk (wsortR hR hB hz)
  clear hR hB HC
  go_wp2_with fail
  refine HS.out.mono ?_
  rintro e w2 ⟨rfl, zs', h1, h2, hR, hB⟩
  have HP := Aside0.mk (And.intro h1 (And.intro h2 (And.intro hR hB)))
  clear h1 h2 hR hB HS
  go_wp2_with fail
  go_ret
  exact ⟨_, _, zs', rfl, HP.out.1, HP.out.2.1, HP.out.2.2.1, HP.out.2.2.2⟩
set_option maxHeartbeats 1000000 in
theorem wmake (A0 : Option Addr) (c0 : Nat) (l : List S32) (w : World) (hr0 : Kd.C k32 w A0 l.length l) (hn : ∀ x ∈ l, x.f0.size ≤ maxLen) :
    Calls Try.prog 10 #[.slice A0 l.length c0] w fun e w' => ∃ A' c' r, e = .returned (.tuple #[.slice A' r.length c', .int .i64 (makeE l)]) ∧ (makeE l = 0 → r.Perm l ∧ OrdN r) ∧ (makeE l ≠ 0 → r = []) ∧ k32.R 32 w' w.heap.size (fun _ => True) (.slice A' r.length c') r ∧ Below w.heap.size w w' := by
  have HR0 := Aside0.mk hr0
  have HN := Aside0.mk hn
  have hlm := hr0.2.1
  have hre : makeE l = if 24 < l.length then 4 else if l.any wrongA = true then 1 else if twiceE l = true then 8 else 0 := rfl
  have H1 := Aside0.mk (any_evwrong wrongA A0 c0 l w hr0 (fun x W hW hx => event_wrong.calls x.f0 x.f1.f0 x.f1.f1 x.f1.f2 (wrongA x) W (wrong_fE x)))
  clear hr0 hn
  generalize makeE l = res at hre ⊢
  by_cases h24 : 24 < l.length
  case pos =>
    rw [if_pos h24] at hre
    subst hre
    have h24' : (l.length : Int) > 24 := by omega
    go_enter Try.func10, Try.ntmps10
    go_wp2_with fail
    go_ret2
    exact ⟨none, 0, [], rfl, fun h => absurd h (by decide), fun _ => rfl, Kd.R_nil _ _ _ _ _, Below.refl _ _⟩
  rw [if_neg h24] at hre
  have h24' : ¬ (l.length : Int) > 24 := by omega
  generalize l.any wrongA = b1 at hre H1
  have HRE := Aside0.mk hre
  clear hre
  go_enter Try.func10, Try.ntmps10
  go_wp2_with fail
  refine H1.out.mono ?_
  rintro e w1 ⟨rfl, hX⟩
  have HX := Aside0.mk hX
  clear hX H1
  cases b1 with
  | true =>
    have hre := HRE.out
    rw [if_pos rfl] at hre
    subst hre
    clear HRE
    go_wp2_with fail
    go_ret2
    exact ⟨none, 0, [], rfl, fun h => absurd h (by decide), fun _ => rfl, Kd.R_nil _ _ _ _ _, HX.out⟩
  | false =>
    have H3 := Aside0.mk (wtwiceE A0 c0 l w1 (Kd.C_below HR0.out HX.out) HN.out)
    have hre := HRE.out
    rw [if_neg (by decide)] at hre
    clear HRE
    generalize twiceE l = b3 at hre H3
    have HRE := Aside0.mk hre
    clear hre
    go_wp2_with fail
    refine H3.out.mono ?_
    rintro e w3 ⟨rfl, hX⟩
    have HX3 := Aside0.mk (HX.out.trans (hX.mono HX.out.size))
    clear hX H3 HX
    cases b3 with
    | true =>
      have hre := HRE.out
      rw [if_pos rfl] at hre
      subst hre
      clear HRE
      go_wp2_with fail
      go_ret2
      exact ⟨none, 0, [], rfl, fun h => absurd h (by decide), fun _ => rfl, Kd.R_nil _ _ _ _ _, HX3.out⟩
    | false =>
      have hre := HRE.out
      rw [if_neg (by decide)] at hre
      subst hre
      clear HRE
      have HA := Aside0.mk ((Below.refl w3.heap.size w3).alloc (Nat.le_refl _) (.cells #[.slice A0 l.length c0] 22 (0, 0)))
      have HB4 := Aside0.mk (HX3.out.trans (HA.out.mono HX3.out.size))
      have HS := Aside0.mk (wsorted w3.heap.size A0 c0 l (w3.alloc (.cells #[.slice A0 l.length c0] 22 (0, 0))) (Kd.C_below HR0.out HB4.out) (by rw [World.size_alloc]; omega) (by rw [cell_of_row _ _ _ _ _ _ (heap_alloc_new w3 _)]; rfl) (by omega))
      go_wp2_with (first | (go_at_call 21; refine HS.out.mono ?_; rintro e w4 ⟨A', c', zs', rfl, h1, h2, hR, hB⟩; have HP := Aside0.mk (And.intro h1 (And.intro h2 (And.intro hR hB))); clear h1 h2 hR hB HS) | go_in)
      go_ret2
      have hlen := HP.out.1.length_eq
      have hb := HB4.out.trans (HP.out.2.2.2.mono HB4.out.size)
      have hR : w4.ownsRow (w3.alloc (.cells #[.slice A0 l.length c0] 22 (0, 0))).heap.size 32 4 (.slice A' zs'.length c') zs'.length (zs'.flatMap atC) := by rw [hlen]; exact HP.out.2.2.1
      refine ⟨A', c', zs', by rw [hlen]; rfl, ⟨HP.out.1, HP.out.2.1⟩, ?_, hb⟩
      exact Kd.R_lower ⟨fun _ _ => trivial, zs'.flatMap atC, hR, reps_attrs zs' _ _ _⟩ HB4.out.size
/-- event.Make -/
theorem emake (A0 : Option Addr) (c0 : Nat) (l : List S32) (w : World) (hr0 : Kd.C k32 w A0 l.length l) (hn : ∀ x ∈ l, x.f0.size ≤ maxLen) :
    Calls Try.prog 10 #[.slice A0 l.length c0] w fun e w' => ∃ A' c', e = .returned (.tuple #[.slice A' (madeL l).length c', .int .i64 (makeE l)]) ∧ (madeL l).length ≤ c' ∧ k32.R 32 w' w.heap.size (fun _ => True) (.slice A' (madeL l).length c') (madeL l) ∧ k32.C w' A' (madeL l).length (madeL l) ∧ Below w.heap.size w w' := by
  refine (wmake A0 c0 l w hr0 hn).mono ?_
  rintro e w' ⟨A', c', r, rfl, h1, h2, hR, hB⟩
  obtain rfl := made_one h1 h2
  have := Kd.R_reads' hR
  exact ⟨A', c', rfl, this.2.1, hR, this.2.2, hB⟩
end Go.Proofs.Ytmbpgebboppkmaa
end

section
-- Written by a program of this session (wip/tools/myprint.py), over the kit's print.
namespace Go.Proofs.Ytmbpgebboppkmaa.G
open Go.RowKit Go.Proofs.YtmbpgebboppkmaaW.PrintWords Go.Proofs.YtmbpgebboppkmaaW.PrintLast Go.Proofs.YtmbpgebboppkmaaW.PrintMore
attribute [local go_sem] max2_int min2_int max_two min_two max_three min_three max_four min_four   -- for this text's walks alone
set_option linter.unusedVariables false
set_option linter.unusedSimpArgs false

-- BY HAND
-- IMPORT YtmbpgebboppkmaaEvMade
def event_Make.f (l0 : List S32) : Option (List S32 × Int) := if ∀ x ∈ l0, x.f0.size ≤ maxLen then some (madeL l0, makeE l0) else none
theorem event_Make.calls (A0 : Option Addr) (c0 : Nat) (l0 : List S32) (r1 : List S32) (r2 : Int) (w : World) (hr0 : Kd.C k32 w A0 l0.length l0) (hc0 : l0.length ≤ c0) (h : event_Make.f l0 = some (r1, r2)) :
    Calls Try.prog 10 #[.slice A0 l0.length c0] w fun e w' => ∃ v0_ : Value, e = .returned (.tuple #[v0_, .int .i64 r2]) ∧ Kd.R k32 32 w' w.heap.size (fun _ => True) v0_ r1 ∧ Below w.heap.size w w' := by
  unfold event_Make.f at h
  split at h
  case isFalse => cases h
  case isTrue hn =>
    obtain ⟨rfl, rfl⟩ := Prod.mk.inj (Option.some.inj h)
    refine (emake A0 c0 l0 w hr0 hn).mono ?_
    rintro e w' ⟨A', c', rfl, _, hR, _, hB⟩
    exact ⟨_, rfl, hR, hB⟩

end Go.Proofs.Ytmbpgebboppkmaa.G
end

section
-- Written by a program of this session (wip/tools/myprint.py), over the kit's print.
namespace Go.Proofs.Ytmbpgebboppkmaa.G
open Go.RowKit Go.Proofs.YtmbpgebboppkmaaW.PrintWords Go.Proofs.YtmbpgebboppkmaaW.PrintLast Go.Proofs.YtmbpgebboppkmaaW.PrintMore
attribute [local go_sem] max2_int min2_int max_two min_two max_three min_three max_four min_four   -- for this text's walks alone
set_option linter.unusedVariables false
set_option linter.unusedSimpArgs false

theorem eqA32 (d : Nat) (w : World) (x0 y0 : ByteArray) (x1 y1 : Int) (x2 y2 : Int) (x3 y3 : ByteArray) :
    (Op.equalIn (d + 3) 32 (.agg #[.string x0, .int .i64 x1, .int .i64 x2, .string x3]) (.agg #[.string y0, .int .i64 y1, .int .i64 y2, .string y3])).run Try.prog w = .ok (x0.toList == y0.toList && ((x1 == y1 && (x2 == y2 && (x3.toList == y3.toList))))) w := by
  refine eqA_of Try.underlying32 (by kernel_rfl) ?_
  refine eqf_cons (by rfl) (by go_simp; rfl) (by go_simp; rfl) (by go_simp) ?_
  exact eqf_last (by rfl) (by go_simp) (by go_simp) (eqA30 (d + 0) w _ _ _ _ _ _)
end Go.Proofs.Ytmbpgebboppkmaa.G
end

section
-- Written by a program of this session (wip/tools/myprint.py), over the kit's print.
namespace Go.Proofs.Ytmbpgebboppkmaa.G
open Go.RowKit Go.Proofs.YtmbpgebboppkmaaW.PrintWords Go.Proofs.YtmbpgebboppkmaaW.PrintLast Go.Proofs.YtmbpgebboppkmaaW.PrintMore
attribute [local go_sem] max2_int min2_int max_two min_two max_three min_three max_four min_four   -- for this text's walks alone
set_option linter.unusedVariables false
set_option linter.unusedSimpArgs false

attribute [local go_sem high] eqA32
/-! ### rosetteref05_Same: function 12 -/
def rosetteref05_Same.l0 : Nat → List (S32) → List (S32) → Int → Option (Bool)
  | 0, _, _, _ => none
  | k + 1, x0, x1, x5 => if x5 < (x0.length : Int) then (if 0 ≤ x5 then (if x5 < (x1.length : Int) then (if (!((((rd_T32 x0 x5).f0).toList) == (((rd_T32 x1 x5).f0).toList)) || ((!(((rd_T32 x0 x5).f1.f0) == ((rd_T32 x1 x5).f1.f0)) || (!(((rd_T32 x0 x5).f1.f1) == ((rd_T32 x1 x5).f1.f1)) || (!((((rd_T32 x0 x5).f1.f2).toList) == (((rd_T32 x1 x5).f1.f2).toList))))))) = true then (some false) else (rosetteref05_Same.l0 k x0 x1 (wrap64 (x5 + 1)))) else (none)) else (none)) else (some true)
def rosetteref05_Same.f (k : Nat) (l0 : List (S32)) (l1 : List (S32)) : Option (Bool) := if (l0.length : Int) = (l1.length : Int) then (rosetteref05_Same.l0 k l0 l1 0) else (some false)
theorem rosetteref05_Same.mono_l : ∀ k, (∀ y0 y1 y2, LeO (rosetteref05_Same.l0 k y0 y1 y2) (rosetteref05_Same.l0 (k + 1) y0 y1 y2))
  | 0 => fun _ _ _ r h => by simp [rosetteref05_Same.l0] at h
  | k + 1 => by
    have ih0 := rosetteref05_Same.mono_l k
    · intro y0 y1 y2
      unfold rosetteref05_Same.l0
      repeat' first
      | (with_reducible exact ih0 _ _ _)
      | (with_reducible exact LeO.refl _)
      | (with_reducible exact LeO.none _)
      | (with_reducible refine LeO.ite ?_ ?_)
      | (with_reducible refine LeO.bind ?_ (fun _ => ?_))
      | exact ih0 _ _ _
      | exact LeO.none _
      | refine LeO.ite ?_ ?_
      | refine LeO.bind ?_ (fun _ => ?_)
theorem rosetteref05_Same.mono : ∀ a0 a1 k, LeO (rosetteref05_Same.f k a0 a1) (rosetteref05_Same.f (k + 1) a0 a1) := by
  intro a0 a1 k
  have ih0 := rosetteref05_Same.mono_l k
  unfold rosetteref05_Same.f
  repeat' first
      | (with_reducible exact ih0 _ _ _)
      | (with_reducible exact LeO.refl _)
      | (with_reducible exact LeO.none _)
      | (with_reducible refine LeO.ite ?_ ?_)
      | (with_reducible refine LeO.bind ?_ (fun _ => ?_))
      | exact ih0 _ _ _
      | exact LeO.none _
      | refine LeO.ite ?_ ?_
      | refine LeO.bind ?_ (fun _ => ?_)
set_option maxHeartbeats 8000000 in
set_option maxRecDepth 100000 in
theorem rosetteref05_Same.calls (k : Nat) (A0 : Option Addr) (c0 : Nat) (l0 : List (S32)) (A1 : Option Addr) (c1 : Nat) (l1 : List (S32)) (r : Bool) (w : World) (hr0 : Kd.C k32 w A0 l0.length l0) (hc0 : l0.length ≤ c0) (hr1 : Kd.C k32 w A1 l1.length l1) (hc1 : l1.length ≤ c1) (h : rosetteref05_Same.f k l0 l1 = some r) :
    Calls Try.prog 12 #[.slice A0 l0.length c0, .slice A1 l1.length c1] w fun e w' => e = .returned (.bool r) ∧ Drawn0 w w' := by
  have hu32 := Try.underlying32
  have HR0 := Aside0.mk hr0
  have HC0 := Aside0.mk hc0
  clear hr0 hc0
  have HR1 := Aside0.mk hr1
  have HC1 := Aside0.mk hc1
  clear hr1 hc1
  have H : (if (l0.length : Int) = (l1.length : Int) then (rosetteref05_Same.l0 k l0 l1 0) else (some false)) = some r := h
  clear h
  by_cases c3 : (l0.length : Int) = (l1.length : Int)
  · rw [if_pos c3] at H
    have c3b0 : ((l0.length : Int) == (l1.length : Int)) = true := beq_iff_eq.mpr c3
    have c3b1 : ((l0.length : Int) != (l1.length : Int)) = false := bne_eq_false_iff_eq.mpr c3
    have c3b2 : (l0.length == l1.length) = true := by first | simpa using c3 | (simp at c3 ⊢; omega)
    clear c3
    have H' := Aside0.mk H
    clear H
    go_enter Try.func12, Try.ntmps12
    go_wp2
    repeat (go_quiet (fail); try go_wp2)
    go_loopg [5] k (fun kq v5 w' => ∃ (x5_1 : Int), v5 = .int .i64 x5_1 ∧ Aside0 (rosetteref05_Same.l0 kq l0 l1 x5_1 = some r) ∧ Aside0 (kq ≤ k) ∧ Drawn0 w w')
    case atStart => exact ⟨(0), (by first | rfl | (simp; done) | (simp [*]; done)), H', ⟨Nat.le_refl _⟩, by repeat (first | exact Drawn0.refl _ | apply Drawn0.step)⟩
    case round =>
      clear H'
      try clear c1
      try clear p2
      try clear c3
      try clear c3b0
      try clear c3b1
      try clear c3b2
      obtain ⟨x5_1, rfl, HA, HK1, ⟨m1, rfl⟩⟩ := hrel
      cases gk with
      | zero => exact absurd HA.out (by simp [rosetteref05_Same.l0])
      | succ k1 =>
        have H := HA.out
        clear HA
        simp only [rosetteref05_Same.l0] at H
        by_cases c4 : x5_1 < (l0.length : Int)
        · rw [if_pos c4] at H
          have c4b0 : decide (x5_1 < (l0.length : Int)) = true := decide_eq_true c4
          clear c4
          by_cases c5 : 0 ≤ x5_1
          · rw [if_pos c5] at H
            have c5b0 : decide (0 ≤ x5_1) = true := decide_eq_true c5
            clear c5
            by_cases c6 : x5_1 < (l1.length : Int)
            · rw [if_pos c6] at H
              have c6b0 : decide (x5_1 < (l1.length : Int)) = true := decide_eq_true c6
              clear c6
              by_cases c7 : (!((((rd_T32 l0 x5_1).f0).toList) == (((rd_T32 l1 x5_1).f0).toList)) || ((!(((rd_T32 l0 x5_1).f1.f0) == ((rd_T32 l1 x5_1).f1.f0)) || (!(((rd_T32 l0 x5_1).f1.f1) == ((rd_T32 l1 x5_1).f1.f1)) || (!((((rd_T32 l0 x5_1).f1.f2).toList) == (((rd_T32 l1 x5_1).f1.f2).toList))))))) = true
              · rw [if_pos c7] at H
                have c7b0 : (!((((rd_T32 l0 x5_1).f0).toList) == (((rd_T32 l1 x5_1).f0).toList)) || ((!(((rd_T32 l0 x5_1).f1.f0) == ((rd_T32 l1 x5_1).f1.f0)) || (!(((rd_T32 l0 x5_1).f1.f1) == ((rd_T32 l1 x5_1).f1.f1)) || (!((((rd_T32 l0 x5_1).f1.f2).toList) == (((rd_T32 l1 x5_1).f1.f2).toList))))))) = true := c7
                clear c7
                obtain rfl := Option.some.inj H
                have p109 : 0 ≤ (x5_1 : Int) := of_decide_eq_true (by first | (with_reducible assumption) | assumption)
                have q109 : x5_1 < (l0.length : Int) := of_decide_eq_true (by first | (with_reducible assumption) | assumption)
                obtain ⟨ad109, e109, hx109_0, hx109_1, hx109_2, hx109_3⟩ := at_T32 HR0.out x5_1 p109 q109
                cases e109
                replace p109 := eq_true p109
                replace q109 := eq_true q109
                have p110 : 0 ≤ (x5_1 : Int) := of_decide_eq_true (by first | (with_reducible assumption) | assumption)
                have q110 : x5_1 < (l1.length : Int) := of_decide_eq_true (by first | (with_reducible assumption) | assumption)
                obtain ⟨ad110, e110, hx110_0, hx110_1, hx110_2, hx110_3⟩ := at_T32 HR1.out x5_1 p110 q110
                cases e110
                replace p110 := eq_true p110
                replace q110 := eq_true q110
                go_wp2
                repeat (go_quiet (fail); try go_wp2)
                go_ret
                exact ⟨by first | rfl | (simp; done) | (simp [*]; done), by repeat (first | exact Drawn0.refl _ | apply Drawn0.step)⟩
              · rw [if_neg c7] at H
                have c7b0 : (!((((rd_T32 l0 x5_1).f0).toList) == (((rd_T32 l1 x5_1).f0).toList)) || ((!(((rd_T32 l0 x5_1).f1.f0) == ((rd_T32 l1 x5_1).f1.f0)) || (!(((rd_T32 l0 x5_1).f1.f1) == ((rd_T32 l1 x5_1).f1.f1)) || (!((((rd_T32 l0 x5_1).f1.f2).toList) == (((rd_T32 l1 x5_1).f1.f2).toList))))))) = false := by simpa using c7
                clear c7
                have H' := Aside0.mk H
                clear H
                have p109 : 0 ≤ (x5_1 : Int) := of_decide_eq_true (by first | (with_reducible assumption) | assumption)
                have q109 : x5_1 < (l0.length : Int) := of_decide_eq_true (by first | (with_reducible assumption) | assumption)
                obtain ⟨ad109, e109, hx109_0, hx109_1, hx109_2, hx109_3⟩ := at_T32 HR0.out x5_1 p109 q109
                cases e109
                replace p109 := eq_true p109
                replace q109 := eq_true q109
                have p110 : 0 ≤ (x5_1 : Int) := of_decide_eq_true (by first | (with_reducible assumption) | assumption)
                have q110 : x5_1 < (l1.length : Int) := of_decide_eq_true (by first | (with_reducible assumption) | assumption)
                obtain ⟨ad110, e110, hx110_0, hx110_1, hx110_2, hx110_3⟩ := at_T32 HR1.out x5_1 p110 q110
                cases e110
                replace p110 := eq_true p110
                replace q110 := eq_true q110
                go_wp2
                repeat (go_quiet (fail); try go_wp2)
                go_roundg k1
                case measure => have := HK1.out; omega
                case rel => exact ⟨(wrap64 (x5_1 + 1)), (by first | rfl | (simp; done) | (simp [*]; done)), H', ⟨by have := HK1.out; omega⟩, by repeat (first | exact Drawn0.refl _ | apply Drawn0.step)⟩
            · rw [if_neg c6] at H
              exact absurd H (by simp)
          · rw [if_neg c5] at H
            exact absurd H (by simp)
        · rw [if_neg c4] at H
          have c4b0 : decide (x5_1 < (l0.length : Int)) = false := decide_eq_false c4
          clear c4
          obtain rfl := Option.some.inj H
          go_wp2
          repeat (go_quiet (fail); try go_wp2)
          go_ret
          exact ⟨by first | rfl | (simp; done) | (simp [*]; done), by repeat (first | exact Drawn0.refl _ | apply Drawn0.step)⟩
  · rw [if_neg c3] at H
    have c3b0 : ((l0.length : Int) == (l1.length : Int)) = false := beq_eq_false_iff_ne.mpr c3
    have c3b1 : ((l0.length : Int) != (l1.length : Int)) = true := bne_iff_ne.mpr c3
    have c3b2 : (l0.length == l1.length) = false := by first | simpa using c3 | (simp at c3 ⊢; omega)
    obtain rfl := Option.some.inj H
    go_enter Try.func12, Try.ntmps12
    go_wp2
    repeat (go_quiet (fail); try go_wp2)
    go_ret
    exact ⟨by first | rfl | (simp; done) | (simp [*]; done), by repeat (first | exact Drawn0.refl _ | apply Drawn0.step)⟩

end Go.Proofs.Ytmbpgebboppkmaa.G
end

section
-- Written by a program of this session (wip/tools/myprint.py), over the kit's print.
namespace Go.Proofs.Ytmbpgebboppkmaa.G
open Go.RowKit Go.Proofs.YtmbpgebboppkmaaW.PrintWords Go.Proofs.YtmbpgebboppkmaaW.PrintLast Go.Proofs.YtmbpgebboppkmaaW.PrintMore
attribute [local go_sem] max2_int min2_int max_two min_two max_three min_three max_four min_four   -- for this text's walks alone
set_option linter.unusedVariables false
set_option linter.unusedSimpArgs false

-- BY HAND
-- IMPORT YtmbpgebboppkmaaEvR05
def event_Right.f (l0 : List S32) : Option Bool := if ∀ x ∈ l0, x.f0.size ≤ maxLen then some (rightE l0) else none
theorem event_Right.calls (A0 : Option Addr) (c0 : Nat) (l0 : List S32) (r : Bool) (w : World) (hr0 : Kd.C k32 w A0 l0.length l0) (hc0 : l0.length ≤ c0) (h : event_Right.f l0 = some r) :
    Calls Try.prog 13 #[.slice A0 l0.length c0] w fun e w' => e = .returned (.bool r) ∧ Below w.heap.size w w' := by
  unfold event_Right.f at h
  split at h
  case isFalse => cases h
  case isTrue hn =>
    obtain rfl := Option.some.inj h
    exact wrightE A0 c0 l0 w hr0 hn

end Go.Proofs.Ytmbpgebboppkmaa.G
end

section
-- Written by a program of this session (wip/tools/myprint.py), over the kit's print.
namespace Go.Proofs.Ytmbpgebboppkmaa.G
open Go.RowKit Go.Proofs.YtmbpgebboppkmaaW.PrintWords Go.Proofs.YtmbpgebboppkmaaW.PrintLast Go.Proofs.YtmbpgebboppkmaaW.PrintMore
attribute [local go_sem] max2_int min2_int max_two min_two max_three min_three max_four min_four   -- for this text's walks alone
set_option linter.unusedVariables false
set_option linter.unusedSimpArgs false

-- BY HAND
-- LIB Derived.BigQuiet
-- LIB Derived.Deep.QuietTactic
-- over: at_T32 k32
def event_Get.f (l0 : List S32) (a1 : ByteArray) : Option (Int × Int × ByteArray × Bool) :=
  match l0.find? (fun a => a.f0.toList == a1.toList) with
  | some a => some (a.f1.f0, a.f1.f1, a.f1.f2, true)
  | none => some (0, 0, ⟨#[]⟩, false)
set_option maxRecDepth 100000 in
set_option maxHeartbeats 1000000 in
theorem get_named (x : S32) (a1 : ByteArray) (g : Nat) (w : World) (hg : w.heap[g]? = some (.cells #[.string a1] 9 (0, 0))) :
    Calls Try.prog 28 #[.agg #[.string x.f0, .int .i64 x.f1.f0, .int .i64 x.f1.f1, .string x.f1.f2], .pointer (some ⟨g, 0, none⟩)] w fun e w' => e = .returned (.bool (x.f0.toList == a1.toList)) ∧ Below w.heap.size w w' := by
  have hlt : g < w.heap.size := (Array.getElem?_eq_some_iff.1 hg).1
  have hc : w.cell? ⟨g, 0, none⟩ = some (.string a1) := by rw [cell_of_row _ _ _ _ _ _ hg]; rfl
  go_enter Try.func28, Try.ntmps28
  go_wp2
  go_ret
  exact ⟨rfl, (Below.refl _ _).alloc (Nat.le_refl _) _⟩
set_option maxRecDepth 100000 in
set_option maxHeartbeats 2000000 in
theorem index_named (A : Option Addr) (c : Nat) (l : List S32) (a1 : ByteArray) (g : Nat) (w : World) (hC : Kd.C k32 w A l.length l) (hg : w.heap[g]? = some (.cells #[.string a1] 9 (0, 0))) :
    Calls Try.prog 27 #[.slice A l.length c, .func (.func 28) #[] #[.pointer (some ⟨g, 0, none⟩)]] w fun e w' =>
      (∃ i : Int, e = .returned (.int .i64 i) ∧ ((i = -1 ∧ l.find? (fun a => a.f0.toList == a1.toList) = none) ∨ (0 ≤ i ∧ i < l.length ∧ l.find? (fun a => a.f0.toList == a1.toList) = some (rd_T32 l i)))) ∧ Below w.heap.size w w' := by
  have HC := Aside0.mk hC
  have HG := Aside0.mk hg
  have hl := hC.2.1
  clear hC hg
  go_enter Try.func27, Try.ntmps27
  go_wp2_with fail
  go_loopw [8] (fun i wr => ∃ k : Nat, k ≤ l.length ∧ i = .int .i64 k ∧ Aside0 (∀ j, j < k → ((rd_T32 l (j : Nat)).f0.toList == a1.toList) = false) ∧ Below w.heap.size w wr) (fun i _ => l.length - (intOf i).toNat)
  case atStart => exact ⟨0, Nat.zero_le _, rfl, ⟨fun j hj => by omega⟩, Below.refl _ _⟩
  case round =>
    obtain ⟨k, hk, rfl, HN, hBr⟩ := hrel
    have HB := Aside0.mk hBr
    clear hBr
    by_cases hlt : k < l.length
    · obtain ⟨ad, rfl, h0, h1, h2, h3⟩ := at_T32 (Kd.C_below HC.out HB.out) (k : Int) (by omega) (by omega)
      rw [Int.toNat_natCast] at h0 h1 h2 h3
      obtain ⟨x, hx⟩ : ∃ x, rd_T32 l (k : Int) = x := ⟨_, rfl⟩
      rw [hx] at h0 h1 h2 h3
      have HX := Aside0.mk hx
      have hgr : Aside0 (wr.heap[g]? = some (.cells #[.string a1] 9 (0, 0))) := ⟨by rw [HB.out.block g (Array.getElem?_eq_some_iff.1 HG.out).1]; exact HG.out⟩
      clear hx
      cases hb : (x.f0.toList == a1.toList) with
      | true =>
        have HT := Aside0.mk hb
        have hcl := Aside0.mk (get_named x a1 g wr hgr.out)
        rw [hb] at hcl
        clear hb
        go_wp2_with (go_at_call 28; (with_reducible refine hcl.out.mono ?_); rintro e w2 ⟨rfl, hB⟩; have HB2 : Aside0 (Below w.heap.size w w2) := ⟨HB.out.trans (hB.mono HB.out.size)⟩; clear hB)
        go_ret
        refine ⟨⟨k, rfl, .inr ⟨by omega, by omega, ?_⟩⟩, HB2.out⟩
        rw [List.find?_eq_some_iff_getElem]
        refine ⟨by rw [HX.out]; exact HT.out, k, hlt, by simp [rd_T32, List.getD_eq_getElem?_getD, hlt], fun j hj => ?_⟩
        have := HN.out j hj
        simpa [rd_T32, List.getD_eq_getElem?_getD, show j < l.length by omega] using this
      | false =>
        have HT := Aside0.mk hb
        have hcl := Aside0.mk (get_named x a1 g wr hgr.out)
        rw [hb] at hcl
        clear hb
        go_wp2_with (go_at_call 28; (with_reducible refine hcl.out.mono ?_); rintro e w2 ⟨rfl, hB⟩; have HB2 : Aside0 (Below w.heap.size w w2) := ⟨HB.out.trans (hB.mono HB.out.size)⟩; clear hB)
        exact ⟨⟨k + 1, by omega, by simp, ⟨fun j hj => by
          by_cases e : j = k
          · rw [e, HX.out]; exact HT.out
          · exact HN.out j (by omega)⟩, HB2.out⟩, by simp [intOf]; omega⟩
    · obtain rfl : k = l.length := by omega
      go_wp2_with fail
      go_ret
      refine ⟨⟨-1, rfl, .inl ⟨rfl, ?_⟩⟩, HB.out⟩
      rw [List.find?_eq_none]
      intro a ha
      obtain ⟨j, hj, rfl⟩ := List.getElem_of_mem ha
      have := HN.out j hj
      simpa [rd_T32, List.getD_eq_getElem?_getD, hj] using this
set_option maxRecDepth 100000 in
set_option maxHeartbeats 2000000 in
theorem event_Get.calls (A0 : Option Addr) (c0 : Nat) (l0 : List S32) (a1 : ByteArray) (r1 : Int) (r2 : Int) (r3 : ByteArray) (r4 : Bool) (w : World) (hr0 : Kd.C k32 w A0 l0.length l0) (hc0 : l0.length ≤ c0) (h : event_Get.f l0 a1 = some (r1, r2, r3, r4)) :
    Calls Try.prog 15 #[.slice A0 l0.length c0, .string a1] w fun e w' => e = .returned (.tuple #[.agg #[.int .i64 r1, .int .i64 r2, .string r3], .bool r4]) ∧ Below w.heap.size w w' := by
  have HR := Aside0.mk hr0
  have H := Aside0.mk h
  have hl := hr0.2.1
  clear hr0 h
  go_enter Try.func15, Try.ntmps15
  go_wp2_with fail
  have hb2 : Below w.heap.size w ((w.alloc (.cells #[.string a1] 9)).alloc (.cells #[.int .i64 0, .int .i64 0, .string ByteArray.empty] 30)) := (((Below.refl _ _).alloc (Nat.le_refl _) _).alloc (by simp) _)
  have hg1 : ((w.alloc (.cells #[.string a1] 9)).alloc (.cells #[.int .i64 0, .int .i64 0, .string ByteArray.empty] 30)).heap[w.heap.size]? = some (.cells #[.string a1] 9 (0, 0)) := (Below.heap_alloc _ _ _ (by simp)).trans (heap_alloc_new w _)
  have hg2 : ((w.alloc (.cells #[.string a1] 9)).alloc (.cells #[.int .i64 0, .int .i64 0, .string ByteArray.empty] 30)).heap[w.heap.size + 1]? = some (.cells #[.int .i64 0, .int .i64 0, .string ByteArray.empty] 30 (0, 0)) := by have := heap_alloc_new (w.alloc (.cells #[.string a1] 9)) (.cells #[.int .i64 0, .int .i64 0, .string ByteArray.empty] 30); rwa [World.size_alloc] at this
  refine (index_named A0 c0 l0 a1 w.heap.size _ (Kd.C_below HR.out hb2) hg1).mono ?_
  rintro e w1 ⟨⟨i, rfl, hi⟩, hB⟩
  have HB : Aside0 (Below w.heap.size w w1) := ⟨hb2.trans (hB.mono (by simp; omega))⟩
  have BK : Aside0 (w1.heap[w.heap.size + 1]? = some (.cells #[.int .i64 0, .int .i64 0, .string ByteArray.empty] 30 (0, 0))) := ⟨(hB.block _ (Array.getElem?_eq_some_iff.1 hg2).1).trans hg2⟩
  clear hB hg1 hg2 hb2
  have hcz0 : w1.cell? ⟨w.heap.size + 1, 0, none⟩ = some (.int .i64 0) := (blk_cell BK.out 0).trans rfl
  have hcz1 : w1.cell? ⟨w.heap.size + 1, 1, none⟩ = some (.int .i64 0) := (blk_cell BK.out 1).trans rfl
  have hcz2 : w1.cell? ⟨w.heap.size + 1, 2, none⟩ = some (.string ByteArray.empty) := (blk_cell BK.out 2).trans rfl
  have hfz0 := blk_frozen BK.out 0
  have hfz1 := blk_frozen BK.out 1
  have hfz2 := blk_frozen BK.out 2
  have h := H.out
  unfold event_Get.f at h
  rcases hi with ⟨rfl, hf⟩ | ⟨h0, h1, hf⟩
  · rw [hf] at h
    simp only [Option.some.injEq, Prod.mk.injEq] at h
    obtain ⟨rfl, rfl, rfl, rfl⟩ := h
    clear hf H
    go_wp2
    refine bodyPost_ret (results_ct rfl _ _ (w.heap.size + 1) 30 #[.int .i64 0, .int .i64 0, .string (⟨#[]⟩ : ByteArray)] (0, 0) _ rfl (by refine blk_put (cs := #[.int .i64 0, .int .i64 0, .string ByteArray.empty]) ?_ 2 _ rfl; refine blk_put (cs := #[.int .i64 0, .int .i64 0, .string ByteArray.empty]) ?_ 1 _ rfl; refine blk_put (cs := #[.int .i64 0, .int .i64 0, .string ByteArray.empty]) ?_ 0 _ rfl; exact BK.out) Try.underlying30 rfl (by kernel_rfl)) rfl ?_
    exact ⟨rfl, ((HB.out.setCell (by simp) _).setCell (by simp) _).setCell (by simp) _⟩
  · rw [hf] at h
    simp only [Option.some.injEq, Prod.mk.injEq] at h
    obtain ⟨k, rfl⟩ := Int.eq_ofNat_of_zero_le h0
    obtain ⟨x, hx⟩ : ∃ x, rd_T32 l0 (k : Int) = x := ⟨_, rfl⟩
    rw [hx] at h
    obtain ⟨rfl, rfl, rfl, rfl⟩ := h
    obtain ⟨ad, rfl, q0, q1, q2, q3⟩ := at_T32 (Kd.C_below HR.out HB.out) (k : Int) (by omega) (by omega)
    rw [hx, Int.toNat_natCast] at q0 q1 q2 q3
    have hk : k < l0.length := by omega
    clear hf H hx h0 h1
    go_wp2
    refine bodyPost_ret (results_ct rfl _ _ (w.heap.size + 1) 30 #[.int .i64 x.f1.f0, .int .i64 x.f1.f1, .string x.f1.f2] (0, 0) _ rfl (by refine blk_put (cs := #[.int .i64 x.f1.f0, .int .i64 x.f1.f1, .string ByteArray.empty]) ?_ 2 _ rfl; refine blk_put (cs := #[.int .i64 x.f1.f0, .int .i64 0, .string ByteArray.empty]) ?_ 1 _ rfl; refine blk_put (cs := #[.int .i64 0, .int .i64 0, .string ByteArray.empty]) ?_ 0 _ rfl; exact BK.out) Try.underlying30 rfl (by kernel_rfl)) rfl ?_
    exact ⟨rfl, ((HB.out.setCell (by simp) _).setCell (by simp) _).setCell (by simp) _⟩

end Go.Proofs.Ytmbpgebboppkmaa.G
end

section
/- rosettelaw05.small, walked -/
set_option linter.unusedVariables false
set_option linter.unusedSimpArgs false
set_option autoImplicit false
namespace Go.Proofs.Ytmbpgebboppkmaa
open Go Go.RowKit Go.Proofs.YtmbpgebboppkmaaW.PrintWords Go.Proofs.YtmbpgebboppkmaaW.PrintLast Go.Proofs.YtmbpgebboppkmaaW.PrintMore Go.Proofs.Ytmbpgebboppkmaa.G

theorem attrs_lit {W : World} {b : Nat} (l : List S32) (h : W.heap[b]? = some (.cells (l.flatMap atC).toArray 32 (0, 0))) (hl : l.length ≤ 100000) : k32.C W (some ⟨b, 0, none⟩) l.length l := by
  have hf : (l.flatMap atC).length = l.length * 4 := (reps_attrs l W 0 (fun _ => True)).1
  have ho : W.ownsRow 0 32 4 (.slice (some ⟨b, 0, none⟩) l.length l.length) l.length (l.flatMap atC) :=
    ⟨hf, .inr ⟨b, l.length, _, rfl, Nat.zero_le _, h, Nat.le_refl _, by simp only [maxLen]; omega, by simp [hf], by rw [List.take_of_length_le]; simp [hf]⟩⟩
  obtain ⟨A, c, he, _, hC⟩ := attrs_C ho
  injection he with e1
  subst e1
  exact hC

theorem cells3f {W : World} {b T : Nat} {x y z : Value} (h : W.heap[b]? = some (.cells #[x, y, z] T (0, 0))) : W.cell? ⟨b, 0, none⟩ = some x ∧ W.cell? ⟨b, 1, none⟩ = some y ∧ W.cell? ⟨b, 2, none⟩ = some z :=
  ⟨by rw [cell_of_row _ _ _ _ _ _ h]; rfl, by rw [cell_of_row _ _ _ _ _ _ h]; rfl, by rw [cell_of_row _ _ _ _ _ _ h]; rfl⟩
theorem drawn_below5 {w W : World} (h : Drawn0 w W) : Below w.heap.size w W := by
  obtain ⟨n, rfl⟩ := h
  exact pw_below_drewN (Below.refl _ _) n
instance : DecidableEq S30 := fun a b => decidable_of_iff (a.f0 = b.f0 ∧ a.f1 = b.f1 ∧ a.f2 = b.f2) ⟨fun ⟨h1, h2, h3⟩ => by cases a; cases b; simp_all, fun h => by subst h; exact ⟨rfl, rfl, rfl⟩⟩
instance : DecidableEq S32 := fun a b => decidable_of_iff (a.f0 = b.f0 ∧ a.f1 = b.f1) ⟨fun ⟨h1, h2⟩ => by cases a; cases b; simp_all, fun h => by subst h; exact ⟨rfl, rfl⟩⟩
def V5 : S30 := ⟨1, 5, { data := #[] }⟩
def V3 : S30 := ⟨3, 1, { data := #[] }⟩
def La : List S32 := [⟨{ data := #[98] }, V3⟩, ⟨{ data := #[97] }, V5⟩]
def Lb : List S32 := [⟨{ data := #[97] }, V5⟩, ⟨{ data := #[98] }, V3⟩]
def Lc : List S32 := [⟨{ data := #[97] }, V5⟩, ⟨{ data := #[97] }, V3⟩]
def Ld : List S32 := [⟨{ data := #[97] }, ⟨0, 0, { data := #[] }⟩⟩]
theorem mka : makeE La = 0 ∧ madeL La = Lb := ⟨by decide +kernel, by decide +kernel⟩
theorem mkc : makeE Lc = 8 ∧ madeL Lc = [] := ⟨by decide +kernel, by decide +kernel⟩
theorem mkd : makeE Ld = 1 ∧ madeL Ld = [] := ⟨by decide +kernel, by decide +kernel⟩
theorem rightb : rightE Lb = true := by decide +kernel
theorem righta : rightE La = false := by decide +kernel
theorem small_n {l : List S32} (h : l = La ∨ l = Lb ∨ l = Lc ∨ l = Ld) : ∀ x ∈ l, x.f0.size ≤ maxLen := by
  rcases h with rfl | rfl | rfl | rfl <;> intro x hx <;> simp only [La, Lb, Lc, Ld, List.mem_cons, List.not_mem_nil, or_false] at hx
  · rcases hx with rfl | rfl <;> decide
  · rcases hx with rfl | rfl <;> decide
  · rcases hx with rfl | rfl <;> decide
  · subst hx; decide
/-- event.Make at a list that is known -/
theorem kmake (A0 : Option Addr) (c0 n m : Nat) (l r : List S32) (e0 : Int) (hn : l.length = n) (hr : madeL l = r) (hm : r.length = m) (he : makeE l = e0) (w : World) (hr0 : Kd.C k32 w A0 l.length l) (hs : ∀ x ∈ l, x.f0.size ≤ maxLen) :
    Calls Try.prog 10 #[.slice A0 n c0] w fun e w' => ∃ A' c', e = .returned (.tuple #[.slice A' m c', .int .i64 e0]) ∧ m ≤ c' ∧ k32.C w' A' m r ∧ Below w.heap.size w w' := by
  subst hn; subst hr; subst hm; subst he
  refine (emake A0 c0 l w hr0 hs).mono ?_
  rintro e w' ⟨A', c', rfl, h1, _, h2, h3⟩
  exact ⟨A', c', rfl, h1, h2, h3⟩
set_option maxRecDepth 100000 in
set_option maxHeartbeats 2000000 in
theorem small_any (w : World) : Calls Try.prog 8 #[] w fun e w' => e = .returned (.bool true) ∧ Below w.heap.size w w' := by
  have HB0 := Aside0.mk (Below.refl w.heap.size w)
  go_enter Try.func8, Try.ntmps8
  obtain ⟨w0, hw0⟩ : ∃ x, x = w := ⟨_, rfl⟩
  go_upto_region 3 with fail
  rw [← hw0] at HB0 ⊢
  have HW0 := Aside0.mk hw0
  clear hw0
  have hX := (Below.refl w0.heap.size w0).alloc (Nat.le_refl _) (.cells #[.int .i64 1, .int .i64 5, .string { data := #[] }] 30 (0, 0))
  have hs1 : (w0.alloc (.cells #[.int .i64 1, .int .i64 5, .string { data := #[] }] 30 (0, 0))).heap.size = w0.heap.size + 1 := World.size_alloc _ _
  have hn := heap_alloc_new w0 (.cells #[.int .i64 1, .int .i64 5, .string { data := #[] }] 30 (0, 0))
  have HF1 := Aside0.mk hn
  clear hn
  have HB1 := Aside0.mk (HB0.out.trans ((hX).mono HB0.out.size))
  clear HB0
  obtain ⟨w1, hw⟩ : ∃ x, x = w0.alloc (.cells #[.int .i64 1, .int .i64 5, .string { data := #[] }] 30 (0, 0)) := ⟨_, rfl⟩
  rw [← hw] at HB1 HF1 hs1 ⊢
  clear hw hX
  have hX := (Below.refl w1.heap.size w1).alloc (Nat.le_refl _) (.cells #[.int .i64 3, .int .i64 1, .string { data := #[] }] 30 (0, 0))
  have hn := heap_alloc_new w1 (.cells #[.int .i64 3, .int .i64 1, .string { data := #[] }] 30 (0, 0))
  rw [hs1] at hn
  clear hs1
  have HW2 := Aside0.mk hn
  clear hn
  have HB2 := Aside0.mk (HB1.out.trans ((hX).mono HB1.out.size))
  have HF2 := Aside0.mk (vkeepE HF1.out hX)
  clear HB1 HF1
  obtain ⟨w2, hw⟩ : ∃ x, x = w1.alloc (.cells #[.int .i64 3, .int .i64 1, .string { data := #[] }] 30 (0, 0)) := ⟨_, rfl⟩
  rw [← hw] at HB2 HF2 HW2 ⊢
  clear hw hX
  obtain ⟨f0, f1, f2⟩ := cells3f HF2.out
  obtain ⟨g0, g1, g2⟩ := cells3f HW2.out
  go_wp2_with fail
  clear f0 f1 f2 g0 g1 g2
  have hX := (Below.refl w2.heap.size w2).alloc (Nat.le_refl _) (.cells #[.string { data := #[98] }, .int .i64 3, .int .i64 1, .string { data := #[] }, .string { data := #[97] }, .int .i64 1, .int .i64 5, .string { data := #[] }] 32 (0, 0))
  have HE := Aside0.mk (attrs_lit La (heap_alloc_new w2 (.cells #[.string { data := #[98] }, .int .i64 3, .int .i64 1, .string { data := #[] }, .string { data := #[97] }, .int .i64 1, .int .i64 5, .string { data := #[] }] 32 (0, 0))) (by decide))
  have HB3 := Aside0.mk (HB2.out.trans ((hX).mono HB2.out.size))
  have HF3 := Aside0.mk (vkeepE HF2.out hX)
  have HW3 := Aside0.mk (vkeepE HW2.out hX)
  clear HB2 HF2 HW2
  obtain ⟨w3, hw⟩ : ∃ x, x = w2.alloc (.cells #[.string { data := #[98] }, .int .i64 3, .int .i64 1, .string { data := #[] }, .string { data := #[97] }, .int .i64 1, .int .i64 5, .string { data := #[] }] 32 (0, 0)) := ⟨_, rfl⟩
  rw [← hw] at HB3 HF3 HW3 HE ⊢
  clear hw hX
  refine (kmake (some ⟨w2.heap.size, 0, none⟩) 2 2 2 La Lb 0 rfl mka.2 rfl mka.1 w3 HE.out (small_n (by simp))).mono ?_
  rintro e w4 ⟨Aa, ca, rfl, hc, hC, hX⟩
  have HB4 := Aside0.mk (HB3.out.trans ((hX).mono HB3.out.size))
  have HF4 := Aside0.mk (vkeepE HF3.out hX)
  have HW4 := Aside0.mk (vkeepE HW3.out hX)
  clear HB3 HF3 HW3
  clear hX HE
  have HA4 := Aside0.mk hC
  have HLA := Aside0.mk hc
  clear hc hC
  obtain ⟨f0, f1, f2⟩ := cells3f HF4.out
  obtain ⟨g0, g1, g2⟩ := cells3f HW4.out
  go_wp2_with fail
  clear f0 f1 f2 g0 g1 g2
  have hX := (Below.refl w4.heap.size w4).alloc (Nat.le_refl _) (.cells #[.string { data := #[97] }, .int .i64 1, .int .i64 5, .string { data := #[] }, .string { data := #[97] }, .int .i64 3, .int .i64 1, .string { data := #[] }] 32 (0, 0))
  have HE := Aside0.mk (attrs_lit Lc (heap_alloc_new w4 (.cells #[.string { data := #[97] }, .int .i64 1, .int .i64 5, .string { data := #[] }, .string { data := #[97] }, .int .i64 3, .int .i64 1, .string { data := #[] }] 32 (0, 0))) (by decide))
  have HB5 := Aside0.mk (HB4.out.trans ((hX).mono HB4.out.size))
  have HF5 := Aside0.mk (vkeepE HF4.out hX)
  have HW5 := Aside0.mk (vkeepE HW4.out hX)
  have HA5 := Aside0.mk (Kd.C_below HA4.out hX)
  clear HB4 HF4 HW4 HA4
  obtain ⟨w5, hw⟩ : ∃ x, x = w4.alloc (.cells #[.string { data := #[97] }, .int .i64 1, .int .i64 5, .string { data := #[] }, .string { data := #[97] }, .int .i64 3, .int .i64 1, .string { data := #[] }] 32 (0, 0)) := ⟨_, rfl⟩
  rw [← hw] at HB5 HF5 HW5 HA5 HE ⊢
  clear hw hX
  refine (kmake (some ⟨w4.heap.size, 0, none⟩) 2 2 0 Lc [] 8 rfl mkc.2 rfl mkc.1 w5 HE.out (small_n (by simp))).mono ?_
  rintro e w6 ⟨Ac, cc, rfl, hc, hC, hX⟩
  have HB6 := Aside0.mk (HB5.out.trans ((hX).mono HB5.out.size))
  have HF6 := Aside0.mk (vkeepE HF5.out hX)
  have HW6 := Aside0.mk (vkeepE HW5.out hX)
  have HA6 := Aside0.mk (Kd.C_below HA5.out hX)
  clear HB5 HF5 HW5 HA5
  clear hX HE
  clear hc hC
  obtain ⟨f0, f1, f2⟩ := cells3f HF6.out
  obtain ⟨g0, g1, g2⟩ := cells3f HW6.out
  go_wp2_with fail
  clear f0 f1 f2 g0 g1 g2
  have hX := (Below.refl w6.heap.size w6).alloc (Nat.le_refl _) (.cells #[.string { data := #[97] }, .int .i64 0, .int .i64 0, .string { data := #[] }] 32 (0, 0))
  have HE := Aside0.mk (attrs_lit Ld (heap_alloc_new w6 (.cells #[.string { data := #[97] }, .int .i64 0, .int .i64 0, .string { data := #[] }] 32 (0, 0))) (by decide))
  have HB7 := Aside0.mk (HB6.out.trans ((hX).mono HB6.out.size))
  have HF7 := Aside0.mk (vkeepE HF6.out hX)
  have HW7 := Aside0.mk (vkeepE HW6.out hX)
  have HA7 := Aside0.mk (Kd.C_below HA6.out hX)
  clear HB6 HF6 HW6 HA6
  obtain ⟨w7, hw⟩ : ∃ x, x = w6.alloc (.cells #[.string { data := #[97] }, .int .i64 0, .int .i64 0, .string { data := #[] }] 32 (0, 0)) := ⟨_, rfl⟩
  rw [← hw] at HB7 HF7 HW7 HA7 HE ⊢
  clear hw hX
  refine (kmake (some ⟨w6.heap.size, 0, none⟩) 1 1 0 Ld [] 1 rfl mkd.2 rfl mkd.1 w7 HE.out (small_n (by simp))).mono ?_
  rintro e w8 ⟨Ad, cd, rfl, hc, hC, hX⟩
  have HB8 := Aside0.mk (HB7.out.trans ((hX).mono HB7.out.size))
  have HF8 := Aside0.mk (vkeepE HF7.out hX)
  have HW8 := Aside0.mk (vkeepE HW7.out hX)
  have HA8 := Aside0.mk (Kd.C_below HA7.out hX)
  clear HB7 HF7 HW7 HA7
  clear hX HE
  clear hc hC
  go_wp2_with fail
  refine (event_Get.calls Aa ca Lb { data := #[98] } 3 1 { data := #[] } true w8 HA8.out HLA.out (by decide +kernel)).mono ?_
  rintro e w9 ⟨rfl, hX⟩
  have HB9 := Aside0.mk (HB8.out.trans ((hX).mono HB8.out.size))
  have HF9 := Aside0.mk (vkeepE HF8.out hX)
  have HW9 := Aside0.mk (vkeepE HW8.out hX)
  have HA9 := Aside0.mk (Kd.C_below HA8.out hX)
  clear HB8 HF8 HW8 HA8
  clear hX
  go_upto_region 7 with fail
  have hX := (Below.refl w9.heap.size w9).alloc (Nat.le_refl _) (.cells #[.int .i64 3, .int .i64 1, .string { data := #[] }] 30 (0, 0))
  have hn := heap_alloc_new w9 (.cells #[.int .i64 3, .int .i64 1, .string { data := #[] }] 30 (0, 0))
  have HX10 := Aside0.mk hn
  clear hn
  have HB10 := Aside0.mk (HB9.out.trans ((hX).mono HB9.out.size))
  have HF10 := Aside0.mk (vkeepE HF9.out hX)
  have HW10 := Aside0.mk (vkeepE HW9.out hX)
  have HA10 := Aside0.mk (Kd.C_below HA9.out hX)
  clear HB9 HF9 HW9 HA9
  obtain ⟨w10, hw⟩ : ∃ x, x = w9.alloc (.cells #[.int .i64 3, .int .i64 1, .string { data := #[] }] 30 (0, 0)) := ⟨_, rfl⟩
  rw [← hw] at HB10 HF10 HW10 HA10 HX10 ⊢
  clear hw hX
  go_wp2_with fail
  refine (event_Get.calls Aa ca Lb { data := #[99] } 0 0 { data := #[] } false w10 HA10.out HLA.out (by decide +kernel)).mono ?_
  rintro e w11 ⟨rfl, hX⟩
  have HB11 := Aside0.mk (HB10.out.trans ((hX).mono HB10.out.size))
  have HF11 := Aside0.mk (vkeepE HF10.out hX)
  have HW11 := Aside0.mk (vkeepE HW10.out hX)
  have HA11 := Aside0.mk (Kd.C_below HA10.out hX)
  have HX11 := Aside0.mk (vkeepE HX10.out hX)
  clear HB10 HF10 HW10 HA10 HX10
  clear hX
  go_upto_region 8 with fail
  have hX := (Below.refl w11.heap.size w11).alloc (Nat.le_refl _) (.cells #[.int .i64 0, .int .i64 0, .string { data := #[] }] 30 (0, 0))
  have HB12 := Aside0.mk (HB11.out.trans ((hX).mono HB11.out.size))
  have HF12 := Aside0.mk (vkeepE HF11.out hX)
  have HW12 := Aside0.mk (vkeepE HW11.out hX)
  have HA12 := Aside0.mk (Kd.C_below HA11.out hX)
  have HX12 := Aside0.mk (vkeepE HX11.out hX)
  clear HB11 HF11 HW11 HA11 HX11
  obtain ⟨w12, hw⟩ : ∃ x, x = w11.alloc (.cells #[.int .i64 0, .int .i64 0, .string { data := #[] }] 30 (0, 0)) := ⟨_, rfl⟩
  rw [← hw] at HB12 HF12 HW12 HA12 HX12 ⊢
  clear hw hX
  obtain ⟨f0, f1, f2⟩ := cells3f HF12.out
  obtain ⟨g0, g1, g2⟩ := cells3f HW12.out
  obtain ⟨x0, x1, x2⟩ := cells3f HX12.out
  go_wp2_with fail
  clear f0 f1 f2 g0 g1 g2 x0 x1 x2
  have hX := (Below.refl w12.heap.size w12).alloc (Nat.le_refl _) (.cells #[.string { data := #[97] }, .int .i64 1, .int .i64 5, .string { data := #[] }, .string { data := #[98] }, .int .i64 3, .int .i64 1, .string { data := #[] }] 32 (0, 0))
  have HE := Aside0.mk (attrs_lit Lb (heap_alloc_new w12 (.cells #[.string { data := #[97] }, .int .i64 1, .int .i64 5, .string { data := #[] }, .string { data := #[98] }, .int .i64 3, .int .i64 1, .string { data := #[] }] 32 (0, 0))) (by decide))
  have HB13 := Aside0.mk (HB12.out.trans ((hX).mono HB12.out.size))
  have HF13 := Aside0.mk (vkeepE HF12.out hX)
  have HW13 := Aside0.mk (vkeepE HW12.out hX)
  have HA13 := Aside0.mk (Kd.C_below HA12.out hX)
  have HX13 := Aside0.mk (vkeepE HX12.out hX)
  clear HB12 HF12 HW12 HA12 HX12
  obtain ⟨w13, hw⟩ : ∃ x, x = w12.alloc (.cells #[.string { data := #[97] }, .int .i64 1, .int .i64 5, .string { data := #[] }, .string { data := #[98] }, .int .i64 3, .int .i64 1, .string { data := #[] }] 32 (0, 0)) := ⟨_, rfl⟩
  rw [← hw] at HB13 HF13 HW13 HA13 HX13 HE ⊢
  clear hw hX
  refine (rosetteref05_Same.calls 9 Aa ca Lb (some ⟨w12.heap.size, 0, none⟩) 2 Lb true w13 HA13.out HLA.out HE.out (by decide) (by decide +kernel)).mono ?_
  rintro e w14 ⟨rfl, hD⟩
  have hX := drawn_below5 hD
  have HB14 := Aside0.mk (HB13.out.trans ((hX).mono HB13.out.size))
  have HF14 := Aside0.mk (vkeepE HF13.out hX)
  have HW14 := Aside0.mk (vkeepE HW13.out hX)
  have HA14 := Aside0.mk (Kd.C_below HA13.out hX)
  have HX14 := Aside0.mk (vkeepE HX13.out hX)
  clear HB13 HF13 HW13 HA13 HX13
  clear hD hX HE
  obtain ⟨f0, f1, f2⟩ := cells3f HF14.out
  obtain ⟨g0, g1, g2⟩ := cells3f HW14.out
  obtain ⟨x0, x1, x2⟩ := cells3f HX14.out
  go_wp2_with fail
  clear f0 f1 f2 g0 g1 g2 x0 x1 x2
  have hr := wrightE Aa ca Lb w14 HA14.out (small_n (by simp))
  rw [rightb] at hr
  refine hr.mono ?_
  clear hr
  rintro e w15 ⟨rfl, hX⟩
  have HB15 := Aside0.mk (HB14.out.trans ((hX).mono HB14.out.size))
  have HF15 := Aside0.mk (vkeepE HF14.out hX)
  have HW15 := Aside0.mk (vkeepE HW14.out hX)
  have HA15 := Aside0.mk (Kd.C_below HA14.out hX)
  have HX15 := Aside0.mk (vkeepE HX14.out hX)
  clear HB14 HF14 HW14 HA14 HX14
  clear hX
  obtain ⟨f0, f1, f2⟩ := cells3f HF15.out
  obtain ⟨g0, g1, g2⟩ := cells3f HW15.out
  obtain ⟨x0, x1, x2⟩ := cells3f HX15.out
  go_wp2_with fail
  clear f0 f1 f2 g0 g1 g2 x0 x1 x2
  have hX := (Below.refl w15.heap.size w15).alloc (Nat.le_refl _) (.cells #[.string { data := #[98] }, .int .i64 3, .int .i64 1, .string { data := #[] }, .string { data := #[97] }, .int .i64 1, .int .i64 5, .string { data := #[] }] 32 (0, 0))
  have HE := Aside0.mk (attrs_lit La (heap_alloc_new w15 (.cells #[.string { data := #[98] }, .int .i64 3, .int .i64 1, .string { data := #[] }, .string { data := #[97] }, .int .i64 1, .int .i64 5, .string { data := #[] }] 32 (0, 0))) (by decide))
  have HB16 := Aside0.mk (HB15.out.trans ((hX).mono HB15.out.size))
  have HF16 := Aside0.mk (vkeepE HF15.out hX)
  have HW16 := Aside0.mk (vkeepE HW15.out hX)
  have HA16 := Aside0.mk (Kd.C_below HA15.out hX)
  have HX16 := Aside0.mk (vkeepE HX15.out hX)
  clear HB15 HF15 HW15 HA15 HX15
  obtain ⟨w16, hw⟩ : ∃ x, x = w15.alloc (.cells #[.string { data := #[98] }, .int .i64 3, .int .i64 1, .string { data := #[] }, .string { data := #[97] }, .int .i64 1, .int .i64 5, .string { data := #[] }] 32 (0, 0)) := ⟨_, rfl⟩
  rw [← hw] at HB16 HF16 HW16 HA16 HX16 HE ⊢
  clear hw hX
  have hr := wrightE (some ⟨w15.heap.size, 0, none⟩) 2 La w16 HE.out (small_n (by simp))
  rw [righta] at hr
  refine hr.mono ?_
  clear hr
  rintro e w17 ⟨rfl, hX⟩
  have HB17 := Aside0.mk (HB16.out.trans ((hX).mono HB16.out.size))
  have HF17 := Aside0.mk (vkeepE HF16.out hX)
  have HW17 := Aside0.mk (vkeepE HW16.out hX)
  have HA17 := Aside0.mk (Kd.C_below HA16.out hX)
  have HX17 := Aside0.mk (vkeepE HX16.out hX)
  clear HB16 HF16 HW16 HA16 HX16
  clear hX
  go_wp2_with fail
  go_ret
  exact ⟨rfl, by rw [← HW0.out]; exact HB17.out⟩
end Go.Proofs.Ytmbpgebboppkmaa
end

section
-- Written by a program of this session (wip/tools/myprint.py), over the kit's print.
namespace Go.Proofs.Ytmbpgebboppkmaa.G
open Go.RowKit Go.Proofs.YtmbpgebboppkmaaW.PrintWords Go.Proofs.YtmbpgebboppkmaaW.PrintLast Go.Proofs.YtmbpgebboppkmaaW.PrintMore
attribute [local go_sem] max2_int min2_int max_two min_two max_three min_three max_four min_four   -- for this text's walks alone
set_option linter.unusedVariables false
set_option linter.unusedSimpArgs false

-- BY HAND
-- IMPORT YtmbpgebboppkmaaSmall05
def rosettelaw05_small.f : Option Bool := some true
theorem rosettelaw05_small.calls (r : Bool) (w : World) (h : rosettelaw05_small.f = some r) :
    Calls Try.prog 8 #[] w fun e w' => e = .returned (.bool r) ∧ Below w.heap.size w w' := by
  obtain rfl : true = r := Option.some.inj h
  exact small_any w

end Go.Proofs.Ytmbpgebboppkmaa.G
end

section
-- Written by a program of this session (wip/tools/myprint.py), over the kit's print.
namespace Go.Proofs.Ytmbpgebboppkmaa.G
open Go.RowKit Go.Proofs.YtmbpgebboppkmaaW.PrintWords Go.Proofs.YtmbpgebboppkmaaW.PrintLast Go.Proofs.YtmbpgebboppkmaaW.PrintMore
attribute [local go_sem] max2_int min2_int max_two min_two max_three min_three max_four min_four   -- for this text's walks alone
set_option linter.unusedVariables false
set_option linter.unusedSimpArgs false

/-! ### rosettelaw05_Few: function 9 -/
def rosettelaw05_Few.l0 : Nat → List (S32) → Int → Option (Bool)
  | 0, _, _ => none
  | k + 1, x0, x3 => if x3 < (x0.length : Int) then (if 0 ≤ x3 then (if (((rd_T32 x0 x3).f0).size : Int) > 100 then (some false) else (if (((rd_T32 x0 x3).f1.f2).size : Int) > 300 then (some false) else (rosettelaw05_Few.l0 k x0 (wrap64 (x3 + 1))))) else (none)) else (some (decide ((x0.length : Int) ≤ 40)))
def rosettelaw05_Few.f (k : Nat) (l0 : List (S32)) : Option (Bool) := rosettelaw05_Few.l0 k l0 0
theorem rosettelaw05_Few.mono_l : ∀ k, (∀ y0 y1, LeO (rosettelaw05_Few.l0 k y0 y1) (rosettelaw05_Few.l0 (k + 1) y0 y1))
  | 0 => fun _ _ r h => by simp [rosettelaw05_Few.l0] at h
  | k + 1 => by
    have ih0 := rosettelaw05_Few.mono_l k
    · intro y0 y1
      unfold rosettelaw05_Few.l0
      repeat' first
      | (with_reducible exact ih0 _ _)
      | (with_reducible exact LeO.refl _)
      | (with_reducible exact LeO.none _)
      | (with_reducible refine LeO.ite ?_ ?_)
      | (with_reducible refine LeO.bind ?_ (fun _ => ?_))
      | exact ih0 _ _
      | exact LeO.none _
      | refine LeO.ite ?_ ?_
      | refine LeO.bind ?_ (fun _ => ?_)
theorem rosettelaw05_Few.mono : ∀ a0 k, LeO (rosettelaw05_Few.f k a0) (rosettelaw05_Few.f (k + 1) a0) := by
  intro a0 k
  have ih0 := rosettelaw05_Few.mono_l k
  unfold rosettelaw05_Few.f
  repeat' first
      | (with_reducible exact ih0 _ _)
      | (with_reducible exact LeO.refl _)
      | (with_reducible exact LeO.none _)
      | (with_reducible refine LeO.ite ?_ ?_)
      | (with_reducible refine LeO.bind ?_ (fun _ => ?_))
      | exact ih0 _ _
      | exact LeO.none _
      | refine LeO.ite ?_ ?_
      | refine LeO.bind ?_ (fun _ => ?_)
set_option maxHeartbeats 8000000 in
set_option maxRecDepth 100000 in
theorem rosettelaw05_Few.calls (k : Nat) (A0 : Option Addr) (c0 : Nat) (l0 : List (S32)) (r : Bool) (w : World) (hr0 : Kd.C k32 w A0 l0.length l0) (hc0 : l0.length ≤ c0) (h : rosettelaw05_Few.f k l0 = some r) :
    Calls Try.prog 9 #[.slice A0 l0.length c0] w fun e w' => e = .returned (.bool r) ∧ Drawn0 w w' := by
  have HR0 := Aside0.mk hr0
  have HC0 := Aside0.mk hc0
  clear hr0 hc0
  have H : (rosettelaw05_Few.l0 k l0 0) = some r := h
  clear h
  have H' := Aside0.mk H
  clear H
  go_enter Try.func9, Try.ntmps9
  go_wp2
  go_loopg [3] k (fun kq v3 w' => ∃ (x3_1 : Int), v3 = .int .i64 x3_1 ∧ Aside0 (rosettelaw05_Few.l0 kq l0 x3_1 = some r) ∧ Aside0 (kq ≤ k) ∧ Drawn0 w w')
  case atStart => exact ⟨(0), (by first | rfl | (simp; done) | (simp [*]; done)), H', ⟨Nat.le_refl _⟩, by repeat (first | exact Drawn0.refl _ | apply Drawn0.step)⟩
  case round =>
    clear H'
    obtain ⟨x3_1, rfl, HA, HK1, ⟨m1, rfl⟩⟩ := hrel
    cases gk with
    | zero => exact absurd HA.out (by simp [rosettelaw05_Few.l0])
    | succ k1 =>
      have H := HA.out
      clear HA
      simp only [rosettelaw05_Few.l0] at H
      by_cases c2 : x3_1 < (l0.length : Int)
      · rw [if_pos c2] at H
        have c2b0 : decide (x3_1 < (l0.length : Int)) = true := decide_eq_true c2
        clear c2
        by_cases c3 : 0 ≤ x3_1
        · rw [if_pos c3] at H
          have c3b0 : decide (0 ≤ x3_1) = true := decide_eq_true c3
          clear c3
          by_cases c4 : (((rd_T32 l0 x3_1).f0).size : Int) > 100
          · rw [if_pos c4] at H
            have c4b0 : decide (100 < (((rd_T32 l0 x3_1).f0).size : Int)) = true := decide_eq_true c4
            have c4b1 : decide (100 < ((rd_T32 l0 x3_1).f0).size) = true := decide_eq_true (by omega)
            clear c4
            obtain rfl := Option.some.inj H
            have p111 : 0 ≤ (x3_1 : Int) := of_decide_eq_true (by first | (with_reducible assumption) | assumption)
            have q111 : x3_1 < (l0.length : Int) := of_decide_eq_true (by first | (with_reducible assumption) | assumption)
            obtain ⟨ad111, e111, hx111_0, hx111_1, hx111_2, hx111_3⟩ := at_T32 HR0.out x3_1 p111 q111
            cases e111
            replace p111 := eq_true p111
            replace q111 := eq_true q111
            go_wp2
            go_ret
            exact ⟨by first | rfl | (simp; done) | (simp [*]; done), by repeat (first | exact Drawn0.refl _ | apply Drawn0.step)⟩
          · rw [if_neg c4] at H
            have c4b0 : decide (100 < (((rd_T32 l0 x3_1).f0).size : Int)) = false := decide_eq_false c4
            have c4b1 : decide (100 < ((rd_T32 l0 x3_1).f0).size) = false := decide_eq_false (by omega)
            clear c4
            by_cases c5 : (((rd_T32 l0 x3_1).f1.f2).size : Int) > 300
            · rw [if_pos c5] at H
              have c5b0 : decide (300 < (((rd_T32 l0 x3_1).f1.f2).size : Int)) = true := decide_eq_true c5
              have c5b1 : decide (300 < ((rd_T32 l0 x3_1).f1.f2).size) = true := decide_eq_true (by omega)
              clear c5
              obtain rfl := Option.some.inj H
              have p111 : 0 ≤ (x3_1 : Int) := of_decide_eq_true (by first | (with_reducible assumption) | assumption)
              have q111 : x3_1 < (l0.length : Int) := of_decide_eq_true (by first | (with_reducible assumption) | assumption)
              obtain ⟨ad111, e111, hx111_0, hx111_1, hx111_2, hx111_3⟩ := at_T32 HR0.out x3_1 p111 q111
              cases e111
              replace p111 := eq_true p111
              replace q111 := eq_true q111
              have p112 : 0 ≤ (x3_1 : Int) := of_decide_eq_true (by first | (with_reducible assumption) | assumption)
              have q112 : x3_1 < (l0.length : Int) := of_decide_eq_true (by first | (with_reducible assumption) | assumption)
              obtain ⟨ad112, e112, hx112_0, hx112_1, hx112_2, hx112_3⟩ := at_T32 HR0.out x3_1 p112 q112
              obtain rfl : ad111 = ad112 := (by injection e112)
              replace p112 := eq_true p112
              replace q112 := eq_true q112
              go_wp2
              go_ret
              exact ⟨by first | rfl | (simp; done) | (simp [*]; done), by repeat (first | exact Drawn0.refl _ | apply Drawn0.step)⟩
            · rw [if_neg c5] at H
              have c5b0 : decide (300 < (((rd_T32 l0 x3_1).f1.f2).size : Int)) = false := decide_eq_false c5
              have c5b1 : decide (300 < ((rd_T32 l0 x3_1).f1.f2).size) = false := decide_eq_false (by omega)
              clear c5
              have H' := Aside0.mk H
              clear H
              have p111 : 0 ≤ (x3_1 : Int) := of_decide_eq_true (by first | (with_reducible assumption) | assumption)
              have q111 : x3_1 < (l0.length : Int) := of_decide_eq_true (by first | (with_reducible assumption) | assumption)
              obtain ⟨ad111, e111, hx111_0, hx111_1, hx111_2, hx111_3⟩ := at_T32 HR0.out x3_1 p111 q111
              cases e111
              replace p111 := eq_true p111
              replace q111 := eq_true q111
              have p112 : 0 ≤ (x3_1 : Int) := of_decide_eq_true (by first | (with_reducible assumption) | assumption)
              have q112 : x3_1 < (l0.length : Int) := of_decide_eq_true (by first | (with_reducible assumption) | assumption)
              obtain ⟨ad112, e112, hx112_0, hx112_1, hx112_2, hx112_3⟩ := at_T32 HR0.out x3_1 p112 q112
              obtain rfl : ad111 = ad112 := (by injection e112)
              replace p112 := eq_true p112
              replace q112 := eq_true q112
              go_wp2
              go_roundg k1
              case measure => have := HK1.out; omega
              case rel => exact ⟨(wrap64 (x3_1 + 1)), (by first | rfl | (simp; done) | (simp [*]; done)), H', ⟨by have := HK1.out; omega⟩, by repeat (first | exact Drawn0.refl _ | apply Drawn0.step)⟩
        · rw [if_neg c3] at H
          exact absurd H (by simp)
      · rw [if_neg c2] at H
        have c2b0 : decide (x3_1 < (l0.length : Int)) = false := decide_eq_false c2
        clear c2
        obtain rfl := Option.some.inj H
        go_wp2
        go_ret
        exact ⟨by first | rfl | (simp; done) | (simp [*]; done), by repeat (first | exact Drawn0.refl _ | apply Drawn0.step)⟩

end Go.Proofs.Ytmbpgebboppkmaa.G
end
