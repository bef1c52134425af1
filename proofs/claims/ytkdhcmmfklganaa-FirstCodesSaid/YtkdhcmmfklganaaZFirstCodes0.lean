import Derived.Test.YtkdhcmmfklganaaWWords
import Derived.Test.YtkdhcmmfklganaaWLast
import Derived.Laws.CopyOwn
import Derived.Laws.Tables
import Derived.Lib.SliceRun
import Derived.ArgAppend
import Derived.Lib.SlBytesConst
import Derived.Test.YtkdhcmmfklganaaProg
import Derived.Laws.BitsAllLaws
import Derived.Laws.DeepNot64
import Derived.Outline
import Derived.Below
import Derived.Deep.Draws
import Derived.Deep.AppendLies
import Derived.Maps.AppendAt
import Derived.OwnWalk
import Derived.Laws.BytesArg
import Derived.Laws.MakeOwn
import Derived.Laws.OwnMore
import Derived.Deep.OwnRows
import Derived.Tactics
import Derived.Lib.ConvBytes
import Derived.Laws.Slices
import Derived.WalkKit
import Derived.KernelRfl
import Derived.RowKit3
import Derived.Deep.LoopGhost
import Derived.Deep.QuietTactic
import Derived.BigQuiet
import Derived.WideLaws
import Derived.Deep.DeepCutAuto
import Derived.Deep.CutBlock
import Derived.Deep.RegionHeld3
import Derived.Laws.Rows
import Derived.Lib.AppendStr
import Derived.Laws.IdiomCopy
import Derived.OrdersHeld
import Derived.Laws.BitsLemmas
import Derived.RowKit
import Derived.Test.YtkdhcmmfklganaaWTab
import Derived.Test.YtkdhcmmfklganaaWEqStruct
import Derived.Test.YtkdhcmmfklganaaWRepsOne
import Derived.Test.YtkdhcmmfklganaaWGuard
import Derived.Deep.RegionHeld
section
namespace Go.Proofs.YtkdhcmmfklganaaW.PrintMore
open Go.RowKit Go.Proofs.YtkdhcmmfklganaaW.PrintWords
/-- 'max' and 'min' of two whole numbers. -/
theorem max2_int (k k' : IntKind) (x y : Int) : Builtin.max2 (.int k x) (.int k' y) = pure (.int k (if x < y then y else x)) := by simp only [Builtin.max2, gt_iff_lt]
theorem min2_int (k k' : IntKind) (x y : Int) : Builtin.min2 (.int k x) (.int k' y) = pure (.int k (if y < x then y else x)) := by simp only [Builtin.min2]
theorem max_two (ats : Array TypeId) (ty : TypeId) (a b : Value) : Builtin.max_ ats ty #[a, b] = (Builtin.max2 a b >>= fun s => pure s) := by simp only [Builtin.max_, List.foldlM_cons, List.foldlM_nil]
theorem min_two (ats : Array TypeId) (ty : TypeId) (a b : Value) : Builtin.min_ ats ty #[a, b] = (Builtin.min2 a b >>= fun s => pure s) := by simp only [Builtin.min_, List.foldlM_cons, List.foldlM_nil]
theorem max_three (ats : Array TypeId) (ty : TypeId) (a b c : Value) : Builtin.max_ ats ty #[a, b, c] = (Builtin.max2 a b >>= fun s => Builtin.max2 s c >>= fun s => pure s) := by simp only [Builtin.max_, List.foldlM_cons, List.foldlM_nil]
theorem min_three (ats : Array TypeId) (ty : TypeId) (a b c : Value) : Builtin.min_ ats ty #[a, b, c] = (Builtin.min2 a b >>= fun s => Builtin.min2 s c >>= fun s => pure s) := by simp only [Builtin.min_, List.foldlM_cons, List.foldlM_nil]
theorem max_four (ats : Array TypeId) (ty : TypeId) (a b c d : Value) : Builtin.max_ ats ty #[a, b, c, d] = (Builtin.max2 a b >>= fun s => Builtin.max2 s c >>= fun s => Builtin.max2 s d >>= fun s => pure s) := by simp only [Builtin.max_, List.foldlM_cons, List.foldlM_nil]
theorem min_four (ats : Array TypeId) (ty : TypeId) (a b c d : Value) : Builtin.min_ ats ty #[a, b, c, d] = (Builtin.min2 a b >>= fun s => Builtin.min2 s c >>= fun s => Builtin.min2 s d >>= fun s => pure s) := by simp only [Builtin.min_, List.foldlM_cons, List.foldlM_nil]
end Go.Proofs.YtkdhcmmfklganaaW.PrintMore
namespace Go.Proofs.YtkdhcmmfklganaaW.PrintWords
open Go.RowKit
section
variable {P : Program} {ops : Array Oper} {rest : List Oper} {o : Oper} {a : Act} {Q : Exit → Act → World → Prop} {W : World}
/-- The operation is a call of this function (a cheap look ahead of a dear step). -/
theorem gate_callee {f : FuncId} {xs : Array Operand} {ts : Array TypeId} (_ho : o.op = .call { callee := .value (.func f), args := xs, argTypes := ts }) (h : wpList P ops Q (o :: rest) a W) : wpList P ops Q (o :: rest) a W := h
/-- The operation is a builtin over these places. -/
theorem gate_builtin {b : Builtin} {xs : Array Operand} {ts : Array TypeId} (_ho : o.op = .call { callee := .builtin b, args := xs, argTypes := ts }) (h : wpList P ops Q (o :: rest) a W) : wpList P ops Q (o :: rest) a W := h
end
/-- A call's arguments, spelled otherwise. -/
theorem calls_of_args {P : Program} {f : FuncId} {args args' : Array Value} {w : World} {Q : Ending → World → Prop} (h : args = args') (hc : Calls P f args' w Q) : Calls P f args w Q := h ▸ hc
/-- The greater of two whole numbers, xs Go's max tells it. -/
def mx (a b : Int) : Int := if a < b then b else a
/-- The smaller of two whole numbers, xs Go's min tells it. -/
def mn (a b : Int) : Int := if b < a then b else a
/-- A shift to the left, xs Go tells it: a count beyond the width leaves nothing. -/
def shl (k : IntKind) (x y : Int) : Int := k.wrap (x * 2 ^ min y.toNat k.bits)
/-- A shift to the right: a count beyond the width leaves the sign. -/
def shr (k : IntKind) (x y : Int) : Int := x / 2 ^ min y.toNat k.bits
theorem shl_small {k : IntKind} {x y j : Int} (h : shl k x y = j) (hy : y ≤ k.bits) : k.wrap (x * 2 ^ y.toNat) = j := by rw [← h]; unfold shl; rw [Nat.min_eq_left (by omega)]
theorem shr_small {k : IntKind} {x y j : Int} (h : shr k x y = j) (hy : y ≤ k.bits) : x / 2 ^ y.toNat = j := by rw [← h]; unfold shr; rw [Nat.min_eq_left (by omega)]
end Go.Proofs.YtkdhcmmfklganaaW.PrintWords
end

section
set_option linter.unusedVariables false
set_option linter.unusedSimpArgs false
namespace Go.Proofs.Ytkdhcmmfklganaa
open Go.RowKit Go.Proofs.YtkdhcmmfklganaaW.PrintWords Go.Proofs.YtkdhcmmfklganaaW.PrintLast Go.Proofs.YtkdhcmmfklganaaW.PrintMore

theorem kd_own {W : World} {base e : Nat} {k : IntKind} {ok : Nat → Prop} {v : Value} {xs : List Int} (h : (Kd.int k).R e W base ok v xs) : W.ownsRow base e 1 v xs.length (nums k xs) := Kd.own_of_R h
theorem kd_R {W : World} {base e : Nat} {k : IntKind} {v : Value} {xs : List Int} (h : W.ownsRow base e 1 v xs.length (nums k xs)) : (Kd.int k).R e W base (fun _ => True) v xs := Kd.R_of_own h (fun _ _ => trivial)

section
variable {P : Program} {ops : Array Oper} {rest : List Oper} {o : Oper} {a : Act} {Q : Exit → Act → World → Prop}
/-- append(v, y), one whole number, to a row of the call's own -/
theorem app_num {w0 W : World} (base : Nat) (hgd : o.guard = none) (s x : Operand) (t e : TypeId) (k : IntKind) (bytes : Nat)
    (ho : o.op = .call { callee := .builtin .append, args := #[s, x], argTypes := #[t, t] })
    (ht : P.underlying t = some (.slice e)) (hinfo : (P.info? e).map (fun i => (i.zero, i.size, i.bytes)) = some (some (.int k 0), 1, bytes)) (hb0 : 0 < bytes)
    (v : Value) (xs : List Int) (y : Int) (hs : a.eval s = v) (hx : a.eval x = .slice (some ⟨W.heap.size, 0, none⟩) 1 1)
    (HO : (Kd.int k).R e W base (fun _ => True) v xs) (HB : Below base w0 W) (hbase : base ≤ W.heap.size) (hl : (xs.length + 1) * bytes ≤ 140737488355328)
    (h : ∀ v1 w1, Aside0 ((Kd.int k).R e w1 base (fun _ => True) v1 (xs ++ [y])) → Below base w0 w1 → wpList P ops Q rest (a.put o.dst v1) w1) :
    wpList P ops Q (o :: rest) a (W.alloc (.cells #[.int k y] e)) :=
  print_append_num base hgd s x t e k bytes ho ht hinfo hb0 v xs y hs hx (kd_own HO) HB hbase hl fun v1 w1 ho hB _ _ => h v1 w1 ⟨kd_R ho⟩ hB

/-- copy(dst, src) where dst is as long as src and was just made: what dst then is -/
theorem copy_made {w0 W : World} (base : Nat) (hgd : o.guard = none) (d s : Operand) (dT sT e : TypeId) (k : IntKind)
    (ho : o.op = .call { callee := .builtin .copy, args := #[d, s], argTypes := #[dT, sT] })
    (hu : P.underlying dT = some (.slice e)) (hsz : (P.info? e).map (·.size) = some 1)
    (g n dc C : Nat) (A : Option Addr) (c : Nat) (xs : List Int) (hn : xs.length = n)
    (hd : a.eval d = .slice (some ⟨g, 0, none⟩) n dc) (hs : a.eval s = .slice A n c)
    (hg : W.heap[g]? = some (.cells (madeCells #[.int k 0] C) e (0, 0))) (hC : dc = C) (hnC : n ≤ C) (hC2 : C ≤ maxLen)
    (hr : (Kd.int k).C W A n xs) (HB : Below base w0 W) (hbg : base ≤ g)
    (h : ∀ w1, Aside0 ((Kd.int k).R e w1 base (fun _ => True) (.slice (some ⟨g, 0, none⟩) n dc) xs) → Below base w0 w1 → wpList P ops Q rest (a.put o.dst (goInt n)) w1) :
    wpList P ops Q (o :: rest) a W := by
  subst hC
  have hreads := Kd.reads_of_C (d := (0 : Int)) hr
  have hlen : (nums k xs).length = n := by rw [nums_length]; exact hn
  have hcl : (madeCells #[.int k 0] dc).toList.length = dc := by simp [madeCells]
  refine wpList_copy_splice hgd d s dT sT ho e hu hsz (some ⟨g, 0, none⟩) A n dc n c hd hs g 0 (madeCells #[.int k 0] dc).toList e (by simpa using hg) (nums k xs) (by rw [hlen]; simp) ?_ (by rw [hlen, hcl]; omega) ?_ base w0 HB hbg ?_
  · intro h0
    refine ⟨rfl, ?_⟩
    obtain ⟨ad, hA, hc⟩ := hreads.2.2 (by omega)
    refine ⟨ad, hA, fun j v hj => ?_⟩
    simp only [nums, List.getElem?_map, Option.map_eq_some_iff] at hj
    obtain ⟨x, hx, rfl⟩ := hj
    have hjn : j < n := by have := (List.getElem?_eq_some_iff.1 hx).1; omega
    have := hc j hjn
    rw [List.getD_eq_getElem?_getD, hx] at this
    simpa using this
  · intro v hv
    simp only [nums, List.mem_map] at hv
    obtain ⟨x, _, rfl⟩ := hv
    rfl
  · intro w1 H1 hB1
    rw [hlen]
    refine h w1 ⟨kd_R ⟨by rw [hlen, hn]; simp, .inr ⟨g, dc, _, by rw [hn], hbg, H1.out, by omega, hC2, ?_, ?_⟩⟩⟩ hB1
    · have := length_splice (madeCells #[.int k 0] dc).toList 0 (nums k xs) (by rw [hlen, hcl]; omega)
      simp only [List.size_toArray]
      rw [this, hcl, Nat.mul_one]
    · simp only [splice, List.take_zero, List.nil_append, Nat.zero_add]
      rw [Nat.mul_one, List.take_append_of_le_length (by rw [hlen, hn]; exact Nat.le_refl _), List.take_of_length_le (by rw [hlen, hn]; exact Nat.le_refl _)]
end

/-- make([]T, n, c) of whole numbers -/
theorem make_cap {P : Program} (t e : TypeId) (k : IntKind) (bytes : Nat) (ht : P.underlying t = some (.slice e)) (hinfo : (P.info? e).map (fun i => (i.zero, i.size, i.bytes)) = some (some (.int k 0), 1, bytes))
    (n c : Int) (hn : 0 ≤ n) (hnc : n ≤ c) (hb : (bytes : Int) * c ≤ 281474976710656) (hc : c ≤ 9223372036854775807) (W : World) :
    (Instr.makeSlice t (.int .i64 n) (.int .i64 c)).run P W = .ok (.slice (some ⟨W.heap.size, 0, none⟩) n.toNat c.toNat) (W.alloc (.cells (madeCells #[.int k 0] c.toNat) e)) := by
  obtain ⟨i0, hi, hz⟩ := Option.map_eq_some_iff.1 hinfo
  simp only [Prod.mk.injEq] at hz
  obtain ⟨hz0, hz1, hz2⟩ := hz
  have h := run_make (P := P) (w := W) t e i0 (.int k 0) ht hi hz0 .i64 .i64 n c hn hnc (by rw [hz2]; exact hb) hc
  rw [hz1, Nat.mul_one] at h
  simpa [Value.cells] using h

theorem pow_min8 (n : Nat) : (2 : Int) ^ min n 8 % 256 = 2 ^ n % 256 := by
  by_cases h : n ≤ 8
  · rw [Nat.min_eq_left h]
  · rw [Nat.min_eq_right (by omega)]
    obtain ⟨m, rfl⟩ : ∃ m, n = 8 + m := ⟨n - 8, by omega⟩
    rw [Int.pow_add, show (2 : Int) ^ 8 = 256 from rfl, Int.mul_emod_right]; rfl
/-- a literal's cells, just laid -/
theorem lit_C (W : World) (e : TypeId) (k : IntKind) (xs : List Int) (hl : xs.length ≤ 9223372036854775807) (fr : Nat × Nat := (0, 0)) : (Kd.int k).C (W.alloc (.cells (nums k xs).toArray e fr)) (some ⟨W.heap.size, 0, none⟩) xs.length xs := by
  refine Kd.C_of_reads (d := (0 : Int)) ⟨rfl, hl, fun _ => ⟨_, rfl, fun j hj => ?_⟩⟩
  have hadd : (⟨W.heap.size, 0, none⟩ : Addr).add j = ⟨W.heap.size, j, none⟩ := add_plain _ _
  rw [hadd, cell_of_row _ _ _ _ _ _ (heap_alloc_new W _)]
  simp [nums, hj, List.getD_eq_getElem?_getD]
theorem nil_C (W : World) (k : IntKind) : (Kd.int k).C W none 0 ([] : List Int) := Kd.C_nil _ _
/-- what is owned reads -/
theorem own_C {W : World} {base e : Nat} {k : IntKind} {ok : Nat → Prop} {v : Value} {xs : List Int} (h : (Kd.int k).R e W base ok v xs) : ∃ A c, v = .slice A xs.length c ∧ xs.length ≤ c ∧ (Kd.int k).C W A xs.length xs := Kd.R_reads h

/-- a slice that is the call's own, or one without spare room that only reads: what is appended lies in memory of the call's own -/
def Outs (k : IntKind) (e : Nat) (W : World) (base : Nat) (v : Value) (xs : List Int) : Prop :=
  (Kd.int k).R e W base (fun _ => True) v xs ∨ (∃ A, v = .slice A xs.length xs.length ∧ (Kd.int k).C W A xs.length xs ∧ (A = none → xs.length = 0))
section
variable {P : Program} {ops : Array Oper} {rest : List Oper} {o : Oper} {a : Act} {Q : Exit → Act → World → Prop}
theorem app_outs {w0 W : World} (base : Nat) (hgd : o.guard = none) (s x : Operand) (t e : TypeId) (k : IntKind) (bytes : Nat)
    (ho : o.op = .call { callee := .builtin .append, args := #[s, x], argTypes := #[t, t] })
    (ht : P.underlying t = some (.slice e)) (hinfo : (P.info? e).map (fun i => (i.zero, i.size, i.bytes)) = some (some (.int k 0), 1, bytes)) (hb0 : 0 < bytes)
    (v : Value) (xs : List Int) (y : Int) (hs : a.eval s = v) (hx : a.eval x = .slice (some ⟨W.heap.size, 0, none⟩) 1 1)
    (HO : Outs k e W base v xs) (HB : Below base w0 W) (hbase : base ≤ W.heap.size) (hl : (xs.length + 1) * bytes ≤ 140737488355328)
    (h : ∀ v1 w1, Aside0 ((Kd.int k).R e w1 base (fun _ => True) v1 (xs ++ [y])) → Below base w0 w1 → wpList P ops Q rest (a.put o.dst v1) w1) :
    wpList P ops Q (o :: rest) a (W.alloc (.cells #[.int k y] e)) := by
  rcases HO with HO | ⟨A, rfl, hC, hn⟩
  · exact app_num base hgd s x t e k bytes ho ht hinfo hb0 v xs y hs hx HO HB hbase hl h
  · obtain ⟨i0, hi, hzz⟩ := Option.map_eq_some_iff.1 hinfo
    simp only [Prod.mk.injEq] at hzz
    obtain ⟨hz0, hz1, hz2⟩ := hzz
    have hlen : xs.length + 1 ≤ 140737488355328 := Nat.le_trans (Nat.le_mul_of_pos_right _ hb0) hl
    have hC2 := Kd.C_alloc hC (.cells #[.int k y] e)
    refine wpList_append_grows (W.alloc (.cells #[.int k y] e)) hgd s x t ho e i0 (.int k 0) 1 bytes ht hi hz0 hz1 hz2 rfl (by decide) A xs.length xs.length (nums k xs) hs (fun hA => ⟨hn hA, hn hA⟩) (by rw [nums_length, Nat.mul_one]) ?_ ⟨W.heap.size, 0, none⟩ 1 1 [.int k y] hx rfl
      (World.news_of_block (cs := #[.int k y]) (t := e) (fr := (0, 0)) (heap_alloc_new W _)) (by simp [Value.oneCell']) (by omega) (by simp only [maxLen]; omega) hl ?_
    · rintro b rfl j u hj
      simp only [nums, List.getElem?_map, Option.map_eq_some_iff] at hj
      obtain ⟨z, hz, rfl⟩ := hj
      obtain ⟨_, _, hr⟩ := Kd.reads_of_C (d := (0 : Int)) hC2
      have hjl := (List.getElem?_eq_some_iff.1 hz).1
      obtain ⟨ad, e1, hc⟩ := hr (by omega)
      cases e1
      have := hc j hjl
      rw [List.getD_eq_getElem?_getD, hz] at this
      simpa using this
    · intro v1 w1 ho1 hg1
      refine h v1 w1 ⟨kd_R ?_⟩ ((HB.alloc hbase _).grown hg1 (by simp; omega) (fun k hk => by cases hk))
      have h2 : w1.ownsRow (W.alloc (.cells #[.int k y] e)).heap.size e 1 v1 (xs ++ [y]).length (nums k (xs ++ [y])) := by
        rw [nums_append, List.length_append]; exact ho1
      exact own_weaken h2 (by simp; omega)
end
theorem outs_below {k : IntKind} {e : Nat} {W W1 : World} {base : Nat} {v : Value} {xs : List Int} (h : Outs k e W base v xs) (hb : Below W.heap.size W W1) : Outs k e W1 base v xs := by
  rcases h with h | ⟨A, rfl, hC, hn⟩
  · exact .inl (Kd.R_below h hb)
  · exact .inr ⟨A, rfl, Kd.C_below hC hb, hn⟩
end Go.Proofs.Ytkdhcmmfklganaa
end

section
set_option linter.unusedVariables false
set_option linter.unusedSimpArgs false
set_option autoImplicit false
namespace Go.Proofs.Ytkdhcmmfklganaa
open Go.RowKit Go.Proofs.YtkdhcmmfklganaaW.PrintWords Go.Proofs.YtkdhcmmfklganaaW.PrintLast Go.Proofs.YtkdhcmmfklganaaW.PrintMore

/-- the bytes that a slice tells, in blocks of which S tells -/
def HeldB (w : World) (S : Nat → Prop) (A : Option Addr) (l : List Int) : Prop :=
  0 < l.length → ∃ ad, A = some ad ∧ S ad.block ∧ ∀ j, j < l.length → w.cell? (ad.add j) = some (.int .u8 (rd l j))
theorem lt_of_heap {w : World} {g : Nat} {o : Obj} (h : w.heap[g]? = some o) : g < w.heap.size := (Array.getElem?_eq_some_iff.1 h).1
theorem HeldB.keep {w w' : World} {S : Nat → Prop} {A : Option Addr} {l : List Int} (h : HeldB w S A l) (hk : ∀ k, k < w.heap.size → S k → w'.heap[k]? = w.heap[k]?) : HeldB w' S A l := by
  intro hl
  obtain ⟨ad, rfl, hS, hc⟩ := h hl
  refine ⟨ad, rfl, hS, fun j hj => ?_⟩
  have h1 := hc j hj
  have hlt := World.block_lt_of_cell? w _ h1
  have hb : (ad.add j).block = ad.block := add_block _ _
  rw [World.cell?_of_block (w := w) (by rw [hb]; exact hk _ (by rwa [hb] at hlt) hS)]
  exact h1
theorem HeldB.C {w : World} {S : Nat → Prop} {A : Option Addr} {l : List Int} (h : HeldB w S A l) (hl : l.length ≤ 9223372036854775807) : (Kd.int .u8).C w A l.length l :=
  Kd.C_of_reads (d := (0 : Int)) ⟨rfl, hl, fun h0 => by obtain ⟨ad, rfl, _, hc⟩ := h h0; exact ⟨ad, rfl, fun j hj => by have := hc j hj; simpa [rd] using this⟩⟩
theorem HeldB.of_C {w : World} {S : Nat → Prop} {A : Option Addr} {l : List Int} (h : (Kd.int .u8).C w A l.length l) (hS : ∀ ad, A = some ad → 0 < l.length → S ad.block) : HeldB w S A l := by
  intro h0
  obtain ⟨_, _, hr⟩ := Kd.reads_of_C (d := (0 : Int)) h
  obtain ⟨ad, rfl, hc⟩ := hr h0
  exact ⟨ad, rfl, hS ad rfl h0, fun j hj => by have := hc j hj; simpa [rd] using this⟩

theorem held_own {W : World} {base e : Nat} {ok : Nat → Prop} {v : Value} {xs : List Int} (h : (Kd.int .u8).R e W base ok v xs) :
    ∃ A c, v = .slice A xs.length c ∧ xs.length ≤ c ∧ c ≤ 9223372036854775807 ∧ HeldB W (fun k => base ≤ k ∧ k < W.heap.size) A xs ∧ (Kd.int .u8).C W A xs.length xs := by
  obtain ⟨A, c, rfl, hc, hC⟩ := own_C h
  obtain ⟨_, ho⟩ := kd_own h
  rcases ho with ⟨h1, h2⟩ | ⟨g, cap, cur, h1, h2, h3, h4, h5, h6, h7⟩
  · simp only [Value.slice.injEq] at h1
    obtain ⟨rfl, _, rfl⟩ := h1
    exact ⟨none, 0, rfl, by omega, by omega, fun h0 => absurd h0 (by omega), hC⟩
  · cases h1
    refine ⟨_, _, rfl, hc, by simpa [maxLen] using h5, HeldB.of_C hC ?_, hC⟩
    rintro ad hA _
    cases hA
    exact ⟨h2, lt_of_heap h3⟩
theorem HeldB.below {w w' : World} {S : Nat → Prop} {A : Option Addr} {l : List Int} (h : HeldB w S A l) (hb : Below w.heap.size w w') : HeldB w' S A l := h.keep fun k hk _ => hb.block k hk
theorem HeldB.grown {w w' : World} {S : Nat → Prop} {A : Option Addr} {l : List Int} {r : Nat} (h : HeldB w S A l) (hb : w.grownBy w' (some r)) (h2 : ¬ S r) : HeldB w' S A l :=
  h.keep fun k hk hs => hb.block k hk (fun e => by cases e; exact h2 hs)
theorem HeldB.low {w : World} {A : Option Addr} {l : List Int} (h : (Kd.int .u8).C w A l.length l) : HeldB w (fun k => k < w.heap.size) A l := by
  refine HeldB.of_C h ?_
  rintro ad rfl h0
  obtain ⟨_, _, hr⟩ := Kd.reads_of_C (d := (0 : Int)) h
  obtain ⟨ad', e, hc⟩ := hr h0
  cases e
  have := World.block_lt_of_cell? _ _ (hc 0 h0)
  rwa [add_block] at this
theorem strA {w : World} {A : Option Addr} {l : List Int} (h : (Kd.int .u8).C w A l.length l) (c : Nat) : (convert 26 9 (.slice A l.length c)).run Try.prog w = .ok (.string (strOfNums l)) w :=
  Kd.C_string (P := Try.prog) (A := A) (c := c) Try.underlying26 Try.underlying5 Try.underlying9 h
theorem below_of_grown {w0 a b : World} {g : Nat} (h : Below w0.heap.size w0 a) (k : a.grownBy b (some g)) (hg : w0.heap.size ≤ g) : Below w0.heap.size w0 b :=
  h.grown k h.size (fun k hk => by cases hk; exact hg)
theorem below_via {w W W' : World} (h : Below W.heap.size W W') (h0 : Below w.heap.size w W) : Below w.heap.size w W' := h0.trans (h.mono h0.size)
end Go.Proofs.Ytkdhcmmfklganaa
end

section
/- a reader of bytes: what is left, and the error; where the bytes lie (S) -/
set_option linter.unusedVariables false
set_option linter.unusedSimpArgs false
set_option autoImplicit false
namespace Go.Proofs.Ytkdhcmmfklganaa
open Go.RowKit Go.Proofs.YtkdhcmmfklganaaW.PrintWords Go.Proofs.YtkdhcmmfklganaaW.PrintLast Go.Proofs.YtkdhcmmfklganaaW.PrintMore

/-! ### bytes as numbers -/
def u8s (l : List Int) : Prop := ∀ x ∈ l, 0 ≤ x ∧ x < 256
instance (l : List Int) : Decidable (u8s l) := inferInstanceAs (Decidable (∀ x ∈ l, 0 ≤ x ∧ x < 256))
theorem rd_u8 {l : List Int} (h : u8s l) (k : Nat) (hk : k < l.length) : 0 ≤ rd l k ∧ rd l k < 256 := by
  have := h (l[k]) (List.getElem_mem hk)
  simpa [rd, List.getD_eq_getElem?_getD, hk] using this
theorem u8s_drop {l : List Int} (h : u8s l) (n : Nat) : u8s (l.drop n) := fun x hx => h x (List.mem_of_mem_drop hx)
theorem u8s_take {l : List Int} (h : u8s l) (n : Nat) : u8s (l.take n) := fun x hx => h x (List.mem_of_mem_take hx)
theorem u8s_nil : u8s [] := fun x hx => by cases hx
theorem u8s_append {a b : List Int} : u8s (a ++ b) ↔ u8s a ∧ u8s b := by
  unfold u8s
  constructor
  · intro h; exact ⟨fun x hx => h x (List.mem_append_left _ hx), fun x hx => h x (List.mem_append_right _ hx)⟩
  · rintro ⟨h1, h2⟩ x hx
    rcases List.mem_append.1 hx with h | h
    · exact h1 x h
    · exact h2 x h

structure Sc where
  l : List Int
  e : Int
/-- the next n bytes -/
def Sc.take (s : Sc) (n : Nat) : List Int × Sc := if s.e = 0 then (if s.l.length < n then ([], ⟨s.l, 2⟩) else (s.l.take n, ⟨s.l.drop n, 0⟩)) else ([], s)
def big : List Int → Int → Int
  | [], n => n
  | c :: l, n => big l (256 * n + c)
def Sc.num (s : Sc) (n : Nat) : Int × Sc := (big (s.take n).1 0, (s.take n).2)
def Sc.fail (s : Sc) (e : Int) : Sc := if s.e = 0 then ⟨s.l, e⟩ else s
def Sc.count (s : Sc) (most : Int) : Int × Sc := if (s.num 1).1 > most then (0, (s.num 1).2.fail 4) else s.num 1
def Sc.endE (s : Sc) : Int := if s.e = 0 ∧ 0 < s.l.length then 5 else s.e
structure Rdr (T : Nat) (S : Nat → Prop) (w : World) (g : Nat) (s : Sc) : Prop where
  u8 : u8s s.l
  ne : ¬ S g
  short : s.l.length ≤ 140737488355328
  wide : -9223372036854775808 ≤ s.e ∧ s.e < 9223372036854775808
  mem : ∃ A c, w.heap[g]? = some (.cells #[.slice A s.l.length c, .int .i64 s.e] T (0, 0)) ∧ s.l.length ≤ c ∧ c ≤ 9223372036854775807 ∧ HeldB w S A s.l
theorem Rdr.keep {T : Nat} {S : Nat → Prop} {w w' : World} {g : Nat} {s : Sc} (h : Rdr T S w g s) (hk : ∀ k, k < w.heap.size → (k = g ∨ S k) → w'.heap[k]? = w.heap[k]?) : Rdr T S w' g s := by
  obtain ⟨h1, h3, h4, h5, A, c, h6, h7, h8, h9⟩ := h
  exact ⟨h1, h3, h4, h5, A, c, by rw [hk g (lt_of_heap h6) (.inl rfl)]; exact h6, h7, h8, h9.keep fun k hl hs => hk k hl (.inr hs)⟩
theorem Rdr.below {T : Nat} {S : Nat → Prop} {w w' : World} {g : Nat} {s : Sc} (h : Rdr T S w g s) (hb : Below w.heap.size w w') : Rdr T S w' g s := h.keep fun k hk _ => hb.block k hk
theorem Rdr.grown {T : Nat} {S : Nat → Prop} {w w' : World} {g r : Nat} {s : Sc} (h : Rdr T S w g s) (hb : w.grownBy w' (some r)) (h1 : g ≠ r) (h2 : ¬ S r) : Rdr T S w' g s :=
  h.keep fun k hk hs => hb.block k hk (fun e => by cases e; rcases hs with h | h; exact h1 h.symm; exact h2 h)
theorem Rdr.lt {T : Nat} {S : Nat → Prop} {w : World} {g : Nat} {s : Sc} (h : Rdr T S w g s) : g < w.heap.size := by
  obtain ⟨_, _, _, _, A, c, h6, _⟩ := h
  exact lt_of_heap h6
theorem Rdr.mono {T : Nat} {S S' : Nat → Prop} {w : World} {g : Nat} {s : Sc} (h : Rdr T S w g s) (hS : ∀ k, S k → S' k) (hg : ¬ S' g) : Rdr T S' w g s := by
  obtain ⟨h1, h3, h4, h5, A, c, h6, h7, h8, h9⟩ := h
  exact ⟨h1, hg, h4, h5, A, c, h6, h7, h8, fun hl => by obtain ⟨ad, a, b, d⟩ := h9 hl; exact ⟨ad, a, hS _ b, d⟩⟩

theorem grown_set (w : World) (g j : Nat) (v : Value) : w.grownBy (w.setCell ⟨g, j, none⟩ v) (some g) :=
  ⟨rfl, rfl, rfl, by simp [World.setCell], fun k hk hne => Below.heap_setCell _ _ _ _ (fun e => hne (by rw [e]))⟩
theorem grown_refl (w : World) (r : Option Nat) : w.grownBy w r := ⟨rfl, rfl, rfl, Nat.le_refl _, fun _ _ _ => rfl⟩
theorem grown_trans {a b c : World} {r : Option Nat} (h : a.grownBy b r) (k : b.grownBy c r) : a.grownBy c r :=
  ⟨k.os.trans h.os, k.tape.trans h.tape, k.output.trans h.output, Nat.le_trans h.size k.size, fun i hi hn => (k.block i (Nat.lt_of_lt_of_le hi h.size) hn).trans (h.block i hi hn)⟩
/-- the cells of a scan, as the walk asks them -/
theorem Rdr.cells {T : Nat} {S : Nat → Prop} {w : World} {g : Nat} {s : Sc} (h : Rdr T S w g s) : ∃ A c, w.heap[g]? = some (.cells #[.slice A s.l.length c, .int .i64 s.e] T (0, 0)) ∧ s.l.length ≤ c ∧ c ≤ 9223372036854775807 ∧ HeldB w S A s.l ∧
    w.cell? ⟨g, 0, none⟩ = some (.slice A s.l.length c) ∧ w.cell? ⟨g, 1, none⟩ = some (.int .i64 s.e) ∧ w.frozen? ⟨g, 0, none⟩ = false ∧ w.frozen? ⟨g, 1, none⟩ = false := by
  obtain ⟨A, c, h6, h7, h8, h9⟩ := h.mem
  exact ⟨A, c, h6, h7, h8, h9, by rw [cell_of_row _ _ _ _ _ _ h6]; rfl, by rw [cell_of_row _ _ _ _ _ _ h6]; rfl, frozen_of_row _ _ _ _ _ h6, frozen_of_row _ _ _ _ _ h6⟩
theorem heldB_set {w : World} {S : Nat → Prop} {A : Option Addr} {l : List Int} {g : Nat} (h : HeldB w S A l) (hg : ¬ S g) (j : Nat) (v : Value) : HeldB (w.setCell ⟨g, j, none⟩ v) S A l :=
  h.keep fun k _ hS => Below.heap_setCell _ _ _ _ (fun e => hg (by rw [← show k = g from e]; exact hS))
/-- the scan goes on: the slice is cut at its begin -/
theorem heldB_drop {w : World} {S : Nat → Prop} {A : Option Addr} {l : List Int} (h : HeldB w S A l) (m c : Nat) (hm : m ≤ l.length) (hc : l.length ≤ c) : HeldB w S (if c = m then A else A.map (·.add m)) (l.drop m) := by
  intro hl
  rw [List.length_drop] at hl
  obtain ⟨ad, rfl, hS, hcell⟩ := h (by omega)
  rw [if_neg (by omega)]
  refine ⟨ad.add m, rfl, by rw [add_block]; exact hS, fun j hj => ?_⟩
  rw [List.length_drop] at hj
  have h1 := hcell (m + j) (by omega)
  rw [add_add, h1]
  congr 2
  simp only [rd, Int.toNat_natCast, List.getD_eq_getElem?_getD, List.getElem?_drop]
theorem add_pos (ad : Addr) (m : Nat) (hm : 0 < m) : ad.add m = ⟨ad.block, ad.off + m, none⟩ := by unfold Addr.add; rw [if_neg (by omega)]
theorem Rdr.dropped {T : Nat} {S : Nat → Prop} {w : World} {g : Nat} {s : Sc} (h : Rdr T S w g s) (m : Nat) (hm : m ≤ s.l.length) {A : Option Addr} {c : Nat} (hb : w.heap[g]? = some (.cells #[.slice A s.l.length c, .int .i64 s.e] T (0, 0))) (hc : s.l.length ≤ c) (hc2 : c ≤ 9223372036854775807) (hh : HeldB w S A s.l) :
    Rdr T S (w.setCell ⟨g, 0, none⟩ (.slice (if c = m then A else A.map (·.add m)) (s.l.length - m) (c - m))) g ⟨s.l.drop m, s.e⟩ := by
  obtain ⟨h1, h3, h4, h5, _⟩ := h
  refine ⟨u8s_drop h1 m, h3, by simp; omega, h5, _, c - m, ?_, by simp; omega, by omega, heldB_set (heldB_drop hh m c hm hc) h3 0 _⟩
  rw [heap_setCell_same _ _ _ _ _ _ hb, List.length_drop]; rfl
theorem Rdr.dropped_a {T : Nat} {S : Nat → Prop} {w : World} {g : Nat} {s : Sc} (h : Rdr T S w g s) (m : Nat) (hm : m ≤ s.l.length) {ad : Addr} {c : Nat} (hb : w.heap[g]? = some (.cells #[.slice (some ad) s.l.length c, .int .i64 s.e] T (0, 0))) (hc : s.l.length ≤ c) (hc2 : c ≤ 9223372036854775807) (hh : HeldB w S (some ad) s.l) (hne : c ≠ m) :
    Rdr T S (w.setCell ⟨g, 0, none⟩ (.slice (some (ad.add m)) (s.l.length - m) (c - m))) g ⟨s.l.drop m, s.e⟩ := by
  have := h.dropped m hm hb hc hc2 hh
  rwa [if_neg hne] at this
theorem Rdr.dropped_b {T : Nat} {S : Nat → Prop} {w : World} {g : Nat} {s : Sc} (h : Rdr T S w g s) (m : Nat) (hm : m ≤ s.l.length) {A : Option Addr} {c : Nat} (hb : w.heap[g]? = some (.cells #[.slice A s.l.length c, .int .i64 s.e] T (0, 0))) (hc : s.l.length ≤ c) (hc2 : c ≤ 9223372036854775807) (hh : HeldB w S A s.l) (hne : c = m) :
    Rdr T S (w.setCell ⟨g, 0, none⟩ (.slice A (s.l.length - m) 0)) g ⟨s.l.drop m, s.e⟩ := by
  have := h.dropped m hm hb hc hc2 hh
  rwa [if_pos hne, show c - m = 0 by omega] at this

/-- the error is stored -/
theorem Rdr.set_err {T : Nat} {S : Nat → Prop} {w : World} {g : Nat} {s : Sc} (h : Rdr T S w g s) (e : Int) (he : -9223372036854775808 ≤ e ∧ e < 9223372036854775808) : Rdr T S (w.setCell ⟨g, 1, none⟩ (.int .i64 e)) g ⟨s.l, e⟩ := by
  obtain ⟨h1, h3, h4, h5, A, c, h6, h7, h8, h9⟩ := h
  exact ⟨h1, h3, h4, he, A, c, by rw [heap_setCell_same _ _ _ _ _ _ h6]; rfl, h7, h8, heldB_set h9 h3 1 _⟩
theorem HeldB.mono {w : World} {S S' : Nat → Prop} {A : Option Addr} {l : List Int} (h : HeldB w S A l) (hS : ∀ k, S k → S' k) : HeldB w S' A l := by
  intro h0
  obtain ⟨ad, h1, h2, h3⟩ := h h0
  exact ⟨ad, h1, hS _ h2, h3⟩
theorem HeldB.take {w : World} {S : Nat → Prop} {A : Option Addr} {l : List Int} (h : HeldB w S A l) (k : Nat) : HeldB w S A (l.take k) := by
  intro h0
  rw [List.length_take] at h0
  obtain ⟨ad', e1, e2, e3⟩ := h (by omega)
  refine ⟨ad', e1, e2, fun j hj => ?_⟩
  rw [List.length_take] at hj
  have e4 := e3 j (by omega)
  rw [e4]
  congr 2
  have e7 : ((j : Nat) : Int).toNat = j := by omega
  simp only [rd, List.getD_eq_getElem?_getD, e7, List.getElem?_take, show j < k by omega, if_true]
end Go.Proofs.Ytkdhcmmfklganaa
end

section
/- the readers of images, walked: take, count, numbers -/
set_option linter.unusedVariables false
set_option linter.unusedSimpArgs false
set_option autoImplicit false
namespace Go.Proofs.Ytkdhcmmfklganaa
open Go.RowKit Go.Proofs.YtkdhcmmfklganaaW.PrintWords Go.Proofs.YtkdhcmmfklganaaW.PrintLast Go.Proofs.YtkdhcmmfklganaaW.PrintMore

theorem Sc.take_u8s {s : Sc} (h : u8s s.l) (n : Nat) : u8s (s.take n).1 ∧ u8s (s.take n).2.l := by
  unfold Sc.take
  split
  · split
    · exact ⟨u8s_nil, h⟩
    · exact ⟨u8s_take h n, u8s_drop h n⟩
  · exact ⟨u8s_nil, h⟩
theorem Sc.take_len (s : Sc) (n : Nat) : (s.take n).1.length ≤ n := by
  unfold Sc.take
  split
  · split
    · simp
    · simp only [List.length_take]; omega
  · simp
set_option maxHeartbeats 1000000 in
theorem wtake {S : Nat → Prop} {w : World} {g : Nat} {s : Sc} (h : Rdr 58 S w g s) (n : Nat) (hn : n ≤ 4096) :
    Calls Try.prog 46 #[.pointer (some ⟨g, 0, none⟩), .int .i64 n] w fun r w' => ∃ A c, r = .returned (.slice A (s.take n).1.length c) ∧ HeldB w' S A (s.take n).1 ∧ (s.take n).1.length ≤ c ∧ c ≤ 9223372036854775807 ∧ Rdr 58 S w' g (s.take n).2 ∧ w.grownBy w' (some g) := by
  obtain ⟨A, c, hb, hc, hc2, hh, c0, c1, f0, f1⟩ := h.cells
  have hs := h.short
  have H1 := Aside0.mk h
  have HB := Aside0.mk hb
  have HH := Aside0.mk hh
  have htk : s.take n = if s.e = 0 then (if s.l.length < n then ([], ⟨s.l, 2⟩) else (s.l.take n, ⟨s.l.drop n, 0⟩)) else ([], s) := rfl
  have HT := Aside0.mk htk
  clear hb hh h htk
  by_cases e0 : s.e = 0
  · have b0 : (s.e == 0) = true := by simp [e0]
    have b1 : (s.e != 0) = false := by simp [e0]
    have E0 := Aside0.mk e0
    clear e0
    by_cases hlt : s.l.length < n
    · have hres : s.take n = ([], ⟨s.l, 2⟩) := by rw [HT.out, if_pos E0.out, if_pos hlt]
      have HRES := Aside0.mk hres
      clear hres
      have hlt' : (s.l.length : Int) < (n : Int) := by omega
      go_enter Try.func46, Try.ntmps46
      go_wp2
      go_ret
      exact ⟨none, 0, by rw [HRES.out]; rfl, by rw [HRES.out]; exact fun h0 => absurd h0 (by simp), by rw [HRES.out]; simp, by decide, by rw [HRES.out]; exact H1.out.set_err 2 (by decide), grown_set _ _ _ _⟩
    · have hle : n ≤ s.l.length := by omega
      have hres : s.take n = (s.l.take n, ⟨s.l.drop n, 0⟩) := by rw [HT.out, if_pos E0.out, if_neg hlt]
      have HRES := Aside0.mk hres
      clear hres
      have hnlt' : ¬ (s.l.length : Int) < (n : Int) := by omega
      have hln : (s.l.take n).length = n := by rw [List.length_take]; omega
      have HLN := Aside0.mk hln
      clear hln
      have hnc : n ≤ c := by omega
      go_enter Try.func46, Try.ntmps46
      have HEND : ∀ (W : World) (c3 : Nat), n ≤ c3 → c3 ≤ 9223372036854775807 → Rdr 58 S W g ⟨s.l.drop n, s.e⟩ → HeldB W S A s.l → w.grownBy W (some g) → ∃ A' c', Ending.returned (.slice A n c3) = .returned (.slice A' (s.take n).1.length c') ∧ HeldB W S A' (s.take n).1 ∧ (s.take n).1.length ≤ c' ∧ c' ≤ 9223372036854775807 ∧ Rdr 58 S W g (s.take n).2 ∧ w.grownBy W (some g) := fun W c3 k1 k2 h1 h2 h3 => by
        refine ⟨A, c3, by rw [HRES.out]; simp only; rw [HLN.out], by rw [HRES.out]; exact h2.take n, by rw [HRES.out]; simp only; rw [HLN.out]; exact k1, k2, ?_, h3⟩
        rw [HRES.out]
        rw [E0.out] at h1
        exact h1
      have HE := Aside0.mk HEND
      clear HEND
      go_wp2
      all_goals go_ret
      all_goals first
        | exact HE.out _ _ (by omega) (by omega) (H1.out.dropped_b n hle HB.out hc hc2 HH.out (by assumption)) (heldB_set HH.out H1.out.ne 0 _) (grown_set _ _ _ _)
        | exact HE.out _ _ (by omega) (by omega) (H1.out.dropped_b n hle HB.out hc hc2 HH.out rfl) (heldB_set HH.out H1.out.ne 0 _) (grown_set _ _ _ _)
        | (refine HE.out _ _ (by omega) (by omega) ?_ (heldB_set HH.out H1.out.ne 0 _) (grown_set _ _ _ _); have h_ := H1.out.dropped n hle HB.out hc hc2 HH.out; rw [if_neg (by first | assumption | omega)] at h_; exact h_)
  · have b0 : (s.e == 0) = false := by simp [e0]
    have b1 : (s.e != 0) = true := by simp [e0]
    have hres : s.take n = ([], s) := by rw [HT.out, if_neg e0]
    have HRES := Aside0.mk hres
    clear hres e0
    go_enter Try.func46, Try.ntmps46
    go_wp2
    go_ret
    exact ⟨none, 0, by rw [HRES.out]; rfl, by rw [HRES.out]; exact fun h0 => absurd h0 (by simp), by rw [HRES.out]; simp, by decide, by rw [HRES.out]; exact H1.out, grown_refl _ _⟩
theorem big_snoc (l : List Int) (c : Int) : ∀ n, big (l ++ [c]) n = 256 * big l n + c := by
  induction l with
  | nil => intro n; rfl
  | cons x l ih => intro n; exact ih _
theorem big_take (l : List Int) (k : Nat) (h : k < l.length) : big (l.take (k + 1)) 0 = 256 * big (l.take k) 0 + rd l k := by
  rw [List.take_succ_eq_append_getElem h, big_snoc]
  simp [rd, List.getD_eq_getElem?_getD, h]
theorem big_lt (l : List Int) (hu : u8s l) : ∀ k, k ≤ l.length → 0 ≤ big (l.take k) 0 ∧ big (l.take k) 0 < 256 ^ k := by
  intro k
  induction k with
  | zero => intro _; simp [big]
  | succ k ih =>
    intro h
    obtain ⟨h0, h1⟩ := ih (by omega)
    have hc := rd_u8 hu k (by omega)
    rw [big_take l k (by omega), Int.pow_succ]
    omega
theorem nat_or_byte (n b : Nat) (hb : b < 256) : n * 256 ||| b = n * 256 + b := by
  have := Nat.two_pow_add_eq_or_of_lt (i := 8) (b := b) (by simpa using hb) n
  rw [show (2 : Nat) ^ 8 = 256 from rfl, Nat.mul_comm] at this
  exact this.symm
theorem i64_or_byte (n b : Int) (h0 : 0 ≤ n) (h1 : n < 1099511627776) (hb0 : 0 ≤ b) (hb : b < 256) : bits .or .i64 (wrap64 (n * 256)) b = 256 * n + b := by
  obtain ⟨n, rfl⟩ := Int.eq_ofNat_of_zero_le h0
  obtain ⟨b, rfl⟩ := Int.eq_ofNat_of_zero_le hb0
  rw [show wrap64 ((n : Int) * 256) = ((n * 256 : Nat) : Int) by unfold wrap64; omega]
  show IntKind.i64.wrap ((BitVec.ofInt 64 ((n * 256 : Nat) : Int) ||| BitVec.ofInt 64 (b : Int)).toNat : Int) = _
  rw [BitVec.ofInt_natCast, BitVec.ofInt_natCast, BitVec.toNat_or, BitVec.toNat_ofNat, BitVec.toNat_ofNat, Nat.mod_eq_of_lt (by omega), Nat.mod_eq_of_lt (by omega), nat_or_byte n b (by omega), IntKind.wrap_i64]
  omega
theorem u32_or_byte (n b : Int) (h0 : 0 ≤ n) (h1 : n < 16777216) (hb0 : 0 ≤ b) (hb : b < 256) : bits .or .u32 (IntKind.u32.wrap (n * 256)) b = 256 * n + b := by
  obtain ⟨n, rfl⟩ := Int.eq_ofNat_of_zero_le h0
  obtain ⟨b, rfl⟩ := Int.eq_ofNat_of_zero_le hb0
  rw [show IntKind.u32.wrap ((n : Int) * 256) = ((n * 256 : Nat) : Int) by rw [IntKind.wrap_u32]; omega, u32_or_nat _ _ (by omega) (by omega), nat_or_byte n b (by omega)]
  omega
theorem pow256_3 (k : Nat) (n : Int) (h : n < 256 ^ k) (hk : k ≤ 3) : n < 16777216 := by
  have := Nat.pow_le_pow_right (n := 256) (by omega) hk
  have e : ((256 : Int) ^ k) = ((256 ^ k : Nat) : Int) := by simp
  rw [e] at h
  have h2 : (256 : Nat) ^ 3 = 16777216 := rfl
  omega
set_option maxHeartbeats 1000000 in
theorem wtwo {S : Nat → Prop} {w : World} {g : Nat} {s : Sc} (h : Rdr 58 S w g s) :
    Calls Try.prog 27 #[.pointer (some ⟨g, 0, none⟩)] w fun r w' => r = .returned (.int .i64 (s.num 2).1) ∧ Rdr 58 S w' g (s.num 2).2 ∧ w.grownBy w' (some g) := by
  have hu := (Sc.take_u8s h.u8 2).1
  have hl := s.take_len 2
  have hT := wtake h 2 (by decide)
  rw [show s.num 2 = (big (s.take 2).1 0, (s.take 2).2) from rfl]
  generalize (s.take 2).1 = l at hu hl hT ⊢
  generalize (s.take 2).2 = s2 at hT ⊢
  have HU := Aside0.mk hu
  have HT := Aside0.mk hT
  clear hu hT h
  go_enter Try.func27, Try.ntmps27
  go_wp2_with fail
  refine HT.out.mono ?_
  rintro r w1 ⟨A, c, rfl, hH, hc, hc2, hR, hG⟩
  have HH := Aside0.mk hH
  have HR := Aside0.mk hR
  have HG := Aside0.mk hG
  clear hH hR hG HT
  go_wp2_with fail
  go_loop [2, 8] (fun n i => ∃ k : Nat, k ≤ l.length ∧ i = .int .i64 k ∧ n = .int .i64 (big (l.take k) 0)) (fun _ i => l.length - (intOf i).toNat)
  case atStart => exact ⟨0, Nat.zero_le _, rfl, rfl⟩
  case round =>
    obtain ⟨k, hk, rfl, rfl⟩ := hrel
    by_cases hlt : k < l.length
    · obtain ⟨ad, rfl, _, hcell⟩ := HH.out (by omega)
      have hck := hcell k hlt
      have hb := big_lt l HU.out k hk
      have hr := rd_u8 HU.out k hlt
      have ht := Aside0.mk (big_take l k hlt)
      clear hcell
      generalize big (l.take k) 0 = n at hb ht ⊢
      generalize rd l k = b at hck hr ht
      go_wp2
      exact ⟨⟨k + 1, by omega, by go_num, by rw [i64_or_byte n b hb.1 (by have := pow256_3 k n hb.2 (by omega); omega) hr.1 hr.2, ht.out]⟩, by simp [intOf]; omega⟩
    · obtain rfl : k = l.length := by omega
      go_wp2
      go_ret
      exact ⟨rfl, HR.out, HG.out⟩
def sgn (n : Int) : Int := if n ≥ 2147483648 then n - 4294967296 else n
set_option maxHeartbeats 1000000 in
theorem wfour {S : Nat → Prop} {w : World} {g : Nat} {s : Sc} (h : Rdr 58 S w g s) :
    Calls Try.prog 54 #[.pointer (some ⟨g, 0, none⟩)] w fun r w' => r = .returned (.int .i64 (sgn (s.num 4).1)) ∧ Rdr 58 S w' g (s.num 4).2 ∧ w.grownBy w' (some g) := by
  have hu := (Sc.take_u8s h.u8 4).1
  have hl := s.take_len 4
  have hT := wtake h 4 (by decide)
  rw [show s.num 4 = (big (s.take 4).1 0, (s.take 4).2) from rfl]
  generalize (s.take 4).1 = l at hu hl hT ⊢
  generalize (s.take 4).2 = s2 at hT ⊢
  have HU := Aside0.mk hu
  have HT := Aside0.mk hT
  clear hu hT h
  go_enter Try.func54, Try.ntmps54
  go_wp2_with fail
  refine HT.out.mono ?_
  rintro r w1 ⟨A, c, rfl, hH, hc, hc2, hR, hG⟩
  have HH := Aside0.mk hH
  have HR := Aside0.mk hR
  have HG := Aside0.mk hG
  clear hH hR hG HT
  go_wp2_with fail
  go_loop [3, 9] (fun n i => ∃ k : Nat, k ≤ l.length ∧ i = .int .i64 k ∧ n = .int .u32 (big (l.take k) 0)) (fun _ i => l.length - (intOf i).toNat)
  case atStart => exact ⟨0, Nat.zero_le _, rfl, rfl⟩
  case round =>
    obtain ⟨k, hk, rfl, rfl⟩ := hrel
    by_cases hlt : k < l.length
    · obtain ⟨ad, rfl, _, hcell⟩ := HH.out (by omega)
      have hck := hcell k hlt
      have hb := big_lt l HU.out k hk
      have hr := rd_u8 HU.out k hlt
      have ht := Aside0.mk (big_take l k hlt)
      clear hcell
      generalize big (l.take k) 0 = n at hb ht ⊢
      generalize rd l k = b at hck hr ht
      go_wp2
      exact ⟨⟨k + 1, by omega, by go_num, by rw [show n * 256 % 4294967296 = IntKind.u32.wrap (n * 256) from (IntKind.wrap_u32 _).symm, u32_or_byte n b hb.1 (pow256_3 k n hb.2 (by omega)) hr.1 hr.2, ht.out]⟩, by simp [intOf]; omega⟩
    · obtain rfl : k = l.length := by omega
      have hb := big_lt l HU.out l.length (Nat.le_refl _)
      rw [List.take_of_length_le (Nat.le_refl _)] at hb ⊢
      have hb2 : big l 0 < 4294967296 := by
        have := Nat.pow_le_pow_right (n := 256) (by omega) hl
        have e : ((256 : Int) ^ l.length) = ((256 ^ l.length : Nat) : Int) := by simp
        have e2 := hb.2
        rw [e] at e2
        have h2 : (256 : Nat) ^ 4 = 4294967296 := rfl
        omega
      have hb1 := hb.1
      clear hb
      obtain ⟨n, hn⟩ : ∃ n, big l 0 = n := ⟨_, rfl⟩
      rw [hn] at hb1 hb2 ⊢
      have HN := Aside0.mk hn
      clear hn
      go_wp2
      go_ret
      exact ⟨by rw [HN.out]; show Ending.returned (Value.int .i64 (wrap64 (wrap32 n))) = _; rw [show wrap64 (wrap32 n) = sgn n by unfold wrap64 wrap32 sgn; split <;> omega], HR.out, HG.out⟩
theorem Sc.take_one (s : Sc) : (s.take 1).1 ≠ [] → (s.take 1).2.e = 0 := by
  unfold Sc.take
  split
  · split
    · intro h; exact absurd rfl h
    · intro _; rfl
  · intro h; exact absurd rfl h
set_option maxHeartbeats 1000000 in
theorem wcount {S : Nat → Prop} {w : World} {g : Nat} {s : Sc} (h : Rdr 58 S w g s) (most : Nat) (hm : most ≤ 4096) :
    Calls Try.prog 26 #[.pointer (some ⟨g, 0, none⟩), .int .i64 most] w fun r w' => r = .returned (.int .i64 (s.count most).1) ∧ Rdr 58 S w' g (s.count most).2 ∧ w.grownBy w' (some g) := by
  have hu := (Sc.take_u8s h.u8 1).1
  have hl := s.take_len 1
  have ho := s.take_one
  have hT := wtake h 1 (by decide)
  have hcn : s.count most = if big (s.take 1).1 0 > (most : Int) then (0, (s.take 1).2.fail 4) else (big (s.take 1).1 0, (s.take 1).2) := rfl
  generalize s.count most = q at hcn ⊢
  generalize (s.take 1).1 = l at hu hl hT ho hcn ⊢
  generalize (s.take 1).2 = s2 at hT ho hcn ⊢
  have HC := Aside0.mk hcn
  clear hcn
  have HU := Aside0.mk hu
  have HT := Aside0.mk hT
  have HO := Aside0.mk ho
  clear hu hT h ho
  go_enter Try.func26, Try.ntmps26
  go_wp2_with fail
  refine HT.out.mono ?_
  rintro r w1 ⟨A, c, rfl, hH, hc, hc2, hR, hG⟩
  have HH := Aside0.mk hH
  have HR := Aside0.mk hR
  have HG := Aside0.mk hG
  clear hH hR hG HT
  go_wp2_with fail
  go_loop [4, 10] (fun n i => ∃ k : Nat, k ≤ l.length ∧ i = .int .i64 k ∧ n = .int .i64 (big (l.take k) 0)) (fun _ i => l.length - (intOf i).toNat)
  case atStart => exact ⟨0, Nat.zero_le _, rfl, rfl⟩
  case round =>
    obtain ⟨k, hk, rfl, rfl⟩ := hrel
    by_cases hlt : k < l.length
    · obtain ⟨ad, rfl, _, hcell⟩ := HH.out (by omega)
      have hck := hcell k hlt
      have hr := rd_u8 HU.out k hlt
      have ht := Aside0.mk (big_take l k hlt)
      have hk0 := Aside0.mk (show k = 0 by omega)
      clear hcell
      generalize rd l k = b at hck hr ht
      go_wp2
      exact ⟨⟨k + 1, by omega, by go_num, by rw [ht.out, hk0.out]; simp [big]⟩, by simp [intOf]; omega⟩
    · obtain rfl : k = l.length := by omega
      have hb := big_lt l HU.out l.length (Nat.le_refl _)
      rw [List.take_of_length_le (Nat.le_refl _)] at hb ⊢
      have hb1 := hb.1
      have hne : big l 0 > 0 → l ≠ [] := fun h0 e => by rw [e] at h0; exact absurd h0 (by decide)
      have HN := Aside0.mk hne
      clear hb hne
      obtain ⟨A2, c2, hb2, hc3, hc4, hh2, d0, d1, f0, f1⟩ := HR.out.cells
      clear hb2 hh2 hc3 hc4
      have hcn := HC.out
      clear HC
      by_cases hgt : big l 0 > (most : Int)
      · have hf : s2.fail 4 = ⟨s2.l, 4⟩ := by unfold Sc.fail; rw [if_pos (HO.out (HN.out (by omega)))]
        rw [if_pos hgt, hf] at hcn
        have HC := Aside0.mk hcn
        clear hf hcn
        generalize big l 0 = n at hb1 hgt HN ⊢
        go_wp2
        go_ret
        exact ⟨by rw [HC.out]; rfl, by rw [HC.out]; exact HR.out.set_err 4 (by decide), grown_trans HG.out (grown_set _ _ _ _)⟩
      · rw [if_neg hgt] at hcn
        have HC := Aside0.mk hcn
        clear hcn
        generalize big l 0 = n at hb1 hgt HN HC ⊢
        go_wp2
        go_ret
        exact ⟨by rw [HC.out]; rfl, by rw [HC.out]; exact HR.out, HG.out⟩
end Go.Proofs.Ytkdhcmmfklganaa
end

section
/- the references' readers of images, walked -/
set_option linter.unusedVariables false
set_option linter.unusedSimpArgs false
set_option autoImplicit false
namespace Go.Proofs.Ytkdhcmmfklganaa
open Go.RowKit Go.Proofs.YtkdhcmmfklganaaW.PrintWords Go.Proofs.YtkdhcmmfklganaaW.PrintLast Go.Proofs.YtkdhcmmfklganaaW.PrintMore

set_option maxHeartbeats 400000 in
theorem rfail {S : Nat → Prop} {w : World} {g : Nat} {s : Sc} (h : Rdr 65 S w g s) (e : Int) (he : -9223372036854775808 ≤ e ∧ e < 9223372036854775808) :
    Calls Try.prog 48 #[.pointer (some ⟨g, 0, none⟩), .int .i64 e] w fun r w' => r = .returned (.tuple #[]) ∧ Rdr 65 S w' g (s.fail e) ∧ w.grownBy w' (some g) := by
  obtain ⟨A, c, hb, hc, hc2, hh, c0, c1, f0, f1⟩ := h.cells
  have H := Aside0.mk h
  clear hb hh h
  by_cases s0 : s.e = 0
  · have d0 : (s.e == 0) = true := beq_iff_eq.2 s0
    have hf : s.fail e = ⟨s.l, e⟩ := by unfold Sc.fail; rw [if_pos s0]
    have HF := Aside0.mk hf
    clear s0 hf
    go_enter Try.func48, Try.ntmps48
    go_wp2
    go_end0
    exact ⟨rfl, by rw [HF.out]; exact H.out.set_err e he, grown_set _ _ _ _⟩
  · have d0 : (s.e == 0) = false := beq_eq_false_iff_ne.2 s0
    have hf : s.fail e = s := by unfold Sc.fail; rw [if_neg s0]
    have HF := Aside0.mk hf
    clear s0 hf
    go_enter Try.func48, Try.ntmps48
    go_wp2
    go_end0
    exact ⟨rfl, by rw [HF.out]; exact H.out, grown_refl _ _⟩
set_option maxHeartbeats 1000000 in
theorem rtake {S : Nat → Prop} {w : World} {g : Nat} {s : Sc} (h : Rdr 65 S w g s) (n : Nat) (hn : n ≤ 4096) :
    Calls Try.prog 32 #[.pointer (some ⟨g, 0, none⟩), .int .i64 n] w fun r w' => ∃ A c, r = .returned (.slice A (s.take n).1.length c) ∧ HeldB w' S A (s.take n).1 ∧ (s.take n).1.length ≤ c ∧ c ≤ 9223372036854775807 ∧ Rdr 65 S w' g (s.take n).2 ∧ w.grownBy w' (some g) := by
  obtain ⟨A, c, hb, hc, hc2, hh, c0, c1, f0, f1⟩ := h.cells
  have hs := h.short
  have H1 := Aside0.mk h
  have HB := Aside0.mk hb
  have HH := Aside0.mk hh
  have htk : s.take n = if s.e = 0 then (if s.l.length < n then ([], ⟨s.l, 2⟩) else (s.l.take n, ⟨s.l.drop n, 0⟩)) else ([], s) := rfl
  have HT := Aside0.mk htk
  clear hb hh h htk
  by_cases e0 : s.e = 0
  · have b0 : (s.e == 0) = true := by simp [e0]
    have b1 : (s.e != 0) = false := by simp [e0]
    have E0 := Aside0.mk e0
    clear e0
    by_cases hlt : s.l.length < n
    · have hres : s.take n = ([], ⟨s.l, 2⟩) := by rw [HT.out, if_pos E0.out, if_pos hlt]
      have HRES := Aside0.mk hres
      clear hres
      have hlt' : (s.l.length : Int) < (n : Int) := by omega
      have hf : s.fail 2 = ⟨s.l, 2⟩ := by unfold Sc.fail; rw [if_pos E0.out]
      have HF := Aside0.mk hf
      clear hf
      go_enter Try.func32, Try.ntmps32
      go_wp2_with fail
      refine (rfail H1.out 2 (by decide)).mono ?_
      rintro r w' ⟨rfl, hs', hg'⟩
      rw [HF.out] at hs'
      go_wp2
      go_ret
      exact ⟨none, 0, by rw [HRES.out]; rfl, by rw [HRES.out]; exact fun h0 => absurd h0 (by simp), by rw [HRES.out]; simp, by decide, by rw [HRES.out]; exact hs', hg'⟩
    · have hle : n ≤ s.l.length := by omega
      have hres : s.take n = (s.l.take n, ⟨s.l.drop n, 0⟩) := by rw [HT.out, if_pos E0.out, if_neg hlt]
      have HRES := Aside0.mk hres
      clear hres
      have hnlt' : ¬ (s.l.length : Int) < (n : Int) := by omega
      have hln : (s.l.take n).length = n := by rw [List.length_take]; omega
      have HLN := Aside0.mk hln
      clear hln
      have hnc : n ≤ c := by omega
      go_enter Try.func32, Try.ntmps32
      have HEND : ∀ (W : World) (c3 : Nat), n ≤ c3 → c3 ≤ 9223372036854775807 → Rdr 65 S W g ⟨s.l.drop n, s.e⟩ → HeldB W S A s.l → w.grownBy W (some g) → ∃ A' c', Ending.returned (.slice A n c3) = .returned (.slice A' (s.take n).1.length c') ∧ HeldB W S A' (s.take n).1 ∧ (s.take n).1.length ≤ c' ∧ c' ≤ 9223372036854775807 ∧ Rdr 65 S W g (s.take n).2 ∧ w.grownBy W (some g) := fun W c3 k1 k2 h1 h2 h3 => by
        refine ⟨A, c3, by rw [HRES.out]; simp only; rw [HLN.out], by rw [HRES.out]; exact h2.take n, by rw [HRES.out]; simp only; rw [HLN.out]; exact k1, k2, ?_, h3⟩
        rw [HRES.out]
        rw [E0.out] at h1
        exact h1
      have HE := Aside0.mk HEND
      clear HEND
      go_wp2
      all_goals go_ret
      all_goals first
        | exact HE.out _ _ (by omega) (by omega) (H1.out.dropped_b n hle HB.out hc hc2 HH.out (by assumption)) (heldB_set HH.out H1.out.ne 0 _) (grown_set _ _ _ _)
        | exact HE.out _ _ (by omega) (by omega) (H1.out.dropped_b n hle HB.out hc hc2 HH.out rfl) (heldB_set HH.out H1.out.ne 0 _) (grown_set _ _ _ _)
        | (refine HE.out _ _ (by omega) (by omega) ?_ (heldB_set HH.out H1.out.ne 0 _) (grown_set _ _ _ _); have h_ := H1.out.dropped n hle HB.out hc hc2 HH.out; rw [if_neg (by first | assumption | omega)] at h_; exact h_)
  · have b0 : (s.e == 0) = false := by simp [e0]
    have b1 : (s.e != 0) = true := by simp [e0]
    have hres : s.take n = ([], s) := by rw [HT.out, if_neg e0]
    have HRES := Aside0.mk hres
    have hf : s.fail 2 = s := by unfold Sc.fail; rw [if_neg e0]
    have HF := Aside0.mk hf
    clear hres e0 hf
    go_enter Try.func32, Try.ntmps32
    go_wp2_with fail
    refine (rfail H1.out 2 (by decide)).mono ?_
    rintro r w' ⟨rfl, hs', hg'⟩
    rw [HF.out] at hs'
    go_wp2
    go_ret
    exact ⟨none, 0, by rw [HRES.out]; rfl, by rw [HRES.out]; exact fun h0 => absurd h0 (by simp), by rw [HRES.out]; simp, by decide, by rw [HRES.out]; exact hs', hg'⟩
set_option maxHeartbeats 1000000 in
theorem rnum {S : Nat → Prop} {w : World} {g : Nat} {s : Sc} (h : Rdr 65 S w g s) (m : Nat) (hm : m ≤ 4) :
    Calls Try.prog 31 #[.pointer (some ⟨g, 0, none⟩), .int .i64 m] w fun r w' => r = .returned (.int .i64 (s.num m).1) ∧ Rdr 65 S w' g (s.num m).2 ∧ w.grownBy w' (some g) := by
  have hu := (Sc.take_u8s h.u8 m).1
  have hl := s.take_len m
  have hT := rtake h m (by omega)
  rw [show s.num m = (big (s.take m).1 0, (s.take m).2) from rfl]
  generalize (s.take m).1 = l at hu hl hT ⊢
  generalize (s.take m).2 = s2 at hT ⊢
  have HU := Aside0.mk hu
  have HT := Aside0.mk hT
  clear hu hT h
  go_enter Try.func31, Try.ntmps31
  go_wp2_with fail
  refine HT.out.mono ?_
  rintro r w1 ⟨A, c, rfl, hH, hc, hc2, hR, hG⟩
  have HH := Aside0.mk hH
  have HR := Aside0.mk hR
  have HG := Aside0.mk hG
  clear hH hR hG HT
  go_wp2_with fail
  go_loop [6, 7] (fun n i => ∃ k : Nat, k ≤ l.length ∧ i = .int .i64 k ∧ n = .int .i64 (big (l.take k) 0)) (fun _ i => l.length - (intOf i).toNat)
  case atStart => exact ⟨0, Nat.zero_le _, rfl, rfl⟩
  case round =>
    obtain ⟨k, hk, rfl, rfl⟩ := hrel
    by_cases hlt : k < l.length
    · obtain ⟨ad, rfl, _, hcell⟩ := HH.out (by omega)
      have hck := hcell k hlt
      have hb := big_lt l HU.out k hk
      have hr := rd_u8 HU.out k hlt
      have ht := Aside0.mk (big_take l k hlt)
      clear hcell
      generalize big (l.take k) 0 = n at hb ht ⊢
      generalize rd l k = b at hck hr ht
      have hn3 := pow256_3 k n hb.2 (by omega)
      have hb0 := hb.1
      clear hb
      go_wp2
      exact ⟨⟨k + 1, by omega, by go_num, by rw [ht.out]⟩, by simp [intOf]; omega⟩
    · obtain rfl : k = l.length := by omega
      go_wp2
      go_ret
      exact ⟨rfl, HR.out, HG.out⟩
set_option maxHeartbeats 1000000 in
theorem rcount {S : Nat → Prop} {w : World} {g : Nat} {s : Sc} (h : Rdr 65 S w g s) (most : Nat) (hm : most ≤ 4096) :
    Calls Try.prog 30 #[.pointer (some ⟨g, 0, none⟩), .int .i64 most] w fun r w' => r = .returned (.int .i64 (s.count most).1) ∧ Rdr 65 S w' g (s.count most).2 ∧ w.grownBy w' (some g) := by
  have hT := rnum h 1 (by decide)
  have hcn : s.count most = if (s.num 1).1 > (most : Int) then (0, (s.num 1).2.fail 4) else ((s.num 1).1, (s.num 1).2) := rfl
  generalize s.count most = q at hcn ⊢
  generalize (s.num 1).1 = n at hT hcn ⊢
  generalize (s.num 1).2 = s2 at hT hcn ⊢
  have HT := Aside0.mk hT
  have HC := Aside0.mk hcn
  clear hT h hcn
  go_enter Try.func30, Try.ntmps30
  go_wp2_with fail
  refine HT.out.mono ?_
  rintro r w1 ⟨rfl, hR, hG⟩
  have HR := Aside0.mk hR
  have HG := Aside0.mk hG
  clear hR hG HT
  have hcn := HC.out
  clear HC
  by_cases hgt : n > (most : Int)
  · rw [if_pos hgt] at hcn
    have HC := Aside0.mk hcn
    clear hcn
    go_wp2_with fail
    refine (rfail HR.out 4 (by decide)).mono ?_
    rintro r w' ⟨rfl, hs', hg'⟩
    go_wp2
    go_ret
    exact ⟨by rw [HC.out]; rfl, by rw [HC.out]; exact hs', grown_trans HG.out hg'⟩
  · rw [if_neg hgt] at hcn
    have HC := Aside0.mk hcn
    clear hcn
    go_wp2
    go_ret
    exact ⟨by rw [HC.out]; rfl, by rw [HC.out]; exact HR.out, HG.out⟩
set_option maxHeartbeats 400000 in
theorem rend {S : Nat → Prop} {w : World} {g : Nat} {s : Sc} (h : Rdr 65 S w g s) :
    Calls Try.prog 34 #[.pointer (some ⟨g, 0, none⟩)] w fun r w' => r = .returned (.int .i64 s.endE) ∧ w = w' := by
  obtain ⟨A, c, hb, hc, hc2, hh, c0, c1, f0, f1⟩ := h.cells
  clear hb hh h
  by_cases e0 : s.e = 0
  · have b0 : (s.e == 0) = true := by simp [e0]
    have E0 := Aside0.mk e0
    clear e0
    by_cases l0 : 0 < s.l.length
    · have d0 : decide (0 < (s.l.length : Int)) = true := by simpa using l0
      have hres : s.endE = 5 := by rw [Sc.endE, if_pos ⟨E0.out, l0⟩]
      have HR := Aside0.mk hres
      clear hres
      go_enter Try.func34, Try.ntmps34
      go_wp2
      go_ret
      exact ⟨by rw [HR.out]; rfl, rfl⟩
    · have d0 : decide (0 < s.l.length) = false := decide_eq_false l0
      have hres : s.endE = s.e := by rw [Sc.endE, if_neg (fun hh => l0 hh.2)]
      have HR := Aside0.mk hres
      clear hres l0
      go_enter Try.func34, Try.ntmps34
      go_wp2
      go_ret
      exact ⟨by rw [HR.out]; rfl, rfl⟩
  · have b0 : (s.e == 0) = false := by simpa using e0
    have hres : s.endE = s.e := by rw [Sc.endE, if_neg (fun hh => e0 hh.1)]
    have HR := Aside0.mk hres
    clear hres e0
    go_enter Try.func34, Try.ntmps34
    go_wp2
    go_ret
    exact ⟨by rw [HR.out]; rfl, rfl⟩
end Go.Proofs.Ytkdhcmmfklganaa
end

section
/- parsers over what is left of a row of bytes: what is read was laid so, a part of it is short; plain laws -/
set_option linter.unusedVariables false
set_option autoImplicit false
namespace Go.Proofs.Ytkdhcmmfklganaa.Pars
open Go.Proofs.Ytkdhcmmfklganaa

structure Good {α : Type} (P : Sc → α × Sc) : Prop where
  err : ∀ s : Sc, s.e ≠ 0 → (P s).2 = s
  ok : ∀ (l : List Int) (v : α) (r : List Int), P ⟨l, 0⟩ = (v, ⟨r, 0⟩) → ∃ c, l = c ++ r ∧ (∀ r', P ⟨c ++ r', 0⟩ = (v, ⟨r', 0⟩)) ∧ ∀ p q, c = p ++ q → q ≠ [] → (P ⟨p, 0⟩).2.e = 2
def bnd {α β : Type} (P : Sc → α × Sc) (Q : α → Sc → β × Sc) : Sc → β × Sc := fun s => Q (P s).1 (P s).2
theorem eta0 (s : Sc) (h : s.e = 0) : s = ⟨s.l, 0⟩ := by cases s; simp only at h; rw [h]
theorem Good.pure {α : Type} (v : α) : Good fun s => (v, s) := by
  refine ⟨fun s _ => rfl, fun l v' r h => ?_⟩
  obtain ⟨rfl, h⟩ := Prod.mk.inj h
  cases h
  refine ⟨[], rfl, fun _ => rfl, fun p q h hq => ?_⟩
  exact absurd (List.append_eq_nil_iff.1 h.symm).2 hq
theorem Good.bnd {α β : Type} {P : Sc → α × Sc} {Q : α → Sc → β × Sc} (hP : Good P) (hQ : ∀ v, Good (Q v)) : Good (bnd P Q) := by
  refine ⟨fun s hs => ?_, fun l v r h => ?_⟩
  · have h1 := hP.err s hs
    unfold Pars.bnd
    rw [h1]
    exact (hQ _).err s hs
  · unfold Pars.bnd at h ⊢
    obtain ⟨⟨a, s1⟩, h1⟩ : ∃ p, P ⟨l, 0⟩ = p := ⟨_, rfl⟩
    rw [h1] at h
    simp only at h
    have e1 : s1.e = 0 := Classical.byContradiction fun he => by
      have := (hQ a).err s1 he
      rw [h] at this
      rw [← this] at he
      exact he rfl
    have es := eta0 s1 e1
    rw [es] at h h1
    obtain ⟨c1, l1, k1, p1⟩ := hP.ok _ _ _ h1
    obtain ⟨c2, l2, k2, p2⟩ := (hQ a).ok _ _ _ h
    refine ⟨c1 ++ c2, by rw [l1, l2, List.append_assoc], fun r' => ?_, fun p q hc hq => ?_⟩
    · rw [List.append_assoc, k1]
      exact k2 r'
    · have two : ∀ a', c2 = a' ++ q → (Q (P ⟨c1 ++ a', 0⟩).1 (P ⟨c1 ++ a', 0⟩).2).2.e = 2 := fun a' h2 => by
        rw [k1]
        exact p2 a' q h2 hq
      rcases List.append_eq_append_iff.1 hc with ⟨a', h2, h3⟩ | ⟨b', h2, h3⟩
      · rw [h2]
        exact two a' h3
      · cases b' with
        | nil =>
          rw [List.append_nil] at h2
          have := two [] (by simpa using h3.symm)
          rw [List.append_nil, h2] at this
          exact this
        | cons x b' =>
          have := p1 p (x :: b') h2 (by simp)
          have he : (P ⟨p, 0⟩).2.e ≠ 0 := by omega
          rw [(hQ _).err _ he]
          exact this
theorem Good.take (n : Nat) : Good fun s => s.take n := by
  refine ⟨fun s hs => by unfold Sc.take; rw [if_neg hs], fun l v r h => ?_⟩
  unfold Sc.take at h
  rw [if_pos rfl] at h
  split at h
  · obtain ⟨_, h⟩ := Prod.mk.inj h
    cases h
  · rename_i hlt
    have hlt' : ¬ l.length < n := hlt
    obtain ⟨hv, hr⟩ := Prod.mk.inj h
    have hr := congrArg Sc.l hr
    simp only at hv hr
    subst hv
    subst hr
    refine ⟨l.take n, (List.take_append_drop n l).symm, fun r' => ?_, fun p q hc hq => ?_⟩
    · unfold Sc.take
      have hl : (l.take n).length = n := by rw [List.length_take]; omega
      rw [if_pos rfl, if_neg (by rw [List.length_append]; omega), List.take_append_of_le_length (by omega), List.take_of_length_le (by omega), List.drop_append_of_le_length (by omega), List.drop_of_length_le (by omega), List.nil_append]
    · have hl := congrArg List.length hc
      rw [List.length_append, List.length_take] at hl
      have hq' : 0 < q.length := List.length_pos_iff.2 hq
      unfold Sc.take
      rw [if_pos rfl, if_pos (by simp only; omega)]
theorem Good.map {α β : Type} {P : Sc → α × Sc} (hP : Good P) (f : α → β) : Good fun s => (f (P s).1, (P s).2) := Good.bnd (Q := fun v s => (f v, s)) hP fun v => Good.pure _
theorem Good.num (n : Nat) : Good fun s => s.num n := Good.map (Good.take n) fun l => big l 0
theorem Good.count (m : Int) : Good fun s => s.count m := by
  have h : (fun s : Sc => s.count m) = Pars.bnd (fun s => s.num 1) (fun n s => if n > m then (0, s.fail 4) else (n, s)) := by
    funext s
    unfold Sc.count Pars.bnd
    rfl
  rw [h]
  refine Good.bnd (Good.num 1) fun v => ?_
  by_cases hv : v > m
  · refine ⟨fun s hs => ?_, fun l v' r h => ?_⟩
    · rw [if_pos hv]
      unfold Sc.fail
      exact if_neg hs
    · rw [if_pos hv] at h
      unfold Sc.fail at h
      simp at h
  · simp only [if_neg hv]
    exact Good.pure _
theorem Good.dead {α : Type} {P : Sc → α × Sc} (hP : Good P) (d : α) : Good fun s => if s.e = 0 then P s else (d, s) := by
  refine ⟨fun s hs => by rw [if_neg hs], fun l v r h => ?_⟩
  simp only [if_true] at h ⊢
  exact hP.ok l v r h
/-- so many, as long as there is no error -/
def rep {α : Type} (P : Sc → α × Sc) : Nat → Sc → List α × Sc
  | 0, s => ([], s)
  | n + 1, s => if s.e = 0 then ((P s).1 :: (rep P n (P s).2).1, (rep P n (P s).2).2) else ([], s)
theorem Good.rep {α : Type} {P : Sc → α × Sc} (hP : Good P) : ∀ n, Good (rep P n) := by
  intro n
  induction n with
  | zero => exact Good.pure []
  | succ n ih => exact Good.dead (Good.bnd (Q := fun x s => (x :: (Pars.rep P n s).1, (Pars.rep P n s).2)) hP fun x => Good.map ih fun l => x :: l) []
/-- what is laid is read -/
theorem rep_back {α : Type} {P : Sc → α × Sc} (lay : α → List Int) : ∀ (xs : List α) (r : List Int), (∀ x ∈ xs, ∀ r, P ⟨lay x ++ r, 0⟩ = (x, ⟨r, 0⟩)) → rep P xs.length ⟨xs.flatMap lay ++ r, 0⟩ = (xs, ⟨r, 0⟩) := by
  intro xs
  induction xs with
  | nil => intro r _; rfl
  | cons x xs ih =>
    intro r h
    rw [List.length_cons, rep, if_pos rfl, List.flatMap_cons, List.append_assoc, h x (by simp), ih r (fun y hy => h y (by simp [hy]))]
/-- what is read was laid so -/
theorem rep_once {α : Type} {P : Sc → α × Sc} (hP : Good P) (lay : α → List Int) (ok : List Int → Prop) (hok : ∀ a b, ok (a ++ b) → ok b)
    (h1 : ∀ l v r, ok l → P ⟨l, 0⟩ = (v, ⟨r, 0⟩) → l = lay v ++ r) : ∀ (n : Nat) (l : List Int) (vs : List α) (r : List Int), ok l → rep P n ⟨l, 0⟩ = (vs, ⟨r, 0⟩) → vs.length = n ∧ l = vs.flatMap lay ++ r := by
  intro n
  induction n with
  | zero => intro l vs r _ h; obtain ⟨rfl, h⟩ := Prod.mk.inj h; cases h; exact ⟨rfl, rfl⟩
  | succ n ih =>
    intro l vs r hl h
    rw [rep, if_pos rfl] at h
    obtain ⟨rfl, h2⟩ := Prod.mk.inj h
    have e1 : (P ⟨l, 0⟩).2.e = 0 := Classical.byContradiction fun he => by
      have := (Good.rep hP n).err _ he
      rw [h2] at this
      rw [← this] at he
      exact he rfl
    have hp : P ⟨l, 0⟩ = ((P ⟨l, 0⟩).1, ⟨(P ⟨l, 0⟩).2.l, 0⟩) := by rw [← eta0 _ e1]
    have q1 := h1 _ _ _ hl hp
    have q2 := ih (P ⟨l, 0⟩).2.l _ r (hok _ _ (by rw [← q1]; exact hl)) (by rw [← eta0 _ e1, ← h2])
    exact ⟨by rw [List.length_cons, q2.1], by rw [List.flatMap_cons, List.append_assoc, ← q2.2]; exact q1⟩
end Go.Proofs.Ytkdhcmmfklganaa.Pars
end

section
-- Written by a program of this session (wip/tools/myprint.py), over the kit's print.
namespace Go.Proofs.Ytkdhcmmfklganaa.G
open Go.RowKit Go.Proofs.YtkdhcmmfklganaaW.PrintWords Go.Proofs.YtkdhcmmfklganaaW.PrintLast Go.Proofs.YtkdhcmmfklganaaW.PrintMore
attribute [local go_sem] max2_int min2_int max_two min_two max_three min_three max_four min_four   -- for this text's walks alone
set_option linter.unusedVariables false
set_option linter.unusedSimpArgs false



def errW : Option Int → Value
  | none => .nilIface
  | some c => .iface 0 (.int .i64 c)
theorem errW_none : errW none = .nilIface := rfl
theorem errW_some (c : Int) : errW (some c) = .iface 0 (.int .i64 c) := rfl

theorem info3 : (Try.prog.info? 3).map (fun i => (i.zero, i.size, i.bytes)) = some (some (.int .i64 0), 1, 8) := by kernel_rfl
theorem info5 : (Try.prog.info? 5).map (fun i => (i.zero, i.size, i.bytes)) = some (some (.int .u8 0), 1, 1) := by kernel_rfl
-- the values' own types
/-! #### struct type 46 -/
structure S46 where
  f0 : ByteArray
  f1 : Int
  f2 : Int
def z46 : S46 := ⟨(⟨#[]⟩ : ByteArray), (0 : Int), (0 : Int)⟩
def k46 : Kd S46 := Kd.iso (Kd.pair Kd.string (Kd.pair (Kd.int .i64) (Kd.int .i64))) (fun x : S46 => (x.f0, x.f1, x.f2))
theorem k46_open {w : World} {x : S46} {cs : List Value} (h : k46.K w x cs) : cs = [.string x.f0, .int .i64 x.f1, .int .i64 x.f2] := by
  obtain ⟨_, _, rfl, rfl, ⟨_, _, rfl, rfl, rfl⟩⟩ := h
  exact rfl
theorem k46_openM {w : World} {base : Nat} {ok : Nat → Prop} {x : S46} {cs : List Value} (h : k46.M w base ok x cs) : cs = [.string x.f0, .int .i64 x.f1, .int .i64 x.f2] := by
  obtain ⟨_, _, rfl, rfl, ⟨_, _, rfl, rfl, rfl⟩⟩ := h
  exact rfl
theorem k46_mk (w : World) (x : S46)  : k46.K w x [.string x.f0, .int .i64 x.f1, .int .i64 x.f2] := ⟨[.string x.f0], [.int .i64 x.f1, .int .i64 x.f2], rfl, rfl, ⟨[.int .i64 x.f1], [.int .i64 x.f2], rfl, rfl, rfl⟩⟩
theorem k46_mkM (w : World) (base : Nat) (ok : Nat → Prop) (x : S46)  : k46.M w base ok x [.string x.f0, .int .i64 x.f1, .int .i64 x.f2] := ⟨[.string x.f0], [.int .i64 x.f1, .int .i64 x.f2], rfl, rfl, ⟨[.int .i64 x.f1], [.int .i64 x.f2], rfl, rfl, rfl⟩⟩
def rd_T46 (xs : List S46) (i : Int) : S46 := xs.getD i.toNat z46
theorem at_T46 {w : World} {A : Option Addr} {n : Nat} {xs : List S46} (h : Kd.C k46 w A n xs) (i : Int) (h0 : 0 ≤ i) (h1 : i < n) : ∃ ad , A = some ad ∧ w.cell? (ad.add (i.toNat * 3)) = some (.string (rd_T46 xs i).f0) ∧ w.cell? ⟨(ad.add (i.toNat * 3)).block, (ad.add (i.toNat * 3)).off + 1, none⟩ = some (.int .i64 (rd_T46 xs i).f1) ∧ w.cell? ⟨(ad.add (i.toNat * 3)).block, (ad.add (i.toNat * 3)).off + 2, none⟩ = some (.int .i64 (rd_T46 xs i).f2) := by
  obtain ⟨ad, c, e, _, hK, hc0⟩ := Kd.C_get h z46 i h0 h1
  have hc : ∀ j u, c[j]? = some u → w.cell? (ad.add (i.toNat * 3 + j)) = some u := hc0
  obtain rfl := k46_open hK
  exact ⟨ad, e, hc 0 _ rfl, by rw [← add_field _ _ 1 (by omega)]; exact hc 1 _ rfl, by rw [← add_field _ _ 2 (by omega)]; exact hc 2 _ rfl⟩

def rd_L3 (xs : List (List S46)) (i : Int) : (List S46) := xs.getD i.toNat ([] : List S46)
theorem at_L3 {w : World} {A : Option Addr} {n : Nat} {xs : List (List S46)} (h : Kd.C (Kd.slice 46 k46) w A n xs) (i : Int) (h0 : 0 ≤ i) (h1 : i < n) : ∃ ad A0 c0, A = some ad ∧ w.cell? (ad.add i.toNat) = some (.slice A0 (rd_L3 xs i).length c0) ∧ (rd_L3 xs i).length ≤ c0 ∧ k46.C w A0 (rd_L3 xs i).length (rd_L3 xs i) := by
  obtain ⟨ad, c, e, _, hK, hc0⟩ := Kd.C_get h ([] : List S46) i h0 h1
  have hc : ∀ j u, c[j]? = some u → w.cell? (ad.add (i.toNat * 1 + j)) = some u := hc0
  obtain ⟨A0, c0, rfl, l0, g0⟩ := hK
  exact ⟨ad, A0, c0, e, by have hq := hc 0 _ rfl; rwa [Nat.mul_one, Nat.add_zero] at hq, l0, g0⟩

/-! #### struct type 40 -/
structure S40 where
  f0 : Int
  f1 : Int
  f2 : (List S46)
def z40 : S40 := ⟨(0 : Int), (0 : Int), ([] : List S46)⟩
def k40 : Kd S40 := Kd.iso (Kd.pair (Kd.int .i64) (Kd.pair (Kd.int .i64) (Kd.slice 46 k46))) (fun x : S40 => (x.f0, x.f1, x.f2))
theorem k40_open {w : World} {x : S40} {cs : List Value} (h : k40.K w x cs) : ∃ A2 c2, cs = [.int .i64 x.f0, .int .i64 x.f1, .slice A2 x.f2.length c2] ∧ x.f2.length ≤ c2 ∧ k46.C w A2 x.f2.length x.f2 := by
  obtain ⟨_, _, rfl, rfl, ⟨_, _, rfl, rfl, ⟨A2, c2, rfl, l2, g2⟩⟩⟩ := h
  exact ⟨A2, c2, rfl, l2, g2⟩
theorem k40_openM {w : World} {base : Nat} {ok : Nat → Prop} {x : S40} {cs : List Value} (h : k40.M w base ok x cs) : ∃ v2, cs = [.int .i64 x.f0, .int .i64 x.f1, v2] ∧ k46.R 46 w base ok v2 x.f2 := by
  obtain ⟨_, _, rfl, rfl, ⟨_, _, rfl, rfl, ⟨v2, rfl, g2⟩⟩⟩ := h
  exact ⟨v2, rfl, g2⟩
theorem k40_mk (w : World) (x : S40) {A2 : Option Addr} {c2 : Nat} (l2 : x.f2.length ≤ c2) (g2 : k46.C w A2 x.f2.length x.f2) : k40.K w x [.int .i64 x.f0, .int .i64 x.f1, .slice A2 x.f2.length c2] := ⟨[.int .i64 x.f0], [.int .i64 x.f1, .slice A2 x.f2.length c2], rfl, rfl, ⟨[.int .i64 x.f1], [.slice A2 x.f2.length c2], rfl, rfl, ⟨A2, c2, rfl, l2, g2⟩⟩⟩
theorem k40_mkM (w : World) (base : Nat) (ok : Nat → Prop) (x : S40) {v2 : Value} (g2 : k46.R 46 w base ok v2 x.f2) : k40.M w base ok x [.int .i64 x.f0, .int .i64 x.f1, v2] := ⟨[.int .i64 x.f0], [.int .i64 x.f1, v2], rfl, rfl, ⟨[.int .i64 x.f1], [v2], rfl, rfl, ⟨v2, rfl, g2⟩⟩⟩
def rd_T40 (xs : List S40) (i : Int) : S40 := xs.getD i.toNat z40
theorem at_T40 {w : World} {A : Option Addr} {n : Nat} {xs : List S40} (h : Kd.C k40 w A n xs) (i : Int) (h0 : 0 ≤ i) (h1 : i < n) : ∃ ad A2 c2, A = some ad ∧ w.cell? (ad.add (i.toNat * 3)) = some (.int .i64 (rd_T40 xs i).f0) ∧ w.cell? ⟨(ad.add (i.toNat * 3)).block, (ad.add (i.toNat * 3)).off + 1, none⟩ = some (.int .i64 (rd_T40 xs i).f1) ∧ w.cell? ⟨(ad.add (i.toNat * 3)).block, (ad.add (i.toNat * 3)).off + 2, none⟩ = some (.slice A2 (rd_T40 xs i).f2.length c2) ∧ (rd_T40 xs i).f2.length ≤ c2 ∧ k46.C w A2 (rd_T40 xs i).f2.length (rd_T40 xs i).f2 := by
  obtain ⟨ad, c, e, _, hK, hc0⟩ := Kd.C_get h z40 i h0 h1
  have hc : ∀ j u, c[j]? = some u → w.cell? (ad.add (i.toNat * 3 + j)) = some u := hc0
  obtain ⟨A2, c2, rfl, l2, g2⟩ := k40_open hK
  exact ⟨ad, A2, c2, e, hc 0 _ rfl, by rw [← add_field _ _ 1 (by omega)]; exact hc 1 _ rfl, by rw [← add_field _ _ 2 (by omega)]; exact hc 2 _ rfl, l2, g2⟩

/-! #### struct type 48 -/
structure S48 where
  f0 : Int
  f1 : Int
  f2 : ByteArray
def z48 : S48 := ⟨(0 : Int), (0 : Int), (⟨#[]⟩ : ByteArray)⟩
def k48 : Kd S48 := Kd.iso (Kd.pair (Kd.int .i64) (Kd.pair (Kd.int .i64) Kd.string)) (fun x : S48 => (x.f0, x.f1, x.f2))
theorem k48_open {w : World} {x : S48} {cs : List Value} (h : k48.K w x cs) : cs = [.int .i64 x.f0, .int .i64 x.f1, .string x.f2] := by
  obtain ⟨_, _, rfl, rfl, ⟨_, _, rfl, rfl, rfl⟩⟩ := h
  exact rfl
theorem k48_openM {w : World} {base : Nat} {ok : Nat → Prop} {x : S48} {cs : List Value} (h : k48.M w base ok x cs) : cs = [.int .i64 x.f0, .int .i64 x.f1, .string x.f2] := by
  obtain ⟨_, _, rfl, rfl, ⟨_, _, rfl, rfl, rfl⟩⟩ := h
  exact rfl
theorem k48_mk (w : World) (x : S48)  : k48.K w x [.int .i64 x.f0, .int .i64 x.f1, .string x.f2] := ⟨[.int .i64 x.f0], [.int .i64 x.f1, .string x.f2], rfl, rfl, ⟨[.int .i64 x.f1], [.string x.f2], rfl, rfl, rfl⟩⟩
theorem k48_mkM (w : World) (base : Nat) (ok : Nat → Prop) (x : S48)  : k48.M w base ok x [.int .i64 x.f0, .int .i64 x.f1, .string x.f2] := ⟨[.int .i64 x.f0], [.int .i64 x.f1, .string x.f2], rfl, rfl, ⟨[.int .i64 x.f1], [.string x.f2], rfl, rfl, rfl⟩⟩
def rd_T48 (xs : List S48) (i : Int) : S48 := xs.getD i.toNat z48
theorem at_T48 {w : World} {A : Option Addr} {n : Nat} {xs : List S48} (h : Kd.C k48 w A n xs) (i : Int) (h0 : 0 ≤ i) (h1 : i < n) : ∃ ad , A = some ad ∧ w.cell? (ad.add (i.toNat * 3)) = some (.int .i64 (rd_T48 xs i).f0) ∧ w.cell? ⟨(ad.add (i.toNat * 3)).block, (ad.add (i.toNat * 3)).off + 1, none⟩ = some (.int .i64 (rd_T48 xs i).f1) ∧ w.cell? ⟨(ad.add (i.toNat * 3)).block, (ad.add (i.toNat * 3)).off + 2, none⟩ = some (.string (rd_T48 xs i).f2) := by
  obtain ⟨ad, c, e, _, hK, hc0⟩ := Kd.C_get h z48 i h0 h1
  have hc : ∀ j u, c[j]? = some u → w.cell? (ad.add (i.toNat * 3 + j)) = some u := hc0
  obtain rfl := k48_open hK
  exact ⟨ad, e, hc 0 _ rfl, by rw [← add_field _ _ 1 (by omega)]; exact hc 1 _ rfl, by rw [← add_field _ _ 2 (by omega)]; exact hc 2 _ rfl⟩

/-! #### struct type 50 -/
structure S50 where
  f0 : ByteArray
  f1 : S48
def z50 : S50 := ⟨(⟨#[]⟩ : ByteArray), z48⟩
def k50 : Kd S50 := Kd.iso (Kd.pair Kd.string k48) (fun x : S50 => (x.f0, x.f1))
theorem k50_open {w : World} {x : S50} {cs : List Value} (h : k50.K w x cs) : cs = [.string x.f0, .int .i64 x.f1.f0, .int .i64 x.f1.f1, .string x.f1.f2] := by
  obtain ⟨_, _, rfl, rfl, s1⟩ := h
  obtain rfl := k48_open s1
  exact rfl
theorem k50_openM {w : World} {base : Nat} {ok : Nat → Prop} {x : S50} {cs : List Value} (h : k50.M w base ok x cs) : cs = [.string x.f0, .int .i64 x.f1.f0, .int .i64 x.f1.f1, .string x.f1.f2] := by
  obtain ⟨_, _, rfl, rfl, s1⟩ := h
  obtain rfl := k48_openM s1
  exact rfl
theorem k50_mk (w : World) (x : S50)  : k50.K w x [.string x.f0, .int .i64 x.f1.f0, .int .i64 x.f1.f1, .string x.f1.f2] := ⟨[.string x.f0], [.int .i64 x.f1.f0, .int .i64 x.f1.f1, .string x.f1.f2], rfl, rfl, (k48_mk w x.f1 )⟩
theorem k50_mkM (w : World) (base : Nat) (ok : Nat → Prop) (x : S50)  : k50.M w base ok x [.string x.f0, .int .i64 x.f1.f0, .int .i64 x.f1.f1, .string x.f1.f2] := ⟨[.string x.f0], [.int .i64 x.f1.f0, .int .i64 x.f1.f1, .string x.f1.f2], rfl, rfl, (k48_mkM w base ok x.f1 )⟩
def rd_T50 (xs : List S50) (i : Int) : S50 := xs.getD i.toNat z50
theorem at_T50 {w : World} {A : Option Addr} {n : Nat} {xs : List S50} (h : Kd.C k50 w A n xs) (i : Int) (h0 : 0 ≤ i) (h1 : i < n) : ∃ ad , A = some ad ∧ w.cell? (ad.add (i.toNat * 4)) = some (.string (rd_T50 xs i).f0) ∧ w.cell? ⟨(ad.add (i.toNat * 4)).block, (ad.add (i.toNat * 4)).off + 1, none⟩ = some (.int .i64 (rd_T50 xs i).f1.f0) ∧ w.cell? ⟨(ad.add (i.toNat * 4)).block, (ad.add (i.toNat * 4)).off + 2, none⟩ = some (.int .i64 (rd_T50 xs i).f1.f1) ∧ w.cell? ⟨(ad.add (i.toNat * 4)).block, (ad.add (i.toNat * 4)).off + 3, none⟩ = some (.string (rd_T50 xs i).f1.f2) := by
  obtain ⟨ad, c, e, _, hK, hc0⟩ := Kd.C_get h z50 i h0 h1
  have hc : ∀ j u, c[j]? = some u → w.cell? (ad.add (i.toNat * 4 + j)) = some u := hc0
  obtain rfl := k50_open hK
  exact ⟨ad, e, hc 0 _ rfl, by rw [← add_field _ _ 1 (by omega)]; exact hc 1 _ rfl, by rw [← add_field _ _ 2 (by omega)]; exact hc 2 _ rfl, by rw [← add_field _ _ 3 (by omega)]; exact hc 3 _ rfl⟩

end Go.Proofs.Ytkdhcmmfklganaa.G
end

section
/- a range is read, walked -/
set_option linter.unusedVariables false
set_option linter.unusedSimpArgs false
set_option autoImplicit false
namespace Go.Proofs.Ytkdhcmmfklganaa
open Go.RowKit Go.Proofs.YtkdhcmmfklganaaW.PrintWords Go.Proofs.YtkdhcmmfklganaaW.PrintLast Go.Proofs.YtkdhcmmfklganaaW.PrintMore Go.Proofs.Ytkdhcmmfklganaa.G

/-- a range, as it is read -/
def rgP : Sc → S46 × Sc := Pars.bnd (fun s => s.count 16) fun c => Pars.bnd (fun s => s.take c.toNat) fun t => Pars.bnd (fun s => s.num 4) fun lo => Pars.bnd (fun s => s.num 4) fun hi s => (⟨strOfNums t, sgn lo, sgn hi⟩, s)
theorem rgP_eq (s : Sc) (c : Nat) (hc : (s.count 16).1 = (c : Int)) : rgP s = (⟨strOfNums ((s.count 16).2.take c).1, sgn (((s.count 16).2.take c).2.num 4).1, sgn ((((s.count 16).2.take c).2.num 4).2.num 4).1⟩, ((((s.count 16).2.take c).2.num 4).2.num 4).2) := by
  have h : rgP s = (⟨strOfNums ((s.count 16).2.take (s.count 16).1.toNat).1, sgn (((s.count 16).2.take (s.count 16).1.toNat).2.num 4).1, sgn ((((s.count 16).2.take (s.count 16).1.toNat).2.num 4).2.num 4).1⟩, ((((s.count 16).2.take (s.count 16).1.toNat).2.num 4).2.num 4).2) := rfl
  rw [h, hc, Int.toNat_natCast]
theorem Sc.num_u8s {s : Sc} (h : u8s s.l) (n : Nat) : u8s (s.num n).2.l := (Sc.take_u8s h n).2
theorem Sc.fail_u8s {s : Sc} (h : u8s s.l) (e : Int) : u8s (s.fail e).l := by unfold Sc.fail; split <;> exact h
theorem Sc.count_u8s {s : Sc} (h : u8s s.l) (m : Int) : u8s (s.count m).2.l := by
  unfold Sc.count
  split
  · exact Sc.fail_u8s (Sc.num_u8s h 1) 4
  · exact Sc.num_u8s h 1
theorem Sc.count_le {s : Sc} (h : u8s s.l) (m : Nat) : 0 ≤ (s.count m).1 ∧ (s.count m).1 ≤ m := by
  have hb := big_lt (s.take 1).1 (Sc.take_u8s h 1).1 (s.take 1).1.length (Nat.le_refl _)
  rw [List.take_of_length_le (Nat.le_refl _)] at hb
  unfold Sc.count
  split
  · exact ⟨Int.le_refl _, by simp⟩
  · rename_i hg
    exact ⟨hb.1, by omega⟩
theorem vkeepG {W W' : World} {b g : Nat} {o : Obj} (h : W.heap[b]? = some o) (hG : W.grownBy W' (some g)) (hne : b ≠ g) : W'.heap[b]? = some o := by rw [hG.block _ (lt_of_heap h) (fun e => by cases e; exact hne rfl)]; exact h
theorem vkeepB {W W' : World} {b : Nat} {o : Obj} (h : W.heap[b]? = some o) (hB : Below W.heap.size W W') : W'.heap[b]? = some o := by rw [hB.block _ (lt_of_heap h)]; exact h
theorem Rdr.low {T : Nat} {S : Nat → Prop} {w : World} {g : Nat} {s : Sc} (h : Rdr T S w g s) : Rdr T (fun k => S k ∧ k < w.heap.size) w g s := by
  obtain ⟨h1, h3, h4, h5, A, c, h6, h7, h8, h9⟩ := h
  refine ⟨h1, fun h => h3 h.1, h4, h5, A, c, h6, h7, h8, fun h0 => ?_⟩
  obtain ⟨ad, rfl, hS, hc⟩ := h9 h0
  have := World.block_lt_of_cell? _ _ (hc 0 h0)
  rw [add_block] at this
  exact ⟨ad, rfl, ⟨hS, this⟩, hc⟩
/-- a scan, and a block of one's own behind all that lay -/
structure Own1 (T : Nat) (U : Nat) (S : Nat → Prop) (w wx : World) (g : Nat) (s : Sc) (c : Array Value) : Prop where
  heap : wx.heap[w.heap.size]? = some (.cells c U (0, 0))
  rdr : Rdr T S wx g s
  low : ∀ k, S k → k < w.heap.size
  lt : g < w.heap.size
  grown : w.grownBy wx (some g)
theorem Own1.start {T U : Nat} {S : Nat → Prop} {w : World} {g : Nat} {s : Sc} (h : Rdr T S w g s) (c : Array Value) : Own1 T U (fun k => S k ∧ k < w.heap.size) w (w.alloc (.cells c U (0, 0))) g s c :=
  ⟨heap_alloc_new w _, h.low.below ((Below.refl _ _).alloc (Nat.le_refl _) _), fun _ h => h.2, h.lt, World.grownBy_alloc w _ _⟩
theorem Own1.store {T U : Nat} {S : Nat → Prop} {w wx : World} {g : Nat} {s : Sc} {c : Array Value} (h : Own1 T U S w wx g s c) (i : Nat) (v : Value) : Own1 T U S w (wx.setCell ⟨w.heap.size, i, none⟩ v) g s (c.setIfInBounds i v) := by
  have hl := h.lt
  refine ⟨heap_setCell_same _ _ _ _ _ _ h.heap, h.rdr.keep fun k hk hs => heap_setCell_other _ _ _ _ ?_, h.low, h.lt, ?_⟩
  · rcases hs with rfl | hs
    · simp; omega
    · have := h.low k hs; simp; omega
  · refine ⟨h.grown.os, h.grown.tape, h.grown.output, by simpa using h.grown.size, fun k hk hne => ?_⟩
    rw [heap_setCell_other _ _ _ _ (by simp; omega)]
    exact h.grown.block k hk hne
theorem Own1.call {T U : Nat} {S : Nat → Prop} {w wx wy : World} {g : Nat} {s s' : Sc} {c : Array Value} (h : Own1 T U S w wx g s c) (hs : Rdr T S wy g s') (hg : wx.grownBy wy (some g)) : Own1 T U S w wy g s' c := by
  have hl := h.lt
  refine ⟨?_, hs, h.low, h.lt, grown_trans h.grown hg⟩
  rw [hg.block _ (lt_of_heap h.heap) (fun e => by cases e; omega)]
  exact h.heap
theorem Own1.done {T U : Nat} {S : Nat → Prop} {w wx : World} {g : Nat} {s : Sc} {c : Array Value} (h : Own1 T U (fun k => S k ∧ k < w.heap.size) w wx g s c) (hg : ¬ S g) : Rdr T S wx g s ∧ w.grownBy wx (some g) := ⟨h.rdr.mono (fun _ h => h.1) hg, h.grown⟩
theorem Own1.cells {T U : Nat} {S : Nat → Prop} {w wx : World} {g : Nat} {s : Sc} {a b d : Value} (h : Own1 T U S w wx g s #[a, b, d]) :
    wx.cell? ⟨w.heap.size, 0, none⟩ = some a ∧ wx.cell? ⟨w.heap.size, 1, none⟩ = some b ∧ wx.cell? ⟨w.heap.size, 2, none⟩ = some d ∧ wx.frozen? ⟨w.heap.size, 0, none⟩ = false ∧ wx.frozen? ⟨w.heap.size, 1, none⟩ = false ∧ wx.frozen? ⟨w.heap.size, 2, none⟩ = false :=
  ⟨by rw [cell_of_row _ _ _ _ _ _ h.heap]; rfl, by rw [cell_of_row _ _ _ _ _ _ h.heap]; rfl, by rw [cell_of_row _ _ _ _ _ _ h.heap]; rfl, frozen_of_row _ _ _ _ _ h.heap, frozen_of_row _ _ _ _ _ h.heap, frozen_of_row _ _ _ _ _ h.heap⟩

theorem Own1.three {T U : Nat} {S : Nat → Prop} {w wx : World} {g : Nat} {s : Sc} {a b d : Value} (h : Own1 T U (fun k => S k ∧ k < w.heap.size) w wx g s #[a, b, d]) (hg : ¬ S g) (x y z : Value) :
    (((wx.setCell ⟨w.heap.size, 0, none⟩ x).setCell ⟨w.heap.size, 1, none⟩ y).setCell ⟨w.heap.size, 2, none⟩ z).heap[w.heap.size]? = some (.cells #[x, y, z] U (0, 0)) ∧ Rdr T S (((wx.setCell ⟨w.heap.size, 0, none⟩ x).setCell ⟨w.heap.size, 1, none⟩ y).setCell ⟨w.heap.size, 2, none⟩ z) g s ∧ w.grownBy (((wx.setCell ⟨w.heap.size, 0, none⟩ x).setCell ⟨w.heap.size, 1, none⟩ y).setCell ⟨w.heap.size, 2, none⟩ z) (some g) :=
  ⟨(((h.store 0 x).store 1 y).store 2 z).heap, (((h.store 0 x).store 1 y).store 2 z).done hg⟩
theorem Own1.below {T U : Nat} {S : Nat → Prop} {w wx wy : World} {g : Nat} {s : Sc} {c : Array Value} (h : Own1 T U S w wx g s c) (hb : Below wx.heap.size wx wy) : Own1 T U S w wy g s c :=
  ⟨by rw [hb.block _ (lt_of_heap h.heap)]; exact h.heap, h.rdr.below hb, h.low, h.lt, grown_trans h.grown ⟨hb.os, hb.tape, hb.output, hb.size, fun k hk _ => hb.block k hk⟩⟩
theorem info_rg : (Try.prog.info? 46).map (·.size) = some 3 := by kernel_rfl
set_option maxRecDepth 100000 in
set_option maxHeartbeats 4000000 in
theorem wrange {S : Nat → Prop} {w : World} {g : Nat} {s : Sc} (h : Rdr 58 S w g s) :
    Calls Try.prog 47 #[.pointer (some ⟨g, 0, none⟩)] w fun r w' => r = .returned (.agg #[.string (rgP s).1.f0, .int .i64 (rgP s).1.f1, .int .i64 (rgP s).1.f2]) ∧ Rdr 58 S w' g (rgP s).2 ∧ w.grownBy w' (some g) := by
  have hne := Aside0.mk h.ne
  have hu := h.u8
  have H0 := Aside0.mk (Own1.start (U := 46) h #[.string ByteArray.empty, .int .i64 0, .int .i64 0])
  clear h
  have hcl : 0 ≤ (s.count 16).1 ∧ (s.count 16).1 ≤ 16 := Sc.count_le hu 16
  obtain ⟨c, hc⟩ : ∃ c : Nat, (s.count 16).1 = (c : Int) := ⟨(s.count 16).1.toNat, by omega⟩
  have hP := rgP_eq s c hc
  have hc16 : c ≤ 16 := by omega
  have hln := ((s.count 16).2.take_len c)
  obtain ⟨s1, h1⟩ : ∃ q, s.count 16 = ((c : Int), q) := ⟨_, by rw [← hc]⟩
  have hln := s1.take_len c
  obtain ⟨t, s2, h2⟩ : ∃ t q, s1.take c = (t, q) := ⟨_, _, rfl⟩
  obtain ⟨lo, s3, h3⟩ : ∃ t q, s2.num 4 = (t, q) := ⟨_, _, rfl⟩
  obtain ⟨hi, s4, h4⟩ : ∃ t q, s3.num 4 = (t, q) := ⟨_, _, rfl⟩
  rw [h2] at hln
  rw [hP, h1]
  simp only
  rw [h2]
  simp only
  rw [h3]
  simp only
  rw [h4]
  simp only
  have HE := Aside0.mk (And.intro h1 (And.intro h2 (And.intro h3 h4)))
  clear hP hcl hu hc h1 h2 h3 h4
  go_enter Try.func47, Try.ntmps47
  go_wp2_with fail
  refine (wcount H0.out.rdr 16 (by decide)).mono ?_
  rintro e w1 ⟨rfl, hs, hg⟩
  rw [show s.count ((16 : Nat) : Int) = ((c : Int), s1) from HE.out.1] at hs ⊢
  have H1 := Aside0.mk (H0.out.call hs hg)
  clear hs hg H0
  go_wp2_with fail
  refine (wtake H1.out.rdr c (by omega)).mono ?_
  rintro e w2 ⟨A, cc, rfl, hH, hl1, hl2, hs, hg⟩
  rw [HE.out.2.1] at hH hl1 hs ⊢
  have H2 := Aside0.mk (H1.out.call hs hg)
  have hcv := Kd.C_string (P := Try.prog) (A := A) (c := cc) Try.underlying26 Try.underlying5 Try.underlying9 (hH.C (by omega))
  clear hs hg H1 hH
  obtain ⟨c0, c1, c2, f0, f1, f2⟩ := H2.out.cells
  have H3 := Aside0.mk (H2.out.store 0 (.string (strOfNums t)))
  simp only [List.setIfInBounds_toArray, List.set_cons_zero, List.set_cons_succ] at H3
  clear H2
  go_wp2_with fail
  clear hcv
  refine (wfour H3.out.rdr).mono ?_
  rintro e w3 ⟨rfl, hs, hg⟩
  rw [HE.out.2.2.1] at hs ⊢
  have H4a := Aside0.mk (H3.out.call hs hg)
  clear hs hg H3 c0 c1 c2 f0 f1 f2
  obtain ⟨c0, c1, c2, f0, f1, f2⟩ := H4a.out.cells
  have H4 := Aside0.mk (H4a.out.store 1 (.int .i64 (sgn lo)))
  simp only [List.setIfInBounds_toArray, List.set_cons_zero, List.set_cons_succ] at H4
  clear H4a
  go_wp2_with fail
  refine (wfour H4.out.rdr).mono ?_
  rintro e w4 ⟨rfl, hs, hg⟩
  rw [HE.out.2.2.2] at hs ⊢
  have H5a := Aside0.mk (H4.out.call hs hg)
  clear hs hg H4 c0 c1 c2 f0 f1 f2
  obtain ⟨c0, c1, c2, f0, f1, f2⟩ := H5a.out.cells
  have H5 := Aside0.mk (H5a.out.store 2 (.int .i64 (sgn hi)))
  simp only [List.setIfInBounds_toArray, List.set_cons_zero, List.set_cons_succ] at H5
  clear H5a
  go_wp2_with fail
  have hz := H5.out.three hne.out (.string (strOfNums t)) (.int .i64 (sgn lo)) (.int .i64 (sgn hi))
  refine bodyPost_ret (results_cell_row (P := Try.prog) (ty := 46) (p := 2) rfl _ _ w.heap.size 46 _ (0, 0) _ rfl hz.1 Try.underlying46 rfl info_rg) rfl ?_
  exact ⟨rfl, hz.2.1, hz.2.2⟩
end Go.Proofs.Ytkdhcmmfklganaa
end

section
/- a subscription is read, walked -/
set_option linter.unusedVariables false
set_option linter.unusedSimpArgs false
set_option autoImplicit false
namespace Go.Proofs.Ytkdhcmmfklganaa
open Go.RowKit Go.Proofs.YtkdhcmmfklganaaW.PrintWords Go.Proofs.YtkdhcmmfklganaaW.PrintLast Go.Proofs.YtkdhcmmfklganaaW.PrintMore Go.Proofs.Ytkdhcmmfklganaa.G

section
variable {P : Program} {ops : Array Oper} {o : Oper} {a : Act} {Q : Exit → Act → World → Prop} {Kc : Act → World → Prop} {α : Type} {E : Prop}
theorem step_append_kd (d : Kd α) {w0 W : World} (base : Nat) (hw : Region.wanted o (yielded ops a.tmps) = true) (s x : Operand) (t e : TypeId) (z : Value) (bytes : Nat)
    (ho : o.op = .call { callee := .builtin .append, args := #[s, x], argTypes := #[t, t] })
    (ht : P.underlying t = some (.slice e)) (hinfo : (P.info? e).map (fun i => (i.zero, i.size, i.bytes)) = some (some z, d.sz, bytes)) (hz : z.cells.size = d.sz) (hs0 : 0 < d.sz) (hb0 : 0 < bytes)
    (v : Value) (xs : List α) (p : α) (cs : List Value) (ok okp : Nat → Prop) (hs : a.eval s = v) (hx : a.eval x = .slice (some ⟨W.heap.size, 0, none⟩) 1 1) (hp : d.M W base okp p cs) (hokp : ∀ k, okp k → ok k ∧ some k ≠ v.ownBlock) (hfresh : ∀ k, W.heap.size ≤ k → ok k)
    (HO : d.R e W base ok v xs) (HB : Below base w0 W) (hbase : base ≤ W.heap.size) (hl : (xs.length + 1) * bytes ≤ 140737488355328)
    (h : ∀ v1 w1, d.R e w1 base ok v1 (xs ++ [p]) → Below base w0 w1 → W.grownBy w1 v.ownBlock → (v1.ownBlock = v.ownBlock ∨ ∃ b, v1.ownBlock = some b ∧ W.heap.size ≤ b) → Kc (a.put o.dst v1) w1) :
    if Region.wanted o (yielded ops a.tmps) = true then Oper.wp P o a (W.alloc (.cells cs.toArray e)) Kc Q else E := by
  have h1 := Kd.R_append_step (ops := ops) (Q := Q) d base hw s x t e z bytes ho ht hinfo hz hs0 hb0 v xs p cs ok okp hs hx hp hokp hfresh HO HB hbase hl h
  rw [if_pos hw] at h1 ⊢
  exact h1
end
theorem info_rg3 : (Try.prog.info? 46).map (fun i => (i.zero, i.size, i.bytes)) = some (some (.agg #[.string ByteArray.empty, .int .i64 0, .int .i64 0]), 3, 32) := by kernel_rfl
theorem info_sb : (Try.prog.info? 40).map (·.size) = some 3 := by kernel_rfl
def subP : Sc → S40 × Sc := Pars.bnd (fun s => s.num 2) fun id => Pars.bnd (fun s => s.num 2) fun fr => Pars.bnd (fun s => s.count 12) fun n => Pars.bnd (Pars.rep rgP n.toNat) fun rs s => (⟨id, fr, rs⟩, s)
theorem cells3r {W : World} {b T : Nat} {x y z : Value} (h : W.heap[b]? = some (.cells #[x, y, z] T (0, 0))) :
    (W.cell? ⟨b, 0, none⟩ = some x ∧ W.cell? ⟨b, 1, none⟩ = some y ∧ W.cell? ⟨b, 2, none⟩ = some z) ∧ W.frozen? ⟨b, 0, none⟩ = false ∧ W.frozen? ⟨b, 1, none⟩ = false ∧ W.frozen? ⟨b, 2, none⟩ = false :=
  ⟨⟨by rw [cell_of_row _ _ _ _ _ _ h]; rfl, by rw [cell_of_row _ _ _ _ _ _ h]; rfl, by rw [cell_of_row _ _ _ _ _ _ h]; rfl⟩, frozen_of_row _ _ _ _ _ h, frozen_of_row _ _ _ _ _ h, frozen_of_row _ _ _ _ _ h⟩
/-- where a loop over ranges stands -/
def Sub1 (S : Nat → Prop) (w wr : World) (g : Nat) (s : Sc) (id fr : Int) (v : Value) (rs : List S46) : Prop :=
  Own1 58 40 (fun k => S k ∧ k < w.heap.size) w wr g s #[.int .i64 id, .int .i64 fr, v] ∧ k46.R 46 wr (w.heap.size + 1) (fun k => w.heap.size < k) v rs
theorem Sub1.below {S : Nat → Prop} {w wr wy : World} {g : Nat} {s : Sc} {id fr : Int} {v : Value} {rs : List S46} (h : Sub1 S w wr g s id fr v rs) (hb : Below wr.heap.size wr wy) : Sub1 S w wy g s id fr v rs :=
  ⟨h.1.below hb, Kd.R_below h.2 hb⟩
theorem Sub1.call {S : Nat → Prop} {w wr wy : World} {g : Nat} {s s' : Sc} {id fr : Int} {v : Value} {rs : List S46} (h : Sub1 S w wr g s id fr v rs) (hr : Rdr 58 (fun k => S k ∧ k < w.heap.size) wy g s') (hg : wr.grownBy wy (some g)) : Sub1 S w wy g s' id fr v rs :=
  ⟨h.1.call hr hg, Kd.R_grown h.2 hg (fun k hk e => by cases e; have := h.1.lt; omega)⟩
theorem Sub1.put {S : Nat → Prop} {w wr wy : World} {g : Nat} {s : Sc} {id fr : Int} {v v1 : Value} {rs rs1 : List S46} (h : Sub1 S w wr g s id fr v rs) (hb : Below (w.heap.size + 1) wr wy) (hr : k46.R 46 wy (w.heap.size + 1) (fun k => w.heap.size < k) v1 rs1) :
    Sub1 S w (wy.setCell ⟨w.heap.size, 2, none⟩ v1) g s id fr v1 rs1 := by
  have hlt := h.1.lt
  have hk : ∀ k, k < w.heap.size + 1 → wy.heap[k]? = wr.heap[k]? := fun k hk => hb.block k hk
  have h1 : Own1 58 40 (fun k => S k ∧ k < w.heap.size) w wy g s #[.int .i64 id, .int .i64 fr, v] :=
    ⟨by rw [hk _ (by omega)]; exact h.1.heap, h.1.rdr.keep (fun k _ hs => hk k (by rcases hs with rfl | hs; omega; have := hs.2; omega)), h.1.low, h.1.lt, ⟨hb.os.trans h.1.grown.os, hb.tape.trans h.1.grown.tape, hb.output.trans h.1.grown.output, Nat.le_trans h.1.grown.size hb.size, fun k hk' hne => (hk k (by omega)).trans (h.1.grown.block k hk' hne)⟩⟩
  exact ⟨h1.store 2 v1, Kd.R_far (p := ⟨w.heap.size, 2, none⟩) hr (fun k hk e => by have h2 : k = w.heap.size := e; omega) v1⟩
set_option maxRecDepth 100000 in
set_option maxHeartbeats 4000000 in
theorem wsub {S : Nat → Prop} {w : World} {g : Nat} {s : Sc} (h : Rdr 58 S w g s) :
    Calls Try.prog 28 #[.pointer (some ⟨g, 0, none⟩)] w fun r w' => ∃ v, r = .returned (.agg #[.int .i64 (subP s).1.f0, .int .i64 (subP s).1.f1, v]) ∧ k46.R 46 w' w.heap.size (fun k => w.heap.size ≤ k) v (subP s).1.f2 ∧ Rdr 58 S w' g (subP s).2 ∧ w.grownBy w' (some g) := by
  have hne := Aside0.mk h.ne
  have hu := h.u8
  have H0 := Aside0.mk (Own1.start (U := 40) h #[.int .i64 0, .int .i64 0, .slice none 0 0])
  clear h
  obtain ⟨id, s1, h1⟩ : ∃ t q, s.num 2 = (t, q) := ⟨_, _, rfl⟩
  obtain ⟨fr, s2, h2⟩ : ∃ t q, s1.num 2 = (t, q) := ⟨_, _, rfl⟩
  have hu1 : u8s s1.l := by have := Sc.num_u8s hu 2; rwa [h1] at this
  have hu2 : u8s s2.l := by have := Sc.num_u8s hu1 2; rwa [h2] at this
  have hcl : 0 ≤ (s2.count 12).1 ∧ (s2.count 12).1 ≤ 12 := Sc.count_le hu2 12
  obtain ⟨n0, s3, h3⟩ : ∃ (n : Nat) (q : Sc), s2.count 12 = ((n : Int), q) := ⟨(s2.count 12).1.toNat, (s2.count 12).2, by rw [Int.toNat_of_nonneg hcl.1]⟩
  have hn0 : n0 ≤ 12 := by rw [h3] at hcl; simp only at hcl; omega
  have hP : subP s = (⟨id, fr, (Pars.rep rgP n0 s3).1⟩, (Pars.rep rgP n0 s3).2) := by
    have e : subP s = (⟨(s.num 2).1, ((s.num 2).2.num 2).1, (Pars.rep rgP (((s.num 2).2.num 2).2.count 12).1.toNat (((s.num 2).2.num 2).2.count 12).2).1⟩, (Pars.rep rgP (((s.num 2).2.num 2).2.count 12).1.toNat (((s.num 2).2.num 2).2.count 12).2).2) := rfl
    rw [e, h1]
    simp only
    rw [h2]
    simp only
    rw [h3]
    simp only
    rw [Int.toNat_natCast]
  rw [hP]
  have HE := Aside0.mk (And.intro h1 (And.intro h2 h3))
  clear hP hcl hu hu1 hu2 h1 h2 h3
  go_enter Try.func28, Try.ntmps28
  go_wp2_with fail
  refine (wtwo H0.out.rdr).mono ?_
  rintro e w1 ⟨rfl, hs, hg⟩
  rw [HE.out.1] at hs ⊢
  have H1a := Aside0.mk (H0.out.call hs hg)
  clear hs hg H0
  obtain ⟨c0, c1, c2, f0, f1, f2⟩ := H1a.out.cells
  have H1 := Aside0.mk (H1a.out.store 0 (.int .i64 id))
  simp only [List.setIfInBounds_toArray, List.set_cons_zero, List.set_cons_succ] at H1
  clear H1a
  go_wp2_with fail
  refine (wtwo H1.out.rdr).mono ?_
  rintro e w2 ⟨rfl, hs, hg⟩
  rw [HE.out.2.1] at hs ⊢
  have H2a := Aside0.mk (H1.out.call hs hg)
  clear hs hg H1 c0 c1 c2 f0 f1 f2
  obtain ⟨c0, c1, c2, f0, f1, f2⟩ := H2a.out.cells
  have H2 := Aside0.mk (H2a.out.store 1 (.int .i64 fr))
  simp only [List.setIfInBounds_toArray, List.set_cons_zero, List.set_cons_succ] at H2
  clear H2a
  go_wp2_with fail
  refine (wcount H2.out.rdr 12 (by decide)).mono ?_
  rintro e w3 ⟨rfl, hs, hg⟩
  rw [show s2.count ((12 : Nat) : Int) = ((n0 : Int), s3) from HE.out.2.2] at hs ⊢
  have H3 := Aside0.mk (H2.out.call hs hg)
  clear hs hg H2 c0 c1 c2 f0 f1 f2 HE
  have HS := Aside0.mk (show Sub1 S w w3 g s3 id fr (.slice none 0 0) [] from ⟨H3.out, Kd.R_nil _ _ _ _ _⟩)
  clear H3
  go_wp2_with fail
  go_loopw [3] (fun n wr => ∃ (m : Nat) (s : Sc) (v : Value) (rs : List S46), n = .int .i64 m ∧ m ≤ 12 ∧ Aside0 (rs.length + m ≤ 12) ∧ Aside0 (Pars.rep rgP n0 s3 = (rs ++ (Pars.rep rgP m s).1, (Pars.rep rgP m s).2)) ∧ Aside0 (Sub1 S w wr g s id fr v rs)) (fun n _ => (intOf n).toNat)
  case atStart => exact ⟨n0, s3, _, [], rfl, hn0, ⟨by simpa using hn0⟩, ⟨by simp⟩, HS⟩
  case round =>
    obtain ⟨m, s, v, rs, rfl, hm, HL, HR, HW⟩ := hrel
    obtain ⟨Av, cv, rfl⟩ := Kd.R_slice HW.out.2
    clear HS
    obtain ⟨A, c, d0, d1, d2, d3, e0, e1, f0, f1⟩ := HW.out.1.rdr.cells
    clear d0 d1 d2 d3
    obtain ⟨c0, c1, c2, g0, g1, g2⟩ := HW.out.1.cells
    by_cases hm0 : m = 0
    · subst hm0
      have HF := Aside0.mk (show Pars.rep rgP n0 s3 = (rs, s) by rw [HR.out]; simp [Pars.rep])
      go_wp2
      have hz := HW.out.1.three hne.out (.int .i64 id) (.int .i64 fr) (.slice Av rs.length cv)
      have hr3 := Kd.R_far (p := ⟨w.heap.size, 2, none⟩) (Kd.R_far (p := ⟨w.heap.size, 1, none⟩) (Kd.R_far (p := ⟨w.heap.size, 0, none⟩) HW.out.2 (fun k hk e => by have h2 : k = w.heap.size := e; omega) (.int .i64 id)) (fun k hk e => by have h2 : k = w.heap.size := e; omega) (.int .i64 fr)) (fun k hk e => by have h2 : k = w.heap.size := e; omega) (.slice Av rs.length cv)
      refine bodyPost_ret (results_cell_row (P := Try.prog) (ty := 40) (p := 2) rfl _ _ w.heap.size 40 _ (0, 0) _ rfl hz.1 Try.underlying40 rfl info_sb) rfl ?_
      exact ⟨_, rfl, by rw [HF.out]; exact Kd.R_lower (Kd.R_mono hr3 (fun k hk => by omega)) (by omega), by rw [HF.out]; exact hz.2.1, hz.2.2⟩
    by_cases hs0 : s.e = 0
    · have b0 : (s.e == 0) = true := by simp [hs0]
      have hm1 : 0 < m := by omega
      have HN := Aside0.mk (show Pars.rep rgP n0 s3 = ((rs ++ [(rgP s).1]) ++ (Pars.rep rgP (m - 1) (rgP s).2).1, (Pars.rep rgP (m - 1) (rgP s).2).2) by
        rw [HR.out]
        obtain ⟨m, rfl⟩ : ∃ k, m = k + 1 := ⟨m - 1, by omega⟩
        rw [Pars.rep, if_pos hs0]
        simp)
      have SZ := Aside0.mk (lt_of_heap HW.out.1.heap)
      clear hs0 hm0 HR
      go_upto_region 6 with fail
      clear c0 c1 c2 g0 g1 g2 e0 e1 f0 f1 b0
      have H1 := Aside0.mk (HW.out.below (below_drew (Below.refl _ _)))
      obtain ⟨c0, c1, c2, g0, g1, g2⟩ := H1.out.1.cells
      refine wp_region_held_drew (S := (fun _ => True)) (by kernel_rfl) trivial (fun hHeld => ?_)
      refine wpAnyH_take (i := 0) (oi := { dst := some 23, op := Op.fieldAddr 40 (Operand.tmp 2) 2, type := 0, pos := "first.go:128", after := #[], guard := none }) (v := ?_) rfl (by kernel_rfl) (by kernel_rfl) (by kernel_rfl) (fun _ _ _ h => h) (Or.inl ⟨by rfl, ?_⟩) (by assumption) ?_
      rotate_left
      · intro w hSw
        try dsimp only at hSw
        go_simp
        all_goals with_reducible rfl
      try simp only [Act.put, List.setIfInBounds_toArray, List.set_cons_zero, List.set_cons_succ]
      refine wpAnyH_take (i := 2) (oi := { dst := some 25, op := Op.move (Operand.tmp 0), type := 56, pos := "first.go:128", after := #[], guard := none }) (v := ?_) rfl (by kernel_rfl) (by kernel_rfl) (by kernel_rfl) (fun _ _ _ h => h) (Or.inl ⟨by rfl, ?_⟩) (by assumption) ?_
      rotate_left
      · intro w hSw
        try dsimp only at hSw
        go_simp
        all_goals with_reducible rfl
      try simp only [Act.put, List.setIfInBounds_toArray, List.set_cons_zero, List.set_cons_succ]
      refine wpAnyH_ready (rs := [1, 3]) (by kernel_rfl) (by simp) ?_
      refine AllReadyH.cons (o := { dst := some 24, op := Op.load 37 (Operand.tmp 23), type := 37, pos := "first.go:128", after := #[{ on := 0, ground := Ground.data }], guard := none }) rfl (fun K hK => ?_) ?_
      · skip
        go_simp
        refine hK.out _ _ trivial (fun hHeld => ?_)
        clear hK K
        try simp only [Act.put, List.setIfInBounds_toArray, List.set_cons_zero, List.set_cons_succ]
        refine wpAnyH_ready (rs := [3]) (by kernel_rfl) (by simp) ?_
        refine AllReadyH.cons (o := { dst := some 26, op := Op.call { callee := Callee.value (Operand.func 47), args := #[Operand.tmp 25], argTypes := #[56] }, type := 46, pos := "first.go:128", after := #[{ on := 2, ground := Ground.data }], guard := none }) rfl (fun K hK => ?_) AllReadyH.nil
        go_simp
        (refine (wrange H1.out.1.rdr).mono ?_; rintro e w2 ⟨rfl, hs, hg⟩; have H2 := Aside0.mk (H1.out.call hs hg); clear hs hg; have q2 := H2.out.1.cells.2.2.1; have q5 := H2.out.1.cells.2.2.2.2.2; have H3 := Aside0.mk (H2.out.below ((Below.refl _ _).alloc (Nat.le_refl _) (.cells #[.string (rgP s).1.f0, .int .i64 (rgP s).1.f1, .int .i64 (rgP s).1.f2] 46))); have z2 := H3.out.1.cells.2.2.1)
        go_wp2_with fail
        refine hK.out _ _ trivial (fun hHeld => ?_)
        clear hK K
        try simp only [Act.put, List.setIfInBounds_toArray, List.set_cons_zero, List.set_cons_succ]
        refine wpAnyH_ready (rs := [4]) (by kernel_rfl) (by simp) ?_
        refine AllReadyH.cons (o := { dst := some 27, op := Op.buildSlice 37 1 #[(0, Operand.tmp 26)], type := 37, pos := "first.go:128", after := #[{ on := 3, ground := Ground.data }], guard := none }) rfl (fun K hK => ?_) AllReadyH.nil
        go_simp
        refine hK.out _ _ trivial (fun hHeld => ?_)
        clear hK K
        try simp only [Act.put, List.setIfInBounds_toArray, List.set_cons_zero, List.set_cons_succ]
        refine wpAnyH_ready (rs := [5]) (by kernel_rfl) (by simp) ?_
        refine AllReadyH.cons (o := { dst := some 28, op := Op.call { callee := Callee.builtin Builtin.append, args := #[Operand.tmp 24, Operand.tmp 27], argTypes := #[37, 37] }, type := 37, pos := "first.go:128", after := #[{ on := 1, ground := Ground.data }, { on := 4, ground := Ground.data }, { on := 3, ground := Ground.chain }], guard := none }) rfl (fun K hK => ?_) AllReadyH.nil
        (refine step_append_kd k46 (w0 := w2) (w.heap.size + 1) (by rfl) (.tmp 24) (.tmp 27) 37 46 _ 32 rfl Try.underlying37 info_rg3 rfl (by decide) (by decide) (.slice Av rs.length cv) rs (rgP s).1 [.string (rgP s).1.f0, .int .i64 (rgP s).1.f1, .int .i64 (rgP s).1.f2] (fun k => w.heap.size < k) (fun _ => False) rfl rfl (k46_mkM _ _ _ _) (fun _ hk => hk.elim) (fun k hk => by have := lt_of_heap H2.out.1.heap; omega) H2.out.2 (Below.refl _ _) (by have := lt_of_heap H2.out.1.heap; omega) (by have := HL.out; omega) ?_; intro v1 w4 hR4 hB4 _ _; obtain ⟨ra, hra⟩ : ∃ l, rs ++ [(rgP s).1] = l := ⟨_, rfl⟩; rw [hra] at hR4; have RA := Aside0.mk hra; clear hra; obtain ⟨A1, c1', rfl⟩ := Kd.R_slice hR4; have H4 := Aside0.mk (H2.out.put hB4 hR4); obtain ⟨⟨y0, y1, y2⟩, y3, y4, y5⟩ := cells3r (show w4.heap[w.heap.size]? = _ from by rw [hB4.block _ (by omega)]; exact H2.out.1.heap); clear hR4 hB4)
        refine hK.out _ _ trivial (fun hHeld => ?_)
        clear hK K
        try simp only [Act.put, List.setIfInBounds_toArray, List.set_cons_zero, List.set_cons_succ]
        refine wpAnyH_take (i := 6) (oi := { dst := some 29, op := Op.fieldAddr 40 (Operand.tmp 2) 2, type := 0, pos := "first.go:128", after := #[{ on := 0, ground := Ground.phase }, { on := 1, ground := Ground.phase }, { on := 2, ground := Ground.phase }, { on := 3, ground := Ground.phase }, { on := 4, ground := Ground.phase }, { on := 5, ground := Ground.phase }], guard := none }) (v := ?_) rfl (by kernel_rfl) (by kernel_rfl) (by kernel_rfl) (fun _ _ _ h => h) (Or.inl ⟨by rfl, ?_⟩) (by assumption) ?_
        rotate_left
        · intro w hSw
          try dsimp only at hSw
          go_simp
          all_goals with_reducible rfl
        try simp only [Act.put, List.setIfInBounds_toArray, List.set_cons_zero, List.set_cons_succ]
        refine wpAnyH_ready (rs := [7]) (by kernel_rfl) (by simp) ?_
        refine AllReadyH.cons (o := { dst := none, op := Op.store 37 (Operand.tmp 29) (Operand.tmp 28), type := 0, pos := "first.go:128", after := #[{ on := 6, ground := Ground.data }, { on := 5, ground := Ground.data }, { on := 5, ground := Ground.chain }, { on := 0, ground := Ground.phase }, { on := 1, ground := Ground.phase }, { on := 2, ground := Ground.phase }, { on := 3, ground := Ground.phase }, { on := 4, ground := Ground.phase }, { on := 5, ground := Ground.phase }], guard := none }) rfl (fun K hK => ?_) AllReadyH.nil
        go_simp
        refine hK.out _ _ trivial (fun hHeld => ?_)
        clear hK K
        try simp only [Act.put, List.setIfInBounds_toArray, List.set_cons_zero, List.set_cons_succ]
        refine wpAnyH_done (by kernel_rfl) ?_ _
        go_wp2_with fail
        exact ⟨⟨m - 1, (rgP s).2, _, _, by rw [show ((m - 1 : Nat) : Int) = (m : Int) - 1 by omega], by omega, ⟨by rw [← RA.out, List.length_append, List.length_singleton]; have := HL.out; omega⟩, ⟨by rw [← RA.out]; exact HN.out⟩, H4⟩, by simp [intOf]; omega⟩
      refine AllReadyH.cons (o := { dst := some 26, op := Op.call { callee := Callee.value (Operand.func 47), args := #[Operand.tmp 25], argTypes := #[56] }, type := 46, pos := "first.go:128", after := #[{ on := 2, ground := Ground.data }], guard := none }) rfl (fun K hK => ?_) AllReadyH.nil
      go_simp
      (refine (wrange H1.out.1.rdr).mono ?_; rintro e w2 ⟨rfl, hs, hg⟩; have H2 := Aside0.mk (H1.out.call hs hg); clear hs hg; have q2 := H2.out.1.cells.2.2.1; have q5 := H2.out.1.cells.2.2.2.2.2; have H3 := Aside0.mk (H2.out.below ((Below.refl _ _).alloc (Nat.le_refl _) (.cells #[.string (rgP s).1.f0, .int .i64 (rgP s).1.f1, .int .i64 (rgP s).1.f2] 46))); have z2 := H3.out.1.cells.2.2.1)
      go_wp2_with fail
      refine hK.out _ _ trivial (fun hHeld => ?_)
      clear hK K
      try simp only [Act.put, List.setIfInBounds_toArray, List.set_cons_zero, List.set_cons_succ]
      refine wpAnyH_ready (rs := [1, 4]) (by kernel_rfl) (by simp) ?_
      refine AllReadyH.cons (o := { dst := some 24, op := Op.load 37 (Operand.tmp 23), type := 37, pos := "first.go:128", after := #[{ on := 0, ground := Ground.data }], guard := none }) rfl (fun K hK => ?_) ?_
      · skip
        go_simp
        refine hK.out _ _ trivial (fun hHeld => ?_)
        clear hK K
        try simp only [Act.put, List.setIfInBounds_toArray, List.set_cons_zero, List.set_cons_succ]
        refine wpAnyH_ready (rs := [4]) (by kernel_rfl) (by simp) ?_
        refine AllReadyH.cons (o := { dst := some 27, op := Op.buildSlice 37 1 #[(0, Operand.tmp 26)], type := 37, pos := "first.go:128", after := #[{ on := 3, ground := Ground.data }], guard := none }) rfl (fun K hK => ?_) AllReadyH.nil
        go_simp
        refine hK.out _ _ trivial (fun hHeld => ?_)
        clear hK K
        try simp only [Act.put, List.setIfInBounds_toArray, List.set_cons_zero, List.set_cons_succ]
        refine wpAnyH_ready (rs := [5]) (by kernel_rfl) (by simp) ?_
        refine AllReadyH.cons (o := { dst := some 28, op := Op.call { callee := Callee.builtin Builtin.append, args := #[Operand.tmp 24, Operand.tmp 27], argTypes := #[37, 37] }, type := 37, pos := "first.go:128", after := #[{ on := 1, ground := Ground.data }, { on := 4, ground := Ground.data }, { on := 3, ground := Ground.chain }], guard := none }) rfl (fun K hK => ?_) AllReadyH.nil
        (refine step_append_kd k46 (w0 := w2) (w.heap.size + 1) (by rfl) (.tmp 24) (.tmp 27) 37 46 _ 32 rfl Try.underlying37 info_rg3 rfl (by decide) (by decide) (.slice Av rs.length cv) rs (rgP s).1 [.string (rgP s).1.f0, .int .i64 (rgP s).1.f1, .int .i64 (rgP s).1.f2] (fun k => w.heap.size < k) (fun _ => False) rfl rfl (k46_mkM _ _ _ _) (fun _ hk => hk.elim) (fun k hk => by have := lt_of_heap H2.out.1.heap; omega) H2.out.2 (Below.refl _ _) (by have := lt_of_heap H2.out.1.heap; omega) (by have := HL.out; omega) ?_; intro v1 w4 hR4 hB4 _ _; obtain ⟨ra, hra⟩ : ∃ l, rs ++ [(rgP s).1] = l := ⟨_, rfl⟩; rw [hra] at hR4; have RA := Aside0.mk hra; clear hra; obtain ⟨A1, c1', rfl⟩ := Kd.R_slice hR4; have H4 := Aside0.mk (H2.out.put hB4 hR4); obtain ⟨⟨y0, y1, y2⟩, y3, y4, y5⟩ := cells3r (show w4.heap[w.heap.size]? = _ from by rw [hB4.block _ (by omega)]; exact H2.out.1.heap); clear hR4 hB4)
        refine hK.out _ _ trivial (fun hHeld => ?_)
        clear hK K
        try simp only [Act.put, List.setIfInBounds_toArray, List.set_cons_zero, List.set_cons_succ]
        refine wpAnyH_take (i := 6) (oi := { dst := some 29, op := Op.fieldAddr 40 (Operand.tmp 2) 2, type := 0, pos := "first.go:128", after := #[{ on := 0, ground := Ground.phase }, { on := 1, ground := Ground.phase }, { on := 2, ground := Ground.phase }, { on := 3, ground := Ground.phase }, { on := 4, ground := Ground.phase }, { on := 5, ground := Ground.phase }], guard := none }) (v := ?_) rfl (by kernel_rfl) (by kernel_rfl) (by kernel_rfl) (fun _ _ _ h => h) (Or.inl ⟨by rfl, ?_⟩) (by assumption) ?_
        rotate_left
        · intro w hSw
          try dsimp only at hSw
          go_simp
          all_goals with_reducible rfl
        try simp only [Act.put, List.setIfInBounds_toArray, List.set_cons_zero, List.set_cons_succ]
        refine wpAnyH_ready (rs := [7]) (by kernel_rfl) (by simp) ?_
        refine AllReadyH.cons (o := { dst := none, op := Op.store 37 (Operand.tmp 29) (Operand.tmp 28), type := 0, pos := "first.go:128", after := #[{ on := 6, ground := Ground.data }, { on := 5, ground := Ground.data }, { on := 5, ground := Ground.chain }, { on := 0, ground := Ground.phase }, { on := 1, ground := Ground.phase }, { on := 2, ground := Ground.phase }, { on := 3, ground := Ground.phase }, { on := 4, ground := Ground.phase }, { on := 5, ground := Ground.phase }], guard := none }) rfl (fun K hK => ?_) AllReadyH.nil
        go_simp
        refine hK.out _ _ trivial (fun hHeld => ?_)
        clear hK K
        try simp only [Act.put, List.setIfInBounds_toArray, List.set_cons_zero, List.set_cons_succ]
        refine wpAnyH_done (by kernel_rfl) ?_ _
        go_wp2_with fail
        exact ⟨⟨m - 1, (rgP s).2, _, _, by rw [show ((m - 1 : Nat) : Int) = (m : Int) - 1 by omega], by omega, ⟨by rw [← RA.out, List.length_append, List.length_singleton]; have := HL.out; omega⟩, ⟨by rw [← RA.out]; exact HN.out⟩, H4⟩, by simp [intOf]; omega⟩
      refine AllReadyH.cons (o := { dst := some 27, op := Op.buildSlice 37 1 #[(0, Operand.tmp 26)], type := 37, pos := "first.go:128", after := #[{ on := 3, ground := Ground.data }], guard := none }) rfl (fun K hK => ?_) AllReadyH.nil
      go_simp
      refine hK.out _ _ trivial (fun hHeld => ?_)
      clear hK K
      try simp only [Act.put, List.setIfInBounds_toArray, List.set_cons_zero, List.set_cons_succ]
      refine wpAnyH_ready (rs := [1]) (by kernel_rfl) (by simp) ?_
      refine AllReadyH.cons (o := { dst := some 24, op := Op.load 37 (Operand.tmp 23), type := 37, pos := "first.go:128", after := #[{ on := 0, ground := Ground.data }], guard := none }) rfl (fun K hK => ?_) AllReadyH.nil
      go_simp
      refine hK.out _ _ trivial (fun hHeld => ?_)
      clear hK K
      try simp only [Act.put, List.setIfInBounds_toArray, List.set_cons_zero, List.set_cons_succ]
      refine wpAnyH_ready (rs := [5]) (by kernel_rfl) (by simp) ?_
      refine AllReadyH.cons (o := { dst := some 28, op := Op.call { callee := Callee.builtin Builtin.append, args := #[Operand.tmp 24, Operand.tmp 27], argTypes := #[37, 37] }, type := 37, pos := "first.go:128", after := #[{ on := 1, ground := Ground.data }, { on := 4, ground := Ground.data }, { on := 3, ground := Ground.chain }], guard := none }) rfl (fun K hK => ?_) AllReadyH.nil
      (refine step_append_kd k46 (w0 := w2) (w.heap.size + 1) (by rfl) (.tmp 24) (.tmp 27) 37 46 _ 32 rfl Try.underlying37 info_rg3 rfl (by decide) (by decide) (.slice Av rs.length cv) rs (rgP s).1 [.string (rgP s).1.f0, .int .i64 (rgP s).1.f1, .int .i64 (rgP s).1.f2] (fun k => w.heap.size < k) (fun _ => False) rfl rfl (k46_mkM _ _ _ _) (fun _ hk => hk.elim) (fun k hk => by have := lt_of_heap H2.out.1.heap; omega) H2.out.2 (Below.refl _ _) (by have := lt_of_heap H2.out.1.heap; omega) (by have := HL.out; omega) ?_; intro v1 w4 hR4 hB4 _ _; obtain ⟨ra, hra⟩ : ∃ l, rs ++ [(rgP s).1] = l := ⟨_, rfl⟩; rw [hra] at hR4; have RA := Aside0.mk hra; clear hra; obtain ⟨A1, c1', rfl⟩ := Kd.R_slice hR4; have H4 := Aside0.mk (H2.out.put hB4 hR4); obtain ⟨⟨y0, y1, y2⟩, y3, y4, y5⟩ := cells3r (show w4.heap[w.heap.size]? = _ from by rw [hB4.block _ (by omega)]; exact H2.out.1.heap); clear hR4 hB4)
      refine hK.out _ _ trivial (fun hHeld => ?_)
      clear hK K
      try simp only [Act.put, List.setIfInBounds_toArray, List.set_cons_zero, List.set_cons_succ]
      refine wpAnyH_take (i := 6) (oi := { dst := some 29, op := Op.fieldAddr 40 (Operand.tmp 2) 2, type := 0, pos := "first.go:128", after := #[{ on := 0, ground := Ground.phase }, { on := 1, ground := Ground.phase }, { on := 2, ground := Ground.phase }, { on := 3, ground := Ground.phase }, { on := 4, ground := Ground.phase }, { on := 5, ground := Ground.phase }], guard := none }) (v := ?_) rfl (by kernel_rfl) (by kernel_rfl) (by kernel_rfl) (fun _ _ _ h => h) (Or.inl ⟨by rfl, ?_⟩) (by assumption) ?_
      rotate_left
      · intro w hSw
        try dsimp only at hSw
        go_simp
        all_goals with_reducible rfl
      try simp only [Act.put, List.setIfInBounds_toArray, List.set_cons_zero, List.set_cons_succ]
      refine wpAnyH_ready (rs := [7]) (by kernel_rfl) (by simp) ?_
      refine AllReadyH.cons (o := { dst := none, op := Op.store 37 (Operand.tmp 29) (Operand.tmp 28), type := 0, pos := "first.go:128", after := #[{ on := 6, ground := Ground.data }, { on := 5, ground := Ground.data }, { on := 5, ground := Ground.chain }, { on := 0, ground := Ground.phase }, { on := 1, ground := Ground.phase }, { on := 2, ground := Ground.phase }, { on := 3, ground := Ground.phase }, { on := 4, ground := Ground.phase }, { on := 5, ground := Ground.phase }], guard := none }) rfl (fun K hK => ?_) AllReadyH.nil
      go_simp
      refine hK.out _ _ trivial (fun hHeld => ?_)
      clear hK K
      try simp only [Act.put, List.setIfInBounds_toArray, List.set_cons_zero, List.set_cons_succ]
      refine wpAnyH_done (by kernel_rfl) ?_ _
      go_wp2_with fail
      exact ⟨⟨m - 1, (rgP s).2, _, _, by rw [show ((m - 1 : Nat) : Int) = (m : Int) - 1 by omega], by omega, ⟨by rw [← RA.out, List.length_append, List.length_singleton]; have := HL.out; omega⟩, ⟨by rw [← RA.out]; exact HN.out⟩, H4⟩, by simp [intOf]; omega⟩
    · have b0 : (s.e == 0) = false := by simp [hs0]
      have HF := Aside0.mk (show Pars.rep rgP n0 s3 = (rs, s) by
        rw [HR.out]
        obtain ⟨m, rfl⟩ : ∃ k, m = k + 1 := ⟨m - 1, by omega⟩
        rw [Pars.rep, if_neg hs0]
        simp)
      clear hs0
      go_wp2
      have hz := HW.out.1.three hne.out (.int .i64 id) (.int .i64 fr) (.slice Av rs.length cv)
      have hr3 := Kd.R_far (p := ⟨w.heap.size, 2, none⟩) (Kd.R_far (p := ⟨w.heap.size, 1, none⟩) (Kd.R_far (p := ⟨w.heap.size, 0, none⟩) HW.out.2 (fun k hk e => by have h2 : k = w.heap.size := e; omega) (.int .i64 id)) (fun k hk e => by have h2 : k = w.heap.size := e; omega) (.int .i64 fr)) (fun k hk e => by have h2 : k = w.heap.size := e; omega) (.slice Av rs.length cv)
      refine bodyPost_ret (results_cell_row (P := Try.prog) (ty := 40) (p := 2) rfl _ _ w.heap.size 40 _ (0, 0) _ rfl hz.1 Try.underlying40 rfl info_sb) rfl ?_
      exact ⟨_, rfl, by rw [HF.out]; exact Kd.R_lower (Kd.R_mono hr3 (fun k hk => by omega)) (by omega), by rw [HF.out]; exact hz.2.1, hz.2.2⟩
end Go.Proofs.Ytkdhcmmfklganaa
end

section
/- slices.ContainsFunc at ranges and subscriptions, walked -/
set_option linter.unusedVariables false
set_option linter.unusedSimpArgs false
set_option autoImplicit false
namespace Go.Proofs.Ytkdhcmmfklganaa
open Go.RowKit Go.Proofs.YtkdhcmmfklganaaW.PrintWords Go.Proofs.YtkdhcmmfklganaaW.PrintLast Go.Proofs.YtkdhcmmfklganaaW.PrintMore Go.Proofs.Ytkdhcmmfklganaa.G

set_option maxRecDepth 100000 in
set_option maxHeartbeats 2000000 in
theorem any_wrong_index (p : S46 → Bool) (A : Option Addr) (c : Nat) (l : List S46) (w : World) (hC : Kd.C k46 w A l.length l)
    (hcl : ∀ (x : S46) (W : World), Below w.heap.size w W → x ∈ l → Calls Try.prog 37 #[.agg #[.string x.f0, .int .i64 x.f1, .int .i64 x.f2]] W fun e w' => e = .returned (.bool (p x)) ∧ Below W.heap.size W w') :
    Calls Try.prog 49 #[.slice A l.length c, .func (.func 37) #[] #[]] w fun e w' =>
      (∃ i : Int, e = .returned (.int .i64 i) ∧ ((i = -1 ∧ l.any p = false) ∨ (0 ≤ i ∧ l.any p = true))) ∧ Below w.heap.size w w' := by
  have HC := Aside0.mk hC
  have HL := Aside0.mk hcl
  have hl := hC.2.1
  clear hC hcl
  go_enter Try.func49, Try.ntmps49
  go_wp2_with fail
  go_loopw [8] (fun i wr => ∃ k : Nat, k ≤ l.length ∧ i = .int .i64 k ∧ Aside0 (l.any p = (l.drop k).any p) ∧ Below w.heap.size w wr) (fun i _ => l.length - (intOf i).toNat)
  case atStart => exact ⟨0, Nat.zero_le _, rfl, ⟨rfl⟩, Below.refl _ _⟩
  case round =>
    obtain ⟨k, hk, rfl, HN, hBr⟩ := hrel
    have HB := Aside0.mk hBr
    clear hBr
    by_cases hlt : k < l.length
    · obtain ⟨ad, rfl, h0, h1, h2⟩ := at_T46 (Kd.C_below HC.out HB.out) (k : Int) (by omega) (by omega)
      simp only [Int.toNat_natCast] at h0 h1 h2
      have hxl : rd_T46 l (k : Int) = l[k] := by simp [rd_T46, List.getD_eq_getElem?_getD, hlt]
      have hdr : l.drop k = l[k] :: l.drop (k + 1) := List.drop_eq_getElem_cons hlt
      have hmem : l[k] ∈ l := List.getElem_mem hlt
      rw [hxl] at h0 h1 h2
      have hcl0 := HL.out l[k] wr HB.out hmem
      generalize l[k] = x at h0 h1 h2 hdr hcl0
      have HD := Aside0.mk hdr
      clear hxl hdr hmem
      cases hb : p x with
      | true =>
        rw [hb] at hcl0
        have HT := Aside0.mk hb
        have hcl1 := Aside0.mk hcl0
        clear hb hcl0
        go_wp2_with (go_at_call 37; (with_reducible refine hcl1.out.mono ?_); rintro e w2 ⟨rfl, hB⟩; have HB2 : Aside0 (Below w.heap.size w w2) := ⟨HB.out.trans (hB.mono HB.out.size)⟩; clear hB)
        go_ret
        exact ⟨⟨k, rfl, .inr ⟨by omega, by rw [HN.out, HD.out, List.any_cons, HT.out]; rfl⟩⟩, HB2.out⟩
      | false =>
        rw [hb] at hcl0
        have HT := Aside0.mk hb
        have hcl1 := Aside0.mk hcl0
        clear hb hcl0
        go_wp2_with (go_at_call 37; (with_reducible refine hcl1.out.mono ?_); rintro e w2 ⟨rfl, hB⟩; have HB2 : Aside0 (Below w.heap.size w w2) := ⟨HB.out.trans (hB.mono HB.out.size)⟩; clear hB)
        exact ⟨⟨k + 1, by omega, by simp, ⟨by rw [HN.out, HD.out, List.any_cons, HT.out]; rfl⟩, HB2.out⟩, by simp [intOf]; omega⟩
    · obtain rfl : k = l.length := by omega
      go_wp2_with fail
      go_ret
      exact ⟨⟨-1, rfl, .inl ⟨rfl, by rw [HN.out]; simp⟩⟩, HB.out⟩
set_option maxHeartbeats 1000000 in
theorem any_wrong (p : S46 → Bool) (A : Option Addr) (c : Nat) (l : List S46) (w : World) (hC : Kd.C k46 w A l.length l)
    (hcl : ∀ (x : S46) (W : World), Below w.heap.size w W → x ∈ l → Calls Try.prog 37 #[.agg #[.string x.f0, .int .i64 x.f1, .int .i64 x.f2]] W fun e w' => e = .returned (.bool (p x)) ∧ Below W.heap.size W w') :
    Calls Try.prog 36 #[.slice A l.length c, .func (.func 37) #[] #[]] w fun e w' => e = .returned (.bool (l.any p)) ∧ Below w.heap.size w w' := by
  have HI := Aside0.mk (any_wrong_index p A c l w hC hcl)
  clear hC hcl
  go_enter Try.func36, Try.ntmps36
  go_wp2_with fail
  refine HI.out.mono ?_
  rintro e w1 ⟨⟨i, rfl, hi⟩, hB⟩
  rcases hi with ⟨rfl, ha⟩ | ⟨h0, ha⟩
  · have HA := Aside0.mk ha
    clear ha
    go_wp2
    go_ret
    exact ⟨by rw [HA.out]; rfl, hB⟩
  · have HA := Aside0.mk ha
    clear ha
    have h0' : decide (0 ≤ i) = true := decide_eq_true h0
    go_wp2
    go_ret
    exact ⟨by rw [HA.out]; rfl, hB⟩
set_option maxRecDepth 100000 in
set_option maxHeartbeats 2000000 in
theorem any_meets_index (p : S46 → Bool) (g : Nat) (A : Option Addr) (c : Nat) (l : List S46) (w : World) (hC : Kd.C k46 w A l.length l)
    (hcl : ∀ (x : S46) (W : World), Below w.heap.size w W → x ∈ l → Calls Try.prog 40 #[.agg #[.string x.f0, .int .i64 x.f1, .int .i64 x.f2], .pointer (some ⟨g, 0, none⟩)] W fun e w' => e = .returned (.bool (p x)) ∧ Below W.heap.size W w') :
    Calls Try.prog 49 #[.slice A l.length c, .func (.func 40) #[] #[.pointer (some ⟨g, 0, none⟩)]] w fun e w' =>
      (∃ i : Int, e = .returned (.int .i64 i) ∧ ((i = -1 ∧ l.any p = false) ∨ (0 ≤ i ∧ l.any p = true))) ∧ Below w.heap.size w w' := by
  have HC := Aside0.mk hC
  have HL := Aside0.mk hcl
  have hl := hC.2.1
  clear hC hcl
  go_enter Try.func49, Try.ntmps49
  go_wp2_with fail
  go_loopw [8] (fun i wr => ∃ k : Nat, k ≤ l.length ∧ i = .int .i64 k ∧ Aside0 (l.any p = (l.drop k).any p) ∧ Below w.heap.size w wr) (fun i _ => l.length - (intOf i).toNat)
  case atStart => exact ⟨0, Nat.zero_le _, rfl, ⟨rfl⟩, Below.refl _ _⟩
  case round =>
    obtain ⟨k, hk, rfl, HN, hBr⟩ := hrel
    have HB := Aside0.mk hBr
    clear hBr
    by_cases hlt : k < l.length
    · obtain ⟨ad, rfl, h0, h1, h2⟩ := at_T46 (Kd.C_below HC.out HB.out) (k : Int) (by omega) (by omega)
      simp only [Int.toNat_natCast] at h0 h1 h2
      have hxl : rd_T46 l (k : Int) = l[k] := by simp [rd_T46, List.getD_eq_getElem?_getD, hlt]
      have hdr : l.drop k = l[k] :: l.drop (k + 1) := List.drop_eq_getElem_cons hlt
      have hmem : l[k] ∈ l := List.getElem_mem hlt
      rw [hxl] at h0 h1 h2
      have hcl0 := HL.out l[k] wr HB.out hmem
      generalize l[k] = x at h0 h1 h2 hdr hcl0
      have HD := Aside0.mk hdr
      clear hxl hdr hmem
      cases hb : p x with
      | true =>
        rw [hb] at hcl0
        have HT := Aside0.mk hb
        have hcl1 := Aside0.mk hcl0
        clear hb hcl0
        go_wp2_with (go_at_call 40; (with_reducible refine hcl1.out.mono ?_); rintro e w2 ⟨rfl, hB⟩; have HB2 : Aside0 (Below w.heap.size w w2) := ⟨HB.out.trans (hB.mono HB.out.size)⟩; clear hB)
        go_ret
        exact ⟨⟨k, rfl, .inr ⟨by omega, by rw [HN.out, HD.out, List.any_cons, HT.out]; rfl⟩⟩, HB2.out⟩
      | false =>
        rw [hb] at hcl0
        have HT := Aside0.mk hb
        have hcl1 := Aside0.mk hcl0
        clear hb hcl0
        go_wp2_with (go_at_call 40; (with_reducible refine hcl1.out.mono ?_); rintro e w2 ⟨rfl, hB⟩; have HB2 : Aside0 (Below w.heap.size w w2) := ⟨HB.out.trans (hB.mono HB.out.size)⟩; clear hB)
        exact ⟨⟨k + 1, by omega, by simp, ⟨by rw [HN.out, HD.out, List.any_cons, HT.out]; rfl⟩, HB2.out⟩, by simp [intOf]; omega⟩
    · obtain rfl : k = l.length := by omega
      go_wp2_with fail
      go_ret
      exact ⟨⟨-1, rfl, .inl ⟨rfl, by rw [HN.out]; simp⟩⟩, HB.out⟩
set_option maxHeartbeats 1000000 in
theorem any_meets (p : S46 → Bool) (g : Nat) (A : Option Addr) (c : Nat) (l : List S46) (w : World) (hC : Kd.C k46 w A l.length l)
    (hcl : ∀ (x : S46) (W : World), Below w.heap.size w W → x ∈ l → Calls Try.prog 40 #[.agg #[.string x.f0, .int .i64 x.f1, .int .i64 x.f2], .pointer (some ⟨g, 0, none⟩)] W fun e w' => e = .returned (.bool (p x)) ∧ Below W.heap.size W w') :
    Calls Try.prog 36 #[.slice A l.length c, .func (.func 40) #[] #[.pointer (some ⟨g, 0, none⟩)]] w fun e w' => e = .returned (.bool (l.any p)) ∧ Below w.heap.size w w' := by
  have HI := Aside0.mk (any_meets_index p g A c l w hC hcl)
  clear hC hcl
  go_enter Try.func36, Try.ntmps36
  go_wp2_with fail
  refine HI.out.mono ?_
  rintro e w1 ⟨⟨i, rfl, hi⟩, hB⟩
  rcases hi with ⟨rfl, ha⟩ | ⟨h0, ha⟩
  · have HA := Aside0.mk ha
    clear ha
    go_wp2
    go_ret
    exact ⟨by rw [HA.out]; rfl, hB⟩
  · have HA := Aside0.mk ha
    clear ha
    have h0' : decide (0 ≤ i) = true := decide_eq_true h0
    go_wp2
    go_ret
    exact ⟨by rw [HA.out]; rfl, hB⟩
set_option maxRecDepth 100000 in
set_option maxHeartbeats 2000000 in
theorem any_next_index (p : S40 → Bool) (g1 : Nat) (g2 : Nat) (A : Option Addr) (c : Nat) (l : List S40) (w : World) (hC : Kd.C k40 w A l.length l)
    (hcl : ∀ (x : S40) (W : World), Below w.heap.size w W → x ∈ l → ∀ (Ax : Option Addr) (cx : Nat), x.f2.length ≤ cx → k46.C W Ax x.f2.length x.f2 → Calls Try.prog 44 #[.agg #[.int .i64 x.f0, .int .i64 x.f1, .slice Ax x.f2.length cx], .pointer (some ⟨g1, 0, none⟩), .pointer (some ⟨g2, 0, none⟩)] W fun e w' => e = .returned (.bool (p x)) ∧ Below W.heap.size W w') :
    Calls Try.prog 53 #[.slice A l.length c, .func (.func 44) #[] #[.pointer (some ⟨g1, 0, none⟩), .pointer (some ⟨g2, 0, none⟩)]] w fun e w' =>
      (∃ i : Int, e = .returned (.int .i64 i) ∧ ((i = -1 ∧ l.any p = false) ∨ (0 ≤ i ∧ l.any p = true))) ∧ Below w.heap.size w w' := by
  have HC := Aside0.mk hC
  have HL := Aside0.mk hcl
  have hl := hC.2.1
  clear hC hcl
  go_enter Try.func53, Try.ntmps53
  go_wp2_with fail
  go_loopw [8] (fun i wr => ∃ k : Nat, k ≤ l.length ∧ i = .int .i64 k ∧ Aside0 (l.any p = (l.drop k).any p) ∧ Below w.heap.size w wr) (fun i _ => l.length - (intOf i).toNat)
  case atStart => exact ⟨0, Nat.zero_le _, rfl, ⟨rfl⟩, Below.refl _ _⟩
  case round =>
    obtain ⟨k, hk, rfl, HN, hBr⟩ := hrel
    have HB := Aside0.mk hBr
    clear hBr
    by_cases hlt : k < l.length
    · obtain ⟨ad, Ax, cx, rfl, h0, h1, h2, hlx, hCx⟩ := at_T40 (Kd.C_below HC.out HB.out) (k : Int) (by omega) (by omega)
      simp only [Int.toNat_natCast] at h0 h1 h2 hlx hCx
      have hxl : rd_T40 l (k : Int) = l[k] := by simp [rd_T40, List.getD_eq_getElem?_getD, hlt]
      have hdr : l.drop k = l[k] :: l.drop (k + 1) := List.drop_eq_getElem_cons hlt
      have hmem : l[k] ∈ l := List.getElem_mem hlt
      rw [hxl] at h0 h1 h2 hlx hCx
      have hcl0 := HL.out l[k] wr HB.out hmem
      generalize l[k] = x at h0 h1 h2 hlx hCx hdr hcl0
      have HD := Aside0.mk hdr
      clear hxl hdr hmem
      have hcl0 := hcl0 Ax cx hlx hCx
      clear hCx
      cases hb : p x with
      | true =>
        rw [hb] at hcl0
        have HT := Aside0.mk hb
        have hcl1 := Aside0.mk hcl0
        clear hb hcl0
        go_wp2_with (go_at_call 44; (with_reducible refine hcl1.out.mono ?_); rintro e w2 ⟨rfl, hB⟩; have HB2 : Aside0 (Below w.heap.size w w2) := ⟨HB.out.trans (hB.mono HB.out.size)⟩; clear hB)
        go_ret
        exact ⟨⟨k, rfl, .inr ⟨by omega, by rw [HN.out, HD.out, List.any_cons, HT.out]; rfl⟩⟩, HB2.out⟩
      | false =>
        rw [hb] at hcl0
        have HT := Aside0.mk hb
        have hcl1 := Aside0.mk hcl0
        clear hb hcl0
        go_wp2_with (go_at_call 44; (with_reducible refine hcl1.out.mono ?_); rintro e w2 ⟨rfl, hB⟩; have HB2 : Aside0 (Below w.heap.size w w2) := ⟨HB.out.trans (hB.mono HB.out.size)⟩; clear hB)
        exact ⟨⟨k + 1, by omega, by simp, ⟨by rw [HN.out, HD.out, List.any_cons, HT.out]; rfl⟩, HB2.out⟩, by simp [intOf]; omega⟩
    · obtain rfl : k = l.length := by omega
      go_wp2_with fail
      go_ret
      exact ⟨⟨-1, rfl, .inl ⟨rfl, by rw [HN.out]; simp⟩⟩, HB.out⟩
set_option maxHeartbeats 1000000 in
theorem any_next (p : S40 → Bool) (g1 : Nat) (g2 : Nat) (A : Option Addr) (c : Nat) (l : List S40) (w : World) (hC : Kd.C k40 w A l.length l)
    (hcl : ∀ (x : S40) (W : World), Below w.heap.size w W → x ∈ l → ∀ (Ax : Option Addr) (cx : Nat), x.f2.length ≤ cx → k46.C W Ax x.f2.length x.f2 → Calls Try.prog 44 #[.agg #[.int .i64 x.f0, .int .i64 x.f1, .slice Ax x.f2.length cx], .pointer (some ⟨g1, 0, none⟩), .pointer (some ⟨g2, 0, none⟩)] W fun e w' => e = .returned (.bool (p x)) ∧ Below W.heap.size W w') :
    Calls Try.prog 45 #[.slice A l.length c, .func (.func 44) #[] #[.pointer (some ⟨g1, 0, none⟩), .pointer (some ⟨g2, 0, none⟩)]] w fun e w' => e = .returned (.bool (l.any p)) ∧ Below w.heap.size w w' := by
  have HI := Aside0.mk (any_next_index p g1 g2 A c l w hC hcl)
  clear hC hcl
  go_enter Try.func45, Try.ntmps45
  go_wp2_with fail
  refine HI.out.mono ?_
  rintro e w1 ⟨⟨i, rfl, hi⟩, hB⟩
  rcases hi with ⟨rfl, ha⟩ | ⟨h0, ha⟩
  · have HA := Aside0.mk ha
    clear ha
    go_wp2
    go_ret
    exact ⟨by rw [HA.out]; rfl, hB⟩
  · have HA := Aside0.mk ha
    clear ha
    have h0' : decide (0 ≤ i) = true := decide_eq_true h0
    go_wp2
    go_ret
    exact ⟨by rw [HA.out]; rfl, hB⟩
end Go.Proofs.Ytkdhcmmfklganaa
end

section
/- event.Get, walked (hand/event_Get.lean as a text of its own: the print lists no function that closures alone call) -/
set_option linter.unusedVariables false
set_option linter.unusedSimpArgs false
set_option autoImplicit false
namespace Go.Proofs.Ytkdhcmmfklganaa.G
open Go.RowKit Go.Proofs.YtkdhcmmfklganaaW.PrintWords Go.Proofs.YtkdhcmmfklganaaW.PrintLast Go.Proofs.YtkdhcmmfklganaaW.PrintMore
def event_Get.f (l0 : List S50) (a1 : ByteArray) : Option (Int × Int × ByteArray × Bool) :=
  match l0.find? (fun a => a.f0.toList == a1.toList) with
  | some a => some (a.f1.f0, a.f1.f1, a.f1.f2, true)
  | none => some (0, 0, ⟨#[]⟩, false)
set_option maxRecDepth 100000 in
set_option maxHeartbeats 1000000 in
theorem get_named (x : S50) (a1 : ByteArray) (g : Nat) (w : World) (hg : w.heap[g]? = some (.cells #[.string a1] 9 (0, 0))) :
    Calls Try.prog 52 #[.agg #[.string x.f0, .int .i64 x.f1.f0, .int .i64 x.f1.f1, .string x.f1.f2], .pointer (some ⟨g, 0, none⟩)] w fun e w' => e = .returned (.bool (x.f0.toList == a1.toList)) ∧ Below w.heap.size w w' := by
  have hlt : g < w.heap.size := (Array.getElem?_eq_some_iff.1 hg).1
  have hc : w.cell? ⟨g, 0, none⟩ = some (.string a1) := by rw [cell_of_row _ _ _ _ _ _ hg]; rfl
  go_enter Try.func52, Try.ntmps52
  go_wp2
  go_ret
  exact ⟨rfl, (Below.refl _ _).alloc (Nat.le_refl _) _⟩
set_option maxRecDepth 100000 in
set_option maxHeartbeats 2000000 in
theorem index_named (A : Option Addr) (c : Nat) (l : List S50) (a1 : ByteArray) (g : Nat) (w : World) (hC : Kd.C k50 w A l.length l) (hg : w.heap[g]? = some (.cells #[.string a1] 9 (0, 0))) :
    Calls Try.prog 51 #[.slice A l.length c, .func (.func 52) #[] #[.pointer (some ⟨g, 0, none⟩)]] w fun e w' =>
      (∃ i : Int, e = .returned (.int .i64 i) ∧ ((i = -1 ∧ l.find? (fun a => a.f0.toList == a1.toList) = none) ∨ (0 ≤ i ∧ i < l.length ∧ l.find? (fun a => a.f0.toList == a1.toList) = some (rd_T50 l i)))) ∧ Below w.heap.size w w' := by
  have HC := Aside0.mk hC
  have HG := Aside0.mk hg
  have hl := hC.2.1
  clear hC hg
  go_enter Try.func51, Try.ntmps51
  go_wp2_with fail
  go_loopw [8] (fun i wr => ∃ k : Nat, k ≤ l.length ∧ i = .int .i64 k ∧ Aside0 (∀ j, j < k → ((rd_T50 l (j : Nat)).f0.toList == a1.toList) = false) ∧ Below w.heap.size w wr) (fun i _ => l.length - (intOf i).toNat)
  case atStart => exact ⟨0, Nat.zero_le _, rfl, ⟨fun j hj => by omega⟩, Below.refl _ _⟩
  case round =>
    obtain ⟨k, hk, rfl, HN, hBr⟩ := hrel
    have HB := Aside0.mk hBr
    clear hBr
    by_cases hlt : k < l.length
    · obtain ⟨ad, rfl, h0, h1, h2, h3⟩ := at_T50 (Kd.C_below HC.out HB.out) (k : Int) (by omega) (by omega)
      rw [Int.toNat_natCast] at h0 h1 h2 h3
      obtain ⟨x, hx⟩ : ∃ x, rd_T50 l (k : Int) = x := ⟨_, rfl⟩
      rw [hx] at h0 h1 h2 h3
      have HX := Aside0.mk hx
      have hgr : Aside0 (wr.heap[g]? = some (.cells #[.string a1] 9 (0, 0))) := ⟨by rw [HB.out.block g (Array.getElem?_eq_some_iff.1 HG.out).1]; exact HG.out⟩
      clear hx
      cases hb : (x.f0.toList == a1.toList) with
      | true =>
        have HT := Aside0.mk hb
        have hcl := Aside0.mk (get_named x a1 g wr hgr.out)
        rw [hb] at hcl
        clear hb
        go_wp2_with (go_at_call 52; (with_reducible refine hcl.out.mono ?_); rintro e w2 ⟨rfl, hB⟩; have HB2 : Aside0 (Below w.heap.size w w2) := ⟨HB.out.trans (hB.mono HB.out.size)⟩; clear hB)
        go_ret
        refine ⟨⟨k, rfl, .inr ⟨by omega, by omega, ?_⟩⟩, HB2.out⟩
        rw [List.find?_eq_some_iff_getElem]
        refine ⟨by rw [HX.out]; exact HT.out, k, hlt, by simp [rd_T50, List.getD_eq_getElem?_getD, hlt], fun j hj => ?_⟩
        have := HN.out j hj
        simpa [rd_T50, List.getD_eq_getElem?_getD, show j < l.length by omega] using this
      | false =>
        have HT := Aside0.mk hb
        have hcl := Aside0.mk (get_named x a1 g wr hgr.out)
        rw [hb] at hcl
        clear hb
        go_wp2_with (go_at_call 52; (with_reducible refine hcl.out.mono ?_); rintro e w2 ⟨rfl, hB⟩; have HB2 : Aside0 (Below w.heap.size w w2) := ⟨HB.out.trans (hB.mono HB.out.size)⟩; clear hB)
        exact ⟨⟨k + 1, by omega, by simp, ⟨fun j hj => by
          by_cases e : j = k
          · rw [e, HX.out]; exact HT.out
          · exact HN.out j (by omega)⟩, HB2.out⟩, by simp [intOf]; omega⟩
    · obtain rfl : k = l.length := by omega
      go_wp2_with fail
      go_ret
      refine ⟨⟨-1, rfl, .inl ⟨rfl, ?_⟩⟩, HB.out⟩
      rw [List.find?_eq_none]
      intro a ha
      obtain ⟨j, hj, rfl⟩ := List.getElem_of_mem ha
      have := HN.out j hj
      simpa [rd_T50, List.getD_eq_getElem?_getD, hj] using this
set_option maxRecDepth 100000 in
set_option maxHeartbeats 2000000 in
theorem event_Get.calls (A0 : Option Addr) (c0 : Nat) (l0 : List S50) (a1 : ByteArray) (r1 : Int) (r2 : Int) (r3 : ByteArray) (r4 : Bool) (w : World) (hr0 : Kd.C k50 w A0 l0.length l0) (hc0 : l0.length ≤ c0) (h : event_Get.f l0 a1 = some (r1, r2, r3, r4)) :
    Calls Try.prog 41 #[.slice A0 l0.length c0, .string a1] w fun e w' => e = .returned (.tuple #[.agg #[.int .i64 r1, .int .i64 r2, .string r3], .bool r4]) ∧ Below w.heap.size w w' := by
  have HR := Aside0.mk hr0
  have H := Aside0.mk h
  have hl := hr0.2.1
  clear hr0 h
  go_enter Try.func41, Try.ntmps41
  go_wp2_with fail
  have hb2 : Below w.heap.size w ((w.alloc (.cells #[.string a1] 9)).alloc (.cells #[.int .i64 0, .int .i64 0, .string ByteArray.empty] 48)) := (((Below.refl _ _).alloc (Nat.le_refl _) _).alloc (by simp) _)
  have hg1 : ((w.alloc (.cells #[.string a1] 9)).alloc (.cells #[.int .i64 0, .int .i64 0, .string ByteArray.empty] 48)).heap[w.heap.size]? = some (.cells #[.string a1] 9 (0, 0)) := (Below.heap_alloc _ _ _ (by simp)).trans (heap_alloc_new w _)
  have hg2 : ((w.alloc (.cells #[.string a1] 9)).alloc (.cells #[.int .i64 0, .int .i64 0, .string ByteArray.empty] 48)).heap[w.heap.size + 1]? = some (.cells #[.int .i64 0, .int .i64 0, .string ByteArray.empty] 48 (0, 0)) := by have := heap_alloc_new (w.alloc (.cells #[.string a1] 9)) (.cells #[.int .i64 0, .int .i64 0, .string ByteArray.empty] 48); rwa [World.size_alloc] at this
  refine (index_named A0 c0 l0 a1 w.heap.size _ (Kd.C_below HR.out hb2) hg1).mono ?_
  rintro e w1 ⟨⟨i, rfl, hi⟩, hB⟩
  have HB : Aside0 (Below w.heap.size w w1) := ⟨hb2.trans (hB.mono (by simp; omega))⟩
  have BK : Aside0 (w1.heap[w.heap.size + 1]? = some (.cells #[.int .i64 0, .int .i64 0, .string ByteArray.empty] 48 (0, 0))) := ⟨(hB.block _ (Array.getElem?_eq_some_iff.1 hg2).1).trans hg2⟩
  clear hB hg1 hg2 hb2
  have hcz0 : w1.cell? ⟨w.heap.size + 1, 0, none⟩ = some (.int .i64 0) := (blk_cell BK.out 0).trans rfl
  have hcz1 : w1.cell? ⟨w.heap.size + 1, 1, none⟩ = some (.int .i64 0) := (blk_cell BK.out 1).trans rfl
  have hcz2 : w1.cell? ⟨w.heap.size + 1, 2, none⟩ = some (.string ByteArray.empty) := (blk_cell BK.out 2).trans rfl
  have hfz0 := blk_frozen BK.out 0
  have hfz1 := blk_frozen BK.out 1
  have hfz2 := blk_frozen BK.out 2
  have h := H.out
  unfold event_Get.f at h
  rcases hi with ⟨rfl, hf⟩ | ⟨h0, h1, hf⟩
  · rw [hf] at h
    simp only [Option.some.injEq, Prod.mk.injEq] at h
    obtain ⟨rfl, rfl, rfl, rfl⟩ := h
    clear hf H
    go_wp2
    refine bodyPost_ret (results_ct rfl _ _ (w.heap.size + 1) 48 #[.int .i64 0, .int .i64 0, .string (⟨#[]⟩ : ByteArray)] (0, 0) _ rfl (by refine blk_put (cs := #[.int .i64 0, .int .i64 0, .string ByteArray.empty]) ?_ 2 _ rfl; refine blk_put (cs := #[.int .i64 0, .int .i64 0, .string ByteArray.empty]) ?_ 1 _ rfl; refine blk_put (cs := #[.int .i64 0, .int .i64 0, .string ByteArray.empty]) ?_ 0 _ rfl; exact BK.out) Try.underlying48 rfl (by kernel_rfl)) rfl ?_
    exact ⟨rfl, ((HB.out.setCell (by simp) _).setCell (by simp) _).setCell (by simp) _⟩
  · rw [hf] at h
    simp only [Option.some.injEq, Prod.mk.injEq] at h
    obtain ⟨k, rfl⟩ := Int.eq_ofNat_of_zero_le h0
    obtain ⟨x, hx⟩ : ∃ x, rd_T50 l0 (k : Int) = x := ⟨_, rfl⟩
    rw [hx] at h
    obtain ⟨rfl, rfl, rfl, rfl⟩ := h
    obtain ⟨ad, rfl, q0, q1, q2, q3⟩ := at_T50 (Kd.C_below HR.out HB.out) (k : Int) (by omega) (by omega)
    rw [hx, Int.toNat_natCast] at q0 q1 q2 q3
    have hk : k < l0.length := by omega
    clear hf H hx h0 h1
    go_wp2
    refine bodyPost_ret (results_ct rfl _ _ (w.heap.size + 1) 48 #[.int .i64 x.f1.f0, .int .i64 x.f1.f1, .string x.f1.f2] (0, 0) _ rfl (by refine blk_put (cs := #[.int .i64 x.f1.f0, .int .i64 x.f1.f1, .string ByteArray.empty]) ?_ 2 _ rfl; refine blk_put (cs := #[.int .i64 x.f1.f0, .int .i64 0, .string ByteArray.empty]) ?_ 1 _ rfl; refine blk_put (cs := #[.int .i64 0, .int .i64 0, .string ByteArray.empty]) ?_ 0 _ rfl; exact BK.out) Try.underlying48 rfl (by kernel_rfl)) rfl ?_
    exact ⟨rfl, ((HB.out.setCell (by simp) _).setCell (by simp) _).setCell (by simp) _⟩
end Go.Proofs.Ytkdhcmmfklganaa.G
end

section
-- Written by a program of this session (wip/tools/myprint.py), over the kit's print.
namespace Go.Proofs.Ytkdhcmmfklganaa.G
open Go.RowKit Go.Proofs.YtkdhcmmfklganaaW.PrintWords Go.Proofs.YtkdhcmmfklganaaW.PrintLast Go.Proofs.YtkdhcmmfklganaaW.PrintMore
attribute [local go_sem] max2_int min2_int max_two min_two max_three min_three max_four min_four   -- for this text's walks alone
set_option linter.unusedVariables false
set_option linter.unusedSimpArgs false

/-! ### first_in: function 35 -/
def first_in.f (a0 : Int) (a1 : Int) (a2 : Int) : Option (Bool) := if a0 ≥ a1 then (some (decide (a0 ≤ a2))) else (some false)
set_option maxHeartbeats 8000000 in
set_option maxRecDepth 100000 in
theorem first_in.calls (a0 : Int) (a1 : Int) (a2 : Int) (r : Bool) (w : World) (h : first_in.f a0 a1 a2 = some r) :
    Calls Try.prog 35 #[.int .i64 a0, .int .i64 a1, .int .i64 a2] w fun e w' => e = .returned (.bool r) ∧ Drawn0 w w' := by
  have H : (if a0 ≥ a1 then (some (decide (a0 ≤ a2))) else (some false)) = some r := h
  clear h
  by_cases c4 : a0 ≥ a1
  · rw [if_pos c4] at H
    have c4b0 : decide (a1 ≤ a0) = true := decide_eq_true c4
    clear c4
    obtain rfl := Option.some.inj H
    go_enter Try.func35, Try.ntmps35
    go_wp2
    go_ret
    exact ⟨by first | rfl | (simp; done) | (simp [*]; done), by repeat (first | exact Drawn0.refl _ | apply Drawn0.step)⟩
  · rw [if_neg c4] at H
    have c4b0 : decide (a1 ≤ a0) = false := decide_eq_false c4
    clear c4
    obtain rfl := Option.some.inj H
    go_enter Try.func35, Try.ntmps35
    go_wp2
    go_ret
    exact ⟨by first | rfl | (simp; done) | (simp [*]; done), by repeat (first | exact Drawn0.refl _ | apply Drawn0.step)⟩

end Go.Proofs.Ytkdhcmmfklganaa.G
end

section
/- what ranges an event meets, walked -/
set_option linter.unusedVariables false
set_option linter.unusedSimpArgs false
set_option autoImplicit false
namespace Go.Proofs.Ytkdhcmmfklganaa
open Go.RowKit Go.Proofs.YtkdhcmmfklganaaW.PrintWords Go.Proofs.YtkdhcmmfklganaaW.PrintLast Go.Proofs.YtkdhcmmfklganaaW.PrintMore Go.Proofs.Ytkdhcmmfklganaa.G

def inB (n a b : Int) : Bool := if n ≥ a then decide (n ≤ b) else false
theorem in_f (n a b : Int) (x : Bool) (h : inB n a b = x) : first_in.f n a b = some x := by rw [← h]; unfold first_in.f inB; split <;> rfl
/-- an attribute's value -/
def gv (e : List S50) (n : ByteArray) : S48 := match e.find? (fun a => a.f0.toList == n.toList) with
  | some a => a.f1
  | none => ⟨0, 0, ⟨#[]⟩⟩
def gis (e : List S50) (n : ByteArray) : Bool := (e.find? (fun a => a.f0.toList == n.toList)).isSome
theorem get_f (e : List S50) (n : ByteArray) : event_Get.f e n = some ((gv e n).f0, (gv e n).f1, (gv e n).f2, gis e n) := by
  unfold event_Get.f gv gis
  cases e.find? (fun a => a.f0.toList == n.toList) with
  | none => rfl
  | some a => rfl
/-- a range that an event does not meet -/
def nmet (e : List S50) (x : S46) : Bool := (gv e x.f0).f0 != 1 || (!(gv e x.f0).f2.toList.isEmpty || !(inB (gv e x.f0).f1 x.f1 x.f2))
theorem cells1r {W : World} {b T : Nat} {x : Value} (h : W.heap[b]? = some (.cells #[x] T (0, 0))) : W.cell? ⟨b, 0, none⟩ = some x ∧ W.frozen? ⟨b, 0, none⟩ = false :=
  ⟨by rw [cell_of_row _ _ _ _ _ _ h]; rfl, frozen_of_row _ _ _ _ _ h⟩
theorem below_via6 {w W W' : World} (h0 : Below w.heap.size w W) (h : Below W.heap.size W W') : Below w.heap.size w W' := h0.trans (h.mono h0.size)
set_option maxRecDepth 100000 in
set_option maxHeartbeats 4000000 in
theorem wmeets1 (ev : List S50) (A : Option Addr) (c : Nat) (x : S46) (g : Nat) (w : World) (hg : w.heap[g]? = some (.cells #[.slice A ev.length c] 36 (0, 0))) (hC : Kd.C k50 w A ev.length ev) (hc : ev.length ≤ c) :
    Calls Try.prog 40 #[.agg #[.string x.f0, .int .i64 x.f1, .int .i64 x.f2], .pointer (some ⟨g, 0, none⟩)] w fun r w' => r = .returned (.bool (nmet ev x)) ∧ Below w.heap.size w w' := by
  have hr : nmet ev x = ((gv ev x.f0).f0 != 1 || (!(gv ev x.f0).f2.toList.isEmpty || !(inB (gv ev x.f0).f1 x.f1 x.f2))) := rfl
  have hf := get_f ev x.f0
  generalize nmet ev x = r at hr ⊢
  generalize gv ev x.f0 = v at hr hf
  have HR := Aside0.mk hr
  have HF := Aside0.mk hf
  have HC := Aside0.mk hC
  have hgl := lt_of_heap hg
  obtain ⟨d0, d1⟩ := cells1r hg
  clear hr hf hC hg
  have hP := heap_alloc_new w (.cells #[.string x.f0, .int .i64 x.f1, .int .i64 x.f2] 46 (0, 0))
  have hB := (Below.refl w.heap.size w).alloc (Nat.le_refl _) (.cells #[.string x.f0, .int .i64 x.f1, .int .i64 x.f2] 46 (0, 0))
  have HP := Aside0.mk hP
  have HB := Aside0.mk hB
  clear hP hB
  go_enter Try.func40, Try.ntmps40
  go_wp2_with fail
  generalize w.alloc (.cells #[.string x.f0, .int .i64 x.f1, .int .i64 x.f2] 46 (0, 0)) = wa at HP HB ⊢
  refine (event_Get.calls A c ev x.f0 v.f0 v.f1 v.f2 _ wa (Kd.C_below HC.out HB.out) hc HF.out).mono ?_
  rintro e w1 ⟨rfl, hX⟩
  have hb := (Below.refl w1.heap.size w1).alloc (Nat.le_refl _) (.cells #[.int .i64 v.f0, .int .i64 v.f1, .string v.f2] 48 (0, 0))
  have HV2 := Aside0.mk (heap_alloc_new w1 (.cells #[.int .i64 v.f0, .int .i64 v.f1, .string v.f2] 48 (0, 0)))
  have HP2 := Aside0.mk (vkeepB (vkeepB HP.out hX) hb)
  have HB2 := Aside0.mk (below_via6 (below_via6 HB.out hX) hb)
  clear hX hb HP HB d0 d1 hgl HC
  go_upto_region 2 with fail
  generalize w1.alloc (.cells #[.int .i64 v.f0, .int .i64 v.f1, .string v.f2] 48 (0, 0)) = w2 at HV2 HP2 HB2 ⊢
  generalize w1.heap.size = gb at HV2 ⊢
  obtain ⟨⟨c0, c1, c2⟩, f0, f1, f2⟩ := cells3r HV2.out
  obtain ⟨⟨q0, q1, q2⟩, g0, g1, g2⟩ := cells3r HP2.out
  have hr := HR.out
  clear HR
  obtain ⟨vk, vi, vt⟩ := v
  simp only at hr c0 c1 c2
  by_cases k1 : vk = 1
  · subst k1
    cases ht : vt.toList.isEmpty with
    | true =>
      have hs1 : (!vt.toList.isEmpty) = false := by rw [ht]; rfl
      cases hi : inB vi x.f1 x.f2 with
      | true =>
        rw [ht, hi] at hr
        have HR := Aside0.mk hr
        have HI := Aside0.mk hi
        clear hr hi
        go_wp2_with fail
        refine (first_in.calls vi x.f1 x.f2 true _ (in_f _ _ _ _ HI.out)).mono ?_
        rintro e w' ⟨rfl, ⟨nd, rfl⟩⟩
        go_wp2_with fail
        go_ret
        exact ⟨by rw [HR.out]; rfl, pw_below_drewN HB2.out nd⟩
      | false =>
        rw [ht, hi] at hr
        have HR := Aside0.mk hr
        have HI := Aside0.mk hi
        clear hr hi
        go_wp2_with fail
        refine (first_in.calls vi x.f1 x.f2 false _ (in_f _ _ _ _ HI.out)).mono ?_
        rintro e w' ⟨rfl, ⟨nd, rfl⟩⟩
        go_wp2_with fail
        go_ret
        exact ⟨by rw [HR.out]; rfl, pw_below_drewN HB2.out nd⟩
    | false =>
      have hs1 : (!vt.toList.isEmpty) = true := by rw [ht]; rfl
      rw [ht] at hr
      have HR := Aside0.mk hr
      clear hr
      go_wp2_with fail
      go_ret
      exact ⟨by rw [HR.out]; rfl, HB2.out⟩
  · have b1 : (vk != 1) = true := by simp [k1]
    rw [b1] at hr
    have HR := Aside0.mk hr
    clear hr
    go_wp2_with fail
    go_ret
    exact ⟨by rw [HR.out]; rfl, HB2.out⟩
def meetsB (e : List S50) (l : List S46) : Bool := !(l.any (nmet e))
set_option maxHeartbeats 1000000 in
theorem wmeets (l : List S46) (A0 : Option Addr) (c0 : Nat) (ev : List S50) (A1 : Option Addr) (c1 : Nat) (w : World) (hC0 : Kd.C k46 w A0 l.length l) (hC1 : Kd.C k50 w A1 ev.length ev) (hc1 : ev.length ≤ c1) :
    Calls Try.prog 18 #[.slice A0 l.length c0, .slice A1 ev.length c1] w fun r w' => r = .returned (.bool (meetsB ev l)) ∧ Below w.heap.size w w' := by
  have hr : meetsB ev l = !(l.any (nmet ev)) := rfl
  generalize meetsB ev l = r at hr ⊢
  have HR := Aside0.mk hr
  clear hr
  have hP := heap_alloc_new w (.cells #[.slice A1 ev.length c1] 36 (0, 0))
  have hB := (Below.refl w.heap.size w).alloc (Nat.le_refl _) (.cells #[.slice A1 ev.length c1] 36 (0, 0))
  have HK := Aside0.mk (any_meets (nmet ev) w.heap.size A0 c0 l (w.alloc (.cells #[.slice A1 ev.length c1] 36 (0, 0))) (Kd.C_below hC0 hB) (fun x W hW _ => wmeets1 ev A1 c1 x w.heap.size W (vkeepB hP hW) (Kd.C_below (Kd.C_below hC1 hB) hW) hc1))
  have HB := Aside0.mk hB
  clear hP hB hC0 hC1
  go_enter Try.func18, Try.ntmps18
  go_wp2_with fail
  refine HK.out.mono ?_
  rintro e w1 ⟨rfl, hX⟩
  go_wp2_with fail
  go_ret
  exact ⟨by rw [HR.out]; rfl, below_via6 HB.out hX⟩
end Go.Proofs.Ytkdhcmmfklganaa
end

section
-- Written by a program of this session (wip/tools/myprint.py), over the kit's print.
namespace Go.Proofs.Ytkdhcmmfklganaa.G
open Go.RowKit Go.Proofs.YtkdhcmmfklganaaW.PrintWords Go.Proofs.YtkdhcmmfklganaaW.PrintLast Go.Proofs.YtkdhcmmfklganaaW.PrintMore
attribute [local go_sem] max2_int min2_int max_two min_two max_three min_three max_four min_four   -- for this text's walks alone
set_option linter.unusedVariables false
set_option linter.unusedSimpArgs false

/-! ### first_wrong: function 37 -/
def first_wrong.f (a0_0 : ByteArray) (a0_1 : Int) (a0_2 : Int) : Option (Bool) := (first_in.f (a0_0.size : Int) 1 16).bind fun t102 => (if t102 = true then ((first_in.f a0_1 (-2147483648) 2147483647).bind fun t103 => (if t103 = true then ((first_in.f a0_2 (-2147483648) 2147483647).bind fun t104 => (some (!t104))) else (some true))) else (some true))
set_option maxHeartbeats 8000000 in
set_option maxRecDepth 100000 in
theorem first_wrong.calls (a0_0 : ByteArray) (a0_1 : Int) (a0_2 : Int) (r : Bool) (w : World) (h : first_wrong.f a0_0 a0_1 a0_2 = some r) :
    Calls Try.prog 37 #[.agg #[.string a0_0, .int .i64 a0_1, .int .i64 a0_2]] w fun e w' => e = .returned (.bool r) ∧ Below w.heap.size w w' := by
  have hu46 := Try.underlying46
  have HB := Aside0.mk (Below.refl w.heap.size w)
  have H : ((first_in.f (a0_0.size : Int) 1 16).bind fun t102 => (if t102 = true then ((first_in.f a0_1 (-2147483648) 2147483647).bind fun t103 => (if t103 = true then ((first_in.f a0_2 (-2147483648) 2147483647).bind fun t104 => (some (!t104))) else (some true))) else (some true))) = some r := h
  clear h
  replace H := Option.bind_eq_some_iff.mp H
  obtain ⟨t102, A20, H⟩ := H
  replace H : (if t102 = true then ((first_in.f a0_1 (-2147483648) 2147483647).bind fun t103 => (if t103 = true then ((first_in.f a0_2 (-2147483648) 2147483647).bind fun t104 => (some (!t104))) else (some true))) else (some true)) = some r := H
  have A2 := Aside0.mk A20
  clear A20
  by_cases c3 : t102 = true
  · subst c3
    have H1 : ((first_in.f a0_1 (-2147483648) 2147483647).bind fun t103 => (if t103 = true then ((first_in.f a0_2 (-2147483648) 2147483647).bind fun t104 => (some (!t104))) else (some true))) = some r := by rw [if_pos rfl] at H; exact H
    clear H
    have H := H1
    clear H1
    replace H := Option.bind_eq_some_iff.mp H
    obtain ⟨t103, A40, H⟩ := H
    replace H : (if t103 = true then ((first_in.f a0_2 (-2147483648) 2147483647).bind fun t104 => (some (!t104))) else (some true)) = some r := H
    have A4 := Aside0.mk A40
    clear A40
    by_cases c5 : t103 = true
    · subst c5
      have H1 : ((first_in.f a0_2 (-2147483648) 2147483647).bind fun t104 => (some (!t104))) = some r := by rw [if_pos rfl] at H; exact H
      clear H
      have H := H1
      clear H1
      replace H := Option.bind_eq_some_iff.mp H
      obtain ⟨t104, A60, H⟩ := H
      replace H : (some (!t104)) = some r := H
      have A6 := Aside0.mk A60
      clear A60
      obtain rfl := Option.some.inj H
      go_enter Try.func37, Try.ntmps37
      go_wp2_with (first | ((with_reducible refine gate_dst (N := 1) rfl ?_); refine box_event ?hg (N := 1) ?hd (cs := #[.string a0_0, .int .i64 a0_1, .int .i64 a0_2]) (t := 46) ?hr ?_; (case hd => rfl); (case hg => rfl); (case hr => first | (go_simp; done) | (go_simp; rfl)); intro gb101 hg w7 hbox hb; have n0_ := Aside0.mk (below_step (by repeat (first | (with_reducible first | exact HB.out | apply below_alloc | apply pw_below_drewN | apply below_drew1) | exact HB.out)) hb); have n1_ := Aside0.mk (hbox); have n2_ := Aside0.mk ((by rw [hg]; exact (below_size (by repeat (first | (with_reducible first | exact HB.out | apply below_alloc | apply pw_below_drewN | apply below_drew1) | exact HB.out))) : w.heap.size ≤ gb101)); have n3_ := Aside0.mk ((by rw [hg]; exact (below_size (by repeat (first | (with_reducible first | exact HB.out | apply below_alloc | apply pw_below_drewN | apply below_drew1) | exact HB.out))) : w.heap.size ≤ gb101)); clear HB; have HB := n0_; have BK101 := n1_; have GW101 := n2_; have GE101 := n3_; clear n0_ n1_ n2_ n3_; clear hb hbox hg; have hcz8_0 : w7.cell? ⟨gb101, 0, none⟩ = some (.string a0_0) := (blk_cell BK101.out 0).trans rfl; have hcz8_1 : w7.cell? ⟨gb101, 1, none⟩ = some (.int .i64 a0_1) := (blk_cell BK101.out 1).trans rfl; have hcz8_2 : w7.cell? ⟨gb101, 2, none⟩ = some (.int .i64 a0_2) := (blk_cell BK101.out 2).trans rfl; have hfz8_0 := blk_frozen BK101.out 0; have hfz8_1 := blk_frozen BK101.out 1; have hfz8_2 := blk_frozen BK101.out 2) | ((with_reducible refine gate_callee (f := 35) rfl ?_); refine goesL_ (some 6) rfl rfl Try.func35 (by kernel_rfl) rfl #[.int .i64 (a0_0.size : Int), .int .i64 1, .int .i64 16] rfl (by (try simp only [List.map_toArray, List.map_cons, List.map_nil]); first | done | rfl | (simp only [List.length_drop, List.length_take]; rfl)) ?_; (with_reducible refine (first_in.calls (a0_0.size : Int) 1 16 true _ A2.out).mono ?_); rintro e w' ⟨rfl, ⟨nd, rfl⟩⟩; refine ⟨_, rfl, ?_⟩) | (go_at_call 35; (with_reducible refine (first_in.calls a0_1 (-2147483648) 2147483647 true _ A4.out).mono ?_); rintro e w' ⟨rfl, ⟨nd, rfl⟩⟩) | (go_at_call 35; (with_reducible refine (first_in.calls a0_2 (-2147483648) 2147483647 t104 _ A6.out).mono ?_); rintro e w' ⟨rfl, ⟨nd, rfl⟩⟩))
      go_ret
      exact ⟨by first | rfl | (simp [errW_none, errW_some] <;> rfl) | (simp [*, errW_none, errW_some] <;> rfl), by repeat (first | (with_reducible first | exact HB.out | apply below_alloc | apply pw_below_drewN | apply below_drew1 | refine below_set ?_ GE101.out) | exact HB.out)⟩
    · replace c5 := Bool.eq_false_iff.mpr c5
      subst c5
      have H1 : (some true) = some r := by rw [if_neg (show ¬ (false = true) by decide)] at H; exact H
      clear H
      have H := H1
      clear H1
      obtain rfl := Option.some.inj H
      go_enter Try.func37, Try.ntmps37
      go_wp2_with (first | ((with_reducible refine gate_dst (N := 1) rfl ?_); refine box_event ?hg (N := 1) ?hd (cs := #[.string a0_0, .int .i64 a0_1, .int .i64 a0_2]) (t := 46) ?hr ?_; (case hd => rfl); (case hg => rfl); (case hr => first | (go_simp; done) | (go_simp; rfl)); intro gb101 hg w9 hbox hb; have n0_ := Aside0.mk (below_step (by repeat (first | (with_reducible first | exact HB.out | apply below_alloc | apply pw_below_drewN | apply below_drew1) | exact HB.out)) hb); have n1_ := Aside0.mk (hbox); have n2_ := Aside0.mk ((by rw [hg]; exact (below_size (by repeat (first | (with_reducible first | exact HB.out | apply below_alloc | apply pw_below_drewN | apply below_drew1) | exact HB.out))) : w.heap.size ≤ gb101)); have n3_ := Aside0.mk ((by rw [hg]; exact (below_size (by repeat (first | (with_reducible first | exact HB.out | apply below_alloc | apply pw_below_drewN | apply below_drew1) | exact HB.out))) : w.heap.size ≤ gb101)); clear HB; have HB := n0_; have BK101 := n1_; have GW101 := n2_; have GE101 := n3_; clear n0_ n1_ n2_ n3_; clear hb hbox hg; have hcz10_0 : w9.cell? ⟨gb101, 0, none⟩ = some (.string a0_0) := (blk_cell BK101.out 0).trans rfl; have hcz10_1 : w9.cell? ⟨gb101, 1, none⟩ = some (.int .i64 a0_1) := (blk_cell BK101.out 1).trans rfl; have hcz10_2 : w9.cell? ⟨gb101, 2, none⟩ = some (.int .i64 a0_2) := (blk_cell BK101.out 2).trans rfl; have hfz10_0 := blk_frozen BK101.out 0; have hfz10_1 := blk_frozen BK101.out 1; have hfz10_2 := blk_frozen BK101.out 2) | ((with_reducible refine gate_callee (f := 35) rfl ?_); refine goesL_ (some 6) rfl rfl Try.func35 (by kernel_rfl) rfl #[.int .i64 (a0_0.size : Int), .int .i64 1, .int .i64 16] rfl (by (try simp only [List.map_toArray, List.map_cons, List.map_nil]); first | done | rfl | (simp only [List.length_drop, List.length_take]; rfl)) ?_; (with_reducible refine (first_in.calls (a0_0.size : Int) 1 16 true _ A2.out).mono ?_); rintro e w' ⟨rfl, ⟨nd, rfl⟩⟩; refine ⟨_, rfl, ?_⟩) | (go_at_call 35; (with_reducible refine (first_in.calls a0_1 (-2147483648) 2147483647 false _ A4.out).mono ?_); rintro e w' ⟨rfl, ⟨nd, rfl⟩⟩))
      go_ret
      exact ⟨by first | rfl | (simp [errW_none, errW_some] <;> rfl) | (simp [*, errW_none, errW_some] <;> rfl), by repeat (first | (with_reducible first | exact HB.out | apply below_alloc | apply pw_below_drewN | apply below_drew1 | refine below_set ?_ GE101.out) | exact HB.out)⟩
  · replace c3 := Bool.eq_false_iff.mpr c3
    subst c3
    have H1 : (some true) = some r := by rw [if_neg (show ¬ (false = true) by decide)] at H; exact H
    clear H
    have H := H1
    clear H1
    obtain rfl := Option.some.inj H
    go_enter Try.func37, Try.ntmps37
    go_wp2_with (first | ((with_reducible refine gate_dst (N := 1) rfl ?_); refine box_event ?hg (N := 1) ?hd (cs := #[.string a0_0, .int .i64 a0_1, .int .i64 a0_2]) (t := 46) ?hr ?_; (case hd => rfl); (case hg => rfl); (case hr => first | (go_simp; done) | (go_simp; rfl)); intro gb101 hg w11 hbox hb; have n0_ := Aside0.mk (below_step (by repeat (first | (with_reducible first | exact HB.out | apply below_alloc | apply pw_below_drewN | apply below_drew1) | exact HB.out)) hb); have n1_ := Aside0.mk (hbox); have n2_ := Aside0.mk ((by rw [hg]; exact (below_size (by repeat (first | (with_reducible first | exact HB.out | apply below_alloc | apply pw_below_drewN | apply below_drew1) | exact HB.out))) : w.heap.size ≤ gb101)); have n3_ := Aside0.mk ((by rw [hg]; exact (below_size (by repeat (first | (with_reducible first | exact HB.out | apply below_alloc | apply pw_below_drewN | apply below_drew1) | exact HB.out))) : w.heap.size ≤ gb101)); clear HB; have HB := n0_; have BK101 := n1_; have GW101 := n2_; have GE101 := n3_; clear n0_ n1_ n2_ n3_; clear hb hbox hg; have hcz12_0 : w11.cell? ⟨gb101, 0, none⟩ = some (.string a0_0) := (blk_cell BK101.out 0).trans rfl; have hcz12_1 : w11.cell? ⟨gb101, 1, none⟩ = some (.int .i64 a0_1) := (blk_cell BK101.out 1).trans rfl; have hcz12_2 : w11.cell? ⟨gb101, 2, none⟩ = some (.int .i64 a0_2) := (blk_cell BK101.out 2).trans rfl; have hfz12_0 := blk_frozen BK101.out 0; have hfz12_1 := blk_frozen BK101.out 1; have hfz12_2 := blk_frozen BK101.out 2) | ((with_reducible refine gate_callee (f := 35) rfl ?_); refine goesL_ (some 6) rfl rfl Try.func35 (by kernel_rfl) rfl #[.int .i64 (a0_0.size : Int), .int .i64 1, .int .i64 16] rfl (by (try simp only [List.map_toArray, List.map_cons, List.map_nil]); first | done | rfl | (simp only [List.length_drop, List.length_take]; rfl)) ?_; (with_reducible refine (first_in.calls (a0_0.size : Int) 1 16 false _ A2.out).mono ?_); rintro e w' ⟨rfl, ⟨nd, rfl⟩⟩; refine ⟨_, rfl, ?_⟩))
    go_ret
    exact ⟨by first | rfl | (simp [errW_none, errW_some] <;> rfl) | (simp [*, errW_none, errW_some] <;> rfl), by repeat (first | (with_reducible first | exact HB.out | apply below_alloc | apply pw_below_drewN | apply below_drew1 | refine below_set ?_ GE101.out) | exact HB.out)⟩

end Go.Proofs.Ytkdhcmmfklganaa.G
end

section
-- Written by a program of this session (wip/tools/myprint.py), over the kit's print.
namespace Go.Proofs.Ytkdhcmmfklganaa.G
open Go.RowKit Go.Proofs.YtkdhcmmfklganaaW.PrintWords Go.Proofs.YtkdhcmmfklganaaW.PrintLast Go.Proofs.YtkdhcmmfklganaaW.PrintMore
attribute [local go_sem] max2_int min2_int max_two min_two max_three min_three max_four min_four   -- for this text's walks alone
set_option linter.unusedVariables false
set_option linter.unusedSimpArgs false

/-! ### slices_Index_int_int: function 50 -/
def slices_Index_int_int.l0 : Nat → List Int → Int → Int → Int → Option (Int)
  | 0, _, _, _, _ => none
  | k + 1, x0, x1, x7, x8 => if x8 < x7 then (if 0 ≤ x8 then (if x8 < (x0.length : Int) then (if x1 = (rd x0 x8) then (some x8) else (slices_Index_int_int.l0 k x0 x1 x7 (wrap64 (x8 + 1)))) else (none)) else (none)) else (some (-1))
def slices_Index_int_int.f (k : Nat) (l0 : List Int) (a1 : Int) : Option (Int) := slices_Index_int_int.l0 k l0 a1 (l0.length : Int) 0
theorem slices_Index_int_int.mono_l : ∀ k, (∀ y0 y1 y2 y3, LeO (slices_Index_int_int.l0 k y0 y1 y2 y3) (slices_Index_int_int.l0 (k + 1) y0 y1 y2 y3))
  | 0 => fun _ _ _ _ r h => by simp [slices_Index_int_int.l0] at h
  | k + 1 => by
    have ih0 := slices_Index_int_int.mono_l k
    · intro y0 y1 y2 y3
      unfold slices_Index_int_int.l0
      repeat' first
      | (with_reducible exact ih0 _ _ _ _)
      | (with_reducible exact LeO.refl _)
      | (with_reducible exact LeO.none _)
      | (with_reducible refine LeO.ite ?_ ?_)
      | (with_reducible refine LeO.bind ?_ (fun _ => ?_))
      | exact ih0 _ _ _ _
      | exact LeO.none _
      | refine LeO.ite ?_ ?_
      | refine LeO.bind ?_ (fun _ => ?_)
theorem slices_Index_int_int.mono : ∀ a0 a1 k, LeO (slices_Index_int_int.f k a0 a1) (slices_Index_int_int.f (k + 1) a0 a1) := by
  intro a0 a1 k
  have ih0 := slices_Index_int_int.mono_l k
  unfold slices_Index_int_int.f
  repeat' first
      | (with_reducible exact ih0 _ _ _ _)
      | (with_reducible exact LeO.refl _)
      | (with_reducible exact LeO.none _)
      | (with_reducible refine LeO.ite ?_ ?_)
      | (with_reducible refine LeO.bind ?_ (fun _ => ?_))
      | exact ih0 _ _ _ _
      | exact LeO.none _
      | refine LeO.ite ?_ ?_
      | refine LeO.bind ?_ (fun _ => ?_)
set_option maxHeartbeats 8000000 in
set_option maxRecDepth 100000 in
theorem slices_Index_int_int.calls (k : Nat) (A0 : Option Addr) (c0 : Nat) (l0 : List Int) (a1 : Int) (r : Int) (w : World) (hr0 : Kd.C (Kd.int .i64) w A0 l0.length l0) (hc0 : l0.length ≤ c0) (h : slices_Index_int_int.f k l0 a1 = some r) :
    Calls Try.prog 50 #[.slice A0 l0.length c0, .int .i64 a1] w fun e w' => e = .returned (.int .i64 r) ∧ Drawn0 w w' := by
  have HR0 := Aside0.mk hr0
  have HC0 := Aside0.mk hc0
  clear hr0 hc0
  have H : (slices_Index_int_int.l0 k l0 a1 (l0.length : Int) 0) = some r := h
  clear h
  have H' := Aside0.mk H
  clear H
  go_enter Try.func50, Try.ntmps50
  go_wp2
  go_loopg [8] k (fun kq v8 w' => ∃ (x8_1 : Int), v8 = .int .i64 x8_1 ∧ Aside0 (slices_Index_int_int.l0 kq l0 a1 (l0.length : Int) x8_1 = some r) ∧ Aside0 (kq ≤ k) ∧ Drawn0 w w')
  case atStart => exact ⟨(0), (by first | rfl | (simp; done) | (simp [*]; done)), H', ⟨Nat.le_refl _⟩, by repeat (first | exact Drawn0.refl _ | apply Drawn0.step)⟩
  case round =>
    clear H'
    try clear p2
    obtain ⟨x8_1, rfl, HA, HK1, ⟨m1, rfl⟩⟩ := hrel
    cases gk with
    | zero => exact absurd HA.out (by simp [slices_Index_int_int.l0])
    | succ k1 =>
      have H := HA.out
      clear HA
      simp only [slices_Index_int_int.l0] at H
      by_cases c3 : x8_1 < (l0.length : Int)
      · rw [if_pos c3] at H
        have c3b0 : decide (x8_1 < (l0.length : Int)) = true := decide_eq_true c3
        clear c3
        by_cases c4 : 0 ≤ x8_1
        · rw [if_pos c4] at H
          have c4b0 : decide (0 ≤ x8_1) = true := decide_eq_true c4
          clear c4
          by_cases c5 : x8_1 < (l0.length : Int)
          · rw [if_pos c5] at H
            have c5b0 : decide (x8_1 < (l0.length : Int)) = true := decide_eq_true c5
            clear c5
            by_cases c6 : a1 = (rd l0 x8_1)
            · rw [if_pos c6] at H
              have c6b0 : (a1 == (rd l0 x8_1)) = true := beq_iff_eq.mpr c6
              have c6b1 : (a1 != (rd l0 x8_1)) = false := bne_eq_false_iff_eq.mpr c6
              clear c6
              obtain rfl := Option.some.inj H
              have p105 : 0 ≤ (x8_1 : Int) := of_decide_eq_true (by first | (with_reducible assumption) | assumption)
              have q105 : x8_1 < (l0.length : Int) := of_decide_eq_true (by first | (with_reducible assumption) | assumption)
              obtain ⟨ad105, e105, hx105_0⟩ := Kd.at_int HR0.out x8_1 p105 q105
              cases e105
              replace p105 := eq_true p105
              replace q105 := eq_true q105
              go_wp2
              go_ret
              exact ⟨by first | rfl | (simp; done) | (simp [*]; done), by repeat (first | exact Drawn0.refl _ | apply Drawn0.step)⟩
            · rw [if_neg c6] at H
              have c6b0 : (a1 == (rd l0 x8_1)) = false := beq_eq_false_iff_ne.mpr c6
              have c6b1 : (a1 != (rd l0 x8_1)) = true := bne_iff_ne.mpr c6
              have H' := Aside0.mk H
              clear H
              have p105 : 0 ≤ (x8_1 : Int) := of_decide_eq_true (by first | (with_reducible assumption) | assumption)
              have q105 : x8_1 < (l0.length : Int) := of_decide_eq_true (by first | (with_reducible assumption) | assumption)
              obtain ⟨ad105, e105, hx105_0⟩ := Kd.at_int HR0.out x8_1 p105 q105
              cases e105
              replace p105 := eq_true p105
              replace q105 := eq_true q105
              go_wp2
              go_roundg k1
              case measure => have := HK1.out; omega
              case rel => exact ⟨(wrap64 (x8_1 + 1)), (by first | rfl | (simp; done) | (simp [*]; done)), H', ⟨by have := HK1.out; omega⟩, by repeat (first | exact Drawn0.refl _ | apply Drawn0.step)⟩
          · rw [if_neg c5] at H
            exact absurd H (by simp)
        · rw [if_neg c4] at H
          exact absurd H (by simp)
      · rw [if_neg c3] at H
        have c3b0 : decide (x8_1 < (l0.length : Int)) = false := decide_eq_false c3
        clear c3
        obtain rfl := Option.some.inj H
        go_wp2
        go_ret
        exact ⟨by first | rfl | (simp; done) | (simp [*]; done), by repeat (first | exact Drawn0.refl _ | apply Drawn0.step)⟩

end Go.Proofs.Ytkdhcmmfklganaa.G
end

section
-- Written by a program of this session (wip/tools/myprint.py), over the kit's print.
namespace Go.Proofs.Ytkdhcmmfklganaa.G
open Go.RowKit Go.Proofs.YtkdhcmmfklganaaW.PrintWords Go.Proofs.YtkdhcmmfklganaaW.PrintLast Go.Proofs.YtkdhcmmfklganaaW.PrintMore
attribute [local go_sem] max2_int min2_int max_two min_two max_three min_three max_four min_four   -- for this text's walks alone
set_option linter.unusedVariables false
set_option linter.unusedSimpArgs false

/-! ### slices_Contains_int_int: function 38 -/
def slices_Contains_int_int.f (k : Nat) (l0 : List Int) (a1 : Int) : Option (Bool) := (slices_Index_int_int.f k l0 a1).bind fun t106 => (some (decide (t106 ≥ 0)))
theorem slices_Contains_int_int.mono : ∀ a0 a1 k, LeO (slices_Contains_int_int.f k a0 a1) (slices_Contains_int_int.f (k + 1) a0 a1) := by
  intro a0 a1 k
  unfold slices_Contains_int_int.f
  repeat' first
      | (with_reducible exact slices_Index_int_int.mono _ _ _)
      | (with_reducible exact LeO.refl _)
      | (with_reducible exact LeO.none _)
      | (with_reducible refine LeO.ite ?_ ?_)
      | (with_reducible refine LeO.bind ?_ (fun _ => ?_))
      | exact slices_Index_int_int.mono _ _ _
      | exact LeO.none _
      | refine LeO.ite ?_ ?_
      | refine LeO.bind ?_ (fun _ => ?_)
set_option maxHeartbeats 8000000 in
set_option maxRecDepth 100000 in
theorem slices_Contains_int_int.calls (k : Nat) (A0 : Option Addr) (c0 : Nat) (l0 : List Int) (a1 : Int) (r : Bool) (w : World) (hr0 : Kd.C (Kd.int .i64) w A0 l0.length l0) (hc0 : l0.length ≤ c0) (h : slices_Contains_int_int.f k l0 a1 = some r) :
    Calls Try.prog 38 #[.slice A0 l0.length c0, .int .i64 a1] w fun e w' => e = .returned (.bool r) ∧ Drawn0 w w' := by
  have HR0 := Aside0.mk hr0
  have HC0 := Aside0.mk hc0
  clear hr0 hc0
  have H : ((slices_Index_int_int.f k l0 a1).bind fun t106 => (some (decide (t106 ≥ 0)))) = some r := h
  clear h
  replace H := Option.bind_eq_some_iff.mp H
  obtain ⟨t106, A30, H⟩ := H
  replace H : (some (decide (t106 ≥ 0))) = some r := H
  have A3 := Aside0.mk A30
  clear A30
  obtain rfl := Option.some.inj H
  go_enter Try.func38, Try.ntmps38
  go_wp2_with (first | ((with_reducible refine gate_callee (f := 50) rfl ?_); refine goesL_ (some 7) rfl rfl Try.func50 (by kernel_rfl) rfl #[.slice A0 l0.length c0, .int .i64 a1] rfl (by (try simp only [List.map_toArray, List.map_cons, List.map_nil]); first | done | rfl | (simp only [List.length_drop, List.length_take]; rfl)) ?_; (with_reducible refine (slices_Index_int_int.calls k _ _ l0 a1 t106 _ ?side1 ?side2 A3.out).mono ?_); (case side1 => repeat (first | exact HR0.out | (with_reducible refine Kd.C_alloc ?_ _) | (with_reducible refine Kd.C_drewN ?_ _) | (with_reducible refine Kd.C_drew ?_))); (case side2 => exact HC0.out); rintro e w' ⟨rfl, ⟨nd, rfl⟩⟩; refine ⟨_, rfl, ?_⟩))
  go_ret
  exact ⟨by first | rfl | (simp; done) | (simp [*]; done), by repeat (first | exact Drawn0.refl _ | apply Drawn0.step)⟩

end Go.Proofs.Ytkdhcmmfklganaa.G
end

section
/- which states are right, walked -/
set_option linter.unusedVariables false
set_option linter.unusedSimpArgs false
set_option autoImplicit false
namespace Go.Proofs.Ytkdhcmmfklganaa
open Go.RowKit Go.Proofs.YtkdhcmmfklganaaW.PrintWords Go.Proofs.YtkdhcmmfklganaaW.PrintLast Go.Proofs.YtkdhcmmfklganaaW.PrintMore Go.Proofs.Ytkdhcmmfklganaa.G

def wrongB (x : S46) : Bool := !(inB (x.f0.size : Int) 1 16 && (inB x.f1 (-2147483648) 2147483647 && inB x.f2 (-2147483648) 2147483647))
theorem wrong_f (x : S46) : first_wrong.f x.f0 x.f1 x.f2 = some (wrongB x) := by
  unfold first_wrong.f wrongB
  rw [in_f _ _ _ _ rfl]
  simp only [Option.bind_some]
  cases inB (x.f0.size : Int) 1 16 with
  | false => rfl
  | true =>
    rw [if_pos rfl, in_f _ _ _ _ rfl]
    simp only [Option.bind_some]
    cases inB x.f1 (-2147483648) 2147483647 with
    | false => rfl
    | true => rw [if_pos rfl, in_f _ _ _ _ rfl]; rfl
theorem index_go (l : List Int) (a : Int) (hl : l.length ≤ 9223372036854775807) : ∀ (d k i : Nat), i + d = l.length → d < k → ∃ j, slices_Index_int_int.l0 k l a (l.length : Int) (i : Int) = some j ∧ (decide (j ≥ 0) = (l.drop i).contains a) := by
  intro d
  induction d with
  | zero =>
    intro k i h1 h2
    obtain ⟨k, rfl⟩ : ∃ m, k = m + 1 := ⟨k - 1, by omega⟩
    refine ⟨-1, ?_, ?_⟩
    · simp only [slices_Index_int_int.l0]
      rw [if_neg (by omega)]
    · rw [List.drop_of_length_le (by omega)]; rfl
  | succ d ih =>
    intro k i h1 h2
    obtain ⟨k, rfl⟩ : ∃ m, k = m + 1 := ⟨k - 1, by omega⟩
    have hlt : i < l.length := by omega
    have e : rd l (i : Int) = l[i] := by simp [rd, List.getD_eq_getElem?_getD, hlt]
    have hd : l.drop i = l[i] :: l.drop (i + 1) := List.drop_eq_getElem_cons hlt
    simp only [slices_Index_int_int.l0]
    rw [if_pos (by omega), if_pos (by omega), if_pos (by omega), e, hd, List.contains_cons]
    by_cases ha : a = l[i]
    · rw [if_pos ha]
      exact ⟨_, rfl, by rw [show (a == l[i]) = true by simp [ha]]; simp⟩
    · rw [if_neg ha, show (a == l[i]) = false by simp [ha], Bool.false_or, show wrap64 ((i : Int) + 1) = ((i + 1 : Nat) : Int) by unfold wrap64; omega]
      exact ih k (i + 1) (by omega) (by omega)
theorem contains_f (l : List Int) (a : Int) (hl : l.length ≤ 9223372036854775807) (k : Nat) (hk : l.length < k) : slices_Contains_int_int.f k l a = some (l.contains a) := by
  obtain ⟨j, h1, h2⟩ := index_go l a hl l.length k 0 (by omega) hk
  unfold slices_Contains_int_int.f slices_Index_int_int.f
  rw [show (0 : Int) = ((0 : Nat) : Int) from rfl, h1]
  simp only [Option.bind_some]
  rw [show ((0 : Nat) : Int) = 0 from rfl, h2, List.drop_zero]
def ascB : Int → List Int → Bool
  | _, [] => true
  | last, n :: l => inB n (last + 1) 65535 && ascB n l
def subB (links : List Int) (x : S40) : Bool := decide (x.f2.length ≤ 12) && (!(x.f2.any wrongB) && links.contains x.f1)
def subsB (links : List Int) : Int → List S40 → Bool
  | _, [] => true
  | last, x :: l => inB x.f0 (last + 1) 65535 && (subB links x && subsB links x.f0 l)
def rightB (links : List Int) (subs : List S40) : Bool := ascB 0 links && (subsB links 0 subs && (decide (links.length ≤ 16) && decide (subs.length ≤ 64)))
theorem inB_last {n last : Int} (h : inB n (last + 1) 65535 = true) (h0 : 0 ≤ last) : 0 ≤ n ∧ n ≤ 65535 := by
  unfold inB at h
  split at h
  · simp at h; omega
  · cases h
theorem cells2r {W : World} {b T : Nat} {x y : Value} (h : W.heap[b]? = some (.cells #[x, y] T (0, 0))) :
    (W.cell? ⟨b, 0, none⟩ = some x ∧ W.cell? ⟨b, 1, none⟩ = some y) ∧ W.frozen? ⟨b, 0, none⟩ = false ∧ W.frozen? ⟨b, 1, none⟩ = false :=
  ⟨⟨by rw [cell_of_row _ _ _ _ _ _ h]; rfl, by rw [cell_of_row _ _ _ _ _ _ h]; rfl⟩, frozen_of_row _ _ _ _ _ h, frozen_of_row _ _ _ _ _ h⟩
set_option maxRecDepth 100000 in
set_option maxHeartbeats 4000000 in
theorem wright (links : List Int) (A0 : Option Addr) (c0 : Nat) (subs : List S40) (A1 : Option Addr) (c1 : Nat) (w : World) (hC0 : Kd.C (Kd.int .i64) w A0 links.length links) (hc0 : links.length ≤ c0) (hC1 : Kd.C k40 w A1 subs.length subs) (hl : links.length ≤ 9223372036854775807) :
    Calls Try.prog 15 #[.agg #[.slice A0 links.length c0, .slice A1 subs.length c1]] w fun r w' => r = .returned (.bool (rightB links subs)) ∧ Below w.heap.size w w' := by
  have hr : rightB links subs = (ascB 0 links && (subsB links 0 subs && (decide (links.length ≤ 16) && decide (subs.length ≤ 64)))) := rfl
  generalize rightB links subs = r at hr ⊢
  have HR := Aside0.mk hr
  have hP := heap_alloc_new w (.cells #[.slice A0 links.length c0, .slice A1 subs.length c1] 25 (0, 0))
  have hB := (Below.refl w.heap.size w).alloc (Nat.le_refl _) (.cells #[.slice A0 links.length c0, .slice A1 subs.length c1] 25 (0, 0))
  have HP := Aside0.mk hP
  have HB := Aside0.mk hB
  have HC0 := Aside0.mk (Kd.C_below hC0 hB)
  have HC1 := Aside0.mk (Kd.C_below hC1 hB)
  have hl1 := hC1.2.1
  clear hr hP hB hC0 hC1
  go_enter Try.func15, Try.ntmps15
  go_upto_region 1 with fail
  generalize w.alloc (.cells #[.slice A0 links.length c0, .slice A1 subs.length c1] 25 (0, 0)) = w1 at HP HB HC0 HC1 ⊢
  obtain ⟨⟨p0, p1⟩, p2, p3⟩ := cells2r HP.out
  go_wp2_with fail
  clear p0 p1 p2 p3
  go_loopw [3, 11] (fun la i wr => ∃ (k : Nat) (last : Int), k ≤ links.length ∧ i = .int .i64 k ∧ la = .int .i64 last ∧ 0 ≤ last ∧ last ≤ 65535 ∧ Aside0 (r = (ascB last (links.drop k) && (subsB links 0 subs && (decide (links.length ≤ 16) && decide (subs.length ≤ 64))))) ∧ Aside0 (Below w1.heap.size w1 wr)) (fun _ i _ => links.length - (intOf i).toNat)
  case atStart => exact ⟨0, 0, Nat.zero_le _, rfl, rfl, by omega, by omega, HR, ⟨Below.refl _ _⟩⟩
  case round =>
    obtain ⟨k, last, hk, rfl, rfl, hla0, hla1, HA, HW⟩ := hrel
    clear HR
    by_cases hlt : k < links.length
    · obtain ⟨ad, hA0, hcell⟩ := Kd.at_int (Kd.C_below HC0.out HW.out) (k : Int) (by omega) (by omega)
      subst hA0
      rw [Int.toNat_natCast] at hcell
      have hd : links.drop k = rd links k :: links.drop (k + 1) := by
        rw [List.drop_eq_getElem_cons hlt]; simp [rd, List.getD_eq_getElem?_getD, hlt]
      have ha := HA.out
      rw [hd] at ha
      generalize rd links k = n at hcell ha
      unfold ascB at ha
      clear hd HA
      have hwl : wrap64 (last + 1) = last + 1 := by unfold wrap64; omega
      cases hi : inB n (last + 1) 65535 with
      | false =>
        rw [hi] at ha
        have HA := Aside0.mk ha
        have HI := Aside0.mk hi
        clear ha hi hwl
        go_wp2_with fail
        refine (first_in.calls n (last + 1) 65535 false _ (in_f _ _ _ _ HI.out)).mono ?_
        rintro e w' ⟨rfl, ⟨nd, rfl⟩⟩
        go_wp2_with fail
        go_ret
        exact ⟨by rw [HA.out]; rfl, below_via6 HB.out (pw_below_drewN HW.out nd)⟩
      | true =>
        rw [hi] at ha
        have HA := Aside0.mk ha
        have HI := Aside0.mk hi
        have hlast := inB_last hi hla0
        clear ha hi hwl
        go_wp2_with fail
        refine (first_in.calls n (last + 1) 65535 true _ (in_f _ _ _ _ HI.out)).mono ?_
        rintro e w' ⟨rfl, ⟨nd, rfl⟩⟩
        go_wp2_with fail
        exact ⟨⟨k + 1, n, by omega, by go_num, rfl, hlast.1, hlast.2, ⟨by rw [HA.out, Bool.true_and]⟩, ⟨pw_below_drewN HW.out nd⟩⟩, by simp [intOf]; omega⟩
    · obtain rfl : k = links.length := by omega
      have HS := Aside0.mk (show r = (subsB links 0 subs && (decide (links.length ≤ 16) && decide (subs.length ≤ 64))) by rw [HA.out, List.drop_of_length_le (Nat.le_refl _)]; rfl)
      clear HA hla0 hla1
      have HC0' := Aside0.mk (Kd.C_below HC0.out HW.out)
      have HC1' := Aside0.mk (Kd.C_below HC1.out HW.out)
      have HP' := Aside0.mk (vkeepB HP.out HW.out)
      have HB' := Aside0.mk (below_via6 HB.out HW.out)
      clear HC0 HC1 HP HB HW
      obtain ⟨⟨p0, p1⟩, p2, p3⟩ := cells2r HP'.out
      obtain ⟨w2, hw2⟩ : ∃ q, q = wr := ⟨_, rfl⟩
      rw [← hw2] at HC0' HC1' HP' HB' p0 p1 p2 p3 ⊢
      clear hw2
      go_wp2_with fail
      clear p0 p1 p2 p3
      go_loopw [3, 25] (fun la i wr => ∃ (k : Nat) (last : Int), k ≤ subs.length ∧ i = .int .i64 k ∧ la = .int .i64 last ∧ 0 ≤ last ∧ last ≤ 65535 ∧ Aside0 (r = (subsB links last (subs.drop k) && (decide (links.length ≤ 16) && decide (subs.length ≤ 64)))) ∧ Aside0 (Below w2.heap.size w2 wr)) (fun _ i _ => subs.length - (intOf i).toNat)
      case atStart => exact ⟨0, 0, Nat.zero_le _, rfl, rfl, by omega, by omega, HS, ⟨Below.refl _ _⟩⟩
      case round =>
        obtain ⟨k, last, hk, rfl, rfl, hla0, hla1, HA, HW⟩ := hrel
        clear HS
        by_cases hlt : k < subs.length
        · obtain ⟨ad, Ax, cx, hA1, h0, h1, h2, hlx, hCx⟩ := at_T40 (Kd.C_below HC1'.out HW.out) (k : Int) (by omega) (by omega)
          subst hA1
          rw [Int.toNat_natCast] at h0 h1 h2
          have hd : subs.drop k = rd_T40 subs (k : Int) :: subs.drop (k + 1) := by
            rw [List.drop_eq_getElem_cons hlt]; simp [rd_T40, List.getD_eq_getElem?_getD, hlt]
          have ha := HA.out
          rw [hd] at ha
          generalize rd_T40 subs (k : Int) = x at h0 h1 h2 hlx hCx ha
          unfold subsB subB at ha
          clear hd HA
          obtain ⟨f0, f1, f2⟩ := x
          simp only at h0 h1 h2 hlx hCx ha
          have hlf := hCx.2.1
          have hN := heap_alloc_new wr (.cells #[.int .i64 f0, .int .i64 f1, .slice Ax f2.length cx] 40 (0, 0))
          have hb3 := (Below.refl wr.heap.size wr).alloc (Nat.le_refl _) (.cells #[.int .i64 f0, .int .i64 f1, .slice Ax f2.length cx] 40 (0, 0))
          have HN := Aside0.mk hN
          have HCX := Aside0.mk (Kd.C_below hCx hb3)
          have HW3 := Aside0.mk (HW.out.trans (hb3.mono HW.out.size))
          have HLX := Aside0.mk hlx
          clear hN hb3 hCx hlx
          go_upto_region 13 with fail
          generalize wr.alloc (.cells #[.int .i64 f0, .int .i64 f1, .slice Ax f2.length cx] 40 (0, 0)) = w3 at HN HCX HW3 ⊢
          clear h0 h1 h2 HW
          generalize wr.heap.size = gx at HN ⊢
          obtain ⟨⟨q0, q1, q2⟩, q3, q4, q5⟩ := cells3r HN.out
          have HP3 := Aside0.mk (vkeepB HP'.out HW3.out)
          obtain ⟨⟨p0, p1⟩, p2, p3⟩ := cells2r HP3.out
          have hwl : wrap64 (last + 1) = last + 1 := by unfold wrap64; omega
          cases hi : inB f0 (last + 1) 65535 with
          | false =>
            rw [hi] at ha
            have HA := Aside0.mk ha
            have HI := Aside0.mk hi
            clear ha hi hwl
            go_wp2_with fail
            refine (first_in.calls f0 (last + 1) 65535 false _ (in_f _ _ _ _ HI.out)).mono ?_
            rintro e w' ⟨rfl, ⟨nd, rfl⟩⟩
            go_wp2_with fail
            go_ret
            exact ⟨by rw [HA.out]; rfl, below_via6 HB'.out (pw_below_drewN HW3.out nd)⟩
          | true =>
            rw [hi] at ha
            have HI := Aside0.mk hi
            have hlast := inB_last hi hla0
            clear hi hwl
            by_cases l1 : f2.length ≤ 12
            · have l1' : (f2.length : Int) ≤ 12 := by omega
              rw [decide_eq_true l1] at ha
              cases hw : f2.any wrongB with
              | true =>
                rw [hw] at ha
                have HA := Aside0.mk ha
                have HWR := Aside0.mk hw
                clear ha hw
                go_wp2_with fail
                refine (first_in.calls f0 (last + 1) 65535 true _ (in_f _ _ _ _ HI.out)).mono ?_
                rintro e w' ⟨rfl, ⟨nd, rfl⟩⟩
                go_wp2_with fail
                refine (any_wrong wrongB Ax cx f2 _ (Kd.C_drewN HCX.out nd) (fun x W hW _ => first_wrong.calls x.f0 x.f1 x.f2 (wrongB x) W (wrong_f x))).mono ?_
                rintro e w4 ⟨rfl, hX⟩
                rw [HWR.out]
                have HX := Aside0.mk hX
                clear hX
                go_wp2_with fail
                go_ret
                exact ⟨by rw [HA.out]; rfl, below_via6 HB'.out ((pw_below_drewN HW3.out nd).trans (HX.out.mono (pw_below_drewN HW3.out nd).size))⟩
              | false =>
                rw [hw] at ha
                have HWR := Aside0.mk hw
                clear hw
                cases hcn : links.contains f1 with
                | false =>
                  rw [hcn] at ha
                  have HA := Aside0.mk ha
                  have HCN := Aside0.mk hcn
                  clear ha hcn
                  go_wp2_with fail
                  refine (first_in.calls f0 (last + 1) 65535 true _ (in_f _ _ _ _ HI.out)).mono ?_
                  rintro e w' ⟨rfl, ⟨nd, rfl⟩⟩
                  go_wp2_with fail
                  refine (any_wrong wrongB Ax cx f2 _ (Kd.C_drewN HCX.out nd) (fun x W hW _ => first_wrong.calls x.f0 x.f1 x.f2 (wrongB x) W (wrong_f x))).mono ?_
                  rintro e w4 ⟨rfl, hX⟩
                  rw [HWR.out]
                  have HW4 := Aside0.mk ((pw_below_drewN HW3.out nd).trans (hX.mono (pw_below_drewN HW3.out nd).size))
                  have hN4 := vkeepB (by rw [(pw_below_drewN (Below.refl w3.heap.size w3) nd).block _ (lt_of_heap HN.out)]; exact HN.out : (w3.drewN nd).heap[gx]? = some (.cells #[.int .i64 f0, .int .i64 f1, .slice Ax f2.length cx] 40 (0, 0))) hX
                  clear hX p0 p1 p2 p3 q0 q1 q2 q3 q4 q5
                  have HN4 := Aside0.mk hN4
                  clear hN4
                  have HP4 := Aside0.mk (vkeepB HP'.out HW4.out)
                  obtain ⟨⟨q0, q1, q2⟩, q3, q4, q5⟩ := cells3r HN4.out
                  obtain ⟨⟨p0, p1⟩, p2, p3⟩ := cells2r HP4.out
                  go_wp2_with fail
                  refine (slices_Contains_int_int.calls (links.length + 1) A0 c0 links f1 false w4 (Kd.C_below HC0'.out HW4.out) hc0 (by rw [contains_f links f1 (by omega) _ (by omega), HCN.out])).mono ?_
                  rintro e w' ⟨rfl, ⟨nd2, rfl⟩⟩
                  go_wp2_with fail
                  go_ret
                  exact ⟨by rw [HA.out]; rfl, below_via6 HB'.out (pw_below_drewN HW4.out nd2)⟩
                | true =>
                  rw [hcn] at ha
                  have HA := Aside0.mk ha
                  have HCN := Aside0.mk hcn
                  clear ha hcn
                  go_wp2_with fail
                  refine (first_in.calls f0 (last + 1) 65535 true _ (in_f _ _ _ _ HI.out)).mono ?_
                  rintro e w' ⟨rfl, ⟨nd, rfl⟩⟩
                  go_wp2_with fail
                  refine (any_wrong wrongB Ax cx f2 _ (Kd.C_drewN HCX.out nd) (fun x W hW _ => first_wrong.calls x.f0 x.f1 x.f2 (wrongB x) W (wrong_f x))).mono ?_
                  rintro e w4 ⟨rfl, hX⟩
                  rw [HWR.out]
                  have HW4 := Aside0.mk ((pw_below_drewN HW3.out nd).trans (hX.mono (pw_below_drewN HW3.out nd).size))
                  have hN4 := vkeepB (by rw [(pw_below_drewN (Below.refl w3.heap.size w3) nd).block _ (lt_of_heap HN.out)]; exact HN.out : (w3.drewN nd).heap[gx]? = some (.cells #[.int .i64 f0, .int .i64 f1, .slice Ax f2.length cx] 40 (0, 0))) hX
                  clear hX p0 p1 p2 p3 q0 q1 q2 q3 q4 q5
                  have HN4 := Aside0.mk hN4
                  clear hN4
                  have HP4 := Aside0.mk (vkeepB HP'.out HW4.out)
                  obtain ⟨⟨q0, q1, q2⟩, q3, q4, q5⟩ := cells3r HN4.out
                  obtain ⟨⟨p0, p1⟩, p2, p3⟩ := cells2r HP4.out
                  go_wp2_with fail
                  refine (slices_Contains_int_int.calls (links.length + 1) A0 c0 links f1 true w4 (Kd.C_below HC0'.out HW4.out) hc0 (by rw [contains_f links f1 (by omega) _ (by omega), HCN.out])).mono ?_
                  rintro e w' ⟨rfl, ⟨nd2, rfl⟩⟩
                  go_wp2_with fail
                  exact ⟨⟨k + 1, f0, by omega, by go_num, rfl, hlast.1, hlast.2, ⟨by rw [HA.out]; simp⟩, ⟨pw_below_drewN HW4.out nd2⟩⟩, by simp [intOf]; omega⟩
            · have l1' : ¬ (f2.length : Int) ≤ 12 := by omega
              rw [decide_eq_false l1] at ha
              have HA := Aside0.mk ha
              clear ha
              go_wp2_with fail
              refine (first_in.calls f0 (last + 1) 65535 true _ (in_f _ _ _ _ HI.out)).mono ?_
              rintro e w' ⟨rfl, ⟨nd, rfl⟩⟩
              go_wp2_with fail
              go_ret
              exact ⟨by rw [HA.out]; rfl, below_via6 HB'.out (pw_below_drewN HW3.out nd)⟩
        · obtain rfl : k = subs.length := by omega
          have HS := Aside0.mk (show r = (decide (links.length ≤ 16) && decide (subs.length ≤ 64)) by rw [HA.out, List.drop_of_length_le (Nat.le_refl _)]; rfl)
          clear HA hla0 hla1
          have HP3 := Aside0.mk (vkeepB HP'.out HW.out)
          obtain ⟨⟨p0, p1⟩, p2, p3⟩ := cells2r HP3.out
          by_cases l1 : links.length ≤ 16
          · have l1' : (links.length : Int) ≤ 16 := by omega
            by_cases l2 : subs.length ≤ 64
            · have l2' : (subs.length : Int) ≤ 64 := by omega
              go_wp2_with fail
              go_ret
              exact ⟨by rw [HS.out, decide_eq_true l1, decide_eq_true l2]; rfl, below_via6 HB'.out HW.out⟩
            · have l2' : ¬ (subs.length : Int) ≤ 64 := by omega
              go_wp2_with fail
              go_ret
              exact ⟨by rw [HS.out, decide_eq_true l1, decide_eq_false l2]; rfl, below_via6 HB'.out HW.out⟩
          · have l1' : ¬ (links.length : Int) ≤ 16 := by omega
            go_wp2_with fail
            go_ret
            exact ⟨by rw [HS.out, decide_eq_false l1]; rfl, below_via6 HB'.out HW.out⟩
end Go.Proofs.Ytkdhcmmfklganaa
end

section
set_option linter.unusedVariables false
set_option linter.unusedSimpArgs false
set_option autoImplicit false
namespace Go.Proofs.Ytkdhcmmfklganaa
open Go.RowKit Go.Proofs.YtkdhcmmfklganaaW.PrintWords Go.Proofs.YtkdhcmmfklganaaW.PrintLast Go.Proofs.YtkdhcmmfklganaaW.PrintMore

/-- append(v, ys...), whole numbers, v of the call's own: what the builtin does -/
theorem run_append_ints {P : Program} {W : World} (base : Nat) (t rt e : TypeId) (k : IntKind) (bytes : Nat)
    (ht : P.underlying t = some (.slice e)) (hinfo : (P.info? e).map (fun i => (i.zero, i.size, i.bytes)) = some (some (.int k 0), 1, bytes)) (hb0 : 0 < bytes)
    (v : Value) (xs ys : List Int) (A : Option Addr) (m c : Nat) (HO : W.ownsRow base e 1 v xs.length (nums k xs)) (HR : ReadsInt W k A m ys) (hbase : base ≤ W.heap.size) (hl : (xs.length + m) * bytes ≤ 140737488355328) :
    ∃ v1 w1, (Builtin.append_ #[t, t] rt #[v, .slice A m c]).run P W = .ok v1 w1 ∧ w1.ownsRow base e 1 v1 (xs ++ ys).length (nums k (xs ++ ys)) ∧ W.grownBy w1 v.ownBlock ∧ (v1.ownBlock = v.ownBlock ∨ v1.ownBlock = some W.heap.size) := by
  obtain ⟨i0, hi, hzz⟩ := Option.map_eq_some_iff.1 hinfo
  simp only [Prod.mk.injEq] at hzz
  obtain ⟨hz0, hz1, hz2⟩ := hzz
  have hm : ys.length = m := HR.1
  have hlen : xs.length + m ≤ 140737488355328 := Nat.le_trans (Nat.le_mul_of_pos_right _ hb0) hl
  rcases A with _ | ad
  · have h0 : m = 0 := by
      rcases Nat.eq_zero_or_pos m with h0 | h0
      · exact h0
      · obtain ⟨ad, h, _⟩ := HR.2.2 h0
        cases h
    subst h0
    obtain rfl : ys = [] := List.eq_nil_of_length_eq_zero hm
    refine ⟨v, W, ?_, by simpa using HO, World.grownBy.refl W _, .inl rfl⟩
    rcases HO.2 with ⟨rfl, hn⟩ | ⟨g, cap, cur, rfl, _, _, hnc, _⟩
    · simp [Builtin.append_, run_underlying ht, sizeOf, typeInfo, hi, Builtin.lenOf, Builtin.firstCells]
    · simp [Builtin.append_, run_underlying ht, sizeOf, typeInfo, hi, Builtin.lenOf, Builtin.firstCells, hnc, storeCells]
  · have hcells : ∀ j u, (nums k ys)[j]? = some u → W.cell? (ad.add j) = some u := by
      intro j u hu
      have hj : j < ys.length := by
        rcases Nat.lt_or_ge j ys.length with h | h
        · exact h
        · simp [nums, List.getElem?_eq_none h] at hu
      obtain ⟨ad', h', hc⟩ := HR.2.2 (by omega)
      injection h' with h'
      subst h'
      have := hc j (by omega)
      simp [nums, List.getElem?_eq_getElem hj] at hu
      subst hu
      rw [this]
      simp [List.getD_eq_getElem?_getD, List.getElem?_eq_getElem hj]
    obtain ⟨v1, w1, hr, h2, h3, _, h5⟩ := run_append_own_at (P := P) W base t rt e i0 (.int k 0) 1 bytes ht hi hz0 hz1 hz2 rfl (by omega) v xs.length (nums k xs) HO ad m c (nums k ys) (by simp [nums, hm]) hcells
      (by intro u hu; simp only [nums, List.mem_map] at hu; obtain ⟨q, _, rfl⟩ := hu; rfl) (by simp only [maxLen]; omega) hl hbase
    exact ⟨v1, w1, hr, by simpa [nums, hm] using h2, h3, h5⟩
/-- .. in a region that draws its order -/
theorem step_append_row {P : Program} {ops : Array Oper} {o : Oper} {a : Act} {w0 W : World} {K : Act → World → Prop} {Q : Exit → Act → World → Prop} {E : Prop} (base : Nat) (hgd : o.guard = none) (s x : Operand) (t e : TypeId) (k : IntKind) (bytes : Nat)
    (ho : o.op = .call { callee := .builtin .append, args := #[s, x], argTypes := #[t, t] })
    (ht : P.underlying t = some (.slice e)) (hinfo : (P.info? e).map (fun i => (i.zero, i.size, i.bytes)) = some (some (.int k 0), 1, bytes)) (hb0 : 0 < bytes)
    (v : Value) (xs ys : List Int) (A : Option Addr) (m c : Nat) (hs : a.eval s = v) (hx : a.eval x = .slice A m c)
    (HO : W.ownsRow base e 1 v xs.length (nums k xs)) (HR : ReadsInt W k A m ys) (HB : Below base w0 W) (hbase : base ≤ W.heap.size) (hl : (xs.length + m) * bytes ≤ 140737488355328)
    (h : ∀ v1 w1, w1.ownsRow base e 1 v1 (xs ++ ys).length (nums k (xs ++ ys)) → Below base w0 w1 → W.grownBy w1 v.ownBlock → K (a.put o.dst v1) w1) :
    if Region.wanted o (yielded ops a.tmps) = true then Oper.wp P o a W K Q else E := by
  rw [if_pos (by simp [Region.wanted, hgd])]
  obtain ⟨v1, w1, hr, hown, hg, _⟩ := run_append_ints (P := P) base t o.type e k bytes ht hinfo hb0 v xs ys A m c HO HR hbase hl
  unfold Oper.wp execOp
  simp only [ho, resolve, invoke, builtin, Sem.run_bind, Sem.run_pure, Result.andThen_ok, List.map_toArray, List.map_cons, List.map_nil, hs, hx, hr]
  exact h v1 w1 hown (HB.grown hg hbase (own_base HO)) hg
/-- append(v, ys...), elements of one cell, v of the call's own: what the builtin does -/
theorem run_append_enc {α : Type} {P : Program} {W : World} (enc : α → Value) (d : α) (base : Nat) (t rt e : TypeId) (z : Value) (bytes : Nat)
    (ht : P.underlying t = some (.slice e)) (hinfo : (P.info? e).map (fun i => (i.zero, i.size, i.bytes)) = some (some z, 1, bytes)) (hz : z.cells.size = 1) (hb0 : 0 < bytes) (h1 : ∀ x : α, (enc x).oneCell' = true)
    (v : Value) (xs ys : List α) (A : Option Addr) (m c : Nat) (HO : W.ownsRow base e 1 v xs.length (encs enc xs)) (HR : ReadsOf enc d W A m ys) (hbase : base ≤ W.heap.size) (hl : (xs.length + m) * bytes ≤ 140737488355328) :
    ∃ v1 w1, (Builtin.append_ #[t, t] rt #[v, .slice A m c]).run P W = .ok v1 w1 ∧ w1.ownsRow base e 1 v1 (xs ++ ys).length (encs enc (xs ++ ys)) ∧ W.grownBy w1 v.ownBlock := by
  obtain ⟨i0, hi, hzz⟩ := Option.map_eq_some_iff.1 hinfo
  simp only [Prod.mk.injEq] at hzz
  obtain ⟨hz0, hz1, hz2⟩ := hzz
  have hm : ys.length = m := HR.1
  have hlen : xs.length + m ≤ 140737488355328 := Nat.le_trans (Nat.le_mul_of_pos_right _ hb0) hl
  rcases A with _ | ad
  · have h0 : m = 0 := by
      rcases Nat.eq_zero_or_pos m with h0 | h0
      · exact h0
      · obtain ⟨ad, h, _⟩ := HR.2.2 h0
        cases h
    subst h0
    obtain rfl : ys = [] := List.eq_nil_of_length_eq_zero hm
    refine ⟨v, W, ?_, by simpa using HO, World.grownBy.refl W _⟩
    rcases HO.2 with ⟨rfl, hn⟩ | ⟨g, cap, cur, rfl, _, _, hnc, _⟩
    · simp [Builtin.append_, run_underlying ht, sizeOf, typeInfo, hi, Builtin.lenOf, Builtin.firstCells]
    · simp [Builtin.append_, run_underlying ht, sizeOf, typeInfo, hi, Builtin.lenOf, Builtin.firstCells, hnc, storeCells]
  · have hcells : ∀ j u, (encs enc ys)[j]? = some u → W.cell? (ad.add j) = some u := by
      intro j u hu
      have hj : j < ys.length := by
        rcases Nat.lt_or_ge j ys.length with h | h
        · exact h
        · simp [encs, List.getElem?_eq_none h] at hu
      obtain ⟨ad', h', hc⟩ := HR.2.2 (by omega)
      injection h' with h'
      subst h'
      rw [encs_get (d := d) ys j hj] at hu
      rw [← hu]
      exact hc j (by omega)
    obtain ⟨v1, w1, hr, h2, h3, _, h5⟩ := run_append_own_at (P := P) W base t rt e i0 z 1 bytes ht hi hz0 hz1 hz2 hz (by omega) v xs.length (encs enc xs) HO ad m c (encs enc ys) (by simp [encs, hm]) hcells
      (by intro u hu; simp only [encs, List.mem_map] at hu; obtain ⟨q, _, rfl⟩ := hu; exact h1 q) (by simp only [maxLen]; omega) hl hbase
    exact ⟨v1, w1, hr, by simpa [encs, hm] using h2, h3⟩
/-- .. where the operation is guarded, and the guard is open -/
theorem guarded_append {α : Type} {P : Program} {ops : Array Oper} {rest : List Oper} {o : Oper} {a : Act} {Q : Exit → Act → World → Prop} {w0 W : World} (enc : α → Value) (d : α) (base : Nat) (hw : Region.wanted o (yielded ops a.tmps) = true) (s x : Operand) (t e : TypeId) (z : Value) (bytes : Nat)
    (ho : o.op = .call { callee := .builtin .append, args := #[s, x], argTypes := #[t, t] })
    (ht : P.underlying t = some (.slice e)) (hinfo : (P.info? e).map (fun i => (i.zero, i.size, i.bytes)) = some (some z, 1, bytes)) (hz : z.cells.size = 1) (hb0 : 0 < bytes) (h1 : ∀ x : α, (enc x).oneCell' = true)
    (v : Value) (xs ys : List α) (A : Option Addr) (m c : Nat) (hs : a.eval s = v) (hx : a.eval x = .slice A m c)
    (HO : W.ownsRow base e 1 v xs.length (encs enc xs)) (HR : ReadsOf enc d W A m ys) (HB : Below base w0 W) (hbase : base ≤ W.heap.size) (hl : (xs.length + m) * bytes ≤ 140737488355328)
    (h : ∀ v1 w1, w1.ownsRow base e 1 v1 (xs ++ ys).length (encs enc (xs ++ ys)) → Below base w0 w1 → W.grownBy w1 v.ownBlock → wpList P ops Q rest (a.put o.dst v1) w1) :
    wpList P ops Q (o :: rest) a W := by
  unfold wpList
  rw [if_pos hw]
  refine .inl ?_
  obtain ⟨v1, w1, hr, hown, hg⟩ := run_append_enc (P := P) enc d base t o.type e z bytes ht hinfo hz hb0 h1 v xs ys A m c HO HR hbase hl
  unfold Oper.wp execOp
  simp only [ho, resolve, invoke, builtin, Sem.run_bind, Sem.run_pure, Result.andThen_ok, List.map_toArray, List.map_cons, List.map_nil, hs, hx, hr]
  exact h v1 w1 hown (HB.grown hg hbase (own_base HO)) hg
end Go.Proofs.Ytkdhcmmfklganaa
end

section
/- the closures that lay numbers, walked -/
set_option linter.unusedVariables false
set_option linter.unusedSimpArgs false
set_option autoImplicit false
namespace Go.Proofs.Ytkdhcmmfklganaa
open Go.RowKit Go.Proofs.YtkdhcmmfklganaaW.PrintWords Go.Proofs.YtkdhcmmfklganaaW.PrintLast Go.Proofs.YtkdhcmmfklganaaW.PrintMore Go.Proofs.Ytkdhcmmfklganaa.G

def twoB (n : Int) : List Int := [n / 256 % 256, n % 256]
def fourB (n : Int) : List Int := twoB (n / 65536) ++ twoB n
/-- a row of bytes of the call's own -/
def Row8 (W : World) (B : Nat) (v : Value) (l : List Int) : Prop := Kd.R (Kd.int .u8) 5 W B (fun _ => True) v l
/-- the row is where it was, or in a block that is new since w -/
def At (w : World) (v v1 : Value) : Prop := v1.ownBlock = v.ownBlock ∨ ∃ b, v1.ownBlock = some b ∧ w.heap.size ≤ b
theorem At.trans {w w2 : World} {v v1 v2 : Value} (h : At w v v1) (h2 : At w2 v1 v2) (hs : w.heap.size ≤ w2.heap.size) : At w v v2 := by
  rcases h2 with h2 | ⟨b, h2, h3⟩
  · rcases h with h | ⟨b, h, h3⟩
    · exact .inl (h2.trans h)
    · exact .inr ⟨b, h2.trans h, h3⟩
  · exact .inr ⟨b, h2, Nat.le_trans hs h3⟩
theorem grown_at {a b c : World} {v v1 : Value} (h : a.grownBy b v.ownBlock) (hat : At a v v1) (k : b.grownBy c v1.ownBlock) : a.grownBy c v.ownBlock :=
  ⟨k.os.trans h.os, k.tape.trans h.tape, k.output.trans h.output, Nat.le_trans h.size k.size, fun i hi hn => (k.block i (Nat.lt_of_lt_of_le hi h.size) (by
    rcases hat with hat | ⟨b, hat, hb⟩
    · rw [hat]; exact hn
    · rw [hat]; intro e; cases e; omega)).trans (h.block i hi hn)⟩
set_option maxHeartbeats 1000000 in
theorem wtwoB (v : Value) (l : List Int) (n : Int) (B : Nat) (w : World) (hR : Row8 w B v l) (hB : B ≤ w.heap.size) (hl : l.length ≤ 1000000) (hn : -9223372036854775808 ≤ n ∧ n < 9223372036854775808) :
    Calls Try.prog 23 #[v, .int .i64 n] w fun r w' => ∃ v1, r = .returned v1 ∧ Row8 w' B v1 (l ++ twoB n) ∧ w.grownBy w' v.ownBlock ∧ At w v v1 := by
  obtain ⟨A, c, rfl⟩ := Kd.R_slice hR
  have HR := Aside0.mk hR
  have HL := Aside0.mk hl
  have HB := Aside0.mk hB
  clear hR hl hB
  go_enter Try.func23, Try.ntmps23
  go_wp2_with (at_builtin; refine print_append_row (w0 := w) B rfl (.tmp 5) (.tmp 11) 26 5 .u8 1 rfl Try.underlying26 info5 (by decide) (.slice A l.length c) l [n / 256 % 256, n % 256] (some ⟨w.heap.size, 0, none⟩) 2 2 rfl rfl ((kd_own HR.out).alloc _) (Kd.reads_of_C (d := (0 : Int)) (lit_C w 5 .u8 [n / 256 % 256, n % 256] (by simp))) ((Below.refl _ _).alloc HB.out _) (Nat.le_trans HB.out (by simp)) (by have := HL.out; omega) ?_; intro v3 w3 ho3 hB3 hG3 hat; have HAT : Aside0 (At w (.slice A l.length c) v3) := ⟨hat.imp id (fun ⟨b, h1, h2⟩ => ⟨b, h1, by simp at h2; omega⟩)⟩; clear hat)
  go_ret
  exact ⟨v3, rfl, kd_R ho3, grown_trans (World.grownBy_alloc w _ _) hG3, HAT.out⟩
theorem grown_drew (w : World) (r : Option Nat) : w.grownBy w.drew r := let h := below_drew (Below.refl w.heap.size w); ⟨h.os, h.tape, h.output, h.size, fun k hk _ => h.block k hk⟩
theorem vkeepR {W W' : World} {b : Nat} {o : Obj} {row : Option Nat} (h : W.heap[b]? = some o) (hG : W.grownBy W' row) (hne : some b ≠ row) : W'.heap[b]? = some o := by rw [hG.block _ (lt_of_heap h) hne]; exact h
set_option maxRecDepth 100000 in
set_option maxHeartbeats 2000000 in
theorem wfourB (v : Value) (l : List Int) (n : Int) (B gf : Nat) (w : World) (hR : Row8 w B v l) (hB : B ≤ w.heap.size) (hl : l.length ≤ 900000) (hn : -9223372036854775808 ≤ n ∧ n < 9223372036854775808) (hF : w.heap[gf]? = some (.cells #[(.func (.func 23) #[] #[])] 54 (0, 0))) :
    Calls Try.prog 24 #[v, .int .i64 n, .pointer (some ⟨gf, 0, none⟩)] w fun r w' => ∃ v1, r = .returned v1 ∧ Row8 w' B v1 (l ++ fourB n) ∧ w.grownBy w' v.ownBlock ∧ At w v v1 := by
  obtain ⟨A, c, rfl⟩ := Kd.R_slice hR
  have hb := below_drew (Below.refl w.heap.size w)
  have HR1 : Aside0 (Row8 w.drew B (.slice A l.length c) l) := Aside0.mk (Kd.R_below hR hb)
  have HF1 := Aside0.mk (vkeepB hF hb)
  have HB1 := Aside0.mk (Nat.le_trans hB hb.size)
  have HL := Aside0.mk hl
  have hc1 := (cells1r HF1.out).1
  clear hR hB hl hF hb
  go_enter Try.func24, Try.ntmps24
  go_upto_region 1 with fail
  refine wp_region_held_drew (S := (fun W => W.cell? ⟨gf, 0, none⟩ = some (.func (.func 23) #[] #[]))) (by kernel_rfl) hc1 (fun hHeld => ?_)
  refine wpAnyH_take (i := 0) (oi := { dst := some 6, op := Op.load 54 (Operand.tmp 2), type := 54, pos := "first.go:52", after := #[], guard := none }) (v := ?_) rfl (by kernel_rfl) (by kernel_rfl) (by kernel_rfl) (fun _ _ _ h => h) (Or.inl ⟨by rfl, ?_⟩) (by assumption) ?_
  rotate_left
  · intro w hSw
    try dsimp only at hSw
    go_simp
    all_goals with_reducible rfl
  try simp only [Act.put, List.setIfInBounds_toArray, List.set_cons_zero, List.set_cons_succ]
  refine wpAnyH_take (i := 1) (oi := { dst := some 7, op := Op.load 54 (Operand.tmp 2), type := 54, pos := "first.go:52", after := #[], guard := none }) (v := ?_) rfl (by kernel_rfl) (by kernel_rfl) (by kernel_rfl) (fun _ _ _ h => h) (Or.inl ⟨by rfl, ?_⟩) (by assumption) ?_
  rotate_left
  · intro w hSw
    try dsimp only at hSw
    go_simp
    all_goals with_reducible rfl
  try simp only [Act.put, List.setIfInBounds_toArray, List.set_cons_zero, List.set_cons_succ]
  refine wpAnyH_take (i := 2) (oi := { dst := some 8, op := Op.move (Operand.tmp 0), type := 26, pos := "first.go:52", after := #[], guard := none }) (v := ?_) rfl (by kernel_rfl) (by kernel_rfl) (by kernel_rfl) (fun _ _ _ h => h) (Or.inl ⟨by rfl, ?_⟩) (by assumption) ?_
  rotate_left
  · intro w hSw
    try dsimp only at hSw
    go_simp
    all_goals with_reducible rfl
  try simp only [Act.put, List.setIfInBounds_toArray, List.set_cons_zero, List.set_cons_succ]
  refine wpAnyH_take (i := 3) (oi := { dst := some 9, op := Op.move (Operand.tmp 1), type := 3, pos := "first.go:52", after := #[], guard := none }) (v := ?_) rfl (by kernel_rfl) (by kernel_rfl) (by kernel_rfl) (fun _ _ _ h => h) (Or.inl ⟨by rfl, ?_⟩) (by assumption) ?_
  rotate_left
  · intro w hSw
    try dsimp only at hSw
    go_simp
    all_goals with_reducible rfl
  try simp only [Act.put, List.setIfInBounds_toArray, List.set_cons_zero, List.set_cons_succ]
  refine wpAnyH_take (i := 4) (oi := { dst := some 10, op := Op.binOp BinOp.shr 3 (Operand.tmp 9) (Operand.const (Value.int IntKind.u64 16)) 53, type := 3, pos := "first.go:52", after := #[{ on := 3, ground := Ground.data }], guard := none }) (v := ?_) rfl (by kernel_rfl) (by kernel_rfl) (by kernel_rfl) (fun _ _ _ h => h) (Or.inl ⟨by rfl, ?_⟩) (by assumption) ?_
  rotate_left
  · intro w hSw
    try dsimp only at hSw
    go_simp
    all_goals with_reducible rfl
  try simp only [Act.put, List.setIfInBounds_toArray, List.set_cons_zero, List.set_cons_succ]
  refine wpAnyH_take (i := 6) (oi := { dst := some 12, op := Op.move (Operand.tmp 1), type := 3, pos := "first.go:52", after := #[], guard := none }) (v := ?_) rfl (by kernel_rfl) (by kernel_rfl) (by kernel_rfl) (fun _ _ _ h => h) (Or.inl ⟨by rfl, ?_⟩) (by assumption) ?_
  rotate_left
  · intro w hSw
    try dsimp only at hSw
    go_simp
    all_goals with_reducible rfl
  try simp only [Act.put, List.setIfInBounds_toArray, List.set_cons_zero, List.set_cons_succ]
  refine wpAnyH_ready (rs := [5]) (by kernel_rfl) (by simp) ?_
  refine AllReadyH.cons (o := { dst := some 11, op := Op.call { callee := Callee.value (Operand.tmp 7), args := #[Operand.tmp 8, Operand.tmp 10], argTypes := #[26, 3] }, type := 26, pos := "first.go:52", after := #[{ on := 1, ground := Ground.data }, { on := 2, ground := Ground.data }, { on := 4, ground := Ground.data }], guard := none }) rfl (fun K hK => ?_) AllReadyH.nil
  go_simp
  (refine (wtwoB (.slice A l.length c) l (n / 65536) B _ HR1.out HB1.out (by have := HL.out; omega) (by omega)).mono ?_; rintro e w2 ⟨v2, rfl, hR2, hG2, hat2⟩; have HR2 := Aside0.mk hR2; have HG2 := Aside0.mk hG2; have HA2 := Aside0.mk hat2; clear hR2 hG2 hat2; have HF2 := Aside0.mk (vkeepR HF1.out HG2.out (Kd.R_ne HR1.out HF1.out (by decide))); have hc2 : w2.cell? ⟨gf, 0, none⟩ = some (.func (.func 23) #[] #[]) := (cells1r HF2.out).1; obtain ⟨l2, hl2⟩ : ∃ q, l ++ twoB (n / 65536) = q := ⟨_, rfl⟩; rw [hl2] at HR2; have HL2 := Aside0.mk hl2; clear hl2; obtain ⟨A2, c2, rfl⟩ := Kd.R_slice HR2.out)
  go_wp2_with fail
  refine hK.out _ _ (by assumption) (fun hHeld => ?_)
  clear hK K
  try simp only [Act.put, List.setIfInBounds_toArray, List.set_cons_zero, List.set_cons_succ]
  refine wpAnyH_ready (rs := [7]) (by kernel_rfl) (by simp) ?_
  refine AllReadyH.cons (o := { dst := some 13, op := Op.call { callee := Callee.value (Operand.tmp 6), args := #[Operand.tmp 11, Operand.tmp 12], argTypes := #[26, 3] }, type := 26, pos := "first.go:52", after := #[{ on := 0, ground := Ground.data }, { on := 5, ground := Ground.data }, { on := 6, ground := Ground.data }, { on := 5, ground := Ground.chain }], guard := none }) rfl (fun K hK => ?_) AllReadyH.nil
  go_simp
  (refine (wtwoB (.slice A2 l2.length c2) l2 n B _ HR2.out (Nat.le_trans HB1.out HG2.out.size) (by rw [← HL2.out, List.length_append]; have := HL.out; simp [twoB]; omega) hn).mono ?_; rintro e w3 ⟨v3, rfl, hR3, hG3, hat3⟩; have HR3 := Aside0.mk hR3; have HG3 := Aside0.mk hG3; have HA3 := Aside0.mk hat3; clear hR3 hG3 hat3; have HF3 := Aside0.mk (vkeepR HF2.out HG3.out (Kd.R_ne HR2.out HF2.out (by decide))); have hc3 : w3.cell? ⟨gf, 0, none⟩ = some (.func (.func 23) #[] #[]) := (cells1r HF3.out).1)
  go_wp2_with fail
  refine hK.out _ _ (by assumption) (fun hHeld => ?_)
  clear hK K
  try simp only [Act.put, List.setIfInBounds_toArray, List.set_cons_zero, List.set_cons_succ]
  refine wpAnyH_take (i := 8) (oi := { dst := some 5, op := Op.assign (Operand.tmp 13), type := 26, pos := "first.go:52", after := #[{ on := 7, ground := Ground.data }, { on := 7, ground := Ground.chain }, { on := 0, ground := Ground.phase }, { on := 1, ground := Ground.phase }, { on := 2, ground := Ground.phase }, { on := 3, ground := Ground.phase }, { on := 4, ground := Ground.phase }, { on := 5, ground := Ground.phase }, { on := 6, ground := Ground.phase }, { on := 7, ground := Ground.phase }], guard := none }) (v := ?_) rfl (by kernel_rfl) (by kernel_rfl) (by kernel_rfl) (fun _ _ _ h => h) (Or.inl ⟨by rfl, ?_⟩) (by assumption) ?_
  rotate_left
  · intro w hSw
    try dsimp only at hSw
    go_simp
    all_goals with_reducible rfl
  try simp only [Act.put, List.setIfInBounds_toArray, List.set_cons_zero, List.set_cons_succ]
  refine wpAnyH_done (by kernel_rfl) ?_ _
  go_wp2_with fail
  go_ret
  exact ⟨v3, rfl, by have h_ := HR3.out; rw [← HL2.out] at h_; unfold fourB; rw [← List.append_assoc]; exact h_, grown_trans (grown_drew w _) (grown_at HG2.out HA2.out HG3.out), (HA2.out.trans HA3.out HG2.out.size)⟩
end Go.Proofs.Ytkdhcmmfklganaa
end
