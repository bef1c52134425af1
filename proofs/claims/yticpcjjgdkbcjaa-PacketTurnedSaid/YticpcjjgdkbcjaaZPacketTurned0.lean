import Derived.Test.YticpcjjgdkbcjaaWWords
import Derived.Test.YticpcjjgdkbcjaaWLast
import Derived.Laws.CopyOwn
import Derived.Laws.Tables
import Derived.Lib.SliceRun
import Derived.ArgAppend
import Derived.Lib.SlBytesConst
import Derived.Laws.BitsAllLaws
import Derived.Laws.DeepNot64
import Derived.Test.YticpcjjgdkbcjaaProg
import Derived.Below
import Derived.Deep.Draws
import Derived.Deep.AppendLies
import Derived.Maps.AppendAt
import Derived.OwnWalk
import Derived.Laws.BytesArg
import Derived.Laws.MakeOwn
import Derived.Laws.OwnMore
import Derived.Deep.OwnRows
import Derived.Tactics
import Derived.Lib.ConvBytes
import Derived.Laws.Slices
import Derived.WalkKit
import Derived.KernelRfl
import Derived.RowKit3
import Derived.Deep.LoopGhost
import Derived.Deep.QuietTactic
import Derived.BigQuiet
import Derived.WideLaws
import Derived.Deep.DeepCutAuto
import Derived.Deep.CutBlock
import Derived.Deep.RegionHeld3
import Derived.Laws.Rows
import Derived.Lib.AppendStr
import Derived.Laws.IdiomCopy
import Derived.OrdersHeld
import Derived.Laws.BitsLemmas
import Derived.RowKit
import Derived.Test.YticpcjjgdkbcjaaWTab
import Derived.Test.YticpcjjgdkbcjaaWEqStruct
import Derived.Test.YticpcjjgdkbcjaaWRepsOne
import Derived.Test.YticpcjjgdkbcjaaWGuard
import Derived.Lib.AppendZeros
section
namespace Go.Proofs.YticpcjjgdkbcjaaW.PrintMore
open Go.RowKit Go.Proofs.YticpcjjgdkbcjaaW.PrintWords
/-- 'max' and 'min' of two whole numbers. -/
theorem max2_int (k k' : IntKind) (x y : Int) : Builtin.max2 (.int k x) (.int k' y) = pure (.int k (if x < y then y else x)) := by simp only [Builtin.max2, gt_iff_lt]
theorem min2_int (k k' : IntKind) (x y : Int) : Builtin.min2 (.int k x) (.int k' y) = pure (.int k (if y < x then y else x)) := by simp only [Builtin.min2]
theorem max_two (ats : Array TypeId) (ty : TypeId) (a b : Value) : Builtin.max_ ats ty #[a, b] = (Builtin.max2 a b >>= fun s => pure s) := by simp only [Builtin.max_, List.foldlM_cons, List.foldlM_nil]
theorem min_two (ats : Array TypeId) (ty : TypeId) (a b : Value) : Builtin.min_ ats ty #[a, b] = (Builtin.min2 a b >>= fun s => pure s) := by simp only [Builtin.min_, List.foldlM_cons, List.foldlM_nil]
theorem max_three (ats : Array TypeId) (ty : TypeId) (a b c : Value) : Builtin.max_ ats ty #[a, b, c] = (Builtin.max2 a b >>= fun s => Builtin.max2 s c >>= fun s => pure s) := by simp only [Builtin.max_, List.foldlM_cons, List.foldlM_nil]
theorem min_three (ats : Array TypeId) (ty : TypeId) (a b c : Value) : Builtin.min_ ats ty #[a, b, c] = (Builtin.min2 a b >>= fun s => Builtin.min2 s c >>= fun s => pure s) := by simp only [Builtin.min_, List.foldlM_cons, List.foldlM_nil]
theorem max_four (ats : Array TypeId) (ty : TypeId) (a b c d : Value) : Builtin.max_ ats ty #[a, b, c, d] = (Builtin.max2 a b >>= fun s => Builtin.max2 s c >>= fun s => Builtin.max2 s d >>= fun s => pure s) := by simp only [Builtin.max_, List.foldlM_cons, List.foldlM_nil]
theorem min_four (ats : Array TypeId) (ty : TypeId) (a b c d : Value) : Builtin.min_ ats ty #[a, b, c, d] = (Builtin.min2 a b >>= fun s => Builtin.min2 s c >>= fun s => Builtin.min2 s d >>= fun s => pure s) := by simp only [Builtin.min_, List.foldlM_cons, List.foldlM_nil]
end Go.Proofs.YticpcjjgdkbcjaaW.PrintMore
namespace Go.Proofs.YticpcjjgdkbcjaaW.PrintWords
open Go.RowKit
section
variable {P : Program} {ops : Array Oper} {rest : List Oper} {o : Oper} {a : Act} {Q : Exit → Act → World → Prop} {W : World}
/-- The operation is a call of this function (a cheap look ahead of a dear step). -/
theorem gate_callee {f : FuncId} {xs : Array Operand} {ts : Array TypeId} (_ho : o.op = .call { callee := .value (.func f), args := xs, argTypes := ts }) (h : wpList P ops Q (o :: rest) a W) : wpList P ops Q (o :: rest) a W := h
/-- The operation is a builtin over these places. -/
theorem gate_builtin {b : Builtin} {xs : Array Operand} {ts : Array TypeId} (_ho : o.op = .call { callee := .builtin b, args := xs, argTypes := ts }) (h : wpList P ops Q (o :: rest) a W) : wpList P ops Q (o :: rest) a W := h
end
/-- A call's arguments, spelled otherwise. -/
theorem calls_of_args {P : Program} {f : FuncId} {args args' : Array Value} {w : World} {Q : Ending → World → Prop} (h : args = args') (hc : Calls P f args' w Q) : Calls P f args w Q := h ▸ hc
/-- The greater of two whole numbers, xs Go's max tells it. -/
def mx (a b : Int) : Int := if a < b then b else a
/-- The smaller of two whole numbers, xs Go's min tells it. -/
def mn (a b : Int) : Int := if b < a then b else a
/-- A shift to the left, xs Go tells it: a count beyond the width leaves nothing. -/
def shl (k : IntKind) (x y : Int) : Int := k.wrap (x * 2 ^ min y.toNat k.bits)
/-- A shift to the right: a count beyond the width leaves the sign. -/
def shr (k : IntKind) (x y : Int) : Int := x / 2 ^ min y.toNat k.bits
theorem shl_small {k : IntKind} {x y j : Int} (h : shl k x y = j) (hy : y ≤ k.bits) : k.wrap (x * 2 ^ y.toNat) = j := by rw [← h]; unfold shl; rw [Nat.min_eq_left (by omega)]
theorem shr_small {k : IntKind} {x y j : Int} (h : shr k x y = j) (hy : y ≤ k.bits) : x / 2 ^ y.toNat = j := by rw [← h]; unfold shr; rw [Nat.min_eq_left (by omega)]
end Go.Proofs.YticpcjjgdkbcjaaW.PrintWords
end

section
set_option linter.unusedVariables false
set_option linter.unusedSimpArgs false
namespace Go.Proofs.Yticpcjjgdkbcjaa
open Go.RowKit Go.Proofs.YticpcjjgdkbcjaaW.PrintWords Go.Proofs.YticpcjjgdkbcjaaW.PrintLast Go.Proofs.YticpcjjgdkbcjaaW.PrintMore

theorem kd_own {W : World} {base e : Nat} {k : IntKind} {ok : Nat → Prop} {v : Value} {xs : List Int} (h : (Kd.int k).R e W base ok v xs) : W.ownsRow base e 1 v xs.length (nums k xs) := Kd.own_of_R h
theorem kd_R {W : World} {base e : Nat} {k : IntKind} {v : Value} {xs : List Int} (h : W.ownsRow base e 1 v xs.length (nums k xs)) : (Kd.int k).R e W base (fun _ => True) v xs := Kd.R_of_own h (fun _ _ => trivial)

section
variable {P : Program} {ops : Array Oper} {rest : List Oper} {o : Oper} {a : Act} {Q : Exit → Act → World → Prop}
/-- append(v, y), one whole number, to a row of the call's own -/
theorem app_num {w0 W : World} (base : Nat) (hgd : o.guard = none) (s x : Operand) (t e : TypeId) (k : IntKind) (bytes : Nat)
    (ho : o.op = .call { callee := .builtin .append, args := #[s, x], argTypes := #[t, t] })
    (ht : P.underlying t = some (.slice e)) (hinfo : (P.info? e).map (fun i => (i.zero, i.size, i.bytes)) = some (some (.int k 0), 1, bytes)) (hb0 : 0 < bytes)
    (v : Value) (xs : List Int) (y : Int) (hs : a.eval s = v) (hx : a.eval x = .slice (some ⟨W.heap.size, 0, none⟩) 1 1)
    (HO : (Kd.int k).R e W base (fun _ => True) v xs) (HB : Below base w0 W) (hbase : base ≤ W.heap.size) (hl : (xs.length + 1) * bytes ≤ 140737488355328)
    (h : ∀ v1 w1, Aside0 ((Kd.int k).R e w1 base (fun _ => True) v1 (xs ++ [y])) → Below base w0 w1 → wpList P ops Q rest (a.put o.dst v1) w1) :
    wpList P ops Q (o :: rest) a (W.alloc (.cells #[.int k y] e)) :=
  print_append_num base hgd s x t e k bytes ho ht hinfo hb0 v xs y hs hx (kd_own HO) HB hbase hl fun v1 w1 ho hB _ _ => h v1 w1 ⟨kd_R ho⟩ hB

/-- copy(dst, src) where dst is as long as src and was just made: what dst then is -/
theorem copy_made {w0 W : World} (base : Nat) (hgd : o.guard = none) (d s : Operand) (dT sT e : TypeId) (k : IntKind)
    (ho : o.op = .call { callee := .builtin .copy, args := #[d, s], argTypes := #[dT, sT] })
    (hu : P.underlying dT = some (.slice e)) (hsz : (P.info? e).map (·.size) = some 1)
    (g n dc C : Nat) (A : Option Addr) (c : Nat) (xs : List Int) (hn : xs.length = n)
    (hd : a.eval d = .slice (some ⟨g, 0, none⟩) n dc) (hs : a.eval s = .slice A n c)
    (hg : W.heap[g]? = some (.cells (madeCells #[.int k 0] C) e (0, 0))) (hC : dc = C) (hnC : n ≤ C) (hC2 : C ≤ maxLen)
    (hr : (Kd.int k).C W A n xs) (HB : Below base w0 W) (hbg : base ≤ g)
    (h : ∀ w1, Aside0 ((Kd.int k).R e w1 base (fun _ => True) (.slice (some ⟨g, 0, none⟩) n dc) xs) → Below base w0 w1 → wpList P ops Q rest (a.put o.dst (goInt n)) w1) :
    wpList P ops Q (o :: rest) a W := by
  subst hC
  have hreads := Kd.reads_of_C (d := (0 : Int)) hr
  have hlen : (nums k xs).length = n := by rw [nums_length]; exact hn
  have hcl : (madeCells #[.int k 0] dc).toList.length = dc := by simp [madeCells]
  refine wpList_copy_splice hgd d s dT sT ho e hu hsz (some ⟨g, 0, none⟩) A n dc n c hd hs g 0 (madeCells #[.int k 0] dc).toList e (by simpa using hg) (nums k xs) (by rw [hlen]; simp) ?_ (by rw [hlen, hcl]; omega) ?_ base w0 HB hbg ?_
  · intro h0
    refine ⟨rfl, ?_⟩
    obtain ⟨ad, hA, hc⟩ := hreads.2.2 (by omega)
    refine ⟨ad, hA, fun j v hj => ?_⟩
    simp only [nums, List.getElem?_map, Option.map_eq_some_iff] at hj
    obtain ⟨x, hx, rfl⟩ := hj
    have hjn : j < n := by have := (List.getElem?_eq_some_iff.1 hx).1; omega
    have := hc j hjn
    rw [List.getD_eq_getElem?_getD, hx] at this
    simpa using this
  · intro v hv
    simp only [nums, List.mem_map] at hv
    obtain ⟨x, _, rfl⟩ := hv
    rfl
  · intro w1 H1 hB1
    rw [hlen]
    refine h w1 ⟨kd_R ⟨by rw [hlen, hn]; simp, .inr ⟨g, dc, _, by rw [hn], hbg, H1.out, by omega, hC2, ?_, ?_⟩⟩⟩ hB1
    · have := length_splice (madeCells #[.int k 0] dc).toList 0 (nums k xs) (by rw [hlen, hcl]; omega)
      simp only [List.size_toArray]
      rw [this, hcl, Nat.mul_one]
    · simp only [splice, List.take_zero, List.nil_append, Nat.zero_add]
      rw [Nat.mul_one, List.take_append_of_le_length (by rw [hlen, hn]; exact Nat.le_refl _), List.take_of_length_le (by rw [hlen, hn]; exact Nat.le_refl _)]
end

/-- make([]T, n, c) of whole numbers -/
theorem make_cap {P : Program} (t e : TypeId) (k : IntKind) (bytes : Nat) (ht : P.underlying t = some (.slice e)) (hinfo : (P.info? e).map (fun i => (i.zero, i.size, i.bytes)) = some (some (.int k 0), 1, bytes))
    (n c : Int) (hn : 0 ≤ n) (hnc : n ≤ c) (hb : (bytes : Int) * c ≤ 281474976710656) (hc : c ≤ 9223372036854775807) (W : World) :
    (Instr.makeSlice t (.int .i64 n) (.int .i64 c)).run P W = .ok (.slice (some ⟨W.heap.size, 0, none⟩) n.toNat c.toNat) (W.alloc (.cells (madeCells #[.int k 0] c.toNat) e)) := by
  obtain ⟨i0, hi, hz⟩ := Option.map_eq_some_iff.1 hinfo
  simp only [Prod.mk.injEq] at hz
  obtain ⟨hz0, hz1, hz2⟩ := hz
  have h := run_make (P := P) (w := W) t e i0 (.int k 0) ht hi hz0 .i64 .i64 n c hn hnc (by rw [hz2]; exact hb) hc
  rw [hz1, Nat.mul_one] at h
  simpa [Value.cells] using h

theorem pow_min8 (n : Nat) : (2 : Int) ^ min n 8 % 256 = 2 ^ n % 256 := by
  by_cases h : n ≤ 8
  · rw [Nat.min_eq_left h]
  · rw [Nat.min_eq_right (by omega)]
    obtain ⟨m, rfl⟩ : ∃ m, n = 8 + m := ⟨n - 8, by omega⟩
    rw [Int.pow_add, show (2 : Int) ^ 8 = 256 from rfl, Int.mul_emod_right]; rfl
/-- a literal's cells, just laid -/
theorem lit_C (W : World) (e : TypeId) (k : IntKind) (xs : List Int) (hl : xs.length ≤ 9223372036854775807) (fr : Nat × Nat := (0, 0)) : (Kd.int k).C (W.alloc (.cells (nums k xs).toArray e fr)) (some ⟨W.heap.size, 0, none⟩) xs.length xs := by
  refine Kd.C_of_reads (d := (0 : Int)) ⟨rfl, hl, fun _ => ⟨_, rfl, fun j hj => ?_⟩⟩
  have hadd : (⟨W.heap.size, 0, none⟩ : Addr).add j = ⟨W.heap.size, j, none⟩ := add_plain _ _
  rw [hadd, cell_of_row _ _ _ _ _ _ (heap_alloc_new W _)]
  simp [nums, hj, List.getD_eq_getElem?_getD]
theorem nil_C (W : World) (k : IntKind) : (Kd.int k).C W none 0 ([] : List Int) := Kd.C_nil _ _
/-- what is owned reads -/
theorem own_C {W : World} {base e : Nat} {k : IntKind} {ok : Nat → Prop} {v : Value} {xs : List Int} (h : (Kd.int k).R e W base ok v xs) : ∃ A c, v = .slice A xs.length c ∧ xs.length ≤ c ∧ (Kd.int k).C W A xs.length xs := Kd.R_reads h

/-- a slice that is the call's own, or one without spare room that only reads: what is appended lies in memory of the call's own -/
def Outs (k : IntKind) (e : Nat) (W : World) (base : Nat) (v : Value) (xs : List Int) : Prop :=
  (Kd.int k).R e W base (fun _ => True) v xs ∨ (∃ A, v = .slice A xs.length xs.length ∧ (Kd.int k).C W A xs.length xs ∧ (A = none → xs.length = 0))
section
variable {P : Program} {ops : Array Oper} {rest : List Oper} {o : Oper} {a : Act} {Q : Exit → Act → World → Prop}
theorem app_outs {w0 W : World} (base : Nat) (hgd : o.guard = none) (s x : Operand) (t e : TypeId) (k : IntKind) (bytes : Nat)
    (ho : o.op = .call { callee := .builtin .append, args := #[s, x], argTypes := #[t, t] })
    (ht : P.underlying t = some (.slice e)) (hinfo : (P.info? e).map (fun i => (i.zero, i.size, i.bytes)) = some (some (.int k 0), 1, bytes)) (hb0 : 0 < bytes)
    (v : Value) (xs : List Int) (y : Int) (hs : a.eval s = v) (hx : a.eval x = .slice (some ⟨W.heap.size, 0, none⟩) 1 1)
    (HO : Outs k e W base v xs) (HB : Below base w0 W) (hbase : base ≤ W.heap.size) (hl : (xs.length + 1) * bytes ≤ 140737488355328)
    (h : ∀ v1 w1, Aside0 ((Kd.int k).R e w1 base (fun _ => True) v1 (xs ++ [y])) → Below base w0 w1 → wpList P ops Q rest (a.put o.dst v1) w1) :
    wpList P ops Q (o :: rest) a (W.alloc (.cells #[.int k y] e)) := by
  rcases HO with HO | ⟨A, rfl, hC, hn⟩
  · exact app_num base hgd s x t e k bytes ho ht hinfo hb0 v xs y hs hx HO HB hbase hl h
  · obtain ⟨i0, hi, hzz⟩ := Option.map_eq_some_iff.1 hinfo
    simp only [Prod.mk.injEq] at hzz
    obtain ⟨hz0, hz1, hz2⟩ := hzz
    have hlen : xs.length + 1 ≤ 140737488355328 := Nat.le_trans (Nat.le_mul_of_pos_right _ hb0) hl
    have hC2 := Kd.C_alloc hC (.cells #[.int k y] e)
    refine wpList_append_grows (W.alloc (.cells #[.int k y] e)) hgd s x t ho e i0 (.int k 0) 1 bytes ht hi hz0 hz1 hz2 rfl (by decide) A xs.length xs.length (nums k xs) hs (fun hA => ⟨hn hA, hn hA⟩) (by rw [nums_length, Nat.mul_one]) ?_ ⟨W.heap.size, 0, none⟩ 1 1 [.int k y] hx rfl
      (World.news_of_block (cs := #[.int k y]) (t := e) (fr := (0, 0)) (heap_alloc_new W _)) (by simp [Value.oneCell']) (by omega) (by simp only [maxLen]; omega) hl ?_
    · rintro b rfl j u hj
      simp only [nums, List.getElem?_map, Option.map_eq_some_iff] at hj
      obtain ⟨z, hz, rfl⟩ := hj
      obtain ⟨_, _, hr⟩ := Kd.reads_of_C (d := (0 : Int)) hC2
      have hjl := (List.getElem?_eq_some_iff.1 hz).1
      obtain ⟨ad, e1, hc⟩ := hr (by omega)
      cases e1
      have := hc j hjl
      rw [List.getD_eq_getElem?_getD, hz] at this
      simpa using this
    · intro v1 w1 ho1 hg1
      refine h v1 w1 ⟨kd_R ?_⟩ ((HB.alloc hbase _).grown hg1 (by simp; omega) (fun k hk => by cases hk))
      have h2 : w1.ownsRow (W.alloc (.cells #[.int k y] e)).heap.size e 1 v1 (xs ++ [y]).length (nums k (xs ++ [y])) := by
        rw [nums_append, List.length_append]; exact ho1
      exact own_weaken h2 (by simp; omega)
end
theorem outs_below {k : IntKind} {e : Nat} {W W1 : World} {base : Nat} {v : Value} {xs : List Int} (h : Outs k e W base v xs) (hb : Below W.heap.size W W1) : Outs k e W1 base v xs := by
  rcases h with h | ⟨A, rfl, hC, hn⟩
  · exact .inl (Kd.R_below h hb)
  · exact .inr ⟨A, rfl, Kd.C_below hC hb, hn⟩
end Go.Proofs.Yticpcjjgdkbcjaa
end

section
set_option linter.unusedVariables false
set_option linter.unusedSimpArgs false
namespace Go.Proofs.Yticpcjjgdkbcjaa
open Go.RowKit Go.Proofs.YticpcjjgdkbcjaaW.PrintWords Go.Proofs.YticpcjjgdkbcjaaW.PrintLast Go.Proofs.YticpcjjgdkbcjaaW.PrintMore

/-! ### bytes as numbers -/
def u8s (l : List Int) : Prop := ∀ x ∈ l, 0 ≤ x ∧ x < 256
instance (l : List Int) : Decidable (u8s l) := inferInstanceAs (Decidable (∀ x ∈ l, 0 ≤ x ∧ x < 256))
theorem rd_u8 {l : List Int} (h : u8s l) (k : Nat) (hk : k < l.length) : 0 ≤ rd l k ∧ rd l k < 256 := by
  have := h (l[k]) (List.getElem_mem hk)
  simpa [rd, List.getD_eq_getElem?_getD, hk] using this
theorem u8s_drop {l : List Int} (h : u8s l) (n : Nat) : u8s (l.drop n) := fun x hx => h x (List.mem_of_mem_drop hx)
theorem u8s_take {l : List Int} (h : u8s l) (n : Nat) : u8s (l.take n) := fun x hx => h x (List.mem_of_mem_take hx)
theorem u8s_nil : u8s [] := fun x hx => by cases hx
theorem u8s_append {a b : List Int} : u8s (a ++ b) ↔ u8s a ∧ u8s b := by
  unfold u8s
  constructor
  · intro h; exact ⟨fun x hx => h x (List.mem_append_left _ hx), fun x hx => h x (List.mem_append_right _ hx)⟩
  · rintro ⟨h1, h2⟩ x hx
    rcases List.mem_append.1 hx with h | h
    · exact h1 x h
    · exact h2 x h

/-! ### a scan: what is left, and the error; where the bytes lie (S) -/
structure Sc where
  l : List Int
  e : Int
def Sc.fail (s : Sc) (e : Int) : Sc := if e = 0 then s else ⟨[], if s.e = 0 then e else s.e⟩
def numGo (s : Sc) : Nat → Nat → Int → Int × Sc
  | 0, _, _ => (0, s)
  | f + 1, k, n =>
    if k = s.l.length then (0, s.fail 2)
    else if (k = 9 ∧ rd s.l k ≠ 1) ∨ (0 < k ∧ rd s.l k = 0) then (0, s.fail 3)
    else if rd s.l k < 128 then (n + rd s.l k % 128 * 128 ^ k, ⟨s.l.drop (k + 1), s.e⟩)
    else numGo s f (k + 1) (n + rd s.l k % 128 * 128 ^ k)
def Sc.num (s : Sc) : Int × Sc := if s.e = 0 then numGo s 10 0 0 else (0, s)
def Sc.upto (s : Sc) (most : Int) : Int × Sc :=
  if s.num.2.e = 0 ∧ (most < 0 ∨ most < s.num.1) then (0, s.num.2.fail 4) else (wrap64 s.num.1, s.num.2)
def zag (n : Int) : Int := if n % 2 = 1 then -1 - n / 2 else n / 2
def Sc.int (s : Sc) : Int × Sc := (zag s.num.1, s.num.2)
def Sc.text (s : Sc) (most : Int) : List Int × Sc :=
  if (s.upto most).2.e = 0 then
    if (s.upto most).1 > (s.upto most).2.l.length then ([], (s.upto most).2.fail 2)
    else ((s.upto most).2.l.take (s.upto most).1.toNat, ⟨(s.upto most).2.l.drop (s.upto most).1.toNat, 0⟩)
  else ([], (s.upto most).2)
def Sc.endE (s : Sc) : Int := if s.e = 0 ∧ 0 < s.l.length then 5 else s.e

/-- the bytes that a slice of a scan tells -/
def HeldB (w : World) (S : Nat → Prop) (A : Option Addr) (l : List Int) : Prop :=
  0 < l.length → ∃ ad, A = some ad ∧ S ad.block ∧ ∀ j, j < l.length → w.cell? (ad.add j) = some (.int .u8 (rd l j))
structure Scn (T : Nat) (S : Nat → Prop) (w : World) (g : Nat) (s : Sc) : Prop where
  u8 : u8s s.l
  err : s.e ≠ 0 → s.l = []
  ne : ¬ S g
  short : s.l.length ≤ 140737488355328
  wide : -9223372036854775808 ≤ s.e ∧ s.e < 9223372036854775808
  mem : ∃ A c, w.heap[g]? = some (.cells #[.slice A s.l.length c, .int .i64 s.e] T (0, 0)) ∧ s.l.length ≤ c ∧ c ≤ 9223372036854775807 ∧ HeldB w S A s.l

theorem lt_of_heap {w : World} {g : Nat} {o : Obj} (h : w.heap[g]? = some o) : g < w.heap.size := (Array.getElem?_eq_some_iff.1 h).1
theorem HeldB.keep {w w' : World} {S : Nat → Prop} {A : Option Addr} {l : List Int} (h : HeldB w S A l) (hk : ∀ k, k < w.heap.size → S k → w'.heap[k]? = w.heap[k]?) : HeldB w' S A l := by
  intro hl
  obtain ⟨ad, rfl, hS, hc⟩ := h hl
  refine ⟨ad, rfl, hS, fun j hj => ?_⟩
  have h1 := hc j hj
  have hlt := World.block_lt_of_cell? w _ h1
  have hb : (ad.add j).block = ad.block := add_block _ _
  rw [World.cell?_of_block (w := w) (by rw [hb]; exact hk _ (by rwa [hb] at hlt) hS)]
  exact h1
theorem Scn.keep {T : Nat} {S : Nat → Prop} {w w' : World} {g : Nat} {s : Sc} (h : Scn T S w g s) (hk : ∀ k, k < w.heap.size → (k = g ∨ S k) → w'.heap[k]? = w.heap[k]?) : Scn T S w' g s := by
  obtain ⟨h1, h2, h3, h4, h5, A, c, h6, h7, h8, h9⟩ := h
  exact ⟨h1, h2, h3, h4, h5, A, c, by rw [hk g (lt_of_heap h6) (.inl rfl)]; exact h6, h7, h8, h9.keep fun k hl hs => hk k hl (.inr hs)⟩
theorem Scn.below {T : Nat} {S : Nat → Prop} {w w' : World} {g : Nat} {s : Sc} (h : Scn T S w g s) (hb : Below w.heap.size w w') : Scn T S w' g s := h.keep fun k hk _ => hb.block k hk
theorem Scn.grown {T : Nat} {S : Nat → Prop} {w w' : World} {g r : Nat} {s : Sc} (h : Scn T S w g s) (hb : w.grownBy w' (some r)) (h1 : g ≠ r) (h2 : ¬ S r) : Scn T S w' g s :=
  h.keep fun k hk hs => hb.block k hk (fun e => by cases e; rcases hs with h | h; exact h1 h.symm; exact h2 h)
theorem Scn.lt {T : Nat} {S : Nat → Prop} {w : World} {g : Nat} {s : Sc} (h : Scn T S w g s) : g < w.heap.size := by
  obtain ⟨_, _, _, _, _, A, c, h6, _⟩ := h
  exact lt_of_heap h6
theorem Scn.mono {T : Nat} {S S' : Nat → Prop} {w : World} {g : Nat} {s : Sc} (h : Scn T S w g s) (hS : ∀ k, S k → S' k) (hg : ¬ S' g) : Scn T S' w g s := by
  obtain ⟨h1, h2, h3, h4, h5, A, c, h6, h7, h8, h9⟩ := h
  exact ⟨h1, h2, hg, h4, h5, A, c, h6, h7, h8, fun hl => by obtain ⟨ad, a, b, d⟩ := h9 hl; exact ⟨ad, a, hS _ b, d⟩⟩

theorem grown_set (w : World) (g j : Nat) (v : Value) : w.grownBy (w.setCell ⟨g, j, none⟩ v) (some g) :=
  ⟨rfl, rfl, rfl, by simp [World.setCell], fun k hk hne => Below.heap_setCell _ _ _ _ (fun e => hne (by rw [e]))⟩
theorem grown_refl (w : World) (r : Option Nat) : w.grownBy w r := ⟨rfl, rfl, rfl, Nat.le_refl _, fun _ _ _ => rfl⟩
theorem grown_trans {a b c : World} {r : Option Nat} (h : a.grownBy b r) (k : b.grownBy c r) : a.grownBy c r :=
  ⟨k.os.trans h.os, k.tape.trans h.tape, k.output.trans h.output, Nat.le_trans h.size k.size, fun i hi hn => (k.block i (Nat.lt_of_lt_of_le hi h.size) hn).trans (h.block i hi hn)⟩
theorem below_of_grown {w0 a b : World} {g : Nat} (h : Below w0.heap.size w0 a) (k : a.grownBy b (some g)) (hg : w0.heap.size ≤ g) : Below w0.heap.size w0 b :=
  h.grown k h.size (fun k hk => by cases hk; exact hg)

/-- the cells of a scan, as the walk asks them -/
theorem Scn.cells {T : Nat} {S : Nat → Prop} {w : World} {g : Nat} {s : Sc} (h : Scn T S w g s) : ∃ A c, w.heap[g]? = some (.cells #[.slice A s.l.length c, .int .i64 s.e] T (0, 0)) ∧ s.l.length ≤ c ∧ c ≤ 9223372036854775807 ∧ HeldB w S A s.l ∧
    w.cell? ⟨g, 0, none⟩ = some (.slice A s.l.length c) ∧ w.cell? ⟨g, 1, none⟩ = some (.int .i64 s.e) ∧ w.frozen? ⟨g, 0, none⟩ = false ∧ w.frozen? ⟨g, 1, none⟩ = false := by
  obtain ⟨A, c, h6, h7, h8, h9⟩ := h.mem
  exact ⟨A, c, h6, h7, h8, h9, by rw [cell_of_row _ _ _ _ _ _ h6]; rfl, by rw [cell_of_row _ _ _ _ _ _ h6]; rfl, frozen_of_row _ _ _ _ _ h6, frozen_of_row _ _ _ _ _ h6⟩
theorem heldB_set {w : World} {S : Nat → Prop} {A : Option Addr} {l : List Int} {g : Nat} (h : HeldB w S A l) (hg : ¬ S g) (j : Nat) (v : Value) : HeldB (w.setCell ⟨g, j, none⟩ v) S A l :=
  h.keep fun k _ hS => Below.heap_setCell _ _ _ _ (fun e => hg (by rw [← show k = g from e]; exact hS))
/-- the error is stored -/
theorem Scn.set_err {T : Nat} {S : Nat → Prop} {w : World} {g : Nat} {s : Sc} (h : Scn T S w g s) (e : Int) (hn : s.l = []) (he : -9223372036854775808 ≤ e ∧ e < 9223372036854775808) : Scn T S (w.setCell ⟨g, 1, none⟩ (.int .i64 e)) g ⟨s.l, e⟩ := by
  obtain ⟨h1, h2, h3, h4, h5, A, c, h6, h7, h8, h9⟩ := h
  exact ⟨h1, fun _ => hn, h3, h4, he, A, c, by rw [heap_setCell_same _ _ _ _ _ _ h6]; rfl, h7, h8, heldB_set h9 h3 1 _⟩
/-- the scan failed -/
theorem Scn.failed {T : Nat} {S : Nat → Prop} {w : World} {g : Nat} {s : Sc} (h : Scn T S w g s) (e : Int) (he : -9223372036854775808 ≤ e ∧ e < 9223372036854775808) :
    Scn T S ((w.setCell ⟨g, 1, none⟩ (.int .i64 e)).setCell ⟨g, 0, none⟩ (.slice none 0 0)) g ⟨[], e⟩ := by
  obtain ⟨h1, h2, h3, h4, h5, A, c, h6, h7, h8, h9⟩ := h
  refine ⟨u8s_nil, fun _ => rfl, h3, by simp, he, none, 0, ?_, by simp, by simp, fun hl => absurd hl (by simp)⟩
  rw [heap_setCell_same _ _ _ _ _ _ (heap_setCell_same _ _ _ _ _ _ h6)]; rfl
theorem Scn.emptied {T : Nat} {S : Nat → Prop} {w : World} {g : Nat} {s : Sc} (h : Scn T S w g s) : Scn T S (w.setCell ⟨g, 0, none⟩ (.slice none 0 0)) g ⟨[], s.e⟩ := by
  obtain ⟨h1, h2, h3, h4, h5, A, c, h6, h7, h8, h9⟩ := h
  refine ⟨u8s_nil, fun _ => rfl, h3, by simp, h5, none, 0, ?_, by simp, by simp, fun hl => absurd hl (by simp)⟩
  rw [heap_setCell_same _ _ _ _ _ _ h6]; rfl
/-- the scan goes on: the slice is cut at its begin -/
theorem heldB_drop {w : World} {S : Nat → Prop} {A : Option Addr} {l : List Int} (h : HeldB w S A l) (m c : Nat) (hm : m ≤ l.length) (hc : l.length ≤ c) : HeldB w S (if c = m then A else A.map (·.add m)) (l.drop m) := by
  intro hl
  rw [List.length_drop] at hl
  obtain ⟨ad, rfl, hS, hcell⟩ := h (by omega)
  rw [if_neg (by omega)]
  refine ⟨ad.add m, rfl, by rw [add_block]; exact hS, fun j hj => ?_⟩
  rw [List.length_drop] at hj
  have h1 := hcell (m + j) (by omega)
  rw [add_add, h1]
  congr 2
  simp only [rd, Int.toNat_natCast, List.getD_eq_getElem?_getD, List.getElem?_drop]
theorem Scn.dropped {T : Nat} {S : Nat → Prop} {w : World} {g : Nat} {s : Sc} (h : Scn T S w g s) (m : Nat) (hm : m ≤ s.l.length) {A : Option Addr} {c : Nat} (hb : w.heap[g]? = some (.cells #[.slice A s.l.length c, .int .i64 s.e] T (0, 0))) (hc : s.l.length ≤ c) (hc2 : c ≤ 9223372036854775807) (hh : HeldB w S A s.l) :
    Scn T S (w.setCell ⟨g, 0, none⟩ (.slice (if c = m then A else A.map (·.add m)) (s.l.length - m) (c - m))) g ⟨s.l.drop m, s.e⟩ := by
  obtain ⟨h1, h2, h3, h4, h5, _⟩ := h
  refine ⟨u8s_drop h1 m, fun h => by rw [h2 h]; simp, h3, by simp; omega, h5, _, c - m, ?_, by simp; omega, by omega, heldB_set (heldB_drop hh m c hm hc) h3 0 _⟩
  rw [heap_setCell_same _ _ _ _ _ _ hb, List.length_drop]; rfl
theorem HeldB.C {w : World} {S : Nat → Prop} {A : Option Addr} {l : List Int} (h : HeldB w S A l) (hl : l.length ≤ 9223372036854775807) : (Kd.int .u8).C w A l.length l :=
  Kd.C_of_reads (d := (0 : Int)) ⟨rfl, hl, fun h0 => by obtain ⟨ad, rfl, _, hc⟩ := h h0; exact ⟨ad, rfl, fun j hj => by have := hc j hj; simpa [rd] using this⟩⟩
theorem HeldB.of_C {w : World} {S : Nat → Prop} {A : Option Addr} {l : List Int} (h : (Kd.int .u8).C w A l.length l) (hS : ∀ ad, A = some ad → 0 < l.length → S ad.block) : HeldB w S A l := by
  intro h0
  obtain ⟨_, _, hr⟩ := Kd.reads_of_C (d := (0 : Int)) h
  obtain ⟨ad, rfl, hc⟩ := hr h0
  exact ⟨ad, rfl, hS ad rfl h0, fun j hj => by have := hc j hj; simpa [rd] using this⟩

theorem add_pos (ad : Addr) (m : Nat) (hm : 0 < m) : ad.add m = ⟨ad.block, ad.off + m, none⟩ := by unfold Addr.add; rw [if_neg (by omega)]
theorem Scn.dropped_a {T : Nat} {S : Nat → Prop} {w : World} {g : Nat} {s : Sc} (h : Scn T S w g s) (m : Nat) (hm : m ≤ s.l.length) {ad : Addr} {c : Nat} (hb : w.heap[g]? = some (.cells #[.slice (some ad) s.l.length c, .int .i64 s.e] T (0, 0))) (hc : s.l.length ≤ c) (hc2 : c ≤ 9223372036854775807) (hh : HeldB w S (some ad) s.l) (hne : c ≠ m) :
    Scn T S (w.setCell ⟨g, 0, none⟩ (.slice (some (ad.add m)) (s.l.length - m) (c - m))) g ⟨s.l.drop m, s.e⟩ := by
  have := h.dropped m hm hb hc hc2 hh
  rwa [if_neg hne] at this
theorem Scn.dropped_b {T : Nat} {S : Nat → Prop} {w : World} {g : Nat} {s : Sc} (h : Scn T S w g s) (m : Nat) (hm : m ≤ s.l.length) {A : Option Addr} {c : Nat} (hb : w.heap[g]? = some (.cells #[.slice A s.l.length c, .int .i64 s.e] T (0, 0))) (hc : s.l.length ≤ c) (hc2 : c ≤ 9223372036854775807) (hh : HeldB w S A s.l) (hne : c = m) :
    Scn T S (w.setCell ⟨g, 0, none⟩ (.slice A (s.l.length - m) 0)) g ⟨s.l.drop m, s.e⟩ := by
  have := h.dropped m hm hb hc hc2 hh
  rwa [if_pos hne, show c - m = 0 by omega] at this

/-! ### the numbers -/
theorem pow128 (k : Nat) : (2 : Nat) ^ (7 * k) = 128 ^ k := by rw [Nat.pow_mul]
theorem pow_le9 (k : Nat) (hk : k ≤ 8) : (128 : Nat) ^ k ≤ 72057594037927936 := by
  have := Nat.pow_le_pow_right (n := 128) (by omega) hk
  simpa using this
theorem num_val (k : Nat) (nn cc : Int) (hk : k ≤ 9) (h0 : 0 ≤ nn) (h1 : nn < 128 ^ k) (hc0 : 0 ≤ cc) (hc1 : cc < 256) (h9 : k = 9 → cc = 1) :
    bits .or .u64 nn (IntKind.u64.wrap (IntKind.u64.wrap (bits .andNot .u8 cc 128) * 2 ^ (7 * k))) = nn + cc % 128 * 128 ^ k ∧ 0 ≤ nn + cc % 128 * 128 ^ k ∧ nn + cc % 128 * 128 ^ k < 128 ^ (k + 1) ∧ nn + cc % 128 * 128 ^ k < 18446744073709551616 := by
  obtain ⟨n, rfl⟩ := Int.eq_ofNat_of_zero_le h0
  obtain ⟨c, rfl⟩ := Int.eq_ofNat_of_zero_le hc0
  have e1 : ((128 : Int) ^ k) = ((128 ^ k : Nat) : Int) := by simp
  rw [e1] at h1 ⊢
  have e2 : ((2 : Int) ^ (7 * k)) = ((128 ^ k : Nat) : Int) := by rw [← pow128]; simp
  have e3 : ((128 : Int) ^ (k + 1)) = ((128 ^ k * 128 : Nat) : Int) := by rw [← Nat.pow_succ]; simp
  rw [e2, e3, show (128 : Int) = ((128 : Nat) : Int) from rfl, u8_andNot_nat c 128 (by omega) (by decide), show 255 - 128 = 2 ^ 7 - 1 from rfl, Nat.and_two_pow_sub_one_eq_mod, show (2 : Nat) ^ 7 = 128 from rfl]
  have hn : n < 128 ^ k := by omega
  have hm : c % 128 < 128 := Nat.mod_lt _ (by omega)
  have hbound : n + c % 128 * 128 ^ k < 18446744073709551616 := by
    by_cases k9 : k = 9
    · subst k9
      have := h9 rfl
      have : c = 1 := by omega
      subst this
      simp at hn ⊢
      omega
    · have hp := pow_le9 k (by omega)
      have : c % 128 * 128 ^ k ≤ 127 * 128 ^ k := Nat.mul_le_mul_right _ (by omega)
      omega
  have hlt : n + c % 128 * 128 ^ k < 128 ^ k * 128 := by
    have : c % 128 * 128 ^ k ≤ 127 * 128 ^ k := Nat.mul_le_mul_right _ (by omega)
    omega
  have e4 : ((c % 128 : Nat) : Int) * ((128 ^ k : Nat) : Int) = ((c % 128 * 128 ^ k : Nat) : Int) := by simp
  have e5 : ((c : Int) % ((128 : Nat) : Int)) * ((128 ^ k : Nat) : Int) = ((c % 128 * 128 ^ k : Nat) : Int) := by rw [← e4]; simp
  rw [show IntKind.u64.wrap ((c % 128 : Nat) : Int) = ((c % 128 : Nat) : Int) by rw [IntKind.wrap_u64]; omega, e4, e5]
  generalize hq : c % 128 * 128 ^ k = q at hbound hlt
  have hw : IntKind.u64.wrap ((q : Nat) : Int) = (q : Int) := by rw [IntKind.wrap_u64]; omega
  rw [hw, u64_or_nat n q (by omega) (by omega)]
  have hor : n ||| q = n + q := by
    rw [← hq, ← pow128] at *
    rw [Nat.or_comm, Nat.mul_comm, ← Nat.two_pow_add_eq_or_of_lt hn, Nat.add_comm]
  rw [hor]
  refine ⟨by omega, by omega, ?_, by omega⟩
  have : ((128 ^ k * 128 : Nat) : Int) = ((128 ^ k * 128 : Nat) : Int) := rfl
  omega
theorem Sc.num_lt (s : Sc) (hu : u8s s.l) : 0 ≤ s.num.1 ∧ s.num.1 < 18446744073709551616 := by
  have go : ∀ (f k : Nat) (nn : Int), f + k = 10 → 0 ≤ nn → nn < 128 ^ k → 0 ≤ (numGo s f k nn).1 ∧ (numGo s f k nn).1 < 18446744073709551616 := by
    intro f
    induction f with
    | zero => intro k nn _ _ _; simp [numGo]
    | succ f ih =>
      intro k nn hk h0 h1
      rw [numGo]
      split
      · simp
      · split
        · simp
        · rename_i hne hbad
          by_cases hkl : k < s.l.length
          · have hc := rd_u8 hu k hkl
            by_cases h9 : k = 9 → rd s.l k = 1
            · have hv := num_val k nn (rd s.l k) (by omega) h0 h1 hc.1 hc.2 h9
              split
              · exact ⟨hv.2.1, hv.2.2.2⟩
              · exact ih (k + 1) _ (by omega) hv.2.1 hv.2.2.1
            · exact absurd (Classical.not_imp.1 h9) (fun hh => hbad (.inl hh))
          · have hz : rd s.l (k : Int) = 0 := by simp [rd, List.getD_eq_getElem?_getD, List.getElem?_eq_none (show s.l.length ≤ k by omega)]
            by_cases k0 : 0 < k
            · exact absurd (.inr ⟨k0, hz⟩) hbad
            · omega
  unfold Sc.num
  split
  · exact go 10 0 0 rfl (by omega) (by simp)
  · simp
theorem Sc.num_zero (s : Sc) (_he : s.e ≠ 0 → s.l = []) (hn : s.num.2.e ≠ 0) : s.num.1 = 0 := by
  have go : ∀ (f k : Nat) (nn : Int), s.e = 0 → (numGo s f k nn).2.e ≠ 0 → (numGo s f k nn).1 = 0 := by
    intro f
    induction f with
    | zero => intro k nn _ _; rfl
    | succ f ih =>
      intro k nn h0 h
      rw [numGo] at h ⊢
      split at h
      · rw [if_pos (by assumption)]
      · rename_i h1
        rw [if_neg h1]
        split at h
        · rw [if_pos (by assumption)]
        · rename_i h2
          rw [if_neg h2]
          split at h
          · exact absurd h0 h
          · rename_i h3
            rw [if_neg h3]
            exact ih _ _ h0 h
  unfold Sc.num at hn ⊢
  split at hn
  · rename_i h0
    rw [if_pos h0]
    exact go _ _ _ h0 hn
  · rename_i h0
    rw [if_neg h0]
theorem xor_m1 (a : Nat) (ha : a < 9223372036854775808) : bits .xor .i64 (a : Int) (-1) = -1 - (a : Int) := by
  rw [← i64_not a ha]
  show IntKind.i64.wrap ((BitVec.ofInt 64 _ ^^^ BitVec.ofInt 64 _).toNat : Int) = IntKind.i64.wrap ((BitVec.ofInt 64 _ ^^^ BitVec.ofInt 64 _).toNat : Int)
  rw [BitVec.xor_comm]
theorem xor_0 (a : Nat) (ha : a < 9223372036854775808) : bits .xor .i64 (a : Int) 0 = (a : Int) := by
  show IntKind.i64.wrap ((BitVec.ofInt 64 (a : Int) ^^^ BitVec.ofInt 64 0).toNat : Int) = _
  rw [show BitVec.ofInt 64 0 = 0#64 from rfl, BitVec.xor_zero, BitVec.ofInt_natCast, BitVec.toNat_ofNat, IntKind.wrap_i64]
  omega
theorem zag_val (n : Int) (h0 : 0 ≤ n) (h1 : n < 18446744073709551616) : bits .xor .i64 (n / 2) (wrap64 (-wrap64 (bits .and .u64 n 1))) = zag n := by
  obtain ⟨m, rfl⟩ := Int.eq_ofNat_of_zero_le h0
  have e : bits .and .u64 (m : Int) 1 = ((m % 2 : Nat) : Int) := by
    rw [show (1 : Int) = ((1 : Nat) : Int) from rfl, u64_and_nat m 1 (by omega) (by decide), Nat.and_one_is_mod]
  rw [e, show (m : Int) / 2 = ((m / 2 : Nat) : Int) by omega]
  unfold zag
  rcases Nat.mod_two_eq_zero_or_one m with h | h
  · rw [h, if_neg (by omega), show wrap64 (-wrap64 ((0 : Nat) : Int)) = 0 by unfold wrap64; omega, xor_0 _ (by omega)]
    omega
  · rw [h, if_pos (by omega), show wrap64 (-wrap64 ((1 : Nat) : Int)) = -1 by unfold wrap64; omega, xor_m1 _ (by omega)]
    omega

theorem Sc.upto_pos (s : Sc) (most : Int) (_hm : -9223372036854775808 ≤ most ∧ most < 9223372036854775808) (hn : 0 ≤ s.num.1 ∧ s.num.1 < 18446744073709551616) (he : s.e ≠ 0 → s.l = []) : 0 ≤ (s.upto most).1 ∧ ((s.upto most).2.e ≠ 0 → (s.upto most).1 = 0) := by
  unfold Sc.upto
  split
  · exact ⟨by simp, fun _ => rfl⟩
  · rename_i hne
    by_cases e0 : s.num.2.e = 0
    · have : s.num.1 ≤ most := by
        apply Classical.byContradiction
        intro hh
        exact hne ⟨e0, .inr (by omega)⟩
      exact ⟨by show 0 ≤ wrap64 s.num.1; unfold wrap64; omega, fun h => absurd e0 h⟩
    · have hz : s.num.1 = 0 := Sc.num_zero s he e0
      exact ⟨by show 0 ≤ wrap64 s.num.1; rw [hz]; unfold wrap64; omega, fun _ => by show wrap64 s.num.1 = 0; rw [hz]; unfold wrap64; omega⟩
theorem num_val' (k : Nat) (nn cc : Int) (hk : k ≤ 9) (h0 : 0 ≤ nn) (h1 : nn < 128 ^ k) (hc0 : 0 ≤ cc) (hc1 : cc < 256) (h9 : k = 9 → cc = 1) : bits .and .u8 cc 127 = cc % 128 := by
  obtain ⟨c, rfl⟩ := Int.eq_ofNat_of_zero_le hc0
  rw [show (127 : Int) = ((127 : Nat) : Int) from rfl, u8_and_nat c 127 (by omega) (by decide), show 127 = 2 ^ 7 - 1 from rfl, Nat.and_two_pow_sub_one_eq_mod]
  simp
theorem num_valR (k : Nat) (nn un cc : Int) (hu : un = 128 ^ k) (hk : k ≤ 9) (h0 : 0 ≤ nn) (h1 : nn < 128 ^ k) (hc0 : 0 ≤ cc) (hc1 : cc < 256) (h9 : k = 9 → cc = 1) :
    IntKind.u64.wrap (nn + IntKind.u64.wrap (un * IntKind.u64.wrap (bits .and .u8 cc 127))) = nn + cc % 128 * 128 ^ k ∧ 0 ≤ nn + cc % 128 * 128 ^ k ∧ nn + cc % 128 * 128 ^ k < 128 ^ (k + 1) ∧ nn + cc % 128 * 128 ^ k < 18446744073709551616 := by
  have h := num_val k nn cc hk h0 h1 hc0 hc1 h9
  refine ⟨?_, h.2⟩
  rw [num_val' k nn cc hk h0 h1 hc0 hc1 h9, hu]
  have hp : (0 : Int) < 128 ^ k := Int.pow_pos (by decide)
  have hq : 0 ≤ cc % 128 * 128 ^ k := Int.mul_nonneg (by omega) (by omega)
  have hlt := h.2.2.2
  rw [show IntKind.u64.wrap (cc % 128) = cc % 128 by rw [IntKind.wrap_u64]; omega, Int.mul_comm]
  generalize cc % 128 * 128 ^ k = q at hq hlt ⊢
  rw [show IntKind.u64.wrap q = q by rw [IntKind.wrap_u64]; omega, IntKind.wrap_u64]
  omega
theorem unit_next (k : Nat) (un : Int) (hu : un = 128 ^ k) (hk : k < 9) : IntKind.u64.wrap (un * 128) = 128 ^ (k + 1) := by
  rw [hu, ← Int.pow_succ]
  have h := Nat.pow_le_pow_right (n := 128) (by omega) (show k + 1 ≤ 9 by omega)
  have e : ((128 : Int) ^ (k + 1)) = ((128 ^ (k + 1) : Nat) : Int) := by simp
  rw [e, IntKind.wrap_u64]
  simp only [show (128 : Nat) ^ 9 = 9223372036854775808 from rfl] at h
  generalize (128 : Nat) ^ (k + 1) = z at h ⊢
  omega
end Go.Proofs.Yticpcjjgdkbcjaa
end

section
set_option linter.unusedVariables false
set_option linter.unusedSimpArgs false
namespace Go.Proofs.Yticpcjjgdkbcjaa
open Go.RowKit Go.Proofs.YticpcjjgdkbcjaaW.PrintWords Go.Proofs.YticpcjjgdkbcjaaW.PrintLast Go.Proofs.YticpcjjgdkbcjaaW.PrintMore

/-! ### the reference's Scan: its methods -/
set_option maxRecDepth 100000 in
set_option maxHeartbeats 400000 in
theorem rfail {S : Nat → Prop} {w : World} {g : Nat} {s : Sc} (h : Scn 54 S w g s) (e : Int) (he : -9223372036854775808 ≤ e ∧ e < 9223372036854775808) :
    Calls Try.prog 30 #[.pointer (some ⟨g, 0, none⟩), .int .i64 e] w fun r w' => r = .returned (.tuple #[]) ∧ Scn 54 S w' g (s.fail e) ∧ w.grownBy w' (some g) := by
  obtain ⟨A, c, hb, hc, hc2, hh, c0, c1, f0, f1⟩ := h.cells
  have HB := Aside0.mk hb
  have HH := Aside0.mk hh
  have H := Aside0.mk h
  clear hb hh h
  by_cases e0 : e = 0
  · subst e0
    go_enter Try.func30, Try.ntmps30
    go_wp2
    exact bodyPost_ret (v := .tuple #[]) (by simp [results, Try.results30, go_sem]) rfl ⟨rfl, by simpa [Sc.fail] using H.out, grown_refl _ _⟩
  · have b0 : (e == 0) = false := beq_eq_false_iff_ne.2 e0
    have b1 : (e != 0) = true := bne_iff_ne.2 e0
    by_cases s0 : s.e = 0
    · have d0 : (s.e == 0) = true := beq_iff_eq.2 s0
      have S0 := Aside0.mk s0
      have E0 := Aside0.mk e0
      clear s0 e0
      go_enter Try.func30, Try.ntmps30
      go_wp2
      go_end0
      refine ⟨rfl, ?_, grown_trans (grown_set _ _ _ _) (grown_set _ _ _ _)⟩
      have := H.out.failed e he
      simpa [Sc.fail, E0.out, S0.out] using this
    · have d0 : (s.e == 0) = false := beq_eq_false_iff_ne.2 s0
      have S0 := Aside0.mk s0
      have E0 := Aside0.mk e0
      clear s0 e0
      go_enter Try.func30, Try.ntmps30
      go_wp2
      go_end0
      refine ⟨rfl, ?_, grown_set _ _ _ _⟩
      have := H.out.emptied
      simpa [Sc.fail, E0.out, S0.out] using this

set_option maxRecDepth 100000 in
set_option maxHeartbeats 1000000 in
theorem rnum {S : Nat → Prop} {w : World} {g : Nat} {s : Sc} (h : Scn 54 S w g s) :
    Calls Try.prog 45 #[.pointer (some ⟨g, 0, none⟩)] w fun r w' => r = .returned (.int .u64 s.num.1) ∧ Scn 54 S w' g s.num.2 ∧ w.grownBy w' (some g) := by
  obtain ⟨A, c, hb, hc, hc2, hh, c0, c1, f0, f1⟩ := h.cells
  have HB := Aside0.mk hb
  have HH := Aside0.mk hh
  have H := Aside0.mk h
  clear hb hh h
  by_cases s0 : s.e = 0
  · have d0 : (s.e != 0) = false := by simp [s0]
    have S0 := Aside0.mk s0
    clear s0
    go_enter Try.func45, Try.ntmps45
    go_wp2_with fail
    go_loop [3, 4, 5] (fun n u i => ∃ (k : Nat) (nn un : Int), k ≤ 9 ∧ i = .int .i64 k ∧ n = .int .u64 nn ∧ u = .int .u64 un ∧ Aside0 (un = 128 ^ k) ∧ Aside0 (0 ≤ nn ∧ nn < 128 ^ k) ∧ k ≤ s.l.length ∧ Aside0 (numGo s (10 - k) k nn = s.num)) (fun _ _ i => 10 - (intOf i).toNat)
    case atStart => exact ⟨0, 0, 1, by omega, rfl, rfl, rfl, ⟨by simp⟩, ⟨by simp⟩, by omega, ⟨by simp [Sc.num, S0.out]⟩⟩
    case round =>
      obtain ⟨k, nn, un, hk, rfl, rfl, rfl, HUN, HN, hkl, HG⟩ := hrel
      by_cases hlen : k = s.l.length
      · have b1 : ((k : Int) == (s.l.length : Int)) = true := by simp [hlen]
        go_wp2_with (go_at_call 30; refine (rfail H.out 2 (by omega)).mono ?_; rintro r w' ⟨rfl, hs', hg'⟩)
        go_ret
        refine ⟨?_, ?_, hg'⟩
        · rw [← HG.out, show 10 - k = (9 - k) + 1 by omega, numGo, if_pos hlen]; rfl
        · rw [← HG.out, show 10 - k = (9 - k) + 1 by omega, numGo, if_pos hlen]; exact hs'
      · have hlt : k < s.l.length := by omega
        have b1 : decide (s.l.length ≤ k) = false := by simp; omega
        obtain ⟨ad, hA, hS, hcell⟩ := HH.out (by omega)
        subst hA
        have hck := hcell k hlt
        obtain ⟨hc0, hc256⟩ := rd_u8 H.out.u8 k hlt
        have HCELL := Aside0.mk hcell
        clear hcell
        generalize hcc : rd s.l k = cc at hck hc0 hc256
        have HCC := Aside0.mk hcc
        clear hcc
        by_cases bad : (k = 9 ∧ cc ≠ 1) ∨ (0 < k ∧ cc = 0)
        · have fin : numGo s (10 - k) k nn = (0, s.fail 3) := by rw [show 10 - k = (9 - k) + 1 by omega, numGo, if_neg hlen, HCC.out, if_pos bad]
          have HF := Aside0.mk fin
          clear fin
          have hfail : ∀ w', Scn 54 S w' g (s.fail 3) → w.grownBy w' (some g) → Scn 54 S w' g s.num.2 ∧ w.grownBy w' (some g) := fun w' h1 h2 => ⟨by rw [← HG.out, HF.out]; exact h1, h2⟩
          have hz : s.num.1 = 0 := by rw [← HG.out, HF.out]
          have HZ := Aside0.mk hz
          clear hz
          by_cases k9 : k = 9
          · have b3 : ((k : Int) == 9) = true := by rw [beq_iff_eq]; omega
            have b2 : (cc != 1) = true := by rw [bne_iff_ne]; omega
            clear k9 bad
            go_wp2_with (go_at_call 30; refine (rfail H.out 3 (by omega)).mono ?_; rintro r w' ⟨rfl, hs', hg'⟩)
            go_ret
            exact ⟨by rw [HZ.out]; rfl, hfail _ hs' hg'⟩
          · have b3 : ((k : Int) == 9) = false := by rw [beq_eq_false_iff_ne]; omega
            have b4 : (cc == 0) = true := by rw [beq_iff_eq]; omega
            have hk0 : 0 < k := by omega
            clear k9 bad
            go_wp2_with (go_at_call 30; refine (rfail H.out 3 (by omega)).mono ?_; rintro r w' ⟨rfl, hs', hg'⟩)
            go_ret
            exact ⟨by rw [HZ.out]; rfl, hfail _ hs' hg'⟩
        · have good : numGo s (10 - k) k nn = if cc < 128 then (nn + cc % 128 * 128 ^ k, ⟨s.l.drop (k + 1), s.e⟩) else numGo s (9 - k) (k + 1) (nn + cc % 128 * 128 ^ k) := by
            rw [show 10 - k = (9 - k) + 1 by omega, numGo, if_neg hlen, HCC.out, if_neg bad]
          have HGOOD := Aside0.mk good
          clear good
          have tests : (((k : Int) == 9) = true ∧ (cc != 1) = false ∧ decide (0 < (k : Int)) = true ∧ (cc == 0) = false) ∨ (((k : Int) == 9) = false ∧ decide (0 < (k : Int)) = true ∧ (cc == 0) = false) ∨ (((k : Int) == 9) = false ∧ decide (0 < k) = false) := by
            simp only [beq_iff_eq, beq_eq_false_iff_ne, bne_eq_false_iff_eq, decide_eq_true_eq, decide_eq_false_iff_not]
            omega
          have h9 : k = 9 → cc = 1 := by omega
          have hv := Aside0.mk (num_valR k nn un cc HUN.out hk HN.out.1 HN.out.2 hc0 hc256 h9)
          clear h9 bad hlen
          by_cases hs : cc < 128
          · have hfin : s.num = (nn + cc % 128 * 128 ^ k, ⟨s.l.drop (k + 1), s.e⟩) := by rw [← HG.out, HGOOD.out, if_pos hs]
            have HFIN := Aside0.mk hfin
            clear hfin
            have hend : ∀ (v : Value) (w' : World), v = .int .u64 (IntKind.u64.wrap (nn + IntKind.u64.wrap (un * IntKind.u64.wrap (bits .and .u8 cc 127)))) → Scn 54 S w' g ⟨s.l.drop (k + 1), s.e⟩ → w.grownBy w' (some g) →
                Ending.returned v = .returned (.int .u64 s.num.1) ∧ Scn 54 S w' g s.num.2 ∧ w.grownBy w' (some g) := fun v w' h1 h2 h3 => by
              rw [HFIN.out, h1, hv.out.1]; exact ⟨rfl, h2, h3⟩
            have HEND := Aside0.mk hend
            clear hend
            rcases tests with ⟨t1, t2, t3, t4⟩ | ⟨t1, t3, t4⟩ | ⟨t1, t3⟩
            all_goals
              go_wp2_with fail
              all_goals go_ret
              all_goals first
                | exact HEND.out _ _ rfl (H.out.dropped_b (k + 1) (by omega) HB.out hc hc2 HH.out rfl) (grown_set _ _ _ _)
                | exact HEND.out _ _ rfl (H.out.dropped_b (k + 1) (by omega) HB.out hc hc2 HH.out (by first | assumption | omega)) (grown_set _ _ _ _)
                | exact HEND.out _ _ rfl (by rw [← add_pos _ _ (by omega)]; exact H.out.dropped_a (k + 1) (by omega) HB.out hc hc2 HH.out (by first | assumption | omega)) (grown_set _ _ _ _)
          · have hgo : numGo s (10 - (k + 1)) (k + 1) (nn + cc % 128 * 128 ^ k) = s.num := by rw [← HG.out, HGOOD.out, if_neg hs, show 10 - (k + 1) = 9 - k by omega]
            have HGO := Aside0.mk hgo
            clear hgo
            have hk9 : k < 9 := by
              rcases tests with ⟨t1, t2, t3, t4⟩ | ⟨t1, t3, t4⟩ | ⟨t1, t3⟩
              · rw [bne_eq_false_iff_eq] at t2; omega
              · rw [beq_eq_false_iff_ne] at t1; omega
              · rw [beq_eq_false_iff_ne] at t1; omega
            rcases tests with ⟨t1, t2, t3, t4⟩ | ⟨t1, t3, t4⟩ | ⟨t1, t3⟩
            · rw [beq_iff_eq] at t1; omega
            all_goals
              go_wp2_with fail
              all_goals (refine ⟨⟨k + 1, nn + cc % 128 * 128 ^ k, 128 ^ (k + 1), by omega, by go_num, by rw [hv.out.1], by rw [unit_next k un HUN.out hk9], ⟨rfl⟩, ⟨hv.out.2.1, hv.out.2.2.1⟩, by omega, HGO⟩, ?_⟩; simp [intOf]; omega)
  · have d0 : (s.e != 0) = true := by simpa using s0
    have S0 := Aside0.mk s0
    clear s0
    go_enter Try.func45, Try.ntmps45
    go_wp2_with fail
    go_ret
    exact ⟨by simp [Sc.num, S0.out], by simpa [Sc.num, S0.out] using H.out, grown_refl _ _⟩

set_option maxRecDepth 100000 in
set_option maxHeartbeats 1000000 in
theorem rupto {S : Nat → Prop} {w : World} {g : Nat} {s : Sc} (h : Scn 54 S w g s) (most : Int) (hm : -9223372036854775808 ≤ most ∧ most < 9223372036854775808) :
    Calls Try.prog 29 #[.pointer (some ⟨g, 0, none⟩), .int .i64 most] w fun r w' => r = .returned (.int .i64 (s.upto most).1) ∧ Scn 54 S w' g (s.upto most).2 ∧ w.grownBy w' (some g) := by
  have hn := Sc.num_lt s h.u8
  go_enter Try.func29, Try.ntmps29
  go_wp2_with fail
  refine (rnum h).mono ?_
  rintro r w1 ⟨rfl, h1, hg1⟩
  generalize hnum : s.num.1 = n
  obtain ⟨A, c, hb, hc, hc2, hh, c0, c1, f0, f1⟩ := h1.cells
  clear hb hh
  have H1 := Aside0.mk h1
  clear h1 h
  have hup : s.upto most = if s.num.2.e = 0 ∧ (most < 0 ∨ most < s.num.1) then (0, s.num.2.fail 4) else (wrap64 s.num.1, s.num.2) := rfl
  have HUP := Aside0.mk hup
  clear hup
  rw [hnum] at hn HUP
  generalize hs1 : s.num.2 = s1 at H1 HUP c0 c1 hc
  have HNUM := Aside0.mk hnum
  have HS1 := Aside0.mk hs1
  clear hnum hs1
  by_cases e0 : s1.e = 0
  · have b0 : (s1.e == 0) = true := by simp [e0]
    have E0 := Aside0.mk e0
    clear e0
    by_cases m0 : most < 0
    · have hres : s.upto most = (0, s1.fail 4) := by rw [HUP.out, if_pos ⟨E0.out, .inl m0⟩]
      have HRES := Aside0.mk hres
      clear hres
      go_wp2_with (go_at_call 30; refine (rfail H1.out 4 (by omega)).mono ?_; rintro r w' ⟨rfl, hs', hg'⟩)
      go_ret
      exact ⟨by rw [HRES.out]; rfl, by rw [HRES.out]; exact hs', grown_trans hg1 hg'⟩
    · have m1 : 0 ≤ most := by omega
      have hwm : IntKind.u64.wrap most = most := by rw [IntKind.wrap_u64]; omega
      have d0 : decide (most < 0) = false := decide_eq_false m0
      by_cases n0 : most < n
      · have hres : s.upto most = (0, s1.fail 4) := by rw [HUP.out, if_pos ⟨E0.out, .inr n0⟩]
        have HRES := Aside0.mk hres
        clear hres
        go_wp2_with (go_at_call 30; refine (rfail H1.out 4 (by omega)).mono ?_; rintro r w' ⟨rfl, hs', hg'⟩)
        go_ret
        exact ⟨by rw [HRES.out]; rfl, by rw [HRES.out]; exact hs', grown_trans hg1 hg'⟩
      · have hwn : wrap64 n = n := by unfold wrap64; omega
        have hres : s.upto most = (n, s1) := by rw [HUP.out, if_neg (fun hh => by rcases hh.2 with hh | hh; exact m0 hh; exact n0 hh), hwn]
        have HRES := Aside0.mk hres
        clear hres
        go_wp2_with (go_at_call 30; refine (rfail H1.out 4 (by omega)).mono ?_; rintro r w' ⟨rfl, hs', hg'⟩)
        go_ret
        exact ⟨by rw [HRES.out]; first | rfl | (simp; done), by rw [HRES.out]; exact H1.out, hg1⟩
  · have b0 : (s1.e == 0) = false := by simpa using e0
    have E0 := Aside0.mk e0
    clear e0
    have hres : s.upto most = (wrap64 n, s1) := by rw [HUP.out, if_neg (fun hh => E0.out hh.1)]
    have HRES := Aside0.mk hres
    clear hres
    go_wp2_with (go_at_call 30; refine (rfail H1.out 4 (by omega)).mono ?_; rintro r w' ⟨rfl, hs', hg'⟩)
    go_ret
    exact ⟨by rw [HRES.out]; first | rfl | (simp; done), by rw [HRES.out]; exact H1.out, hg1⟩


set_option maxRecDepth 100000 in
set_option maxHeartbeats 1000000 in
theorem rtext {S : Nat → Prop} {w : World} {g : Nat} {s : Sc} (h : Scn 54 S w g s) (most : Int) (hm : -9223372036854775808 ≤ most ∧ most < 9223372036854775808) :
    Calls Try.prog 31 #[.pointer (some ⟨g, 0, none⟩), .int .i64 most] w fun r w' => r = .returned (.string (strOfNums (s.text most).1)) ∧ Scn 54 S w' g (s.text most).2 ∧ w.grownBy w' (some g) := by
  have hn := Sc.num_lt s h.u8
  have hu := Sc.upto_pos s most hm hn h.err
  go_enter Try.func31, Try.ntmps31
  go_wp2_with fail
  refine (rupto h most hm).mono ?_
  rintro r w1 ⟨rfl, h1, hg1⟩
  obtain ⟨A, c, hb, hc, hc2, hh, c0, c1, f0, f1⟩ := h1.cells
  have H1 := Aside0.mk h1
  have HB := Aside0.mk hb
  have HH := Aside0.mk hh
  have htx : s.text most = if (s.upto most).2.e = 0 then (if (s.upto most).1 > (s.upto most).2.l.length then ([], (s.upto most).2.fail 2) else ((s.upto most).2.l.take (s.upto most).1.toNat, ⟨(s.upto most).2.l.drop (s.upto most).1.toNat, 0⟩)) else ([], (s.upto most).2) := rfl
  have HT := Aside0.mk htx
  clear hb hh h1 h htx
  generalize hnum : (s.upto most).1 = n at hu HT ⊢
  generalize hs1 : (s.upto most).2 = s1 at H1 HB HH HT c0 c1 hc hu
  clear hnum hs1 hn
  obtain ⟨m, rfl⟩ := Int.eq_ofNat_of_zero_le hu.1
  by_cases e0 : s1.e = 0
  · have b0 : (s1.e == 0) = true := by simp [e0]
    have b1 : (s1.e != 0) = false := by simp [e0]
    have E0 := Aside0.mk e0
    clear e0 hu
    by_cases hgt : s1.l.length < m
    · have d0 : decide (s1.l.length < m) = true := decide_eq_true hgt
      have hres : s.text most = ([], s1.fail 2) := by rw [HT.out, if_pos E0.out, if_pos (by omega)]
      have hfe : ((s1.fail 2).e != 0) = true := by simp [Sc.fail, E0.out]
      have HRES := Aside0.mk hres
      clear hres
      go_wp2_with fail
      refine (rfail H1.out 2 (by omega)).mono ?_
      rintro r w' ⟨rfl, hs', hg'⟩
      obtain ⟨A2, c2, hb2, hc_2, hc2_2, hh2, c0_2, c1_2, f0_2, f1_2⟩ := hs'.cells
      have HS := Aside0.mk hs'
      clear hs' hb2 hh2 c0 c1 f0 f1
      go_wp2
      go_ret
      exact ⟨by rw [HRES.out]; rfl, by rw [HRES.out]; exact HS.out, grown_trans hg1 hg'⟩
    · have hle : m ≤ s1.l.length := by omega
      have d0 : decide (s1.l.length < m) = false := decide_eq_false hgt
      have hres : s.text most = (s1.l.take m, ⟨s1.l.drop m, s1.e⟩) := by
        rw [HT.out, if_pos E0.out, if_neg (by omega), Int.toNat_natCast, E0.out]
      have HRES := Aside0.mk hres
      clear hres
      have hcs : (convert 23 9 (.slice A m c)).run Try.prog w1 = .ok (.string (strOfNums (s1.l.take m))) w1 := by
        have hC := HH.out.C (by have := H1.out.short; omega)
        have hT := Kd.C_take hC hle
        rw [List.length_take, Nat.min_eq_left hle] at hT
        exact Kd.C_string (P := Try.prog) (A := A) (c := c) Try.underlying23 Try.underlying5 Try.underlying9 hT
      have HEND : ∀ (W : World), Scn 54 S W g ⟨s1.l.drop m, s1.e⟩ → w1.grownBy W (some g) → Ending.returned (.string (strOfNums (s1.l.take m))) = .returned (.string (strOfNums (s.text most).1)) ∧ Scn 54 S W g (s.text most).2 ∧ w.grownBy W (some g) := fun W h1 h2 => by
        rw [HRES.out]; exact ⟨rfl, h1, grown_trans hg1 h2⟩
      have HE := Aside0.mk HEND
      clear HEND
      go_wp2
      all_goals go_ret
      all_goals first
        | exact HE.out _ (H1.out.dropped_b m hle HB.out hc hc2 HH.out (by assumption)) (grown_set _ _ _ _)
        | exact HE.out _ (H1.out.dropped_b m hle HB.out hc hc2 HH.out rfl) (grown_set _ _ _ _)
        | (refine HE.out _ ?_ (grown_set _ _ _ _); have h_ := H1.out.dropped m hle HB.out hc hc2 HH.out; rw [if_neg (by first | assumption | omega)] at h_; exact h_)
  · have b0 : (s1.e == 0) = false := by simpa using e0
    have b1 : (s1.e != 0) = true := by simpa using e0
    have hres : s.text most = ([], s1) := by rw [HT.out, if_neg e0]
    have HRES := Aside0.mk hres
    clear hres e0 hu
    go_wp2
    go_ret
    exact ⟨by rw [HRES.out]; rfl, by rw [HRES.out]; exact H1.out, hg1⟩
set_option maxHeartbeats 400000 in
theorem rend {S : Nat → Prop} {w : World} {g : Nat} {s : Sc} (h : Scn 54 S w g s) :
    Calls Try.prog 32 #[.pointer (some ⟨g, 0, none⟩)] w fun r w' => r = .returned (.int .i64 s.endE) ∧ w = w' := by
  obtain ⟨A, c, hb, hc, hc2, hh, c0, c1, f0, f1⟩ := h.cells
  clear hb hh h
  by_cases e0 : s.e = 0
  · have b0 : (s.e == 0) = true := by simp [e0]
    have E0 := Aside0.mk e0
    clear e0
    by_cases l0 : 0 < s.l.length
    · have d0 : decide (0 < (s.l.length : Int)) = true := by simpa using l0
      have hres : s.endE = 5 := by rw [Sc.endE, if_pos ⟨E0.out, l0⟩]
      have HR := Aside0.mk hres
      clear hres
      go_enter Try.func32, Try.ntmps32
      go_wp2
      go_ret
      exact ⟨by rw [HR.out]; rfl, rfl⟩
    · have d0 : decide (0 < s.l.length) = false := decide_eq_false l0
      have hres : s.endE = s.e := by rw [Sc.endE, if_neg (fun hh => l0 hh.2)]
      have HR := Aside0.mk hres
      clear hres l0
      go_enter Try.func32, Try.ntmps32
      go_wp2
      go_ret
      exact ⟨by rw [HR.out]; rfl, rfl⟩
  · have b0 : (s.e == 0) = false := by simpa using e0
    have hres : s.endE = s.e := by rw [Sc.endE, if_neg (fun hh => e0 hh.1)]
    have HR := Aside0.mk hres
    clear hres e0
    go_enter Try.func32, Try.ntmps32
    go_wp2
    go_ret
    exact ⟨by rw [HR.out]; rfl, rfl⟩
end Go.Proofs.Yticpcjjgdkbcjaa
end

section
set_option linter.unusedVariables false
set_option linter.unusedSimpArgs false
namespace Go.Proofs.Yticpcjjgdkbcjaa
open Go.RowKit Go.Proofs.YticpcjjgdkbcjaaW.PrintWords Go.Proofs.YticpcjjgdkbcjaaW.PrintLast Go.Proofs.YticpcjjgdkbcjaaW.PrintMore

/-! ### wire.Scan: its methods -/
def TW : Nat := 62
set_option maxRecDepth 100000 in
set_option maxHeartbeats 400000 in
theorem wfail {S : Nat → Prop} {w : World} {g : Nat} {s : Sc} (h : Scn 62 S w g s) (e : Int) (he : -9223372036854775808 ≤ e ∧ e < 9223372036854775808) :
    Calls Try.prog 42 #[.pointer (some ⟨g, 0, none⟩), .int .i64 e] w fun r w' => r = .returned (.tuple #[]) ∧ Scn 62 S w' g (s.fail e) ∧ w.grownBy w' (some g) := by
  obtain ⟨A, c, hb, hc, hc2, hh, c0, c1, f0, f1⟩ := h.cells
  have HB := Aside0.mk hb
  have HH := Aside0.mk hh
  have H := Aside0.mk h
  clear hb hh h
  by_cases e0 : e = 0
  · subst e0
    go_enter Try.func42, Try.ntmps42
    go_wp2
    exact bodyPost_ret (v := .tuple #[]) (by simp [results, Try.results42, go_sem]) rfl ⟨rfl, by simpa [Sc.fail] using H.out, grown_refl _ _⟩
  · have b0 : (e == 0) = false := beq_eq_false_iff_ne.2 e0
    have b1 : (e != 0) = true := bne_iff_ne.2 e0
    by_cases s0 : s.e = 0
    · have d0 : (s.e == 0) = true := beq_iff_eq.2 s0
      have S0 := Aside0.mk s0
      have E0 := Aside0.mk e0
      clear s0 e0
      go_enter Try.func42, Try.ntmps42
      go_wp2
      go_end0
      refine ⟨rfl, ?_, grown_trans (grown_set _ _ _ _) (grown_set _ _ _ _)⟩
      have := H.out.failed e he
      simpa [Sc.fail, E0.out, S0.out] using this
    · have d0 : (s.e == 0) = false := beq_eq_false_iff_ne.2 s0
      have S0 := Aside0.mk s0
      have E0 := Aside0.mk e0
      clear s0 e0
      go_enter Try.func42, Try.ntmps42
      go_wp2
      go_end0
      refine ⟨rfl, ?_, grown_set _ _ _ _⟩
      have := H.out.emptied
      simpa [Sc.fail, E0.out, S0.out] using this

set_option maxRecDepth 100000 in
set_option maxHeartbeats 1000000 in
theorem wnum {S : Nat → Prop} {w : World} {g : Nat} {s : Sc} (h : Scn 62 S w g s) :
    Calls Try.prog 52 #[.pointer (some ⟨g, 0, none⟩)] w fun r w' => r = .returned (.int .u64 s.num.1) ∧ Scn 62 S w' g s.num.2 ∧ w.grownBy w' (some g) := by
  obtain ⟨A, c, hb, hc, hc2, hh, c0, c1, f0, f1⟩ := h.cells
  have HB := Aside0.mk hb
  have HH := Aside0.mk hh
  have H := Aside0.mk h
  clear hb hh h
  by_cases s0 : s.e = 0
  · have d0 : (s.e != 0) = false := by simp [s0]
    have S0 := Aside0.mk s0
    clear s0
    go_enter Try.func52, Try.ntmps52
    go_wp2_with fail
    go_loop [2, 9] (fun n i => ∃ (k : Nat) (nn : Int), k ≤ 9 ∧ i = .int .i64 k ∧ n = .int .u64 nn ∧ Aside0 (0 ≤ nn ∧ nn < 128 ^ k) ∧ k ≤ s.l.length ∧ Aside0 (numGo s (10 - k) k nn = s.num)) (fun _ i => 10 - (intOf i).toNat)
    case atStart => exact ⟨0, 0, by omega, rfl, rfl, ⟨by simp⟩, by omega, ⟨by simp [Sc.num, S0.out]⟩⟩
    case round =>
      obtain ⟨k, nn, hk, rfl, rfl, HN, hkl, HG⟩ := hrel
      by_cases hlen : k = s.l.length
      · have b1 : ((k : Int) == (s.l.length : Int)) = true := by simp [hlen]
        go_wp2_with (go_at_call 42; refine (wfail H.out 2 (by omega)).mono ?_; rintro r w' ⟨rfl, hs', hg'⟩)
        go_ret
        refine ⟨?_, ?_, hg'⟩
        · rw [← HG.out, show 10 - k = (9 - k) + 1 by omega, numGo, if_pos hlen]; rfl
        · rw [← HG.out, show 10 - k = (9 - k) + 1 by omega, numGo, if_pos hlen]; exact hs'
      · have hlt : k < s.l.length := by omega
        have b1 : ((k : Int) == (s.l.length : Int)) = false := by rw [beq_eq_false_iff_ne]; omega
        obtain ⟨ad, hA, hS, hcell⟩ := HH.out (by omega)
        subst hA
        have hck := hcell k hlt
        obtain ⟨hc0, hc256⟩ := rd_u8 H.out.u8 k hlt
        have HCELL := Aside0.mk hcell
        clear hcell
        generalize hcc : rd s.l k = cc at hck hc0 hc256
        have HCC := Aside0.mk hcc
        clear hcc
        by_cases bad : (k = 9 ∧ cc ≠ 1) ∨ (0 < k ∧ cc = 0)
        · have fin : numGo s (10 - k) k nn = (0, s.fail 3) := by rw [show 10 - k = (9 - k) + 1 by omega, numGo, if_neg hlen, HCC.out, if_pos bad]
          have HF := Aside0.mk fin
          clear fin
          have hfail : ∀ w', Scn 62 S w' g (s.fail 3) → w.grownBy w' (some g) → Scn 62 S w' g s.num.2 ∧ w.grownBy w' (some g) := fun w' h1 h2 => ⟨by rw [← HG.out, HF.out]; exact h1, h2⟩
          have hz : s.num.1 = 0 := by rw [← HG.out, HF.out]
          have HZ := Aside0.mk hz
          clear hz
          by_cases k9 : k = 9
          · have b3 : ((k : Int) == 9) = true := by rw [beq_iff_eq]; omega
            have b2 : (cc != 1) = true := by rw [bne_iff_ne]; omega
            clear k9 bad
            go_wp2_with (go_at_call 42; refine (wfail H.out 3 (by omega)).mono ?_; rintro r w' ⟨rfl, hs', hg'⟩)
            go_ret
            exact ⟨by rw [HZ.out]; rfl, hfail _ hs' hg'⟩
          · have b3 : ((k : Int) == 9) = false := by rw [beq_eq_false_iff_ne]; omega
            have b4 : (cc == 0) = true := by rw [beq_iff_eq]; omega
            have hk0 : 0 < k := by omega
            clear k9 bad
            go_wp2_with (go_at_call 42; refine (wfail H.out 3 (by omega)).mono ?_; rintro r w' ⟨rfl, hs', hg'⟩)
            go_ret
            exact ⟨by rw [HZ.out]; rfl, hfail _ hs' hg'⟩
        · have good : numGo s (10 - k) k nn = if cc < 128 then (nn + cc % 128 * 128 ^ k, ⟨s.l.drop (k + 1), s.e⟩) else numGo s (9 - k) (k + 1) (nn + cc % 128 * 128 ^ k) := by
            rw [show 10 - k = (9 - k) + 1 by omega, numGo, if_neg hlen, HCC.out, if_neg bad]
          have HGOOD := Aside0.mk good
          clear good
          have tests : (((k : Int) == 9) = true ∧ (cc != 1) = false ∧ decide (0 < (k : Int)) = true ∧ (cc == 0) = false) ∨ (((k : Int) == 9) = false ∧ decide (0 < (k : Int)) = true ∧ (cc == 0) = false) ∨ (((k : Int) == 9) = false ∧ decide (0 < k) = false) := by
            simp only [beq_iff_eq, beq_eq_false_iff_ne, bne_eq_false_iff_eq, decide_eq_true_eq, decide_eq_false_iff_not]
            omega
          have h9 : k = 9 → cc = 1 := by omega
          have hv := Aside0.mk (num_val k nn cc hk HN.out.1 HN.out.2 hc0 hc256 h9)
          clear h9 bad hlen
          by_cases hs : cc < 128
          · have hfin : s.num = (nn + cc % 128 * 128 ^ k, ⟨s.l.drop (k + 1), s.e⟩) := by rw [← HG.out, HGOOD.out, if_pos hs]
            have HFIN := Aside0.mk hfin
            clear hfin
            have hend : ∀ (v : Value) (w' : World), v = .int .u64 (bits .or .u64 nn (IntKind.u64.wrap (IntKind.u64.wrap (bits .andNot .u8 cc 128) * 2 ^ (7 * k)))) → Scn 62 S w' g ⟨s.l.drop (k + 1), s.e⟩ → w.grownBy w' (some g) →
                Ending.returned v = .returned (.int .u64 s.num.1) ∧ Scn 62 S w' g s.num.2 ∧ w.grownBy w' (some g) := fun v w' h1 h2 h3 => by
              rw [HFIN.out, h1, hv.out.1]; exact ⟨rfl, h2, h3⟩
            have HEND := Aside0.mk hend
            clear hend
            rcases tests with ⟨t1, t2, t3, t4⟩ | ⟨t1, t3, t4⟩ | ⟨t1, t3⟩
            all_goals
              go_wp2_with fail
              all_goals go_ret
              all_goals first
                | exact HEND.out _ _ rfl (H.out.dropped_b (k + 1) (by omega) HB.out hc hc2 HH.out rfl) (grown_set _ _ _ _)
                | exact HEND.out _ _ rfl (H.out.dropped_b (k + 1) (by omega) HB.out hc hc2 HH.out (by first | assumption | omega)) (grown_set _ _ _ _)
                | exact HEND.out _ _ rfl (by rw [← add_pos _ _ (by omega)]; exact H.out.dropped_a (k + 1) (by omega) HB.out hc hc2 HH.out (by first | assumption | omega)) (grown_set _ _ _ _)
          · have hgo : numGo s (10 - (k + 1)) (k + 1) (nn + cc % 128 * 128 ^ k) = s.num := by rw [← HG.out, HGOOD.out, if_neg hs, show 10 - (k + 1) = 9 - k by omega]
            have HGO := Aside0.mk hgo
            clear hgo
            have hk9 : k < 9 := by
              rcases tests with ⟨t1, t2, t3, t4⟩ | ⟨t1, t3, t4⟩ | ⟨t1, t3⟩
              · rw [bne_eq_false_iff_eq] at t2; omega
              · rw [beq_eq_false_iff_ne] at t1; omega
              · rw [beq_eq_false_iff_ne] at t1; omega
            rcases tests with ⟨t1, t2, t3, t4⟩ | ⟨t1, t3, t4⟩ | ⟨t1, t3⟩
            · rw [beq_iff_eq] at t1; omega
            all_goals
              go_wp2_with fail
              all_goals (refine ⟨⟨k + 1, nn + cc % 128 * 128 ^ k, by omega, by go_num, by rw [hv.out.1], ⟨hv.out.2.1, hv.out.2.2.1⟩, by omega, HGO⟩, ?_⟩; simp [intOf]; omega)
  · have d0 : (s.e != 0) = true := by simpa using s0
    have S0 := Aside0.mk s0
    clear s0
    go_enter Try.func52, Try.ntmps52
    go_wp2_with fail
    go_ret
    exact ⟨by simp [Sc.num, S0.out], by simpa [Sc.num, S0.out] using H.out, grown_refl _ _⟩

set_option maxRecDepth 100000 in
set_option maxHeartbeats 1000000 in
theorem wupto {S : Nat → Prop} {w : World} {g : Nat} {s : Sc} (h : Scn 62 S w g s) (most : Int) (hm : -9223372036854775808 ≤ most ∧ most < 9223372036854775808) :
    Calls Try.prog 41 #[.pointer (some ⟨g, 0, none⟩), .int .i64 most] w fun r w' => r = .returned (.int .i64 (s.upto most).1) ∧ Scn 62 S w' g (s.upto most).2 ∧ w.grownBy w' (some g) := by
  have hn := Sc.num_lt s h.u8
  go_enter Try.func41, Try.ntmps41
  go_wp2_with fail
  refine (wnum h).mono ?_
  rintro r w1 ⟨rfl, h1, hg1⟩
  generalize hnum : s.num.1 = n
  obtain ⟨A, c, hb, hc, hc2, hh, c0, c1, f0, f1⟩ := h1.cells
  clear hb hh
  have H1 := Aside0.mk h1
  clear h1 h
  have hup : s.upto most = if s.num.2.e = 0 ∧ (most < 0 ∨ most < s.num.1) then (0, s.num.2.fail 4) else (wrap64 s.num.1, s.num.2) := rfl
  have HUP := Aside0.mk hup
  clear hup
  rw [hnum] at hn HUP
  generalize hs1 : s.num.2 = s1 at H1 HUP c0 c1 hc
  have HNUM := Aside0.mk hnum
  have HS1 := Aside0.mk hs1
  clear hnum hs1
  by_cases e0 : s1.e = 0
  · have b0 : (s1.e == 0) = true := by simp [e0]
    have E0 := Aside0.mk e0
    clear e0
    by_cases m0 : most < 0
    · have hres : s.upto most = (0, s1.fail 4) := by rw [HUP.out, if_pos ⟨E0.out, .inl m0⟩]
      have HRES := Aside0.mk hres
      clear hres
      go_wp2_with (go_at_call 42; refine (wfail H1.out 4 (by omega)).mono ?_; rintro r w' ⟨rfl, hs', hg'⟩)
      go_ret
      exact ⟨by rw [HRES.out]; rfl, by rw [HRES.out]; exact hs', grown_trans hg1 hg'⟩
    · have m1 : 0 ≤ most := by omega
      have hwm : IntKind.u64.wrap most = most := by rw [IntKind.wrap_u64]; omega
      have d0 : decide (most < 0) = false := decide_eq_false m0
      by_cases n0 : most < n
      · have hres : s.upto most = (0, s1.fail 4) := by rw [HUP.out, if_pos ⟨E0.out, .inr n0⟩]
        have HRES := Aside0.mk hres
        clear hres
        go_wp2_with (go_at_call 42; refine (wfail H1.out 4 (by omega)).mono ?_; rintro r w' ⟨rfl, hs', hg'⟩)
        go_ret
        exact ⟨by rw [HRES.out]; rfl, by rw [HRES.out]; exact hs', grown_trans hg1 hg'⟩
      · have hwn : wrap64 n = n := by unfold wrap64; omega
        have hres : s.upto most = (n, s1) := by rw [HUP.out, if_neg (fun hh => by rcases hh.2 with hh | hh; exact m0 hh; exact n0 hh), hwn]
        have HRES := Aside0.mk hres
        clear hres
        go_wp2_with (go_at_call 42; refine (wfail H1.out 4 (by omega)).mono ?_; rintro r w' ⟨rfl, hs', hg'⟩)
        go_ret
        exact ⟨by rw [HRES.out]; first | rfl | (simp; done), by rw [HRES.out]; exact H1.out, hg1⟩
  · have b0 : (s1.e == 0) = false := by simpa using e0
    have E0 := Aside0.mk e0
    clear e0
    have hres : s.upto most = (wrap64 n, s1) := by rw [HUP.out, if_neg (fun hh => E0.out hh.1)]
    have HRES := Aside0.mk hres
    clear hres
    go_wp2_with (go_at_call 42; refine (wfail H1.out 4 (by omega)).mono ?_; rintro r w' ⟨rfl, hs', hg'⟩)
    go_ret
    exact ⟨by rw [HRES.out]; first | rfl | (simp; done), by rw [HRES.out]; exact H1.out, hg1⟩

set_option maxRecDepth 100000 in
set_option maxHeartbeats 1000000 in
theorem wtext {S : Nat → Prop} {w : World} {g : Nat} {s : Sc} (h : Scn 62 S w g s) (most : Int) (hm : -9223372036854775808 ≤ most ∧ most < 9223372036854775808) :
    Calls Try.prog 43 #[.pointer (some ⟨g, 0, none⟩), .int .i64 most] w fun r w' => r = .returned (.string (strOfNums (s.text most).1)) ∧ Scn 62 S w' g (s.text most).2 ∧ w.grownBy w' (some g) := by
  have hn := Sc.num_lt s h.u8
  have hu := Sc.upto_pos s most hm hn h.err
  go_enter Try.func43, Try.ntmps43
  go_wp2_with fail
  refine (wupto h most hm).mono ?_
  rintro r w1 ⟨rfl, h1, hg1⟩
  obtain ⟨A, c, hb, hc, hc2, hh, c0, c1, f0, f1⟩ := h1.cells
  have H1 := Aside0.mk h1
  have HB := Aside0.mk hb
  have HH := Aside0.mk hh
  have htx : s.text most = if (s.upto most).2.e = 0 then (if (s.upto most).1 > (s.upto most).2.l.length then ([], (s.upto most).2.fail 2) else ((s.upto most).2.l.take (s.upto most).1.toNat, ⟨(s.upto most).2.l.drop (s.upto most).1.toNat, 0⟩)) else ([], (s.upto most).2) := rfl
  have HT := Aside0.mk htx
  clear hb hh h1 h htx
  generalize hnum : (s.upto most).1 = n at hu HT ⊢
  generalize hs1 : (s.upto most).2 = s1 at H1 HB HH HT c0 c1 hc hu
  clear hnum hs1 hn
  obtain ⟨m, rfl⟩ := Int.eq_ofNat_of_zero_le hu.1
  by_cases hgt : s1.l.length < m
  · have e0 : s1.e = 0 := by
      apply Classical.byContradiction
      intro hne
      have := hu.2 hne
      omega
    have hres : s.text most = ([], s1.fail 2) := by rw [HT.out, if_pos e0, if_pos (by omega)]
    have HRES := Aside0.mk hres
    clear hres e0 hu
    go_wp2_with (go_at_call 42; refine (wfail H1.out 2 (by omega)).mono ?_; rintro r w' ⟨rfl, hs', hg'⟩)
    go_ret
    exact ⟨by rw [HRES.out]; rfl, by rw [HRES.out]; exact hs', grown_trans hg1 hg'⟩
  · have hle : m ≤ s1.l.length := by omega
    have hres : s.text most = (s1.l.take m, ⟨s1.l.drop m, s1.e⟩) := by
      rw [HT.out]
      by_cases e0 : s1.e = 0
      · rw [if_pos e0, if_neg (by omega), Int.toNat_natCast, e0]
      · rw [if_neg e0]
        have := hu.2 e0
        obtain rfl : m = 0 := by omega
        have := H1.out.err e0
        rw [List.take_zero, List.drop_zero]
    have HRES := Aside0.mk hres
    clear hres hu
    have hcs : (convert 23 9 (.slice A m c)).run Try.prog w1 = .ok (.string (strOfNums (s1.l.take m))) w1 := by
      have hC := HH.out.C (by have := H1.out.short; omega)
      have hT := Kd.C_take hC hle
      rw [List.length_take, Nat.min_eq_left hle] at hT
      exact Kd.C_string (P := Try.prog) (A := A) (c := c) Try.underlying23 Try.underlying5 Try.underlying9 hT
    have HEND : ∀ (W : World), Scn 62 S W g ⟨s1.l.drop m, s1.e⟩ → w1.grownBy W (some g) → Ending.returned (.string (strOfNums (s1.l.take m))) = .returned (.string (strOfNums (s.text most).1)) ∧ Scn 62 S W g (s.text most).2 ∧ w.grownBy W (some g) := fun W h1 h2 => by
      rw [HRES.out]; exact ⟨rfl, h1, grown_trans hg1 h2⟩
    have HE := Aside0.mk HEND
    clear HEND
    go_wp2
    all_goals go_ret
    all_goals first
      | exact HE.out _ (H1.out.dropped_b m hle HB.out hc hc2 HH.out (by assumption)) (grown_set _ _ _ _)
      | exact HE.out _ (H1.out.dropped_b m hle HB.out hc hc2 HH.out rfl) (grown_set _ _ _ _)
      | (refine HE.out _ ?_ (grown_set _ _ _ _); have h_ := H1.out.dropped m hle HB.out hc hc2 HH.out; rw [if_neg (by first | assumption | omega)] at h_; exact h_)

set_option maxHeartbeats 400000 in
theorem wend {S : Nat → Prop} {w : World} {g : Nat} {s : Sc} (h : Scn 62 S w g s) :
    Calls Try.prog 27 #[.pointer (some ⟨g, 0, none⟩)] w fun r w' => r = .returned (.int .i64 s.endE) ∧ w = w' := by
  obtain ⟨A, c, hb, hc, hc2, hh, c0, c1, f0, f1⟩ := h.cells
  clear hb hh h
  by_cases e0 : s.e = 0
  · have b0 : (s.e == 0) = true := by simp [e0]
    have E0 := Aside0.mk e0
    clear e0
    by_cases l0 : 0 < s.l.length
    · have d0 : decide (0 < (s.l.length : Int)) = true := by simpa using l0
      have hres : s.endE = 5 := by rw [Sc.endE, if_pos ⟨E0.out, l0⟩]
      have HR := Aside0.mk hres
      clear hres
      go_enter Try.func27, Try.ntmps27
      go_wp2
      go_ret
      exact ⟨by rw [HR.out]; rfl, rfl⟩
    · have d0 : decide (0 < s.l.length) = false := decide_eq_false l0
      have hres : s.endE = s.e := by rw [Sc.endE, if_neg (fun hh => l0 hh.2)]
      have HR := Aside0.mk hres
      clear hres l0
      go_enter Try.func27, Try.ntmps27
      go_wp2
      go_ret
      exact ⟨by rw [HR.out]; rfl, rfl⟩
  · have b0 : (s.e == 0) = false := by simpa using e0
    have hres : s.endE = s.e := by rw [Sc.endE, if_neg (fun hh => e0 hh.1)]
    have HR := Aside0.mk hres
    clear hres e0
    go_enter Try.func27, Try.ntmps27
    go_wp2
    go_ret
    exact ⟨by rw [HR.out]; rfl, rfl⟩
end Go.Proofs.Yticpcjjgdkbcjaa
end

section
namespace CrcM

/-- one bit's step -/
def t1 (n : Nat) : Nat := if n % 2 = 1 then (n / 2) ^^^ 3988292384 else n / 2
def tk : Nat → Nat → Nat
  | 0, n => n
  | k + 1, n => tk k (t1 n)
/-- a byte's step -/
def upd (s c : Nat) : Nat := tk 8 ((s ^^^ c) % 256) ^^^ s / 256
def run (s : Nat) (l : List Nat) : Nat := l.foldl upd s
def M : Nat := 4294967295
def add (s : Nat) (l : List Nat) : Nat := run (s ^^^ M) l ^^^ M
def sum (l : List Nat) : Nat := add 0 l
def low (n : Nat) : List Nat := [n % 256, n / 256 % 256, n / 65536 % 256, n / 16777216 % 256]
def sealB (l : List Nat) : List Nat := l ++ low (sum l)
def openB (l : List Nat) : Option (List Nat) :=
  if l.length < 4 then none
  else if low (sum (l.take (l.length - 4))) = l.drop (l.length - 4) then some (l.take (l.length - 4)) else none

theorem xor_div (a b k : Nat) : (a ^^^ b) / 2 ^ k = a / 2 ^ k ^^^ b / 2 ^ k := by
  apply Nat.eq_of_testBit_eq
  intro i
  simp [Nat.testBit_div_two_pow, Nat.testBit_xor]

theorem xor_mod (a b k : Nat) : (a ^^^ b) % 2 ^ k = a % 2 ^ k ^^^ b % 2 ^ k := by
  apply Nat.eq_of_testBit_eq
  intro i
  simp only [Nat.testBit_mod_two_pow, Nat.testBit_xor]
  cases decide (i < k) <;> simp

theorem t1_xor (a b : Nat) : t1 (a ^^^ b) = t1 a ^^^ t1 b := by
  have hd := xor_div a b 1
  have hm := xor_mod a b 1
  simp only [Nat.pow_one] at hd hm
  unfold t1
  rw [hd, hm]
  rcases Nat.mod_two_eq_zero_or_one a with ha | ha <;> rcases Nat.mod_two_eq_zero_or_one b with hb | hb <;> simp only [ha, hb, Nat.xor_zero, Nat.zero_xor, Nat.xor_self, if_true, if_false, Nat.one_ne_zero, Nat.zero_ne_one]
  · rw [Nat.xor_assoc]
  · rw [Nat.xor_assoc, Nat.xor_assoc, Nat.xor_comm 3988292384]
  · rw [Nat.xor_assoc, ← Nat.xor_assoc 3988292384, Nat.xor_comm 3988292384, Nat.xor_assoc, Nat.xor_self, Nat.xor_zero]

theorem tk_xor (k a b : Nat) : tk k (a ^^^ b) = tk k a ^^^ tk k b := by
  induction k generalizing a b with
  | zero => rfl
  | succ k ih => simp only [tk]; rw [t1_xor, ih]

theorem tk_add (j k n : Nat) : tk (j + k) n = tk k (tk j n) := by
  induction j generalizing n with
  | zero => simp [tk]
  | succ j ih => rw [Nat.succ_add]; simp only [tk]; exact ih _

theorem tk_zero (k : Nat) : tk k 0 = 0 := by
  induction k with
  | zero => rfl
  | succ k ih => simp only [tk]; exact ih

theorem t1_even (n : Nat) : t1 (2 * n) = n := by
  unfold t1
  rw [if_neg (by omega)]; omega

theorem tk_shift (k n : Nat) : tk k (n * 2 ^ k) = n := by
  induction k generalizing n with
  | zero => simp [tk]
  | succ k ih =>
    simp only [tk]
    rw [show n * 2 ^ (k + 1) = 2 * (n * 2 ^ k) by rw [Nat.pow_succ]; ac_rfl, t1_even, ih]

theorem t1_lt (n : Nat) (h : n < 4294967296) : t1 n < 4294967296 := by
  unfold t1
  split
  · exact Nat.xor_lt_two_pow (n := 32) (by omega) (by omega)
  · omega

theorem tk_lt (k n : Nat) (h : n < 4294967296) : tk k n < 4294967296 := by
  induction k generalizing n with
  | zero => exact h
  | succ k ih => exact ih _ (t1_lt n h)

theorem xor_eq_zero {a b : Nat} (h : a ^^^ b = 0) : a = b := by
  have : a ^^^ (a ^^^ b) = a ^^^ 0 := by rw [h]
  rw [← Nat.xor_assoc, Nat.xor_self, Nat.zero_xor, Nat.xor_zero] at this
  exact this.symm

theorem t1_ne_zero (n : Nat) (h : n < 4294967296) (h0 : n ≠ 0) : t1 n ≠ 0 := by
  unfold t1
  split
  · intro e
    have := xor_eq_zero e
    omega
  · omega

theorem tk_ne_zero (k n : Nat) (h : n < 4294967296) (h0 : n ≠ 0) : tk k n ≠ 0 := by
  induction k generalizing n with
  | zero => exact h0
  | succ k ih => exact ih _ (t1_lt n h) (t1_ne_zero n h h0)

theorem tk_inj (k a b : Nat) (ha : a < 4294967296) (hb : b < 4294967296) (h : tk k a = tk k b) : a = b := by
  apply xor_eq_zero
  apply Classical.byContradiction
  intro hne
  exact tk_ne_zero k (a ^^^ b) (Nat.xor_lt_two_pow (n := 32) ha hb) hne (by rw [tk_xor, h, Nat.xor_self])

/-- a byte's step, as eight bits' -/
theorem split_byte (s : Nat) : s = (s % 256) ^^^ (s / 256 * 256) := by
  apply Nat.eq_of_testBit_eq
  intro i
  rw [Nat.testBit_xor, show (256 : Nat) = 2 ^ 8 from rfl, Nat.testBit_mod_two_pow, Nat.mul_comm, Nat.testBit_two_pow_mul, Nat.testBit_div_two_pow]
  by_cases h : i < 8
  · simp [h, Nat.not_le.2 h]
  · have h8 : 8 ≤ i := by omega
    simp [h, h8, show 8 + (i - 8) = i by omega]

theorem upd_eq (s c : Nat) (hc : c < 256) : upd s c = tk 8 (s ^^^ c) := by
  have h := split_byte (s ^^^ c)
  have hd : (s ^^^ c) / 256 = s / 256 := by
    have := xor_div s c 8
    rw [show (2 : Nat) ^ 8 = 256 from rfl] at this
    rw [this, Nat.div_eq_of_lt hc, Nat.xor_zero]
  rw [hd] at h
  unfold upd
  rw [h, tk_xor]
  have e := tk_shift 8 (s / 256)
  rw [show (2 : Nat) ^ 8 = 256 from rfl] at e
  rw [e, ← h]

def Bytes (l : List Nat) : Prop := ∀ c ∈ l, c < 256

theorem upd_lt (s c : Nat) (hs : s < 4294967296) (hc : c < 256) : upd s c < 4294967296 := by
  rw [upd_eq s c hc]; exact tk_lt _ _ (Nat.xor_lt_two_pow (n := 32) hs (by omega))

theorem run_lt (l : List Nat) (hl : Bytes l) (s : Nat) (hs : s < 4294967296) : run s l < 4294967296 := by
  induction l generalizing s with
  | nil => exact hs
  | cons c l ih => exact ih (fun x hx => hl x (List.mem_cons_of_mem _ hx)) _ (upd_lt s c hs (hl c (List.mem_cons_self)))

theorem run_append (s : Nat) (a b : List Nat) : run s (a ++ b) = run (run s a) b := by simp [run]

/-- what a state's change comes to -/
theorem run_xor (l : List Nat) (hl : Bytes l) (s d : Nat) : run (s ^^^ d) l = run s l ^^^ tk (8 * l.length) d := by
  induction l generalizing s d with
  | nil => rfl
  | cons c l ih =>
    have hc := hl c (List.mem_cons_self)
    show run (upd (s ^^^ d) c) l = run (upd s c) l ^^^ _
    rw [upd_eq _ _ hc, upd_eq _ _ hc, show s ^^^ d ^^^ c = (s ^^^ c) ^^^ d by rw [Nat.xor_assoc, Nat.xor_comm d, ← Nat.xor_assoc], tk_xor, ih (fun x hx => hl x (List.mem_cons_of_mem _ hx)), ← tk_add]
    congr 2
    simp only [List.length_cons]; omega

/-- one bit turned -/
def flip (l : List Nat) (p : Nat) : List Nat := l.set (p / 8) (l.getD (p / 8) 0 ^^^ 2 ^ (p % 8))

theorem flip_length (l : List Nat) (p : Nat) : (flip l p).length = l.length := by simp [flip]

theorem pow_lt (p : Nat) : 2 ^ (p % 8) < 256 := by
  have h := Nat.pow_lt_pow_right (a := 2) (by omega) (show p % 8 < 8 by omega)
  simpa using h

theorem flip_bytes (l : List Nat) (p : Nat) (hl : Bytes l) : Bytes (flip l p) := by
  intro c hc
  rcases List.mem_or_eq_of_mem_set hc with h | h
  · exact hl c h
  · rw [h]
    refine Nat.xor_lt_two_pow (n := 8) ?_ (pow_lt p)
    by_cases hp : p / 8 < l.length
    · simp [List.getD_eq_getElem?_getD, hp]; exact hl _ (List.getElem_mem hp)
    · simp [List.getD_eq_getElem?_getD, Nat.le_of_not_lt hp]

theorem run_flip (l : List Nat) (hl : Bytes l) (s p : Nat) (hp : p < 8 * l.length) :
    run s (flip l p) = run s l ^^^ tk (8 * l.length - p) 1 := by
  induction l generalizing s p with
  | nil => simp at hp
  | cons c l ih =>
    have hc := hl c (List.mem_cons_self)
    have hl' : Bytes l := fun x hx => hl x (List.mem_cons_of_mem _ hx)
    by_cases h8 : p < 8
    · have e : p / 8 = 0 := by omega
      have em : p % 8 = p := by omega
      simp only [flip, e, em, List.set_cons_zero, List.getD_cons_zero]
      show run (upd s (c ^^^ 2 ^ p)) l = run (upd s c) l ^^^ _
      have hx : c ^^^ 2 ^ p < 256 := Nat.xor_lt_two_pow (n := 8) hc (by have := pow_lt p; rwa [em] at this)
      rw [upd_eq _ _ hx, upd_eq _ _ hc, ← Nat.xor_assoc, tk_xor, run_xor l hl', ← tk_add]
      congr 1
      have h2 := tk_shift p 1
      rw [Nat.one_mul] at h2
      rw [show 8 + 8 * l.length = p + (8 * (c :: l).length - p) by simp only [List.length_cons]; omega, tk_add, h2]
    · have e : flip (c :: l) p = c :: flip l (p - 8) := by
        obtain ⟨q, rfl⟩ : ∃ q, p = q + 8 := ⟨p - 8, by omega⟩
        simp only [flip, show (q + 8) / 8 = q / 8 + 1 by omega, show (q + 8) % 8 = q % 8 by omega, List.set_cons_succ, List.getD_cons_succ, Nat.add_sub_cancel]
      rw [e]
      show run (upd s c) (flip l (p - 8)) = run (upd s c) l ^^^ _
      rw [ih hl' _ _ (by simp only [List.length_cons] at hp; omega)]
      congr 2
      simp only [List.length_cons] at hp ⊢; omega

/-- the four bytes of a number, read behind a state -/
theorem low_bytes (y : Nat) : Bytes (low y) := by
  intro c hc
  simp only [low, List.mem_cons, List.not_mem_nil, or_false] at hc
  omega

theorem run_low (x y : Nat) (hy : y < 4294967296) : run x (low y) = tk 32 (x ^^^ y) := by
  have h0 : y = (y % 256) ^^^ (y / 256 * 256) := split_byte y
  have h1 : y / 256 = (y / 256 % 256) ^^^ (y / 256 / 256 * 256) := split_byte _
  have h2 : y / 256 / 256 = (y / 256 / 256 % 256) ^^^ (y / 256 / 256 / 256 * 256) := split_byte _
  have e2 : y / 65536 = y / 256 / 256 := by omega
  have e3 : y / 16777216 = y / 256 / 256 / 256 := by omega
  have e4 : y / 256 / 256 / 256 % 256 = y / 256 / 256 / 256 := by omega
  have key : ∀ s a q, a < 256 → tk 8 (s ^^^ (a ^^^ q * 256)) = upd s a ^^^ q := by
    intro s a q ha
    rw [← Nat.xor_assoc, tk_xor, upd_eq _ _ ha]
    have := tk_shift 8 q
    rw [show (2 : Nat) ^ 8 = 256 from rfl] at this
    rw [this]
  simp only [run, low, List.foldl]
  rw [e2, e3, e4]
  rw [show (32 : Nat) = 8 + (8 + (8 + 8)) from rfl, tk_add, tk_add, tk_add]
  conv => rhs; rw [h0]
  rw [key _ _ _ (by omega)]
  conv => rhs; rw [h1]
  rw [key _ _ _ (by omega)]
  conv => rhs; rw [h2]
  rw [key _ _ _ (by omega), upd_eq _ (y / 256 / 256 / 256) (by omega)]

theorem low_inj (x y : Nat) (hx : x < 4294967296) (hy : y < 4294967296) (h : low x = low y) : x = y := by
  simp only [low, List.cons.injEq, and_true] at h
  omega

theorem low_of (l : List Nat) (hl : Bytes l) (h : l.length = 4) : ∃ y, y < 4294967296 ∧ l = low y := by
  match l, h with
  | [a, b, c, d], _ =>
    have ha := hl a (by simp)
    have hb := hl b (by simp)
    have hc := hl c (by simp)
    have hd := hl d (by simp)
    refine ⟨a + 256 * b + 65536 * c + 16777216 * d, by omega, ?_⟩
    simp only [low, List.cons.injEq, and_true]
    omega

/-- the state that what is sealed comes to -/
def K : Nat := tk 32 M

theorem M_lt : M < 4294967296 := by decide

theorem sum_lt (l : List Nat) (hl : Bytes l) : sum l < 4294967296 := by
  unfold sum add
  exact Nat.xor_lt_two_pow (n := 32) (run_lt l hl _ (by decide)) M_lt

theorem run_sum (l : List Nat) (hl : Bytes l) (y : Nat) (hy : y < 4294967296) : run M (l ++ low y) = K ↔ y = sum l := by
  have hr := run_lt l hl M M_lt
  rw [run_append, run_low _ _ hy]
  unfold K sum add
  rw [Nat.zero_xor]
  constructor
  · intro h
    have := tk_inj 32 _ _ (Nat.xor_lt_two_pow (n := 32) hr hy) M_lt h
    have e : run M l ^^^ (run M l ^^^ y) = run M l ^^^ M := by rw [this]
    rwa [← Nat.xor_assoc, Nat.xor_self, Nat.zero_xor] at e
  · intro h
    rw [h, ← Nat.xor_assoc, Nat.xor_self, Nat.zero_xor]

theorem sealB_bytes (l : List Nat) (hl : Bytes l) : Bytes (sealB l) := by
  intro c hc
  rcases List.mem_append.1 hc with h | h
  · exact hl c h
  · exact low_bytes _ c h

theorem sealB_length (l : List Nat) : (sealB l).length = l.length + 4 := by simp [sealB, low]

theorem sealB_run (l : List Nat) (hl : Bytes l) : run M (sealB l) = K := (run_sum l hl _ (sum_lt l hl)).2 rfl

theorem open_sealB (l : List Nat) : openB (sealB l) = some l := by
  unfold openB
  have h := sealB_length l
  rw [if_neg (by omega), h, show l.length + 4 - 4 = l.length by omega]
  simp [sealB]

theorem open_some (c y : List Nat) (h : openB c = some y) : sealB y = c := by
  unfold openB at h
  split at h
  · cases h
  · split at h
    · rename_i h4 he
      cases h
      unfold sealB
      rw [he]
      exact List.take_append_drop _ _
    · cases h

/-- what is opened comes to K -/
theorem open_iff (c : List Nat) (hc : Bytes c) : openB c ≠ none ↔ 4 ≤ c.length ∧ run M c = K := by
  unfold openB
  by_cases h4 : c.length < 4
  · rw [if_pos h4]; simp; omega
  · rw [if_neg h4]
    have ht : Bytes (c.take (c.length - 4)) := fun x hx => hc x (List.mem_of_mem_take hx)
    have hd : Bytes (c.drop (c.length - 4)) := fun x hx => hc x (List.mem_of_mem_drop hx)
    obtain ⟨y, hy, hdy⟩ := low_of _ hd (by simp; omega)
    have hs := sum_lt _ ht
    have e : run M c = run M (c.take (c.length - 4) ++ low y) := by rw [← hdy, List.take_append_drop]
    rw [hdy, e, run_sum _ ht y hy]
    constructor
    · intro h
      refine ⟨by omega, ?_⟩
      split at h
      · rename_i he; exact (low_inj _ _ hs hy he).symm
      · exact absurd rfl h
    · rintro ⟨_, rfl⟩
      simp

/-- places turned, one behind the other -/
def flips (l : List Nat) (ps : List Nat) : List Nat := ps.foldl flip l

theorem flips_length (ps l : List Nat) : (flips l ps).length = l.length := by
  induction ps generalizing l with
  | nil => rfl
  | cons p ps ih => show (flips (flip l p) ps).length = _; rw [ih, flip_length]

theorem flips_bytes (ps l : List Nat) (hl : Bytes l) : Bytes (flips l ps) := by
  induction ps generalizing l with
  | nil => exact hl
  | cons p ps ih => exact ih _ (flip_bytes l p hl)

def wt (n : Nat) (ps : List Nat) : Nat := ps.foldl (fun a p => a ^^^ tk (n - p) 1) 0

theorem foldl_xor (n a : Nat) (ps : List Nat) : ps.foldl (fun a p => a ^^^ tk (n - p) 1) a = a ^^^ wt n ps := by
  induction ps generalizing a with
  | nil => simp [wt]
  | cons p ps ih => simp only [List.foldl, wt]; rw [ih, ih (0 ^^^ _), Nat.zero_xor, Nat.xor_assoc]

theorem run_flips (ps l : List Nat) (hl : Bytes l) (s : Nat) (hp : ∀ p ∈ ps, p < 8 * l.length) :
    run s (flips l ps) = run s l ^^^ wt (8 * l.length) ps := by
  induction ps generalizing l with
  | nil => simp [flips, wt]
  | cons p ps ih =>
    show run s (flips (flip l p) ps) = _
    rw [ih _ (flip_bytes l p hl) (fun q hq => by rw [flip_length]; exact hp q (List.mem_cons_of_mem _ hq)), flip_length, run_flip l hl s p (hp p (List.mem_cons_self))]
    show _ = _ ^^^ List.foldl _ (0 ^^^ _) ps
    rw [foldl_xor, Nat.zero_xor, Nat.xor_assoc]

theorem refused (l ps : List Nat) (hl : Bytes l) (hp : ∀ p ∈ ps, p < 8 * (l.length + 4)) (hw : wt (8 * (l.length + 4)) ps ≠ 0) :
    openB (flips (sealB l) ps) = none := by
  apply Classical.byContradiction
  intro h
  have h2 := ((open_iff _ (flips_bytes ps _ (sealB_bytes l hl))).1 h).2
  rw [run_flips ps _ (sealB_bytes l hl) M (by rw [sealB_length]; exact hp), sealB_length, sealB_run l hl] at h2
  apply hw
  have : K ^^^ (K ^^^ wt (8 * (l.length + 4)) ps) = K ^^^ K := by rw [h2]
  rwa [← Nat.xor_assoc, Nat.xor_self, Nat.zero_xor] at this

/-- the bits of a mask, from 'at' on -/
def burst (i : Nat) (at_ mask : Nat) : List Nat := ((List.range i).filter fun j => mask / 2 ^ j % 2 = 1).map (at_ + ·)

theorem mod_succ (m i : Nat) : m % 2 ^ (i + 1) = (m % 2 ^ i) ^^^ (m / 2 ^ i % 2 * 2 ^ i) := by
  apply Nat.eq_of_testBit_eq
  intro j
  rw [Nat.testBit_xor, Nat.testBit_mod_two_pow, Nat.testBit_mod_two_pow, Nat.mul_comm, Nat.testBit_two_pow_mul]
  have h2 : m / 2 ^ i % 2 = (m / 2 ^ i) % 2 ^ 1 := by simp
  rw [h2, Nat.testBit_mod_two_pow, Nat.testBit_div_two_pow]
  by_cases h : j < i
  · simp [h, show j < i + 1 by omega, Nat.not_le.2 h]
  · by_cases h' : j = i
    · subst h'; simp
    · simp [h, show ¬ j < i + 1 by omega, show ¬ j - i < 1 by omega]

theorem wt_append (n : Nat) (a b : List Nat) : wt n (a ++ b) = wt n a ^^^ wt n b := by
  show List.foldl _ 0 (a ++ b) = _
  rw [List.foldl_append, foldl_xor]; rfl

theorem wt_burst (n at_ mask i : Nat) (h : at_ + i ≤ n) : wt n (burst i at_ mask) = tk (n - at_) (mask % 2 ^ i) := by
  induction i with
  | zero => simp [burst, wt, Nat.mod_one, tk_zero]
  | succ i ih =>
    have e : burst (i + 1) at_ mask = burst i at_ mask ++ (if mask / 2 ^ i % 2 = 1 then [at_ + i] else []) := by
      unfold burst
      rw [List.range_succ, List.filter_append, List.map_append]
      congr 1
      by_cases hb : mask / 2 ^ i % 2 = 1 <;> simp [hb]
    rw [e, wt_append, ih (by omega), mod_succ, tk_xor]
    congr 1
    by_cases hb : mask / 2 ^ i % 2 = 1
    · rw [if_pos hb, hb, Nat.one_mul]
      have h1 := tk_shift i 1
      rw [Nat.one_mul] at h1
      rw [show n - at_ = i + (n - (at_ + i)) by omega, tk_add, h1]
      simp [wt]
    · have h0 : mask / 2 ^ i % 2 = 0 := by omega
      rw [if_neg hb, h0, Nat.zero_mul, tk_zero]; rfl

theorem burst_ne (n at_ mask : Nat) (h : at_ + 32 ≤ n) (h0 : mask ≠ 0) (hm : mask < 4294967296) : wt n (burst 32 at_ mask) ≠ 0 := by
  rw [wt_burst n at_ mask 32 h, Nat.mod_eq_of_lt hm]
  exact tk_ne_zero _ _ hm h0

/-- two or three places -/
theorem two_ne (n p q : Nat) (hd : ∀ i, 0 < i → i < n → tk i 1 / 2 ≠ 0) (hp : p < q) (hq : q < n) : tk (n - p) 1 ^^^ tk (n - q) 1 ≠ 0 := by
  intro h
  have h1 := xor_eq_zero h
  rw [show n - p = (q - p) + (n - q) by omega, tk_add] at h1
  have h2 := tk_inj (n - q) _ _ (tk_lt _ _ (by omega)) (by omega) h1
  have := hd (q - p) (by omega) (by omega)
  rw [h2] at this
  exact this rfl

theorem three_ne (n p q r : Nat) (hd : ∀ i j, i < j → j < n → tk i 1 / 2 ≠ tk j 1 / 2) (hp : p < q) (hq : q < r) (hr : r < n) :
    tk (n - p) 1 ^^^ tk (n - q) 1 ^^^ tk (n - r) 1 ≠ 0 := by
  intro h
  rw [show n - p = (r - p) + (n - r) by omega, show n - q = (r - q) + (n - r) by omega, tk_add, tk_add, ← tk_xor, ← tk_xor] at h
  have hz : tk (r - p) 1 ^^^ tk (r - q) 1 ^^^ 1 = 0 := by
    apply Classical.byContradiction
    intro hne
    exact tk_ne_zero (n - r) _ (Nat.xor_lt_two_pow (n := 32) (Nat.xor_lt_two_pow (n := 32) (tk_lt _ _ (by omega)) (tk_lt _ _ (by omega))) (by omega)) hne h
  have he := xor_eq_zero hz
  have hx := xor_div (tk (r - p) 1) (tk (r - q) 1) 1
  rw [he] at hx
  simp only [Nat.pow_one] at hx
  have := hd (r - q) (r - p) (by omega) (by omega)
  exact this (xor_eq_zero hx.symm).symm

end CrcM
end

section
set_option linter.unusedVariables false
set_option linter.unusedSimpArgs false
set_option autoImplicit false
namespace Go.Proofs.Yticpcjjgdkbcjaa
open Go.RowKit Go.Proofs.YticpcjjgdkbcjaaW.PrintWords Go.Proofs.YticpcjjgdkbcjaaW.PrintLast Go.Proofs.YticpcjjgdkbcjaaW.PrintMore

/-- the bytes that a slice tells, in blocks of which S tells -/
theorem held_own {W : World} {base e : Nat} {ok : Nat → Prop} {v : Value} {xs : List Int} (h : (Kd.int .u8).R e W base ok v xs) :
    ∃ A c, v = .slice A xs.length c ∧ xs.length ≤ c ∧ c ≤ 9223372036854775807 ∧ HeldB W (fun k => base ≤ k ∧ k < W.heap.size) A xs ∧ (Kd.int .u8).C W A xs.length xs := by
  obtain ⟨A, c, rfl, hc, hC⟩ := own_C h
  obtain ⟨_, ho⟩ := kd_own h
  rcases ho with ⟨h1, h2⟩ | ⟨g, cap, cur, h1, h2, h3, h4, h5, h6, h7⟩
  · simp only [Value.slice.injEq] at h1
    obtain ⟨rfl, _, rfl⟩ := h1
    exact ⟨none, 0, rfl, by omega, by omega, fun h0 => absurd h0 (by omega), hC⟩
  · cases h1
    refine ⟨_, _, rfl, hc, by simpa [maxLen] using h5, HeldB.of_C hC ?_, hC⟩
    rintro ad hA _
    cases hA
    exact ⟨h2, lt_of_heap h3⟩
theorem HeldB.below {w w' : World} {S : Nat → Prop} {A : Option Addr} {l : List Int} (h : HeldB w S A l) (hb : Below w.heap.size w w') : HeldB w' S A l := h.keep fun k hk _ => hb.block k hk
theorem HeldB.grown {w w' : World} {S : Nat → Prop} {A : Option Addr} {l : List Int} {r : Nat} (h : HeldB w S A l) (hb : w.grownBy w' (some r)) (h2 : ¬ S r) : HeldB w' S A l :=
  h.keep fun k hk hs => hb.block k hk (fun e => by cases e; exact h2 hs)
theorem HeldB.low {w : World} {A : Option Addr} {l : List Int} (h : (Kd.int .u8).C w A l.length l) : HeldB w (fun k => k < w.heap.size) A l := by
  refine HeldB.of_C h ?_
  rintro ad rfl h0
  obtain ⟨_, _, hr⟩ := Kd.reads_of_C (d := (0 : Int)) h
  obtain ⟨ad', e, hc⟩ := hr h0
  cases e
  have := World.block_lt_of_cell? _ _ (hc 0 h0)
  rwa [add_block] at this
theorem strA {w : World} {A : Option Addr} {l : List Int} (h : (Kd.int .u8).C w A l.length l) (c : Nat) : (convert 23 9 (.slice A l.length c)).run Try.prog w = .ok (.string (strOfNums l)) w :=
  Kd.C_string (P := Try.prog) (A := A) (c := c) Try.underlying23 Try.underlying5 Try.underlying9 h
theorem below_via {w W W' : World} (h : Below W.heap.size W W') (h0 : Below w.heap.size w W) : Below w.heap.size w W' := h0.trans (h.mono h0.size)
end Go.Proofs.Yticpcjjgdkbcjaa
end

section
-- Written by a program of this session (wip/tools/myprint.py), over the kit's print.
namespace Go.Proofs.Yticpcjjgdkbcjaa.G
open Go.RowKit Go.Proofs.YticpcjjgdkbcjaaW.PrintWords Go.Proofs.YticpcjjgdkbcjaaW.PrintLast Go.Proofs.YticpcjjgdkbcjaaW.PrintMore
attribute [local go_sem] max2_int min2_int max_two min_two max_three min_three max_four min_four   -- for this text's walks alone
set_option linter.unusedVariables false
set_option linter.unusedSimpArgs false



def errW : Option Int → Value
  | none => .nilIface
  | some c => .iface 0 (.int .i64 c)
theorem errW_none : errW none = .nilIface := rfl
theorem errW_some (c : Int) : errW (some c) = .iface 0 (.int .i64 c) := rfl

theorem info5 : (Try.prog.info? 5).map (fun i => (i.zero, i.size, i.bytes)) = some (some (.int .u8 0), 1, 1) := by kernel_rfl
-- the values' own types
def rd_L3 (xs : List (List Int)) (i : Int) : (List Int) := xs.getD i.toNat ([] : List Int)
theorem at_L3 {w : World} {A : Option Addr} {n : Nat} {xs : List (List Int)} (h : Kd.C (Kd.slice 5 (Kd.int .u8)) w A n xs) (i : Int) (h0 : 0 ≤ i) (h1 : i < n) : ∃ ad A0 c0, A = some ad ∧ w.cell? (ad.add i.toNat) = some (.slice A0 (rd_L3 xs i).length c0) ∧ (rd_L3 xs i).length ≤ c0 ∧ (Kd.int .u8).C w A0 (rd_L3 xs i).length (rd_L3 xs i) := by
  obtain ⟨ad, c, e, _, hK, hc0⟩ := Kd.C_get h ([] : List Int) i h0 h1
  have hc : ∀ j u, c[j]? = some u → w.cell? (ad.add (i.toNat * 1 + j)) = some u := hc0
  obtain ⟨A0, c0, rfl, l0, g0⟩ := hK
  exact ⟨ad, A0, c0, e, by have hq := hc 0 _ rfl; rwa [Nat.mul_one, Nat.add_zero] at hq, l0, g0⟩

/-! #### struct type 25 -/
structure S25 where
  f0 : Int
  f1 : Int
  f2 : Int
  f3 : Int
  f4 : Int
  f5 : (List Int)
def z25 : S25 := ⟨(0 : Int), (0 : Int), (0 : Int), (0 : Int), (0 : Int), ([] : List Int)⟩
def k25 : Kd S25 := Kd.iso (Kd.pair (Kd.int .i64) (Kd.pair (Kd.int .i64) (Kd.pair (Kd.int .i64) (Kd.pair (Kd.int .i64) (Kd.pair (Kd.int .u32) (Kd.slice 5 (Kd.int .u8))))))) (fun x : S25 => (x.f0, x.f1, x.f2, x.f3, x.f4, x.f5))
theorem k25_open {w : World} {x : S25} {cs : List Value} (h : k25.K w x cs) : ∃ A5 c5, cs = [.int .i64 x.f0, .int .i64 x.f1, .int .i64 x.f2, .int .i64 x.f3, .int .u32 x.f4, .slice A5 x.f5.length c5] ∧ x.f5.length ≤ c5 ∧ (Kd.int .u8).C w A5 x.f5.length x.f5 := by
  obtain ⟨_, _, rfl, rfl, ⟨_, _, rfl, rfl, ⟨_, _, rfl, rfl, ⟨_, _, rfl, rfl, ⟨_, _, rfl, rfl, ⟨A5, c5, rfl, l5, g5⟩⟩⟩⟩⟩⟩ := h
  exact ⟨A5, c5, rfl, l5, g5⟩
theorem k25_openM {w : World} {base : Nat} {ok : Nat → Prop} {x : S25} {cs : List Value} (h : k25.M w base ok x cs) : ∃ v5, cs = [.int .i64 x.f0, .int .i64 x.f1, .int .i64 x.f2, .int .i64 x.f3, .int .u32 x.f4, v5] ∧ (Kd.int .u8).R 5 w base ok v5 x.f5 := by
  obtain ⟨_, _, rfl, rfl, ⟨_, _, rfl, rfl, ⟨_, _, rfl, rfl, ⟨_, _, rfl, rfl, ⟨_, _, rfl, rfl, ⟨v5, rfl, g5⟩⟩⟩⟩⟩⟩ := h
  exact ⟨v5, rfl, g5⟩
theorem k25_mk (w : World) (x : S25) {A5 : Option Addr} {c5 : Nat} (l5 : x.f5.length ≤ c5) (g5 : (Kd.int .u8).C w A5 x.f5.length x.f5) : k25.K w x [.int .i64 x.f0, .int .i64 x.f1, .int .i64 x.f2, .int .i64 x.f3, .int .u32 x.f4, .slice A5 x.f5.length c5] := ⟨[.int .i64 x.f0], [.int .i64 x.f1, .int .i64 x.f2, .int .i64 x.f3, .int .u32 x.f4, .slice A5 x.f5.length c5], rfl, rfl, ⟨[.int .i64 x.f1], [.int .i64 x.f2, .int .i64 x.f3, .int .u32 x.f4, .slice A5 x.f5.length c5], rfl, rfl, ⟨[.int .i64 x.f2], [.int .i64 x.f3, .int .u32 x.f4, .slice A5 x.f5.length c5], rfl, rfl, ⟨[.int .i64 x.f3], [.int .u32 x.f4, .slice A5 x.f5.length c5], rfl, rfl, ⟨[.int .u32 x.f4], [.slice A5 x.f5.length c5], rfl, rfl, ⟨A5, c5, rfl, l5, g5⟩⟩⟩⟩⟩⟩
theorem k25_mkM (w : World) (base : Nat) (ok : Nat → Prop) (x : S25) {v5 : Value} (g5 : (Kd.int .u8).R 5 w base ok v5 x.f5) : k25.M w base ok x [.int .i64 x.f0, .int .i64 x.f1, .int .i64 x.f2, .int .i64 x.f3, .int .u32 x.f4, v5] := ⟨[.int .i64 x.f0], [.int .i64 x.f1, .int .i64 x.f2, .int .i64 x.f3, .int .u32 x.f4, v5], rfl, rfl, ⟨[.int .i64 x.f1], [.int .i64 x.f2, .int .i64 x.f3, .int .u32 x.f4, v5], rfl, rfl, ⟨[.int .i64 x.f2], [.int .i64 x.f3, .int .u32 x.f4, v5], rfl, rfl, ⟨[.int .i64 x.f3], [.int .u32 x.f4, v5], rfl, rfl, ⟨[.int .u32 x.f4], [v5], rfl, rfl, ⟨v5, rfl, g5⟩⟩⟩⟩⟩⟩
def rd_T25 (xs : List S25) (i : Int) : S25 := xs.getD i.toNat z25
theorem at_T25 {w : World} {A : Option Addr} {n : Nat} {xs : List S25} (h : Kd.C k25 w A n xs) (i : Int) (h0 : 0 ≤ i) (h1 : i < n) : ∃ ad A5 c5, A = some ad ∧ w.cell? (ad.add (i.toNat * 6)) = some (.int .i64 (rd_T25 xs i).f0) ∧ w.cell? ⟨(ad.add (i.toNat * 6)).block, (ad.add (i.toNat * 6)).off + 1, none⟩ = some (.int .i64 (rd_T25 xs i).f1) ∧ w.cell? ⟨(ad.add (i.toNat * 6)).block, (ad.add (i.toNat * 6)).off + 2, none⟩ = some (.int .i64 (rd_T25 xs i).f2) ∧ w.cell? ⟨(ad.add (i.toNat * 6)).block, (ad.add (i.toNat * 6)).off + 3, none⟩ = some (.int .i64 (rd_T25 xs i).f3) ∧ w.cell? ⟨(ad.add (i.toNat * 6)).block, (ad.add (i.toNat * 6)).off + 4, none⟩ = some (.int .u32 (rd_T25 xs i).f4) ∧ w.cell? ⟨(ad.add (i.toNat * 6)).block, (ad.add (i.toNat * 6)).off + 5, none⟩ = some (.slice A5 (rd_T25 xs i).f5.length c5) ∧ (rd_T25 xs i).f5.length ≤ c5 ∧ (Kd.int .u8).C w A5 (rd_T25 xs i).f5.length (rd_T25 xs i).f5 := by
  obtain ⟨ad, c, e, _, hK, hc0⟩ := Kd.C_get h z25 i h0 h1
  have hc : ∀ j u, c[j]? = some u → w.cell? (ad.add (i.toNat * 6 + j)) = some u := hc0
  obtain ⟨A5, c5, rfl, l5, g5⟩ := k25_open hK
  exact ⟨ad, A5, c5, e, hc 0 _ rfl, by rw [← add_field _ _ 1 (by omega)]; exact hc 1 _ rfl, by rw [← add_field _ _ 2 (by omega)]; exact hc 2 _ rfl, by rw [← add_field _ _ 3 (by omega)]; exact hc 3 _ rfl, by rw [← add_field _ _ 4 (by omega)]; exact hc 4 _ rfl, by rw [← add_field _ _ 5 (by omega)]; exact hc 5 _ rfl, l5, g5⟩

end Go.Proofs.Yticpcjjgdkbcjaa.G
end

section
-- Written by a program of this session (wip/tools/myprint.py), over the kit's print.
namespace Go.Proofs.Yticpcjjgdkbcjaa.G
open Go.RowKit Go.Proofs.YticpcjjgdkbcjaaW.PrintWords Go.Proofs.YticpcjjgdkbcjaaW.PrintLast Go.Proofs.YticpcjjgdkbcjaaW.PrintMore
attribute [local go_sem] max2_int min2_int max_two min_two max_three min_three max_four min_four   -- for this text's walks alone
set_option linter.unusedVariables false
set_option linter.unusedSimpArgs false

/-! ### packet_in: function 34 -/
def packet_in.f (a0 : Int) (a1 : Int) (a2 : Int) : Option (Bool) := if a0 ≥ a1 then (some (decide (a0 ≤ a2))) else (some false)
set_option maxHeartbeats 8000000 in
set_option maxRecDepth 100000 in
theorem packet_in.calls (a0 : Int) (a1 : Int) (a2 : Int) (r : Bool) (w : World) (h : packet_in.f a0 a1 a2 = some r) :
    Calls Try.prog 34 #[.int .i64 a0, .int .i64 a1, .int .i64 a2] w fun e w' => e = .returned (.bool r) ∧ Drawn0 w w' := by
  have H : (if a0 ≥ a1 then (some (decide (a0 ≤ a2))) else (some false)) = some r := h
  clear h
  by_cases c4 : a0 ≥ a1
  · rw [if_pos c4] at H
    have c4b0 : decide (a1 ≤ a0) = true := decide_eq_true c4
    clear c4
    obtain rfl := Option.some.inj H
    go_enter Try.func34, Try.ntmps34
    go_wp2
    go_ret
    exact ⟨by first | rfl | (simp; done) | (simp [*]; done), by repeat (first | exact Drawn0.refl _ | apply Drawn0.step)⟩
  · rw [if_neg c4] at H
    have c4b0 : decide (a1 ≤ a0) = false := decide_eq_false c4
    clear c4
    obtain rfl := Option.some.inj H
    go_enter Try.func34, Try.ntmps34
    go_wp2
    go_ret
    exact ⟨by first | rfl | (simp; done) | (simp [*]; done), by repeat (first | exact Drawn0.refl _ | apply Drawn0.step)⟩

end Go.Proofs.Yticpcjjgdkbcjaa.G
end

section
-- Written by a program of this session (wip/tools/myprint.py), over the kit's print.
namespace Go.Proofs.Yticpcjjgdkbcjaa.G
open Go.RowKit Go.Proofs.YticpcjjgdkbcjaaW.PrintWords Go.Proofs.YticpcjjgdkbcjaaW.PrintLast Go.Proofs.YticpcjjgdkbcjaaW.PrintMore
attribute [local go_sem] max2_int min2_int max_two min_two max_three min_three max_four min_four   -- for this text's walks alone
set_option linter.unusedVariables false
set_option linter.unusedSimpArgs false

/-! ### bytes_Equal: function 48 -/
def bytes_Equal.f (l0 : List Int) (l1 : List Int) : Option (Bool) := some ((strOfNums l0).toList == (strOfNums l1).toList)
set_option maxHeartbeats 8000000 in
set_option maxRecDepth 100000 in
theorem bytes_Equal.calls (A0 : Option Addr) (c0 : Nat) (l0 : List Int) (A1 : Option Addr) (c1 : Nat) (l1 : List Int) (r : Bool) (w : World) (hr0 : Kd.C (Kd.int .u8) w A0 l0.length l0) (hc0 : l0.length ≤ c0) (hr1 : Kd.C (Kd.int .u8) w A1 l1.length l1) (hc1 : l1.length ≤ c1) (h : bytes_Equal.f l0 l1 = some r) :
    Calls Try.prog 48 #[.slice A0 l0.length c0, .slice A1 l1.length c1] w fun e w' => e = .returned (.bool r) ∧ Drawn0 w w' := by
  have HR0 := Aside0.mk hr0
  have HC0 := Aside0.mk hc0
  clear hr0 hc0
  have HR1 := Aside0.mk hr1
  have HC1 := Aside0.mk hc1
  clear hr1 hc1
  have H : (some ((strOfNums l0).toList == (strOfNums l1).toList)) = some r := h
  clear h
  obtain rfl := Option.some.inj H
  have hcv3 := Kd.C_string (P := Try.prog) (A := A0) (c := c0) Try.underlying23 Try.underlying5 Try.underlying9 HR0.out
  have hcw4 := fun (m_ : Nat) => Kd.C_string (P := Try.prog) (A := A0) (c := c0) Try.underlying23 Try.underlying5 Try.underlying9 (Kd.C_drewN HR0.out m_)
  have hcv5 := Kd.C_string (P := Try.prog) (A := A1) (c := c1) Try.underlying23 Try.underlying5 Try.underlying9 HR1.out
  have hcw6 := fun (m_ : Nat) => Kd.C_string (P := Try.prog) (A := A1) (c := c1) Try.underlying23 Try.underlying5 Try.underlying9 (Kd.C_drewN HR1.out m_)
  go_enter Try.func48, Try.ntmps48
  go_wp2
  go_ret
  exact ⟨by first | rfl | (simp; done) | (simp [*]; done), by repeat (first | exact Drawn0.refl _ | apply Drawn0.step)⟩

end Go.Proofs.Yticpcjjgdkbcjaa.G
end

section
-- Written by a program of this session (wip/tools/myprint.py), over the kit's print.
namespace Go.Proofs.Yticpcjjgdkbcjaa.G
open Go.RowKit Go.Proofs.YticpcjjgdkbcjaaW.PrintWords Go.Proofs.YticpcjjgdkbcjaaW.PrintLast Go.Proofs.YticpcjjgdkbcjaaW.PrintMore
attribute [local go_sem] max2_int min2_int max_two min_two max_three min_three max_four min_four   -- for this text's walks alone
set_option linter.unusedVariables false
set_option linter.unusedSimpArgs false

/-! ### packet_same: function 35 -/
def packet_same.f (a0_0 : Int) (a0_1 : Int) (a0_2 : Int) (a0_3 : Int) (a0_4 : Int) (l0_5 : List Int) (a1_0 : Int) (a1_1 : Int) (a1_2 : Int) (a1_3 : Int) (a1_4 : Int) (l1_5 : List Int) : Option (Bool) := if a0_2 = a1_2 then (if a0_3 = a1_3 then (if a0_4 = a1_4 then ((bytes_Equal.f l0_5 l1_5).bind fun t103 => (some t103)) else (some false)) else (some false)) else (some false)
set_option maxHeartbeats 8000000 in
set_option maxRecDepth 100000 in
theorem packet_same.calls (a0_0 : Int) (a0_1 : Int) (a0_2 : Int) (a0_3 : Int) (a0_4 : Int) (A0_5 : Option Addr) (c0_5 : Nat) (l0_5 : List Int) (a1_0 : Int) (a1_1 : Int) (a1_2 : Int) (a1_3 : Int) (a1_4 : Int) (A1_5 : Option Addr) (c1_5 : Nat) (l1_5 : List Int) (r : Bool) (w : World) (hr0_5 : Kd.C (Kd.int .u8) w A0_5 l0_5.length l0_5) (hc0_5 : l0_5.length ≤ c0_5) (hr1_5 : Kd.C (Kd.int .u8) w A1_5 l1_5.length l1_5) (hc1_5 : l1_5.length ≤ c1_5) (h : packet_same.f a0_0 a0_1 a0_2 a0_3 a0_4 l0_5 a1_0 a1_1 a1_2 a1_3 a1_4 l1_5 = some r) :
    Calls Try.prog 35 #[.agg #[.int .i64 a0_0, .int .i64 a0_1, .int .i64 a0_2, .int .i64 a0_3, .int .u32 a0_4, .slice A0_5 l0_5.length c0_5], .agg #[.int .i64 a1_0, .int .i64 a1_1, .int .i64 a1_2, .int .i64 a1_3, .int .u32 a1_4, .slice A1_5 l1_5.length c1_5]] w fun e w' => e = .returned (.bool r) ∧ Below w.heap.size w w' := by
  have hu25 := Try.underlying25
  have HR0_5 := Aside0.mk hr0_5
  have HC0_5 := Aside0.mk hc0_5
  clear hr0_5 hc0_5
  have HR1_5 := Aside0.mk hr1_5
  have HC1_5 := Aside0.mk hc1_5
  clear hr1_5 hc1_5
  have HB := Aside0.mk (Below.refl w.heap.size w)
  have H : (if a0_2 = a1_2 then (if a0_3 = a1_3 then (if a0_4 = a1_4 then ((bytes_Equal.f l0_5 l1_5).bind fun t103 => (some t103)) else (some false)) else (some false)) else (some false)) = some r := h
  clear h
  by_cases c3 : a0_2 = a1_2
  · rw [if_pos c3] at H
    have c3b0 : (a0_2 == a1_2) = true := beq_iff_eq.mpr c3
    have c3b1 : (a0_2 != a1_2) = false := bne_eq_false_iff_eq.mpr c3
    clear c3
    by_cases c4 : a0_3 = a1_3
    · rw [if_pos c4] at H
      have c4b0 : (a0_3 == a1_3) = true := beq_iff_eq.mpr c4
      have c4b1 : (a0_3 != a1_3) = false := bne_eq_false_iff_eq.mpr c4
      clear c4
      by_cases c5 : a0_4 = a1_4
      · rw [if_pos c5] at H
        have c5b0 : (a0_4 == a1_4) = true := beq_iff_eq.mpr c5
        have c5b1 : (a0_4 != a1_4) = false := bne_eq_false_iff_eq.mpr c5
        clear c5
        replace H := Option.bind_eq_some_iff.mp H
        obtain ⟨t103, A60, H⟩ := H
        replace H : (some t103) = some r := H
        have A6 := Aside0.mk A60
        clear A60
        obtain rfl := Option.some.inj H
        go_enter Try.func35, Try.ntmps35
        go_wp2_with (first | ((with_reducible refine gate_dst (N := 2) rfl ?_); refine box_event ?hg (N := 2) ?hd (cs := #[.int .i64 a0_0, .int .i64 a0_1, .int .i64 a0_2, .int .i64 a0_3, .int .u32 a0_4, .slice A0_5 l0_5.length c0_5]) (t := 25) ?hr ?_; (case hd => rfl); (case hg => rfl); (case hr => first | (go_simp; done) | (go_simp; rfl)); intro gb101 hg w7 hbox hb; have n0_ := Aside0.mk (below_step (by repeat (first | (with_reducible first | exact HB.out | apply below_alloc | apply pw_below_drewN | apply below_drew1) | exact HB.out)) hb); have n1_ := Aside0.mk (hbox); have n2_ := Aside0.mk ((by rw [hg]; exact (below_size (by repeat (first | (with_reducible first | exact HB.out | apply below_alloc | apply pw_below_drewN | apply below_drew1) | exact HB.out))) : w.heap.size ≤ gb101)); have n3_ := Aside0.mk ((by rw [hg]; exact (below_size (by repeat (first | (with_reducible first | exact HB.out | apply below_alloc | apply pw_below_drewN | apply below_drew1) | exact HB.out))) : w.heap.size ≤ gb101)); clear HB; have HB := n0_; have BK101 := n1_; have GW101 := n2_; have GE101 := n3_; clear n0_ n1_ n2_ n3_; clear hb hbox hg) | ((with_reducible refine gate_dst (N := 3) rfl ?_); refine box_event ?hg (N := 3) ?hd (cs := #[.int .i64 a1_0, .int .i64 a1_1, .int .i64 a1_2, .int .i64 a1_3, .int .u32 a1_4, .slice A1_5 l1_5.length c1_5]) (t := 25) ?hr ?_; (case hd => rfl); (case hg => rfl); (case hr => first | (go_simp; done) | (go_simp; rfl)); intro gb102 hg w8 hbox hb; have n0_ := Aside0.mk (blk_below (g := gb101) (o := .cells #[.int .i64 a0_0, .int .i64 a0_1, .int .i64 a0_2, .int .i64 a0_3, .int .u32 a0_4, .slice A0_5 l0_5.length c0_5] 25 (0, 0)) (by (with_reducible repeat (first | refine blk_drewN ?_ _ | refine blk_drew ?_ | refine blk_alloc ?_ _)); exact BK101.out) hb); have n1_ := Aside0.mk (below_step (by repeat (first | (with_reducible first | exact HB.out | apply below_alloc | apply pw_below_drewN | apply below_drew1 | refine below_set ?_ GE101.out) | exact HB.out)) hb); have n2_ := Aside0.mk (hbox); have n3_ := Aside0.mk ((by rw [hg]; exact (below_size (by repeat (first | (with_reducible first | exact HB.out | apply below_alloc | apply pw_below_drewN | apply below_drew1 | refine below_set ?_ GE101.out) | exact HB.out))) : w.heap.size ≤ gb102)); have n4_ := Aside0.mk ((by rw [hg]; exact (below_size (by repeat (first | (with_reducible first | exact HB.out | apply below_alloc | apply pw_below_drewN | apply below_drew1 | refine below_set ?_ GE101.out) | exact HB.out))) : w.heap.size ≤ gb102)); have n5_ := Aside0.mk ((by rw [hg]; exact Nat.ne_of_lt (blk_lt (g := gb101) (o := .cells #[.int .i64 a0_0, .int .i64 a0_1, .int .i64 a0_2, .int .i64 a0_3, .int .u32 a0_4, .slice A0_5 l0_5.length c0_5] 25 (0, 0)) (by (with_reducible repeat (first | refine blk_drewN ?_ _ | refine blk_drew ?_ | refine blk_alloc ?_ _)); exact BK101.out)) : gb101 ≠ gb102)); have n6_ := Aside0.mk ((by rw [hg]; exact Nat.ne_of_gt (blk_lt (g := gb101) (o := .cells #[.int .i64 a0_0, .int .i64 a0_1, .int .i64 a0_2, .int .i64 a0_3, .int .u32 a0_4, .slice A0_5 l0_5.length c0_5] 25 (0, 0)) (by (with_reducible repeat (first | refine blk_drewN ?_ _ | refine blk_drew ?_ | refine blk_alloc ?_ _)); exact BK101.out)) : gb102 ≠ gb101)); clear BK101; clear HB; have BK101 := n0_; have HB := n1_; have BK102 := n2_; have GW102 := n3_; have GE102 := n4_; have NB101_102 := n5_; have NB102_101 := n6_; clear n0_ n1_ n2_ n3_ n4_ n5_ n6_; clear hb hbox hg; have hnb9 := NB101_102.out; have hnc9 := NB102_101.out; have hcz10_0 : w8.cell? ⟨gb101, 0, none⟩ = some (.int .i64 a0_0) := (blk_cell BK101.out 0).trans rfl; have hcz10_1 : w8.cell? ⟨gb101, 1, none⟩ = some (.int .i64 a0_1) := (blk_cell BK101.out 1).trans rfl; have hcz10_2 : w8.cell? ⟨gb101, 2, none⟩ = some (.int .i64 a0_2) := (blk_cell BK101.out 2).trans rfl; have hcz10_3 : w8.cell? ⟨gb101, 3, none⟩ = some (.int .i64 a0_3) := (blk_cell BK101.out 3).trans rfl; have hcz10_4 : w8.cell? ⟨gb101, 4, none⟩ = some (.int .u32 a0_4) := (blk_cell BK101.out 4).trans rfl; have hcz10_5 : w8.cell? ⟨gb101, 5, none⟩ = some (.slice A0_5 l0_5.length c0_5) := (blk_cell BK101.out 5).trans rfl; have hfz10_0 := blk_frozen BK101.out 0; have hfz10_1 := blk_frozen BK101.out 1; have hfz10_2 := blk_frozen BK101.out 2; have hfz10_3 := blk_frozen BK101.out 3; have hfz10_4 := blk_frozen BK101.out 4; have hfz10_5 := blk_frozen BK101.out 5; have hcz11_0 : w8.cell? ⟨gb102, 0, none⟩ = some (.int .i64 a1_0) := (blk_cell BK102.out 0).trans rfl; have hcz11_1 : w8.cell? ⟨gb102, 1, none⟩ = some (.int .i64 a1_1) := (blk_cell BK102.out 1).trans rfl; have hcz11_2 : w8.cell? ⟨gb102, 2, none⟩ = some (.int .i64 a1_2) := (blk_cell BK102.out 2).trans rfl; have hcz11_3 : w8.cell? ⟨gb102, 3, none⟩ = some (.int .i64 a1_3) := (blk_cell BK102.out 3).trans rfl; have hcz11_4 : w8.cell? ⟨gb102, 4, none⟩ = some (.int .u32 a1_4) := (blk_cell BK102.out 4).trans rfl; have hcz11_5 : w8.cell? ⟨gb102, 5, none⟩ = some (.slice A1_5 l1_5.length c1_5) := (blk_cell BK102.out 5).trans rfl; have hfz11_0 := blk_frozen BK102.out 0; have hfz11_1 := blk_frozen BK102.out 1; have hfz11_2 := blk_frozen BK102.out 2; have hfz11_3 := blk_frozen BK102.out 3; have hfz11_4 := blk_frozen BK102.out 4; have hfz11_5 := blk_frozen BK102.out 5) | (go_at_call 48; (with_reducible refine (bytes_Equal.calls _ _ l0_5 _ _ l1_5 t103 _ ?side1 ?side2 ?side3 ?side4 A6.out).mono ?_); (case side1 => repeat (first | exact (Kd.C_below HR0_5.out HB.out) | (with_reducible refine Kd.C_alloc ?_ _) | (with_reducible refine Kd.C_drewN ?_ _) | (with_reducible refine Kd.C_drew ?_))); (case side2 => exact HC0_5.out); (case side3 => repeat (first | exact (Kd.C_below HR1_5.out HB.out) | (with_reducible refine Kd.C_alloc ?_ _) | (with_reducible refine Kd.C_drewN ?_ _) | (with_reducible refine Kd.C_drew ?_))); (case side4 => exact HC1_5.out); rintro e w' ⟨rfl, ⟨nd, rfl⟩⟩))
        go_ret
        exact ⟨by first | rfl | (simp [errW_none, errW_some] <;> rfl) | (simp [*, errW_none, errW_some] <;> rfl), by repeat (first | (with_reducible first | exact HB.out | apply below_alloc | apply pw_below_drewN | apply below_drew1 | refine below_set ?_ GE101.out | refine below_set ?_ GE102.out) | exact HB.out)⟩
      · rw [if_neg c5] at H
        have c5b0 : (a0_4 == a1_4) = false := beq_eq_false_iff_ne.mpr c5
        have c5b1 : (a0_4 != a1_4) = true := bne_iff_ne.mpr c5
        obtain rfl := Option.some.inj H
        go_enter Try.func35, Try.ntmps35
        go_wp2_with (first | ((with_reducible refine gate_dst (N := 2) rfl ?_); refine box_event ?hg (N := 2) ?hd (cs := #[.int .i64 a0_0, .int .i64 a0_1, .int .i64 a0_2, .int .i64 a0_3, .int .u32 a0_4, .slice A0_5 l0_5.length c0_5]) (t := 25) ?hr ?_; (case hd => rfl); (case hg => rfl); (case hr => first | (go_simp; done) | (go_simp; rfl)); intro gb101 hg w12 hbox hb; have n0_ := Aside0.mk (below_step (by repeat (first | (with_reducible first | exact HB.out | apply below_alloc | apply pw_below_drewN | apply below_drew1) | exact HB.out)) hb); have n1_ := Aside0.mk (hbox); have n2_ := Aside0.mk ((by rw [hg]; exact (below_size (by repeat (first | (with_reducible first | exact HB.out | apply below_alloc | apply pw_below_drewN | apply below_drew1) | exact HB.out))) : w.heap.size ≤ gb101)); have n3_ := Aside0.mk ((by rw [hg]; exact (below_size (by repeat (first | (with_reducible first | exact HB.out | apply below_alloc | apply pw_below_drewN | apply below_drew1) | exact HB.out))) : w.heap.size ≤ gb101)); clear HB; have HB := n0_; have BK101 := n1_; have GW101 := n2_; have GE101 := n3_; clear n0_ n1_ n2_ n3_; clear hb hbox hg) | ((with_reducible refine gate_dst (N := 3) rfl ?_); refine box_event ?hg (N := 3) ?hd (cs := #[.int .i64 a1_0, .int .i64 a1_1, .int .i64 a1_2, .int .i64 a1_3, .int .u32 a1_4, .slice A1_5 l1_5.length c1_5]) (t := 25) ?hr ?_; (case hd => rfl); (case hg => rfl); (case hr => first | (go_simp; done) | (go_simp; rfl)); intro gb102 hg w13 hbox hb; have n0_ := Aside0.mk (blk_below (g := gb101) (o := .cells #[.int .i64 a0_0, .int .i64 a0_1, .int .i64 a0_2, .int .i64 a0_3, .int .u32 a0_4, .slice A0_5 l0_5.length c0_5] 25 (0, 0)) (by (with_reducible repeat (first | refine blk_drewN ?_ _ | refine blk_drew ?_ | refine blk_alloc ?_ _)); exact BK101.out) hb); have n1_ := Aside0.mk (below_step (by repeat (first | (with_reducible first | exact HB.out | apply below_alloc | apply pw_below_drewN | apply below_drew1 | refine below_set ?_ GE101.out) | exact HB.out)) hb); have n2_ := Aside0.mk (hbox); have n3_ := Aside0.mk ((by rw [hg]; exact (below_size (by repeat (first | (with_reducible first | exact HB.out | apply below_alloc | apply pw_below_drewN | apply below_drew1 | refine below_set ?_ GE101.out) | exact HB.out))) : w.heap.size ≤ gb102)); have n4_ := Aside0.mk ((by rw [hg]; exact (below_size (by repeat (first | (with_reducible first | exact HB.out | apply below_alloc | apply pw_below_drewN | apply below_drew1 | refine below_set ?_ GE101.out) | exact HB.out))) : w.heap.size ≤ gb102)); have n5_ := Aside0.mk ((by rw [hg]; exact Nat.ne_of_lt (blk_lt (g := gb101) (o := .cells #[.int .i64 a0_0, .int .i64 a0_1, .int .i64 a0_2, .int .i64 a0_3, .int .u32 a0_4, .slice A0_5 l0_5.length c0_5] 25 (0, 0)) (by (with_reducible repeat (first | refine blk_drewN ?_ _ | refine blk_drew ?_ | refine blk_alloc ?_ _)); exact BK101.out)) : gb101 ≠ gb102)); have n6_ := Aside0.mk ((by rw [hg]; exact Nat.ne_of_gt (blk_lt (g := gb101) (o := .cells #[.int .i64 a0_0, .int .i64 a0_1, .int .i64 a0_2, .int .i64 a0_3, .int .u32 a0_4, .slice A0_5 l0_5.length c0_5] 25 (0, 0)) (by (with_reducible repeat (first | refine blk_drewN ?_ _ | refine blk_drew ?_ | refine blk_alloc ?_ _)); exact BK101.out)) : gb102 ≠ gb101)); clear BK101; clear HB; have BK101 := n0_; have HB := n1_; have BK102 := n2_; have GW102 := n3_; have GE102 := n4_; have NB101_102 := n5_; have NB102_101 := n6_; clear n0_ n1_ n2_ n3_ n4_ n5_ n6_; clear hb hbox hg; have hnb14 := NB101_102.out; have hnc14 := NB102_101.out; have hcz15_0 : w13.cell? ⟨gb101, 0, none⟩ = some (.int .i64 a0_0) := (blk_cell BK101.out 0).trans rfl; have hcz15_1 : w13.cell? ⟨gb101, 1, none⟩ = some (.int .i64 a0_1) := (blk_cell BK101.out 1).trans rfl; have hcz15_2 : w13.cell? ⟨gb101, 2, none⟩ = some (.int .i64 a0_2) := (blk_cell BK101.out 2).trans rfl; have hcz15_3 : w13.cell? ⟨gb101, 3, none⟩ = some (.int .i64 a0_3) := (blk_cell BK101.out 3).trans rfl; have hcz15_4 : w13.cell? ⟨gb101, 4, none⟩ = some (.int .u32 a0_4) := (blk_cell BK101.out 4).trans rfl; have hcz15_5 : w13.cell? ⟨gb101, 5, none⟩ = some (.slice A0_5 l0_5.length c0_5) := (blk_cell BK101.out 5).trans rfl; have hfz15_0 := blk_frozen BK101.out 0; have hfz15_1 := blk_frozen BK101.out 1; have hfz15_2 := blk_frozen BK101.out 2; have hfz15_3 := blk_frozen BK101.out 3; have hfz15_4 := blk_frozen BK101.out 4; have hfz15_5 := blk_frozen BK101.out 5; have hcz16_0 : w13.cell? ⟨gb102, 0, none⟩ = some (.int .i64 a1_0) := (blk_cell BK102.out 0).trans rfl; have hcz16_1 : w13.cell? ⟨gb102, 1, none⟩ = some (.int .i64 a1_1) := (blk_cell BK102.out 1).trans rfl; have hcz16_2 : w13.cell? ⟨gb102, 2, none⟩ = some (.int .i64 a1_2) := (blk_cell BK102.out 2).trans rfl; have hcz16_3 : w13.cell? ⟨gb102, 3, none⟩ = some (.int .i64 a1_3) := (blk_cell BK102.out 3).trans rfl; have hcz16_4 : w13.cell? ⟨gb102, 4, none⟩ = some (.int .u32 a1_4) := (blk_cell BK102.out 4).trans rfl; have hcz16_5 : w13.cell? ⟨gb102, 5, none⟩ = some (.slice A1_5 l1_5.length c1_5) := (blk_cell BK102.out 5).trans rfl; have hfz16_0 := blk_frozen BK102.out 0; have hfz16_1 := blk_frozen BK102.out 1; have hfz16_2 := blk_frozen BK102.out 2; have hfz16_3 := blk_frozen BK102.out 3; have hfz16_4 := blk_frozen BK102.out 4; have hfz16_5 := blk_frozen BK102.out 5))
        go_ret
        exact ⟨by first | rfl | (simp [errW_none, errW_some] <;> rfl) | (simp [*, errW_none, errW_some] <;> rfl), by repeat (first | (with_reducible first | exact HB.out | apply below_alloc | apply pw_below_drewN | apply below_drew1 | refine below_set ?_ GE101.out | refine below_set ?_ GE102.out) | exact HB.out)⟩
    · rw [if_neg c4] at H
      have c4b0 : (a0_3 == a1_3) = false := beq_eq_false_iff_ne.mpr c4
      have c4b1 : (a0_3 != a1_3) = true := bne_iff_ne.mpr c4
      obtain rfl := Option.some.inj H
      go_enter Try.func35, Try.ntmps35
      go_wp2_with (first | ((with_reducible refine gate_dst (N := 2) rfl ?_); refine box_event ?hg (N := 2) ?hd (cs := #[.int .i64 a0_0, .int .i64 a0_1, .int .i64 a0_2, .int .i64 a0_3, .int .u32 a0_4, .slice A0_5 l0_5.length c0_5]) (t := 25) ?hr ?_; (case hd => rfl); (case hg => rfl); (case hr => first | (go_simp; done) | (go_simp; rfl)); intro gb101 hg w17 hbox hb; have n0_ := Aside0.mk (below_step (by repeat (first | (with_reducible first | exact HB.out | apply below_alloc | apply pw_below_drewN | apply below_drew1) | exact HB.out)) hb); have n1_ := Aside0.mk (hbox); have n2_ := Aside0.mk ((by rw [hg]; exact (below_size (by repeat (first | (with_reducible first | exact HB.out | apply below_alloc | apply pw_below_drewN | apply below_drew1) | exact HB.out))) : w.heap.size ≤ gb101)); have n3_ := Aside0.mk ((by rw [hg]; exact (below_size (by repeat (first | (with_reducible first | exact HB.out | apply below_alloc | apply pw_below_drewN | apply below_drew1) | exact HB.out))) : w.heap.size ≤ gb101)); clear HB; have HB := n0_; have BK101 := n1_; have GW101 := n2_; have GE101 := n3_; clear n0_ n1_ n2_ n3_; clear hb hbox hg) | ((with_reducible refine gate_dst (N := 3) rfl ?_); refine box_event ?hg (N := 3) ?hd (cs := #[.int .i64 a1_0, .int .i64 a1_1, .int .i64 a1_2, .int .i64 a1_3, .int .u32 a1_4, .slice A1_5 l1_5.length c1_5]) (t := 25) ?hr ?_; (case hd => rfl); (case hg => rfl); (case hr => first | (go_simp; done) | (go_simp; rfl)); intro gb102 hg w18 hbox hb; have n0_ := Aside0.mk (blk_below (g := gb101) (o := .cells #[.int .i64 a0_0, .int .i64 a0_1, .int .i64 a0_2, .int .i64 a0_3, .int .u32 a0_4, .slice A0_5 l0_5.length c0_5] 25 (0, 0)) (by (with_reducible repeat (first | refine blk_drewN ?_ _ | refine blk_drew ?_ | refine blk_alloc ?_ _)); exact BK101.out) hb); have n1_ := Aside0.mk (below_step (by repeat (first | (with_reducible first | exact HB.out | apply below_alloc | apply pw_below_drewN | apply below_drew1 | refine below_set ?_ GE101.out) | exact HB.out)) hb); have n2_ := Aside0.mk (hbox); have n3_ := Aside0.mk ((by rw [hg]; exact (below_size (by repeat (first | (with_reducible first | exact HB.out | apply below_alloc | apply pw_below_drewN | apply below_drew1 | refine below_set ?_ GE101.out) | exact HB.out))) : w.heap.size ≤ gb102)); have n4_ := Aside0.mk ((by rw [hg]; exact (below_size (by repeat (first | (with_reducible first | exact HB.out | apply below_alloc | apply pw_below_drewN | apply below_drew1 | refine below_set ?_ GE101.out) | exact HB.out))) : w.heap.size ≤ gb102)); have n5_ := Aside0.mk ((by rw [hg]; exact Nat.ne_of_lt (blk_lt (g := gb101) (o := .cells #[.int .i64 a0_0, .int .i64 a0_1, .int .i64 a0_2, .int .i64 a0_3, .int .u32 a0_4, .slice A0_5 l0_5.length c0_5] 25 (0, 0)) (by (with_reducible repeat (first | refine blk_drewN ?_ _ | refine blk_drew ?_ | refine blk_alloc ?_ _)); exact BK101.out)) : gb101 ≠ gb102)); have n6_ := Aside0.mk ((by rw [hg]; exact Nat.ne_of_gt (blk_lt (g := gb101) (o := .cells #[.int .i64 a0_0, .int .i64 a0_1, .int .i64 a0_2, .int .i64 a0_3, .int .u32 a0_4, .slice A0_5 l0_5.length c0_5] 25 (0, 0)) (by (with_reducible repeat (first | refine blk_drewN ?_ _ | refine blk_drew ?_ | refine blk_alloc ?_ _)); exact BK101.out)) : gb102 ≠ gb101)); clear BK101; clear HB; have BK101 := n0_; have HB := n1_; have BK102 := n2_; have GW102 := n3_; have GE102 := n4_; have NB101_102 := n5_; have NB102_101 := n6_; clear n0_ n1_ n2_ n3_ n4_ n5_ n6_; clear hb hbox hg; have hnb19 := NB101_102.out; have hnc19 := NB102_101.out; have hcz20_0 : w18.cell? ⟨gb101, 0, none⟩ = some (.int .i64 a0_0) := (blk_cell BK101.out 0).trans rfl; have hcz20_1 : w18.cell? ⟨gb101, 1, none⟩ = some (.int .i64 a0_1) := (blk_cell BK101.out 1).trans rfl; have hcz20_2 : w18.cell? ⟨gb101, 2, none⟩ = some (.int .i64 a0_2) := (blk_cell BK101.out 2).trans rfl; have hcz20_3 : w18.cell? ⟨gb101, 3, none⟩ = some (.int .i64 a0_3) := (blk_cell BK101.out 3).trans rfl; have hcz20_4 : w18.cell? ⟨gb101, 4, none⟩ = some (.int .u32 a0_4) := (blk_cell BK101.out 4).trans rfl; have hcz20_5 : w18.cell? ⟨gb101, 5, none⟩ = some (.slice A0_5 l0_5.length c0_5) := (blk_cell BK101.out 5).trans rfl; have hfz20_0 := blk_frozen BK101.out 0; have hfz20_1 := blk_frozen BK101.out 1; have hfz20_2 := blk_frozen BK101.out 2; have hfz20_3 := blk_frozen BK101.out 3; have hfz20_4 := blk_frozen BK101.out 4; have hfz20_5 := blk_frozen BK101.out 5; have hcz21_0 : w18.cell? ⟨gb102, 0, none⟩ = some (.int .i64 a1_0) := (blk_cell BK102.out 0).trans rfl; have hcz21_1 : w18.cell? ⟨gb102, 1, none⟩ = some (.int .i64 a1_1) := (blk_cell BK102.out 1).trans rfl; have hcz21_2 : w18.cell? ⟨gb102, 2, none⟩ = some (.int .i64 a1_2) := (blk_cell BK102.out 2).trans rfl; have hcz21_3 : w18.cell? ⟨gb102, 3, none⟩ = some (.int .i64 a1_3) := (blk_cell BK102.out 3).trans rfl; have hcz21_4 : w18.cell? ⟨gb102, 4, none⟩ = some (.int .u32 a1_4) := (blk_cell BK102.out 4).trans rfl; have hcz21_5 : w18.cell? ⟨gb102, 5, none⟩ = some (.slice A1_5 l1_5.length c1_5) := (blk_cell BK102.out 5).trans rfl; have hfz21_0 := blk_frozen BK102.out 0; have hfz21_1 := blk_frozen BK102.out 1; have hfz21_2 := blk_frozen BK102.out 2; have hfz21_3 := blk_frozen BK102.out 3; have hfz21_4 := blk_frozen BK102.out 4; have hfz21_5 := blk_frozen BK102.out 5))
      go_ret
      exact ⟨by first | rfl | (simp [errW_none, errW_some] <;> rfl) | (simp [*, errW_none, errW_some] <;> rfl), by repeat (first | (with_reducible first | exact HB.out | apply below_alloc | apply pw_below_drewN | apply below_drew1 | refine below_set ?_ GE101.out | refine below_set ?_ GE102.out) | exact HB.out)⟩
  · rw [if_neg c3] at H
    have c3b0 : (a0_2 == a1_2) = false := beq_eq_false_iff_ne.mpr c3
    have c3b1 : (a0_2 != a1_2) = true := bne_iff_ne.mpr c3
    obtain rfl := Option.some.inj H
    go_enter Try.func35, Try.ntmps35
    go_wp2_with (first | ((with_reducible refine gate_dst (N := 2) rfl ?_); refine box_event ?hg (N := 2) ?hd (cs := #[.int .i64 a0_0, .int .i64 a0_1, .int .i64 a0_2, .int .i64 a0_3, .int .u32 a0_4, .slice A0_5 l0_5.length c0_5]) (t := 25) ?hr ?_; (case hd => rfl); (case hg => rfl); (case hr => first | (go_simp; done) | (go_simp; rfl)); intro gb101 hg w22 hbox hb; have n0_ := Aside0.mk (below_step (by repeat (first | (with_reducible first | exact HB.out | apply below_alloc | apply pw_below_drewN | apply below_drew1) | exact HB.out)) hb); have n1_ := Aside0.mk (hbox); have n2_ := Aside0.mk ((by rw [hg]; exact (below_size (by repeat (first | (with_reducible first | exact HB.out | apply below_alloc | apply pw_below_drewN | apply below_drew1) | exact HB.out))) : w.heap.size ≤ gb101)); have n3_ := Aside0.mk ((by rw [hg]; exact (below_size (by repeat (first | (with_reducible first | exact HB.out | apply below_alloc | apply pw_below_drewN | apply below_drew1) | exact HB.out))) : w.heap.size ≤ gb101)); clear HB; have HB := n0_; have BK101 := n1_; have GW101 := n2_; have GE101 := n3_; clear n0_ n1_ n2_ n3_; clear hb hbox hg) | ((with_reducible refine gate_dst (N := 3) rfl ?_); refine box_event ?hg (N := 3) ?hd (cs := #[.int .i64 a1_0, .int .i64 a1_1, .int .i64 a1_2, .int .i64 a1_3, .int .u32 a1_4, .slice A1_5 l1_5.length c1_5]) (t := 25) ?hr ?_; (case hd => rfl); (case hg => rfl); (case hr => first | (go_simp; done) | (go_simp; rfl)); intro gb102 hg w23 hbox hb; have n0_ := Aside0.mk (blk_below (g := gb101) (o := .cells #[.int .i64 a0_0, .int .i64 a0_1, .int .i64 a0_2, .int .i64 a0_3, .int .u32 a0_4, .slice A0_5 l0_5.length c0_5] 25 (0, 0)) (by (with_reducible repeat (first | refine blk_drewN ?_ _ | refine blk_drew ?_ | refine blk_alloc ?_ _)); exact BK101.out) hb); have n1_ := Aside0.mk (below_step (by repeat (first | (with_reducible first | exact HB.out | apply below_alloc | apply pw_below_drewN | apply below_drew1 | refine below_set ?_ GE101.out) | exact HB.out)) hb); have n2_ := Aside0.mk (hbox); have n3_ := Aside0.mk ((by rw [hg]; exact (below_size (by repeat (first | (with_reducible first | exact HB.out | apply below_alloc | apply pw_below_drewN | apply below_drew1 | refine below_set ?_ GE101.out) | exact HB.out))) : w.heap.size ≤ gb102)); have n4_ := Aside0.mk ((by rw [hg]; exact (below_size (by repeat (first | (with_reducible first | exact HB.out | apply below_alloc | apply pw_below_drewN | apply below_drew1 | refine below_set ?_ GE101.out) | exact HB.out))) : w.heap.size ≤ gb102)); have n5_ := Aside0.mk ((by rw [hg]; exact Nat.ne_of_lt (blk_lt (g := gb101) (o := .cells #[.int .i64 a0_0, .int .i64 a0_1, .int .i64 a0_2, .int .i64 a0_3, .int .u32 a0_4, .slice A0_5 l0_5.length c0_5] 25 (0, 0)) (by (with_reducible repeat (first | refine blk_drewN ?_ _ | refine blk_drew ?_ | refine blk_alloc ?_ _)); exact BK101.out)) : gb101 ≠ gb102)); have n6_ := Aside0.mk ((by rw [hg]; exact Nat.ne_of_gt (blk_lt (g := gb101) (o := .cells #[.int .i64 a0_0, .int .i64 a0_1, .int .i64 a0_2, .int .i64 a0_3, .int .u32 a0_4, .slice A0_5 l0_5.length c0_5] 25 (0, 0)) (by (with_reducible repeat (first | refine blk_drewN ?_ _ | refine blk_drew ?_ | refine blk_alloc ?_ _)); exact BK101.out)) : gb102 ≠ gb101)); clear BK101; clear HB; have BK101 := n0_; have HB := n1_; have BK102 := n2_; have GW102 := n3_; have GE102 := n4_; have NB101_102 := n5_; have NB102_101 := n6_; clear n0_ n1_ n2_ n3_ n4_ n5_ n6_; clear hb hbox hg; have hnb24 := NB101_102.out; have hnc24 := NB102_101.out; have hcz25_0 : w23.cell? ⟨gb101, 0, none⟩ = some (.int .i64 a0_0) := (blk_cell BK101.out 0).trans rfl; have hcz25_1 : w23.cell? ⟨gb101, 1, none⟩ = some (.int .i64 a0_1) := (blk_cell BK101.out 1).trans rfl; have hcz25_2 : w23.cell? ⟨gb101, 2, none⟩ = some (.int .i64 a0_2) := (blk_cell BK101.out 2).trans rfl; have hcz25_3 : w23.cell? ⟨gb101, 3, none⟩ = some (.int .i64 a0_3) := (blk_cell BK101.out 3).trans rfl; have hcz25_4 : w23.cell? ⟨gb101, 4, none⟩ = some (.int .u32 a0_4) := (blk_cell BK101.out 4).trans rfl; have hcz25_5 : w23.cell? ⟨gb101, 5, none⟩ = some (.slice A0_5 l0_5.length c0_5) := (blk_cell BK101.out 5).trans rfl; have hfz25_0 := blk_frozen BK101.out 0; have hfz25_1 := blk_frozen BK101.out 1; have hfz25_2 := blk_frozen BK101.out 2; have hfz25_3 := blk_frozen BK101.out 3; have hfz25_4 := blk_frozen BK101.out 4; have hfz25_5 := blk_frozen BK101.out 5; have hcz26_0 : w23.cell? ⟨gb102, 0, none⟩ = some (.int .i64 a1_0) := (blk_cell BK102.out 0).trans rfl; have hcz26_1 : w23.cell? ⟨gb102, 1, none⟩ = some (.int .i64 a1_1) := (blk_cell BK102.out 1).trans rfl; have hcz26_2 : w23.cell? ⟨gb102, 2, none⟩ = some (.int .i64 a1_2) := (blk_cell BK102.out 2).trans rfl; have hcz26_3 : w23.cell? ⟨gb102, 3, none⟩ = some (.int .i64 a1_3) := (blk_cell BK102.out 3).trans rfl; have hcz26_4 : w23.cell? ⟨gb102, 4, none⟩ = some (.int .u32 a1_4) := (blk_cell BK102.out 4).trans rfl; have hcz26_5 : w23.cell? ⟨gb102, 5, none⟩ = some (.slice A1_5 l1_5.length c1_5) := (blk_cell BK102.out 5).trans rfl; have hfz26_0 := blk_frozen BK102.out 0; have hfz26_1 := blk_frozen BK102.out 1; have hfz26_2 := blk_frozen BK102.out 2; have hfz26_3 := blk_frozen BK102.out 3; have hfz26_4 := blk_frozen BK102.out 4; have hfz26_5 := blk_frozen BK102.out 5))
    go_ret
    exact ⟨by first | rfl | (simp [errW_none, errW_some] <;> rfl) | (simp [*, errW_none, errW_some] <;> rfl), by repeat (first | (with_reducible first | exact HB.out | apply below_alloc | apply pw_below_drewN | apply below_drew1 | refine below_set ?_ GE101.out | refine below_set ?_ GE102.out) | exact HB.out)⟩

end Go.Proofs.Yticpcjjgdkbcjaa.G
end

section
-- Written by a program of this session (wip/tools/myprint.py), over the kit's print.
namespace Go.Proofs.Yticpcjjgdkbcjaa.G
open Go.RowKit Go.Proofs.YticpcjjgdkbcjaaW.PrintWords Go.Proofs.YticpcjjgdkbcjaaW.PrintLast Go.Proofs.YticpcjjgdkbcjaaW.PrintMore
attribute [local go_sem] max2_int min2_int max_two min_two max_three min_three max_four min_four   -- for this text's walks alone
set_option linter.unusedVariables false
set_option linter.unusedSimpArgs false

-- BY HAND

def tabArr (f : Nat → Int) : Array Value := ((List.range 256).map fun i => Value.int .u32 (f i)).toArray
theorem zero28 (w : World) : (zeroValue 71).run Try.prog w = .ok (.agg (tabArr fun _ => 0)) w := by kernel_rfl


def T (k i : Nat) : Int := if i < k then ((CrcM.tk 8 i : Nat) : Int) else 0
theorem tabArr_get (f : Nat → Int) (i : Nat) (h : i < 256) : (tabArr f)[i]? = some (.int .u32 (f i)) := by simp [tabArr, h]
theorem tabArr_size (f : Nat → Int) : (tabArr f).size = 256 := by simp [tabArr]
theorem tabArr_set (f : Nat → Int) (i : Nat) (v : Int) : (tabArr f).setIfInBounds i (.int .u32 v) = tabArr fun j => if j = i then v else f j := by
  apply Array.ext_getElem?
  intro j
  by_cases hj : j < 256
  · rw [tabArr_get _ _ hj, Array.getElem?_setIfInBounds]
    by_cases e : i = j
    · subst e; simp [tabArr_size, hj]
    · rw [if_neg e, tabArr_get _ _ hj, if_neg (fun h => e h.symm)]
  · rw [Array.getElem?_eq_none (by simp [tabArr_size]; omega), Array.getElem?_eq_none (by simp [tabArr_size]; omega)]
theorem T_zero : T 0 = fun _ => 0 := by funext i; simp [T]
theorem T_succ (k : Nat) : (fun j => if j = k then ((CrcM.tk 8 k : Nat) : Int) else T k j) = T (k + 1) := by
  funext j
  unfold T
  by_cases e : j = k
  · subst e; simp
  · rw [if_neg e]
    by_cases h : j < k
    · rw [if_pos h, if_pos (by omega)]
    · rw [if_neg h, if_neg (by omega)]

theorem step_eq (n : Nat) (h : n < 4294967296) :
    bits .xor .u32 ((n : Int) / 2) (bits .and .u32 3988292384 (-bits .and .u32 (n : Int) 1 % 4294967296)) = (CrcM.t1 n : Nat) := by
  rw [show (1 : Int) = ((1 : Nat) : Int) from rfl, u32_and_nat n 1 h (by decide), Nat.and_one_is_mod]
  rw [show (n : Int) / 2 = ((n / 2 : Nat) : Int) by omega]
  unfold CrcM.t1
  rcases Nat.mod_two_eq_zero_or_one n with e | e
  · rw [e, if_neg (by omega)]
    rw [show (-((0 : Nat) : Int)) % 4294967296 = ((0 : Nat) : Int) by decide, show (3988292384 : Int) = ((3988292384 : Nat) : Int) from rfl, u32_and_nat _ _ (by decide) (by decide), Nat.and_zero, u32_xor_nat _ _ (by omega) (by decide), Nat.xor_zero]
  · rw [e, if_pos rfl]
    rw [show (-((1 : Nat) : Int)) % 4294967296 = ((4294967295 : Nat) : Int) by decide, show (3988292384 : Int) = ((3988292384 : Nat) : Int) from rfl, u32_and_nat _ _ (by decide) (by decide), show 3988292384 &&& 4294967295 = 3988292384 by decide, u32_xor_nat _ _ (by omega) (by decide)]

theorem tk_step (j k : Nat) : CrcM.tk (j + 1) k = CrcM.t1 (CrcM.tk j k) := by rw [CrcM.tk_add]; rfl

theorem tabArr_one (f : Nat → Int) : (tabArr f).all (·.oneCell') = true := by
  rw [Array.all_eq_true_iff_forall_mem]
  intro v hv
  simp only [tabArr, List.mem_toArray, List.mem_map] at hv
  obtain ⟨i, _, rfl⟩ := hv
  rfl
theorem size28 : (Try.prog.info? 71).map (·.size) = some 256 := by kernel_rfl

set_option maxRecDepth 100000 in
set_option maxHeartbeats 400000 in
theorem table_any (w : World) : Calls Try.prog 56 #[] w fun e w' => e = .returned (.agg (tabArr (T 256))) ∧ Below w.heap.size w w' := by
  have hz := zero28
  go_enter Try.func56, Try.ntmps56
  go_wp2_with fail
  clear hz
  go_loopw [3] (fun i wr => ∃ k : Nat, k ≤ 256 ∧ i = .int .i64 k ∧ wr.heap[w.heap.size]? = some (.cells (tabArr (T k)) 71 (0, 0)) ∧ Below w.heap.size w wr) (fun i _ => 256 - (intOf i).toNat)
  case atStart => exact ⟨0, by omega, rfl, by rw [T_zero]; exact heap_alloc_new w _, (Below.refl _ _).alloc (Nat.le_refl _) _⟩
  case round =>
    obtain ⟨k, hk, rfl, hb, hB⟩ := hrel
    by_cases hlt : k < 256
    · have hc : wr.cell? ⟨w.heap.size, k, none⟩ = some (.int .u32 (T k k)) := by rw [cell_of_row wr _ _ _ _ _ hb, tabArr_get _ _ hlt]
      have hf : wr.frozen? ⟨w.heap.size, k, none⟩ = false := frozen_of_row wr _ _ _ _ hb
      have HB := Aside0.mk hb
      clear hb
      go_wp2_with fail
      go_loop [2, 8] (fun n i => ∃ j : Nat, j ≤ 8 ∧ i = .int .i64 j ∧ n = .int .u32 (CrcM.tk j k)) (fun _ i => 8 - (intOf i).toNat)
      case atStart => exact ⟨0, by omega, rfl, rfl⟩
      case round =>
        obtain ⟨j, hj, rfl, rfl⟩ := hrel
        by_cases hl : j < 8
        · go_wp2_with fail
          go_round
          case rel => exact ⟨j + 1, by omega, by go_num, by rw [step_eq _ (CrcM.tk_lt _ _ (by omega)), tk_step]⟩
          case measure => simp [intOf]; omega
        · obtain rfl : j = 8 := by omega
          go_wp2_with fail
          go_roundw
          case rel => exact ⟨k + 1, by omega, by go_num, by rw [heap_setCell_same _ _ _ _ _ _ HB.out, tabArr_set, T_succ], hB.setCell (Nat.le_refl _) _⟩
          case measure => simp [intOf]; omega
    · obtain rfl : k = 256 := by omega
      go_wp2_with (first | (with_reducible refine wpList_load_row rfl 71 _ rfl w.heap.size rfl 71 (tabArr (T 256)) (0, 0) _ hb Try.underlying71 rfl (by rw [tabArr_size]; exact size28) ?_) | (with_reducible refine wpList_store_row rfl 71 _ _ rfl w.heap.size (tabArr (T 256)) rfl rfl 71 (tabArr (T 256)) hb (by rw [tabArr_size]; exact size28) rfl (tabArr_one _) ?_))
      rw [setRow_self _ _ _ _ _ hb]
      refine bodyPost_ret (results_cell_row (P := Try.prog) (ty := 71) (p := 0) rfl _ wr w.heap.size 71 (tabArr (T 256)) (0, 0) _ rfl hb Try.underlying71 rfl (by rw [tabArr_size]; exact size28)) rfl ⟨rfl, hB⟩

def nats (l : List Int) : List Nat := l.map Int.toNat
instance (l : List Int) : Decidable (u8s l) := inferInstanceAs (Decidable (∀ x ∈ l, 0 ≤ x ∧ x < 256))
theorem u8s_nats {l : List Int} (h : u8s l) : CrcM.Bytes (nats l) := by
  intro c hc
  obtain ⟨x, hx, rfl⟩ := List.mem_map.1 hc
  have := h x hx
  omega
theorem run_take (s : Nat) (l : List Int) (k : Nat) (h : k < l.length) : CrcM.run s (nats (l.take (k + 1))) = CrcM.upd (CrcM.run s (nats (l.take k))) (rd l k).toNat := by
  rw [List.take_succ_eq_append_getElem h, nats, List.map_append]
  simp [nats, CrcM.run, rd, List.getD_eq_getElem?_getD, h]
theorem not_u32 (a : Nat) (h : a < 4294967296) : bits .xor .u32 IntKind.u32.max (a : Int) = ((a ^^^ CrcM.M : Nat) : Int) := by
  rw [show IntKind.u32.max = ((CrcM.M : Nat) : Int) from rfl, u32_xor_nat _ _ (by decide) h, Nat.xor_comm]

def crc_Add.f (a0 : Int) (l1 : List Int) : Option Int := if 0 ≤ a0 ∧ a0 < 4294967296 ∧ u8s l1 then some ((CrcM.add a0.toNat (nats l1) : Nat) : Int) else none
set_option maxRecDepth 100000 in
set_option maxHeartbeats 400000 in
theorem crc_Add.calls (a0 : Int) (A1 : Option Addr) (c1 : Nat) (l1 : List Int) (r : Int) (w : World) (hr1 : Kd.C (Kd.int .u8) w A1 l1.length l1) (hc1 : l1.length ≤ c1) (h : crc_Add.f a0 l1 = some r) :
    Calls Try.prog 54 #[.int .u32 a0, .slice A1 l1.length c1] w fun e w' => e = .returned (.int .u32 r) ∧ Below w.heap.size w w' := by
  have hz := zero28
  unfold crc_Add.f at h
  split at h
  · rename_i hh
    obtain ⟨h0, h1, hu⟩ := hh
    obtain ⟨a, rfl⟩ := Int.eq_ofNat_of_zero_le h0
    have ha : a < 4294967296 := by omega
    clear h0 h1
    have H := Aside0.mk (Option.some.inj h)
    have HU := Aside0.mk hu
    have HR := Aside0.mk hr1
    clear h hu hr1
    go_enter Try.func54, Try.ntmps54
    go_wp2_with (first | (go_at_call 56; refine (table_any _).mono ?_; rintro e w1 ⟨rfl, hB1⟩) | (with_reducible refine wpList_store_row rfl 71 _ _ rfl w1.heap.size (tabArr (T 256)) rfl rfl 71 (tabArr fun _ => 0) (heap_alloc_new w1 _) (by rw [tabArr_size]; exact size28) rfl (tabArr_one _) ?_))
    have hb : ((w1.alloc (.cells (tabArr fun _ => 0) 71)).setRow w1.heap.size (tabArr (T 256))).heap[w1.heap.size]? = some (.cells (tabArr (T 256)) 71 (0, 0)) := setRow_heap _ _ _ _ _ _ (heap_alloc_new w1 _)
    have hB : Below w.heap.size w ((w1.alloc (.cells (tabArr fun _ => 0) 71)).setRow w1.heap.size (tabArr (T 256))) := by
      refine (hB1.alloc hB1.size _).trans ⟨rfl, rfl, rfl, by simp, fun k hk => setRow_other _ _ _ _ (by have := hB1.size; omega)⟩
    generalize ((w1.alloc (.cells (tabArr fun _ => 0) 71)).setRow w1.heap.size (tabArr (T 256))) = w2 at hb hB ⊢
    clear hz hB1
    have HR2 := Aside0.mk (Kd.C_below HR.out hB)
    have HBl := Aside0.mk hb
    clear hb
    have hlen := Kd.C_max HR.out
    go_wp2_with fail
    go_loop [0, 13] (fun s i => ∃ k : Nat, k ≤ l1.length ∧ i = .int .i64 k ∧ s = .int .u32 (CrcM.run (a ^^^ CrcM.M) (nats (l1.take k)))) (fun _ i => l1.length - (intOf i).toNat)
    case atStart => exact ⟨0, Nat.zero_le _, rfl, by rw [not_u32 a ha]; simp [nats, CrcM.run]⟩
    case round =>
      obtain ⟨k, hk, rfl, rfl⟩ := hrel
      have hrun : CrcM.run (a ^^^ CrcM.M) (nats (l1.take k)) < 4294967296 := CrcM.run_lt _ (u8s_nats (fun x hx => HU.out x (List.mem_of_mem_take hx))) _ (Nat.xor_lt_two_pow (n := 32) ha CrcM.M_lt)
      by_cases hlt : k < l1.length
      · obtain ⟨ad, e, hcell⟩ := Kd.at_int HR2.out (k : Int) (by omega) (by omega)
        obtain rfl := e
        rw [Int.toNat_natCast] at hcell
        obtain ⟨hc0, hc1'⟩ := rd_u8 HU.out k hlt
        have hstep := Aside0.mk (run_take (a ^^^ CrcM.M) l1 k hlt)
        generalize CrcM.run (a ^^^ CrcM.M) (nats (l1.take k)) = s at *
        generalize hc : rd l1 k = c at *
        obtain ⟨c, rfl⟩ := Int.eq_ofNat_of_zero_le hc0
        have Hc := Aside0.mk hc
        clear hc
        obtain ⟨j, hj⟩ : ∃ j, j = (s % 256) ^^^ c := ⟨_, rfl⟩
        have hj256 : j < 256 := by rw [hj]; exact Nat.xor_lt_two_pow (n := 8) (by omega) (by omega)
        have hx : bits .xor .u8 ((s : Int) % 256) (c : Int) = (j : Int) := by
          rw [show (s : Int) % 256 = ((s % 256 : Nat) : Int) by omega, u8_xor_nat _ _ (by omega) (by omega), hj]
        obtain ⟨t, ht⟩ : ∃ t, t = CrcM.tk 8 j := ⟨_, rfl⟩
        have htlt : t < 4294967296 := by rw [ht]; exact CrcM.tk_lt _ _ (by omega)
        have hcc : w2.cell? ⟨w1.heap.size, j, none⟩ = some (.int .u32 (t : Int)) := by
          rw [cell_of_row w2 _ _ _ _ _ HBl.out, tabArr_get _ _ hj256, T, if_pos hj256, ht]
        have hnext : bits .xor .u32 (t : Int) ((s : Int) / 256) = (CrcM.upd s c : Nat) := by
          rw [show (s : Int) / 256 = ((s / 256 : Nat) : Int) by omega, u32_xor_nat _ _ htlt (by omega), ht, hj]
          unfold CrcM.upd
          have e := CrcM.xor_mod s c 8
          simp only [show (2 : Nat) ^ 8 = 256 from rfl, Nat.mod_eq_of_lt (show c < 256 by omega)] at e
          rw [e]
        have Hnext := Aside0.mk hnext
        clear hnext ht hj
        go_wp2_with fail
        go_round
        case rel => exact ⟨k + 1, by omega, by go_num, by rw [hstep.out, Int.toNat_natCast, Hnext.out]⟩
        case measure => simp [intOf]; omega
      · obtain rfl : k = l1.length := by omega
        rw [List.take_length] at hrun ⊢
        go_wp2_with fail
        go_ret
        refine ⟨?_, hB⟩
        rw [← H.out, Int.toNat_natCast, not_u32 _ hrun]
        rfl
  · cases h

end Go.Proofs.Yticpcjjgdkbcjaa.G
end

section
-- Written by a program of this session (wip/tools/myprint.py), over the kit's print.
namespace Go.Proofs.Yticpcjjgdkbcjaa.G
open Go.RowKit Go.Proofs.YticpcjjgdkbcjaaW.PrintWords Go.Proofs.YticpcjjgdkbcjaaW.PrintLast Go.Proofs.YticpcjjgdkbcjaaW.PrintMore
attribute [local go_sem] max2_int min2_int max_two min_two max_three min_three max_four min_four   -- for this text's walks alone
set_option linter.unusedVariables false
set_option linter.unusedSimpArgs false

-- BY HAND
-- IMPORT YticpcjjgdkbcjaaHeld
def inB (n a b : Int) : Bool := if n ≥ a then decide (n ≤ b) else false
def sameB (s t u : Int) (d : List Int) (s' t' u' : Int) (d' : List Int) : Bool := if s = s' then (if t = t' then (if u = u' then (strOfNums d).toList == (strOfNums d').toList else false) else false) else false
def prB (k e s t u : Int) (d : List Int) : Bool :=
  if k = 1 then inB e 0 1099511627776 && (inB t 1 1048576 && sameB s t u d 0 t u [])
  else if k = 2 then inB e 0 1099511627776 && (inB s 0 1048576 && (inB d.length 1 64 && sameB s t u d s 0 0 d))
  else if k = 3 then inB e 0 1099511627776 && (inB s 0 1048576 && sameB s t u d s 0 0 [])
  else if k = 4 then inB e 0 1099511627776 && (inB d.length 1 4096 && sameB s t u d 0 0 0 d)
  else false
def packet_right.f (a0_0 : Int) (a0_1 : Int) (a0_2 : Int) (a0_3 : Int) (a0_4 : Int) (l0_5 : List Int) : Option (Bool) := some (prB a0_0 a0_1 a0_2 a0_3 a0_4 l0_5)
theorem in_f (n a b : Int) (x : Bool) (h : inB n a b = x) : packet_in.f n a b = some x := by rw [← h]; unfold packet_in.f inB; split <;> rfl
theorem same_f (k e s t u : Int) (d : List Int) (k' e' s' t' u' : Int) (d' : List Int) : packet_same.f k e s t u d k' e' s' t' u' d' = some (sameB s t u d s' t' u' d') := by
  unfold packet_same.f sameB bytes_Equal.f
  simp only [Option.bind_some]
  split
  · split
    · split <;> rfl
    · rfl
  · rfl
theorem nil_b (w : World) : (Kd.int .u8).C w none ([] : List Int).length [] := HeldB.C (S := fun _ => True) (fun h0 => absurd h0 (by simp)) (by simp)
theorem set_p {w W : World} {b g T : Nat} {P Q : Array Value} (hP : W.heap[b]? = some (.cells P T (0, 0))) (hQ : W.heap[g]? = some (.cells Q T (0, 0))) (hB : Below w.heap.size w W) (hne : b ≠ g) (hg : w.heap.size ≤ g) (i : Nat) (x : Value) :
    (W.setCell ⟨g, i, none⟩ x).heap[b]? = some (.cells P T (0, 0)) ∧ (W.setCell ⟨g, i, none⟩ x).heap[g]? = some (.cells (Q.setIfInBounds i x) T (0, 0)) ∧ Below w.heap.size w (W.setCell ⟨g, i, none⟩ x) :=
  ⟨by rw [heap_setCell_other _ _ _ _ hne]; exact hP, heap_setCell_same _ _ _ _ _ _ hQ, hB.setCell hg _⟩
theorem below_via5 {w W W' : World} (h0 : Below w.heap.size w W) (h : Below W.heap.size W W') : Below w.heap.size w W' := h0.trans (h.mono h0.size)
theorem cells6r {W : World} {b T : Nat} {x y z u v r : Value} (h : W.heap[b]? = some (.cells #[x, y, z, u, v, r] T (0, 0))) :
    (W.cell? ⟨b, 0, none⟩ = some x ∧ W.cell? ⟨b, 1, none⟩ = some y ∧ W.cell? ⟨b, 2, none⟩ = some z ∧ W.cell? ⟨b, 3, none⟩ = some u ∧ W.cell? ⟨b, 4, none⟩ = some v ∧ W.cell? ⟨b, 5, none⟩ = some r) ∧
    W.frozen? ⟨b, 0, none⟩ = false ∧ W.frozen? ⟨b, 1, none⟩ = false ∧ W.frozen? ⟨b, 2, none⟩ = false ∧ W.frozen? ⟨b, 3, none⟩ = false ∧ W.frozen? ⟨b, 4, none⟩ = false ∧ W.frozen? ⟨b, 5, none⟩ = false :=
  ⟨⟨by rw [cell_of_row _ _ _ _ _ _ h]; rfl, by rw [cell_of_row _ _ _ _ _ _ h]; rfl, by rw [cell_of_row _ _ _ _ _ _ h]; rfl, by rw [cell_of_row _ _ _ _ _ _ h]; rfl, by rw [cell_of_row _ _ _ _ _ _ h]; rfl, by rw [cell_of_row _ _ _ _ _ _ h]; rfl⟩, frozen_of_row _ _ _ _ _ h, frozen_of_row _ _ _ _ _ h, frozen_of_row _ _ _ _ _ h, frozen_of_row _ _ _ _ _ h, frozen_of_row _ _ _ _ _ h, frozen_of_row _ _ _ _ _ h⟩
set_option maxRecDepth 100000 in
set_option maxHeartbeats 4000000 in
theorem packet_right.calls (a0_0 : Int) (a0_1 : Int) (a0_2 : Int) (a0_3 : Int) (a0_4 : Int) (A0_5 : Option Addr) (c0_5 : Nat) (l0_5 : List Int) (r : Bool) (w : World) (hr0_5 : Kd.C (Kd.int .u8) w A0_5 l0_5.length l0_5) (hc0_5 : l0_5.length ≤ c0_5) (h : packet_right.f a0_0 a0_1 a0_2 a0_3 a0_4 l0_5 = some r) :
    Calls Try.prog 17 #[.agg #[.int .i64 a0_0, .int .i64 a0_1, .int .i64 a0_2, .int .i64 a0_3, .int .u32 a0_4, .slice A0_5 l0_5.length c0_5]] w fun e w' => e = .returned (.bool r) ∧ Below w.heap.size w w' := by
  obtain rfl : prB a0_0 a0_1 a0_2 a0_3 a0_4 l0_5 = r := Option.some.inj h
  clear h
  have HR0 := Aside0.mk hr0_5
  have HC0 := Aside0.mk hc0_5
  clear hr0_5 hc0_5
  have HP0 := Aside0.mk (heap_alloc_new w (.cells #[.int .i64 a0_0, .int .i64 a0_1, .int .i64 a0_2, .int .i64 a0_3, .int .u32 a0_4, .slice A0_5 l0_5.length c0_5] 25 (0, 0)))
  have HB0 := Aside0.mk ((Below.refl w.heap.size w).alloc (Nat.le_refl _) (.cells #[.int .i64 a0_0, .int .i64 a0_1, .int .i64 a0_2, .int .i64 a0_3, .int .u32 a0_4, .slice A0_5 l0_5.length c0_5] 25 (0, 0)))
  go_enter Try.func17, Try.ntmps17
  go_upto_region 1 with fail
  generalize w.alloc (.cells #[.int .i64 a0_0, .int .i64 a0_1, .int .i64 a0_2, .int .i64 a0_3, .int .u32 a0_4, .slice A0_5 l0_5.length c0_5] 25 (0, 0)) = wa at HP0 HB0 ⊢
  obtain ⟨⟨p0, p1, p2, p3, p4, p5⟩, f0, f1, f2, f3, f4, f5⟩ := cells6r HP0.out
  have hq := heap_alloc_new wa (.cells #[.int .i64 a0_0, .int .i64 a0_1, .int .i64 0, .int .i64 0, .int .u32 0, .slice none 0 0] 25 (0, 0))
  have hb := (Below.refl wa.heap.size wa).alloc (Nat.le_refl _) (.cells #[.int .i64 a0_0, .int .i64 a0_1, .int .i64 0, .int .i64 0, .int .u32 0, .slice none 0 0] 25 (0, 0))
  have HQ1 := Aside0.mk hq
  have HP1 := Aside0.mk (show (wa.alloc (.cells #[.int .i64 a0_0, .int .i64 a0_1, .int .i64 0, .int .i64 0, .int .u32 0, .slice none 0 0] 25 (0, 0))).heap[w.heap.size]? = some (.cells #[.int .i64 a0_0, .int .i64 a0_1, .int .i64 a0_2, .int .i64 a0_3, .int .u32 a0_4, .slice A0_5 l0_5.length c0_5] 25 (0, 0)) from by rw [hb.block _ (lt_of_heap HP0.out)]; exact HP0.out)
  have HB1 := Aside0.mk (below_via5 HB0.out hb)
  have NE := Aside0.mk (show w.heap.size ≠ wa.heap.size from Nat.ne_of_lt (lt_of_heap HP0.out))
  have GE := Aside0.mk HB0.out.size
  clear hq hb
  go_upto_region 2 with fail
  clear p0 p1 p2 p3 p4 p5 f0 f1 f2 f3 f4 f5 HP0 HB0
  generalize wa.alloc (.cells #[.int .i64 a0_0, .int .i64 a0_1, .int .i64 0, .int .i64 0, .int .u32 0, .slice none 0 0] 25 (0, 0)) = wc at HQ1 HP1 HB1 ⊢
  generalize hg : wa.heap.size = gq at HQ1 NE GE ⊢
  clear hg
  obtain ⟨⟨p0, p1, p2, p3, p4, p5⟩, f0, f1, f2, f3, f4, f5⟩ := cells6r HP1.out
  obtain ⟨b0, hb0⟩ : ∃ b, inB a0_1 0 1099511627776 = b := ⟨_, rfl⟩
  go_wp2_with fail
  refine (packet_in.calls a0_1 0 1099511627776 b0 _ (in_f _ _ _ _ hb0)).mono ?_
  rintro e w' ⟨rfl, ⟨nd, rfl⟩⟩
  have HP2 := Aside0.mk (show (wc.drewN nd).heap[w.heap.size]? = some (.cells #[.int .i64 a0_0, .int .i64 a0_1, .int .i64 a0_2, .int .i64 a0_3, .int .u32 a0_4, .slice A0_5 l0_5.length c0_5] 25 (0, 0)) from HP1.out)
  have HQ2 := Aside0.mk (show (wc.drewN nd).heap[gq]? = some (.cells #[.int .i64 a0_0, .int .i64 a0_1, .int .i64 0, .int .i64 0, .int .u32 0, .slice none 0 0] 25 (0, 0)) from HQ1.out)
  have HB2 := Aside0.mk (pw_below_drewN HB1.out nd)
  clear HP1 HQ1 HB1 p0 p1 p2 p3 p4 p5 f0 f1 f2 f3 f4 f5
  generalize wc.drewN nd = wd at HP2 HQ2 HB2 ⊢
  have hb0' := Aside0.mk hb0
  clear hb0
  obtain ⟨⟨p0, p1, p2, p3, p4, p5⟩, f0, f1, f2, f3, f4, f5⟩ := cells6r HP2.out
  obtain ⟨⟨q0, q1, q2, q3, q4, q5⟩, g0, g1, g2, g3, g4, g5⟩ := cells6r HQ2.out
  by_cases k1 : a0_0 = 1
  · subst k1
    have hD : prB 1 a0_1 a0_2 a0_3 a0_4 l0_5 = (inB a0_1 0 1099511627776 && (inB a0_3 1 1048576 && sameB a0_2 a0_3 a0_4 l0_5 0 a0_3 a0_4 [])) := by unfold prB; rw [if_pos rfl]
    go_upto_region 6 with fail
    refine wp_region_held_drew (S := (fun W => W.cell? ⟨w.heap.size, 3, none⟩ = some (.int .i64 a0_3) ∧ W.cell? ⟨w.heap.size, 4, none⟩ = some (.int .u32 a0_4))) (by kernel_rfl) ⟨p3, p4⟩ (fun hHeld => ?_)
    refine wpAnyH_take (i := 0) (oi := { dst := some 17, op := Op.fieldAddr 25 (Operand.tmp 1) 3, type := 0, pos := "packet.go:26", after := #[], guard := none }) (v := ?_) rfl (by kernel_rfl) (by kernel_rfl) (by kernel_rfl) (fun _ _ _ h => h) (Or.inl ⟨by rfl, ?_⟩) (by assumption) ?_
    rotate_left
    · intro w hSw
      try dsimp only at hSw
      go_simp
      all_goals with_reducible rfl
    try simp only [Act.put, List.setIfInBounds_toArray, List.set_cons_zero, List.set_cons_succ]
    refine wpAnyH_take (i := 1) (oi := { dst := some 18, op := Op.load 3 (Operand.tmp 17), type := 3, pos := "packet.go:26", after := #[{ on := 0, ground := Ground.data }], guard := none }) (v := ?_) rfl (by kernel_rfl) (by kernel_rfl) (by kernel_rfl) (fun _ _ _ h => h) (Or.inl ⟨by rfl, ?_⟩) (by assumption) ?_
    rotate_left
    · intro w hSw
      try dsimp only at hSw
      go_simp
      all_goals with_reducible rfl
    try simp only [Act.put, List.setIfInBounds_toArray, List.set_cons_zero, List.set_cons_succ]
    refine wpAnyH_take (i := 2) (oi := { dst := some 19, op := Op.fieldAddr 25 (Operand.tmp 1) 4, type := 0, pos := "packet.go:26", after := #[{ on := 5, ground := Ground.gcOnly Departure.lateStores }], guard := none }) (v := ?_) rfl (by kernel_rfl) (by kernel_rfl) (by kernel_rfl) (fun _ _ _ h => h) (Or.inl ⟨by rfl, ?_⟩) (by assumption) ?_
    rotate_left
    · intro w hSw
      try dsimp only at hSw
      go_simp
      all_goals with_reducible rfl
    try simp only [Act.put, List.setIfInBounds_toArray, List.set_cons_zero, List.set_cons_succ]
    refine wpAnyH_take (i := 3) (oi := { dst := some 20, op := Op.load 22 (Operand.tmp 19), type := 22, pos := "packet.go:26", after := #[{ on := 2, ground := Ground.data }, { on := 5, ground := Ground.gcOnly Departure.lateStores }], guard := none }) (v := ?_) rfl (by kernel_rfl) (by kernel_rfl) (by kernel_rfl) (fun _ _ _ h => h) (Or.inl ⟨by rfl, ?_⟩) (by assumption) ?_
    rotate_left
    · intro w hSw
      try dsimp only at hSw
      go_simp
      all_goals with_reducible rfl
    try simp only [Act.put, List.setIfInBounds_toArray, List.set_cons_zero, List.set_cons_succ]
    refine wpAnyH_take (i := 4) (oi := { dst := some 21, op := Op.fieldAddr 25 (Operand.tmp 3) 3, type := 0, pos := "packet.go:26", after := #[{ on := 0, ground := Ground.phase }, { on := 1, ground := Ground.phase }, { on := 2, ground := Ground.textOnly Departure.lateStores }, { on := 3, ground := Ground.textOnly Departure.lateStores }], guard := none }) (v := ?_) rfl (by kernel_rfl) (by kernel_rfl) (by kernel_rfl) (fun _ _ _ h => h) (Or.inl ⟨by rfl, ?_⟩) (by assumption) ?_
    rotate_left
    · intro w hSw
      try dsimp only at hSw
      go_simp
      all_goals with_reducible rfl
    try simp only [Act.put, List.setIfInBounds_toArray, List.set_cons_zero, List.set_cons_succ]
    refine wpAnyH_ready (rs := [5]) (by kernel_rfl) (by simp) ?_
    refine AllReadyH.cons (o := { dst := none, op := Op.store 3 (Operand.tmp 21) (Operand.tmp 18), type := 0, pos := "packet.go:26", after := #[{ on := 4, ground := Ground.data }, { on := 1, ground := Ground.data }, { on := 0, ground := Ground.phase }, { on := 1, ground := Ground.phase }, { on := 2, ground := Ground.textOnly Departure.lateStores }, { on := 3, ground := Ground.textOnly Departure.lateStores }], guard := none }) rfl (fun K hK => ?_) AllReadyH.nil
    go_simp
    refine hK.out _ _ ⟨(cell_far (p := ⟨gq, _, none⟩) NE.out _).trans hHeld.1, (cell_far (p := ⟨gq, _, none⟩) NE.out _).trans hHeld.2⟩ (fun hHeld => ?_)
    clear hK K
    try simp only [Act.put, List.setIfInBounds_toArray, List.set_cons_zero, List.set_cons_succ]
    refine wpAnyH_take (i := 6) (oi := { dst := some 22, op := Op.fieldAddr 25 (Operand.tmp 3) 4, type := 0, pos := "packet.go:26", after := #[{ on := 0, ground := Ground.phase }, { on := 1, ground := Ground.phase }, { on := 2, ground := Ground.phase }, { on := 3, ground := Ground.phase }, { on := 4, ground := Ground.phase }, { on := 5, ground := Ground.phase }], guard := none }) (v := ?_) rfl (by kernel_rfl) (by kernel_rfl) (by kernel_rfl) (fun _ _ _ h => h) (Or.inl ⟨by rfl, ?_⟩) (by assumption) ?_
    rotate_left
    · intro w hSw
      try dsimp only at hSw
      go_simp
      all_goals with_reducible rfl
    try simp only [Act.put, List.setIfInBounds_toArray, List.set_cons_zero, List.set_cons_succ]
    refine wpAnyH_ready (rs := [7]) (by kernel_rfl) (by simp) ?_
    refine AllReadyH.cons (o := { dst := none, op := Op.store 22 (Operand.tmp 22) (Operand.tmp 20), type := 0, pos := "packet.go:26", after := #[{ on := 6, ground := Ground.data }, { on := 3, ground := Ground.data }, { on := 5, ground := Ground.chain }, { on := 0, ground := Ground.phase }, { on := 1, ground := Ground.phase }, { on := 2, ground := Ground.phase }, { on := 3, ground := Ground.phase }, { on := 4, ground := Ground.phase }, { on := 5, ground := Ground.phase }], guard := none }) rfl (fun K hK => ?_) AllReadyH.nil
    go_simp
    refine hK.out _ _ ⟨(cell_far (p := ⟨gq, _, none⟩) NE.out _).trans hHeld.1, (cell_far (p := ⟨gq, _, none⟩) NE.out _).trans hHeld.2⟩ (fun hHeld => ?_)
    clear hK K
    try simp only [Act.put, List.setIfInBounds_toArray, List.set_cons_zero, List.set_cons_succ]
    refine wpAnyH_done (by kernel_rfl) ?_ _
    have hs0 := set_p HP2.out HQ2.out HB2.out NE.out GE.out 3 (.int .i64 a0_3)
    have hs1 := set_p hs0.1 hs0.2.1 hs0.2.2 NE.out GE.out 4 (.int .u32 a0_4)
    have HP5 := Aside0.mk hs1.1
    have HQ5 := Aside0.mk hs1.2.1
    have HB5 := Aside0.mk hs1.2.2
    simp only [List.setIfInBounds_toArray, List.set_cons_zero, List.set_cons_succ] at HQ5
    clear hs0 hs1
    generalize ((wd).setCell ⟨gq, 3, none⟩ (.int .i64 a0_3)).setCell ⟨gq, 4, none⟩ (.int .u32 a0_4) = w5 at HP5 HQ5 HB5 ⊢
    clear p0 p1 p2 p3 p4 p5 f0 f1 f2 f3 f4 f5 q0 q1 q2 q3 q4 q5 g0 g1 g2 g3 g4 g5
    obtain ⟨⟨p0, p1, p2, p3, p4, p5⟩, f0, f1, f2, f3, f4, f5⟩ := cells6r HP5.out
    obtain ⟨⟨q0, q1, q2, q3, q4, q5⟩, g0, g1, g2, g3, g4, g5⟩ := cells6r HQ5.out
    have he := hb0'.out
    cases b0 with
    | true =>
      rw [he] at hD
      cases ht : inB a0_3 1 1048576 with
      | true =>
        rw [ht] at hD
        have HD := Aside0.mk hD
        clear hD
        go_wp2_with fail
        refine (packet_in.calls a0_3 1 1048576 true _ (in_f _ _ _ _ ht)).mono ?_
        rintro e w' ⟨rfl, ⟨nd, rfl⟩⟩
        go_wp2_with fail
        refine Calls.mono (packet_same.calls 1 a0_1 a0_2 a0_3 a0_4 A0_5 c0_5 l0_5 1 a0_1 0 a0_3 a0_4 none 0 [] _ _ ?s1 HC0.out ?s3 (Nat.le_refl _) (same_f 1 a0_1 a0_2 a0_3 a0_4 l0_5 1 a0_1 0 a0_3 a0_4 [])) ?_
        case s1 => exact Kd.C_below HR0.out (by repeat (first | exact HB5.out | apply pw_below_drewN | apply below_drew1))
        case s3 => exact nil_b _
        rintro e w9 ⟨rfl, hX⟩
        have HB9 : Aside0 (Below w.heap.size w w9) := ⟨below_via5 (by repeat (first | exact HB5.out | apply pw_below_drewN | apply below_drew1)) hX⟩
        clear hX
        go_wp2
        go_ret
        exact ⟨by rw [HD.out]; rfl, HB9.out⟩
      | false =>
        rw [ht] at hD
        have HD := Aside0.mk hD
        clear hD
        go_wp2_with fail
        refine (packet_in.calls a0_3 1 1048576 false _ (in_f _ _ _ _ ht)).mono ?_
        rintro e w' ⟨rfl, ⟨nd, rfl⟩⟩
        go_wp2
        go_ret
        exact ⟨by rw [HD.out]; rfl, (by repeat (first | exact HB5.out | apply pw_below_drewN | apply below_drew1))⟩
    | false =>
      rw [he] at hD
      have HD := Aside0.mk hD
      clear hD
      go_wp2
      go_ret
      exact ⟨by rw [HD.out]; rfl, (by repeat (first | exact HB5.out | apply pw_below_drewN | apply below_drew1))⟩
  · by_cases k2 : a0_0 = 2
    · subst k2
      have hD : prB 2 a0_1 a0_2 a0_3 a0_4 l0_5 = (inB a0_1 0 1099511627776 && (inB a0_2 0 1048576 && (inB (l0_5.length : Int) 1 64 && sameB a0_2 a0_3 a0_4 l0_5 a0_2 0 0 l0_5))) := by unfold prB; rw [if_neg (by decide), if_pos rfl]
      go_upto_region 9 with fail
      refine wp_region_held_drew (S := (fun W => W.cell? ⟨w.heap.size, 2, none⟩ = some (.int .i64 a0_2) ∧ W.cell? ⟨w.heap.size, 5, none⟩ = some (.slice A0_5 l0_5.length c0_5))) (by kernel_rfl) ⟨p2, p5⟩ (fun hHeld => ?_)
      refine wpAnyH_take (i := 0) (oi := { dst := some 31, op := Op.fieldAddr 25 (Operand.tmp 1) 2, type := 0, pos := "packet.go:29", after := #[], guard := none }) (v := ?_) rfl (by kernel_rfl) (by kernel_rfl) (by kernel_rfl) (fun _ _ _ h => h) (Or.inl ⟨by rfl, ?_⟩) (by assumption) ?_
      rotate_left
      · intro w hSw
        try dsimp only at hSw
        go_simp
        all_goals with_reducible rfl
      try simp only [Act.put, List.setIfInBounds_toArray, List.set_cons_zero, List.set_cons_succ]
      refine wpAnyH_take (i := 1) (oi := { dst := some 32, op := Op.load 3 (Operand.tmp 31), type := 3, pos := "packet.go:29", after := #[{ on := 0, ground := Ground.data }], guard := none }) (v := ?_) rfl (by kernel_rfl) (by kernel_rfl) (by kernel_rfl) (fun _ _ _ h => h) (Or.inl ⟨by rfl, ?_⟩) (by assumption) ?_
      rotate_left
      · intro w hSw
        try dsimp only at hSw
        go_simp
        all_goals with_reducible rfl
      try simp only [Act.put, List.setIfInBounds_toArray, List.set_cons_zero, List.set_cons_succ]
      refine wpAnyH_take (i := 2) (oi := { dst := some 33, op := Op.fieldAddr 25 (Operand.tmp 1) 5, type := 0, pos := "packet.go:29", after := #[{ on := 5, ground := Ground.gcOnly Departure.lateStores }], guard := none }) (v := ?_) rfl (by kernel_rfl) (by kernel_rfl) (by kernel_rfl) (fun _ _ _ h => h) (Or.inl ⟨by rfl, ?_⟩) (by assumption) ?_
      rotate_left
      · intro w hSw
        try dsimp only at hSw
        go_simp
        all_goals with_reducible rfl
      try simp only [Act.put, List.setIfInBounds_toArray, List.set_cons_zero, List.set_cons_succ]
      refine wpAnyH_take (i := 3) (oi := { dst := some 34, op := Op.load 23 (Operand.tmp 33), type := 23, pos := "packet.go:29", after := #[{ on := 2, ground := Ground.data }, { on := 5, ground := Ground.gcOnly Departure.lateStores }], guard := none }) (v := ?_) rfl (by kernel_rfl) (by kernel_rfl) (by kernel_rfl) (fun _ _ _ h => h) (Or.inl ⟨by rfl, ?_⟩) (by assumption) ?_
      rotate_left
      · intro w hSw
        try dsimp only at hSw
        go_simp
        all_goals with_reducible rfl
      try simp only [Act.put, List.setIfInBounds_toArray, List.set_cons_zero, List.set_cons_succ]
      refine wpAnyH_take (i := 4) (oi := { dst := some 35, op := Op.fieldAddr 25 (Operand.tmp 3) 2, type := 0, pos := "packet.go:29", after := #[{ on := 0, ground := Ground.phase }, { on := 1, ground := Ground.phase }, { on := 2, ground := Ground.textOnly Departure.lateStores }, { on := 3, ground := Ground.textOnly Departure.lateStores }], guard := none }) (v := ?_) rfl (by kernel_rfl) (by kernel_rfl) (by kernel_rfl) (fun _ _ _ h => h) (Or.inl ⟨by rfl, ?_⟩) (by assumption) ?_
      rotate_left
      · intro w hSw
        try dsimp only at hSw
        go_simp
        all_goals with_reducible rfl
      try simp only [Act.put, List.setIfInBounds_toArray, List.set_cons_zero, List.set_cons_succ]
      refine wpAnyH_ready (rs := [5]) (by kernel_rfl) (by simp) ?_
      refine AllReadyH.cons (o := { dst := none, op := Op.store 3 (Operand.tmp 35) (Operand.tmp 32), type := 0, pos := "packet.go:29", after := #[{ on := 4, ground := Ground.data }, { on := 1, ground := Ground.data }, { on := 0, ground := Ground.phase }, { on := 1, ground := Ground.phase }, { on := 2, ground := Ground.textOnly Departure.lateStores }, { on := 3, ground := Ground.textOnly Departure.lateStores }], guard := none }) rfl (fun K hK => ?_) AllReadyH.nil
      go_simp
      refine hK.out _ _ ⟨(cell_far (p := ⟨gq, _, none⟩) NE.out _).trans hHeld.1, (cell_far (p := ⟨gq, _, none⟩) NE.out _).trans hHeld.2⟩ (fun hHeld => ?_)
      clear hK K
      try simp only [Act.put, List.setIfInBounds_toArray, List.set_cons_zero, List.set_cons_succ]
      refine wpAnyH_take (i := 6) (oi := { dst := some 36, op := Op.fieldAddr 25 (Operand.tmp 3) 5, type := 0, pos := "packet.go:29", after := #[{ on := 0, ground := Ground.phase }, { on := 1, ground := Ground.phase }, { on := 2, ground := Ground.phase }, { on := 3, ground := Ground.phase }, { on := 4, ground := Ground.phase }, { on := 5, ground := Ground.phase }], guard := none }) (v := ?_) rfl (by kernel_rfl) (by kernel_rfl) (by kernel_rfl) (fun _ _ _ h => h) (Or.inl ⟨by rfl, ?_⟩) (by assumption) ?_
      rotate_left
      · intro w hSw
        try dsimp only at hSw
        go_simp
        all_goals with_reducible rfl
      try simp only [Act.put, List.setIfInBounds_toArray, List.set_cons_zero, List.set_cons_succ]
      refine wpAnyH_ready (rs := [7]) (by kernel_rfl) (by simp) ?_
      refine AllReadyH.cons (o := { dst := none, op := Op.store 23 (Operand.tmp 36) (Operand.tmp 34), type := 0, pos := "packet.go:29", after := #[{ on := 6, ground := Ground.data }, { on := 3, ground := Ground.data }, { on := 5, ground := Ground.chain }, { on := 0, ground := Ground.phase }, { on := 1, ground := Ground.phase }, { on := 2, ground := Ground.phase }, { on := 3, ground := Ground.phase }, { on := 4, ground := Ground.phase }, { on := 5, ground := Ground.phase }], guard := none }) rfl (fun K hK => ?_) AllReadyH.nil
      go_simp
      refine hK.out _ _ ⟨(cell_far (p := ⟨gq, _, none⟩) NE.out _).trans hHeld.1, (cell_far (p := ⟨gq, _, none⟩) NE.out _).trans hHeld.2⟩ (fun hHeld => ?_)
      clear hK K
      try simp only [Act.put, List.setIfInBounds_toArray, List.set_cons_zero, List.set_cons_succ]
      refine wpAnyH_done (by kernel_rfl) ?_ _
      have hs0 := set_p HP2.out HQ2.out HB2.out NE.out GE.out 2 (.int .i64 a0_2)
      have hs1 := set_p hs0.1 hs0.2.1 hs0.2.2 NE.out GE.out 5 (.slice A0_5 l0_5.length c0_5)
      have HP5 := Aside0.mk hs1.1
      have HQ5 := Aside0.mk hs1.2.1
      have HB5 := Aside0.mk hs1.2.2
      simp only [List.setIfInBounds_toArray, List.set_cons_zero, List.set_cons_succ] at HQ5
      clear hs0 hs1
      generalize ((wd).setCell ⟨gq, 2, none⟩ (.int .i64 a0_2)).setCell ⟨gq, 5, none⟩ (.slice A0_5 l0_5.length c0_5) = w5 at HP5 HQ5 HB5 ⊢
      clear p0 p1 p2 p3 p4 p5 f0 f1 f2 f3 f4 f5 q0 q1 q2 q3 q4 q5 g0 g1 g2 g3 g4 g5
      obtain ⟨⟨p0, p1, p2, p3, p4, p5⟩, f0, f1, f2, f3, f4, f5⟩ := cells6r HP5.out
      obtain ⟨⟨q0, q1, q2, q3, q4, q5⟩, g0, g1, g2, g3, g4, g5⟩ := cells6r HQ5.out
      have he := hb0'.out
      cases b0 with
      | true =>
        rw [he] at hD
        cases hs : inB a0_2 0 1048576 with
        | true =>
          rw [hs] at hD
          cases hl : inB (l0_5.length : Int) 1 64 with
          | true =>
            rw [hl] at hD
            have HD := Aside0.mk hD
            clear hD
            go_wp2_with fail
            refine (packet_in.calls a0_2 0 1048576 true _ (in_f _ _ _ _ hs)).mono ?_
            rintro e w' ⟨rfl, ⟨nd, rfl⟩⟩
            go_wp2_with fail
            refine (packet_in.calls (l0_5.length : Int) 1 64 true _ (in_f _ _ _ _ hl)).mono ?_
            rintro e w' ⟨rfl, ⟨nd, rfl⟩⟩
            go_wp2_with fail
            refine Calls.mono (packet_same.calls 2 a0_1 a0_2 a0_3 a0_4 A0_5 c0_5 l0_5 2 a0_1 a0_2 0 0 A0_5 c0_5 l0_5 _ _ ?s1 HC0.out ?s3 HC0.out (same_f 2 a0_1 a0_2 a0_3 a0_4 l0_5 2 a0_1 a0_2 0 0 l0_5)) ?_
            case s1 => exact Kd.C_below HR0.out (by repeat (first | exact HB5.out | apply pw_below_drewN | apply below_drew1))
            case s3 => exact Kd.C_below HR0.out (by repeat (first | exact HB5.out | apply pw_below_drewN | apply below_drew1))
            rintro e w9 ⟨rfl, hX⟩
            have HB9 : Aside0 (Below w.heap.size w w9) := ⟨below_via5 (by repeat (first | exact HB5.out | apply pw_below_drewN | apply below_drew1)) hX⟩
            clear hX
            go_wp2
            go_ret
            exact ⟨by rw [HD.out]; rfl, HB9.out⟩
          | false =>
            rw [hl] at hD
            have HD := Aside0.mk hD
            clear hD
            go_wp2_with fail
            refine (packet_in.calls a0_2 0 1048576 true _ (in_f _ _ _ _ hs)).mono ?_
            rintro e w' ⟨rfl, ⟨nd, rfl⟩⟩
            go_wp2_with fail
            refine (packet_in.calls (l0_5.length : Int) 1 64 false _ (in_f _ _ _ _ hl)).mono ?_
            rintro e w' ⟨rfl, ⟨nd, rfl⟩⟩
            go_wp2
            go_ret
            exact ⟨by rw [HD.out]; rfl, (by repeat (first | exact HB5.out | apply pw_below_drewN | apply below_drew1))⟩
        | false =>
          rw [hs] at hD
          have HD := Aside0.mk hD
          clear hD
          go_wp2_with fail
          refine (packet_in.calls a0_2 0 1048576 false _ (in_f _ _ _ _ hs)).mono ?_
          rintro e w' ⟨rfl, ⟨nd, rfl⟩⟩
          go_wp2
          go_ret
          exact ⟨by rw [HD.out]; rfl, (by repeat (first | exact HB5.out | apply pw_below_drewN | apply below_drew1))⟩
      | false =>
        rw [he] at hD
        have HD := Aside0.mk hD
        clear hD
        go_wp2
        go_ret
        exact ⟨by rw [HD.out]; rfl, (by repeat (first | exact HB5.out | apply pw_below_drewN | apply below_drew1))⟩
    · by_cases k3 : a0_0 = 3
      · subst k3
        have hD : prB 3 a0_1 a0_2 a0_3 a0_4 l0_5 = (inB a0_1 0 1099511627776 && (inB a0_2 0 1048576 && sameB a0_2 a0_3 a0_4 l0_5 a0_2 0 0 [])) := by unfold prB; rw [if_neg (by decide), if_neg (by decide), if_pos rfl]
        go_upto_region 13 with fail
        have hs0 := set_p HP2.out HQ2.out HB2.out NE.out GE.out 2 (.int .i64 a0_2)
        have HP5 := Aside0.mk hs0.1
        have HQ5 := Aside0.mk hs0.2.1
        have HB5 := Aside0.mk hs0.2.2
        simp only [List.setIfInBounds_toArray, List.set_cons_zero, List.set_cons_succ] at HQ5
        clear hs0
        generalize (wd).setCell ⟨gq, 2, none⟩ (.int .i64 a0_2) = w5 at HP5 HQ5 HB5 ⊢
        clear p0 p1 p2 p3 p4 p5 f0 f1 f2 f3 f4 f5 q0 q1 q2 q3 q4 q5 g0 g1 g2 g3 g4 g5
        obtain ⟨⟨p0, p1, p2, p3, p4, p5⟩, f0, f1, f2, f3, f4, f5⟩ := cells6r HP5.out
        obtain ⟨⟨q0, q1, q2, q3, q4, q5⟩, g0, g1, g2, g3, g4, g5⟩ := cells6r HQ5.out
        have he := hb0'.out
        cases b0 with
        | true =>
          rw [he] at hD
          cases hs : inB a0_2 0 1048576 with
          | true =>
            rw [hs] at hD
            have HD := Aside0.mk hD
            clear hD
            go_wp2_with fail
            refine (packet_in.calls a0_2 0 1048576 true _ (in_f _ _ _ _ hs)).mono ?_
            rintro e w' ⟨rfl, ⟨nd, rfl⟩⟩
            go_wp2_with fail
            refine Calls.mono (packet_same.calls 3 a0_1 a0_2 a0_3 a0_4 A0_5 c0_5 l0_5 3 a0_1 a0_2 0 0 none 0 [] _ _ ?s1 HC0.out ?s3 (Nat.le_refl _) (same_f 3 a0_1 a0_2 a0_3 a0_4 l0_5 3 a0_1 a0_2 0 0 [])) ?_
            case s1 => exact Kd.C_below HR0.out (by repeat (first | exact HB5.out | apply pw_below_drewN | apply below_drew1))
            case s3 => exact nil_b _
            rintro e w9 ⟨rfl, hX⟩
            have HB9 : Aside0 (Below w.heap.size w w9) := ⟨below_via5 (by repeat (first | exact HB5.out | apply pw_below_drewN | apply below_drew1)) hX⟩
            clear hX
            go_wp2
            go_ret
            exact ⟨by rw [HD.out]; rfl, HB9.out⟩
          | false =>
            rw [hs] at hD
            have HD := Aside0.mk hD
            clear hD
            go_wp2_with fail
            refine (packet_in.calls a0_2 0 1048576 false _ (in_f _ _ _ _ hs)).mono ?_
            rintro e w' ⟨rfl, ⟨nd, rfl⟩⟩
            go_wp2
            go_ret
            exact ⟨by rw [HD.out]; rfl, (by repeat (first | exact HB5.out | apply pw_below_drewN | apply below_drew1))⟩
        | false =>
          rw [he] at hD
          have HD := Aside0.mk hD
          clear hD
          go_wp2
          go_ret
          exact ⟨by rw [HD.out]; rfl, (by repeat (first | exact HB5.out | apply pw_below_drewN | apply below_drew1))⟩
      · by_cases k4 : a0_0 = 4
        · subst k4
          have hD : prB 4 a0_1 a0_2 a0_3 a0_4 l0_5 = (inB a0_1 0 1099511627776 && (inB (l0_5.length : Int) 1 4096 && sameB a0_2 a0_3 a0_4 l0_5 0 0 0 l0_5)) := by unfold prB; rw [if_neg (by decide), if_neg (by decide), if_neg (by decide), if_pos rfl]
          go_upto_region 16 with fail
          have hs0 := set_p HP2.out HQ2.out HB2.out NE.out GE.out 5 (.slice A0_5 l0_5.length c0_5)
          have HP5 := Aside0.mk hs0.1
          have HQ5 := Aside0.mk hs0.2.1
          have HB5 := Aside0.mk hs0.2.2
          simp only [List.setIfInBounds_toArray, List.set_cons_zero, List.set_cons_succ] at HQ5
          clear hs0
          generalize (wd).setCell ⟨gq, 5, none⟩ (.slice A0_5 l0_5.length c0_5) = w5 at HP5 HQ5 HB5 ⊢
          clear p0 p1 p2 p3 p4 p5 f0 f1 f2 f3 f4 f5 q0 q1 q2 q3 q4 q5 g0 g1 g2 g3 g4 g5
          obtain ⟨⟨p0, p1, p2, p3, p4, p5⟩, f0, f1, f2, f3, f4, f5⟩ := cells6r HP5.out
          obtain ⟨⟨q0, q1, q2, q3, q4, q5⟩, g0, g1, g2, g3, g4, g5⟩ := cells6r HQ5.out
          have he := hb0'.out
          cases b0 with
          | true =>
            rw [he] at hD
            cases hl : inB (l0_5.length : Int) 1 4096 with
            | true =>
              rw [hl] at hD
              have HD := Aside0.mk hD
              clear hD
              go_wp2_with fail
              refine (packet_in.calls (l0_5.length : Int) 1 4096 true _ (in_f _ _ _ _ hl)).mono ?_
              rintro e w' ⟨rfl, ⟨nd, rfl⟩⟩
              go_wp2_with fail
              refine Calls.mono (packet_same.calls 4 a0_1 a0_2 a0_3 a0_4 A0_5 c0_5 l0_5 4 a0_1 0 0 0 A0_5 c0_5 l0_5 _ _ ?s1 HC0.out ?s3 HC0.out (same_f 4 a0_1 a0_2 a0_3 a0_4 l0_5 4 a0_1 0 0 0 l0_5)) ?_
              case s1 => exact Kd.C_below HR0.out (by repeat (first | exact HB5.out | apply pw_below_drewN | apply below_drew1))
              case s3 => exact Kd.C_below HR0.out (by repeat (first | exact HB5.out | apply pw_below_drewN | apply below_drew1))
              rintro e w9 ⟨rfl, hX⟩
              have HB9 : Aside0 (Below w.heap.size w w9) := ⟨below_via5 (by repeat (first | exact HB5.out | apply pw_below_drewN | apply below_drew1)) hX⟩
              clear hX
              go_wp2
              go_ret
              exact ⟨by rw [HD.out]; rfl, HB9.out⟩
            | false =>
              rw [hl] at hD
              have HD := Aside0.mk hD
              clear hD
              go_wp2_with fail
              refine (packet_in.calls (l0_5.length : Int) 1 4096 false _ (in_f _ _ _ _ hl)).mono ?_
              rintro e w' ⟨rfl, ⟨nd, rfl⟩⟩
              go_wp2
              go_ret
              exact ⟨by rw [HD.out]; rfl, (by repeat (first | exact HB5.out | apply pw_below_drewN | apply below_drew1))⟩
          | false =>
            rw [he] at hD
            have HD := Aside0.mk hD
            clear hD
            go_wp2
            go_ret
            exact ⟨by rw [HD.out]; rfl, (by repeat (first | exact HB5.out | apply pw_below_drewN | apply below_drew1))⟩
        · have hD : prB a0_0 a0_1 a0_2 a0_3 a0_4 l0_5 = false := by unfold prB; rw [if_neg k1, if_neg k2, if_neg k3, if_neg k4]
          go_wp2
          go_ret
          exact ⟨by rw [hD]; rfl, HB2.out⟩

end Go.Proofs.Yticpcjjgdkbcjaa.G
end

section
-- Written by a program of this session (wip/tools/myprint.py), over the kit's print.
namespace Go.Proofs.Yticpcjjgdkbcjaa.G
open Go.RowKit Go.Proofs.YticpcjjgdkbcjaaW.PrintWords Go.Proofs.YticpcjjgdkbcjaaW.PrintLast Go.Proofs.YticpcjjgdkbcjaaW.PrintMore
attribute [local go_sem] max2_int min2_int max_two min_two max_three min_three max_four min_four   -- for this text's walks alone
set_option linter.unusedVariables false
set_option linter.unusedSimpArgs false

-- BY HAND
def slices_Clone_byte_byte.f (l0 : List Int) : Option (List Int) := if l0.length ≤ 140737488355328 then some l0 else none
set_option maxRecDepth 100000 in
set_option maxHeartbeats 400000 in
theorem slices_Clone_byte_byte.calls (A0 : Option Addr) (c0 : Nat) (l0 : List Int) (r : List Int) (w : World) (hr0 : Kd.C (Kd.int .u8) w A0 l0.length l0) (hc0 : l0.length ≤ c0) (h : slices_Clone_byte_byte.f l0 = some r) :
    Calls Try.prog 37 #[.slice A0 l0.length c0] w fun e w' => ∃ v0_ : Value, e = .returned (v0_) ∧ Kd.R (Kd.int .u8) 5 w' w.heap.size (fun _ => True) v0_ r ∧ Below w.heap.size w w' := by
  have hh := h
  clear h
  unfold slices_Clone_byte_byte.f at hh
  split at hh
  · rename_i hl
    obtain rfl := Option.some.inj hh
    clear hh
    have HR := Aside0.mk hr0
    clear hr0
    have heq := fun (W : World) (n c : Nat) => Lib.run_eql_slice_nil (P := Try.prog) W 23 5 A0 n c 0 0 Try.underlying23
    have hinfo : (Try.prog.info? 5).map (fun i => (i.zero, i.size, i.bytes)) = some (some (.int .u8 0), 1, 1) := by kernel_rfl
    have Hinfo := Aside0.mk hinfo
    clear hinfo
    cases A0 with
    | none =>
      have h0 : l0 = [] := by
        have h1 := HR.out.2.2
        cases l0 with
        | nil => rfl
        | cons x l => obtain ⟨ad, h2, _⟩ := h1 (by simp); cases h2
      subst h0
      go_enter Try.func37, Try.ntmps37
      go_wp2
      go_ret
      exact ⟨_, rfl, Kd.R_nil _ _ _ _ _, Below.refl _ _⟩
    | some ad =>
      go_enter Try.func37, Try.ntmps37
      go_wp2_with (at_builtin; refine Kd.R_append_rows (Kd.int .u8) (w0 := w) w.heap.size rfl (.tmp 5) (.tmp 6) 23 5 (.int .u8 0) 1 rfl Try.underlying23 Hinfo.out rfl (by decide) (by decide) (.slice (some ⟨w.heap.size, 0, none⟩) 0 0) [] l0 (some ad) l0.length c0 (fun _ => True) (fun _ => False) rfl rfl (kd_R (xs := []) (World.ownsRow_made w #[] 0 (Nat.le_refl _) (by decide) rfl)) (Kd.C_alloc HR.out _) (fun _ _ h => h) (fun _ h => h.elim) (fun _ _ => trivial) ((Below.refl _ _).alloc (Nat.le_refl _) _) (by simp) (by simpa using hl) ?_; intro v1 w1 HO1 hB1 _ _)
      go_ret
      exact ⟨v1, rfl, HO1, hB1⟩
  · cases hh

end Go.Proofs.Yticpcjjgdkbcjaa.G
end

section
-- Written by a program of this session (wip/tools/myprint.py), over the kit's print.
namespace Go.Proofs.Yticpcjjgdkbcjaa.G
open Go.RowKit Go.Proofs.YticpcjjgdkbcjaaW.PrintWords Go.Proofs.YticpcjjgdkbcjaaW.PrintLast Go.Proofs.YticpcjjgdkbcjaaW.PrintMore
attribute [local go_sem] max2_int min2_int max_two min_two max_three min_three max_four min_four   -- for this text's walks alone
set_option linter.unusedVariables false
set_option linter.unusedSimpArgs false

-- BY HAND
def putGo : Nat → Int → List Int
  | 0, n => [n % 256]
  | f + 1, n => if n < 128 then [n % 256] else (n % 128 + 128) :: putGo f (n / 128)
def putL (n : Int) : List Int := putGo 9 n
def wire_Put.f (l0 : List Int) (a1 : Int) : Option (List Int) := if 0 ≤ a1 ∧ a1 < 18446744073709551616 ∧ l0.length ≤ 140737488355300 then some (l0 ++ putL a1) else none
theorem info_u8_put : (Try.prog.info? 5).map (fun i => (i.zero, i.size, i.bytes)) = some (some (.int .u8 0), 1, 1) := by kernel_rfl
theorem or128 (m : Int) (h0 : 0 ≤ m) : bits .or .u8 (m % 256) 128 = m % 128 + 128 := by
  obtain ⟨n, rfl⟩ := Int.eq_ofNat_of_zero_le h0
  rw [show ((n : Int) % 256) = ((n % 256 : Nat) : Int) by omega, show (128 : Int) = ((128 : Nat) : Int) from rfl, u8_or_nat _ _ (by omega) (by decide)]
  have e : (n % 256) ||| 128 = n % 128 + 128 := by
    have h1 : n % 256 = 2 ^ 7 * (n % 256 / 128) + n % 256 % 128 := by omega
    have h2 : n % 256 % 128 < 2 ^ 7 := by omega
    rw [h1, Nat.two_pow_add_eq_or_of_lt h2, Nat.or_assoc, Nat.or_comm (n % 256 % 128), ← Nat.or_assoc, show (128 : Nat) = 2 ^ 7 * 1 from rfl]
    have h3 : n % 256 / (2 ^ 7 * 1) = 0 ∨ n % 256 / (2 ^ 7 * 1) = 1 := by omega
    have h4 : 2 ^ 7 * (n % 256 / (2 ^ 7 * 1)) ||| 2 ^ 7 * 1 = 2 ^ 7 * 1 := by
      rcases h3 with h3 | h3 <;> rw [h3] <;> decide
    rw [h4, ← Nat.two_pow_add_eq_or_of_lt (by omega)]
    omega
  rw [e]; omega
theorem clip_any (A : Option Addr) (n c : Nat) (h : n ≤ c) (w : World) : Calls Try.prog 36 #[.slice A n c] w fun e w' => e = .returned (.slice A n n) ∧ w' = w := by
  go_enter Try.func36, Try.ntmps36
  go_wp2_with fail
  go_ret
  exact ⟨rfl, rfl⟩
set_option maxRecDepth 100000 in
set_option maxHeartbeats 1000000 in
theorem wire_Put.calls (A0 : Option Addr) (c0 : Nat) (l0 : List Int) (a1 : Int) (r : List Int) (w : World) (hr0 : Kd.C (Kd.int .u8) w A0 l0.length l0) (hc0 : l0.length ≤ c0) (h : wire_Put.f l0 a1 = some r) :
    Calls Try.prog 18 #[.slice A0 l0.length c0, .int .u64 a1] w fun e w' => ∃ v0_ : Value, e = .returned (v0_) ∧ Kd.R (Kd.int .u8) 5 w' w.heap.size (fun _ => True) v0_ r ∧ Below w.heap.size w w' := by
  have hh := h
  clear h
  unfold wire_Put.f at hh
  split at hh
  · rename_i hcond
    obtain ⟨ha0, ha1, hl⟩ := hcond
    have HRES := Aside0.mk (Option.some.inj hh)
    clear hh
    have hcl := Aside0.mk (show slices_Clone_byte_byte.f l0 = some l0 by unfold slices_Clone_byte_byte.f; rw [if_pos (by omega)])
    go_enter Try.func18, Try.ntmps18
    go_wp2_with fail
    refine (slices_Clone_byte_byte.calls _ _ l0 l0 _ hr0 hc0 hcl.out).mono ?_
    rintro e w1 ⟨v1, rfl, hR1, hB1⟩
    obtain ⟨A1, n1, rfl, hc1, hC1⟩ := own_C hR1
    have hA1 : A1 = none → l0.length = 0 := by
      rintro rfl
      apply Classical.byContradiction
      intro hne
      obtain ⟨_, _, hr⟩ := Kd.reads_of_C (d := (0 : Int)) hC1
      obtain ⟨ad, h2, _⟩ := hr (by omega)
      cases h2
    have HOUT : Outs .u8 5 w1 w.heap.size (.slice A1 l0.length l0.length) l0 := .inr ⟨A1, rfl, hC1, hA1⟩
    have HO1 := Aside0.mk HOUT
    clear HOUT hC1 hR1 hA1 hr0
    go_wp2_with fail
    refine (clip_any A1 l0.length n1 hc1 w1).mono ?_
    rintro e w2 ⟨rfl, rfl⟩
    have HBB := Aside0.mk hB1
    clear hB1
    go_wp2_with fail
    go_loopw [1, 5] (fun n v wr => ∃ (f : Nat) (m : Int) (xs : List Int), n = .int .u64 m ∧ 0 ≤ m ∧ f ≤ 9 ∧ Aside0 (m < 128 ^ (f + 1)) ∧ m < 18446744073709551616 ∧ Aside0 (xs ++ putGo f m = r) ∧ Aside0 (xs.length + f ≤ 140737488355309) ∧ Aside0 (Outs .u8 5 wr w.heap.size v xs) ∧ Below w.heap.size w wr) (fun n _ _ => (intOf n).toNat)
    case atStart => exact ⟨9, a1, l0, rfl, ha0, Nat.le_refl _, ⟨by omega⟩, ha1, ⟨HRES.out⟩, ⟨by omega⟩, ⟨HO1.out⟩, HBB.out⟩
    case round =>
      obtain ⟨f, m, xs, rfl, hm0, hf, HM, hm64, HX, HL, HO, hBr⟩ := hrel
      by_cases hlt : 128 ≤ m
      · go_wp2_with (at_builtin; refine app_outs (w0 := w) w.heap.size rfl (.tmp 13) (.tmp 17) 23 5 .u8 1 rfl Try.underlying23 info_u8_put (by decide) u5 xs (bits .or .u8 (m % 256) 128) rfl rfl HO.out hBr hBr.size (by have := HL.out; omega) ?_; intro v1 w1 HO2 hB2; clear HO hBr)
        have hm1 := HM.out
        cases f with
        | zero => exact absurd hm1 (by simp; omega)
        | succ f =>
          have hx := HX.out
          have hL := HL.out
          rw [putGo, if_neg (by omega)] at hx
          refine ⟨⟨f, m / 128, xs ++ [bits .or .u8 (m % 256) 128], rfl, by omega, by omega, ⟨?_⟩, by omega, ⟨?_⟩, ⟨?_⟩, ⟨.inl HO2.out⟩, hB2⟩, ?_⟩
          · rw [Int.pow_succ] at hm1
            exact Int.ediv_lt_of_lt_mul (by decide) hm1
          · rw [or128 m hm0, List.append_assoc]; exact hx
          · simp only [List.length_append, List.length_singleton]; omega
          · simp only [intOf]; omega
      · go_wp2_with (at_builtin; refine app_outs (w0 := w) w.heap.size rfl (.tmp 19) (.tmp 22) 23 5 .u8 1 rfl Try.underlying23 info_u8_put (by decide) u5 xs m rfl rfl HO.out hBr hBr.size (by have := HL.out; omega) ?_; intro v1 w1 HO2 hB2; clear HO hBr)
        have hx := HX.out
        have hp : putGo f m = [m] := by
          cases f with
          | zero => rw [putGo]; rw [Int.emod_eq_of_lt hm0 (by omega)]
          | succ f => rw [putGo, if_pos (by omega)]; rw [Int.emod_eq_of_lt hm0 (by omega)]
        rw [hp] at hx
        subst hx
        go_ret
        exact ⟨v1, rfl, HO2.out, hB2⟩
  · cases hh

end Go.Proofs.Yticpcjjgdkbcjaa.G
end

section
-- Written by a program of this session (wip/tools/myprint.py), over the kit's print.
namespace Go.Proofs.Yticpcjjgdkbcjaa.G
open Go.RowKit Go.Proofs.YticpcjjgdkbcjaaW.PrintWords Go.Proofs.YticpcjjgdkbcjaaW.PrintLast Go.Proofs.YticpcjjgdkbcjaaW.PrintMore
attribute [local go_sem] max2_int min2_int max_two min_two max_three min_three max_four min_four   -- for this text's walks alone
set_option linter.unusedVariables false
set_option linter.unusedSimpArgs false

/-! ### wire_PutText: function 19 -/
def wire_PutText.f (l0 : List Int) (a1 : ByteArray) : Option (List Int) := (wire_Put.f l0 (IntKind.u64.wrap ((a1.size : Int)))).bind fun t104 => (if t104.length + a1.size < 140737488355328 then (some (t104 ++ bytesOf a1)) else (none))
set_option maxHeartbeats 8000000 in
set_option maxRecDepth 100000 in
theorem wire_PutText.calls (A0 : Option Addr) (c0 : Nat) (l0 : List Int) (a1 : ByteArray) (r : List Int) (w : World) (hr0 : Kd.C (Kd.int .u8) w A0 l0.length l0) (hc0 : l0.length ≤ c0) (h : wire_PutText.f l0 a1 = some r) :
    Calls Try.prog 19 #[.slice A0 l0.length c0, .string a1] w fun e w' => ∃ v0_ : Value, e = .returned (v0_) ∧ Kd.R (Kd.int .u8) 5 w' w.heap.size (fun _ => True) v0_ r ∧ Below w.heap.size w w' := by
  have HR0 := Aside0.mk hr0
  have HC0 := Aside0.mk hc0
  clear hr0 hc0
  have HB := Aside0.mk (Below.refl w.heap.size w)
  have H : ((wire_Put.f l0 (IntKind.u64.wrap ((a1.size : Int)))).bind fun t104 => (if t104.length + a1.size < 140737488355328 then (some (t104 ++ bytesOf a1)) else (none))) = some r := h
  clear h
  replace H := Option.bind_eq_some_iff.mp H
  obtain ⟨t104, A30, H⟩ := H
  replace H : (if t104.length + a1.size < 140737488355328 then (some (t104 ++ bytesOf a1)) else (none)) = some r := H
  have A3 := Aside0.mk A30
  clear A30
  by_cases c4 : t104.length + a1.size < 140737488355328
  · rw [if_pos c4] at H
    have LMc4 := Aside0.mk c4
    clear c4
    obtain ⟨y107, hy107⟩ : ∃ y_ : List Int, y_ = (t104 ++ bytesOf a1) := ⟨_, rfl⟩
    replace H : (some y107) = some r := by first | (rw [hy107]; with_reducible exact H) | (have H2_ := (Option.bind_some _ _).symm.trans H; rw [hy107]; with_reducible exact H2_) | (have H2_ := (Option.bind_some _ _).symm.trans H; with_reducible exact H2_) | with_reducible exact H | (rw [hy107]; exact H) | exact H
    have Ny107 := Aside0.mk hy107
    clear hy107
    obtain rfl := Option.some.inj H
    go_enter Try.func19, Try.ntmps19
    go_wp2_with (first | ((with_reducible refine gate_callee (f := 18) rfl ?_); refine goesL_ (some 9) rfl rfl Try.func18 (by kernel_rfl) rfl #[.slice A0 l0.length c0, .int .u64 (IntKind.u64.wrap ((a1.size : Int)))] rfl (by (try simp only [List.map_toArray, List.map_cons, List.map_nil]); first | done | rfl | (simp only [List.length_drop, List.length_take]; rfl)) ?_; (with_reducible refine (wire_Put.calls _ _ l0 (IntKind.u64.wrap ((a1.size : Int))) t104 _ ?side1 ?side2 A3.out).mono ?_); (case side1 => repeat (first | exact HR0.out | (with_reducible refine Kd.C_alloc ?_ _) | (with_reducible refine Kd.C_drewN ?_ _) | (with_reducible refine Kd.C_drew ?_))); (case side2 => exact HC0.out); rintro e w5 ⟨v105, rfl, ho0, hb⟩; refine ⟨_, rfl, ?_⟩; have n0_ := Aside0.mk (Kd.R_lower ho0 (below_size (by repeat (first | (with_reducible first | exact HB.out | apply below_alloc | apply pw_below_drewN | apply below_drew1) | exact HB.out)))); have n1_ := Aside0.mk (below_step (by repeat (first | (with_reducible first | exact HB.out | apply below_alloc | apply pw_below_drewN | apply below_drew1) | exact HB.out)) hb); clear HB; have HO106 := n0_; have HB := n1_; clear n0_ n1_; (try clear hb); (try clear hb2); (try clear hk); (try clear hi); (try clear ho0)) | (at_builtin; refine print_append_str (w0 := w) w.heap.size rfl (.tmp 9) _ 23 9 5 rfl Try.underlying23 Try.underlying9 info5 v105 t104 a1 rfl rfl ?aO ?aB ?aS ?aL ?_; (case aB => exact (by repeat (first | (with_reducible first | exact HB.out | apply below_alloc | apply pw_below_drewN | apply below_drew1) | exact HB.out))); (case aO => exact (Kd.own_of_R (by (with_reducible repeat (first | apply Kd.R_alloc | apply Kd.R_drewN | apply Kd.R_drew)); exact HO106.out))); (case aS => exact (below_size (by repeat (first | (with_reducible first | exact HB.out | apply below_alloc | apply pw_below_drewN | apply below_drew1) | exact HB.out)))); (case aL => have := LMc4.out; omega); intro v108 w6 ho0 hb hg; have ho := Kd.R_of_own (h1 := fun _ => rfl) (ok := fun _ => True) ho0 (fun _ _ => trivial); clear ho0; have hat := True.intro; rw [← Ny107.out] at ho; change Kd.R (Kd.int .u8) 5 w6 w.heap.size (fun _ => True) v108 y107 at ho; have n0_ := Aside0.mk (hb); have n1_ := Aside0.mk (ho); clear HB; clear HO106; have HB := n0_; have HO109 := n1_; clear n0_ n1_; clear ho hb hg hat))
    go_ret
    exact ⟨_, by first | rfl | (simp [errW_none, errW_some] <;> rfl) | (simp [*, errW_none, errW_some] <;> rfl), by (with_reducible repeat (first | apply Kd.R_alloc | apply Kd.R_drewN | apply Kd.R_drew)); exact HO109.out, by repeat (first | (with_reducible first | exact HB.out | apply below_alloc | apply pw_below_drewN | apply below_drew1) | exact HB.out)⟩
  · rw [if_neg c4] at H
    exact absurd H (by simp)

end Go.Proofs.Yticpcjjgdkbcjaa.G
end

section
-- Written by a program of this session (wip/tools/myprint.py), over the kit's print.
namespace Go.Proofs.Yticpcjjgdkbcjaa.G
open Go.RowKit Go.Proofs.YticpcjjgdkbcjaaW.PrintWords Go.Proofs.YticpcjjgdkbcjaaW.PrintLast Go.Proofs.YticpcjjgdkbcjaaW.PrintMore
attribute [local go_sem] max2_int min2_int max_two min_two max_three min_three max_four min_four   -- for this text's walks alone
set_option linter.unusedVariables false
set_option linter.unusedSimpArgs false

/-! ### crc_Sum: function 50 -/
def crc_Sum.f (l0 : List Int) : Option (Int) := (crc_Add.f 0 l0).bind fun t111 => (some t111)
set_option maxHeartbeats 8000000 in
set_option maxRecDepth 100000 in
theorem crc_Sum.calls (A0 : Option Addr) (c0 : Nat) (l0 : List Int) (r : Int) (w : World) (hr0 : Kd.C (Kd.int .u8) w A0 l0.length l0) (hc0 : l0.length ≤ c0) (h : crc_Sum.f l0 = some r) :
    Calls Try.prog 50 #[.slice A0 l0.length c0] w fun e w' => e = .returned (.int .u32 r) ∧ Below w.heap.size w w' := by
  have HR0 := Aside0.mk hr0
  have HC0 := Aside0.mk hc0
  clear hr0 hc0
  have HB := Aside0.mk (Below.refl w.heap.size w)
  have H : ((crc_Add.f 0 l0).bind fun t111 => (some t111)) = some r := h
  clear h
  replace H := Option.bind_eq_some_iff.mp H
  obtain ⟨t111, A20, H⟩ := H
  replace H : (some t111) = some r := H
  have A2 := Aside0.mk A20
  clear A20
  obtain rfl := Option.some.inj H
  go_enter Try.func50, Try.ntmps50
  go_wp2_with (first | ((with_reducible refine gate_callee (f := 54) rfl ?_); refine goesL_ (some 4) rfl rfl Try.func54 (by kernel_rfl) rfl #[.int .u32 0, .slice A0 l0.length c0] rfl (by (try simp only [List.map_toArray, List.map_cons, List.map_nil]); first | done | rfl | (simp only [List.length_drop, List.length_take]; rfl)) ?_; (with_reducible refine (crc_Add.calls 0 _ _ l0 t111 _ ?side1 ?side2 A2.out).mono ?_); (case side1 => repeat (first | exact HR0.out | (with_reducible refine Kd.C_alloc ?_ _) | (with_reducible refine Kd.C_drewN ?_ _) | (with_reducible refine Kd.C_drew ?_))); (case side2 => exact HC0.out); rintro e w3 ⟨rfl, hb⟩; refine ⟨_, rfl, ?_⟩; have n0_ := Aside0.mk (below_step (by repeat (first | (with_reducible first | exact HB.out | apply below_alloc | apply pw_below_drewN | apply below_drew1) | exact HB.out)) hb); clear HB; have HB := n0_; clear n0_; (try clear hb); (try clear hb2); (try clear hk); (try clear hi)))
  go_ret
  exact ⟨by first | rfl | (simp [errW_none, errW_some] <;> rfl) | (simp [*, errW_none, errW_some] <;> rfl), by repeat (first | (with_reducible first | exact HB.out | apply below_alloc | apply pw_below_drewN | apply below_drew1) | exact HB.out)⟩

end Go.Proofs.Yticpcjjgdkbcjaa.G
end

section
-- Written by a program of this session (wip/tools/myprint.py), over the kit's print.
namespace Go.Proofs.Yticpcjjgdkbcjaa.G
open Go.RowKit Go.Proofs.YticpcjjgdkbcjaaW.PrintWords Go.Proofs.YticpcjjgdkbcjaaW.PrintLast Go.Proofs.YticpcjjgdkbcjaaW.PrintMore
attribute [local go_sem] max2_int min2_int max_two min_two max_three min_three max_four min_four   -- for this text's walks alone
set_option linter.unusedVariables false
set_option linter.unusedSimpArgs false

-- BY HAND
def zof (l : List Nat) : List Int := l.map fun (n : Nat) => (n : Int)
theorem zof_append (a b : List Nat) : zof (a ++ b) = zof a ++ zof b := by simp [zof]
theorem zof_nats {l : List Int} (h : u8s l) : zof (nats l) = l := by
  unfold zof nats
  rw [List.map_map]
  conv => rhs; rw [← List.map_id l]
  exact List.map_congr_left fun x hx => by have := h x hx; simp; omega
theorem low_take (n k : Nat) (hk : k < 4) : (CrcM.low n).take (k + 1) = (CrcM.low n).take k ++ [n / 2 ^ (8 * k) % 256] := by
  match k, hk with
  | 0, _ => simp [CrcM.low]
  | 1, _ => simp [CrcM.low]
  | 2, _ => simp [CrcM.low]
  | 3, _ => simp [CrcM.low]
def crc_Seal.f (l0 : List Int) : Option (List Int) := if u8s l0 ∧ l0.length ≤ 140737488351232 then some (zof (CrcM.sealB (nats l0))) else none
theorem sum_some {l : List Int} (h : u8s l) : crc_Sum.f l = some ((CrcM.sum (nats l) : Nat) : Int) := by
  unfold crc_Sum.f crc_Add.f
  rw [if_pos ⟨by omega, by omega, h⟩]
  rfl
theorem info_u8 : (Try.prog.info? 5).map (fun i => (i.zero, i.size, i.bytes)) = some (some (.int .u8 0), 1, 1) := by kernel_rfl
theorem size_u8 : (Try.prog.info? 5).map (·.size) = some 1 := by kernel_rfl
set_option maxRecDepth 100000 in
set_option maxHeartbeats 400000 in
theorem crc_Seal.calls (A0 : Option Addr) (c0 : Nat) (l0 : List Int) (r : List Int) (w : World) (hr0 : Kd.C (Kd.int .u8) w A0 l0.length l0) (hc0 : l0.length ≤ c0) (h : crc_Seal.f l0 = some r) :
    Calls Try.prog 39 #[.slice A0 l0.length c0] w fun e w' => ∃ v0_ : Value, e = .returned (v0_) ∧ Kd.R (Kd.int .u8) 5 w' w.heap.size (fun _ => True) v0_ r ∧ Below w.heap.size w w' := by
  have hh0 := h
  clear h
  unfold crc_Seal.f at hh0
  split at hh0
  · rename_i hh
    obtain ⟨hu, hl⟩ := hh
    have H := Aside0.mk (Option.some.inj hh0)
    have HU := Aside0.mk hu
    have HR := Aside0.mk hr0
    clear hh0 hu hr0
    have hmk := make_cap (P := Try.prog) 23 5 .u8 1 Try.underlying23 info_u8 (l0.length : Int) ((l0.length : Int) + 4) (by omega) (by omega) (by omega) (by omega)
    rw [show ((l0.length : Int) + 4).toNat = l0.length + 4 by omega, Int.toNat_natCast] at hmk
    obtain ⟨n, hn⟩ : ∃ n, n = CrcM.sum (nats l0) := ⟨_, rfl⟩
    have hn32 : n < 4294967296 := by rw [hn]; exact CrcM.sum_lt _ (u8s_nats HU.out)
    have hsum := Aside0.mk (show crc_Sum.f l0 = some (n : Int) by rw [hn]; exact sum_some HU.out)
    have Hn := Aside0.mk hn
    clear hn
    go_enter Try.func39, Try.ntmps39
    go_wp2_with (first
      | ((with_reducible refine copy_made (w0 := w) w.heap.size rfl (.tmp 12) (.tmp 13) 23 23 5 .u8 rfl Try.underlying23 size_u8 w.heap.size l0.length (l0.length + 4) (l0.length + 4) A0 c0 l0 rfl rfl rfl (heap_alloc_new w _) rfl (by omega) (by unfold maxLen; omega) (Kd.C_alloc HR.out _) ((Below.refl _ _).alloc (Nat.le_refl _) _) (Nat.le_refl _) ?_); intro w1 HO1 hB1; clear hmk)
      | (go_at_call 50; refine (crc_Sum.calls _ _ l0 (n : Int) _ (Kd.C_below HR.out hB1) hc0 hsum.out).mono ?_; rintro e w2 ⟨rfl, hB2⟩))
    have hB := hB1.trans (hB2.mono hB1.size)
    have HO2 := Aside0.mk (Kd.R_below HO1.out hB2)
    clear HO1 hB1 hB2
    go_wp2_with fail
    go_loopw [3, 17] (fun v i wr => ∃ k : Nat, k ≤ 4 ∧ i = .int .i64 k ∧ Aside0 ((Kd.int .u8).R 5 wr w.heap.size (fun _ => True) v (l0 ++ zof ((CrcM.low n).take k))) ∧ Below w.heap.size w wr) (fun _ i _ => 4 - (intOf i).toNat)
    case atStart => exact ⟨0, by omega, rfl, ⟨by simpa [zof] using HO2.out⟩, hB⟩
    case round =>
      obtain ⟨k, hk, rfl, HO, hBr⟩ := hrel
      by_cases hlt : k < 4
      · have hlk : (l0 ++ zof ((CrcM.low n).take k)).length ≤ l0.length + 4 := by simp [zof]; omega
        have HLK := Aside0.mk hlk
        clear hlk
        go_wp2_with (at_builtin; refine app_num (w0 := w) w.heap.size rfl (.tmp 20) (.tmp 26) 23 5 .u8 1 rfl Try.underlying23 info_u8 (by decide) u3 (l0 ++ zof ((CrcM.low n).take k)) ((n : Int) / 2 ^ (8 * k) % 256) rfl rfl HO.out hBr hBr.size (by have := HLK.out; omega) ?_; intro v1 w1 HO1 hB1; clear HO hBr)
        go_roundw
        case rel => exact ⟨k + 1, by omega, by go_num, ⟨by have h := HO1.out; rwa [low_take n k hlt, zof_append, ← List.append_assoc, show zof [n / 2 ^ (8 * k) % 256] = [(n : Int) / 2 ^ (8 * k) % 256] by simp [zof]]⟩, hB1⟩
        case measure => simp [intOf]; omega
      · obtain rfl : k = 4 := by omega
        go_wp2_with fail
        go_ret
        refine ⟨u3, rfl, ?_, hBr⟩
        have h := HO.out
        rw [show (CrcM.low n).take 4 = CrcM.low n from rfl] at h
        have e : l0 ++ zof (CrcM.low n) = r := by rw [← H.out, CrcM.sealB, zof_append, zof_nats HU.out, Hn.out]
        rwa [e] at h
  · cases hh0

end Go.Proofs.Yticpcjjgdkbcjaa.G
end

section
/- slices.Grow of nothing, and slices.Concat of two rows of bytes. -/
set_option linter.unusedVariables false
set_option linter.unusedSimpArgs false
set_option autoImplicit false
namespace Go.Proofs.Yticpcjjgdkbcjaa
open Go.RowKit Go.Proofs.YticpcjjgdkbcjaaW.PrintWords Go.Proofs.YticpcjjgdkbcjaaW.PrintLast Go.Proofs.YticpcjjgdkbcjaaW.PrintMore

set_option maxRecDepth 100000 in
set_option maxHeartbeats 1000000 in
theorem grow_nil (n : Nat) (hn : n ≤ 100000) (w : World) :
    Calls Try.prog 49 #[.slice none 0 0, .int .i64 n] w fun e w' => ∃ v, e = .returned v ∧ (Kd.int .u8).R 5 w' w.heap.size (fun _ => True) v [] ∧ Below w.heap.size w w' := by
  have hw : wrap64 ((n : Int) - 0) = (n : Int) := by unfold wrap64; omega
  go_enter Try.func49, Try.ntmps49
  by_cases h0 : 0 < n
  · have hinfo : ∃ i : TypeInfo, Try.prog.info? 5 = some i ∧ i.zero = some (.int .u8 0) ∧ i.size = 1 ∧ i.bytes = 1 := ⟨_, rfl, rfl, rfl, rfl⟩
    obtain ⟨i0, hi, hz, hs, hb⟩ := hinfo
    have hrun := fun W => Lib.run_append_nil_zeros (P := Try.prog) W 23 3 23 5 i0 (.int .u8 0) .i64 .i64 Try.underlying23 Try.underlying3 hi hz n h0 (by omega) (by omega) (by rw [hb]; omega)
    clear hi hz hs hb
    go_wp2_with (at_builtin; refine Lib.wpList_append_run _ rfl _ _ _ _ rfl _ _ rfl rfl _ _ (hrun _) ?_)
    go_ret
    refine ⟨_, rfl, ?_, (Below.refl _ _).alloc (Nat.le_refl _) _ |> below_drew⟩
    refine kd_R ⟨by simp [nums], .inr ⟨w.heap.size, grownCap w n 0 5, _, rfl, Nat.le_refl _, heap_alloc_new w _, Nat.zero_le _, grownCap_le_maxLen w n 0 _ (by unfold maxLen; omega), ?_, by simp [nums]⟩⟩
    have hg := grownCap_ge w n 0 5
    rw [Array.size_append, size_zeroCells, size_zeroCells]
    simp
    omega
  · obtain rfl : n = 0 := by omega
    go_wp2
    go_ret
    exact ⟨_, rfl, Kd.R_nil _ _ _ _ _, Below.refl _ _⟩
theorem info_b8 : (Try.prog.info? 5).map (fun i => (i.zero, i.size, i.bytes)) = some (some (.int .u8 0), 1, 1) := by kernel_rfl
theorem HeldB.mono {w : World} {S S' : Nat → Prop} {A : Option Addr} {l : List Int} (h : HeldB w S A l) (hS : ∀ k, S k → S' k) : HeldB w S' A l := by
  intro h0
  obtain ⟨ad, h1, h2, h3⟩ := h h0
  exact ⟨ad, h1, hS _ h2, h3⟩
theorem two_cells {W : World} {b T : Nat} {x y : Value} (h : W.heap[b]? = some (.cells #[x, y] T (0, 0))) :
    W.cell? ⟨b, 0, none⟩ = some x ∧ W.cell? ⟨b, 1, none⟩ = some y :=
  ⟨by rw [cell_of_row _ _ _ _ _ _ h]; rfl, by rw [cell_of_row _ _ _ _ _ _ h]; rfl⟩
theorem vkeepB {W W' : World} {b : Nat} {o : Obj} (h : W.heap[b]? = some o) (hB : Below W.heap.size W W') : W'.heap[b]? = some o := by rw [hB.block _ (lt_of_heap h)]; exact h
theorem vkeepO {W W' : World} {b base : Nat} {o : Obj} (h : W.heap[b]? = some o) (hB : Below base W W') (hb : b < base) : W'.heap[b]? = some o := by rw [hB.block _ hb]; exact h
set_option maxRecDepth 100000 in
set_option maxHeartbeats 2000000 in
theorem concat_two (gc cc : Nat) (A1 : Option Addr) (c1 : Nat) (l1 : List Int) (A2 : Option Addr) (c2 : Nat) (l2 : List Int) (w : World) (hcell : w.heap[gc]? = some (.cells #[.slice A1 l1.length c1, .slice A2 l2.length c2] 23 (0, 0)))
    (h1 : HeldB w (fun k => k < w.heap.size) A1 l1) (h2 : HeldB w (fun k => k < w.heap.size) A2 l2) (hl1 : l1.length ≤ 40000) (hl2 : l2.length ≤ 40000) :
    Calls Try.prog 38 #[.slice (some ⟨gc, 0, none⟩) 2 cc] w fun e w' => ∃ v, e = .returned v ∧ (Kd.int .u8).R 5 w' w.heap.size (fun _ => True) v (l1 ++ l2) ∧ Below w.heap.size w w' := by
  have hgc := lt_of_heap hcell
  obtain ⟨k0, k1⟩ := two_cells hcell
  have HC := Aside0.mk hcell
  have H1 := Aside0.mk h1
  have H2 := Aside0.mk h2
  have HGC := Aside0.mk hgc
  clear hcell h1 h2 hgc
  go_enter Try.func38, Try.ntmps38
  go_wp2_with fail
  go_loop [3, 11] (fun s i => (i = .int .i64 0 ∧ s = .int .i64 0) ∨ (i = .int .i64 1 ∧ s = .int .i64 l1.length) ∨ (i = .int .i64 2 ∧ s = .int .i64 (l1.length + l2.length : Nat))) (fun _ i => 2 - (intOf i).toNat)
  case atStart => exact .inl ⟨rfl, rfl⟩
  case round =>
    rcases hrel with ⟨rfl, rfl⟩ | ⟨rfl, rfl⟩ | ⟨rfl, rfl⟩
    · go_wp2_with fail
      exact ⟨.inr (.inl ⟨rfl, rfl⟩), by simp [intOf]⟩
    · go_wp2_with fail
      exact ⟨.inr (.inr ⟨rfl, by simp⟩), by simp [intOf]⟩
    · go_wp2_with fail
      refine (grow_nil (l1.length + l2.length) (by omega) w).mono ?_
      rintro e w2 ⟨v0, rfl, hR, hB⟩
      have HB2 := Aside0.mk hB
      have HC2 := Aside0.mk (vkeepB HC.out hB)
      have H12 := Aside0.mk (H1.out.below hB)
      have H22 := Aside0.mk (H2.out.below hB)
      have HO2 := Aside0.mk hR
      clear hB hR HC H1 H2 k0 k1
      go_wp2_with fail
      go_loopw [6, 27] (fun v i wr => ∃ (k : Nat) (xs : List Int), k ≤ 2 ∧ i = .int .i64 k ∧ Aside0 (xs = if k = 0 then [] else if k = 1 then l1 else l1 ++ l2) ∧ Aside0 ((Kd.int .u8).R 5 wr w.heap.size (fun _ => True) v xs) ∧ Aside0 (wr.heap[gc]? = some (.cells #[.slice A1 l1.length c1, .slice A2 l2.length c2] 23 (0, 0))) ∧ Aside0 (HeldB wr (fun k => k < w.heap.size) A1 l1) ∧ Aside0 (HeldB wr (fun k => k < w.heap.size) A2 l2) ∧ Below w.heap.size w wr) (fun _ i _ => 2 - (intOf i).toNat)
      case atStart => exact ⟨0, [], by omega, rfl, ⟨rfl⟩, ⟨HO2.out⟩, ⟨HC2.out⟩, ⟨H12.out⟩, ⟨H22.out⟩, HB2.out⟩
      case round =>
        clear HO2 HC2 H12 H22 HB2
        obtain ⟨k, xs, hk, rfl, HX, HO, HC, H1, H2, hBr⟩ := hrel
        have HBR := Aside0.mk hBr
        clear hBr
        obtain ⟨k0, k1⟩ := two_cells HC.out
        have hk3 : k = 0 ∨ k = 1 ∨ k = 2 := by omega
        clear hk
        obtain ⟨Ab, cb, rfl, hcb, _⟩ := own_C HO.out
        rcases hk3 with rfl | rfl | rfl
        · have hx : xs = [] := HX.out
          subst hx
          go_wp2_with (at_builtin; refine print_append_row (w0 := w) w.heap.size rfl (.tmp 31) (.tmp 32) 23 5 .u8 1 rfl Try.underlying23 info_b8 (by decide) (.slice Ab 0 cb) ([] : List Int) l1 A1 l1.length c1 rfl rfl (kd_own HO.out) (Kd.reads_of_C (d := (0 : Int)) (H1.out.C (by omega))) HBR.out HBR.out.size (by simp; omega) ?_; intro v3 w3 ho3 hB3 hG3 _)
          have HK : Aside0 (∀ k, k < w.heap.size → w3.heap[k]? = wr.heap[k]?) := ⟨fun k hk => by rw [hB3.block k hk, HBR.out.block k hk]⟩
          have HC3 : Aside0 (w3.heap[gc]? = some (.cells #[.slice A1 l1.length c1, .slice A2 l2.length c2] 23 (0, 0))) := ⟨by rw [HK.out gc HGC.out]; exact HC.out⟩
          have H13 := Aside0.mk (H1.out.keep fun k _ hs => HK.out k hs)
          have H23 := Aside0.mk (H2.out.keep fun k _ hs => HK.out k hs)
          have HO3 := Aside0.mk (kd_R ho3)
          have HB3 := Aside0.mk hB3
          clear ho3 hB3 hG3 HO HC H1 H2 HBR k0 k1
          go_wp2_with fail
          exact ⟨⟨1, _, by omega, rfl, ⟨by simp⟩, ⟨HO3.out⟩, ⟨HC3.out⟩, ⟨H13.out⟩, ⟨H23.out⟩, HB3.out⟩, by simp [intOf]⟩
        · have hx : xs = l1 := HX.out
          subst hx
          go_wp2_with (at_builtin; refine print_append_row (w0 := w) w.heap.size rfl (.tmp 31) (.tmp 32) 23 5 .u8 1 rfl Try.underlying23 info_b8 (by decide) (.slice Ab xs.length cb) xs l2 A2 l2.length c2 rfl rfl (kd_own HO.out) (Kd.reads_of_C (d := (0 : Int)) (H2.out.C (by omega))) HBR.out HBR.out.size (by simp; omega) ?_; intro v3 w3 ho3 hB3 hG3 _)
          have HK : Aside0 (∀ k, k < w.heap.size → w3.heap[k]? = wr.heap[k]?) := ⟨fun k hk => by rw [hB3.block k hk, HBR.out.block k hk]⟩
          have HC3 : Aside0 (w3.heap[gc]? = some (.cells #[.slice A1 xs.length c1, .slice A2 l2.length c2] 23 (0, 0))) := ⟨by rw [HK.out gc HGC.out]; exact HC.out⟩
          have H13 := Aside0.mk (H1.out.keep fun k _ hs => HK.out k hs)
          have H23 := Aside0.mk (H2.out.keep fun k _ hs => HK.out k hs)
          have HO3 := Aside0.mk (kd_R ho3)
          have HB3 := Aside0.mk hB3
          clear ho3 hB3 hG3 HO HC H1 H2 HBR k0 k1
          go_wp2_with fail
          exact ⟨⟨2, _, by omega, rfl, ⟨by simp⟩, ⟨HO3.out⟩, ⟨HC3.out⟩, ⟨H13.out⟩, ⟨H23.out⟩, HB3.out⟩, by simp [intOf]⟩
        · have hx : xs = l1 ++ l2 := HX.out
          go_wp2_with fail
          go_ret
          exact ⟨_, rfl, by rw [← hx]; exact HO.out, HBR.out⟩
end Go.Proofs.Yticpcjjgdkbcjaa
end

section
-- Written by a program of this session (wip/tools/myprint.py), over the kit's print.
namespace Go.Proofs.Yticpcjjgdkbcjaa.G
open Go.RowKit Go.Proofs.YticpcjjgdkbcjaaW.PrintWords Go.Proofs.YticpcjjgdkbcjaaW.PrintLast Go.Proofs.YticpcjjgdkbcjaaW.PrintMore
attribute [local go_sem] max2_int min2_int max_two min_two max_three min_three max_four min_four   -- for this text's walks alone
set_option linter.unusedVariables false
set_option linter.unusedSimpArgs false

-- BY HAND
-- IMPORT YticpcjjgdkbcjaaConcat
-- over: crc_Seal.f
def frame_Make.f (l0 : List Int) : Option (List Int × Int) := if 8192 < l0.length then some ([], 4) else (crc_Seal.f [(l0.length : Int) % 256, (l0.length : Int) / 256]).bind fun h => (crc_Seal.f l0).bind fun t => if h.length ≤ 40000 ∧ t.length ≤ 40000 then some (h ++ t, 0) else none
set_option maxRecDepth 100000 in
set_option maxHeartbeats 2000000 in
theorem frame_Make.calls (A0 : Option Addr) (c0 : Nat) (l0 : List Int) (r1 : List Int) (r2 : Int) (w : World) (hr0 : Kd.C (Kd.int .u8) w A0 l0.length l0) (hc0 : l0.length ≤ c0) (h : frame_Make.f l0 = some (r1, r2)) :
    Calls Try.prog 20 #[.slice A0 l0.length c0] w fun e w' => ∃ v0_ : Value, e = .returned (.tuple #[v0_, .int .i64 r2]) ∧ Kd.R (Kd.int .u8) 5 w' w.heap.size (fun _ => True) v0_ r1 ∧ Below w.heap.size w w' := by
  unfold frame_Make.f at h
  by_cases hbig : 8192 < l0.length
  · rw [if_pos hbig] at h
    obtain ⟨rfl, rfl⟩ := Prod.mk.inj (Option.some.inj h)
    clear h
    go_enter Try.func20, Try.ntmps20
    go_wp2
    go_ret2
    exact ⟨_, rfl, Kd.R_nil _ _ _ _ _, Below.refl _ _⟩
  · rw [if_neg hbig] at h
    obtain ⟨hd, h1, h⟩ := Option.bind_eq_some_iff.mp h
    obtain ⟨tl, h2, h⟩ := Option.bind_eq_some_iff.mp h
    split at h
    · rename_i hlen
      obtain ⟨rfl, rfl⟩ := Prod.mk.inj (Option.some.inj h)
      clear h
      have HR := Aside0.mk (HeldB.low hr0)
      have E1 := Aside0.mk h1
      have E2 := Aside0.mk h2
      have HL := Aside0.mk hlen
      clear hr0 h1 h2 hlen
      have hsmall : l0.length ≤ 8192 := by omega
      go_enter Try.func20, Try.ntmps20
      go_wp2_with fail
      refine (crc_Seal.calls _ _ [(l0.length : Int) % 256, (l0.length : Int) / 256] hd _ (lit_C w 5 .u8 [(l0.length : Int) % 256, (l0.length : Int) / 256] (by simp)) (Nat.le_refl _) E1.out).mono ?_
      rintro e w2 ⟨v2, rfl, hRr, hB⟩
      obtain ⟨Ah, ch, rfl, hch, _, hH, _⟩ := held_own hRr
      have HB2 : Aside0 (Below w.heap.size w w2) := ⟨((Below.refl _ _).alloc (Nat.le_refl _) _).trans (hB.mono (by simp))⟩
      have HR2 := Aside0.mk ((HR.out.below ((Below.refl _ _).alloc (Nat.le_refl _) _)).below hB)
      have HH2 := Aside0.mk (hH.mono (S' := fun k => k < w2.heap.size) (fun k hk => hk.2))
      clear hRr hB hH HR
      go_wp2_with fail
      refine (crc_Seal.calls _ _ l0 tl _ (HR2.out.C (by omega)) hc0 E2.out).mono ?_
      rintro e w3 ⟨v3, rfl, hRr, hB⟩
      obtain ⟨At, ct, rfl, hct, _, hH, _⟩ := held_own hRr
      have HB3 : Aside0 (Below w.heap.size w w3) := ⟨HB2.out.trans (hB.mono HB2.out.size)⟩
      have hs3 := hB.size
      have HH3 := Aside0.mk ((HH2.out.below hB).mono (S' := fun k => k < w3.heap.size) (fun k hk => by omega))
      have HT3 := Aside0.mk (hH.mono (S' := fun k => k < w3.heap.size) (fun k hk => hk.2))
      clear hRr hB hH HR2 HB2 HH2 hs3
      go_wp2_with fail
      have hba := (Below.refl w3.heap.size w3).alloc (Nat.le_refl _) (.cells #[.slice Ah hd.length ch, .slice At tl.length ct] 23)
      have hcell := heap_alloc_new w3 (.cells #[.slice Ah hd.length ch, .slice At tl.length ct] 23)
      refine (concat_two w3.heap.size 2 Ah ch hd At ct tl _ hcell ((HH3.out.below hba).mono (fun k hk => by simp; omega)) ((HT3.out.below hba).mono (fun k hk => by simp; omega)) HL.out.1 HL.out.2).mono ?_
      rintro e w4 ⟨v4, rfl, hRr, hB⟩
      have HB4 : Aside0 (Below w.heap.size w w4) := ⟨(HB3.out.alloc HB3.out.size _).trans (hB.mono (by have := HB3.out.size; simp; omega))⟩
      have hRl := Kd.R_lower hRr (base' := w.heap.size) (by have := HB3.out.size; simp; omega)
      clear hRr hB hba hcell
      go_wp2
      go_ret2
      exact ⟨_, rfl, hRl, HB4.out⟩
    · cases h

end Go.Proofs.Yticpcjjgdkbcjaa.G
end
