import Derived.Test.YtojefdnngkcaoaaWWords
import Derived.Test.YtojefdnngkcaoaaWLast
import Derived.Laws.CopyOwn
import Derived.Laws.Tables
import Derived.Lib.SliceRun
import Derived.ArgAppend
import Derived.Lib.SlBytesConst
import Derived.Laws.BitsAllLaws
import Derived.Laws.DeepNot64
import Derived.Test.YtojefdnngkcaoaaProg
import Derived.Below
import Derived.Deep.Draws
import Derived.Deep.AppendLies
import Derived.Maps.AppendAt
import Derived.OwnWalk
import Derived.Laws.BytesArg
import Derived.Laws.MakeOwn
import Derived.Laws.OwnMore
import Derived.Deep.OwnRows
import Derived.Tactics
import Derived.Lib.ConvBytes
import Derived.Laws.Slices
import Derived.WalkKit
import Derived.KernelRfl
import Derived.RowKit3
import Derived.Deep.LoopGhost
import Derived.Deep.QuietTactic
import Derived.BigQuiet
import Derived.WideLaws
import Derived.Deep.DeepCutAuto
import Derived.Deep.CutBlock
import Derived.Deep.RegionHeld3
import Derived.Laws.Rows
import Derived.Lib.AppendStr
import Derived.Laws.IdiomCopy
import Derived.OrdersHeld
import Derived.Laws.BitsLemmas
import Derived.RowKit
import Derived.Test.YtojefdnngkcaoaaWTab
import Derived.Test.YtojefdnngkcaoaaWEqStruct
import Derived.Test.YtojefdnngkcaoaaWRepsOne
import Derived.Test.YtojefdnngkcaoaaWGuard
import Derived.Lib.Strings
import Derived.Lib.Slices
import Derived.Lib.Walk
import Derived.Lib.Bytealg
section
namespace Go.Proofs.YtojefdnngkcaoaaW.PrintMore
open Go.RowKit Go.Proofs.YtojefdnngkcaoaaW.PrintWords
/-- 'max' and 'min' of two whole numbers. -/
theorem max2_int (k k' : IntKind) (x y : Int) : Builtin.max2 (.int k x) (.int k' y) = pure (.int k (if x < y then y else x)) := by simp only [Builtin.max2, gt_iff_lt]
theorem min2_int (k k' : IntKind) (x y : Int) : Builtin.min2 (.int k x) (.int k' y) = pure (.int k (if y < x then y else x)) := by simp only [Builtin.min2]
theorem max_two (ats : Array TypeId) (ty : TypeId) (a b : Value) : Builtin.max_ ats ty #[a, b] = (Builtin.max2 a b >>= fun s => pure s) := by simp only [Builtin.max_, List.foldlM_cons, List.foldlM_nil]
theorem min_two (ats : Array TypeId) (ty : TypeId) (a b : Value) : Builtin.min_ ats ty #[a, b] = (Builtin.min2 a b >>= fun s => pure s) := by simp only [Builtin.min_, List.foldlM_cons, List.foldlM_nil]
theorem max_three (ats : Array TypeId) (ty : TypeId) (a b c : Value) : Builtin.max_ ats ty #[a, b, c] = (Builtin.max2 a b >>= fun s => Builtin.max2 s c >>= fun s => pure s) := by simp only [Builtin.max_, List.foldlM_cons, List.foldlM_nil]
theorem min_three (ats : Array TypeId) (ty : TypeId) (a b c : Value) : Builtin.min_ ats ty #[a, b, c] = (Builtin.min2 a b >>= fun s => Builtin.min2 s c >>= fun s => pure s) := by simp only [Builtin.min_, List.foldlM_cons, List.foldlM_nil]
theorem max_four (ats : Array TypeId) (ty : TypeId) (a b c d : Value) : Builtin.max_ ats ty #[a, b, c, d] = (Builtin.max2 a b >>= fun s => Builtin.max2 s c >>= fun s => Builtin.max2 s d >>= fun s => pure s) := by simp only [Builtin.max_, List.foldlM_cons, List.foldlM_nil]
theorem min_four (ats : Array TypeId) (ty : TypeId) (a b c d : Value) : Builtin.min_ ats ty #[a, b, c, d] = (Builtin.min2 a b >>= fun s => Builtin.min2 s c >>= fun s => Builtin.min2 s d >>= fun s => pure s) := by simp only [Builtin.min_, List.foldlM_cons, List.foldlM_nil]
end Go.Proofs.YtojefdnngkcaoaaW.PrintMore
namespace Go.Proofs.YtojefdnngkcaoaaW.PrintWords
open Go.RowKit
section
variable {P : Program} {ops : Array Oper} {rest : List Oper} {o : Oper} {a : Act} {Q : Exit → Act → World → Prop} {W : World}
/-- The operation is a call of this function (a cheap look ahead of a dear step). -/
theorem gate_callee {f : FuncId} {xs : Array Operand} {ts : Array TypeId} (_ho : o.op = .call { callee := .value (.func f), args := xs, argTypes := ts }) (h : wpList P ops Q (o :: rest) a W) : wpList P ops Q (o :: rest) a W := h
/-- The operation is a builtin over these places. -/
theorem gate_builtin {b : Builtin} {xs : Array Operand} {ts : Array TypeId} (_ho : o.op = .call { callee := .builtin b, args := xs, argTypes := ts }) (h : wpList P ops Q (o :: rest) a W) : wpList P ops Q (o :: rest) a W := h
end
end Go.Proofs.YtojefdnngkcaoaaW.PrintWords
end

section
set_option linter.unusedVariables false
set_option linter.unusedSimpArgs false
namespace Go.Proofs.Ytojefdnngkcaoaa
open Go.RowKit Go.Proofs.YtojefdnngkcaoaaW.PrintWords Go.Proofs.YtojefdnngkcaoaaW.PrintLast Go.Proofs.YtojefdnngkcaoaaW.PrintMore

theorem kd_own {W : World} {base e : Nat} {k : IntKind} {ok : Nat → Prop} {v : Value} {xs : List Int} (h : (Kd.int k).R e W base ok v xs) : W.ownsRow base e 1 v xs.length (nums k xs) := Kd.own_of_R h
theorem kd_R {W : World} {base e : Nat} {k : IntKind} {v : Value} {xs : List Int} (h : W.ownsRow base e 1 v xs.length (nums k xs)) : (Kd.int k).R e W base (fun _ => True) v xs := Kd.R_of_own h (fun _ _ => trivial)

section
variable {P : Program} {ops : Array Oper} {rest : List Oper} {o : Oper} {a : Act} {Q : Exit → Act → World → Prop}
/-- append(v, y), one whole number, to a row of the call's own -/
theorem app_num {w0 W : World} (base : Nat) (hgd : o.guard = none) (s x : Operand) (t e : TypeId) (k : IntKind) (bytes : Nat)
    (ho : o.op = .call { callee := .builtin .append, args := #[s, x], argTypes := #[t, t] })
    (ht : P.underlying t = some (.slice e)) (hinfo : (P.info? e).map (fun i => (i.zero, i.size, i.bytes)) = some (some (.int k 0), 1, bytes)) (hb0 : 0 < bytes)
    (v : Value) (xs : List Int) (y : Int) (hs : a.eval s = v) (hx : a.eval x = .slice (some ⟨W.heap.size, 0, none⟩) 1 1)
    (HO : (Kd.int k).R e W base (fun _ => True) v xs) (HB : Below base w0 W) (hbase : base ≤ W.heap.size) (hl : (xs.length + 1) * bytes ≤ 140737488355328)
    (h : ∀ v1 w1, Aside0 ((Kd.int k).R e w1 base (fun _ => True) v1 (xs ++ [y])) → Below base w0 w1 → wpList P ops Q rest (a.put o.dst v1) w1) :
    wpList P ops Q (o :: rest) a (W.alloc (.cells #[.int k y] e)) :=
  print_append_num base hgd s x t e k bytes ho ht hinfo hb0 v xs y hs hx (kd_own HO) HB hbase hl fun v1 w1 ho hB _ _ => h v1 w1 ⟨kd_R ho⟩ hB

/-- copy(dst, src) where dst is as long as src and was just made: what dst then is -/
theorem copy_made {w0 W : World} (base : Nat) (hgd : o.guard = none) (d s : Operand) (dT sT e : TypeId) (k : IntKind)
    (ho : o.op = .call { callee := .builtin .copy, args := #[d, s], argTypes := #[dT, sT] })
    (hu : P.underlying dT = some (.slice e)) (hsz : (P.info? e).map (·.size) = some 1)
    (g n dc C : Nat) (A : Option Addr) (c : Nat) (xs : List Int) (hn : xs.length = n)
    (hd : a.eval d = .slice (some ⟨g, 0, none⟩) n dc) (hs : a.eval s = .slice A n c)
    (hg : W.heap[g]? = some (.cells (madeCells #[.int k 0] C) e (0, 0))) (hC : dc = C) (hnC : n ≤ C) (hC2 : C ≤ maxLen)
    (hr : (Kd.int k).C W A n xs) (HB : Below base w0 W) (hbg : base ≤ g)
    (h : ∀ w1, Aside0 ((Kd.int k).R e w1 base (fun _ => True) (.slice (some ⟨g, 0, none⟩) n dc) xs) → Below base w0 w1 → wpList P ops Q rest (a.put o.dst (goInt n)) w1) :
    wpList P ops Q (o :: rest) a W := by
  subst hC
  have hreads := Kd.reads_of_C (d := (0 : Int)) hr
  have hlen : (nums k xs).length = n := by rw [nums_length]; exact hn
  have hcl : (madeCells #[.int k 0] dc).toList.length = dc := by simp [madeCells]
  refine wpList_copy_splice hgd d s dT sT ho e hu hsz (some ⟨g, 0, none⟩) A n dc n c hd hs g 0 (madeCells #[.int k 0] dc).toList e (by simpa using hg) (nums k xs) (by rw [hlen]; simp) ?_ (by rw [hlen, hcl]; omega) ?_ base w0 HB hbg ?_
  · intro h0
    refine ⟨rfl, ?_⟩
    obtain ⟨ad, hA, hc⟩ := hreads.2.2 (by omega)
    refine ⟨ad, hA, fun j v hj => ?_⟩
    simp only [nums, List.getElem?_map, Option.map_eq_some_iff] at hj
    obtain ⟨x, hx, rfl⟩ := hj
    have hjn : j < n := by have := (List.getElem?_eq_some_iff.1 hx).1; omega
    have := hc j hjn
    rw [List.getD_eq_getElem?_getD, hx] at this
    simpa using this
  · intro v hv
    simp only [nums, List.mem_map] at hv
    obtain ⟨x, _, rfl⟩ := hv
    rfl
  · intro w1 H1 hB1
    rw [hlen]
    refine h w1 ⟨kd_R ⟨by rw [hlen, hn]; simp, .inr ⟨g, dc, _, by rw [hn], hbg, H1.out, by omega, hC2, ?_, ?_⟩⟩⟩ hB1
    · have := length_splice (madeCells #[.int k 0] dc).toList 0 (nums k xs) (by rw [hlen, hcl]; omega)
      simp only [List.size_toArray]
      rw [this, hcl, Nat.mul_one]
    · simp only [splice, List.take_zero, List.nil_append, Nat.zero_add]
      rw [Nat.mul_one, List.take_append_of_le_length (by rw [hlen, hn]; exact Nat.le_refl _), List.take_of_length_le (by rw [hlen, hn]; exact Nat.le_refl _)]
end

/-- make([]T, n, c) of whole numbers -/
theorem make_cap {P : Program} (t e : TypeId) (k : IntKind) (bytes : Nat) (ht : P.underlying t = some (.slice e)) (hinfo : (P.info? e).map (fun i => (i.zero, i.size, i.bytes)) = some (some (.int k 0), 1, bytes))
    (n c : Int) (hn : 0 ≤ n) (hnc : n ≤ c) (hb : (bytes : Int) * c ≤ 281474976710656) (hc : c ≤ 9223372036854775807) (W : World) :
    (Instr.makeSlice t (.int .i64 n) (.int .i64 c)).run P W = .ok (.slice (some ⟨W.heap.size, 0, none⟩) n.toNat c.toNat) (W.alloc (.cells (madeCells #[.int k 0] c.toNat) e)) := by
  obtain ⟨i0, hi, hz⟩ := Option.map_eq_some_iff.1 hinfo
  simp only [Prod.mk.injEq] at hz
  obtain ⟨hz0, hz1, hz2⟩ := hz
  have h := run_make (P := P) (w := W) t e i0 (.int k 0) ht hi hz0 .i64 .i64 n c hn hnc (by rw [hz2]; exact hb) hc
  rw [hz1, Nat.mul_one] at h
  simpa [Value.cells] using h

theorem pow_min8 (n : Nat) : (2 : Int) ^ min n 8 % 256 = 2 ^ n % 256 := by
  by_cases h : n ≤ 8
  · rw [Nat.min_eq_left h]
  · rw [Nat.min_eq_right (by omega)]
    obtain ⟨m, rfl⟩ : ∃ m, n = 8 + m := ⟨n - 8, by omega⟩
    rw [Int.pow_add, show (2 : Int) ^ 8 = 256 from rfl, Int.mul_emod_right]; rfl
/-- a literal's cells, just laid -/
theorem lit_C (W : World) (e : TypeId) (k : IntKind) (xs : List Int) (hl : xs.length ≤ 9223372036854775807) (fr : Nat × Nat := (0, 0)) : (Kd.int k).C (W.alloc (.cells (nums k xs).toArray e fr)) (some ⟨W.heap.size, 0, none⟩) xs.length xs := by
  refine Kd.C_of_reads (d := (0 : Int)) ⟨rfl, hl, fun _ => ⟨_, rfl, fun j hj => ?_⟩⟩
  have hadd : (⟨W.heap.size, 0, none⟩ : Addr).add j = ⟨W.heap.size, j, none⟩ := add_plain _ _
  rw [hadd, cell_of_row _ _ _ _ _ _ (heap_alloc_new W _)]
  simp [nums, hj, List.getD_eq_getElem?_getD]
theorem nil_C (W : World) (k : IntKind) : (Kd.int k).C W none 0 ([] : List Int) := Kd.C_nil _ _
/-- what is owned reads -/
theorem own_C {W : World} {base e : Nat} {k : IntKind} {ok : Nat → Prop} {v : Value} {xs : List Int} (h : (Kd.int k).R e W base ok v xs) : ∃ A c, v = .slice A xs.length c ∧ xs.length ≤ c ∧ (Kd.int k).C W A xs.length xs := Kd.R_reads h

/-- a slice that is the call's own, or one without spare room that only reads: what is appended lies in memory of the call's own -/
def Outs (k : IntKind) (e : Nat) (W : World) (base : Nat) (v : Value) (xs : List Int) : Prop :=
  (Kd.int k).R e W base (fun _ => True) v xs ∨ (∃ A, v = .slice A xs.length xs.length ∧ (Kd.int k).C W A xs.length xs ∧ (A = none → xs.length = 0))
section
variable {P : Program} {ops : Array Oper} {rest : List Oper} {o : Oper} {a : Act} {Q : Exit → Act → World → Prop}
theorem app_outs {w0 W : World} (base : Nat) (hgd : o.guard = none) (s x : Operand) (t e : TypeId) (k : IntKind) (bytes : Nat)
    (ho : o.op = .call { callee := .builtin .append, args := #[s, x], argTypes := #[t, t] })
    (ht : P.underlying t = some (.slice e)) (hinfo : (P.info? e).map (fun i => (i.zero, i.size, i.bytes)) = some (some (.int k 0), 1, bytes)) (hb0 : 0 < bytes)
    (v : Value) (xs : List Int) (y : Int) (hs : a.eval s = v) (hx : a.eval x = .slice (some ⟨W.heap.size, 0, none⟩) 1 1)
    (HO : Outs k e W base v xs) (HB : Below base w0 W) (hbase : base ≤ W.heap.size) (hl : (xs.length + 1) * bytes ≤ 140737488355328)
    (h : ∀ v1 w1, Aside0 ((Kd.int k).R e w1 base (fun _ => True) v1 (xs ++ [y])) → Below base w0 w1 → wpList P ops Q rest (a.put o.dst v1) w1) :
    wpList P ops Q (o :: rest) a (W.alloc (.cells #[.int k y] e)) := by
  rcases HO with HO | ⟨A, rfl, hC, hn⟩
  · exact app_num base hgd s x t e k bytes ho ht hinfo hb0 v xs y hs hx HO HB hbase hl h
  · obtain ⟨i0, hi, hzz⟩ := Option.map_eq_some_iff.1 hinfo
    simp only [Prod.mk.injEq] at hzz
    obtain ⟨hz0, hz1, hz2⟩ := hzz
    have hlen : xs.length + 1 ≤ 140737488355328 := Nat.le_trans (Nat.le_mul_of_pos_right _ hb0) hl
    have hC2 := Kd.C_alloc hC (.cells #[.int k y] e)
    refine wpList_append_grows (W.alloc (.cells #[.int k y] e)) hgd s x t ho e i0 (.int k 0) 1 bytes ht hi hz0 hz1 hz2 rfl (by decide) A xs.length xs.length (nums k xs) hs (fun hA => ⟨hn hA, hn hA⟩) (by rw [nums_length, Nat.mul_one]) ?_ ⟨W.heap.size, 0, none⟩ 1 1 [.int k y] hx rfl
      (World.news_of_block (cs := #[.int k y]) (t := e) (fr := (0, 0)) (heap_alloc_new W _)) (by simp [Value.oneCell']) (by omega) (by simp only [maxLen]; omega) hl ?_
    · rintro b rfl j u hj
      simp only [nums, List.getElem?_map, Option.map_eq_some_iff] at hj
      obtain ⟨z, hz, rfl⟩ := hj
      obtain ⟨_, _, hr⟩ := Kd.reads_of_C (d := (0 : Int)) hC2
      have hjl := (List.getElem?_eq_some_iff.1 hz).1
      obtain ⟨ad, e1, hc⟩ := hr (by omega)
      cases e1
      have := hc j hjl
      rw [List.getD_eq_getElem?_getD, hz] at this
      simpa using this
    · intro v1 w1 ho1 hg1
      refine h v1 w1 ⟨kd_R ?_⟩ ((HB.alloc hbase _).grown hg1 (by simp; omega) (fun k hk => by cases hk))
      have h2 : w1.ownsRow (W.alloc (.cells #[.int k y] e)).heap.size e 1 v1 (xs ++ [y]).length (nums k (xs ++ [y])) := by
        rw [nums_append, List.length_append]; exact ho1
      exact own_weaken h2 (by simp; omega)
end
theorem outs_below {k : IntKind} {e : Nat} {W W1 : World} {base : Nat} {v : Value} {xs : List Int} (h : Outs k e W base v xs) (hb : Below W.heap.size W W1) : Outs k e W1 base v xs := by
  rcases h with h | ⟨A, rfl, hC, hn⟩
  · exact .inl (Kd.R_below h hb)
  · exact .inr ⟨A, rfl, Kd.C_below hC hb, hn⟩
end Go.Proofs.Ytojefdnngkcaoaa
end

section
set_option linter.unusedVariables false
set_option linter.unusedSimpArgs false
namespace Go.Proofs.Ytojefdnngkcaoaa
open Go.RowKit Go.Proofs.YtojefdnngkcaoaaW.PrintWords Go.Proofs.YtojefdnngkcaoaaW.PrintLast Go.Proofs.YtojefdnngkcaoaaW.PrintMore

/-! ### bytes as numbers -/
def u8s (l : List Int) : Prop := ∀ x ∈ l, 0 ≤ x ∧ x < 256
instance (l : List Int) : Decidable (u8s l) := inferInstanceAs (Decidable (∀ x ∈ l, 0 ≤ x ∧ x < 256))
theorem rd_u8 {l : List Int} (h : u8s l) (k : Nat) (hk : k < l.length) : 0 ≤ rd l k ∧ rd l k < 256 := by
  have := h (l[k]) (List.getElem_mem hk)
  simpa [rd, List.getD_eq_getElem?_getD, hk] using this
theorem u8s_drop {l : List Int} (h : u8s l) (n : Nat) : u8s (l.drop n) := fun x hx => h x (List.mem_of_mem_drop hx)
theorem u8s_take {l : List Int} (h : u8s l) (n : Nat) : u8s (l.take n) := fun x hx => h x (List.mem_of_mem_take hx)
theorem u8s_nil : u8s [] := fun x hx => by cases hx
theorem u8s_append {a b : List Int} : u8s (a ++ b) ↔ u8s a ∧ u8s b := by
  unfold u8s
  constructor
  · intro h; exact ⟨fun x hx => h x (List.mem_append_left _ hx), fun x hx => h x (List.mem_append_right _ hx)⟩
  · rintro ⟨h1, h2⟩ x hx
    rcases List.mem_append.1 hx with h | h
    · exact h1 x h
    · exact h2 x h

/-! ### a scan: what is left, and the error; where the bytes lie (S) -/
structure Sc where
  l : List Int
  e : Int
def Sc.fail (s : Sc) (e : Int) : Sc := if e = 0 then s else ⟨[], if s.e = 0 then e else s.e⟩
def numGo (s : Sc) : Nat → Nat → Int → Int × Sc
  | 0, _, _ => (0, s)
  | f + 1, k, n =>
    if k = s.l.length then (0, s.fail 2)
    else if (k = 9 ∧ rd s.l k ≠ 1) ∨ (0 < k ∧ rd s.l k = 0) then (0, s.fail 3)
    else if rd s.l k < 128 then (n + rd s.l k % 128 * 128 ^ k, ⟨s.l.drop (k + 1), s.e⟩)
    else numGo s f (k + 1) (n + rd s.l k % 128 * 128 ^ k)
def Sc.num (s : Sc) : Int × Sc := if s.e = 0 then numGo s 10 0 0 else (0, s)
def Sc.upto (s : Sc) (most : Int) : Int × Sc :=
  if s.num.2.e = 0 ∧ (most < 0 ∨ most < s.num.1) then (0, s.num.2.fail 4) else (wrap64 s.num.1, s.num.2)
def zag (n : Int) : Int := if n % 2 = 1 then -1 - n / 2 else n / 2
def Sc.int (s : Sc) : Int × Sc := (zag s.num.1, s.num.2)
def Sc.text (s : Sc) (most : Int) : List Int × Sc :=
  if (s.upto most).2.e = 0 then
    if (s.upto most).1 > (s.upto most).2.l.length then ([], (s.upto most).2.fail 2)
    else ((s.upto most).2.l.take (s.upto most).1.toNat, ⟨(s.upto most).2.l.drop (s.upto most).1.toNat, 0⟩)
  else ([], (s.upto most).2)
def Sc.endE (s : Sc) : Int := if s.e = 0 ∧ 0 < s.l.length then 5 else s.e

/-- the bytes that a slice of a scan tells -/
def HeldB (w : World) (S : Nat → Prop) (A : Option Addr) (l : List Int) : Prop :=
  0 < l.length → ∃ ad, A = some ad ∧ S ad.block ∧ ∀ j, j < l.length → w.cell? (ad.add j) = some (.int .u8 (rd l j))
structure Scn (T : Nat) (S : Nat → Prop) (w : World) (g : Nat) (s : Sc) : Prop where
  u8 : u8s s.l
  err : s.e ≠ 0 → s.l = []
  ne : ¬ S g
  short : s.l.length ≤ 140737488355328
  wide : -9223372036854775808 ≤ s.e ∧ s.e < 9223372036854775808
  mem : ∃ A c, w.heap[g]? = some (.cells #[.slice A s.l.length c, .int .i64 s.e] T (0, 0)) ∧ s.l.length ≤ c ∧ c ≤ 9223372036854775807 ∧ HeldB w S A s.l

theorem lt_of_heap {w : World} {g : Nat} {o : Obj} (h : w.heap[g]? = some o) : g < w.heap.size := (Array.getElem?_eq_some_iff.1 h).1
theorem HeldB.keep {w w' : World} {S : Nat → Prop} {A : Option Addr} {l : List Int} (h : HeldB w S A l) (hk : ∀ k, k < w.heap.size → S k → w'.heap[k]? = w.heap[k]?) : HeldB w' S A l := by
  intro hl
  obtain ⟨ad, rfl, hS, hc⟩ := h hl
  refine ⟨ad, rfl, hS, fun j hj => ?_⟩
  have h1 := hc j hj
  have hlt := World.block_lt_of_cell? w _ h1
  have hb : (ad.add j).block = ad.block := add_block _ _
  rw [World.cell?_of_block (w := w) (by rw [hb]; exact hk _ (by rwa [hb] at hlt) hS)]
  exact h1
theorem Scn.keep {T : Nat} {S : Nat → Prop} {w w' : World} {g : Nat} {s : Sc} (h : Scn T S w g s) (hk : ∀ k, k < w.heap.size → (k = g ∨ S k) → w'.heap[k]? = w.heap[k]?) : Scn T S w' g s := by
  obtain ⟨h1, h2, h3, h4, h5, A, c, h6, h7, h8, h9⟩ := h
  exact ⟨h1, h2, h3, h4, h5, A, c, by rw [hk g (lt_of_heap h6) (.inl rfl)]; exact h6, h7, h8, h9.keep fun k hl hs => hk k hl (.inr hs)⟩
theorem Scn.below {T : Nat} {S : Nat → Prop} {w w' : World} {g : Nat} {s : Sc} (h : Scn T S w g s) (hb : Below w.heap.size w w') : Scn T S w' g s := h.keep fun k hk _ => hb.block k hk
theorem Scn.grown {T : Nat} {S : Nat → Prop} {w w' : World} {g r : Nat} {s : Sc} (h : Scn T S w g s) (hb : w.grownBy w' (some r)) (h1 : g ≠ r) (h2 : ¬ S r) : Scn T S w' g s :=
  h.keep fun k hk hs => hb.block k hk (fun e => by cases e; rcases hs with h | h; exact h1 h.symm; exact h2 h)
theorem Scn.lt {T : Nat} {S : Nat → Prop} {w : World} {g : Nat} {s : Sc} (h : Scn T S w g s) : g < w.heap.size := by
  obtain ⟨_, _, _, _, _, A, c, h6, _⟩ := h
  exact lt_of_heap h6
theorem Scn.mono {T : Nat} {S S' : Nat → Prop} {w : World} {g : Nat} {s : Sc} (h : Scn T S w g s) (hS : ∀ k, S k → S' k) (hg : ¬ S' g) : Scn T S' w g s := by
  obtain ⟨h1, h2, h3, h4, h5, A, c, h6, h7, h8, h9⟩ := h
  exact ⟨h1, h2, hg, h4, h5, A, c, h6, h7, h8, fun hl => by obtain ⟨ad, a, b, d⟩ := h9 hl; exact ⟨ad, a, hS _ b, d⟩⟩

theorem grown_set (w : World) (g j : Nat) (v : Value) : w.grownBy (w.setCell ⟨g, j, none⟩ v) (some g) :=
  ⟨rfl, rfl, rfl, by simp [World.setCell], fun k hk hne => Below.heap_setCell _ _ _ _ (fun e => hne (by rw [e]))⟩
theorem grown_refl (w : World) (r : Option Nat) : w.grownBy w r := ⟨rfl, rfl, rfl, Nat.le_refl _, fun _ _ _ => rfl⟩
theorem grown_trans {a b c : World} {r : Option Nat} (h : a.grownBy b r) (k : b.grownBy c r) : a.grownBy c r :=
  ⟨k.os.trans h.os, k.tape.trans h.tape, k.output.trans h.output, Nat.le_trans h.size k.size, fun i hi hn => (k.block i (Nat.lt_of_lt_of_le hi h.size) hn).trans (h.block i hi hn)⟩
theorem below_of_grown {w0 a b : World} {g : Nat} (h : Below w0.heap.size w0 a) (k : a.grownBy b (some g)) (hg : w0.heap.size ≤ g) : Below w0.heap.size w0 b :=
  h.grown k h.size (fun k hk => by cases hk; exact hg)

/-- the cells of a scan, as the walk asks them -/
theorem Scn.cells {T : Nat} {S : Nat → Prop} {w : World} {g : Nat} {s : Sc} (h : Scn T S w g s) : ∃ A c, w.heap[g]? = some (.cells #[.slice A s.l.length c, .int .i64 s.e] T (0, 0)) ∧ s.l.length ≤ c ∧ c ≤ 9223372036854775807 ∧ HeldB w S A s.l ∧
    w.cell? ⟨g, 0, none⟩ = some (.slice A s.l.length c) ∧ w.cell? ⟨g, 1, none⟩ = some (.int .i64 s.e) ∧ w.frozen? ⟨g, 0, none⟩ = false ∧ w.frozen? ⟨g, 1, none⟩ = false := by
  obtain ⟨A, c, h6, h7, h8, h9⟩ := h.mem
  exact ⟨A, c, h6, h7, h8, h9, by rw [cell_of_row _ _ _ _ _ _ h6]; rfl, by rw [cell_of_row _ _ _ _ _ _ h6]; rfl, frozen_of_row _ _ _ _ _ h6, frozen_of_row _ _ _ _ _ h6⟩
theorem heldB_set {w : World} {S : Nat → Prop} {A : Option Addr} {l : List Int} {g : Nat} (h : HeldB w S A l) (hg : ¬ S g) (j : Nat) (v : Value) : HeldB (w.setCell ⟨g, j, none⟩ v) S A l :=
  h.keep fun k _ hS => Below.heap_setCell _ _ _ _ (fun e => hg (by rw [← show k = g from e]; exact hS))
/-- the error is stored -/
theorem Scn.set_err {T : Nat} {S : Nat → Prop} {w : World} {g : Nat} {s : Sc} (h : Scn T S w g s) (e : Int) (hn : s.l = []) (he : -9223372036854775808 ≤ e ∧ e < 9223372036854775808) : Scn T S (w.setCell ⟨g, 1, none⟩ (.int .i64 e)) g ⟨s.l, e⟩ := by
  obtain ⟨h1, h2, h3, h4, h5, A, c, h6, h7, h8, h9⟩ := h
  exact ⟨h1, fun _ => hn, h3, h4, he, A, c, by rw [heap_setCell_same _ _ _ _ _ _ h6]; rfl, h7, h8, heldB_set h9 h3 1 _⟩
/-- the scan failed -/
theorem Scn.failed {T : Nat} {S : Nat → Prop} {w : World} {g : Nat} {s : Sc} (h : Scn T S w g s) (e : Int) (he : -9223372036854775808 ≤ e ∧ e < 9223372036854775808) :
    Scn T S ((w.setCell ⟨g, 1, none⟩ (.int .i64 e)).setCell ⟨g, 0, none⟩ (.slice none 0 0)) g ⟨[], e⟩ := by
  obtain ⟨h1, h2, h3, h4, h5, A, c, h6, h7, h8, h9⟩ := h
  refine ⟨u8s_nil, fun _ => rfl, h3, by simp, he, none, 0, ?_, by simp, by simp, fun hl => absurd hl (by simp)⟩
  rw [heap_setCell_same _ _ _ _ _ _ (heap_setCell_same _ _ _ _ _ _ h6)]; rfl
theorem Scn.emptied {T : Nat} {S : Nat → Prop} {w : World} {g : Nat} {s : Sc} (h : Scn T S w g s) : Scn T S (w.setCell ⟨g, 0, none⟩ (.slice none 0 0)) g ⟨[], s.e⟩ := by
  obtain ⟨h1, h2, h3, h4, h5, A, c, h6, h7, h8, h9⟩ := h
  refine ⟨u8s_nil, fun _ => rfl, h3, by simp, h5, none, 0, ?_, by simp, by simp, fun hl => absurd hl (by simp)⟩
  rw [heap_setCell_same _ _ _ _ _ _ h6]; rfl
/-- the scan goes on: the slice is cut at its begin -/
theorem heldB_drop {w : World} {S : Nat → Prop} {A : Option Addr} {l : List Int} (h : HeldB w S A l) (m c : Nat) (hm : m ≤ l.length) (hc : l.length ≤ c) : HeldB w S (if c = m then A else A.map (·.add m)) (l.drop m) := by
  intro hl
  rw [List.length_drop] at hl
  obtain ⟨ad, rfl, hS, hcell⟩ := h (by omega)
  rw [if_neg (by omega)]
  refine ⟨ad.add m, rfl, by rw [add_block]; exact hS, fun j hj => ?_⟩
  rw [List.length_drop] at hj
  have h1 := hcell (m + j) (by omega)
  rw [add_add, h1]
  congr 2
  simp only [rd, Int.toNat_natCast, List.getD_eq_getElem?_getD, List.getElem?_drop]
theorem Scn.dropped {T : Nat} {S : Nat → Prop} {w : World} {g : Nat} {s : Sc} (h : Scn T S w g s) (m : Nat) (hm : m ≤ s.l.length) {A : Option Addr} {c : Nat} (hb : w.heap[g]? = some (.cells #[.slice A s.l.length c, .int .i64 s.e] T (0, 0))) (hc : s.l.length ≤ c) (hc2 : c ≤ 9223372036854775807) (hh : HeldB w S A s.l) :
    Scn T S (w.setCell ⟨g, 0, none⟩ (.slice (if c = m then A else A.map (·.add m)) (s.l.length - m) (c - m))) g ⟨s.l.drop m, s.e⟩ := by
  obtain ⟨h1, h2, h3, h4, h5, _⟩ := h
  refine ⟨u8s_drop h1 m, fun h => by rw [h2 h]; simp, h3, by simp; omega, h5, _, c - m, ?_, by simp; omega, by omega, heldB_set (heldB_drop hh m c hm hc) h3 0 _⟩
  rw [heap_setCell_same _ _ _ _ _ _ hb, List.length_drop]; rfl
theorem HeldB.C {w : World} {S : Nat → Prop} {A : Option Addr} {l : List Int} (h : HeldB w S A l) (hl : l.length ≤ 9223372036854775807) : (Kd.int .u8).C w A l.length l :=
  Kd.C_of_reads (d := (0 : Int)) ⟨rfl, hl, fun h0 => by obtain ⟨ad, rfl, _, hc⟩ := h h0; exact ⟨ad, rfl, fun j hj => by have := hc j hj; simpa [rd] using this⟩⟩
theorem HeldB.of_C {w : World} {S : Nat → Prop} {A : Option Addr} {l : List Int} (h : (Kd.int .u8).C w A l.length l) (hS : ∀ ad, A = some ad → 0 < l.length → S ad.block) : HeldB w S A l := by
  intro h0
  obtain ⟨_, _, hr⟩ := Kd.reads_of_C (d := (0 : Int)) h
  obtain ⟨ad, rfl, hc⟩ := hr h0
  exact ⟨ad, rfl, hS ad rfl h0, fun j hj => by have := hc j hj; simpa [rd] using this⟩

theorem add_pos (ad : Addr) (m : Nat) (hm : 0 < m) : ad.add m = ⟨ad.block, ad.off + m, none⟩ := by unfold Addr.add; rw [if_neg (by omega)]
theorem Scn.dropped_a {T : Nat} {S : Nat → Prop} {w : World} {g : Nat} {s : Sc} (h : Scn T S w g s) (m : Nat) (hm : m ≤ s.l.length) {ad : Addr} {c : Nat} (hb : w.heap[g]? = some (.cells #[.slice (some ad) s.l.length c, .int .i64 s.e] T (0, 0))) (hc : s.l.length ≤ c) (hc2 : c ≤ 9223372036854775807) (hh : HeldB w S (some ad) s.l) (hne : c ≠ m) :
    Scn T S (w.setCell ⟨g, 0, none⟩ (.slice (some (ad.add m)) (s.l.length - m) (c - m))) g ⟨s.l.drop m, s.e⟩ := by
  have := h.dropped m hm hb hc hc2 hh
  rwa [if_neg hne] at this
theorem Scn.dropped_b {T : Nat} {S : Nat → Prop} {w : World} {g : Nat} {s : Sc} (h : Scn T S w g s) (m : Nat) (hm : m ≤ s.l.length) {A : Option Addr} {c : Nat} (hb : w.heap[g]? = some (.cells #[.slice A s.l.length c, .int .i64 s.e] T (0, 0))) (hc : s.l.length ≤ c) (hc2 : c ≤ 9223372036854775807) (hh : HeldB w S A s.l) (hne : c = m) :
    Scn T S (w.setCell ⟨g, 0, none⟩ (.slice A (s.l.length - m) 0)) g ⟨s.l.drop m, s.e⟩ := by
  have := h.dropped m hm hb hc hc2 hh
  rwa [if_pos hne, show c - m = 0 by omega] at this

/-! ### the numbers -/
theorem pow128 (k : Nat) : (2 : Nat) ^ (7 * k) = 128 ^ k := by rw [Nat.pow_mul]
theorem pow_le9 (k : Nat) (hk : k ≤ 8) : (128 : Nat) ^ k ≤ 72057594037927936 := by
  have := Nat.pow_le_pow_right (n := 128) (by omega) hk
  simpa using this
theorem num_val (k : Nat) (nn cc : Int) (hk : k ≤ 9) (h0 : 0 ≤ nn) (h1 : nn < 128 ^ k) (hc0 : 0 ≤ cc) (hc1 : cc < 256) (h9 : k = 9 → cc = 1) :
    bits .or .u64 nn (IntKind.u64.wrap (IntKind.u64.wrap (bits .andNot .u8 cc 128) * 2 ^ (7 * k))) = nn + cc % 128 * 128 ^ k ∧ 0 ≤ nn + cc % 128 * 128 ^ k ∧ nn + cc % 128 * 128 ^ k < 128 ^ (k + 1) ∧ nn + cc % 128 * 128 ^ k < 18446744073709551616 := by
  obtain ⟨n, rfl⟩ := Int.eq_ofNat_of_zero_le h0
  obtain ⟨c, rfl⟩ := Int.eq_ofNat_of_zero_le hc0
  have e1 : ((128 : Int) ^ k) = ((128 ^ k : Nat) : Int) := by simp
  rw [e1] at h1 ⊢
  have e2 : ((2 : Int) ^ (7 * k)) = ((128 ^ k : Nat) : Int) := by rw [← pow128]; simp
  have e3 : ((128 : Int) ^ (k + 1)) = ((128 ^ k * 128 : Nat) : Int) := by rw [← Nat.pow_succ]; simp
  rw [e2, e3, show (128 : Int) = ((128 : Nat) : Int) from rfl, u8_andNot_nat c 128 (by omega) (by decide), show 255 - 128 = 2 ^ 7 - 1 from rfl, Nat.and_two_pow_sub_one_eq_mod, show (2 : Nat) ^ 7 = 128 from rfl]
  have hn : n < 128 ^ k := by omega
  have hm : c % 128 < 128 := Nat.mod_lt _ (by omega)
  have hbound : n + c % 128 * 128 ^ k < 18446744073709551616 := by
    by_cases k9 : k = 9
    · subst k9
      have := h9 rfl
      have : c = 1 := by omega
      subst this
      simp at hn ⊢
      omega
    · have hp := pow_le9 k (by omega)
      have : c % 128 * 128 ^ k ≤ 127 * 128 ^ k := Nat.mul_le_mul_right _ (by omega)
      omega
  have hlt : n + c % 128 * 128 ^ k < 128 ^ k * 128 := by
    have : c % 128 * 128 ^ k ≤ 127 * 128 ^ k := Nat.mul_le_mul_right _ (by omega)
    omega
  have e4 : ((c % 128 : Nat) : Int) * ((128 ^ k : Nat) : Int) = ((c % 128 * 128 ^ k : Nat) : Int) := by simp
  have e5 : ((c : Int) % ((128 : Nat) : Int)) * ((128 ^ k : Nat) : Int) = ((c % 128 * 128 ^ k : Nat) : Int) := by rw [← e4]; simp
  rw [show IntKind.u64.wrap ((c % 128 : Nat) : Int) = ((c % 128 : Nat) : Int) by rw [IntKind.wrap_u64]; omega, e4, e5]
  generalize hq : c % 128 * 128 ^ k = q at hbound hlt
  have hw : IntKind.u64.wrap ((q : Nat) : Int) = (q : Int) := by rw [IntKind.wrap_u64]; omega
  rw [hw, u64_or_nat n q (by omega) (by omega)]
  have hor : n ||| q = n + q := by
    rw [← hq, ← pow128] at *
    rw [Nat.or_comm, Nat.mul_comm, ← Nat.two_pow_add_eq_or_of_lt hn, Nat.add_comm]
  rw [hor]
  refine ⟨by omega, by omega, ?_, by omega⟩
  have : ((128 ^ k * 128 : Nat) : Int) = ((128 ^ k * 128 : Nat) : Int) := rfl
  omega
theorem Sc.num_lt (s : Sc) (hu : u8s s.l) : 0 ≤ s.num.1 ∧ s.num.1 < 18446744073709551616 := by
  have go : ∀ (f k : Nat) (nn : Int), f + k = 10 → 0 ≤ nn → nn < 128 ^ k → 0 ≤ (numGo s f k nn).1 ∧ (numGo s f k nn).1 < 18446744073709551616 := by
    intro f
    induction f with
    | zero => intro k nn _ _ _; simp [numGo]
    | succ f ih =>
      intro k nn hk h0 h1
      rw [numGo]
      split
      · simp
      · split
        · simp
        · rename_i hne hbad
          by_cases hkl : k < s.l.length
          · have hc := rd_u8 hu k hkl
            by_cases h9 : k = 9 → rd s.l k = 1
            · have hv := num_val k nn (rd s.l k) (by omega) h0 h1 hc.1 hc.2 h9
              split
              · exact ⟨hv.2.1, hv.2.2.2⟩
              · exact ih (k + 1) _ (by omega) hv.2.1 hv.2.2.1
            · exact absurd (Classical.not_imp.1 h9) (fun hh => hbad (.inl hh))
          · have hz : rd s.l (k : Int) = 0 := by simp [rd, List.getD_eq_getElem?_getD, List.getElem?_eq_none (show s.l.length ≤ k by omega)]
            by_cases k0 : 0 < k
            · exact absurd (.inr ⟨k0, hz⟩) hbad
            · omega
  unfold Sc.num
  split
  · exact go 10 0 0 rfl (by omega) (by simp)
  · simp
theorem Sc.num_zero (s : Sc) (_he : s.e ≠ 0 → s.l = []) (hn : s.num.2.e ≠ 0) : s.num.1 = 0 := by
  have go : ∀ (f k : Nat) (nn : Int), s.e = 0 → (numGo s f k nn).2.e ≠ 0 → (numGo s f k nn).1 = 0 := by
    intro f
    induction f with
    | zero => intro k nn _ _; rfl
    | succ f ih =>
      intro k nn h0 h
      rw [numGo] at h ⊢
      split at h
      · rw [if_pos (by assumption)]
      · rename_i h1
        rw [if_neg h1]
        split at h
        · rw [if_pos (by assumption)]
        · rename_i h2
          rw [if_neg h2]
          split at h
          · exact absurd h0 h
          · rename_i h3
            rw [if_neg h3]
            exact ih _ _ h0 h
  unfold Sc.num at hn ⊢
  split at hn
  · rename_i h0
    rw [if_pos h0]
    exact go _ _ _ h0 hn
  · rename_i h0
    rw [if_neg h0]
theorem xor_m1 (a : Nat) (ha : a < 9223372036854775808) : bits .xor .i64 (a : Int) (-1) = -1 - (a : Int) := by
  rw [← i64_not a ha]
  show IntKind.i64.wrap ((BitVec.ofInt 64 _ ^^^ BitVec.ofInt 64 _).toNat : Int) = IntKind.i64.wrap ((BitVec.ofInt 64 _ ^^^ BitVec.ofInt 64 _).toNat : Int)
  rw [BitVec.xor_comm]
theorem xor_0 (a : Nat) (ha : a < 9223372036854775808) : bits .xor .i64 (a : Int) 0 = (a : Int) := by
  show IntKind.i64.wrap ((BitVec.ofInt 64 (a : Int) ^^^ BitVec.ofInt 64 0).toNat : Int) = _
  rw [show BitVec.ofInt 64 0 = 0#64 from rfl, BitVec.xor_zero, BitVec.ofInt_natCast, BitVec.toNat_ofNat, IntKind.wrap_i64]
  omega
theorem zag_val (n : Int) (h0 : 0 ≤ n) (h1 : n < 18446744073709551616) : bits .xor .i64 (n / 2) (wrap64 (-wrap64 (bits .and .u64 n 1))) = zag n := by
  obtain ⟨m, rfl⟩ := Int.eq_ofNat_of_zero_le h0
  have e : bits .and .u64 (m : Int) 1 = ((m % 2 : Nat) : Int) := by
    rw [show (1 : Int) = ((1 : Nat) : Int) from rfl, u64_and_nat m 1 (by omega) (by decide), Nat.and_one_is_mod]
  rw [e, show (m : Int) / 2 = ((m / 2 : Nat) : Int) by omega]
  unfold zag
  rcases Nat.mod_two_eq_zero_or_one m with h | h
  · rw [h, if_neg (by omega), show wrap64 (-wrap64 ((0 : Nat) : Int)) = 0 by unfold wrap64; omega, xor_0 _ (by omega)]
    omega
  · rw [h, if_pos (by omega), show wrap64 (-wrap64 ((1 : Nat) : Int)) = -1 by unfold wrap64; omega, xor_m1 _ (by omega)]
    omega

theorem Sc.upto_pos (s : Sc) (most : Int) (_hm : -9223372036854775808 ≤ most ∧ most < 9223372036854775808) (hn : 0 ≤ s.num.1 ∧ s.num.1 < 18446744073709551616) (he : s.e ≠ 0 → s.l = []) : 0 ≤ (s.upto most).1 ∧ ((s.upto most).2.e ≠ 0 → (s.upto most).1 = 0) := by
  unfold Sc.upto
  split
  · exact ⟨by simp, fun _ => rfl⟩
  · rename_i hne
    by_cases e0 : s.num.2.e = 0
    · have : s.num.1 ≤ most := by
        apply Classical.byContradiction
        intro hh
        exact hne ⟨e0, .inr (by omega)⟩
      exact ⟨by show 0 ≤ wrap64 s.num.1; unfold wrap64; omega, fun h => absurd e0 h⟩
    · have hz : s.num.1 = 0 := Sc.num_zero s he e0
      exact ⟨by show 0 ≤ wrap64 s.num.1; rw [hz]; unfold wrap64; omega, fun _ => by show wrap64 s.num.1 = 0; rw [hz]; unfold wrap64; omega⟩
theorem num_val' (k : Nat) (nn cc : Int) (hk : k ≤ 9) (h0 : 0 ≤ nn) (h1 : nn < 128 ^ k) (hc0 : 0 ≤ cc) (hc1 : cc < 256) (h9 : k = 9 → cc = 1) : bits .and .u8 cc 127 = cc % 128 := by
  obtain ⟨c, rfl⟩ := Int.eq_ofNat_of_zero_le hc0
  rw [show (127 : Int) = ((127 : Nat) : Int) from rfl, u8_and_nat c 127 (by omega) (by decide), show 127 = 2 ^ 7 - 1 from rfl, Nat.and_two_pow_sub_one_eq_mod]
  simp
theorem num_valR (k : Nat) (nn un cc : Int) (hu : un = 128 ^ k) (hk : k ≤ 9) (h0 : 0 ≤ nn) (h1 : nn < 128 ^ k) (hc0 : 0 ≤ cc) (hc1 : cc < 256) (h9 : k = 9 → cc = 1) :
    IntKind.u64.wrap (nn + IntKind.u64.wrap (un * IntKind.u64.wrap (bits .and .u8 cc 127))) = nn + cc % 128 * 128 ^ k ∧ 0 ≤ nn + cc % 128 * 128 ^ k ∧ nn + cc % 128 * 128 ^ k < 128 ^ (k + 1) ∧ nn + cc % 128 * 128 ^ k < 18446744073709551616 := by
  have h := num_val k nn cc hk h0 h1 hc0 hc1 h9
  refine ⟨?_, h.2⟩
  rw [num_val' k nn cc hk h0 h1 hc0 hc1 h9, hu]
  have hp : (0 : Int) < 128 ^ k := Int.pow_pos (by decide)
  have hq : 0 ≤ cc % 128 * 128 ^ k := Int.mul_nonneg (by omega) (by omega)
  have hlt := h.2.2.2
  rw [show IntKind.u64.wrap (cc % 128) = cc % 128 by rw [IntKind.wrap_u64]; omega, Int.mul_comm]
  generalize cc % 128 * 128 ^ k = q at hq hlt ⊢
  rw [show IntKind.u64.wrap q = q by rw [IntKind.wrap_u64]; omega, IntKind.wrap_u64]
  omega
theorem unit_next (k : Nat) (un : Int) (hu : un = 128 ^ k) (hk : k < 9) : IntKind.u64.wrap (un * 128) = 128 ^ (k + 1) := by
  rw [hu, ← Int.pow_succ]
  have h := Nat.pow_le_pow_right (n := 128) (by omega) (show k + 1 ≤ 9 by omega)
  have e : ((128 : Int) ^ (k + 1)) = ((128 ^ (k + 1) : Nat) : Int) := by simp
  rw [e, IntKind.wrap_u64]
  simp only [show (128 : Nat) ^ 9 = 9223372036854775808 from rfl] at h
  generalize (128 : Nat) ^ (k + 1) = z at h ⊢
  omega
end Go.Proofs.Ytojefdnngkcaoaa
end

section
set_option linter.unusedVariables false
set_option linter.unusedSimpArgs false
namespace Go.Proofs.Ytojefdnngkcaoaa
open Go.RowKit Go.Proofs.YtojefdnngkcaoaaW.PrintWords Go.Proofs.YtojefdnngkcaoaaW.PrintLast Go.Proofs.YtojefdnngkcaoaaW.PrintMore

/-! ### the reference's Scan: its methods -/
set_option maxRecDepth 100000 in
set_option maxHeartbeats 400000 in
theorem rfail {S : Nat → Prop} {w : World} {g : Nat} {s : Sc} (h : Scn 44 S w g s) (e : Int) (he : -9223372036854775808 ≤ e ∧ e < 9223372036854775808) :
    Calls Try.prog 42 #[.pointer (some ⟨g, 0, none⟩), .int .i64 e] w fun r w' => r = .returned (.tuple #[]) ∧ Scn 44 S w' g (s.fail e) ∧ w.grownBy w' (some g) := by
  obtain ⟨A, c, hb, hc, hc2, hh, c0, c1, f0, f1⟩ := h.cells
  have HB := Aside0.mk hb
  have HH := Aside0.mk hh
  have H := Aside0.mk h
  clear hb hh h
  by_cases e0 : e = 0
  · subst e0
    go_enter Try.func42, Try.ntmps42
    go_wp2
    exact bodyPost_ret (v := .tuple #[]) (by simp [results, Try.results42, go_sem]) rfl ⟨rfl, by simpa [Sc.fail] using H.out, grown_refl _ _⟩
  · have b0 : (e == 0) = false := beq_eq_false_iff_ne.2 e0
    have b1 : (e != 0) = true := bne_iff_ne.2 e0
    by_cases s0 : s.e = 0
    · have d0 : (s.e == 0) = true := beq_iff_eq.2 s0
      have S0 := Aside0.mk s0
      have E0 := Aside0.mk e0
      clear s0 e0
      go_enter Try.func42, Try.ntmps42
      go_wp2
      go_end0
      refine ⟨rfl, ?_, grown_trans (grown_set _ _ _ _) (grown_set _ _ _ _)⟩
      have := H.out.failed e he
      simpa [Sc.fail, E0.out, S0.out] using this
    · have d0 : (s.e == 0) = false := beq_eq_false_iff_ne.2 s0
      have S0 := Aside0.mk s0
      have E0 := Aside0.mk e0
      clear s0 e0
      go_enter Try.func42, Try.ntmps42
      go_wp2
      go_end0
      refine ⟨rfl, ?_, grown_set _ _ _ _⟩
      have := H.out.emptied
      simpa [Sc.fail, E0.out, S0.out] using this

set_option maxRecDepth 100000 in
set_option maxHeartbeats 1000000 in
theorem rnum {S : Nat → Prop} {w : World} {g : Nat} {s : Sc} (h : Scn 44 S w g s) :
    Calls Try.prog 58 #[.pointer (some ⟨g, 0, none⟩)] w fun r w' => r = .returned (.int .u64 s.num.1) ∧ Scn 44 S w' g s.num.2 ∧ w.grownBy w' (some g) := by
  obtain ⟨A, c, hb, hc, hc2, hh, c0, c1, f0, f1⟩ := h.cells
  have HB := Aside0.mk hb
  have HH := Aside0.mk hh
  have H := Aside0.mk h
  clear hb hh h
  by_cases s0 : s.e = 0
  · have d0 : (s.e != 0) = false := by simp [s0]
    have S0 := Aside0.mk s0
    clear s0
    go_enter Try.func58, Try.ntmps58
    go_wp2_with fail
    go_loop [3, 4, 5] (fun n u i => ∃ (k : Nat) (nn un : Int), k ≤ 9 ∧ i = .int .i64 k ∧ n = .int .u64 nn ∧ u = .int .u64 un ∧ Aside0 (un = 128 ^ k) ∧ Aside0 (0 ≤ nn ∧ nn < 128 ^ k) ∧ k ≤ s.l.length ∧ Aside0 (numGo s (10 - k) k nn = s.num)) (fun _ _ i => 10 - (intOf i).toNat)
    case atStart => exact ⟨0, 0, 1, by omega, rfl, rfl, rfl, ⟨by simp⟩, ⟨by simp⟩, by omega, ⟨by simp [Sc.num, S0.out]⟩⟩
    case round =>
      obtain ⟨k, nn, un, hk, rfl, rfl, rfl, HUN, HN, hkl, HG⟩ := hrel
      by_cases hlen : k = s.l.length
      · have b1 : ((k : Int) == (s.l.length : Int)) = true := by simp [hlen]
        go_wp2_with (go_at_call 42; refine (rfail H.out 2 (by omega)).mono ?_; rintro r w' ⟨rfl, hs', hg'⟩)
        go_ret
        refine ⟨?_, ?_, hg'⟩
        · rw [← HG.out, show 10 - k = (9 - k) + 1 by omega, numGo, if_pos hlen]; rfl
        · rw [← HG.out, show 10 - k = (9 - k) + 1 by omega, numGo, if_pos hlen]; exact hs'
      · have hlt : k < s.l.length := by omega
        have b1 : decide (s.l.length ≤ k) = false := by simp; omega
        obtain ⟨ad, hA, hS, hcell⟩ := HH.out (by omega)
        subst hA
        have hck := hcell k hlt
        obtain ⟨hc0, hc256⟩ := rd_u8 H.out.u8 k hlt
        have HCELL := Aside0.mk hcell
        clear hcell
        generalize hcc : rd s.l k = cc at hck hc0 hc256
        have HCC := Aside0.mk hcc
        clear hcc
        by_cases bad : (k = 9 ∧ cc ≠ 1) ∨ (0 < k ∧ cc = 0)
        · have fin : numGo s (10 - k) k nn = (0, s.fail 3) := by rw [show 10 - k = (9 - k) + 1 by omega, numGo, if_neg hlen, HCC.out, if_pos bad]
          have HF := Aside0.mk fin
          clear fin
          have hfail : ∀ w', Scn 44 S w' g (s.fail 3) → w.grownBy w' (some g) → Scn 44 S w' g s.num.2 ∧ w.grownBy w' (some g) := fun w' h1 h2 => ⟨by rw [← HG.out, HF.out]; exact h1, h2⟩
          have hz : s.num.1 = 0 := by rw [← HG.out, HF.out]
          have HZ := Aside0.mk hz
          clear hz
          by_cases k9 : k = 9
          · have b3 : ((k : Int) == 9) = true := by rw [beq_iff_eq]; omega
            have b2 : (cc != 1) = true := by rw [bne_iff_ne]; omega
            clear k9 bad
            go_wp2_with (go_at_call 42; refine (rfail H.out 3 (by omega)).mono ?_; rintro r w' ⟨rfl, hs', hg'⟩)
            go_ret
            exact ⟨by rw [HZ.out]; rfl, hfail _ hs' hg'⟩
          · have b3 : ((k : Int) == 9) = false := by rw [beq_eq_false_iff_ne]; omega
            have b4 : (cc == 0) = true := by rw [beq_iff_eq]; omega
            have hk0 : 0 < k := by omega
            clear k9 bad
            go_wp2_with (go_at_call 42; refine (rfail H.out 3 (by omega)).mono ?_; rintro r w' ⟨rfl, hs', hg'⟩)
            go_ret
            exact ⟨by rw [HZ.out]; rfl, hfail _ hs' hg'⟩
        · have good : numGo s (10 - k) k nn = if cc < 128 then (nn + cc % 128 * 128 ^ k, ⟨s.l.drop (k + 1), s.e⟩) else numGo s (9 - k) (k + 1) (nn + cc % 128 * 128 ^ k) := by
            rw [show 10 - k = (9 - k) + 1 by omega, numGo, if_neg hlen, HCC.out, if_neg bad]
          have HGOOD := Aside0.mk good
          clear good
          have tests : (((k : Int) == 9) = true ∧ (cc != 1) = false ∧ decide (0 < (k : Int)) = true ∧ (cc == 0) = false) ∨ (((k : Int) == 9) = false ∧ decide (0 < (k : Int)) = true ∧ (cc == 0) = false) ∨ (((k : Int) == 9) = false ∧ decide (0 < k) = false) := by
            simp only [beq_iff_eq, beq_eq_false_iff_ne, bne_eq_false_iff_eq, decide_eq_true_eq, decide_eq_false_iff_not]
            omega
          have h9 : k = 9 → cc = 1 := by omega
          have hv := Aside0.mk (num_valR k nn un cc HUN.out hk HN.out.1 HN.out.2 hc0 hc256 h9)
          clear h9 bad hlen
          by_cases hs : cc < 128
          · have hfin : s.num = (nn + cc % 128 * 128 ^ k, ⟨s.l.drop (k + 1), s.e⟩) := by rw [← HG.out, HGOOD.out, if_pos hs]
            have HFIN := Aside0.mk hfin
            clear hfin
            have hend : ∀ (v : Value) (w' : World), v = .int .u64 (IntKind.u64.wrap (nn + IntKind.u64.wrap (un * IntKind.u64.wrap (bits .and .u8 cc 127)))) → Scn 44 S w' g ⟨s.l.drop (k + 1), s.e⟩ → w.grownBy w' (some g) →
                Ending.returned v = .returned (.int .u64 s.num.1) ∧ Scn 44 S w' g s.num.2 ∧ w.grownBy w' (some g) := fun v w' h1 h2 h3 => by
              rw [HFIN.out, h1, hv.out.1]; exact ⟨rfl, h2, h3⟩
            have HEND := Aside0.mk hend
            clear hend
            rcases tests with ⟨t1, t2, t3, t4⟩ | ⟨t1, t3, t4⟩ | ⟨t1, t3⟩
            all_goals
              go_wp2_with fail
              all_goals go_ret
              all_goals first
                | exact HEND.out _ _ rfl (H.out.dropped_b (k + 1) (by omega) HB.out hc hc2 HH.out rfl) (grown_set _ _ _ _)
                | exact HEND.out _ _ rfl (H.out.dropped_b (k + 1) (by omega) HB.out hc hc2 HH.out (by first | assumption | omega)) (grown_set _ _ _ _)
                | exact HEND.out _ _ rfl (by rw [← add_pos _ _ (by omega)]; exact H.out.dropped_a (k + 1) (by omega) HB.out hc hc2 HH.out (by first | assumption | omega)) (grown_set _ _ _ _)
          · have hgo : numGo s (10 - (k + 1)) (k + 1) (nn + cc % 128 * 128 ^ k) = s.num := by rw [← HG.out, HGOOD.out, if_neg hs, show 10 - (k + 1) = 9 - k by omega]
            have HGO := Aside0.mk hgo
            clear hgo
            have hk9 : k < 9 := by
              rcases tests with ⟨t1, t2, t3, t4⟩ | ⟨t1, t3, t4⟩ | ⟨t1, t3⟩
              · rw [bne_eq_false_iff_eq] at t2; omega
              · rw [beq_eq_false_iff_ne] at t1; omega
              · rw [beq_eq_false_iff_ne] at t1; omega
            rcases tests with ⟨t1, t2, t3, t4⟩ | ⟨t1, t3, t4⟩ | ⟨t1, t3⟩
            · rw [beq_iff_eq] at t1; omega
            all_goals
              go_wp2_with fail
              all_goals (refine ⟨⟨k + 1, nn + cc % 128 * 128 ^ k, 128 ^ (k + 1), by omega, by go_num, by rw [hv.out.1], by rw [unit_next k un HUN.out hk9], ⟨rfl⟩, ⟨hv.out.2.1, hv.out.2.2.1⟩, by omega, HGO⟩, ?_⟩; simp [intOf]; omega)
  · have d0 : (s.e != 0) = true := by simpa using s0
    have S0 := Aside0.mk s0
    clear s0
    go_enter Try.func58, Try.ntmps58
    go_wp2_with fail
    go_ret
    exact ⟨by simp [Sc.num, S0.out], by simpa [Sc.num, S0.out] using H.out, grown_refl _ _⟩

set_option maxRecDepth 100000 in
set_option maxHeartbeats 1000000 in
theorem rupto {S : Nat → Prop} {w : World} {g : Nat} {s : Sc} (h : Scn 44 S w g s) (most : Int) (hm : -9223372036854775808 ≤ most ∧ most < 9223372036854775808) :
    Calls Try.prog 43 #[.pointer (some ⟨g, 0, none⟩), .int .i64 most] w fun r w' => r = .returned (.int .i64 (s.upto most).1) ∧ Scn 44 S w' g (s.upto most).2 ∧ w.grownBy w' (some g) := by
  have hn := Sc.num_lt s h.u8
  go_enter Try.func43, Try.ntmps43
  go_wp2_with fail
  refine (rnum h).mono ?_
  rintro r w1 ⟨rfl, h1, hg1⟩
  generalize hnum : s.num.1 = n
  obtain ⟨A, c, hb, hc, hc2, hh, c0, c1, f0, f1⟩ := h1.cells
  clear hb hh
  have H1 := Aside0.mk h1
  clear h1 h
  have hup : s.upto most = if s.num.2.e = 0 ∧ (most < 0 ∨ most < s.num.1) then (0, s.num.2.fail 4) else (wrap64 s.num.1, s.num.2) := rfl
  have HUP := Aside0.mk hup
  clear hup
  rw [hnum] at hn HUP
  generalize hs1 : s.num.2 = s1 at H1 HUP c0 c1 hc
  have HNUM := Aside0.mk hnum
  have HS1 := Aside0.mk hs1
  clear hnum hs1
  by_cases e0 : s1.e = 0
  · have b0 : (s1.e == 0) = true := by simp [e0]
    have E0 := Aside0.mk e0
    clear e0
    by_cases m0 : most < 0
    · have hres : s.upto most = (0, s1.fail 4) := by rw [HUP.out, if_pos ⟨E0.out, .inl m0⟩]
      have HRES := Aside0.mk hres
      clear hres
      go_wp2_with (go_at_call 42; refine (rfail H1.out 4 (by omega)).mono ?_; rintro r w' ⟨rfl, hs', hg'⟩)
      go_ret
      exact ⟨by rw [HRES.out]; rfl, by rw [HRES.out]; exact hs', grown_trans hg1 hg'⟩
    · have m1 : 0 ≤ most := by omega
      have hwm : IntKind.u64.wrap most = most := by rw [IntKind.wrap_u64]; omega
      have d0 : decide (most < 0) = false := decide_eq_false m0
      by_cases n0 : most < n
      · have hres : s.upto most = (0, s1.fail 4) := by rw [HUP.out, if_pos ⟨E0.out, .inr n0⟩]
        have HRES := Aside0.mk hres
        clear hres
        go_wp2_with (go_at_call 42; refine (rfail H1.out 4 (by omega)).mono ?_; rintro r w' ⟨rfl, hs', hg'⟩)
        go_ret
        exact ⟨by rw [HRES.out]; rfl, by rw [HRES.out]; exact hs', grown_trans hg1 hg'⟩
      · have hwn : wrap64 n = n := by unfold wrap64; omega
        have hres : s.upto most = (n, s1) := by rw [HUP.out, if_neg (fun hh => by rcases hh.2 with hh | hh; exact m0 hh; exact n0 hh), hwn]
        have HRES := Aside0.mk hres
        clear hres
        go_wp2_with (go_at_call 42; refine (rfail H1.out 4 (by omega)).mono ?_; rintro r w' ⟨rfl, hs', hg'⟩)
        go_ret
        exact ⟨by rw [HRES.out]; first | rfl | (simp; done), by rw [HRES.out]; exact H1.out, hg1⟩
  · have b0 : (s1.e == 0) = false := by simpa using e0
    have E0 := Aside0.mk e0
    clear e0
    have hres : s.upto most = (wrap64 n, s1) := by rw [HUP.out, if_neg (fun hh => E0.out hh.1)]
    have HRES := Aside0.mk hres
    clear hres
    go_wp2_with (go_at_call 42; refine (rfail H1.out 4 (by omega)).mono ?_; rintro r w' ⟨rfl, hs', hg'⟩)
    go_ret
    exact ⟨by rw [HRES.out]; first | rfl | (simp; done), by rw [HRES.out]; exact H1.out, hg1⟩


set_option maxRecDepth 100000 in
set_option maxHeartbeats 1000000 in
theorem rint {S : Nat → Prop} {w : World} {g : Nat} {s : Sc} (h : Scn 44 S w g s) :
    Calls Try.prog 59 #[.pointer (some ⟨g, 0, none⟩)] w fun r w' => r = .returned (.int .i64 s.int.1) ∧ Scn 44 S w' g s.int.2 ∧ w.grownBy w' (some g) := by
  have hn := Sc.num_lt s h.u8
  go_enter Try.func59, Try.ntmps59
  go_wp2_with fail
  refine (rnum h).mono ?_
  rintro r w1 ⟨rfl, h1, hg1⟩
  have H1 := Aside0.mk h1
  clear h1 h
  have hi : s.int.1 = zag s.num.1 := rfl
  have HI := Aside0.mk hi
  clear hi
  have h2 : s.int.2 = s.num.2 := rfl
  have HI2 := Aside0.mk h2
  clear h2
  generalize s.num.1 = n at hn HI ⊢
  by_cases hodd : n % 2 = 1
  · have b0 : (n % 2 == 1) = true := by simp [hodd]
    have b1 : (n.tmod 2 == 1) = true := by rw [Int.tmod_eq_emod_of_nonneg hn.1]; exact b0
    have hz : zag n = -1 - n / 2 := by unfold zag; rw [if_pos hodd]
    have HZ := Aside0.mk hz
    clear hz hodd
    go_wp2
    go_ret
    exact ⟨by rw [HI.out, HZ.out]; first | rfl | (simp; done), by rw [HI2.out]; exact H1.out, hg1⟩
  · have b0 : (n % 2 == 1) = false := by simpa using hodd
    have b1 : (n.tmod 2 == 1) = false := by rw [Int.tmod_eq_emod_of_nonneg hn.1]; exact b0
    have hz : zag n = n / 2 := by unfold zag; rw [if_neg hodd]
    have HZ := Aside0.mk hz
    clear hz hodd
    go_wp2
    go_ret
    exact ⟨by rw [HI.out, HZ.out]; first | rfl | (simp; done), by rw [HI2.out]; exact H1.out, hg1⟩
set_option maxRecDepth 100000 in
set_option maxHeartbeats 1000000 in
theorem rtext {S : Nat → Prop} {w : World} {g : Nat} {s : Sc} (h : Scn 44 S w g s) (most : Int) (hm : -9223372036854775808 ≤ most ∧ most < 9223372036854775808) :
    Calls Try.prog 41 #[.pointer (some ⟨g, 0, none⟩), .int .i64 most] w fun r w' => r = .returned (.string (strOfNums (s.text most).1)) ∧ Scn 44 S w' g (s.text most).2 ∧ w.grownBy w' (some g) := by
  have hn := Sc.num_lt s h.u8
  have hu := Sc.upto_pos s most hm hn h.err
  go_enter Try.func41, Try.ntmps41
  go_wp2_with fail
  refine (rupto h most hm).mono ?_
  rintro r w1 ⟨rfl, h1, hg1⟩
  obtain ⟨A, c, hb, hc, hc2, hh, c0, c1, f0, f1⟩ := h1.cells
  have H1 := Aside0.mk h1
  have HB := Aside0.mk hb
  have HH := Aside0.mk hh
  have htx : s.text most = if (s.upto most).2.e = 0 then (if (s.upto most).1 > (s.upto most).2.l.length then ([], (s.upto most).2.fail 2) else ((s.upto most).2.l.take (s.upto most).1.toNat, ⟨(s.upto most).2.l.drop (s.upto most).1.toNat, 0⟩)) else ([], (s.upto most).2) := rfl
  have HT := Aside0.mk htx
  clear hb hh h1 h htx
  generalize hnum : (s.upto most).1 = n at hu HT ⊢
  generalize hs1 : (s.upto most).2 = s1 at H1 HB HH HT c0 c1 hc hu
  clear hnum hs1 hn
  obtain ⟨m, rfl⟩ := Int.eq_ofNat_of_zero_le hu.1
  by_cases e0 : s1.e = 0
  · have b0 : (s1.e == 0) = true := by simp [e0]
    have b1 : (s1.e != 0) = false := by simp [e0]
    have E0 := Aside0.mk e0
    clear e0 hu
    by_cases hgt : s1.l.length < m
    · have d0 : decide (s1.l.length < m) = true := decide_eq_true hgt
      have hres : s.text most = ([], s1.fail 2) := by rw [HT.out, if_pos E0.out, if_pos (by omega)]
      have hfe : ((s1.fail 2).e != 0) = true := by simp [Sc.fail, E0.out]
      have HRES := Aside0.mk hres
      clear hres
      go_wp2_with fail
      refine (rfail H1.out 2 (by omega)).mono ?_
      rintro r w' ⟨rfl, hs', hg'⟩
      obtain ⟨A2, c2, hb2, hc_2, hc2_2, hh2, c0_2, c1_2, f0_2, f1_2⟩ := hs'.cells
      have HS := Aside0.mk hs'
      clear hs' hb2 hh2 c0 c1 f0 f1
      go_wp2
      go_ret
      exact ⟨by rw [HRES.out]; rfl, by rw [HRES.out]; exact HS.out, grown_trans hg1 hg'⟩
    · have hle : m ≤ s1.l.length := by omega
      have d0 : decide (s1.l.length < m) = false := decide_eq_false hgt
      have hres : s.text most = (s1.l.take m, ⟨s1.l.drop m, s1.e⟩) := by
        rw [HT.out, if_pos E0.out, if_neg (by omega), Int.toNat_natCast, E0.out]
      have HRES := Aside0.mk hres
      clear hres
      have hcs : (convert 27 9 (.slice A m c)).run Try.prog w1 = .ok (.string (strOfNums (s1.l.take m))) w1 := by
        have hC := HH.out.C (by have := H1.out.short; omega)
        have hT := Kd.C_take hC hle
        rw [List.length_take, Nat.min_eq_left hle] at hT
        exact Kd.C_string (P := Try.prog) (A := A) (c := c) Try.underlying27 Try.underlying5 Try.underlying9 hT
      have HEND : ∀ (W : World), Scn 44 S W g ⟨s1.l.drop m, s1.e⟩ → w1.grownBy W (some g) → Ending.returned (.string (strOfNums (s1.l.take m))) = .returned (.string (strOfNums (s.text most).1)) ∧ Scn 44 S W g (s.text most).2 ∧ w.grownBy W (some g) := fun W h1 h2 => by
        rw [HRES.out]; exact ⟨rfl, h1, grown_trans hg1 h2⟩
      have HE := Aside0.mk HEND
      clear HEND
      go_wp2
      all_goals go_ret
      all_goals first
        | exact HE.out _ (H1.out.dropped_b m hle HB.out hc hc2 HH.out (by assumption)) (grown_set _ _ _ _)
        | exact HE.out _ (H1.out.dropped_b m hle HB.out hc hc2 HH.out rfl) (grown_set _ _ _ _)
        | (refine HE.out _ ?_ (grown_set _ _ _ _); have h_ := H1.out.dropped m hle HB.out hc hc2 HH.out; rw [if_neg (by first | assumption | omega)] at h_; exact h_)
  · have b0 : (s1.e == 0) = false := by simpa using e0
    have b1 : (s1.e != 0) = true := by simpa using e0
    have hres : s.text most = ([], s1) := by rw [HT.out, if_neg e0]
    have HRES := Aside0.mk hres
    clear hres e0 hu
    go_wp2
    go_ret
    exact ⟨by rw [HRES.out]; rfl, by rw [HRES.out]; exact H1.out, hg1⟩
end Go.Proofs.Ytojefdnngkcaoaa
end

section
set_option linter.unusedVariables false
set_option linter.unusedSimpArgs false
namespace Go.Proofs.Ytojefdnngkcaoaa
open Go.RowKit Go.Proofs.YtojefdnngkcaoaaW.PrintWords Go.Proofs.YtojefdnngkcaoaaW.PrintLast Go.Proofs.YtojefdnngkcaoaaW.PrintMore

/-! ### wire.Scan: its methods -/
def TW : Nat := 63
set_option maxRecDepth 100000 in
set_option maxHeartbeats 400000 in
theorem wfail {S : Nat → Prop} {w : World} {g : Nat} {s : Sc} (h : Scn 63 S w g s) (e : Int) (he : -9223372036854775808 ≤ e ∧ e < 9223372036854775808) :
    Calls Try.prog 38 #[.pointer (some ⟨g, 0, none⟩), .int .i64 e] w fun r w' => r = .returned (.tuple #[]) ∧ Scn 63 S w' g (s.fail e) ∧ w.grownBy w' (some g) := by
  obtain ⟨A, c, hb, hc, hc2, hh, c0, c1, f0, f1⟩ := h.cells
  have HB := Aside0.mk hb
  have HH := Aside0.mk hh
  have H := Aside0.mk h
  clear hb hh h
  by_cases e0 : e = 0
  · subst e0
    go_enter Try.func38, Try.ntmps38
    go_wp2
    exact bodyPost_ret (v := .tuple #[]) (by simp [results, Try.results38, go_sem]) rfl ⟨rfl, by simpa [Sc.fail] using H.out, grown_refl _ _⟩
  · have b0 : (e == 0) = false := beq_eq_false_iff_ne.2 e0
    have b1 : (e != 0) = true := bne_iff_ne.2 e0
    by_cases s0 : s.e = 0
    · have d0 : (s.e == 0) = true := beq_iff_eq.2 s0
      have S0 := Aside0.mk s0
      have E0 := Aside0.mk e0
      clear s0 e0
      go_enter Try.func38, Try.ntmps38
      go_wp2
      go_end0
      refine ⟨rfl, ?_, grown_trans (grown_set _ _ _ _) (grown_set _ _ _ _)⟩
      have := H.out.failed e he
      simpa [Sc.fail, E0.out, S0.out] using this
    · have d0 : (s.e == 0) = false := beq_eq_false_iff_ne.2 s0
      have S0 := Aside0.mk s0
      have E0 := Aside0.mk e0
      clear s0 e0
      go_enter Try.func38, Try.ntmps38
      go_wp2
      go_end0
      refine ⟨rfl, ?_, grown_set _ _ _ _⟩
      have := H.out.emptied
      simpa [Sc.fail, E0.out, S0.out] using this

set_option maxRecDepth 100000 in
set_option maxHeartbeats 1000000 in
theorem wnum {S : Nat → Prop} {w : World} {g : Nat} {s : Sc} (h : Scn 63 S w g s) :
    Calls Try.prog 56 #[.pointer (some ⟨g, 0, none⟩)] w fun r w' => r = .returned (.int .u64 s.num.1) ∧ Scn 63 S w' g s.num.2 ∧ w.grownBy w' (some g) := by
  obtain ⟨A, c, hb, hc, hc2, hh, c0, c1, f0, f1⟩ := h.cells
  have HB := Aside0.mk hb
  have HH := Aside0.mk hh
  have H := Aside0.mk h
  clear hb hh h
  by_cases s0 : s.e = 0
  · have d0 : (s.e != 0) = false := by simp [s0]
    have S0 := Aside0.mk s0
    clear s0
    go_enter Try.func56, Try.ntmps56
    go_wp2_with fail
    go_loop [2, 9] (fun n i => ∃ (k : Nat) (nn : Int), k ≤ 9 ∧ i = .int .i64 k ∧ n = .int .u64 nn ∧ Aside0 (0 ≤ nn ∧ nn < 128 ^ k) ∧ k ≤ s.l.length ∧ Aside0 (numGo s (10 - k) k nn = s.num)) (fun _ i => 10 - (intOf i).toNat)
    case atStart => exact ⟨0, 0, by omega, rfl, rfl, ⟨by simp⟩, by omega, ⟨by simp [Sc.num, S0.out]⟩⟩
    case round =>
      obtain ⟨k, nn, hk, rfl, rfl, HN, hkl, HG⟩ := hrel
      by_cases hlen : k = s.l.length
      · have b1 : ((k : Int) == (s.l.length : Int)) = true := by simp [hlen]
        go_wp2_with (go_at_call 38; refine (wfail H.out 2 (by omega)).mono ?_; rintro r w' ⟨rfl, hs', hg'⟩)
        go_ret
        refine ⟨?_, ?_, hg'⟩
        · rw [← HG.out, show 10 - k = (9 - k) + 1 by omega, numGo, if_pos hlen]; rfl
        · rw [← HG.out, show 10 - k = (9 - k) + 1 by omega, numGo, if_pos hlen]; exact hs'
      · have hlt : k < s.l.length := by omega
        have b1 : ((k : Int) == (s.l.length : Int)) = false := by rw [beq_eq_false_iff_ne]; omega
        obtain ⟨ad, hA, hS, hcell⟩ := HH.out (by omega)
        subst hA
        have hck := hcell k hlt
        obtain ⟨hc0, hc256⟩ := rd_u8 H.out.u8 k hlt
        have HCELL := Aside0.mk hcell
        clear hcell
        generalize hcc : rd s.l k = cc at hck hc0 hc256
        have HCC := Aside0.mk hcc
        clear hcc
        by_cases bad : (k = 9 ∧ cc ≠ 1) ∨ (0 < k ∧ cc = 0)
        · have fin : numGo s (10 - k) k nn = (0, s.fail 3) := by rw [show 10 - k = (9 - k) + 1 by omega, numGo, if_neg hlen, HCC.out, if_pos bad]
          have HF := Aside0.mk fin
          clear fin
          have hfail : ∀ w', Scn 63 S w' g (s.fail 3) → w.grownBy w' (some g) → Scn 63 S w' g s.num.2 ∧ w.grownBy w' (some g) := fun w' h1 h2 => ⟨by rw [← HG.out, HF.out]; exact h1, h2⟩
          have hz : s.num.1 = 0 := by rw [← HG.out, HF.out]
          have HZ := Aside0.mk hz
          clear hz
          by_cases k9 : k = 9
          · have b3 : ((k : Int) == 9) = true := by rw [beq_iff_eq]; omega
            have b2 : (cc != 1) = true := by rw [bne_iff_ne]; omega
            clear k9 bad
            go_wp2_with (go_at_call 38; refine (wfail H.out 3 (by omega)).mono ?_; rintro r w' ⟨rfl, hs', hg'⟩)
            go_ret
            exact ⟨by rw [HZ.out]; rfl, hfail _ hs' hg'⟩
          · have b3 : ((k : Int) == 9) = false := by rw [beq_eq_false_iff_ne]; omega
            have b4 : (cc == 0) = true := by rw [beq_iff_eq]; omega
            have hk0 : 0 < k := by omega
            clear k9 bad
            go_wp2_with (go_at_call 38; refine (wfail H.out 3 (by omega)).mono ?_; rintro r w' ⟨rfl, hs', hg'⟩)
            go_ret
            exact ⟨by rw [HZ.out]; rfl, hfail _ hs' hg'⟩
        · have good : numGo s (10 - k) k nn = if cc < 128 then (nn + cc % 128 * 128 ^ k, ⟨s.l.drop (k + 1), s.e⟩) else numGo s (9 - k) (k + 1) (nn + cc % 128 * 128 ^ k) := by
            rw [show 10 - k = (9 - k) + 1 by omega, numGo, if_neg hlen, HCC.out, if_neg bad]
          have HGOOD := Aside0.mk good
          clear good
          have tests : (((k : Int) == 9) = true ∧ (cc != 1) = false ∧ decide (0 < (k : Int)) = true ∧ (cc == 0) = false) ∨ (((k : Int) == 9) = false ∧ decide (0 < (k : Int)) = true ∧ (cc == 0) = false) ∨ (((k : Int) == 9) = false ∧ decide (0 < k) = false) := by
            simp only [beq_iff_eq, beq_eq_false_iff_ne, bne_eq_false_iff_eq, decide_eq_true_eq, decide_eq_false_iff_not]
            omega
          have h9 : k = 9 → cc = 1 := by omega
          have hv := Aside0.mk (num_val k nn cc hk HN.out.1 HN.out.2 hc0 hc256 h9)
          clear h9 bad hlen
          by_cases hs : cc < 128
          · have hfin : s.num = (nn + cc % 128 * 128 ^ k, ⟨s.l.drop (k + 1), s.e⟩) := by rw [← HG.out, HGOOD.out, if_pos hs]
            have HFIN := Aside0.mk hfin
            clear hfin
            have hend : ∀ (v : Value) (w' : World), v = .int .u64 (bits .or .u64 nn (IntKind.u64.wrap (IntKind.u64.wrap (bits .andNot .u8 cc 128) * 2 ^ (7 * k)))) → Scn 63 S w' g ⟨s.l.drop (k + 1), s.e⟩ → w.grownBy w' (some g) →
                Ending.returned v = .returned (.int .u64 s.num.1) ∧ Scn 63 S w' g s.num.2 ∧ w.grownBy w' (some g) := fun v w' h1 h2 h3 => by
              rw [HFIN.out, h1, hv.out.1]; exact ⟨rfl, h2, h3⟩
            have HEND := Aside0.mk hend
            clear hend
            rcases tests with ⟨t1, t2, t3, t4⟩ | ⟨t1, t3, t4⟩ | ⟨t1, t3⟩
            all_goals
              go_wp2_with fail
              all_goals go_ret
              all_goals first
                | exact HEND.out _ _ rfl (H.out.dropped_b (k + 1) (by omega) HB.out hc hc2 HH.out rfl) (grown_set _ _ _ _)
                | exact HEND.out _ _ rfl (H.out.dropped_b (k + 1) (by omega) HB.out hc hc2 HH.out (by first | assumption | omega)) (grown_set _ _ _ _)
                | exact HEND.out _ _ rfl (by rw [← add_pos _ _ (by omega)]; exact H.out.dropped_a (k + 1) (by omega) HB.out hc hc2 HH.out (by first | assumption | omega)) (grown_set _ _ _ _)
          · have hgo : numGo s (10 - (k + 1)) (k + 1) (nn + cc % 128 * 128 ^ k) = s.num := by rw [← HG.out, HGOOD.out, if_neg hs, show 10 - (k + 1) = 9 - k by omega]
            have HGO := Aside0.mk hgo
            clear hgo
            have hk9 : k < 9 := by
              rcases tests with ⟨t1, t2, t3, t4⟩ | ⟨t1, t3, t4⟩ | ⟨t1, t3⟩
              · rw [bne_eq_false_iff_eq] at t2; omega
              · rw [beq_eq_false_iff_ne] at t1; omega
              · rw [beq_eq_false_iff_ne] at t1; omega
            rcases tests with ⟨t1, t2, t3, t4⟩ | ⟨t1, t3, t4⟩ | ⟨t1, t3⟩
            · rw [beq_iff_eq] at t1; omega
            all_goals
              go_wp2_with fail
              all_goals (refine ⟨⟨k + 1, nn + cc % 128 * 128 ^ k, by omega, by go_num, by rw [hv.out.1], ⟨hv.out.2.1, hv.out.2.2.1⟩, by omega, HGO⟩, ?_⟩; simp [intOf]; omega)
  · have d0 : (s.e != 0) = true := by simpa using s0
    have S0 := Aside0.mk s0
    clear s0
    go_enter Try.func56, Try.ntmps56
    go_wp2_with fail
    go_ret
    exact ⟨by simp [Sc.num, S0.out], by simpa [Sc.num, S0.out] using H.out, grown_refl _ _⟩

set_option maxRecDepth 100000 in
set_option maxHeartbeats 1000000 in
theorem wupto {S : Nat → Prop} {w : World} {g : Nat} {s : Sc} (h : Scn 63 S w g s) (most : Int) (hm : -9223372036854775808 ≤ most ∧ most < 9223372036854775808) :
    Calls Try.prog 39 #[.pointer (some ⟨g, 0, none⟩), .int .i64 most] w fun r w' => r = .returned (.int .i64 (s.upto most).1) ∧ Scn 63 S w' g (s.upto most).2 ∧ w.grownBy w' (some g) := by
  have hn := Sc.num_lt s h.u8
  go_enter Try.func39, Try.ntmps39
  go_wp2_with fail
  refine (wnum h).mono ?_
  rintro r w1 ⟨rfl, h1, hg1⟩
  generalize hnum : s.num.1 = n
  obtain ⟨A, c, hb, hc, hc2, hh, c0, c1, f0, f1⟩ := h1.cells
  clear hb hh
  have H1 := Aside0.mk h1
  clear h1 h
  have hup : s.upto most = if s.num.2.e = 0 ∧ (most < 0 ∨ most < s.num.1) then (0, s.num.2.fail 4) else (wrap64 s.num.1, s.num.2) := rfl
  have HUP := Aside0.mk hup
  clear hup
  rw [hnum] at hn HUP
  generalize hs1 : s.num.2 = s1 at H1 HUP c0 c1 hc
  have HNUM := Aside0.mk hnum
  have HS1 := Aside0.mk hs1
  clear hnum hs1
  by_cases e0 : s1.e = 0
  · have b0 : (s1.e == 0) = true := by simp [e0]
    have E0 := Aside0.mk e0
    clear e0
    by_cases m0 : most < 0
    · have hres : s.upto most = (0, s1.fail 4) := by rw [HUP.out, if_pos ⟨E0.out, .inl m0⟩]
      have HRES := Aside0.mk hres
      clear hres
      go_wp2_with (go_at_call 38; refine (wfail H1.out 4 (by omega)).mono ?_; rintro r w' ⟨rfl, hs', hg'⟩)
      go_ret
      exact ⟨by rw [HRES.out]; rfl, by rw [HRES.out]; exact hs', grown_trans hg1 hg'⟩
    · have m1 : 0 ≤ most := by omega
      have hwm : IntKind.u64.wrap most = most := by rw [IntKind.wrap_u64]; omega
      have d0 : decide (most < 0) = false := decide_eq_false m0
      by_cases n0 : most < n
      · have hres : s.upto most = (0, s1.fail 4) := by rw [HUP.out, if_pos ⟨E0.out, .inr n0⟩]
        have HRES := Aside0.mk hres
        clear hres
        go_wp2_with (go_at_call 38; refine (wfail H1.out 4 (by omega)).mono ?_; rintro r w' ⟨rfl, hs', hg'⟩)
        go_ret
        exact ⟨by rw [HRES.out]; rfl, by rw [HRES.out]; exact hs', grown_trans hg1 hg'⟩
      · have hwn : wrap64 n = n := by unfold wrap64; omega
        have hres : s.upto most = (n, s1) := by rw [HUP.out, if_neg (fun hh => by rcases hh.2 with hh | hh; exact m0 hh; exact n0 hh), hwn]
        have HRES := Aside0.mk hres
        clear hres
        go_wp2_with (go_at_call 38; refine (wfail H1.out 4 (by omega)).mono ?_; rintro r w' ⟨rfl, hs', hg'⟩)
        go_ret
        exact ⟨by rw [HRES.out]; first | rfl | (simp; done), by rw [HRES.out]; exact H1.out, hg1⟩
  · have b0 : (s1.e == 0) = false := by simpa using e0
    have E0 := Aside0.mk e0
    clear e0
    have hres : s.upto most = (wrap64 n, s1) := by rw [HUP.out, if_neg (fun hh => E0.out hh.1)]
    have HRES := Aside0.mk hres
    clear hres
    go_wp2_with (go_at_call 38; refine (wfail H1.out 4 (by omega)).mono ?_; rintro r w' ⟨rfl, hs', hg'⟩)
    go_ret
    exact ⟨by rw [HRES.out]; first | rfl | (simp; done), by rw [HRES.out]; exact H1.out, hg1⟩

set_option maxRecDepth 100000 in
set_option maxHeartbeats 1000000 in
theorem wint {S : Nat → Prop} {w : World} {g : Nat} {s : Sc} (h : Scn 63 S w g s) :
    Calls Try.prog 57 #[.pointer (some ⟨g, 0, none⟩)] w fun r w' => r = .returned (.int .i64 s.int.1) ∧ Scn 63 S w' g s.int.2 ∧ w.grownBy w' (some g) := by
  have hn := Sc.num_lt s h.u8
  go_enter Try.func57, Try.ntmps57
  go_wp2_with fail
  refine (wnum h).mono ?_
  rintro r w1 ⟨rfl, h1, hg1⟩
  have H1 := Aside0.mk h1
  clear h1 h
  have hz := zag_val _ hn.1 hn.2
  have HZ := Aside0.mk hz
  clear hz
  go_wp2
  go_ret
  refine ⟨?_, H1.out, hg1⟩
  rw [show s.int.1 = bits .xor .i64 (s.num.1 / 2) (wrap64 (-wrap64 (bits .and .u64 s.num.1 1))) from HZ.out.symm]
  rfl
set_option maxRecDepth 100000 in
set_option maxHeartbeats 1000000 in
theorem wtext {S : Nat → Prop} {w : World} {g : Nat} {s : Sc} (h : Scn 63 S w g s) (most : Int) (hm : -9223372036854775808 ≤ most ∧ most < 9223372036854775808) :
    Calls Try.prog 37 #[.pointer (some ⟨g, 0, none⟩), .int .i64 most] w fun r w' => r = .returned (.string (strOfNums (s.text most).1)) ∧ Scn 63 S w' g (s.text most).2 ∧ w.grownBy w' (some g) := by
  have hn := Sc.num_lt s h.u8
  have hu := Sc.upto_pos s most hm hn h.err
  go_enter Try.func37, Try.ntmps37
  go_wp2_with fail
  refine (wupto h most hm).mono ?_
  rintro r w1 ⟨rfl, h1, hg1⟩
  obtain ⟨A, c, hb, hc, hc2, hh, c0, c1, f0, f1⟩ := h1.cells
  have H1 := Aside0.mk h1
  have HB := Aside0.mk hb
  have HH := Aside0.mk hh
  have htx : s.text most = if (s.upto most).2.e = 0 then (if (s.upto most).1 > (s.upto most).2.l.length then ([], (s.upto most).2.fail 2) else ((s.upto most).2.l.take (s.upto most).1.toNat, ⟨(s.upto most).2.l.drop (s.upto most).1.toNat, 0⟩)) else ([], (s.upto most).2) := rfl
  have HT := Aside0.mk htx
  clear hb hh h1 h htx
  generalize hnum : (s.upto most).1 = n at hu HT ⊢
  generalize hs1 : (s.upto most).2 = s1 at H1 HB HH HT c0 c1 hc hu
  clear hnum hs1 hn
  obtain ⟨m, rfl⟩ := Int.eq_ofNat_of_zero_le hu.1
  by_cases hgt : s1.l.length < m
  · have e0 : s1.e = 0 := by
      apply Classical.byContradiction
      intro hne
      have := hu.2 hne
      omega
    have hres : s.text most = ([], s1.fail 2) := by rw [HT.out, if_pos e0, if_pos (by omega)]
    have HRES := Aside0.mk hres
    clear hres e0 hu
    go_wp2_with (go_at_call 38; refine (wfail H1.out 2 (by omega)).mono ?_; rintro r w' ⟨rfl, hs', hg'⟩)
    go_ret
    exact ⟨by rw [HRES.out]; rfl, by rw [HRES.out]; exact hs', grown_trans hg1 hg'⟩
  · have hle : m ≤ s1.l.length := by omega
    have hres : s.text most = (s1.l.take m, ⟨s1.l.drop m, s1.e⟩) := by
      rw [HT.out]
      by_cases e0 : s1.e = 0
      · rw [if_pos e0, if_neg (by omega), Int.toNat_natCast, e0]
      · rw [if_neg e0]
        have := hu.2 e0
        obtain rfl : m = 0 := by omega
        have := H1.out.err e0
        rw [List.take_zero, List.drop_zero]
    have HRES := Aside0.mk hres
    clear hres hu
    have hcs : (convert 27 9 (.slice A m c)).run Try.prog w1 = .ok (.string (strOfNums (s1.l.take m))) w1 := by
      have hC := HH.out.C (by have := H1.out.short; omega)
      have hT := Kd.C_take hC hle
      rw [List.length_take, Nat.min_eq_left hle] at hT
      exact Kd.C_string (P := Try.prog) (A := A) (c := c) Try.underlying27 Try.underlying5 Try.underlying9 hT
    have HEND : ∀ (W : World), Scn 63 S W g ⟨s1.l.drop m, s1.e⟩ → w1.grownBy W (some g) → Ending.returned (.string (strOfNums (s1.l.take m))) = .returned (.string (strOfNums (s.text most).1)) ∧ Scn 63 S W g (s.text most).2 ∧ w.grownBy W (some g) := fun W h1 h2 => by
      rw [HRES.out]; exact ⟨rfl, h1, grown_trans hg1 h2⟩
    have HE := Aside0.mk HEND
    clear HEND
    go_wp2
    all_goals go_ret
    all_goals first
      | exact HE.out _ (H1.out.dropped_b m hle HB.out hc hc2 HH.out (by assumption)) (grown_set _ _ _ _)
      | exact HE.out _ (H1.out.dropped_b m hle HB.out hc hc2 HH.out rfl) (grown_set _ _ _ _)
      | (refine HE.out _ ?_ (grown_set _ _ _ _); have h_ := H1.out.dropped m hle HB.out hc hc2 HH.out; rw [if_neg (by first | assumption | omega)] at h_; exact h_)

theorem wleft {S : Nat → Prop} {w : World} {g : Nat} {s : Sc} (h : Scn 63 S w g s) :
    Calls Try.prog 22 #[.pointer (some ⟨g, 0, none⟩)] w fun r w' => r = .returned (.int .i64 s.l.length) ∧ w = w' := by
  obtain ⟨A, c, hb, hc, hc2, hh, c0, c1, f0, f1⟩ := h.cells
  clear hb hh h
  go_enter Try.func22, Try.ntmps22
  go_wp2
  go_ret
  exact ⟨rfl, rfl⟩
theorem werr {S : Nat → Prop} {w : World} {g : Nat} {s : Sc} (h : Scn 63 S w g s) :
    Calls Try.prog 23 #[.pointer (some ⟨g, 0, none⟩)] w fun r w' => r = .returned (.int .i64 s.e) ∧ w = w' := by
  obtain ⟨A, c, hb, hc, hc2, hh, c0, c1, f0, f1⟩ := h.cells
  clear hb hh h
  go_enter Try.func23, Try.ntmps23
  go_wp2
  go_ret
  exact ⟨rfl, rfl⟩
set_option maxHeartbeats 400000 in
theorem wend {S : Nat → Prop} {w : World} {g : Nat} {s : Sc} (h : Scn 63 S w g s) :
    Calls Try.prog 24 #[.pointer (some ⟨g, 0, none⟩)] w fun r w' => r = .returned (.int .i64 s.endE) ∧ w = w' := by
  obtain ⟨A, c, hb, hc, hc2, hh, c0, c1, f0, f1⟩ := h.cells
  clear hb hh h
  by_cases e0 : s.e = 0
  · have b0 : (s.e == 0) = true := by simp [e0]
    have E0 := Aside0.mk e0
    clear e0
    by_cases l0 : 0 < s.l.length
    · have d0 : decide (0 < (s.l.length : Int)) = true := by simpa using l0
      have hres : s.endE = 5 := by rw [Sc.endE, if_pos ⟨E0.out, l0⟩]
      have HR := Aside0.mk hres
      clear hres
      go_enter Try.func24, Try.ntmps24
      go_wp2
      go_ret
      exact ⟨by rw [HR.out]; rfl, rfl⟩
    · have d0 : decide (0 < s.l.length) = false := decide_eq_false l0
      have hres : s.endE = s.e := by rw [Sc.endE, if_neg (fun hh => l0 hh.2)]
      have HR := Aside0.mk hres
      clear hres l0
      go_enter Try.func24, Try.ntmps24
      go_wp2
      go_ret
      exact ⟨by rw [HR.out]; rfl, rfl⟩
  · have b0 : (s.e == 0) = false := by simpa using e0
    have hres : s.endE = s.e := by rw [Sc.endE, if_neg (fun hh => e0 hh.1)]
    have HR := Aside0.mk hres
    clear hres e0
    go_enter Try.func24, Try.ntmps24
    go_wp2
    go_ret
    exact ⟨by rw [HR.out]; rfl, rfl⟩
end Go.Proofs.Ytojefdnngkcaoaa
end

section
-- Written by a program of this session (wip/tools/myprint.py), over the kit's print.
namespace Go.Proofs.Ytojefdnngkcaoaa.G
open Go.RowKit Go.Proofs.YtojefdnngkcaoaaW.PrintWords Go.Proofs.YtojefdnngkcaoaaW.PrintLast Go.Proofs.YtojefdnngkcaoaaW.PrintMore
attribute [local go_sem] max2_int min2_int max_two min_two max_three min_three max_four min_four   -- for this text's walks alone
set_option linter.unusedVariables false
set_option linter.unusedSimpArgs false



def errW : Option Int → Value
  | none => .nilIface
  | some c => .iface 0 (.int .i64 c)
theorem errW_none : errW none = .nilIface := rfl
theorem errW_some (c : Int) : errW (some c) = .iface 0 (.int .i64 c) := rfl

theorem info3 : (Try.prog.info? 3).map (fun i => (i.zero, i.size, i.bytes)) = some (some (.int .i64 0), 1, 8) := by kernel_rfl
theorem info5 : (Try.prog.info? 5).map (fun i => (i.zero, i.size, i.bytes)) = some (some (.int .u8 0), 1, 1) := by kernel_rfl
-- the values' own types
/-! #### struct type 23 -/
structure S23 where
  f0 : Int
  f1 : Int
  f2 : ByteArray
def z23 : S23 := ⟨(0 : Int), (0 : Int), (⟨#[]⟩ : ByteArray)⟩
def k23 : Kd S23 := Kd.iso (Kd.pair (Kd.int .i64) (Kd.pair (Kd.int .i64) Kd.string)) (fun x : S23 => (x.f0, x.f1, x.f2))
theorem k23_open {w : World} {x : S23} {cs : List Value} (h : k23.K w x cs) : cs = [.int .i64 x.f0, .int .i64 x.f1, .string x.f2] := by
  obtain ⟨_, _, rfl, rfl, ⟨_, _, rfl, rfl, rfl⟩⟩ := h
  exact rfl
theorem k23_openM {w : World} {base : Nat} {ok : Nat → Prop} {x : S23} {cs : List Value} (h : k23.M w base ok x cs) : cs = [.int .i64 x.f0, .int .i64 x.f1, .string x.f2] := by
  obtain ⟨_, _, rfl, rfl, ⟨_, _, rfl, rfl, rfl⟩⟩ := h
  exact rfl
theorem k23_mk (w : World) (x : S23)  : k23.K w x [.int .i64 x.f0, .int .i64 x.f1, .string x.f2] := ⟨[.int .i64 x.f0], [.int .i64 x.f1, .string x.f2], rfl, rfl, ⟨[.int .i64 x.f1], [.string x.f2], rfl, rfl, rfl⟩⟩
theorem k23_mkM (w : World) (base : Nat) (ok : Nat → Prop) (x : S23)  : k23.M w base ok x [.int .i64 x.f0, .int .i64 x.f1, .string x.f2] := ⟨[.int .i64 x.f0], [.int .i64 x.f1, .string x.f2], rfl, rfl, ⟨[.int .i64 x.f1], [.string x.f2], rfl, rfl, rfl⟩⟩
def rd_T23 (xs : List S23) (i : Int) : S23 := xs.getD i.toNat z23
theorem at_T23 {w : World} {A : Option Addr} {n : Nat} {xs : List S23} (h : Kd.C k23 w A n xs) (i : Int) (h0 : 0 ≤ i) (h1 : i < n) : ∃ ad , A = some ad ∧ w.cell? (ad.add (i.toNat * 3)) = some (.int .i64 (rd_T23 xs i).f0) ∧ w.cell? ⟨(ad.add (i.toNat * 3)).block, (ad.add (i.toNat * 3)).off + 1, none⟩ = some (.int .i64 (rd_T23 xs i).f1) ∧ w.cell? ⟨(ad.add (i.toNat * 3)).block, (ad.add (i.toNat * 3)).off + 2, none⟩ = some (.string (rd_T23 xs i).f2) := by
  obtain ⟨ad, c, e, _, hK, hc0⟩ := Kd.C_get h z23 i h0 h1
  have hc : ∀ j u, c[j]? = some u → w.cell? (ad.add (i.toNat * 3 + j)) = some u := hc0
  obtain rfl := k23_open hK
  exact ⟨ad, e, hc 0 _ rfl, by rw [← add_field _ _ 1 (by omega)]; exact hc 1 _ rfl, by rw [← add_field _ _ 2 (by omega)]; exact hc 2 _ rfl⟩

/-! #### struct type 52 -/
structure S52 where
  f0 : ByteArray
  f1 : S23
def z52 : S52 := ⟨(⟨#[]⟩ : ByteArray), z23⟩
def k52 : Kd S52 := Kd.iso (Kd.pair Kd.string k23) (fun x : S52 => (x.f0, x.f1))
theorem k52_open {w : World} {x : S52} {cs : List Value} (h : k52.K w x cs) : cs = [.string x.f0, .int .i64 x.f1.f0, .int .i64 x.f1.f1, .string x.f1.f2] := by
  obtain ⟨_, _, rfl, rfl, s1⟩ := h
  obtain rfl := k23_open s1
  exact rfl
theorem k52_openM {w : World} {base : Nat} {ok : Nat → Prop} {x : S52} {cs : List Value} (h : k52.M w base ok x cs) : cs = [.string x.f0, .int .i64 x.f1.f0, .int .i64 x.f1.f1, .string x.f1.f2] := by
  obtain ⟨_, _, rfl, rfl, s1⟩ := h
  obtain rfl := k23_openM s1
  exact rfl
theorem k52_mk (w : World) (x : S52)  : k52.K w x [.string x.f0, .int .i64 x.f1.f0, .int .i64 x.f1.f1, .string x.f1.f2] := ⟨[.string x.f0], [.int .i64 x.f1.f0, .int .i64 x.f1.f1, .string x.f1.f2], rfl, rfl, (k23_mk w x.f1 )⟩
theorem k52_mkM (w : World) (base : Nat) (ok : Nat → Prop) (x : S52)  : k52.M w base ok x [.string x.f0, .int .i64 x.f1.f0, .int .i64 x.f1.f1, .string x.f1.f2] := ⟨[.string x.f0], [.int .i64 x.f1.f0, .int .i64 x.f1.f1, .string x.f1.f2], rfl, rfl, (k23_mkM w base ok x.f1 )⟩
def rd_T52 (xs : List S52) (i : Int) : S52 := xs.getD i.toNat z52
theorem at_T52 {w : World} {A : Option Addr} {n : Nat} {xs : List S52} (h : Kd.C k52 w A n xs) (i : Int) (h0 : 0 ≤ i) (h1 : i < n) : ∃ ad , A = some ad ∧ w.cell? (ad.add (i.toNat * 4)) = some (.string (rd_T52 xs i).f0) ∧ w.cell? ⟨(ad.add (i.toNat * 4)).block, (ad.add (i.toNat * 4)).off + 1, none⟩ = some (.int .i64 (rd_T52 xs i).f1.f0) ∧ w.cell? ⟨(ad.add (i.toNat * 4)).block, (ad.add (i.toNat * 4)).off + 2, none⟩ = some (.int .i64 (rd_T52 xs i).f1.f1) ∧ w.cell? ⟨(ad.add (i.toNat * 4)).block, (ad.add (i.toNat * 4)).off + 3, none⟩ = some (.string (rd_T52 xs i).f1.f2) := by
  obtain ⟨ad, c, e, _, hK, hc0⟩ := Kd.C_get h z52 i h0 h1
  have hc : ∀ j u, c[j]? = some u → w.cell? (ad.add (i.toNat * 4 + j)) = some u := hc0
  obtain rfl := k52_open hK
  exact ⟨ad, e, hc 0 _ rfl, by rw [← add_field _ _ 1 (by omega)]; exact hc 1 _ rfl, by rw [← add_field _ _ 2 (by omega)]; exact hc 2 _ rfl, by rw [← add_field _ _ 3 (by omega)]; exact hc 3 _ rfl⟩

def rd_L4 (xs : List (List S52)) (i : Int) : (List S52) := xs.getD i.toNat ([] : List S52)
theorem at_L4 {w : World} {A : Option Addr} {n : Nat} {xs : List (List S52)} (h : Kd.C (Kd.slice 52 k52) w A n xs) (i : Int) (h0 : 0 ≤ i) (h1 : i < n) : ∃ ad A0 c0, A = some ad ∧ w.cell? (ad.add i.toNat) = some (.slice A0 (rd_L4 xs i).length c0) ∧ (rd_L4 xs i).length ≤ c0 ∧ k52.C w A0 (rd_L4 xs i).length (rd_L4 xs i) := by
  obtain ⟨ad, c, e, _, hK, hc0⟩ := Kd.C_get h ([] : List S52) i h0 h1
  have hc : ∀ j u, c[j]? = some u → w.cell? (ad.add (i.toNat * 1 + j)) = some u := hc0
  obtain ⟨A0, c0, rfl, l0, g0⟩ := hK
  exact ⟨ad, A0, c0, e, by have hq := hc 0 _ rfl; rwa [Nat.mul_one, Nat.add_zero] at hq, l0, g0⟩

def rd_L7 (xs : List (List Int)) (i : Int) : (List Int) := xs.getD i.toNat ([] : List Int)
theorem at_L7 {w : World} {A : Option Addr} {n : Nat} {xs : List (List Int)} (h : Kd.C (Kd.slice 5 (Kd.int .u8)) w A n xs) (i : Int) (h0 : 0 ≤ i) (h1 : i < n) : ∃ ad A0 c0, A = some ad ∧ w.cell? (ad.add i.toNat) = some (.slice A0 (rd_L7 xs i).length c0) ∧ (rd_L7 xs i).length ≤ c0 ∧ (Kd.int .u8).C w A0 (rd_L7 xs i).length (rd_L7 xs i) := by
  obtain ⟨ad, c, e, _, hK, hc0⟩ := Kd.C_get h ([] : List Int) i h0 h1
  have hc : ∀ j u, c[j]? = some u → w.cell? (ad.add (i.toNat * 1 + j)) = some u := hc0
  obtain ⟨A0, c0, rfl, l0, g0⟩ := hK
  exact ⟨ad, A0, c0, e, by have hq := hc 0 _ rfl; rwa [Nat.mul_one, Nat.add_zero] at hq, l0, g0⟩

end Go.Proofs.Ytojefdnngkcaoaa.G
end

section
-- Written by a program of this session (wip/tools/myprint.py), over the kit's print.
namespace Go.Proofs.Ytojefdnngkcaoaa.G
open Go.RowKit Go.Proofs.YtojefdnngkcaoaaW.PrintWords Go.Proofs.YtojefdnngkcaoaaW.PrintLast Go.Proofs.YtojefdnngkcaoaaW.PrintMore
attribute [local go_sem] max2_int min2_int max_two min_two max_three min_three max_four min_four   -- for this text's walks alone
set_option linter.unusedVariables false
set_option linter.unusedSimpArgs false

theorem eqA23 (d : Nat) (w : World) (x0 y0 : Int) (x1 y1 : Int) (x2 y2 : ByteArray) :
    (Op.equalIn (d + 2) 23 (.agg #[.int .i64 x0, .int .i64 x1, .string x2]) (.agg #[.int .i64 y0, .int .i64 y1, .string y2])).run Try.prog w = .ok (x0 == y0 && (x1 == y1 && (x2.toList == y2.toList))) w := by
  refine eqA_of Try.underlying23 (by kernel_rfl) ?_
  refine eqf_cons (by rfl) (by go_simp; rfl) (by go_simp; rfl) (by go_simp) ?_
  refine eqf_cons (by rfl) (by go_simp; rfl) (by go_simp; rfl) (by go_simp) ?_
  exact eqf_last (by rfl) (by go_simp; rfl) (by go_simp; rfl) (by go_simp)
end Go.Proofs.Ytojefdnngkcaoaa.G
end

section
-- Written by a program of this session (wip/tools/myprint.py), over the kit's print.
namespace Go.Proofs.Ytojefdnngkcaoaa.G
open Go.RowKit Go.Proofs.YtojefdnngkcaoaaW.PrintWords Go.Proofs.YtojefdnngkcaoaaW.PrintLast Go.Proofs.YtojefdnngkcaoaaW.PrintMore
attribute [local go_sem] max2_int min2_int max_two min_two max_three min_three max_four min_four   -- for this text's walks alone
set_option linter.unusedVariables false
set_option linter.unusedSimpArgs false

/-! ### value_Right: function 18 -/
def value_Right.f (a0_0 : Int) (a0_1 : Int) (a0_2 : ByteArray) : Option (Bool) := if a0_0 = 1 then (some (a0_2.toList == ([] : List UInt8))) else (if a0_0 = 2 then (if a0_1 = 0 then (some (decide ((a0_2.size : Int) ≤ 64))) else (some false)) else (if a0_0 = 3 then (if a0_2.toList = ([] : List UInt8) then (some ((Go.bits .andNot .i64 a0_1 1) == 0)) else (some false)) else (some false)))
set_option maxHeartbeats 8000000 in
set_option maxRecDepth 100000 in
theorem value_Right.calls (a0_0 : Int) (a0_1 : Int) (a0_2 : ByteArray) (r : Bool) (w : World) (h : value_Right.f a0_0 a0_1 a0_2 = some r) :
    Calls Try.prog 18 #[.agg #[.int .i64 a0_0, .int .i64 a0_1, .string a0_2]] w fun e w' => e = .returned (.bool r) ∧ Below w.heap.size w w' := by
  have hu23 := Try.underlying23
  have HB := Aside0.mk (Below.refl w.heap.size w)
  have H : (if a0_0 = 1 then (some (a0_2.toList == ([] : List UInt8))) else (if a0_0 = 2 then (if a0_1 = 0 then (some (decide ((a0_2.size : Int) ≤ 64))) else (some false)) else (if a0_0 = 3 then (if a0_2.toList = ([] : List UInt8) then (some ((Go.bits .andNot .i64 a0_1 1) == 0)) else (some false)) else (some false)))) = some r := h
  clear h
  by_cases c2 : a0_0 = 1
  · rw [if_pos c2] at H
    have c2b0 : (a0_0 == 1) = true := beq_iff_eq.mpr c2
    have c2b1 : (a0_0 != 1) = false := bne_eq_false_iff_eq.mpr c2
    clear c2
    obtain rfl := Option.some.inj H
    go_enter Try.func18, Try.ntmps18
    go_wp2_with (first | ((with_reducible refine gate_dst (N := 1) rfl ?_); (try (refine gate_guard (by rfl) ?_; dsimp only)); refine box_event ?hg (N := 1) ?hd (cs := #[.int .i64 a0_0, .int .i64 a0_1, .string a0_2]) (t := 23) ?hr ?_; (case hd => rfl); (case hg => rfl); (case hr => first | (go_simp; done) | (go_simp; rfl)); intro gb101 hg w3 hbox hb; have n0_ := Aside0.mk (below_step (by repeat (first | (with_reducible first | exact HB.out | apply below_alloc | apply pw_below_drewN | apply below_drew1) | exact HB.out)) hb); have n1_ := Aside0.mk (hbox); have n2_ := Aside0.mk ((by rw [hg]; exact (below_size (by repeat (first | (with_reducible first | exact HB.out | apply below_alloc | apply pw_below_drewN | apply below_drew1) | exact HB.out))) : w.heap.size ≤ gb101)); have n3_ := Aside0.mk ((by rw [hg]; exact (below_size (by repeat (first | (with_reducible first | exact HB.out | apply below_alloc | apply pw_below_drewN | apply below_drew1) | exact HB.out))) : w.heap.size ≤ gb101)); clear HB; have HB := n0_; have BK101 := n1_; have GW101 := n2_; have GE101 := n3_; clear n0_ n1_ n2_ n3_; clear hb hbox hg; have hcz4_0 : w3.cell? ⟨gb101, 0, none⟩ = some (.int .i64 a0_0) := (blk_cell BK101.out 0).trans rfl; have hcz4_1 : w3.cell? ⟨gb101, 1, none⟩ = some (.int .i64 a0_1) := (blk_cell BK101.out 1).trans rfl; have hcz4_2 : w3.cell? ⟨gb101, 2, none⟩ = some (.string a0_2) := (blk_cell BK101.out 2).trans rfl; have hfz4_0 := blk_frozen BK101.out 0; have hfz4_1 := blk_frozen BK101.out 1; have hfz4_2 := blk_frozen BK101.out 2))
    go_ret
    exact ⟨by first | rfl | (simp [errW_none, errW_some] <;> rfl) | (simp [*, errW_none, errW_some] <;> rfl), by repeat (first | (with_reducible first | exact HB.out | apply below_alloc | apply pw_below_drewN | apply below_drew1 | refine below_set ?_ GE101.out) | exact HB.out)⟩
  · rw [if_neg c2] at H
    have c2b0 : (a0_0 == 1) = false := beq_eq_false_iff_ne.mpr c2
    have c2b1 : (a0_0 != 1) = true := bne_iff_ne.mpr c2
    by_cases c5 : a0_0 = 2
    · rw [if_pos c5] at H
      have c5b0 : (a0_0 == 2) = true := beq_iff_eq.mpr c5
      have c5b1 : (a0_0 != 2) = false := bne_eq_false_iff_eq.mpr c5
      clear c5
      by_cases c6 : a0_1 = 0
      · rw [if_pos c6] at H
        have c6b0 : (a0_1 == 0) = true := beq_iff_eq.mpr c6
        have c6b1 : (a0_1 != 0) = false := bne_eq_false_iff_eq.mpr c6
        clear c6
        obtain rfl := Option.some.inj H
        go_enter Try.func18, Try.ntmps18
        go_wp2_with (first | ((with_reducible refine gate_dst (N := 1) rfl ?_); (try (refine gate_guard (by rfl) ?_; dsimp only)); refine box_event ?hg (N := 1) ?hd (cs := #[.int .i64 a0_0, .int .i64 a0_1, .string a0_2]) (t := 23) ?hr ?_; (case hd => rfl); (case hg => rfl); (case hr => first | (go_simp; done) | (go_simp; rfl)); intro gb101 hg w7 hbox hb; have n0_ := Aside0.mk (below_step (by repeat (first | (with_reducible first | exact HB.out | apply below_alloc | apply pw_below_drewN | apply below_drew1) | exact HB.out)) hb); have n1_ := Aside0.mk (hbox); have n2_ := Aside0.mk ((by rw [hg]; exact (below_size (by repeat (first | (with_reducible first | exact HB.out | apply below_alloc | apply pw_below_drewN | apply below_drew1) | exact HB.out))) : w.heap.size ≤ gb101)); have n3_ := Aside0.mk ((by rw [hg]; exact (below_size (by repeat (first | (with_reducible first | exact HB.out | apply below_alloc | apply pw_below_drewN | apply below_drew1) | exact HB.out))) : w.heap.size ≤ gb101)); clear HB; have HB := n0_; have BK101 := n1_; have GW101 := n2_; have GE101 := n3_; clear n0_ n1_ n2_ n3_; clear hb hbox hg; have hcz8_0 : w7.cell? ⟨gb101, 0, none⟩ = some (.int .i64 a0_0) := (blk_cell BK101.out 0).trans rfl; have hcz8_1 : w7.cell? ⟨gb101, 1, none⟩ = some (.int .i64 a0_1) := (blk_cell BK101.out 1).trans rfl; have hcz8_2 : w7.cell? ⟨gb101, 2, none⟩ = some (.string a0_2) := (blk_cell BK101.out 2).trans rfl; have hfz8_0 := blk_frozen BK101.out 0; have hfz8_1 := blk_frozen BK101.out 1; have hfz8_2 := blk_frozen BK101.out 2))
        go_ret
        exact ⟨by first | rfl | (simp [errW_none, errW_some] <;> rfl) | (simp [*, errW_none, errW_some] <;> rfl), by repeat (first | (with_reducible first | exact HB.out | apply below_alloc | apply pw_below_drewN | apply below_drew1 | refine below_set ?_ GE101.out) | exact HB.out)⟩
      · rw [if_neg c6] at H
        have c6b0 : (a0_1 == 0) = false := beq_eq_false_iff_ne.mpr c6
        have c6b1 : (a0_1 != 0) = true := bne_iff_ne.mpr c6
        obtain rfl := Option.some.inj H
        go_enter Try.func18, Try.ntmps18
        go_wp2_with (first | ((with_reducible refine gate_dst (N := 1) rfl ?_); (try (refine gate_guard (by rfl) ?_; dsimp only)); refine box_event ?hg (N := 1) ?hd (cs := #[.int .i64 a0_0, .int .i64 a0_1, .string a0_2]) (t := 23) ?hr ?_; (case hd => rfl); (case hg => rfl); (case hr => first | (go_simp; done) | (go_simp; rfl)); intro gb101 hg w9 hbox hb; have n0_ := Aside0.mk (below_step (by repeat (first | (with_reducible first | exact HB.out | apply below_alloc | apply pw_below_drewN | apply below_drew1) | exact HB.out)) hb); have n1_ := Aside0.mk (hbox); have n2_ := Aside0.mk ((by rw [hg]; exact (below_size (by repeat (first | (with_reducible first | exact HB.out | apply below_alloc | apply pw_below_drewN | apply below_drew1) | exact HB.out))) : w.heap.size ≤ gb101)); have n3_ := Aside0.mk ((by rw [hg]; exact (below_size (by repeat (first | (with_reducible first | exact HB.out | apply below_alloc | apply pw_below_drewN | apply below_drew1) | exact HB.out))) : w.heap.size ≤ gb101)); clear HB; have HB := n0_; have BK101 := n1_; have GW101 := n2_; have GE101 := n3_; clear n0_ n1_ n2_ n3_; clear hb hbox hg; have hcz10_0 : w9.cell? ⟨gb101, 0, none⟩ = some (.int .i64 a0_0) := (blk_cell BK101.out 0).trans rfl; have hcz10_1 : w9.cell? ⟨gb101, 1, none⟩ = some (.int .i64 a0_1) := (blk_cell BK101.out 1).trans rfl; have hcz10_2 : w9.cell? ⟨gb101, 2, none⟩ = some (.string a0_2) := (blk_cell BK101.out 2).trans rfl; have hfz10_0 := blk_frozen BK101.out 0; have hfz10_1 := blk_frozen BK101.out 1; have hfz10_2 := blk_frozen BK101.out 2))
        go_ret
        exact ⟨by first | rfl | (simp [errW_none, errW_some] <;> rfl) | (simp [*, errW_none, errW_some] <;> rfl), by repeat (first | (with_reducible first | exact HB.out | apply below_alloc | apply pw_below_drewN | apply below_drew1 | refine below_set ?_ GE101.out) | exact HB.out)⟩
    · rw [if_neg c5] at H
      have c5b0 : (a0_0 == 2) = false := beq_eq_false_iff_ne.mpr c5
      have c5b1 : (a0_0 != 2) = true := bne_iff_ne.mpr c5
      by_cases c11 : a0_0 = 3
      · rw [if_pos c11] at H
        have c11b0 : (a0_0 == 3) = true := beq_iff_eq.mpr c11
        have c11b1 : (a0_0 != 3) = false := bne_eq_false_iff_eq.mpr c11
        clear c11
        by_cases c12 : a0_2.toList = ([] : List UInt8)
        · rw [if_pos c12] at H
          have c12b0 : (a0_2.toList == ([] : List UInt8)) = true := beq_iff_eq.mpr c12
          have c12b1 : (a0_2.toList != ([] : List UInt8)) = false := bne_eq_false_iff_eq.mpr c12
          clear c12
          obtain rfl := Option.some.inj H
          go_enter Try.func18, Try.ntmps18
          go_wp2_with (first | ((with_reducible refine gate_dst (N := 1) rfl ?_); (try (refine gate_guard (by rfl) ?_; dsimp only)); refine box_event ?hg (N := 1) ?hd (cs := #[.int .i64 a0_0, .int .i64 a0_1, .string a0_2]) (t := 23) ?hr ?_; (case hd => rfl); (case hg => rfl); (case hr => first | (go_simp; done) | (go_simp; rfl)); intro gb101 hg w13 hbox hb; have n0_ := Aside0.mk (below_step (by repeat (first | (with_reducible first | exact HB.out | apply below_alloc | apply pw_below_drewN | apply below_drew1) | exact HB.out)) hb); have n1_ := Aside0.mk (hbox); have n2_ := Aside0.mk ((by rw [hg]; exact (below_size (by repeat (first | (with_reducible first | exact HB.out | apply below_alloc | apply pw_below_drewN | apply below_drew1) | exact HB.out))) : w.heap.size ≤ gb101)); have n3_ := Aside0.mk ((by rw [hg]; exact (below_size (by repeat (first | (with_reducible first | exact HB.out | apply below_alloc | apply pw_below_drewN | apply below_drew1) | exact HB.out))) : w.heap.size ≤ gb101)); clear HB; have HB := n0_; have BK101 := n1_; have GW101 := n2_; have GE101 := n3_; clear n0_ n1_ n2_ n3_; clear hb hbox hg; have hcz14_0 : w13.cell? ⟨gb101, 0, none⟩ = some (.int .i64 a0_0) := (blk_cell BK101.out 0).trans rfl; have hcz14_1 : w13.cell? ⟨gb101, 1, none⟩ = some (.int .i64 a0_1) := (blk_cell BK101.out 1).trans rfl; have hcz14_2 : w13.cell? ⟨gb101, 2, none⟩ = some (.string a0_2) := (blk_cell BK101.out 2).trans rfl; have hfz14_0 := blk_frozen BK101.out 0; have hfz14_1 := blk_frozen BK101.out 1; have hfz14_2 := blk_frozen BK101.out 2))
          go_ret
          exact ⟨by first | rfl | (simp [errW_none, errW_some] <;> rfl) | (simp [*, errW_none, errW_some] <;> rfl), by repeat (first | (with_reducible first | exact HB.out | apply below_alloc | apply pw_below_drewN | apply below_drew1 | refine below_set ?_ GE101.out) | exact HB.out)⟩
        · rw [if_neg c12] at H
          have c12b0 : (a0_2.toList == ([] : List UInt8)) = false := beq_eq_false_iff_ne.mpr c12
          have c12b1 : (a0_2.toList != ([] : List UInt8)) = true := bne_iff_ne.mpr c12
          obtain rfl := Option.some.inj H
          go_enter Try.func18, Try.ntmps18
          go_wp2_with (first | ((with_reducible refine gate_dst (N := 1) rfl ?_); (try (refine gate_guard (by rfl) ?_; dsimp only)); refine box_event ?hg (N := 1) ?hd (cs := #[.int .i64 a0_0, .int .i64 a0_1, .string a0_2]) (t := 23) ?hr ?_; (case hd => rfl); (case hg => rfl); (case hr => first | (go_simp; done) | (go_simp; rfl)); intro gb101 hg w15 hbox hb; have n0_ := Aside0.mk (below_step (by repeat (first | (with_reducible first | exact HB.out | apply below_alloc | apply pw_below_drewN | apply below_drew1) | exact HB.out)) hb); have n1_ := Aside0.mk (hbox); have n2_ := Aside0.mk ((by rw [hg]; exact (below_size (by repeat (first | (with_reducible first | exact HB.out | apply below_alloc | apply pw_below_drewN | apply below_drew1) | exact HB.out))) : w.heap.size ≤ gb101)); have n3_ := Aside0.mk ((by rw [hg]; exact (below_size (by repeat (first | (with_reducible first | exact HB.out | apply below_alloc | apply pw_below_drewN | apply below_drew1) | exact HB.out))) : w.heap.size ≤ gb101)); clear HB; have HB := n0_; have BK101 := n1_; have GW101 := n2_; have GE101 := n3_; clear n0_ n1_ n2_ n3_; clear hb hbox hg; have hcz16_0 : w15.cell? ⟨gb101, 0, none⟩ = some (.int .i64 a0_0) := (blk_cell BK101.out 0).trans rfl; have hcz16_1 : w15.cell? ⟨gb101, 1, none⟩ = some (.int .i64 a0_1) := (blk_cell BK101.out 1).trans rfl; have hcz16_2 : w15.cell? ⟨gb101, 2, none⟩ = some (.string a0_2) := (blk_cell BK101.out 2).trans rfl; have hfz16_0 := blk_frozen BK101.out 0; have hfz16_1 := blk_frozen BK101.out 1; have hfz16_2 := blk_frozen BK101.out 2))
          go_ret
          exact ⟨by first | rfl | (simp [errW_none, errW_some] <;> rfl) | (simp [*, errW_none, errW_some] <;> rfl), by repeat (first | (with_reducible first | exact HB.out | apply below_alloc | apply pw_below_drewN | apply below_drew1 | refine below_set ?_ GE101.out) | exact HB.out)⟩
      · rw [if_neg c11] at H
        have c11b0 : (a0_0 == 3) = false := beq_eq_false_iff_ne.mpr c11
        have c11b1 : (a0_0 != 3) = true := bne_iff_ne.mpr c11
        obtain rfl := Option.some.inj H
        go_enter Try.func18, Try.ntmps18
        go_wp2_with (first | ((with_reducible refine gate_dst (N := 1) rfl ?_); (try (refine gate_guard (by rfl) ?_; dsimp only)); refine box_event ?hg (N := 1) ?hd (cs := #[.int .i64 a0_0, .int .i64 a0_1, .string a0_2]) (t := 23) ?hr ?_; (case hd => rfl); (case hg => rfl); (case hr => first | (go_simp; done) | (go_simp; rfl)); intro gb101 hg w17 hbox hb; have n0_ := Aside0.mk (below_step (by repeat (first | (with_reducible first | exact HB.out | apply below_alloc | apply pw_below_drewN | apply below_drew1) | exact HB.out)) hb); have n1_ := Aside0.mk (hbox); have n2_ := Aside0.mk ((by rw [hg]; exact (below_size (by repeat (first | (with_reducible first | exact HB.out | apply below_alloc | apply pw_below_drewN | apply below_drew1) | exact HB.out))) : w.heap.size ≤ gb101)); have n3_ := Aside0.mk ((by rw [hg]; exact (below_size (by repeat (first | (with_reducible first | exact HB.out | apply below_alloc | apply pw_below_drewN | apply below_drew1) | exact HB.out))) : w.heap.size ≤ gb101)); clear HB; have HB := n0_; have BK101 := n1_; have GW101 := n2_; have GE101 := n3_; clear n0_ n1_ n2_ n3_; clear hb hbox hg; have hcz18_0 : w17.cell? ⟨gb101, 0, none⟩ = some (.int .i64 a0_0) := (blk_cell BK101.out 0).trans rfl; have hcz18_1 : w17.cell? ⟨gb101, 1, none⟩ = some (.int .i64 a0_1) := (blk_cell BK101.out 1).trans rfl; have hcz18_2 : w17.cell? ⟨gb101, 2, none⟩ = some (.string a0_2) := (blk_cell BK101.out 2).trans rfl; have hfz18_0 := blk_frozen BK101.out 0; have hfz18_1 := blk_frozen BK101.out 1; have hfz18_2 := blk_frozen BK101.out 2))
        go_ret
        exact ⟨by first | rfl | (simp [errW_none, errW_some] <;> rfl) | (simp [*, errW_none, errW_some] <;> rfl), by repeat (first | (with_reducible first | exact HB.out | apply below_alloc | apply pw_below_drewN | apply below_drew1 | refine below_set ?_ GE101.out) | exact HB.out)⟩

end Go.Proofs.Ytojefdnngkcaoaa.G
end

section
-- Written by a program of this session (wip/tools/myprint.py), over the kit's print.
namespace Go.Proofs.Ytojefdnngkcaoaa.G
open Go.RowKit Go.Proofs.YtojefdnngkcaoaaW.PrintWords Go.Proofs.YtojefdnngkcaoaaW.PrintLast Go.Proofs.YtojefdnngkcaoaaW.PrintMore
attribute [local go_sem] max2_int min2_int max_two min_two max_three min_three max_four min_four   -- for this text's walks alone
set_option linter.unusedVariables false
set_option linter.unusedSimpArgs false

attribute [local go_sem high] eqA23
/-! ### pred_Right: function 10 -/
def pred_Right.j0 : Nat → Bool → ByteArray → Int → Int → Int → ByteArray → Option (Bool)
  | 0, _, _, _, _, _, _ => none
  | k + 1, x3, x103000, x103001, x103002, x103003, x103004 => if x103001 = 8 then (if x3 = true then (some (x103002 == 0 && (x103003 == 0 && (x103004.toList == ([] : List UInt8))))) else (some false)) else (if x103001 = 7 then (if x103002 = 2 then (if x3 = true then (if x103001 ≥ 1 then (if x103001 ≤ 7 then ((value_Right.f x103002 x103003 x103004).bind fun t103 => (some t103)) else (some false)) else (some false)) else (some false)) else (some false)) else (if x3 = true then (if x103001 ≥ 1 then (if x103001 ≤ 7 then ((value_Right.f x103002 x103003 x103004).bind fun t104 => (some t104)) else (some false)) else (some false)) else (some false)))
def pred_Right.f (k : Nat) (a0_0 : ByteArray) (a0_1 : Int) (a0_2 : Int) (a0_3 : Int) (a0_4 : ByteArray) : Option (Bool) := if a0_0.toList = ([] : List UInt8) then (pred_Right.j0 k false a0_0 a0_1 a0_2 a0_3 a0_4) else (if (a0_0.size : Int) ≤ 16 then (pred_Right.j0 k (decide ((a0_4.size : Int) ≤ 32)) a0_0 a0_1 a0_2 a0_3 a0_4) else (pred_Right.j0 k false a0_0 a0_1 a0_2 a0_3 a0_4))
theorem pred_Right.mono_l : ∀ k, (∀ y0 y1 y2 y3 y4 y5, LeO (pred_Right.j0 k y0 y1 y2 y3 y4 y5) (pred_Right.j0 (k + 1) y0 y1 y2 y3 y4 y5))
  | 0 => fun _ _ _ _ _ _ r h => by simp [pred_Right.j0] at h
  | k + 1 => by
    have ih0 := pred_Right.mono_l k
    · intro y0 y1 y2 y3 y4 y5
      unfold pred_Right.j0
      repeat' first
      | (with_reducible exact ih0 _ _ _ _ _ _)
      | (with_reducible exact LeO.refl _)
      | (with_reducible exact LeO.none _)
      | (with_reducible refine LeO.ite ?_ ?_)
      | (with_reducible refine LeO.bind ?_ (fun _ => ?_))
      | exact ih0 _ _ _ _ _ _
      | exact LeO.none _
      | refine LeO.ite ?_ ?_
      | refine LeO.bind ?_ (fun _ => ?_)
theorem pred_Right.mono : ∀ a0 a1 a2 a3 a4 k, LeO (pred_Right.f k a0 a1 a2 a3 a4) (pred_Right.f (k + 1) a0 a1 a2 a3 a4) := by
  intro a0 a1 a2 a3 a4 k
  have ih0 := pred_Right.mono_l k
  unfold pred_Right.f
  repeat' first
      | (with_reducible exact ih0 _ _ _ _ _ _)
      | (with_reducible exact LeO.refl _)
      | (with_reducible exact LeO.none _)
      | (with_reducible refine LeO.ite ?_ ?_)
      | (with_reducible refine LeO.bind ?_ (fun _ => ?_))
      | exact ih0 _ _ _ _ _ _
      | exact LeO.none _
      | refine LeO.ite ?_ ?_
      | refine LeO.bind ?_ (fun _ => ?_)
set_option maxHeartbeats 8000000 in
set_option maxRecDepth 100000 in
theorem pred_Right.calls (k : Nat) (a0_0 : ByteArray) (a0_1 : Int) (a0_2 : Int) (a0_3 : Int) (a0_4 : ByteArray) (r : Bool) (w : World) (h : pred_Right.f k a0_0 a0_1 a0_2 a0_3 a0_4 = some r) :
    Calls Try.prog 10 #[.agg #[.string a0_0, .int .i64 a0_1, .int .i64 a0_2, .int .i64 a0_3, .string a0_4]] w fun e w' => e = .returned (.bool r) ∧ Below w.heap.size w w' := by
  have hu25 := Try.underlying25
  have hu23 := Try.underlying23
  have HB := Aside0.mk (Below.refl w.heap.size w)
  have H : (if a0_0.toList = ([] : List UInt8) then (pred_Right.j0 k false a0_0 a0_1 a0_2 a0_3 a0_4) else (if (a0_0.size : Int) ≤ 16 then (pred_Right.j0 k (decide ((a0_4.size : Int) ≤ 32)) a0_0 a0_1 a0_2 a0_3 a0_4) else (pred_Right.j0 k false a0_0 a0_1 a0_2 a0_3 a0_4))) = some r := h
  clear h
  have HC2 := Aside0.mk H
  clear H
  go_enter Try.func10, Try.ntmps10
  go_upto_region 1 with (first | ((with_reducible refine gate_dst (N := 1) rfl ?_); (try (refine gate_guard (by rfl) ?_; dsimp only)); refine box_event ?hg (N := 1) ?hd (cs := #[.string a0_0, .int .i64 a0_1, .int .i64 a0_2, .int .i64 a0_3, .string a0_4]) (t := 25) ?hr ?_; (case hd => rfl); (case hg => rfl); (case hr => first | (go_simp; done) | (go_simp; rfl)); intro gb102 hg w3 hbox hb; have n0_ := Aside0.mk (below_step (by repeat (first | (with_reducible first | exact HB.out | apply below_alloc | apply pw_below_drewN | apply below_drew1) | exact HB.out)) hb); have n1_ := Aside0.mk (hbox); have n2_ := Aside0.mk ((by rw [hg]; exact (below_size (by repeat (first | (with_reducible first | exact HB.out | apply below_alloc | apply pw_below_drewN | apply below_drew1) | exact HB.out))) : w.heap.size ≤ gb102)); have n3_ := Aside0.mk ((by rw [hg]; exact (below_size (by repeat (first | (with_reducible first | exact HB.out | apply below_alloc | apply pw_below_drewN | apply below_drew1) | exact HB.out))) : w.heap.size ≤ gb102)); clear HB; have HB := n0_; have BK102 := n1_; have GW102 := n2_; have GE102 := n3_; clear n0_ n1_ n2_ n3_; clear hb hbox hg))
  (try simp only [Act.put, List.setIfInBounds_toArray, List.set_cons_zero, List.set_cons_succ])
  go_cut [3] (fun v3 wc => ∃ (kq : Nat) (x3_1 : Bool), v3 = .bool x3_1 ∧ Aside0 (pred_Right.j0 kq x3_1 a0_0 a0_1 a0_2 a0_3 a0_4 = some r) ∧ Aside0 (kq ≤ k) ∧ Aside0 (wc.heap[gb102]? = some (.cells #[.string a0_0, .int .i64 a0_1, .int .i64 a0_2, .int .i64 a0_3, .string a0_4] 25 (0, 0))) ∧ Aside0 (Below w.heap.size w wc))
  case first =>
    have H := HC2.out
    clear HC2
    by_cases c4 : a0_0.toList = ([] : List UInt8)
    · rw [if_pos c4] at H
      have c4b0 : (a0_0.toList == ([] : List UInt8)) = true := beq_iff_eq.mpr c4
      have c4b1 : (a0_0.toList != ([] : List UInt8)) = false := bne_eq_false_iff_eq.mpr c4
      clear c4
      (first | rw [c4b0] | (simp only [i64_w, i32_w]; rw [c4b0]) | skip)
      have H' := Aside0.mk H
      clear H
      have hcz5_0 : w3.cell? ⟨gb102, 0, none⟩ = some (.string a0_0) := (blk_cell BK102.out 0).trans rfl
      have hcz5_1 : w3.cell? ⟨gb102, 1, none⟩ = some (.int .i64 a0_1) := (blk_cell BK102.out 1).trans rfl
      have hcz5_2 : w3.cell? ⟨gb102, 2, none⟩ = some (.int .i64 a0_2) := (blk_cell BK102.out 2).trans rfl
      have hcz5_3 : w3.cell? ⟨gb102, 3, none⟩ = some (.int .i64 a0_3) := (blk_cell BK102.out 3).trans rfl
      have hcz5_4 : w3.cell? ⟨gb102, 4, none⟩ = some (.string a0_4) := (blk_cell BK102.out 4).trans rfl
      have hfz5_0 := blk_frozen BK102.out 0
      have hfz5_1 := blk_frozen BK102.out 1
      have hfz5_2 := blk_frozen BK102.out 2
      have hfz5_3 := blk_frozen BK102.out 3
      have hfz5_4 := blk_frozen BK102.out 4
      go_wp2
      go_meet
      case rel => exact ⟨_, (false), (by first | rfl | (simp; done) | (simp [*]; done)), H', ⟨by first | omega | exact Nat.le_refl _⟩, ⟨by (with_reducible repeat (first | refine blk_drewN ?_ _ | refine blk_drew ?_ | refine blk_alloc ?_ _)); exact BK102.out⟩, ⟨by repeat (first | (with_reducible first | exact HB.out | apply below_alloc | apply pw_below_drewN | apply below_drew1 | refine below_set ?_ GE102.out) | exact HB.out)⟩⟩
    · rw [if_neg c4] at H
      have c4b0 : (a0_0.toList == ([] : List UInt8)) = false := beq_eq_false_iff_ne.mpr c4
      have c4b1 : (a0_0.toList != ([] : List UInt8)) = true := bne_iff_ne.mpr c4
      (first | rw [c4b0] | (simp only [i64_w, i32_w]; rw [c4b0]) | skip)
      by_cases c6 : (a0_0.size : Int) ≤ 16
      · rw [if_pos c6] at H
        have c6b0 : decide ((a0_0.size : Int) ≤ 16) = true := decide_eq_true c6
        have c6b1 : decide (a0_0.size ≤ 16) = true := decide_eq_true (by omega)
        clear c6
        have H' := Aside0.mk H
        clear H
        have hcz7_0 : w3.cell? ⟨gb102, 0, none⟩ = some (.string a0_0) := (blk_cell BK102.out 0).trans rfl
        have hcz7_1 : w3.cell? ⟨gb102, 1, none⟩ = some (.int .i64 a0_1) := (blk_cell BK102.out 1).trans rfl
        have hcz7_2 : w3.cell? ⟨gb102, 2, none⟩ = some (.int .i64 a0_2) := (blk_cell BK102.out 2).trans rfl
        have hcz7_3 : w3.cell? ⟨gb102, 3, none⟩ = some (.int .i64 a0_3) := (blk_cell BK102.out 3).trans rfl
        have hcz7_4 : w3.cell? ⟨gb102, 4, none⟩ = some (.string a0_4) := (blk_cell BK102.out 4).trans rfl
        have hfz7_0 := blk_frozen BK102.out 0
        have hfz7_1 := blk_frozen BK102.out 1
        have hfz7_2 := blk_frozen BK102.out 2
        have hfz7_3 := blk_frozen BK102.out 3
        have hfz7_4 := blk_frozen BK102.out 4
        go_wp2
        go_meet
        case rel => exact ⟨_, (decide ((a0_4.size : Int) ≤ 32)), (by first | rfl | (simp; done) | (simp [*]; done)), H', ⟨by first | omega | exact Nat.le_refl _⟩, ⟨by (with_reducible repeat (first | refine blk_drewN ?_ _ | refine blk_drew ?_ | refine blk_alloc ?_ _)); exact BK102.out⟩, ⟨by repeat (first | (with_reducible first | exact HB.out | apply below_alloc | apply pw_below_drewN | apply below_drew1 | refine below_set ?_ GE102.out) | exact HB.out)⟩⟩
      · rw [if_neg c6] at H
        have c6b0 : decide ((a0_0.size : Int) ≤ 16) = false := decide_eq_false c6
        have c6b1 : decide (a0_0.size ≤ 16) = false := decide_eq_false (by omega)
        clear c6
        have H' := Aside0.mk H
        clear H
        have hcz8_0 : w3.cell? ⟨gb102, 0, none⟩ = some (.string a0_0) := (blk_cell BK102.out 0).trans rfl
        have hcz8_1 : w3.cell? ⟨gb102, 1, none⟩ = some (.int .i64 a0_1) := (blk_cell BK102.out 1).trans rfl
        have hcz8_2 : w3.cell? ⟨gb102, 2, none⟩ = some (.int .i64 a0_2) := (blk_cell BK102.out 2).trans rfl
        have hcz8_3 : w3.cell? ⟨gb102, 3, none⟩ = some (.int .i64 a0_3) := (blk_cell BK102.out 3).trans rfl
        have hcz8_4 : w3.cell? ⟨gb102, 4, none⟩ = some (.string a0_4) := (blk_cell BK102.out 4).trans rfl
        have hfz8_0 := blk_frozen BK102.out 0
        have hfz8_1 := blk_frozen BK102.out 1
        have hfz8_2 := blk_frozen BK102.out 2
        have hfz8_3 := blk_frozen BK102.out 3
        have hfz8_4 := blk_frozen BK102.out 4
        go_wp2
        go_meet
        case rel => exact ⟨_, (false), (by first | rfl | (simp; done) | (simp [*]; done)), H', ⟨by first | omega | exact Nat.le_refl _⟩, ⟨by (with_reducible repeat (first | refine blk_drewN ?_ _ | refine blk_drew ?_ | refine blk_alloc ?_ _)); exact BK102.out⟩, ⟨by repeat (first | (with_reducible first | exact HB.out | apply below_alloc | apply pw_below_drewN | apply below_drew1 | refine below_set ?_ GE102.out) | exact HB.out)⟩⟩
  case rest =>
    clear HC2
    try clear c1
    try clear p2
    try clear c4
    try clear c4b0
    try clear c4b1
    try clear c6
    try clear c6b0
    try clear c6b1
    try clear hcz5_0
    try clear hcz5_1
    try clear hcz5_2
    try clear hcz5_3
    try clear hcz5_4
    try clear hcz7_0
    try clear hcz7_1
    try clear hcz7_2
    try clear hcz7_3
    try clear hcz7_4
    try clear hcz8_0
    try clear hcz8_1
    try clear hcz8_2
    try clear hcz8_3
    try clear hcz8_4
    try clear hfz5_0
    try clear hfz5_1
    try clear hfz5_2
    try clear hfz5_3
    try clear hfz5_4
    try clear hfz7_0
    try clear hfz7_1
    try clear hfz7_2
    try clear hfz7_3
    try clear hfz7_4
    try clear hfz8_0
    try clear hfz8_1
    try clear hfz8_2
    try clear hfz8_3
    try clear hfz8_4
    obtain ⟨kq, x3_1, rfl, HA, HJ1, BK102, HB⟩ := hcut
    cases kq with
    | zero => exact absurd HA.out (by simp [pred_Right.j0])
    | succ kj1 =>
      have H := HA.out
      clear HA
      simp only [pred_Right.j0] at H
      by_cases c9 : a0_1 = 8
      · rw [if_pos c9] at H
        have c9b0 : (a0_1 == 8) = true := beq_iff_eq.mpr c9
        have c9b1 : (a0_1 != 8) = false := bne_eq_false_iff_eq.mpr c9
        clear c9
        by_cases c10 : x3_1 = true
        · subst c10
          have H1 : (some (a0_2 == 0 && (a0_3 == 0 && (a0_4.toList == ([] : List UInt8))))) = some r := by rw [if_pos rfl] at H; exact H
          clear H
          have H := H1
          clear H1
          obtain rfl := Option.some.inj H
          have hcz11_0 : wc.cell? ⟨gb102, 0, none⟩ = some (.string a0_0) := (blk_cell BK102.out 0).trans rfl
          have hcz11_1 : wc.cell? ⟨gb102, 1, none⟩ = some (.int .i64 a0_1) := (blk_cell BK102.out 1).trans rfl
          have hcz11_2 : wc.cell? ⟨gb102, 2, none⟩ = some (.int .i64 a0_2) := (blk_cell BK102.out 2).trans rfl
          have hcz11_3 : wc.cell? ⟨gb102, 3, none⟩ = some (.int .i64 a0_3) := (blk_cell BK102.out 3).trans rfl
          have hcz11_4 : wc.cell? ⟨gb102, 4, none⟩ = some (.string a0_4) := (blk_cell BK102.out 4).trans rfl
          have hfz11_0 := blk_frozen BK102.out 0
          have hfz11_1 := blk_frozen BK102.out 1
          have hfz11_2 := blk_frozen BK102.out 2
          have hfz11_3 := blk_frozen BK102.out 3
          have hfz11_4 := blk_frozen BK102.out 4
          go_wp2
          go_ret
          exact ⟨by first | rfl | (simp [errW_none, errW_some] <;> rfl) | (simp [*, errW_none, errW_some] <;> rfl), by repeat (first | (with_reducible first | exact HB.out | apply below_alloc | apply pw_below_drewN | apply below_drew1 | refine below_set ?_ GE102.out) | exact HB.out)⟩
        · replace c10 := Bool.eq_false_iff.mpr c10
          subst c10
          have H1 : (some false) = some r := by rw [if_neg (show ¬ (false = true) by decide)] at H; exact H
          clear H
          have H := H1
          clear H1
          obtain rfl := Option.some.inj H
          have hcz12_0 : wc.cell? ⟨gb102, 0, none⟩ = some (.string a0_0) := (blk_cell BK102.out 0).trans rfl
          have hcz12_1 : wc.cell? ⟨gb102, 1, none⟩ = some (.int .i64 a0_1) := (blk_cell BK102.out 1).trans rfl
          have hcz12_2 : wc.cell? ⟨gb102, 2, none⟩ = some (.int .i64 a0_2) := (blk_cell BK102.out 2).trans rfl
          have hcz12_3 : wc.cell? ⟨gb102, 3, none⟩ = some (.int .i64 a0_3) := (blk_cell BK102.out 3).trans rfl
          have hcz12_4 : wc.cell? ⟨gb102, 4, none⟩ = some (.string a0_4) := (blk_cell BK102.out 4).trans rfl
          have hfz12_0 := blk_frozen BK102.out 0
          have hfz12_1 := blk_frozen BK102.out 1
          have hfz12_2 := blk_frozen BK102.out 2
          have hfz12_3 := blk_frozen BK102.out 3
          have hfz12_4 := blk_frozen BK102.out 4
          go_wp2
          go_ret
          exact ⟨by first | rfl | (simp [errW_none, errW_some] <;> rfl) | (simp [*, errW_none, errW_some] <;> rfl), by repeat (first | (with_reducible first | exact HB.out | apply below_alloc | apply pw_below_drewN | apply below_drew1 | refine below_set ?_ GE102.out) | exact HB.out)⟩
      · rw [if_neg c9] at H
        have c9b0 : (a0_1 == 8) = false := beq_eq_false_iff_ne.mpr c9
        have c9b1 : (a0_1 != 8) = true := bne_iff_ne.mpr c9
        by_cases c13 : a0_1 = 7
        · rw [if_pos c13] at H
          have c13b0 : (a0_1 == 7) = true := beq_iff_eq.mpr c13
          have c13b1 : (a0_1 != 7) = false := bne_eq_false_iff_eq.mpr c13
          clear c13
          by_cases c14 : a0_2 = 2
          · rw [if_pos c14] at H
            have c14b0 : (a0_2 == 2) = true := beq_iff_eq.mpr c14
            have c14b1 : (a0_2 != 2) = false := bne_eq_false_iff_eq.mpr c14
            clear c14
            by_cases c15 : x3_1 = true
            · subst c15
              have H1 : (if a0_1 ≥ 1 then (if a0_1 ≤ 7 then ((value_Right.f a0_2 a0_3 a0_4).bind fun t103 => (some t103)) else (some false)) else (some false)) = some r := by rw [if_pos rfl] at H; exact H
              clear H
              have H := H1
              clear H1
              by_cases c16 : a0_1 ≥ 1
              · rw [if_pos c16] at H
                have c16b0 : decide (1 ≤ a0_1) = true := decide_eq_true c16
                clear c16
                by_cases c17 : a0_1 ≤ 7
                · rw [if_pos c17] at H
                  have c17b0 : decide (a0_1 ≤ 7) = true := decide_eq_true c17
                  clear c17
                  replace H := Option.bind_eq_some_iff.mp H
                  obtain ⟨t103, A180, H⟩ := H
                  replace H : (some t103) = some r := H
                  have A18 := Aside0.mk A180
                  clear A180
                  obtain rfl := Option.some.inj H
                  have hcz19_0 : wc.cell? ⟨gb102, 0, none⟩ = some (.string a0_0) := (blk_cell BK102.out 0).trans rfl
                  have hcz19_1 : wc.cell? ⟨gb102, 1, none⟩ = some (.int .i64 a0_1) := (blk_cell BK102.out 1).trans rfl
                  have hcz19_2 : wc.cell? ⟨gb102, 2, none⟩ = some (.int .i64 a0_2) := (blk_cell BK102.out 2).trans rfl
                  have hcz19_3 : wc.cell? ⟨gb102, 3, none⟩ = some (.int .i64 a0_3) := (blk_cell BK102.out 3).trans rfl
                  have hcz19_4 : wc.cell? ⟨gb102, 4, none⟩ = some (.string a0_4) := (blk_cell BK102.out 4).trans rfl
                  have hfz19_0 := blk_frozen BK102.out 0
                  have hfz19_1 := blk_frozen BK102.out 1
                  have hfz19_2 := blk_frozen BK102.out 2
                  have hfz19_3 := blk_frozen BK102.out 3
                  have hfz19_4 := blk_frozen BK102.out 4
                  go_wp2_with (first | (go_at_call 18; (with_reducible refine (value_Right.calls a0_2 a0_3 a0_4 t103 _ A18.out).mono ?_); rintro e w20 ⟨rfl, hb⟩; have n0_ := Aside0.mk (blk_below (g := gb102) (o := .cells #[.string a0_0, .int .i64 a0_1, .int .i64 a0_2, .int .i64 a0_3, .string a0_4] 25 (0, 0)) (by (with_reducible repeat (first | refine blk_drewN ?_ _ | refine blk_drew ?_ | refine blk_alloc ?_ _)); exact BK102.out) hb); have n1_ := Aside0.mk (below_step (by repeat (first | (with_reducible first | exact HB.out | apply below_alloc | apply pw_below_drewN | apply below_drew1 | refine below_set ?_ GE102.out) | exact HB.out)) hb); clear BK102; clear HB; have BK102 := n0_; have HB := n1_; clear n0_ n1_; (try clear hb); (try clear hb2); (try clear hk); (try clear hi)))
                  go_ret
                  exact ⟨by first | rfl | (simp [errW_none, errW_some] <;> rfl) | (simp [*, errW_none, errW_some] <;> rfl), by repeat (first | (with_reducible first | exact HB.out | apply below_alloc | apply pw_below_drewN | apply below_drew1 | refine below_set ?_ GE102.out) | exact HB.out)⟩
                · rw [if_neg c17] at H
                  have c17b0 : decide (a0_1 ≤ 7) = false := decide_eq_false c17
                  clear c17
                  obtain rfl := Option.some.inj H
                  have hcz21_0 : wc.cell? ⟨gb102, 0, none⟩ = some (.string a0_0) := (blk_cell BK102.out 0).trans rfl
                  have hcz21_1 : wc.cell? ⟨gb102, 1, none⟩ = some (.int .i64 a0_1) := (blk_cell BK102.out 1).trans rfl
                  have hcz21_2 : wc.cell? ⟨gb102, 2, none⟩ = some (.int .i64 a0_2) := (blk_cell BK102.out 2).trans rfl
                  have hcz21_3 : wc.cell? ⟨gb102, 3, none⟩ = some (.int .i64 a0_3) := (blk_cell BK102.out 3).trans rfl
                  have hcz21_4 : wc.cell? ⟨gb102, 4, none⟩ = some (.string a0_4) := (blk_cell BK102.out 4).trans rfl
                  have hfz21_0 := blk_frozen BK102.out 0
                  have hfz21_1 := blk_frozen BK102.out 1
                  have hfz21_2 := blk_frozen BK102.out 2
                  have hfz21_3 := blk_frozen BK102.out 3
                  have hfz21_4 := blk_frozen BK102.out 4
                  go_wp2
                  go_ret
                  exact ⟨by first | rfl | (simp [errW_none, errW_some] <;> rfl) | (simp [*, errW_none, errW_some] <;> rfl), by repeat (first | (with_reducible first | exact HB.out | apply below_alloc | apply pw_below_drewN | apply below_drew1 | refine below_set ?_ GE102.out) | exact HB.out)⟩
              · rw [if_neg c16] at H
                have c16b0 : decide (1 ≤ a0_1) = false := decide_eq_false c16
                clear c16
                obtain rfl := Option.some.inj H
                have hcz22_0 : wc.cell? ⟨gb102, 0, none⟩ = some (.string a0_0) := (blk_cell BK102.out 0).trans rfl
                have hcz22_1 : wc.cell? ⟨gb102, 1, none⟩ = some (.int .i64 a0_1) := (blk_cell BK102.out 1).trans rfl
                have hcz22_2 : wc.cell? ⟨gb102, 2, none⟩ = some (.int .i64 a0_2) := (blk_cell BK102.out 2).trans rfl
                have hcz22_3 : wc.cell? ⟨gb102, 3, none⟩ = some (.int .i64 a0_3) := (blk_cell BK102.out 3).trans rfl
                have hcz22_4 : wc.cell? ⟨gb102, 4, none⟩ = some (.string a0_4) := (blk_cell BK102.out 4).trans rfl
                have hfz22_0 := blk_frozen BK102.out 0
                have hfz22_1 := blk_frozen BK102.out 1
                have hfz22_2 := blk_frozen BK102.out 2
                have hfz22_3 := blk_frozen BK102.out 3
                have hfz22_4 := blk_frozen BK102.out 4
                go_wp2
                go_ret
                exact ⟨by first | rfl | (simp [errW_none, errW_some] <;> rfl) | (simp [*, errW_none, errW_some] <;> rfl), by repeat (first | (with_reducible first | exact HB.out | apply below_alloc | apply pw_below_drewN | apply below_drew1 | refine below_set ?_ GE102.out) | exact HB.out)⟩
            · replace c15 := Bool.eq_false_iff.mpr c15
              subst c15
              have H1 : (some false) = some r := by rw [if_neg (show ¬ (false = true) by decide)] at H; exact H
              clear H
              have H := H1
              clear H1
              obtain rfl := Option.some.inj H
              have hcz23_0 : wc.cell? ⟨gb102, 0, none⟩ = some (.string a0_0) := (blk_cell BK102.out 0).trans rfl
              have hcz23_1 : wc.cell? ⟨gb102, 1, none⟩ = some (.int .i64 a0_1) := (blk_cell BK102.out 1).trans rfl
              have hcz23_2 : wc.cell? ⟨gb102, 2, none⟩ = some (.int .i64 a0_2) := (blk_cell BK102.out 2).trans rfl
              have hcz23_3 : wc.cell? ⟨gb102, 3, none⟩ = some (.int .i64 a0_3) := (blk_cell BK102.out 3).trans rfl
              have hcz23_4 : wc.cell? ⟨gb102, 4, none⟩ = some (.string a0_4) := (blk_cell BK102.out 4).trans rfl
              have hfz23_0 := blk_frozen BK102.out 0
              have hfz23_1 := blk_frozen BK102.out 1
              have hfz23_2 := blk_frozen BK102.out 2
              have hfz23_3 := blk_frozen BK102.out 3
              have hfz23_4 := blk_frozen BK102.out 4
              go_wp2
              go_ret
              exact ⟨by first | rfl | (simp [errW_none, errW_some] <;> rfl) | (simp [*, errW_none, errW_some] <;> rfl), by repeat (first | (with_reducible first | exact HB.out | apply below_alloc | apply pw_below_drewN | apply below_drew1 | refine below_set ?_ GE102.out) | exact HB.out)⟩
          · rw [if_neg c14] at H
            have c14b0 : (a0_2 == 2) = false := beq_eq_false_iff_ne.mpr c14
            have c14b1 : (a0_2 != 2) = true := bne_iff_ne.mpr c14
            obtain rfl := Option.some.inj H
            have hcz24_0 : wc.cell? ⟨gb102, 0, none⟩ = some (.string a0_0) := (blk_cell BK102.out 0).trans rfl
            have hcz24_1 : wc.cell? ⟨gb102, 1, none⟩ = some (.int .i64 a0_1) := (blk_cell BK102.out 1).trans rfl
            have hcz24_2 : wc.cell? ⟨gb102, 2, none⟩ = some (.int .i64 a0_2) := (blk_cell BK102.out 2).trans rfl
            have hcz24_3 : wc.cell? ⟨gb102, 3, none⟩ = some (.int .i64 a0_3) := (blk_cell BK102.out 3).trans rfl
            have hcz24_4 : wc.cell? ⟨gb102, 4, none⟩ = some (.string a0_4) := (blk_cell BK102.out 4).trans rfl
            have hfz24_0 := blk_frozen BK102.out 0
            have hfz24_1 := blk_frozen BK102.out 1
            have hfz24_2 := blk_frozen BK102.out 2
            have hfz24_3 := blk_frozen BK102.out 3
            have hfz24_4 := blk_frozen BK102.out 4
            go_wp2
            go_ret
            exact ⟨by first | rfl | (simp [errW_none, errW_some] <;> rfl) | (simp [*, errW_none, errW_some] <;> rfl), by repeat (first | (with_reducible first | exact HB.out | apply below_alloc | apply pw_below_drewN | apply below_drew1 | refine below_set ?_ GE102.out) | exact HB.out)⟩
        · rw [if_neg c13] at H
          have c13b0 : (a0_1 == 7) = false := beq_eq_false_iff_ne.mpr c13
          have c13b1 : (a0_1 != 7) = true := bne_iff_ne.mpr c13
          by_cases c25 : x3_1 = true
          · subst c25
            have H1 : (if a0_1 ≥ 1 then (if a0_1 ≤ 7 then ((value_Right.f a0_2 a0_3 a0_4).bind fun t104 => (some t104)) else (some false)) else (some false)) = some r := by rw [if_pos rfl] at H; exact H
            clear H
            have H := H1
            clear H1
            by_cases c26 : a0_1 ≥ 1
            · rw [if_pos c26] at H
              have c26b0 : decide (1 ≤ a0_1) = true := decide_eq_true c26
              clear c26
              by_cases c27 : a0_1 ≤ 7
              · rw [if_pos c27] at H
                have c27b0 : decide (a0_1 ≤ 7) = true := decide_eq_true c27
                clear c27
                replace H := Option.bind_eq_some_iff.mp H
                obtain ⟨t104, A280, H⟩ := H
                replace H : (some t104) = some r := H
                have A28 := Aside0.mk A280
                clear A280
                obtain rfl := Option.some.inj H
                have hcz29_0 : wc.cell? ⟨gb102, 0, none⟩ = some (.string a0_0) := (blk_cell BK102.out 0).trans rfl
                have hcz29_1 : wc.cell? ⟨gb102, 1, none⟩ = some (.int .i64 a0_1) := (blk_cell BK102.out 1).trans rfl
                have hcz29_2 : wc.cell? ⟨gb102, 2, none⟩ = some (.int .i64 a0_2) := (blk_cell BK102.out 2).trans rfl
                have hcz29_3 : wc.cell? ⟨gb102, 3, none⟩ = some (.int .i64 a0_3) := (blk_cell BK102.out 3).trans rfl
                have hcz29_4 : wc.cell? ⟨gb102, 4, none⟩ = some (.string a0_4) := (blk_cell BK102.out 4).trans rfl
                have hfz29_0 := blk_frozen BK102.out 0
                have hfz29_1 := blk_frozen BK102.out 1
                have hfz29_2 := blk_frozen BK102.out 2
                have hfz29_3 := blk_frozen BK102.out 3
                have hfz29_4 := blk_frozen BK102.out 4
                go_wp2_with (first | (go_at_call 18; (with_reducible refine (value_Right.calls a0_2 a0_3 a0_4 t104 _ A28.out).mono ?_); rintro e w30 ⟨rfl, hb⟩; have n0_ := Aside0.mk (blk_below (g := gb102) (o := .cells #[.string a0_0, .int .i64 a0_1, .int .i64 a0_2, .int .i64 a0_3, .string a0_4] 25 (0, 0)) (by (with_reducible repeat (first | refine blk_drewN ?_ _ | refine blk_drew ?_ | refine blk_alloc ?_ _)); exact BK102.out) hb); have n1_ := Aside0.mk (below_step (by repeat (first | (with_reducible first | exact HB.out | apply below_alloc | apply pw_below_drewN | apply below_drew1 | refine below_set ?_ GE102.out) | exact HB.out)) hb); clear BK102; clear HB; have BK102 := n0_; have HB := n1_; clear n0_ n1_; (try clear hb); (try clear hb2); (try clear hk); (try clear hi)))
                go_ret
                exact ⟨by first | rfl | (simp [errW_none, errW_some] <;> rfl) | (simp [*, errW_none, errW_some] <;> rfl), by repeat (first | (with_reducible first | exact HB.out | apply below_alloc | apply pw_below_drewN | apply below_drew1 | refine below_set ?_ GE102.out) | exact HB.out)⟩
              · rw [if_neg c27] at H
                have c27b0 : decide (a0_1 ≤ 7) = false := decide_eq_false c27
                clear c27
                obtain rfl := Option.some.inj H
                have hcz31_0 : wc.cell? ⟨gb102, 0, none⟩ = some (.string a0_0) := (blk_cell BK102.out 0).trans rfl
                have hcz31_1 : wc.cell? ⟨gb102, 1, none⟩ = some (.int .i64 a0_1) := (blk_cell BK102.out 1).trans rfl
                have hcz31_2 : wc.cell? ⟨gb102, 2, none⟩ = some (.int .i64 a0_2) := (blk_cell BK102.out 2).trans rfl
                have hcz31_3 : wc.cell? ⟨gb102, 3, none⟩ = some (.int .i64 a0_3) := (blk_cell BK102.out 3).trans rfl
                have hcz31_4 : wc.cell? ⟨gb102, 4, none⟩ = some (.string a0_4) := (blk_cell BK102.out 4).trans rfl
                have hfz31_0 := blk_frozen BK102.out 0
                have hfz31_1 := blk_frozen BK102.out 1
                have hfz31_2 := blk_frozen BK102.out 2
                have hfz31_3 := blk_frozen BK102.out 3
                have hfz31_4 := blk_frozen BK102.out 4
                go_wp2
                go_ret
                exact ⟨by first | rfl | (simp [errW_none, errW_some] <;> rfl) | (simp [*, errW_none, errW_some] <;> rfl), by repeat (first | (with_reducible first | exact HB.out | apply below_alloc | apply pw_below_drewN | apply below_drew1 | refine below_set ?_ GE102.out) | exact HB.out)⟩
            · rw [if_neg c26] at H
              have c26b0 : decide (1 ≤ a0_1) = false := decide_eq_false c26
              clear c26
              obtain rfl := Option.some.inj H
              have hcz32_0 : wc.cell? ⟨gb102, 0, none⟩ = some (.string a0_0) := (blk_cell BK102.out 0).trans rfl
              have hcz32_1 : wc.cell? ⟨gb102, 1, none⟩ = some (.int .i64 a0_1) := (blk_cell BK102.out 1).trans rfl
              have hcz32_2 : wc.cell? ⟨gb102, 2, none⟩ = some (.int .i64 a0_2) := (blk_cell BK102.out 2).trans rfl
              have hcz32_3 : wc.cell? ⟨gb102, 3, none⟩ = some (.int .i64 a0_3) := (blk_cell BK102.out 3).trans rfl
              have hcz32_4 : wc.cell? ⟨gb102, 4, none⟩ = some (.string a0_4) := (blk_cell BK102.out 4).trans rfl
              have hfz32_0 := blk_frozen BK102.out 0
              have hfz32_1 := blk_frozen BK102.out 1
              have hfz32_2 := blk_frozen BK102.out 2
              have hfz32_3 := blk_frozen BK102.out 3
              have hfz32_4 := blk_frozen BK102.out 4
              go_wp2
              go_ret
              exact ⟨by first | rfl | (simp [errW_none, errW_some] <;> rfl) | (simp [*, errW_none, errW_some] <;> rfl), by repeat (first | (with_reducible first | exact HB.out | apply below_alloc | apply pw_below_drewN | apply below_drew1 | refine below_set ?_ GE102.out) | exact HB.out)⟩
          · replace c25 := Bool.eq_false_iff.mpr c25
            subst c25
            have H1 : (some false) = some r := by rw [if_neg (show ¬ (false = true) by decide)] at H; exact H
            clear H
            have H := H1
            clear H1
            obtain rfl := Option.some.inj H
            have hcz33_0 : wc.cell? ⟨gb102, 0, none⟩ = some (.string a0_0) := (blk_cell BK102.out 0).trans rfl
            have hcz33_1 : wc.cell? ⟨gb102, 1, none⟩ = some (.int .i64 a0_1) := (blk_cell BK102.out 1).trans rfl
            have hcz33_2 : wc.cell? ⟨gb102, 2, none⟩ = some (.int .i64 a0_2) := (blk_cell BK102.out 2).trans rfl
            have hcz33_3 : wc.cell? ⟨gb102, 3, none⟩ = some (.int .i64 a0_3) := (blk_cell BK102.out 3).trans rfl
            have hcz33_4 : wc.cell? ⟨gb102, 4, none⟩ = some (.string a0_4) := (blk_cell BK102.out 4).trans rfl
            have hfz33_0 := blk_frozen BK102.out 0
            have hfz33_1 := blk_frozen BK102.out 1
            have hfz33_2 := blk_frozen BK102.out 2
            have hfz33_3 := blk_frozen BK102.out 3
            have hfz33_4 := blk_frozen BK102.out 4
            go_wp2
            go_ret
            exact ⟨by first | rfl | (simp [errW_none, errW_some] <;> rfl) | (simp [*, errW_none, errW_some] <;> rfl), by repeat (first | (with_reducible first | exact HB.out | apply below_alloc | apply pw_below_drewN | apply below_drew1 | refine below_set ?_ GE102.out) | exact HB.out)⟩

end Go.Proofs.Ytojefdnngkcaoaa.G
end

section
-- Written by a program of this session (wip/tools/myprint.py), over the kit's print.
namespace Go.Proofs.Ytojefdnngkcaoaa.G
open Go.RowKit Go.Proofs.YtojefdnngkcaoaaW.PrintWords Go.Proofs.YtojefdnngkcaoaaW.PrintLast Go.Proofs.YtojefdnngkcaoaaW.PrintMore
attribute [local go_sem] max2_int min2_int max_two min_two max_three min_three max_four min_four   -- for this text's walks alone
set_option linter.unusedVariables false
set_option linter.unusedSimpArgs false

/-! ### cmp_Or_int: function 45 -/
def cmp_Or_int.l0 : Nat → Int → List Int → Int → Int → Option (Int)
  | 0, _, _, _, _ => none
  | k + 1, x3, x6, x7, x8 => if x8 < x7 then (if 0 ≤ x8 then (if x8 < (x6.length : Int) then (if (rd x6 x8) = x3 then (cmp_Or_int.l0 k x3 x6 x7 (wrap64 (x8 + 1))) else (some (rd x6 x8))) else (none)) else (none)) else (some x3)
def cmp_Or_int.f (k : Nat) (l0 : List Int) : Option (Int) := cmp_Or_int.l0 k 0 l0 (l0.length : Int) 0
theorem cmp_Or_int.mono_l : ∀ k, (∀ y0 y1 y2 y3, LeO (cmp_Or_int.l0 k y0 y1 y2 y3) (cmp_Or_int.l0 (k + 1) y0 y1 y2 y3))
  | 0 => fun _ _ _ _ r h => by simp [cmp_Or_int.l0] at h
  | k + 1 => by
    have ih0 := cmp_Or_int.mono_l k
    · intro y0 y1 y2 y3
      unfold cmp_Or_int.l0
      repeat' first
      | (with_reducible exact ih0 _ _ _ _)
      | (with_reducible exact LeO.refl _)
      | (with_reducible exact LeO.none _)
      | (with_reducible refine LeO.ite ?_ ?_)
      | (with_reducible refine LeO.bind ?_ (fun _ => ?_))
      | exact ih0 _ _ _ _
      | exact LeO.none _
      | refine LeO.ite ?_ ?_
      | refine LeO.bind ?_ (fun _ => ?_)
theorem cmp_Or_int.mono : ∀ a0 k, LeO (cmp_Or_int.f k a0) (cmp_Or_int.f (k + 1) a0) := by
  intro a0 k
  have ih0 := cmp_Or_int.mono_l k
  unfold cmp_Or_int.f
  repeat' first
      | (with_reducible exact ih0 _ _ _ _)
      | (with_reducible exact LeO.refl _)
      | (with_reducible exact LeO.none _)
      | (with_reducible refine LeO.ite ?_ ?_)
      | (with_reducible refine LeO.bind ?_ (fun _ => ?_))
      | exact ih0 _ _ _ _
      | exact LeO.none _
      | refine LeO.ite ?_ ?_
      | refine LeO.bind ?_ (fun _ => ?_)
set_option maxHeartbeats 8000000 in
set_option maxRecDepth 100000 in
theorem cmp_Or_int.calls (k : Nat) (A0 : Option Addr) (c0 : Nat) (l0 : List Int) (r : Int) (w : World) (hr0 : Kd.C (Kd.int .i64) w A0 l0.length l0) (hc0 : l0.length ≤ c0) (h : cmp_Or_int.f k l0 = some r) :
    Calls Try.prog 45 #[.slice A0 l0.length c0] w fun e w' => e = .returned (.int .i64 r) ∧ Drawn0 w w' := by
  have HR0 := Aside0.mk hr0
  have HC0 := Aside0.mk hc0
  clear hr0 hc0
  have H : (cmp_Or_int.l0 k 0 l0 (l0.length : Int) 0) = some r := h
  clear h
  have H' := Aside0.mk H
  clear H
  go_enter Try.func45, Try.ntmps45
  go_wp2
  go_loopg [8] k (fun kq v8 w' => ∃ (x8_1 : Int), v8 = .int .i64 x8_1 ∧ Aside0 (cmp_Or_int.l0 kq 0 l0 (l0.length : Int) x8_1 = some r) ∧ Aside0 (kq ≤ k) ∧ Drawn0 w w')
  case atStart => exact ⟨(0), (by first | rfl | (simp; done) | (simp [*]; done)), H', ⟨Nat.le_refl _⟩, by repeat (first | exact Drawn0.refl _ | apply Drawn0.step)⟩
  case round =>
    clear H'
    obtain ⟨x8_1, rfl, HA, HK1, ⟨m1, rfl⟩⟩ := hrel
    cases gk with
    | zero => exact absurd HA.out (by simp [cmp_Or_int.l0])
    | succ k1 =>
      have H := HA.out
      clear HA
      simp only [cmp_Or_int.l0] at H
      by_cases c2 : x8_1 < (l0.length : Int)
      · rw [if_pos c2] at H
        have c2b0 : decide (x8_1 < (l0.length : Int)) = true := decide_eq_true c2
        clear c2
        by_cases c3 : 0 ≤ x8_1
        · rw [if_pos c3] at H
          have c3b0 : decide (0 ≤ x8_1) = true := decide_eq_true c3
          clear c3
          by_cases c4 : x8_1 < (l0.length : Int)
          · rw [if_pos c4] at H
            have c4b0 : decide (x8_1 < (l0.length : Int)) = true := decide_eq_true c4
            clear c4
            by_cases c5 : (rd l0 x8_1) = 0
            · rw [if_pos c5] at H
              have c5b0 : ((rd l0 x8_1) == 0) = true := beq_iff_eq.mpr c5
              have c5b1 : ((rd l0 x8_1) != 0) = false := bne_eq_false_iff_eq.mpr c5
              clear c5
              have H' := Aside0.mk H
              clear H
              have p105 : 0 ≤ (x8_1 : Int) := of_decide_eq_true (by first | (with_reducible assumption) | assumption)
              have q105 : x8_1 < (l0.length : Int) := of_decide_eq_true (by first | (with_reducible assumption) | assumption)
              obtain ⟨ad105, e105, hx105_0⟩ := Kd.at_int HR0.out x8_1 p105 q105
              cases e105
              replace p105 := eq_true p105
              replace q105 := eq_true q105
              go_wp2
              go_roundg k1
              case measure => have := HK1.out; omega
              case rel => exact ⟨(wrap64 (x8_1 + 1)), (by first | rfl | (simp; done) | (simp [*]; done)), H', ⟨by have := HK1.out; omega⟩, by repeat (first | exact Drawn0.refl _ | apply Drawn0.step)⟩
            · rw [if_neg c5] at H
              have c5b0 : ((rd l0 x8_1) == 0) = false := beq_eq_false_iff_ne.mpr c5
              have c5b1 : ((rd l0 x8_1) != 0) = true := bne_iff_ne.mpr c5
              obtain rfl := Option.some.inj H
              have p105 : 0 ≤ (x8_1 : Int) := of_decide_eq_true (by first | (with_reducible assumption) | assumption)
              have q105 : x8_1 < (l0.length : Int) := of_decide_eq_true (by first | (with_reducible assumption) | assumption)
              obtain ⟨ad105, e105, hx105_0⟩ := Kd.at_int HR0.out x8_1 p105 q105
              cases e105
              replace p105 := eq_true p105
              replace q105 := eq_true q105
              go_wp2
              go_ret
              exact ⟨by first | rfl | (simp; done) | (simp [*]; done), by repeat (first | exact Drawn0.refl _ | apply Drawn0.step)⟩
          · rw [if_neg c4] at H
            exact absurd H (by simp)
        · rw [if_neg c3] at H
          exact absurd H (by simp)
      · rw [if_neg c2] at H
        have c2b0 : decide (x8_1 < (l0.length : Int)) = false := decide_eq_false c2
        clear c2
        obtain rfl := Option.some.inj H
        go_wp2
        go_ret
        exact ⟨by first | rfl | (simp; done) | (simp [*]; done), by repeat (first | exact Drawn0.refl _ | apply Drawn0.step)⟩

end Go.Proofs.Ytojefdnngkcaoaa.G
end

section
-- Written by a program of this session (wip/tools/myprint.py), over the kit's print.
namespace Go.Proofs.Ytojefdnngkcaoaa.G
open Go.RowKit Go.Proofs.YtojefdnngkcaoaaW.PrintWords Go.Proofs.YtojefdnngkcaoaaW.PrintLast Go.Proofs.YtojefdnngkcaoaaW.PrintMore
attribute [local go_sem] max2_int min2_int max_two min_two max_three min_three max_four min_four   -- for this text's walks alone
set_option linter.unusedVariables false
set_option linter.unusedSimpArgs false

/-! ### cmp_isNaN_int: function 60 -/
def cmp_isNaN_int.f (a0 : Int) : Option (Bool) := some (a0 != a0)
set_option maxHeartbeats 8000000 in
set_option maxRecDepth 100000 in
theorem cmp_isNaN_int.calls (a0 : Int) (r : Bool) (w : World) (h : cmp_isNaN_int.f a0 = some r) :
    Calls Try.prog 60 #[.int .i64 a0] w fun e w' => e = .returned (.bool r) ∧ Drawn0 w w' := by
  have H : (some (a0 != a0)) = some r := h
  clear h
  obtain rfl := Option.some.inj H
  go_enter Try.func60, Try.ntmps60
  go_wp2
  go_ret
  exact ⟨by first | rfl | (simp; done) | (simp [*]; done), by repeat (first | exact Drawn0.refl _ | apply Drawn0.step)⟩

end Go.Proofs.Ytojefdnngkcaoaa.G
end

section
-- Written by a program of this session (wip/tools/myprint.py), over the kit's print.
namespace Go.Proofs.Ytojefdnngkcaoaa.G
open Go.RowKit Go.Proofs.YtojefdnngkcaoaaW.PrintWords Go.Proofs.YtojefdnngkcaoaaW.PrintLast Go.Proofs.YtojefdnngkcaoaaW.PrintMore
attribute [local go_sem] max2_int min2_int max_two min_two max_three min_three max_four min_four   -- for this text's walks alone
set_option linter.unusedVariables false
set_option linter.unusedSimpArgs false

/-! ### cmp_Compare_int: function 46 -/
def cmp_Compare_int.f (a0 : Int) (a1 : Int) : Option (Int) := (cmp_isNaN_int.f a0).bind fun t106 => ((cmp_isNaN_int.f a1).bind fun t107 => (if t106 = true then (if t107 = true then (some 0) else (some (-1))) else (if t107 = true then (some 1) else (if a0 < a1 then (some (-1)) else (if a0 > a1 then (some 1) else (some 0))))))
set_option maxHeartbeats 8000000 in
set_option maxRecDepth 100000 in
theorem cmp_Compare_int.calls (a0 : Int) (a1 : Int) (r : Int) (w : World) (h : cmp_Compare_int.f a0 a1 = some r) :
    Calls Try.prog 46 #[.int .i64 a0, .int .i64 a1] w fun e w' => e = .returned (.int .i64 r) ∧ Drawn0 w w' := by
  have H : ((cmp_isNaN_int.f a0).bind fun t106 => ((cmp_isNaN_int.f a1).bind fun t107 => (if t106 = true then (if t107 = true then (some 0) else (some (-1))) else (if t107 = true then (some 1) else (if a0 < a1 then (some (-1)) else (if a0 > a1 then (some 1) else (some 0))))))) = some r := h
  clear h
  replace H := Option.bind_eq_some_iff.mp H
  obtain ⟨t106, A30, H⟩ := H
  replace H : ((cmp_isNaN_int.f a1).bind fun t107 => (if t106 = true then (if t107 = true then (some 0) else (some (-1))) else (if t107 = true then (some 1) else (if a0 < a1 then (some (-1)) else (if a0 > a1 then (some 1) else (some 0)))))) = some r := H
  have A3 := Aside0.mk A30
  clear A30
  replace H := Option.bind_eq_some_iff.mp H
  obtain ⟨t107, A40, H⟩ := H
  replace H : (if t106 = true then (if t107 = true then (some 0) else (some (-1))) else (if t107 = true then (some 1) else (if a0 < a1 then (some (-1)) else (if a0 > a1 then (some 1) else (some 0))))) = some r := H
  have A4 := Aside0.mk A40
  clear A40
  by_cases c5 : t106 = true
  · subst c5
    have H1 : (if t107 = true then (some 0) else (some (-1))) = some r := by rw [if_pos rfl] at H; exact H
    clear H
    have H := H1
    clear H1
    by_cases c6 : t107 = true
    · subst c6
      have H1 : (some 0) = some r := by rw [if_pos rfl] at H; exact H
      clear H
      have H := H1
      clear H1
      obtain rfl := Option.some.inj H
      go_enter Try.func46, Try.ntmps46
      go_wp2_with (first | ((with_reducible refine gate_callee (f := 60) rfl ?_); refine goesL_ (some 8) rfl rfl Try.func60 (by kernel_rfl) rfl #[.int .i64 a0] rfl (by (try simp only [List.map_toArray, List.map_cons, List.map_nil]); first | done | rfl | (simp only [List.length_drop, List.length_take]; rfl)) ?_; (with_reducible refine (cmp_isNaN_int.calls a0 true _ A3.out).mono ?_); rintro e w' ⟨rfl, ⟨nd, rfl⟩⟩; refine ⟨_, rfl, ?_⟩) | ((with_reducible refine gate_callee (f := 60) rfl ?_); refine goesL_ (some 10) rfl rfl Try.func60 (by kernel_rfl) rfl #[.int .i64 a1] rfl (by (try simp only [List.map_toArray, List.map_cons, List.map_nil]); first | done | rfl | (simp only [List.length_drop, List.length_take]; rfl)) ?_; (with_reducible refine (cmp_isNaN_int.calls a1 true _ A4.out).mono ?_); rintro e w' ⟨rfl, ⟨nd, rfl⟩⟩; refine ⟨_, rfl, ?_⟩))
      go_ret
      exact ⟨by first | rfl | (simp; done) | (simp [*]; done), by repeat (first | exact Drawn0.refl _ | apply Drawn0.step)⟩
    · replace c6 := Bool.eq_false_iff.mpr c6
      subst c6
      have H1 : (some (-1)) = some r := by rw [if_neg (show ¬ (false = true) by decide)] at H; exact H
      clear H
      have H := H1
      clear H1
      obtain rfl := Option.some.inj H
      go_enter Try.func46, Try.ntmps46
      go_wp2_with (first | ((with_reducible refine gate_callee (f := 60) rfl ?_); refine goesL_ (some 8) rfl rfl Try.func60 (by kernel_rfl) rfl #[.int .i64 a0] rfl (by (try simp only [List.map_toArray, List.map_cons, List.map_nil]); first | done | rfl | (simp only [List.length_drop, List.length_take]; rfl)) ?_; (with_reducible refine (cmp_isNaN_int.calls a0 true _ A3.out).mono ?_); rintro e w' ⟨rfl, ⟨nd, rfl⟩⟩; refine ⟨_, rfl, ?_⟩) | ((with_reducible refine gate_callee (f := 60) rfl ?_); refine goesL_ (some 10) rfl rfl Try.func60 (by kernel_rfl) rfl #[.int .i64 a1] rfl (by (try simp only [List.map_toArray, List.map_cons, List.map_nil]); first | done | rfl | (simp only [List.length_drop, List.length_take]; rfl)) ?_; (with_reducible refine (cmp_isNaN_int.calls a1 false _ A4.out).mono ?_); rintro e w' ⟨rfl, ⟨nd, rfl⟩⟩; refine ⟨_, rfl, ?_⟩))
      go_ret
      exact ⟨by first | rfl | (simp; done) | (simp [*]; done), by repeat (first | exact Drawn0.refl _ | apply Drawn0.step)⟩
  · replace c5 := Bool.eq_false_iff.mpr c5
    subst c5
    have H1 : (if t107 = true then (some 1) else (if a0 < a1 then (some (-1)) else (if a0 > a1 then (some 1) else (some 0)))) = some r := by rw [if_neg (show ¬ (false = true) by decide)] at H; exact H
    clear H
    have H := H1
    clear H1
    by_cases c7 : t107 = true
    · subst c7
      have H1 : (some 1) = some r := by rw [if_pos rfl] at H; exact H
      clear H
      have H := H1
      clear H1
      obtain rfl := Option.some.inj H
      go_enter Try.func46, Try.ntmps46
      go_wp2_with (first | ((with_reducible refine gate_callee (f := 60) rfl ?_); refine goesL_ (some 8) rfl rfl Try.func60 (by kernel_rfl) rfl #[.int .i64 a0] rfl (by (try simp only [List.map_toArray, List.map_cons, List.map_nil]); first | done | rfl | (simp only [List.length_drop, List.length_take]; rfl)) ?_; (with_reducible refine (cmp_isNaN_int.calls a0 false _ A3.out).mono ?_); rintro e w' ⟨rfl, ⟨nd, rfl⟩⟩; refine ⟨_, rfl, ?_⟩) | ((with_reducible refine gate_callee (f := 60) rfl ?_); refine goesL_ (some 10) rfl rfl Try.func60 (by kernel_rfl) rfl #[.int .i64 a1] rfl (by (try simp only [List.map_toArray, List.map_cons, List.map_nil]); first | done | rfl | (simp only [List.length_drop, List.length_take]; rfl)) ?_; (with_reducible refine (cmp_isNaN_int.calls a1 true _ A4.out).mono ?_); rintro e w' ⟨rfl, ⟨nd, rfl⟩⟩; refine ⟨_, rfl, ?_⟩))
      go_ret
      exact ⟨by first | rfl | (simp; done) | (simp [*]; done), by repeat (first | exact Drawn0.refl _ | apply Drawn0.step)⟩
    · replace c7 := Bool.eq_false_iff.mpr c7
      subst c7
      have H1 : (if a0 < a1 then (some (-1)) else (if a0 > a1 then (some 1) else (some 0))) = some r := by rw [if_neg (show ¬ (false = true) by decide)] at H; exact H
      clear H
      have H := H1
      clear H1
      by_cases c8 : a0 < a1
      · rw [if_pos c8] at H
        have c8b0 : decide (a0 < a1) = true := decide_eq_true c8
        clear c8
        obtain rfl := Option.some.inj H
        go_enter Try.func46, Try.ntmps46
        go_wp2_with (first | ((with_reducible refine gate_callee (f := 60) rfl ?_); refine goesL_ (some 8) rfl rfl Try.func60 (by kernel_rfl) rfl #[.int .i64 a0] rfl (by (try simp only [List.map_toArray, List.map_cons, List.map_nil]); first | done | rfl | (simp only [List.length_drop, List.length_take]; rfl)) ?_; (with_reducible refine (cmp_isNaN_int.calls a0 false _ A3.out).mono ?_); rintro e w' ⟨rfl, ⟨nd, rfl⟩⟩; refine ⟨_, rfl, ?_⟩) | ((with_reducible refine gate_callee (f := 60) rfl ?_); refine goesL_ (some 10) rfl rfl Try.func60 (by kernel_rfl) rfl #[.int .i64 a1] rfl (by (try simp only [List.map_toArray, List.map_cons, List.map_nil]); first | done | rfl | (simp only [List.length_drop, List.length_take]; rfl)) ?_; (with_reducible refine (cmp_isNaN_int.calls a1 false _ A4.out).mono ?_); rintro e w' ⟨rfl, ⟨nd, rfl⟩⟩; refine ⟨_, rfl, ?_⟩))
        go_ret
        exact ⟨by first | rfl | (simp; done) | (simp [*]; done), by repeat (first | exact Drawn0.refl _ | apply Drawn0.step)⟩
      · rw [if_neg c8] at H
        have c8b0 : decide (a0 < a1) = false := decide_eq_false c8
        clear c8
        by_cases c9 : a0 > a1
        · rw [if_pos c9] at H
          have c9b0 : decide (a1 < a0) = true := decide_eq_true c9
          clear c9
          obtain rfl := Option.some.inj H
          go_enter Try.func46, Try.ntmps46
          go_wp2_with (first | ((with_reducible refine gate_callee (f := 60) rfl ?_); refine goesL_ (some 8) rfl rfl Try.func60 (by kernel_rfl) rfl #[.int .i64 a0] rfl (by (try simp only [List.map_toArray, List.map_cons, List.map_nil]); first | done | rfl | (simp only [List.length_drop, List.length_take]; rfl)) ?_; (with_reducible refine (cmp_isNaN_int.calls a0 false _ A3.out).mono ?_); rintro e w' ⟨rfl, ⟨nd, rfl⟩⟩; refine ⟨_, rfl, ?_⟩) | ((with_reducible refine gate_callee (f := 60) rfl ?_); refine goesL_ (some 10) rfl rfl Try.func60 (by kernel_rfl) rfl #[.int .i64 a1] rfl (by (try simp only [List.map_toArray, List.map_cons, List.map_nil]); first | done | rfl | (simp only [List.length_drop, List.length_take]; rfl)) ?_; (with_reducible refine (cmp_isNaN_int.calls a1 false _ A4.out).mono ?_); rintro e w' ⟨rfl, ⟨nd, rfl⟩⟩; refine ⟨_, rfl, ?_⟩))
          go_ret
          exact ⟨by first | rfl | (simp; done) | (simp [*]; done), by repeat (first | exact Drawn0.refl _ | apply Drawn0.step)⟩
        · rw [if_neg c9] at H
          have c9b0 : decide (a1 < a0) = false := decide_eq_false c9
          clear c9
          obtain rfl := Option.some.inj H
          go_enter Try.func46, Try.ntmps46
          go_wp2_with (first | ((with_reducible refine gate_callee (f := 60) rfl ?_); refine goesL_ (some 8) rfl rfl Try.func60 (by kernel_rfl) rfl #[.int .i64 a0] rfl (by (try simp only [List.map_toArray, List.map_cons, List.map_nil]); first | done | rfl | (simp only [List.length_drop, List.length_take]; rfl)) ?_; (with_reducible refine (cmp_isNaN_int.calls a0 false _ A3.out).mono ?_); rintro e w' ⟨rfl, ⟨nd, rfl⟩⟩; refine ⟨_, rfl, ?_⟩) | ((with_reducible refine gate_callee (f := 60) rfl ?_); refine goesL_ (some 10) rfl rfl Try.func60 (by kernel_rfl) rfl #[.int .i64 a1] rfl (by (try simp only [List.map_toArray, List.map_cons, List.map_nil]); first | done | rfl | (simp only [List.length_drop, List.length_take]; rfl)) ?_; (with_reducible refine (cmp_isNaN_int.calls a1 false _ A4.out).mono ?_); rintro e w' ⟨rfl, ⟨nd, rfl⟩⟩; refine ⟨_, rfl, ?_⟩))
          go_ret
          exact ⟨by first | rfl | (simp; done) | (simp [*]; done), by repeat (first | exact Drawn0.refl _ | apply Drawn0.step)⟩

end Go.Proofs.Ytojefdnngkcaoaa.G
end

section
-- Written by a program of this session (wip/tools/myprint.py), over the kit's print.
namespace Go.Proofs.Ytojefdnngkcaoaa.G
open Go.RowKit Go.Proofs.YtojefdnngkcaoaaW.PrintWords Go.Proofs.YtojefdnngkcaoaaW.PrintLast Go.Proofs.YtojefdnngkcaoaaW.PrintMore
attribute [local go_sem] max2_int min2_int max_two min_two max_three min_three max_four min_four   -- for this text's walks alone
set_option linter.unusedVariables false
set_option linter.unusedSimpArgs false

-- BY HAND
-- LIB Derived.Lib.Strings
-- LIB Derived.Lib.Slices
-- LIB Derived.Lib.Walk
-- LIB Derived.Lib.Bytealg
set_option maxHeartbeats 1000000 in
set_option maxRecDepth 100000 in
theorem compare_bytes (a b : ByteArray) (w : World) :
    Calls Try.prog 61 #[.string a, .string b] w fun e w' => e = .returned (.int .i64 (Lib.compareBytes a.data.toList b.data.toList)) ∧ w' = w := by
  go_enter Try.func61, Try.ntmps61
  go_wp2
  rw [run_callFunc_extern Try.func65 (by kernel_rfl) (by kernel_rfl) (by kernel_rfl) (e := Extern.BytealgCompare.compare) (by kernel_rfl), Lib.run_compareString]
  simp only [Result.andThen]
  rw [Oper.upon_value]
  go_wp2
  go_ret
  exact ⟨rfl, rfl⟩
def strings_Compare.f (a0 a1 : ByteArray) : Option Int := some (Lib.compareBytes a0.data.toList a1.data.toList)
set_option maxHeartbeats 1000000 in
theorem strings_Compare.calls (a0 a1 : ByteArray) (r : Int) (w : World) (h : strings_Compare.f a0 a1 = some r) :
    Calls Try.prog 47 #[.string a0, .string a1] w fun e w' => e = .returned (.int .i64 r) ∧ Drawn0 w w' := by
  obtain rfl := Option.some.inj h
  go_enter Try.func47, Try.ntmps47
  go_wp2_with (go_at_call 61; refine (compare_bytes _ _ _).mono ?_; rintro e w' ⟨rfl, rfl⟩)
  go_ret
  exact ⟨rfl, Drawn0.refl _⟩

end Go.Proofs.Ytojefdnngkcaoaa.G
end

section
-- Written by a program of this session (wip/tools/myprint.py), over the kit's print.
namespace Go.Proofs.Ytojefdnngkcaoaa.G
open Go.RowKit Go.Proofs.YtojefdnngkcaoaaW.PrintWords Go.Proofs.YtojefdnngkcaoaaW.PrintLast Go.Proofs.YtojefdnngkcaoaaW.PrintMore
attribute [local go_sem] max2_int min2_int max_two min_two max_three min_three max_four min_four   -- for this text's walks alone
set_option linter.unusedVariables false
set_option linter.unusedSimpArgs false

/-! ### value_Compare: function 26 -/
def value_Compare.f (k : Nat) (a0_0 : Int) (a0_1 : Int) (a0_2 : ByteArray) (a1_0 : Int) (a1_1 : Int) (a1_2 : ByteArray) : Option (Int) := (cmp_Compare_int.f a0_0 a1_0).bind fun t110 => ((cmp_Compare_int.f a0_1 a1_1).bind fun t111 => ((strings_Compare.f a0_2 a1_2).bind fun t112 => ((cmp_Or_int.f k (([t110, t111, t112] : List Int))).bind fun t116 => (some t116))))
theorem value_Compare.mono : ∀ a0 a1 a2 a3 a4 a5 k, LeO (value_Compare.f k a0 a1 a2 a3 a4 a5) (value_Compare.f (k + 1) a0 a1 a2 a3 a4 a5) := by
  intro a0 a1 a2 a3 a4 a5 k
  unfold value_Compare.f
  repeat' first
      | (with_reducible exact cmp_Or_int.mono _ _)
      | (with_reducible exact LeO.refl _)
      | (with_reducible exact LeO.none _)
      | (with_reducible refine LeO.ite ?_ ?_)
      | (with_reducible refine LeO.bind ?_ (fun _ => ?_))
      | exact cmp_Or_int.mono _ _
      | exact LeO.none _
      | refine LeO.ite ?_ ?_
      | refine LeO.bind ?_ (fun _ => ?_)
def value_Compare.T1 : Bool × List (List Nat × List Nat) := (true, [([], []), ([0], [0]), ([], []), ([2], [2]), ([1, 3], [1, 3]), ([], []), ([5], [5]), ([], []), ([7], [7]), ([6, 8, 4], [6, 8]), ([], []), ([10], [10]), ([], []), ([12], [12]), ([11, 13, 9], [11, 13]), ([4, 9, 14], [4, 9, 14]), ([15, 14], [15]), ([16, 16, 0, 1, 2, 3, 4, 5, 6, 7, 8, 9, 10, 11, 12, 13, 14, 15, 16], [16])])
def value_Compare.B1 : List Nat := [0, 1, 0, 4, 15, 0, 32, 0, 128, 511, 0, 1024, 0, 4096, 16383, 32767, 65535, 131071]
theorem value_Compare.tab1 : rtab .any (opsOf Try.f26 1) = value_Compare.T1 := by kernel_rfl
theorem value_Compare.bits1 : waitsOk value_Compare.T1.2 value_Compare.B1 = true := by kernel_rfl
set_option maxHeartbeats 8000000 in
set_option maxRecDepth 100000 in
theorem value_Compare.calls (k : Nat) (a0_0 : Int) (a0_1 : Int) (a0_2 : ByteArray) (a1_0 : Int) (a1_1 : Int) (a1_2 : ByteArray) (r : Int) (w : World) (h : value_Compare.f k a0_0 a0_1 a0_2 a1_0 a1_1 a1_2 = some r) :
    Calls Try.prog 26 #[.agg #[.int .i64 a0_0, .int .i64 a0_1, .string a0_2], .agg #[.int .i64 a1_0, .int .i64 a1_1, .string a1_2]] w fun e w' => e = .returned (.int .i64 r) ∧ Below w.heap.size w w' := by
  have hu23 := Try.underlying23
  have HB := Aside0.mk (Below.refl w.heap.size w)
  have H : ((cmp_Compare_int.f a0_0 a1_0).bind fun t110 => ((cmp_Compare_int.f a0_1 a1_1).bind fun t111 => ((strings_Compare.f a0_2 a1_2).bind fun t112 => ((cmp_Or_int.f k (([t110, t111, t112] : List Int))).bind fun t116 => (some t116))))) = some r := h
  clear h
  replace H := Option.bind_eq_some_iff.mp H
  obtain ⟨t110, A30, H⟩ := H
  replace H : ((cmp_Compare_int.f a0_1 a1_1).bind fun t111 => ((strings_Compare.f a0_2 a1_2).bind fun t112 => ((cmp_Or_int.f k (([t110, t111, t112] : List Int))).bind fun t116 => (some t116)))) = some r := H
  have A3 := Aside0.mk A30
  clear A30
  replace H := Option.bind_eq_some_iff.mp H
  obtain ⟨t111, A40, H⟩ := H
  replace H : ((strings_Compare.f a0_2 a1_2).bind fun t112 => ((cmp_Or_int.f k (([t110, t111, t112] : List Int))).bind fun t116 => (some t116))) = some r := H
  have A4 := Aside0.mk A40
  clear A40
  replace H := Option.bind_eq_some_iff.mp H
  obtain ⟨t112, A50, H⟩ := H
  replace H : ((cmp_Or_int.f k (([t110, t111, t112] : List Int))).bind fun t116 => (some t116)) = some r := H
  have A5 := Aside0.mk A50
  clear A50
  obtain ⟨y113, hy113⟩ : ∃ y_ : List Int, y_ = (([t110, t111, t112] : List Int)) := ⟨_, rfl⟩
  replace H : ((cmp_Or_int.f k y113).bind fun t116 => (some t116)) = some r := by first | (rw [hy113]; with_reducible exact H) | (have H2_ := (Option.bind_some _ _).symm.trans H; rw [hy113]; with_reducible exact H2_) | (have H2_ := (Option.bind_some _ _).symm.trans H; with_reducible exact H2_) | with_reducible exact H | (rw [hy113]; exact H) | exact H
  have Ny113 := Aside0.mk hy113
  clear hy113
  replace H := Option.bind_eq_some_iff.mp H
  obtain ⟨t116, A60, H⟩ := H
  replace H : (some t116) = some r := H
  have A6 := Aside0.mk A60
  clear A60
  obtain rfl := Option.some.inj H
  go_enter Try.func26, Try.ntmps26
  try go_wp2_with (first | ((with_reducible refine gate_dst (N := 2) rfl ?_); refine box_event ?hg (N := 2) ?hd (cs := #[.int .i64 a0_0, .int .i64 a0_1, .string a0_2]) (t := 23) ?hr ?_; (case hd => rfl); (case hg => rfl); (case hr => first | (go_simp; done) | (go_simp; rfl)); intro gb108 hg w7 hbox hb; have n0_ := Aside0.mk (below_step (by repeat (first | (with_reducible first | exact HB.out | apply below_alloc | apply pw_below_drewN | apply below_drew1) | exact HB.out)) hb); have n1_ := Aside0.mk (hbox); have n2_ := Aside0.mk ((by rw [hg]; exact (below_size (by repeat (first | (with_reducible first | exact HB.out | apply below_alloc | apply pw_below_drewN | apply below_drew1) | exact HB.out))) : w.heap.size ≤ gb108)); have n3_ := Aside0.mk ((by rw [hg]; exact (below_size (by repeat (first | (with_reducible first | exact HB.out | apply below_alloc | apply pw_below_drewN | apply below_drew1) | exact HB.out))) : w.heap.size ≤ gb108)); clear HB; have HB := n0_; have BK108 := n1_; have GW108 := n2_; have GE108 := n3_; clear n0_ n1_ n2_ n3_; clear hb hbox hg) | ((with_reducible refine gate_dst (N := 3) rfl ?_); refine box_event ?hg (N := 3) ?hd (cs := #[.int .i64 a1_0, .int .i64 a1_1, .string a1_2]) (t := 23) ?hr ?_; (case hd => rfl); (case hg => rfl); (case hr => first | (go_simp; done) | (go_simp; rfl)); intro gb109 hg w8 hbox hb; have n0_ := Aside0.mk (blk_below (g := gb108) (o := .cells #[.int .i64 a0_0, .int .i64 a0_1, .string a0_2] 23 (0, 0)) (by (with_reducible repeat (first | refine blk_drewN ?_ _ | refine blk_drew ?_ | refine blk_alloc ?_ _)); exact BK108.out) hb); have n1_ := Aside0.mk (below_step (by repeat (first | (with_reducible first | exact HB.out | apply below_alloc | apply pw_below_drewN | apply below_drew1 | refine below_set ?_ GE108.out) | exact HB.out)) hb); have n2_ := Aside0.mk (hbox); have n3_ := Aside0.mk ((by rw [hg]; exact (below_size (by repeat (first | (with_reducible first | exact HB.out | apply below_alloc | apply pw_below_drewN | apply below_drew1 | refine below_set ?_ GE108.out) | exact HB.out))) : w.heap.size ≤ gb109)); have n4_ := Aside0.mk ((by rw [hg]; exact (below_size (by repeat (first | (with_reducible first | exact HB.out | apply below_alloc | apply pw_below_drewN | apply below_drew1 | refine below_set ?_ GE108.out) | exact HB.out))) : w.heap.size ≤ gb109)); have n5_ := Aside0.mk ((by rw [hg]; exact Nat.ne_of_lt (blk_lt (g := gb108) (o := .cells #[.int .i64 a0_0, .int .i64 a0_1, .string a0_2] 23 (0, 0)) (by (with_reducible repeat (first | refine blk_drewN ?_ _ | refine blk_drew ?_ | refine blk_alloc ?_ _)); exact BK108.out)) : gb108 ≠ gb109)); have n6_ := Aside0.mk ((by rw [hg]; exact Nat.ne_of_gt (blk_lt (g := gb108) (o := .cells #[.int .i64 a0_0, .int .i64 a0_1, .string a0_2] 23 (0, 0)) (by (with_reducible repeat (first | refine blk_drewN ?_ _ | refine blk_drew ?_ | refine blk_alloc ?_ _)); exact BK108.out)) : gb109 ≠ gb108)); clear BK108; clear HB; have BK108 := n0_; have HB := n1_; have BK109 := n2_; have GW109 := n3_; have GE109 := n4_; have NB108_109 := n5_; have NB109_108 := n6_; clear n0_ n1_ n2_ n3_ n4_ n5_ n6_; clear hb hbox hg))
  have n0_ := Aside0.mk (blk_drew BK108.out)
  have n1_ := Aside0.mk (blk_drew BK109.out)
  have n2_ := Aside0.mk (below_drew1 HB.out)
  clear BK108
  clear BK109
  clear HB
  have BK108 := n0_
  have BK109 := n1_
  have HB := n2_
  clear n0_ n1_ n2_
  refine start_ (n := 18) (S := fun w' => w'.cell? ⟨gb108, 0, none⟩ = some (.int .i64 a0_0) ∧ w'.cell? ⟨gb108, 1, none⟩ = some (.int .i64 a0_1) ∧ w'.cell? ⟨gb108, 2, none⟩ = some (.string a0_2) ∧ w'.cell? ⟨gb109, 0, none⟩ = some (.int .i64 a1_0) ∧ w'.cell? ⟨gb109, 1, none⟩ = some (.int .i64 a1_1) ∧ w'.cell? ⟨gb109, 2, none⟩ = some (.string a1_2)) (ds := []) #[false, false, false, false, false, false, false, false, false, false, false, false, false, false, false, false, false, false] (by kernel_rfl) rfl rfl ⟨(blk_cell BK108.out 0).trans rfl, (blk_cell BK108.out 1).trans rfl, (blk_cell BK108.out 2).trans rfl, (blk_cell BK109.out 0).trans rfl, (blk_cell BK109.out 1).trans rfl, (blk_cell BK109.out 2).trans rfl⟩ (fun hHeld => ?_); refine with_tabW value_Compare.tab1 value_Compare.bits1 (fun HT_ HW_ => ?_)
  generalize w8.drew = w9 at BK108 BK109 HB hHeld ⊢
  refine pure_ (i := 0) (N := some 5) (v := ?_) (a' := ?_) #[true, false, false, false, false, false, false, false, false, false, false, false, false, false, false, false, false, false] rfl rfl (any_of HT_.out (by kernel_rfl)) (fun _ _ _ h => h) (Or.inl ⟨by rfl, ?_⟩) ?_ ?_
  rotate_left
  · intro w'
    go_simp
    with_reducible rfl
  rotate_left
  · simp only [Act.put, List.setIfInBounds_toArray, List.set_cons_zero, List.set_cons_succ, i64_w, i32_w]
    rfl
  refine pure_ (i := 2) (N := some 7) (v := ?_) (a' := ?_) #[true, false, true, false, false, false, false, false, false, false, false, false, false, false, false, false, false, false] rfl rfl (any_of HT_.out (by kernel_rfl)) (fun _ _ _ h => h) (Or.inl ⟨by rfl, ?_⟩) ?_ ?_
  rotate_left
  · intro w'
    go_simp
    with_reducible rfl
  rotate_left
  · simp only [Act.put, List.setIfInBounds_toArray, List.set_cons_zero, List.set_cons_succ, i64_w, i32_w]
    rfl
  refine pure_ (i := 5) (N := some 10) (v := ?_) (a' := ?_) #[true, false, true, false, false, true, false, false, false, false, false, false, false, false, false, false, false, false] rfl rfl (any_of HT_.out (by kernel_rfl)) (fun _ _ _ h => h) (Or.inl ⟨by rfl, ?_⟩) ?_ ?_
  rotate_left
  · intro w'
    go_simp
    with_reducible rfl
  rotate_left
  · simp only [Act.put, List.setIfInBounds_toArray, List.set_cons_zero, List.set_cons_succ, i64_w, i32_w]
    rfl
  refine pure_ (i := 7) (N := some 12) (v := ?_) (a' := ?_) #[true, false, true, false, false, true, false, true, false, false, false, false, false, false, false, false, false, false] rfl rfl (any_of HT_.out (by kernel_rfl)) (fun _ _ _ h => h) (Or.inl ⟨by rfl, ?_⟩) ?_ ?_
  rotate_left
  · intro w'
    go_simp
    with_reducible rfl
  rotate_left
  · simp only [Act.put, List.setIfInBounds_toArray, List.set_cons_zero, List.set_cons_succ, i64_w, i32_w]
    rfl
  refine pure_ (i := 10) (N := some 15) (v := ?_) (a' := ?_) #[true, false, true, false, false, true, false, true, false, false, true, false, false, false, false, false, false, false] rfl rfl (any_of HT_.out (by kernel_rfl)) (fun _ _ _ h => h) (Or.inl ⟨by rfl, ?_⟩) ?_ ?_
  rotate_left
  · intro w'
    go_simp
    with_reducible rfl
  rotate_left
  · simp only [Act.put, List.setIfInBounds_toArray, List.set_cons_zero, List.set_cons_succ, i64_w, i32_w]
    rfl
  refine pure_ (i := 12) (N := some 17) (v := ?_) (a' := ?_) #[true, false, true, false, false, true, false, true, false, false, true, false, true, false, false, false, false, false] rfl rfl (any_of HT_.out (by kernel_rfl)) (fun _ _ _ h => h) (Or.inl ⟨by rfl, ?_⟩) ?_ ?_
  rotate_left
  · intro w'
    go_simp
    with_reducible rfl
  rotate_left
  · simp only [Act.put, List.setIfInBounds_toArray, List.set_cons_zero, List.set_cons_succ, i64_w, i32_w]
    rfl
  refine take_ (i := 1) (N := some 6) (v := ?_) (a' := ?_) #[true, true, true, false, false, true, false, true, false, false, true, false, true, false, false, false, false, false] rfl rfl (take_ofW HT_.out HW_.out (by kernel_rfl)) (fun _ _ _ h => h) (Or.inl ⟨by rfl, ?_⟩) hHeld ?_ ?_
  rotate_left
  · rintro w' ⟨s0, s1, s2, s3, s4, s5⟩
    go_simp
    with_reducible rfl
  rotate_left
  · simp only [Act.put, List.setIfInBounds_toArray, List.set_cons_zero, List.set_cons_succ, i64_w, i32_w]
    rfl
  refine take_ (i := 3) (N := some 8) (v := ?_) (a' := ?_) #[true, true, true, true, false, true, false, true, false, false, true, false, true, false, false, false, false, false] rfl rfl (take_ofW HT_.out HW_.out (by kernel_rfl)) (fun _ _ _ h => h) (Or.inl ⟨by rfl, ?_⟩) hHeld ?_ ?_
  rotate_left
  · rintro w' ⟨s0, s1, s2, s3, s4, s5⟩
    go_simp
    with_reducible rfl
  rotate_left
  · simp only [Act.put, List.setIfInBounds_toArray, List.set_cons_zero, List.set_cons_succ, i64_w, i32_w]
    rfl
  refine take_ (i := 6) (N := some 11) (v := ?_) (a' := ?_) #[true, true, true, true, false, true, true, true, false, false, true, false, true, false, false, false, false, false] rfl rfl (take_ofW HT_.out HW_.out (by kernel_rfl)) (fun _ _ _ h => h) (Or.inl ⟨by rfl, ?_⟩) hHeld ?_ ?_
  rotate_left
  · rintro w' ⟨s0, s1, s2, s3, s4, s5⟩
    go_simp
    with_reducible rfl
  rotate_left
  · simp only [Act.put, List.setIfInBounds_toArray, List.set_cons_zero, List.set_cons_succ, i64_w, i32_w]
    rfl
  refine take_ (i := 8) (N := some 13) (v := ?_) (a' := ?_) #[true, true, true, true, false, true, true, true, true, false, true, false, true, false, false, false, false, false] rfl rfl (take_ofW HT_.out HW_.out (by kernel_rfl)) (fun _ _ _ h => h) (Or.inl ⟨by rfl, ?_⟩) hHeld ?_ ?_
  rotate_left
  · rintro w' ⟨s0, s1, s2, s3, s4, s5⟩
    go_simp
    with_reducible rfl
  rotate_left
  · simp only [Act.put, List.setIfInBounds_toArray, List.set_cons_zero, List.set_cons_succ, i64_w, i32_w]
    rfl
  refine take_ (i := 11) (N := some 16) (v := ?_) (a' := ?_) #[true, true, true, true, false, true, true, true, true, false, true, true, true, false, false, false, false, false] rfl rfl (take_ofW HT_.out HW_.out (by kernel_rfl)) (fun _ _ _ h => h) (Or.inl ⟨by rfl, ?_⟩) hHeld ?_ ?_
  rotate_left
  · rintro w' ⟨s0, s1, s2, s3, s4, s5⟩
    go_simp
    with_reducible rfl
  rotate_left
  · simp only [Act.put, List.setIfInBounds_toArray, List.set_cons_zero, List.set_cons_succ, i64_w, i32_w]
    rfl
  refine take_ (i := 13) (N := some 18) (v := ?_) (a' := ?_) #[true, true, true, true, false, true, true, true, true, false, true, true, true, true, false, false, false, false] rfl rfl (take_ofW HT_.out HW_.out (by kernel_rfl)) (fun _ _ _ h => h) (Or.inl ⟨by rfl, ?_⟩) hHeld ?_ ?_
  rotate_left
  · rintro w' ⟨s0, s1, s2, s3, s4, s5⟩
    go_simp
    with_reducible rfl
  rotate_left
  · simp only [Act.put, List.setIfInBounds_toArray, List.set_cons_zero, List.set_cons_succ, i64_w, i32_w]
    rfl
  refine one_ (i := 4) (N := some 9) #[true, true, true, true, true, true, true, true, true, false, true, true, true, true, false, false, false, false] rfl rfl (one_of HT_.out (by kernel_rfl)) (by decide) (fun K hK => ?_)
  refine goes_ Try.func46 (by kernel_rfl) rfl #[.int .i64 a0_0, .int .i64 a1_0] (by rfl) rfl rfl (by (try simp only [List.map_toArray, List.map_cons, List.map_nil]); first | done | rfl | (simp only [List.length_drop, List.length_take]; rfl)) ?_
  with_reducible refine (cmp_Compare_int.calls a0_0 a1_0 t110 _ A3.out).mono ?_
  rintro e w' ⟨rfl, ⟨nd, rfl⟩⟩
  refine ⟨_, rfl, ?_⟩
  refine hK.out _ _ ⟨(blk_cell BK108.out 0).trans rfl, (blk_cell BK108.out 1).trans rfl, (blk_cell BK108.out 2).trans rfl, (blk_cell BK109.out 0).trans rfl, (blk_cell BK109.out 1).trans rfl, (blk_cell BK109.out 2).trans rfl⟩ (fun hHeld => ?_)
  clear hK K
  refine norm_ (a' := ?_) ?_ ?_
  rotate_left
  · show Act.put _ (some 9) _ = _
    simp only [Act.put, List.setIfInBounds_toArray, List.set_cons_zero, List.set_cons_succ, i64_w, i32_w]
    rfl
  refine one_ (i := 9) (N := some 14) #[true, true, true, true, true, true, true, true, true, true, true, true, true, true, false, false, false, false] rfl rfl (one_of HT_.out (by kernel_rfl)) (by decide) (fun K hK => ?_)
  refine goes_ Try.func46 (by kernel_rfl) rfl #[.int .i64 a0_1, .int .i64 a1_1] (by rfl) rfl rfl (by (try simp only [List.map_toArray, List.map_cons, List.map_nil]); first | done | rfl | (simp only [List.length_drop, List.length_take]; rfl)) ?_
  with_reducible refine (cmp_Compare_int.calls a0_1 a1_1 t111 _ A4.out).mono ?_
  rintro e w' ⟨rfl, ⟨nd, rfl⟩⟩
  refine ⟨_, rfl, ?_⟩
  refine hK.out _ _ ⟨(blk_cell BK108.out 0).trans rfl, (blk_cell BK108.out 1).trans rfl, (blk_cell BK108.out 2).trans rfl, (blk_cell BK109.out 0).trans rfl, (blk_cell BK109.out 1).trans rfl, (blk_cell BK109.out 2).trans rfl⟩ (fun hHeld => ?_)
  clear hK K
  refine norm_ (a' := ?_) ?_ ?_
  rotate_left
  · show Act.put _ (some 14) _ = _
    simp only [Act.put, List.setIfInBounds_toArray, List.set_cons_zero, List.set_cons_succ, i64_w, i32_w]
    rfl
  refine one_ (i := 14) (N := some 19) #[true, true, true, true, true, true, true, true, true, true, true, true, true, true, true, false, false, false] rfl rfl (one_of HT_.out (by kernel_rfl)) (by decide) (fun K hK => ?_)
  refine goes_ Try.func47 (by kernel_rfl) rfl #[.string a0_2, .string a1_2] (by rfl) rfl rfl (by (try simp only [List.map_toArray, List.map_cons, List.map_nil]); first | done | rfl | (simp only [List.length_drop, List.length_take]; rfl)) ?_
  with_reducible refine (strings_Compare.calls a0_2 a1_2 t112 _ A5.out).mono ?_
  rintro e w' ⟨rfl, ⟨nd, rfl⟩⟩
  refine ⟨_, rfl, ?_⟩
  refine hK.out _ _ ⟨(blk_cell BK108.out 0).trans rfl, (blk_cell BK108.out 1).trans rfl, (blk_cell BK108.out 2).trans rfl, (blk_cell BK109.out 0).trans rfl, (blk_cell BK109.out 1).trans rfl, (blk_cell BK109.out 2).trans rfl⟩ (fun hHeld => ?_)
  clear hK K
  refine norm_ (a' := ?_) ?_ ?_
  rotate_left
  · show Act.put _ (some 19) _ = _
    simp only [Act.put, List.setIfInBounds_toArray, List.set_cons_zero, List.set_cons_succ, i64_w, i32_w]
    rfl
  refine one_ (i := 15) (N := some 20) #[true, true, true, true, true, true, true, true, true, true, true, true, true, true, true, true, false, false] rfl rfl (one_of HT_.out (by kernel_rfl)) (by decide) (fun K hK => ?_)
  refine Kd.R_lit_step (Kd.int .i64) _ 3 ?hg (N := 20) ?hd (xs := ([t110, t111, t112] : List Int)) (inner := [.int .i64 t110, .int .i64 t111, .int .i64 t112]) (ok := fun _ => True) (okp := fun _ => True) ?hr ?hp (fun _ hk => hk) trivial (Below.refl _ _) (Nat.le_refl _) (by simp) ?_; (case hd => rfl); (case hg => rfl); (case hr => first | (go_simp; done) | (go_simp; rfl)); (case hp => exact (Reps.one (show Kd.M (Kd.int .i64) _ _ _ t110 [.int .i64 t110] from rfl) (Reps.one (show Kd.M (Kd.int .i64) _ _ _ t111 [.int .i64 t111] from rfl) (Reps.one (show Kd.M (Kd.int .i64) _ _ _ t112 [.int .i64 t112] from rfl) (Reps.none _ _)))))
  intro v114 w10 ho11 hb hg_ hnew_
  clear hg_ hnew_
  (first | rw [← Ny113.out] at ho11 | (simp only [Int.reduceToNat] at ho11; rw [← Ny113.out] at ho11))
  have n0_ := Aside0.mk (Kd.R_lower ho11 (below_size (by repeat (first | (with_reducible first | exact HB.out | apply below_alloc | apply pw_below_drewN | apply below_drew1 | refine below_set ?_ GE108.out | refine below_set ?_ GE109.out) | exact HB.out))))
  have n1_ := Aside0.mk (blk_below (g := gb108) (o := .cells #[.int .i64 a0_0, .int .i64 a0_1, .string a0_2] 23 (0, 0)) (by (with_reducible repeat (first | refine blk_drewN ?_ _ | refine blk_drew ?_ | refine blk_alloc ?_ _)); exact BK108.out) hb)
  have n2_ := Aside0.mk (blk_below (g := gb109) (o := .cells #[.int .i64 a1_0, .int .i64 a1_1, .string a1_2] 23 (0, 0)) (by (with_reducible repeat (first | refine blk_drewN ?_ _ | refine blk_drew ?_ | refine blk_alloc ?_ _)); exact BK109.out) hb)
  have n3_ := Aside0.mk (below_step (by repeat (first | (with_reducible first | exact HB.out | apply below_alloc | apply pw_below_drewN | apply below_drew1 | refine below_set ?_ GE108.out | refine below_set ?_ GE109.out) | exact HB.out)) hb)
  clear BK108
  clear BK109
  clear HB
  have HO115 := n0_
  have BK108 := n1_
  have BK109 := n2_
  have HB := n3_
  clear n0_ n1_ n2_ n3_
  clear hb ho11
  obtain ⟨Ao12, co12, eo12⟩ := Kd.R_slice HO115.out
  (first | subst eo12 | (injection eo12 with f1_ f2_ f3_; have f4_ := f1_.symm; have f5_ := f3_.symm; clear f1_ f2_ f3_; subst f4_; subst f5_))
  refine hK.out _ _ ⟨(blk_cell BK108.out 0).trans rfl, (blk_cell BK108.out 1).trans rfl, (blk_cell BK108.out 2).trans rfl, (blk_cell BK109.out 0).trans rfl, (blk_cell BK109.out 1).trans rfl, (blk_cell BK109.out 2).trans rfl⟩ (fun hHeld => ?_)
  clear hK K
  refine norm_ (a' := ?_) ?_ ?_
  rotate_left
  · show Act.put _ (some 20) _ = _
    simp only [Act.put, List.setIfInBounds_toArray, List.set_cons_zero, List.set_cons_succ, i64_w, i32_w]
    rfl
  refine one_ (i := 16) (N := some 21) #[true, true, true, true, true, true, true, true, true, true, true, true, true, true, true, true, true, false] rfl rfl (one_of HT_.out (by kernel_rfl)) (by decide) (fun K hK => ?_)
  refine goes_ Try.func45 (by kernel_rfl) rfl #[.slice Ao12 y113.length co12] (by rfl) rfl rfl (by (try simp only [List.map_toArray, List.map_cons, List.map_nil]); first | done | rfl | (simp only [List.length_drop, List.length_take]; rfl)) ?_
  with_reducible refine (cmp_Or_int.calls k _ _ y113 t116 _ ?side1 ?side2 A6.out).mono ?_
  (case side1 => repeat (first | exact (Kd.R_reads' HO115.out).2.2 | (with_reducible refine Kd.C_alloc ?_ _) | (with_reducible refine Kd.C_drewN ?_ _) | (with_reducible refine Kd.C_drew ?_)))
  (case side2 => exact (Kd.R_reads' HO115.out).2.1)
  rintro e w' ⟨rfl, ⟨nd, rfl⟩⟩
  refine ⟨_, rfl, ?_⟩
  refine hK.out _ _ ⟨(blk_cell BK108.out 0).trans rfl, (blk_cell BK108.out 1).trans rfl, (blk_cell BK108.out 2).trans rfl, (blk_cell BK109.out 0).trans rfl, (blk_cell BK109.out 1).trans rfl, (blk_cell BK109.out 2).trans rfl⟩ (fun hHeld => ?_)
  clear hK K
  refine norm_ (a' := ?_) ?_ ?_
  rotate_left
  · show Act.put _ (some 21) _ = _
    simp only [Act.put, List.setIfInBounds_toArray, List.set_cons_zero, List.set_cons_succ, i64_w, i32_w]
    rfl
  refine pure_ (i := 17) (N := some 4) (v := ?_) (a' := ?_) #[true, true, true, true, true, true, true, true, true, true, true, true, true, true, true, true, true, true] rfl rfl (any_of HT_.out (by kernel_rfl)) (fun _ _ _ h => h) (Or.inl ⟨by rfl, ?_⟩) ?_ ?_
  rotate_left
  · intro w'
    go_simp
    with_reducible rfl
  rotate_left
  · simp only [Act.put, List.setIfInBounds_toArray, List.set_cons_zero, List.set_cons_succ, i64_w, i32_w]
    rfl
  refine done_ (done_of HT_.out (by kernel_rfl)) ?_
  try go_wp2
  go_ret
  exact ⟨by first | rfl | (simp [errW_none, errW_some] <;> rfl) | (simp [*, errW_none, errW_some] <;> rfl), by repeat (first | (with_reducible first | exact HB.out | apply below_alloc | apply pw_below_drewN | apply below_drew1 | refine below_set ?_ GE108.out | refine below_set ?_ GE109.out) | exact HB.out)⟩

end Go.Proofs.Ytojefdnngkcaoaa.G
end

section
-- Written by a program of this session (wip/tools/myprint.py), over the kit's print.
namespace Go.Proofs.Ytojefdnngkcaoaa.G
open Go.RowKit Go.Proofs.YtojefdnngkcaoaaW.PrintWords Go.Proofs.YtojefdnngkcaoaaW.PrintLast Go.Proofs.YtojefdnngkcaoaaW.PrintMore
attribute [local go_sem] max2_int min2_int max_two min_two max_three min_three max_four min_four   -- for this text's walks alone
set_option linter.unusedVariables false
set_option linter.unusedSimpArgs false

/-! ### stringslite_HasPrefix: function 48 -/
def stringslite_HasPrefix.f (a0 : ByteArray) (a1 : ByteArray) : Option (Bool) := if (a0.size : Int) ≥ (a1.size : Int) then (if 0 ≤ (a1.size : Int) then (if (a1.size : Int) ≤ (a0.size : Int) then (some ((a0.extract 0 ((a1.size : Int) : Int).toNat).toList == a1.toList)) else (none)) else (none)) else (some false)
set_option maxHeartbeats 8000000 in
set_option maxRecDepth 100000 in
theorem stringslite_HasPrefix.calls (a0 : ByteArray) (a1 : ByteArray) (r : Bool) (w : World) (h : stringslite_HasPrefix.f a0 a1 = some r) :
    Calls Try.prog 48 #[.string a0, .string a1] w fun e w' => e = .returned (.bool r) ∧ Drawn0 w w' := by
  have H : (if (a0.size : Int) ≥ (a1.size : Int) then (if 0 ≤ (a1.size : Int) then (if (a1.size : Int) ≤ (a0.size : Int) then (some ((a0.extract 0 ((a1.size : Int) : Int).toNat).toList == a1.toList)) else (none)) else (none)) else (some false)) = some r := h
  clear h
  by_cases c3 : (a0.size : Int) ≥ (a1.size : Int)
  · rw [if_pos c3] at H
    have c3b0 : decide ((a1.size : Int) ≤ (a0.size : Int)) = true := decide_eq_true c3
    have c3b1 : decide (a1.size ≤ a0.size) = true := decide_eq_true (Int.ofNat_le.mp c3)
    clear c3
    by_cases c4 : 0 ≤ (a1.size : Int)
    · rw [if_pos c4] at H
      have c4b0 := eq_true c4
      have c4b1 : decide (0 ≤ (a1.size : Int)) = true := decide_eq_true c4
      clear c4
      by_cases c5 : (a1.size : Int) ≤ (a0.size : Int)
      · rw [if_pos c5] at H
        have c5b0 := eq_true c5
        have c5b1 : decide ((a1.size : Int) ≤ (a0.size : Int)) = true := decide_eq_true c5
        clear c5
        obtain rfl := Option.some.inj H
        go_enter Try.func48, Try.ntmps48
        go_wp2
        go_ret
        exact ⟨by first | rfl | (simp; done) | (simp [*]; done), by repeat (first | exact Drawn0.refl _ | apply Drawn0.step)⟩
      · rw [if_neg c5] at H
        exact absurd H (by simp)
    · rw [if_neg c4] at H
      exact absurd H (by simp)
  · rw [if_neg c3] at H
    have c3b0 : decide ((a1.size : Int) ≤ (a0.size : Int)) = false := decide_eq_false c3
    have c3b1 : decide (a1.size ≤ a0.size) = false := decide_eq_false (fun h => c3 (Int.ofNat_le.mpr h))
    clear c3
    obtain rfl := Option.some.inj H
    go_enter Try.func48, Try.ntmps48
    go_wp2
    go_ret
    exact ⟨by first | rfl | (simp; done) | (simp [*]; done), by repeat (first | exact Drawn0.refl _ | apply Drawn0.step)⟩

end Go.Proofs.Ytojefdnngkcaoaa.G
end

section
-- Written by a program of this session (wip/tools/myprint.py), over the kit's print.
namespace Go.Proofs.Ytojefdnngkcaoaa.G
open Go.RowKit Go.Proofs.YtojefdnngkcaoaaW.PrintWords Go.Proofs.YtojefdnngkcaoaaW.PrintLast Go.Proofs.YtojefdnngkcaoaaW.PrintMore
attribute [local go_sem] max2_int min2_int max_two min_two max_three min_three max_four min_four   -- for this text's walks alone
set_option linter.unusedVariables false
set_option linter.unusedSimpArgs false

/-! ### strings_HasPrefix: function 27 -/
def strings_HasPrefix.f (a0 : ByteArray) (a1 : ByteArray) : Option (Bool) := (stringslite_HasPrefix.f a0 a1).bind fun t117 => (some t117)
set_option maxHeartbeats 8000000 in
set_option maxRecDepth 100000 in
theorem strings_HasPrefix.calls (a0 : ByteArray) (a1 : ByteArray) (r : Bool) (w : World) (h : strings_HasPrefix.f a0 a1 = some r) :
    Calls Try.prog 27 #[.string a0, .string a1] w fun e w' => e = .returned (.bool r) ∧ Drawn0 w w' := by
  have H : ((stringslite_HasPrefix.f a0 a1).bind fun t117 => (some t117)) = some r := h
  clear h
  replace H := Option.bind_eq_some_iff.mp H
  obtain ⟨t117, A30, H⟩ := H
  replace H : (some t117) = some r := H
  have A3 := Aside0.mk A30
  clear A30
  obtain rfl := Option.some.inj H
  go_enter Try.func27, Try.ntmps27
  go_wp2_with (first | ((with_reducible refine gate_callee (f := 48) rfl ?_); refine goesL_ (some 7) rfl rfl Try.func48 (by kernel_rfl) rfl #[.string a0, .string a1] rfl (by (try simp only [List.map_toArray, List.map_cons, List.map_nil]); first | done | rfl | (simp only [List.length_drop, List.length_take]; rfl)) ?_; (with_reducible refine (stringslite_HasPrefix.calls a0 a1 t117 _ A3.out).mono ?_); rintro e w' ⟨rfl, ⟨nd, rfl⟩⟩; refine ⟨_, rfl, ?_⟩))
  go_ret
  exact ⟨by first | rfl | (simp; done) | (simp [*]; done), by repeat (first | exact Drawn0.refl _ | apply Drawn0.step)⟩

end Go.Proofs.Ytojefdnngkcaoaa.G
end
