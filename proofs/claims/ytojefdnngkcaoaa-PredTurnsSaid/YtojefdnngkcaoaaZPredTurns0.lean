import Derived.Test.YtojefdnngkcaoaaWWords
import Derived.Test.YtojefdnngkcaoaaWLast
import Derived.Laws.CopyOwn
import Derived.Laws.Tables
import Derived.Lib.SliceRun
import Derived.ArgAppend
import Derived.Lib.SlBytesConst
import Derived.Laws.BitsAllLaws
import Derived.Laws.DeepNot64
import Derived.Test.YtojefdnngkcaoaaProg
import Derived.Deep.CutRange
import Derived.Below
import Derived.Deep.Draws
import Derived.Deep.AppendLies
import Derived.Maps.AppendAt
import Derived.OwnWalk
import Derived.Laws.BytesArg
import Derived.Laws.MakeOwn
import Derived.Laws.OwnMore
import Derived.Deep.OwnRows
import Derived.Tactics
import Derived.Lib.ConvBytes
import Derived.Laws.Slices
import Derived.WalkKit
import Derived.KernelRfl
import Derived.RowKit3
import Derived.Deep.LoopGhost
import Derived.Deep.QuietTactic
import Derived.BigQuiet
import Derived.WideLaws
import Derived.Deep.DeepCutAuto
import Derived.Deep.CutBlock
import Derived.Deep.RegionHeld3
import Derived.Laws.Rows
import Derived.Lib.AppendStr
import Derived.Laws.IdiomCopy
import Derived.OrdersHeld
import Derived.Laws.BitsLemmas
import Derived.RowKit
import Derived.Test.YtojefdnngkcaoaaWTab
import Derived.Test.YtojefdnngkcaoaaWEqStruct
import Derived.Test.YtojefdnngkcaoaaWRepsOne
import Derived.Test.YtojefdnngkcaoaaWGuard
import Derived.Lib.Zigzag
import Derived.OpenShut
section
namespace Go.Proofs.YtojefdnngkcaoaaW.PrintMore
open Go.RowKit Go.Proofs.YtojefdnngkcaoaaW.PrintWords
/-- 'max' and 'min' of two whole numbers. -/
theorem max2_int (k k' : IntKind) (x y : Int) : Builtin.max2 (.int k x) (.int k' y) = pure (.int k (if x < y then y else x)) := by simp only [Builtin.max2, gt_iff_lt]
theorem min2_int (k k' : IntKind) (x y : Int) : Builtin.min2 (.int k x) (.int k' y) = pure (.int k (if y < x then y else x)) := by simp only [Builtin.min2]
theorem max_two (ats : Array TypeId) (ty : TypeId) (a b : Value) : Builtin.max_ ats ty #[a, b] = (Builtin.max2 a b >>= fun s => pure s) := by simp only [Builtin.max_, List.foldlM_cons, List.foldlM_nil]
theorem min_two (ats : Array TypeId) (ty : TypeId) (a b : Value) : Builtin.min_ ats ty #[a, b] = (Builtin.min2 a b >>= fun s => pure s) := by simp only [Builtin.min_, List.foldlM_cons, List.foldlM_nil]
theorem max_three (ats : Array TypeId) (ty : TypeId) (a b c : Value) : Builtin.max_ ats ty #[a, b, c] = (Builtin.max2 a b >>= fun s => Builtin.max2 s c >>= fun s => pure s) := by simp only [Builtin.max_, List.foldlM_cons, List.foldlM_nil]
theorem min_three (ats : Array TypeId) (ty : TypeId) (a b c : Value) : Builtin.min_ ats ty #[a, b, c] = (Builtin.min2 a b >>= fun s => Builtin.min2 s c >>= fun s => pure s) := by simp only [Builtin.min_, List.foldlM_cons, List.foldlM_nil]
theorem max_four (ats : Array TypeId) (ty : TypeId) (a b c d : Value) : Builtin.max_ ats ty #[a, b, c, d] = (Builtin.max2 a b >>= fun s => Builtin.max2 s c >>= fun s => Builtin.max2 s d >>= fun s => pure s) := by simp only [Builtin.max_, List.foldlM_cons, List.foldlM_nil]
theorem min_four (ats : Array TypeId) (ty : TypeId) (a b c d : Value) : Builtin.min_ ats ty #[a, b, c, d] = (Builtin.min2 a b >>= fun s => Builtin.min2 s c >>= fun s => Builtin.min2 s d >>= fun s => pure s) := by simp only [Builtin.min_, List.foldlM_cons, List.foldlM_nil]
end Go.Proofs.YtojefdnngkcaoaaW.PrintMore
namespace Go.Proofs.YtojefdnngkcaoaaW.PrintWords
open Go.RowKit
section
variable {P : Program} {ops : Array Oper} {rest : List Oper} {o : Oper} {a : Act} {Q : Exit → Act → World → Prop} {W : World}
/-- The operation is a call of this function (a cheap look ahead of a dear step). -/
theorem gate_callee {f : FuncId} {xs : Array Operand} {ts : Array TypeId} (_ho : o.op = .call { callee := .value (.func f), args := xs, argTypes := ts }) (h : wpList P ops Q (o :: rest) a W) : wpList P ops Q (o :: rest) a W := h
/-- The operation is a builtin over these places. -/
theorem gate_builtin {b : Builtin} {xs : Array Operand} {ts : Array TypeId} (_ho : o.op = .call { callee := .builtin b, args := xs, argTypes := ts }) (h : wpList P ops Q (o :: rest) a W) : wpList P ops Q (o :: rest) a W := h
end
end Go.Proofs.YtojefdnngkcaoaaW.PrintWords
end

section
set_option linter.unusedVariables false
set_option linter.unusedSimpArgs false
namespace Go.Proofs.Ytojefdnngkcaoaa
open Go.RowKit Go.Proofs.YtojefdnngkcaoaaW.PrintWords Go.Proofs.YtojefdnngkcaoaaW.PrintLast Go.Proofs.YtojefdnngkcaoaaW.PrintMore

theorem kd_own {W : World} {base e : Nat} {k : IntKind} {ok : Nat → Prop} {v : Value} {xs : List Int} (h : (Kd.int k).R e W base ok v xs) : W.ownsRow base e 1 v xs.length (nums k xs) := Kd.own_of_R h
theorem kd_R {W : World} {base e : Nat} {k : IntKind} {v : Value} {xs : List Int} (h : W.ownsRow base e 1 v xs.length (nums k xs)) : (Kd.int k).R e W base (fun _ => True) v xs := Kd.R_of_own h (fun _ _ => trivial)

section
variable {P : Program} {ops : Array Oper} {rest : List Oper} {o : Oper} {a : Act} {Q : Exit → Act → World → Prop}
/-- append(v, y), one whole number, to a row of the call's own -/
theorem app_num {w0 W : World} (base : Nat) (hgd : o.guard = none) (s x : Operand) (t e : TypeId) (k : IntKind) (bytes : Nat)
    (ho : o.op = .call { callee := .builtin .append, args := #[s, x], argTypes := #[t, t] })
    (ht : P.underlying t = some (.slice e)) (hinfo : (P.info? e).map (fun i => (i.zero, i.size, i.bytes)) = some (some (.int k 0), 1, bytes)) (hb0 : 0 < bytes)
    (v : Value) (xs : List Int) (y : Int) (hs : a.eval s = v) (hx : a.eval x = .slice (some ⟨W.heap.size, 0, none⟩) 1 1)
    (HO : (Kd.int k).R e W base (fun _ => True) v xs) (HB : Below base w0 W) (hbase : base ≤ W.heap.size) (hl : (xs.length + 1) * bytes ≤ 140737488355328)
    (h : ∀ v1 w1, Aside0 ((Kd.int k).R e w1 base (fun _ => True) v1 (xs ++ [y])) → Below base w0 w1 → wpList P ops Q rest (a.put o.dst v1) w1) :
    wpList P ops Q (o :: rest) a (W.alloc (.cells #[.int k y] e)) :=
  print_append_num base hgd s x t e k bytes ho ht hinfo hb0 v xs y hs hx (kd_own HO) HB hbase hl fun v1 w1 ho hB _ _ => h v1 w1 ⟨kd_R ho⟩ hB

/-- copy(dst, src) where dst is as long as src and was just made: what dst then is -/
theorem copy_made {w0 W : World} (base : Nat) (hgd : o.guard = none) (d s : Operand) (dT sT e : TypeId) (k : IntKind)
    (ho : o.op = .call { callee := .builtin .copy, args := #[d, s], argTypes := #[dT, sT] })
    (hu : P.underlying dT = some (.slice e)) (hsz : (P.info? e).map (·.size) = some 1)
    (g n dc C : Nat) (A : Option Addr) (c : Nat) (xs : List Int) (hn : xs.length = n)
    (hd : a.eval d = .slice (some ⟨g, 0, none⟩) n dc) (hs : a.eval s = .slice A n c)
    (hg : W.heap[g]? = some (.cells (madeCells #[.int k 0] C) e (0, 0))) (hC : dc = C) (hnC : n ≤ C) (hC2 : C ≤ maxLen)
    (hr : (Kd.int k).C W A n xs) (HB : Below base w0 W) (hbg : base ≤ g)
    (h : ∀ w1, Aside0 ((Kd.int k).R e w1 base (fun _ => True) (.slice (some ⟨g, 0, none⟩) n dc) xs) → Below base w0 w1 → wpList P ops Q rest (a.put o.dst (goInt n)) w1) :
    wpList P ops Q (o :: rest) a W := by
  subst hC
  have hreads := Kd.reads_of_C (d := (0 : Int)) hr
  have hlen : (nums k xs).length = n := by rw [nums_length]; exact hn
  have hcl : (madeCells #[.int k 0] dc).toList.length = dc := by simp [madeCells]
  refine wpList_copy_splice hgd d s dT sT ho e hu hsz (some ⟨g, 0, none⟩) A n dc n c hd hs g 0 (madeCells #[.int k 0] dc).toList e (by simpa using hg) (nums k xs) (by rw [hlen]; simp) ?_ (by rw [hlen, hcl]; omega) ?_ base w0 HB hbg ?_
  · intro h0
    refine ⟨rfl, ?_⟩
    obtain ⟨ad, hA, hc⟩ := hreads.2.2 (by omega)
    refine ⟨ad, hA, fun j v hj => ?_⟩
    simp only [nums, List.getElem?_map, Option.map_eq_some_iff] at hj
    obtain ⟨x, hx, rfl⟩ := hj
    have hjn : j < n := by have := (List.getElem?_eq_some_iff.1 hx).1; omega
    have := hc j hjn
    rw [List.getD_eq_getElem?_getD, hx] at this
    simpa using this
  · intro v hv
    simp only [nums, List.mem_map] at hv
    obtain ⟨x, _, rfl⟩ := hv
    rfl
  · intro w1 H1 hB1
    rw [hlen]
    refine h w1 ⟨kd_R ⟨by rw [hlen, hn]; simp, .inr ⟨g, dc, _, by rw [hn], hbg, H1.out, by omega, hC2, ?_, ?_⟩⟩⟩ hB1
    · have := length_splice (madeCells #[.int k 0] dc).toList 0 (nums k xs) (by rw [hlen, hcl]; omega)
      simp only [List.size_toArray]
      rw [this, hcl, Nat.mul_one]
    · simp only [splice, List.take_zero, List.nil_append, Nat.zero_add]
      rw [Nat.mul_one, List.take_append_of_le_length (by rw [hlen, hn]; exact Nat.le_refl _), List.take_of_length_le (by rw [hlen, hn]; exact Nat.le_refl _)]
end

/-- make([]T, n, c) of whole numbers -/
theorem make_cap {P : Program} (t e : TypeId) (k : IntKind) (bytes : Nat) (ht : P.underlying t = some (.slice e)) (hinfo : (P.info? e).map (fun i => (i.zero, i.size, i.bytes)) = some (some (.int k 0), 1, bytes))
    (n c : Int) (hn : 0 ≤ n) (hnc : n ≤ c) (hb : (bytes : Int) * c ≤ 281474976710656) (hc : c ≤ 9223372036854775807) (W : World) :
    (Instr.makeSlice t (.int .i64 n) (.int .i64 c)).run P W = .ok (.slice (some ⟨W.heap.size, 0, none⟩) n.toNat c.toNat) (W.alloc (.cells (madeCells #[.int k 0] c.toNat) e)) := by
  obtain ⟨i0, hi, hz⟩ := Option.map_eq_some_iff.1 hinfo
  simp only [Prod.mk.injEq] at hz
  obtain ⟨hz0, hz1, hz2⟩ := hz
  have h := run_make (P := P) (w := W) t e i0 (.int k 0) ht hi hz0 .i64 .i64 n c hn hnc (by rw [hz2]; exact hb) hc
  rw [hz1, Nat.mul_one] at h
  simpa [Value.cells] using h

theorem pow_min8 (n : Nat) : (2 : Int) ^ min n 8 % 256 = 2 ^ n % 256 := by
  by_cases h : n ≤ 8
  · rw [Nat.min_eq_left h]
  · rw [Nat.min_eq_right (by omega)]
    obtain ⟨m, rfl⟩ : ∃ m, n = 8 + m := ⟨n - 8, by omega⟩
    rw [Int.pow_add, show (2 : Int) ^ 8 = 256 from rfl, Int.mul_emod_right]; rfl
/-- a literal's cells, just laid -/
theorem lit_C (W : World) (e : TypeId) (k : IntKind) (xs : List Int) (hl : xs.length ≤ 9223372036854775807) (fr : Nat × Nat := (0, 0)) : (Kd.int k).C (W.alloc (.cells (nums k xs).toArray e fr)) (some ⟨W.heap.size, 0, none⟩) xs.length xs := by
  refine Kd.C_of_reads (d := (0 : Int)) ⟨rfl, hl, fun _ => ⟨_, rfl, fun j hj => ?_⟩⟩
  have hadd : (⟨W.heap.size, 0, none⟩ : Addr).add j = ⟨W.heap.size, j, none⟩ := add_plain _ _
  rw [hadd, cell_of_row _ _ _ _ _ _ (heap_alloc_new W _)]
  simp [nums, hj, List.getD_eq_getElem?_getD]
theorem nil_C (W : World) (k : IntKind) : (Kd.int k).C W none 0 ([] : List Int) := Kd.C_nil _ _
/-- what is owned reads -/
theorem own_C {W : World} {base e : Nat} {k : IntKind} {ok : Nat → Prop} {v : Value} {xs : List Int} (h : (Kd.int k).R e W base ok v xs) : ∃ A c, v = .slice A xs.length c ∧ xs.length ≤ c ∧ (Kd.int k).C W A xs.length xs := Kd.R_reads h

/-- a slice that is the call's own, or one without spare room that only reads: what is appended lies in memory of the call's own -/
def Outs (k : IntKind) (e : Nat) (W : World) (base : Nat) (v : Value) (xs : List Int) : Prop :=
  (Kd.int k).R e W base (fun _ => True) v xs ∨ (∃ A, v = .slice A xs.length xs.length ∧ (Kd.int k).C W A xs.length xs ∧ (A = none → xs.length = 0))
section
variable {P : Program} {ops : Array Oper} {rest : List Oper} {o : Oper} {a : Act} {Q : Exit → Act → World → Prop}
theorem app_outs {w0 W : World} (base : Nat) (hgd : o.guard = none) (s x : Operand) (t e : TypeId) (k : IntKind) (bytes : Nat)
    (ho : o.op = .call { callee := .builtin .append, args := #[s, x], argTypes := #[t, t] })
    (ht : P.underlying t = some (.slice e)) (hinfo : (P.info? e).map (fun i => (i.zero, i.size, i.bytes)) = some (some (.int k 0), 1, bytes)) (hb0 : 0 < bytes)
    (v : Value) (xs : List Int) (y : Int) (hs : a.eval s = v) (hx : a.eval x = .slice (some ⟨W.heap.size, 0, none⟩) 1 1)
    (HO : Outs k e W base v xs) (HB : Below base w0 W) (hbase : base ≤ W.heap.size) (hl : (xs.length + 1) * bytes ≤ 140737488355328)
    (h : ∀ v1 w1, Aside0 ((Kd.int k).R e w1 base (fun _ => True) v1 (xs ++ [y])) → Below base w0 w1 → wpList P ops Q rest (a.put o.dst v1) w1) :
    wpList P ops Q (o :: rest) a (W.alloc (.cells #[.int k y] e)) := by
  rcases HO with HO | ⟨A, rfl, hC, hn⟩
  · exact app_num base hgd s x t e k bytes ho ht hinfo hb0 v xs y hs hx HO HB hbase hl h
  · obtain ⟨i0, hi, hzz⟩ := Option.map_eq_some_iff.1 hinfo
    simp only [Prod.mk.injEq] at hzz
    obtain ⟨hz0, hz1, hz2⟩ := hzz
    have hlen : xs.length + 1 ≤ 140737488355328 := Nat.le_trans (Nat.le_mul_of_pos_right _ hb0) hl
    have hC2 := Kd.C_alloc hC (.cells #[.int k y] e)
    refine wpList_append_grows (W.alloc (.cells #[.int k y] e)) hgd s x t ho e i0 (.int k 0) 1 bytes ht hi hz0 hz1 hz2 rfl (by decide) A xs.length xs.length (nums k xs) hs (fun hA => ⟨hn hA, hn hA⟩) (by rw [nums_length, Nat.mul_one]) ?_ ⟨W.heap.size, 0, none⟩ 1 1 [.int k y] hx rfl
      (World.news_of_block (cs := #[.int k y]) (t := e) (fr := (0, 0)) (heap_alloc_new W _)) (by simp [Value.oneCell']) (by omega) (by simp only [maxLen]; omega) hl ?_
    · rintro b rfl j u hj
      simp only [nums, List.getElem?_map, Option.map_eq_some_iff] at hj
      obtain ⟨z, hz, rfl⟩ := hj
      obtain ⟨_, _, hr⟩ := Kd.reads_of_C (d := (0 : Int)) hC2
      have hjl := (List.getElem?_eq_some_iff.1 hz).1
      obtain ⟨ad, e1, hc⟩ := hr (by omega)
      cases e1
      have := hc j hjl
      rw [List.getD_eq_getElem?_getD, hz] at this
      simpa using this
    · intro v1 w1 ho1 hg1
      refine h v1 w1 ⟨kd_R ?_⟩ ((HB.alloc hbase _).grown hg1 (by simp; omega) (fun k hk => by cases hk))
      have h2 : w1.ownsRow (W.alloc (.cells #[.int k y] e)).heap.size e 1 v1 (xs ++ [y]).length (nums k (xs ++ [y])) := by
        rw [nums_append, List.length_append]; exact ho1
      exact own_weaken h2 (by simp; omega)
end
theorem outs_below {k : IntKind} {e : Nat} {W W1 : World} {base : Nat} {v : Value} {xs : List Int} (h : Outs k e W base v xs) (hb : Below W.heap.size W W1) : Outs k e W1 base v xs := by
  rcases h with h | ⟨A, rfl, hC, hn⟩
  · exact .inl (Kd.R_below h hb)
  · exact .inr ⟨A, rfl, Kd.C_below hC hb, hn⟩
end Go.Proofs.Ytojefdnngkcaoaa
end

section
set_option linter.unusedVariables false
set_option linter.unusedSimpArgs false
namespace Go.Proofs.Ytojefdnngkcaoaa
open Go.RowKit Go.Proofs.YtojefdnngkcaoaaW.PrintWords Go.Proofs.YtojefdnngkcaoaaW.PrintLast Go.Proofs.YtojefdnngkcaoaaW.PrintMore

/-! ### bytes as numbers -/
def u8s (l : List Int) : Prop := ∀ x ∈ l, 0 ≤ x ∧ x < 256
instance (l : List Int) : Decidable (u8s l) := inferInstanceAs (Decidable (∀ x ∈ l, 0 ≤ x ∧ x < 256))
theorem rd_u8 {l : List Int} (h : u8s l) (k : Nat) (hk : k < l.length) : 0 ≤ rd l k ∧ rd l k < 256 := by
  have := h (l[k]) (List.getElem_mem hk)
  simpa [rd, List.getD_eq_getElem?_getD, hk] using this
theorem u8s_drop {l : List Int} (h : u8s l) (n : Nat) : u8s (l.drop n) := fun x hx => h x (List.mem_of_mem_drop hx)
theorem u8s_take {l : List Int} (h : u8s l) (n : Nat) : u8s (l.take n) := fun x hx => h x (List.mem_of_mem_take hx)
theorem u8s_nil : u8s [] := fun x hx => by cases hx
theorem u8s_append {a b : List Int} : u8s (a ++ b) ↔ u8s a ∧ u8s b := by
  unfold u8s
  constructor
  · intro h; exact ⟨fun x hx => h x (List.mem_append_left _ hx), fun x hx => h x (List.mem_append_right _ hx)⟩
  · rintro ⟨h1, h2⟩ x hx
    rcases List.mem_append.1 hx with h | h
    · exact h1 x h
    · exact h2 x h

/-! ### a scan: what is left, and the error; where the bytes lie (S) -/
structure Sc where
  l : List Int
  e : Int
def Sc.fail (s : Sc) (e : Int) : Sc := if e = 0 then s else ⟨[], if s.e = 0 then e else s.e⟩
def numGo (s : Sc) : Nat → Nat → Int → Int × Sc
  | 0, _, _ => (0, s)
  | f + 1, k, n =>
    if k = s.l.length then (0, s.fail 2)
    else if (k = 9 ∧ rd s.l k ≠ 1) ∨ (0 < k ∧ rd s.l k = 0) then (0, s.fail 3)
    else if rd s.l k < 128 then (n + rd s.l k % 128 * 128 ^ k, ⟨s.l.drop (k + 1), s.e⟩)
    else numGo s f (k + 1) (n + rd s.l k % 128 * 128 ^ k)
def Sc.num (s : Sc) : Int × Sc := if s.e = 0 then numGo s 10 0 0 else (0, s)
def Sc.upto (s : Sc) (most : Int) : Int × Sc :=
  if s.num.2.e = 0 ∧ (most < 0 ∨ most < s.num.1) then (0, s.num.2.fail 4) else (wrap64 s.num.1, s.num.2)
def zag (n : Int) : Int := if n % 2 = 1 then -1 - n / 2 else n / 2
def Sc.int (s : Sc) : Int × Sc := (zag s.num.1, s.num.2)
def Sc.text (s : Sc) (most : Int) : List Int × Sc :=
  if (s.upto most).2.e = 0 then
    if (s.upto most).1 > (s.upto most).2.l.length then ([], (s.upto most).2.fail 2)
    else ((s.upto most).2.l.take (s.upto most).1.toNat, ⟨(s.upto most).2.l.drop (s.upto most).1.toNat, 0⟩)
  else ([], (s.upto most).2)
def Sc.endE (s : Sc) : Int := if s.e = 0 ∧ 0 < s.l.length then 5 else s.e

/-- the bytes that a slice of a scan tells -/
def HeldB (w : World) (S : Nat → Prop) (A : Option Addr) (l : List Int) : Prop :=
  0 < l.length → ∃ ad, A = some ad ∧ S ad.block ∧ ∀ j, j < l.length → w.cell? (ad.add j) = some (.int .u8 (rd l j))
structure Scn (T : Nat) (S : Nat → Prop) (w : World) (g : Nat) (s : Sc) : Prop where
  u8 : u8s s.l
  err : s.e ≠ 0 → s.l = []
  ne : ¬ S g
  short : s.l.length ≤ 140737488355328
  wide : -9223372036854775808 ≤ s.e ∧ s.e < 9223372036854775808
  mem : ∃ A c, w.heap[g]? = some (.cells #[.slice A s.l.length c, .int .i64 s.e] T (0, 0)) ∧ s.l.length ≤ c ∧ c ≤ 9223372036854775807 ∧ HeldB w S A s.l

theorem lt_of_heap {w : World} {g : Nat} {o : Obj} (h : w.heap[g]? = some o) : g < w.heap.size := (Array.getElem?_eq_some_iff.1 h).1
theorem HeldB.keep {w w' : World} {S : Nat → Prop} {A : Option Addr} {l : List Int} (h : HeldB w S A l) (hk : ∀ k, k < w.heap.size → S k → w'.heap[k]? = w.heap[k]?) : HeldB w' S A l := by
  intro hl
  obtain ⟨ad, rfl, hS, hc⟩ := h hl
  refine ⟨ad, rfl, hS, fun j hj => ?_⟩
  have h1 := hc j hj
  have hlt := World.block_lt_of_cell? w _ h1
  have hb : (ad.add j).block = ad.block := add_block _ _
  rw [World.cell?_of_block (w := w) (by rw [hb]; exact hk _ (by rwa [hb] at hlt) hS)]
  exact h1
theorem Scn.keep {T : Nat} {S : Nat → Prop} {w w' : World} {g : Nat} {s : Sc} (h : Scn T S w g s) (hk : ∀ k, k < w.heap.size → (k = g ∨ S k) → w'.heap[k]? = w.heap[k]?) : Scn T S w' g s := by
  obtain ⟨h1, h2, h3, h4, h5, A, c, h6, h7, h8, h9⟩ := h
  exact ⟨h1, h2, h3, h4, h5, A, c, by rw [hk g (lt_of_heap h6) (.inl rfl)]; exact h6, h7, h8, h9.keep fun k hl hs => hk k hl (.inr hs)⟩
theorem Scn.below {T : Nat} {S : Nat → Prop} {w w' : World} {g : Nat} {s : Sc} (h : Scn T S w g s) (hb : Below w.heap.size w w') : Scn T S w' g s := h.keep fun k hk _ => hb.block k hk
theorem Scn.grown {T : Nat} {S : Nat → Prop} {w w' : World} {g r : Nat} {s : Sc} (h : Scn T S w g s) (hb : w.grownBy w' (some r)) (h1 : g ≠ r) (h2 : ¬ S r) : Scn T S w' g s :=
  h.keep fun k hk hs => hb.block k hk (fun e => by cases e; rcases hs with h | h; exact h1 h.symm; exact h2 h)
theorem Scn.lt {T : Nat} {S : Nat → Prop} {w : World} {g : Nat} {s : Sc} (h : Scn T S w g s) : g < w.heap.size := by
  obtain ⟨_, _, _, _, _, A, c, h6, _⟩ := h
  exact lt_of_heap h6
theorem Scn.mono {T : Nat} {S S' : Nat → Prop} {w : World} {g : Nat} {s : Sc} (h : Scn T S w g s) (hS : ∀ k, S k → S' k) (hg : ¬ S' g) : Scn T S' w g s := by
  obtain ⟨h1, h2, h3, h4, h5, A, c, h6, h7, h8, h9⟩ := h
  exact ⟨h1, h2, hg, h4, h5, A, c, h6, h7, h8, fun hl => by obtain ⟨ad, a, b, d⟩ := h9 hl; exact ⟨ad, a, hS _ b, d⟩⟩

theorem grown_set (w : World) (g j : Nat) (v : Value) : w.grownBy (w.setCell ⟨g, j, none⟩ v) (some g) :=
  ⟨rfl, rfl, rfl, by simp [World.setCell], fun k hk hne => Below.heap_setCell _ _ _ _ (fun e => hne (by rw [e]))⟩
theorem grown_refl (w : World) (r : Option Nat) : w.grownBy w r := ⟨rfl, rfl, rfl, Nat.le_refl _, fun _ _ _ => rfl⟩
theorem grown_trans {a b c : World} {r : Option Nat} (h : a.grownBy b r) (k : b.grownBy c r) : a.grownBy c r :=
  ⟨k.os.trans h.os, k.tape.trans h.tape, k.output.trans h.output, Nat.le_trans h.size k.size, fun i hi hn => (k.block i (Nat.lt_of_lt_of_le hi h.size) hn).trans (h.block i hi hn)⟩
theorem below_of_grown {w0 a b : World} {g : Nat} (h : Below w0.heap.size w0 a) (k : a.grownBy b (some g)) (hg : w0.heap.size ≤ g) : Below w0.heap.size w0 b :=
  h.grown k h.size (fun k hk => by cases hk; exact hg)

/-- the cells of a scan, as the walk asks them -/
theorem Scn.cells {T : Nat} {S : Nat → Prop} {w : World} {g : Nat} {s : Sc} (h : Scn T S w g s) : ∃ A c, w.heap[g]? = some (.cells #[.slice A s.l.length c, .int .i64 s.e] T (0, 0)) ∧ s.l.length ≤ c ∧ c ≤ 9223372036854775807 ∧ HeldB w S A s.l ∧
    w.cell? ⟨g, 0, none⟩ = some (.slice A s.l.length c) ∧ w.cell? ⟨g, 1, none⟩ = some (.int .i64 s.e) ∧ w.frozen? ⟨g, 0, none⟩ = false ∧ w.frozen? ⟨g, 1, none⟩ = false := by
  obtain ⟨A, c, h6, h7, h8, h9⟩ := h.mem
  exact ⟨A, c, h6, h7, h8, h9, by rw [cell_of_row _ _ _ _ _ _ h6]; rfl, by rw [cell_of_row _ _ _ _ _ _ h6]; rfl, frozen_of_row _ _ _ _ _ h6, frozen_of_row _ _ _ _ _ h6⟩
theorem heldB_set {w : World} {S : Nat → Prop} {A : Option Addr} {l : List Int} {g : Nat} (h : HeldB w S A l) (hg : ¬ S g) (j : Nat) (v : Value) : HeldB (w.setCell ⟨g, j, none⟩ v) S A l :=
  h.keep fun k _ hS => Below.heap_setCell _ _ _ _ (fun e => hg (by rw [← show k = g from e]; exact hS))
/-- the error is stored -/
theorem Scn.set_err {T : Nat} {S : Nat → Prop} {w : World} {g : Nat} {s : Sc} (h : Scn T S w g s) (e : Int) (hn : s.l = []) (he : -9223372036854775808 ≤ e ∧ e < 9223372036854775808) : Scn T S (w.setCell ⟨g, 1, none⟩ (.int .i64 e)) g ⟨s.l, e⟩ := by
  obtain ⟨h1, h2, h3, h4, h5, A, c, h6, h7, h8, h9⟩ := h
  exact ⟨h1, fun _ => hn, h3, h4, he, A, c, by rw [heap_setCell_same _ _ _ _ _ _ h6]; rfl, h7, h8, heldB_set h9 h3 1 _⟩
/-- the scan failed -/
theorem Scn.failed {T : Nat} {S : Nat → Prop} {w : World} {g : Nat} {s : Sc} (h : Scn T S w g s) (e : Int) (he : -9223372036854775808 ≤ e ∧ e < 9223372036854775808) :
    Scn T S ((w.setCell ⟨g, 1, none⟩ (.int .i64 e)).setCell ⟨g, 0, none⟩ (.slice none 0 0)) g ⟨[], e⟩ := by
  obtain ⟨h1, h2, h3, h4, h5, A, c, h6, h7, h8, h9⟩ := h
  refine ⟨u8s_nil, fun _ => rfl, h3, by simp, he, none, 0, ?_, by simp, by simp, fun hl => absurd hl (by simp)⟩
  rw [heap_setCell_same _ _ _ _ _ _ (heap_setCell_same _ _ _ _ _ _ h6)]; rfl
theorem Scn.emptied {T : Nat} {S : Nat → Prop} {w : World} {g : Nat} {s : Sc} (h : Scn T S w g s) : Scn T S (w.setCell ⟨g, 0, none⟩ (.slice none 0 0)) g ⟨[], s.e⟩ := by
  obtain ⟨h1, h2, h3, h4, h5, A, c, h6, h7, h8, h9⟩ := h
  refine ⟨u8s_nil, fun _ => rfl, h3, by simp, h5, none, 0, ?_, by simp, by simp, fun hl => absurd hl (by simp)⟩
  rw [heap_setCell_same _ _ _ _ _ _ h6]; rfl
/-- the scan goes on: the slice is cut at its begin -/
theorem heldB_drop {w : World} {S : Nat → Prop} {A : Option Addr} {l : List Int} (h : HeldB w S A l) (m c : Nat) (hm : m ≤ l.length) (hc : l.length ≤ c) : HeldB w S (if c = m then A else A.map (·.add m)) (l.drop m) := by
  intro hl
  rw [List.length_drop] at hl
  obtain ⟨ad, rfl, hS, hcell⟩ := h (by omega)
  rw [if_neg (by omega)]
  refine ⟨ad.add m, rfl, by rw [add_block]; exact hS, fun j hj => ?_⟩
  rw [List.length_drop] at hj
  have h1 := hcell (m + j) (by omega)
  rw [add_add, h1]
  congr 2
  simp only [rd, Int.toNat_natCast, List.getD_eq_getElem?_getD, List.getElem?_drop]
theorem Scn.dropped {T : Nat} {S : Nat → Prop} {w : World} {g : Nat} {s : Sc} (h : Scn T S w g s) (m : Nat) (hm : m ≤ s.l.length) {A : Option Addr} {c : Nat} (hb : w.heap[g]? = some (.cells #[.slice A s.l.length c, .int .i64 s.e] T (0, 0))) (hc : s.l.length ≤ c) (hc2 : c ≤ 9223372036854775807) (hh : HeldB w S A s.l) :
    Scn T S (w.setCell ⟨g, 0, none⟩ (.slice (if c = m then A else A.map (·.add m)) (s.l.length - m) (c - m))) g ⟨s.l.drop m, s.e⟩ := by
  obtain ⟨h1, h2, h3, h4, h5, _⟩ := h
  refine ⟨u8s_drop h1 m, fun h => by rw [h2 h]; simp, h3, by simp; omega, h5, _, c - m, ?_, by simp; omega, by omega, heldB_set (heldB_drop hh m c hm hc) h3 0 _⟩
  rw [heap_setCell_same _ _ _ _ _ _ hb, List.length_drop]; rfl
theorem HeldB.C {w : World} {S : Nat → Prop} {A : Option Addr} {l : List Int} (h : HeldB w S A l) (hl : l.length ≤ 9223372036854775807) : (Kd.int .u8).C w A l.length l :=
  Kd.C_of_reads (d := (0 : Int)) ⟨rfl, hl, fun h0 => by obtain ⟨ad, rfl, _, hc⟩ := h h0; exact ⟨ad, rfl, fun j hj => by have := hc j hj; simpa [rd] using this⟩⟩
theorem HeldB.of_C {w : World} {S : Nat → Prop} {A : Option Addr} {l : List Int} (h : (Kd.int .u8).C w A l.length l) (hS : ∀ ad, A = some ad → 0 < l.length → S ad.block) : HeldB w S A l := by
  intro h0
  obtain ⟨_, _, hr⟩ := Kd.reads_of_C (d := (0 : Int)) h
  obtain ⟨ad, rfl, hc⟩ := hr h0
  exact ⟨ad, rfl, hS ad rfl h0, fun j hj => by have := hc j hj; simpa [rd] using this⟩

theorem add_pos (ad : Addr) (m : Nat) (hm : 0 < m) : ad.add m = ⟨ad.block, ad.off + m, none⟩ := by unfold Addr.add; rw [if_neg (by omega)]
theorem Scn.dropped_a {T : Nat} {S : Nat → Prop} {w : World} {g : Nat} {s : Sc} (h : Scn T S w g s) (m : Nat) (hm : m ≤ s.l.length) {ad : Addr} {c : Nat} (hb : w.heap[g]? = some (.cells #[.slice (some ad) s.l.length c, .int .i64 s.e] T (0, 0))) (hc : s.l.length ≤ c) (hc2 : c ≤ 9223372036854775807) (hh : HeldB w S (some ad) s.l) (hne : c ≠ m) :
    Scn T S (w.setCell ⟨g, 0, none⟩ (.slice (some (ad.add m)) (s.l.length - m) (c - m))) g ⟨s.l.drop m, s.e⟩ := by
  have := h.dropped m hm hb hc hc2 hh
  rwa [if_neg hne] at this
theorem Scn.dropped_b {T : Nat} {S : Nat → Prop} {w : World} {g : Nat} {s : Sc} (h : Scn T S w g s) (m : Nat) (hm : m ≤ s.l.length) {A : Option Addr} {c : Nat} (hb : w.heap[g]? = some (.cells #[.slice A s.l.length c, .int .i64 s.e] T (0, 0))) (hc : s.l.length ≤ c) (hc2 : c ≤ 9223372036854775807) (hh : HeldB w S A s.l) (hne : c = m) :
    Scn T S (w.setCell ⟨g, 0, none⟩ (.slice A (s.l.length - m) 0)) g ⟨s.l.drop m, s.e⟩ := by
  have := h.dropped m hm hb hc hc2 hh
  rwa [if_pos hne, show c - m = 0 by omega] at this

/-! ### the numbers -/
theorem pow128 (k : Nat) : (2 : Nat) ^ (7 * k) = 128 ^ k := by rw [Nat.pow_mul]
theorem pow_le9 (k : Nat) (hk : k ≤ 8) : (128 : Nat) ^ k ≤ 72057594037927936 := by
  have := Nat.pow_le_pow_right (n := 128) (by omega) hk
  simpa using this
theorem num_val (k : Nat) (nn cc : Int) (hk : k ≤ 9) (h0 : 0 ≤ nn) (h1 : nn < 128 ^ k) (hc0 : 0 ≤ cc) (hc1 : cc < 256) (h9 : k = 9 → cc = 1) :
    bits .or .u64 nn (IntKind.u64.wrap (IntKind.u64.wrap (bits .andNot .u8 cc 128) * 2 ^ (7 * k))) = nn + cc % 128 * 128 ^ k ∧ 0 ≤ nn + cc % 128 * 128 ^ k ∧ nn + cc % 128 * 128 ^ k < 128 ^ (k + 1) ∧ nn + cc % 128 * 128 ^ k < 18446744073709551616 := by
  obtain ⟨n, rfl⟩ := Int.eq_ofNat_of_zero_le h0
  obtain ⟨c, rfl⟩ := Int.eq_ofNat_of_zero_le hc0
  have e1 : ((128 : Int) ^ k) = ((128 ^ k : Nat) : Int) := by simp
  rw [e1] at h1 ⊢
  have e2 : ((2 : Int) ^ (7 * k)) = ((128 ^ k : Nat) : Int) := by rw [← pow128]; simp
  have e3 : ((128 : Int) ^ (k + 1)) = ((128 ^ k * 128 : Nat) : Int) := by rw [← Nat.pow_succ]; simp
  rw [e2, e3, show (128 : Int) = ((128 : Nat) : Int) from rfl, u8_andNot_nat c 128 (by omega) (by decide), show 255 - 128 = 2 ^ 7 - 1 from rfl, Nat.and_two_pow_sub_one_eq_mod, show (2 : Nat) ^ 7 = 128 from rfl]
  have hn : n < 128 ^ k := by omega
  have hm : c % 128 < 128 := Nat.mod_lt _ (by omega)
  have hbound : n + c % 128 * 128 ^ k < 18446744073709551616 := by
    by_cases k9 : k = 9
    · subst k9
      have := h9 rfl
      have : c = 1 := by omega
      subst this
      simp at hn ⊢
      omega
    · have hp := pow_le9 k (by omega)
      have : c % 128 * 128 ^ k ≤ 127 * 128 ^ k := Nat.mul_le_mul_right _ (by omega)
      omega
  have hlt : n + c % 128 * 128 ^ k < 128 ^ k * 128 := by
    have : c % 128 * 128 ^ k ≤ 127 * 128 ^ k := Nat.mul_le_mul_right _ (by omega)
    omega
  have e4 : ((c % 128 : Nat) : Int) * ((128 ^ k : Nat) : Int) = ((c % 128 * 128 ^ k : Nat) : Int) := by simp
  have e5 : ((c : Int) % ((128 : Nat) : Int)) * ((128 ^ k : Nat) : Int) = ((c % 128 * 128 ^ k : Nat) : Int) := by rw [← e4]; simp
  rw [show IntKind.u64.wrap ((c % 128 : Nat) : Int) = ((c % 128 : Nat) : Int) by rw [IntKind.wrap_u64]; omega, e4, e5]
  generalize hq : c % 128 * 128 ^ k = q at hbound hlt
  have hw : IntKind.u64.wrap ((q : Nat) : Int) = (q : Int) := by rw [IntKind.wrap_u64]; omega
  rw [hw, u64_or_nat n q (by omega) (by omega)]
  have hor : n ||| q = n + q := by
    rw [← hq, ← pow128] at *
    rw [Nat.or_comm, Nat.mul_comm, ← Nat.two_pow_add_eq_or_of_lt hn, Nat.add_comm]
  rw [hor]
  refine ⟨by omega, by omega, ?_, by omega⟩
  have : ((128 ^ k * 128 : Nat) : Int) = ((128 ^ k * 128 : Nat) : Int) := rfl
  omega
theorem Sc.num_lt (s : Sc) (hu : u8s s.l) : 0 ≤ s.num.1 ∧ s.num.1 < 18446744073709551616 := by
  have go : ∀ (f k : Nat) (nn : Int), f + k = 10 → 0 ≤ nn → nn < 128 ^ k → 0 ≤ (numGo s f k nn).1 ∧ (numGo s f k nn).1 < 18446744073709551616 := by
    intro f
    induction f with
    | zero => intro k nn _ _ _; simp [numGo]
    | succ f ih =>
      intro k nn hk h0 h1
      rw [numGo]
      split
      · simp
      · split
        · simp
        · rename_i hne hbad
          by_cases hkl : k < s.l.length
          · have hc := rd_u8 hu k hkl
            by_cases h9 : k = 9 → rd s.l k = 1
            · have hv := num_val k nn (rd s.l k) (by omega) h0 h1 hc.1 hc.2 h9
              split
              · exact ⟨hv.2.1, hv.2.2.2⟩
              · exact ih (k + 1) _ (by omega) hv.2.1 hv.2.2.1
            · exact absurd (Classical.not_imp.1 h9) (fun hh => hbad (.inl hh))
          · have hz : rd s.l (k : Int) = 0 := by simp [rd, List.getD_eq_getElem?_getD, List.getElem?_eq_none (show s.l.length ≤ k by omega)]
            by_cases k0 : 0 < k
            · exact absurd (.inr ⟨k0, hz⟩) hbad
            · omega
  unfold Sc.num
  split
  · exact go 10 0 0 rfl (by omega) (by simp)
  · simp
theorem Sc.num_zero (s : Sc) (_he : s.e ≠ 0 → s.l = []) (hn : s.num.2.e ≠ 0) : s.num.1 = 0 := by
  have go : ∀ (f k : Nat) (nn : Int), s.e = 0 → (numGo s f k nn).2.e ≠ 0 → (numGo s f k nn).1 = 0 := by
    intro f
    induction f with
    | zero => intro k nn _ _; rfl
    | succ f ih =>
      intro k nn h0 h
      rw [numGo] at h ⊢
      split at h
      · rw [if_pos (by assumption)]
      · rename_i h1
        rw [if_neg h1]
        split at h
        · rw [if_pos (by assumption)]
        · rename_i h2
          rw [if_neg h2]
          split at h
          · exact absurd h0 h
          · rename_i h3
            rw [if_neg h3]
            exact ih _ _ h0 h
  unfold Sc.num at hn ⊢
  split at hn
  · rename_i h0
    rw [if_pos h0]
    exact go _ _ _ h0 hn
  · rename_i h0
    rw [if_neg h0]
theorem xor_m1 (a : Nat) (ha : a < 9223372036854775808) : bits .xor .i64 (a : Int) (-1) = -1 - (a : Int) := by
  rw [← i64_not a ha]
  show IntKind.i64.wrap ((BitVec.ofInt 64 _ ^^^ BitVec.ofInt 64 _).toNat : Int) = IntKind.i64.wrap ((BitVec.ofInt 64 _ ^^^ BitVec.ofInt 64 _).toNat : Int)
  rw [BitVec.xor_comm]
theorem xor_0 (a : Nat) (ha : a < 9223372036854775808) : bits .xor .i64 (a : Int) 0 = (a : Int) := by
  show IntKind.i64.wrap ((BitVec.ofInt 64 (a : Int) ^^^ BitVec.ofInt 64 0).toNat : Int) = _
  rw [show BitVec.ofInt 64 0 = 0#64 from rfl, BitVec.xor_zero, BitVec.ofInt_natCast, BitVec.toNat_ofNat, IntKind.wrap_i64]
  omega
theorem zag_val (n : Int) (h0 : 0 ≤ n) (h1 : n < 18446744073709551616) : bits .xor .i64 (n / 2) (wrap64 (-wrap64 (bits .and .u64 n 1))) = zag n := by
  obtain ⟨m, rfl⟩ := Int.eq_ofNat_of_zero_le h0
  have e : bits .and .u64 (m : Int) 1 = ((m % 2 : Nat) : Int) := by
    rw [show (1 : Int) = ((1 : Nat) : Int) from rfl, u64_and_nat m 1 (by omega) (by decide), Nat.and_one_is_mod]
  rw [e, show (m : Int) / 2 = ((m / 2 : Nat) : Int) by omega]
  unfold zag
  rcases Nat.mod_two_eq_zero_or_one m with h | h
  · rw [h, if_neg (by omega), show wrap64 (-wrap64 ((0 : Nat) : Int)) = 0 by unfold wrap64; omega, xor_0 _ (by omega)]
    omega
  · rw [h, if_pos (by omega), show wrap64 (-wrap64 ((1 : Nat) : Int)) = -1 by unfold wrap64; omega, xor_m1 _ (by omega)]
    omega

theorem Sc.upto_pos (s : Sc) (most : Int) (_hm : -9223372036854775808 ≤ most ∧ most < 9223372036854775808) (hn : 0 ≤ s.num.1 ∧ s.num.1 < 18446744073709551616) (he : s.e ≠ 0 → s.l = []) : 0 ≤ (s.upto most).1 ∧ ((s.upto most).2.e ≠ 0 → (s.upto most).1 = 0) := by
  unfold Sc.upto
  split
  · exact ⟨by simp, fun _ => rfl⟩
  · rename_i hne
    by_cases e0 : s.num.2.e = 0
    · have : s.num.1 ≤ most := by
        apply Classical.byContradiction
        intro hh
        exact hne ⟨e0, .inr (by omega)⟩
      exact ⟨by show 0 ≤ wrap64 s.num.1; unfold wrap64; omega, fun h => absurd e0 h⟩
    · have hz : s.num.1 = 0 := Sc.num_zero s he e0
      exact ⟨by show 0 ≤ wrap64 s.num.1; rw [hz]; unfold wrap64; omega, fun _ => by show wrap64 s.num.1 = 0; rw [hz]; unfold wrap64; omega⟩
theorem num_val' (k : Nat) (nn cc : Int) (hk : k ≤ 9) (h0 : 0 ≤ nn) (h1 : nn < 128 ^ k) (hc0 : 0 ≤ cc) (hc1 : cc < 256) (h9 : k = 9 → cc = 1) : bits .and .u8 cc 127 = cc % 128 := by
  obtain ⟨c, rfl⟩ := Int.eq_ofNat_of_zero_le hc0
  rw [show (127 : Int) = ((127 : Nat) : Int) from rfl, u8_and_nat c 127 (by omega) (by decide), show 127 = 2 ^ 7 - 1 from rfl, Nat.and_two_pow_sub_one_eq_mod]
  simp
theorem num_valR (k : Nat) (nn un cc : Int) (hu : un = 128 ^ k) (hk : k ≤ 9) (h0 : 0 ≤ nn) (h1 : nn < 128 ^ k) (hc0 : 0 ≤ cc) (hc1 : cc < 256) (h9 : k = 9 → cc = 1) :
    IntKind.u64.wrap (nn + IntKind.u64.wrap (un * IntKind.u64.wrap (bits .and .u8 cc 127))) = nn + cc % 128 * 128 ^ k ∧ 0 ≤ nn + cc % 128 * 128 ^ k ∧ nn + cc % 128 * 128 ^ k < 128 ^ (k + 1) ∧ nn + cc % 128 * 128 ^ k < 18446744073709551616 := by
  have h := num_val k nn cc hk h0 h1 hc0 hc1 h9
  refine ⟨?_, h.2⟩
  rw [num_val' k nn cc hk h0 h1 hc0 hc1 h9, hu]
  have hp : (0 : Int) < 128 ^ k := Int.pow_pos (by decide)
  have hq : 0 ≤ cc % 128 * 128 ^ k := Int.mul_nonneg (by omega) (by omega)
  have hlt := h.2.2.2
  rw [show IntKind.u64.wrap (cc % 128) = cc % 128 by rw [IntKind.wrap_u64]; omega, Int.mul_comm]
  generalize cc % 128 * 128 ^ k = q at hq hlt ⊢
  rw [show IntKind.u64.wrap q = q by rw [IntKind.wrap_u64]; omega, IntKind.wrap_u64]
  omega
theorem unit_next (k : Nat) (un : Int) (hu : un = 128 ^ k) (hk : k < 9) : IntKind.u64.wrap (un * 128) = 128 ^ (k + 1) := by
  rw [hu, ← Int.pow_succ]
  have h := Nat.pow_le_pow_right (n := 128) (by omega) (show k + 1 ≤ 9 by omega)
  have e : ((128 : Int) ^ (k + 1)) = ((128 ^ (k + 1) : Nat) : Int) := by simp
  rw [e, IntKind.wrap_u64]
  simp only [show (128 : Nat) ^ 9 = 9223372036854775808 from rfl] at h
  generalize (128 : Nat) ^ (k + 1) = z at h ⊢
  omega
end Go.Proofs.Ytojefdnngkcaoaa
end

section
set_option linter.unusedVariables false
set_option linter.unusedSimpArgs false
namespace Go.Proofs.Ytojefdnngkcaoaa
open Go.RowKit Go.Proofs.YtojefdnngkcaoaaW.PrintWords Go.Proofs.YtojefdnngkcaoaaW.PrintLast Go.Proofs.YtojefdnngkcaoaaW.PrintMore

/-! ### the reference's Scan: its methods -/
set_option maxRecDepth 100000 in
set_option maxHeartbeats 400000 in
theorem rfail {S : Nat → Prop} {w : World} {g : Nat} {s : Sc} (h : Scn 44 S w g s) (e : Int) (he : -9223372036854775808 ≤ e ∧ e < 9223372036854775808) :
    Calls Try.prog 42 #[.pointer (some ⟨g, 0, none⟩), .int .i64 e] w fun r w' => r = .returned (.tuple #[]) ∧ Scn 44 S w' g (s.fail e) ∧ w.grownBy w' (some g) := by
  obtain ⟨A, c, hb, hc, hc2, hh, c0, c1, f0, f1⟩ := h.cells
  have HB := Aside0.mk hb
  have HH := Aside0.mk hh
  have H := Aside0.mk h
  clear hb hh h
  by_cases e0 : e = 0
  · subst e0
    go_enter Try.func42, Try.ntmps42
    go_wp2
    exact bodyPost_ret (v := .tuple #[]) (by simp [results, Try.results42, go_sem]) rfl ⟨rfl, by simpa [Sc.fail] using H.out, grown_refl _ _⟩
  · have b0 : (e == 0) = false := beq_eq_false_iff_ne.2 e0
    have b1 : (e != 0) = true := bne_iff_ne.2 e0
    by_cases s0 : s.e = 0
    · have d0 : (s.e == 0) = true := beq_iff_eq.2 s0
      have S0 := Aside0.mk s0
      have E0 := Aside0.mk e0
      clear s0 e0
      go_enter Try.func42, Try.ntmps42
      go_wp2
      go_end0
      refine ⟨rfl, ?_, grown_trans (grown_set _ _ _ _) (grown_set _ _ _ _)⟩
      have := H.out.failed e he
      simpa [Sc.fail, E0.out, S0.out] using this
    · have d0 : (s.e == 0) = false := beq_eq_false_iff_ne.2 s0
      have S0 := Aside0.mk s0
      have E0 := Aside0.mk e0
      clear s0 e0
      go_enter Try.func42, Try.ntmps42
      go_wp2
      go_end0
      refine ⟨rfl, ?_, grown_set _ _ _ _⟩
      have := H.out.emptied
      simpa [Sc.fail, E0.out, S0.out] using this

set_option maxRecDepth 100000 in
set_option maxHeartbeats 1000000 in
theorem rnum {S : Nat → Prop} {w : World} {g : Nat} {s : Sc} (h : Scn 44 S w g s) :
    Calls Try.prog 58 #[.pointer (some ⟨g, 0, none⟩)] w fun r w' => r = .returned (.int .u64 s.num.1) ∧ Scn 44 S w' g s.num.2 ∧ w.grownBy w' (some g) := by
  obtain ⟨A, c, hb, hc, hc2, hh, c0, c1, f0, f1⟩ := h.cells
  have HB := Aside0.mk hb
  have HH := Aside0.mk hh
  have H := Aside0.mk h
  clear hb hh h
  by_cases s0 : s.e = 0
  · have d0 : (s.e != 0) = false := by simp [s0]
    have S0 := Aside0.mk s0
    clear s0
    go_enter Try.func58, Try.ntmps58
    go_wp2_with fail
    go_loop [3, 4, 5] (fun n u i => ∃ (k : Nat) (nn un : Int), k ≤ 9 ∧ i = .int .i64 k ∧ n = .int .u64 nn ∧ u = .int .u64 un ∧ Aside0 (un = 128 ^ k) ∧ Aside0 (0 ≤ nn ∧ nn < 128 ^ k) ∧ k ≤ s.l.length ∧ Aside0 (numGo s (10 - k) k nn = s.num)) (fun _ _ i => 10 - (intOf i).toNat)
    case atStart => exact ⟨0, 0, 1, by omega, rfl, rfl, rfl, ⟨by simp⟩, ⟨by simp⟩, by omega, ⟨by simp [Sc.num, S0.out]⟩⟩
    case round =>
      obtain ⟨k, nn, un, hk, rfl, rfl, rfl, HUN, HN, hkl, HG⟩ := hrel
      by_cases hlen : k = s.l.length
      · have b1 : ((k : Int) == (s.l.length : Int)) = true := by simp [hlen]
        go_wp2_with (go_at_call 42; refine (rfail H.out 2 (by omega)).mono ?_; rintro r w' ⟨rfl, hs', hg'⟩)
        go_ret
        refine ⟨?_, ?_, hg'⟩
        · rw [← HG.out, show 10 - k = (9 - k) + 1 by omega, numGo, if_pos hlen]; rfl
        · rw [← HG.out, show 10 - k = (9 - k) + 1 by omega, numGo, if_pos hlen]; exact hs'
      · have hlt : k < s.l.length := by omega
        have b1 : decide (s.l.length ≤ k) = false := by simp; omega
        obtain ⟨ad, hA, hS, hcell⟩ := HH.out (by omega)
        subst hA
        have hck := hcell k hlt
        obtain ⟨hc0, hc256⟩ := rd_u8 H.out.u8 k hlt
        have HCELL := Aside0.mk hcell
        clear hcell
        generalize hcc : rd s.l k = cc at hck hc0 hc256
        have HCC := Aside0.mk hcc
        clear hcc
        by_cases bad : (k = 9 ∧ cc ≠ 1) ∨ (0 < k ∧ cc = 0)
        · have fin : numGo s (10 - k) k nn = (0, s.fail 3) := by rw [show 10 - k = (9 - k) + 1 by omega, numGo, if_neg hlen, HCC.out, if_pos bad]
          have HF := Aside0.mk fin
          clear fin
          have hfail : ∀ w', Scn 44 S w' g (s.fail 3) → w.grownBy w' (some g) → Scn 44 S w' g s.num.2 ∧ w.grownBy w' (some g) := fun w' h1 h2 => ⟨by rw [← HG.out, HF.out]; exact h1, h2⟩
          have hz : s.num.1 = 0 := by rw [← HG.out, HF.out]
          have HZ := Aside0.mk hz
          clear hz
          by_cases k9 : k = 9
          · have b3 : ((k : Int) == 9) = true := by rw [beq_iff_eq]; omega
            have b2 : (cc != 1) = true := by rw [bne_iff_ne]; omega
            clear k9 bad
            go_wp2_with (go_at_call 42; refine (rfail H.out 3 (by omega)).mono ?_; rintro r w' ⟨rfl, hs', hg'⟩)
            go_ret
            exact ⟨by rw [HZ.out]; rfl, hfail _ hs' hg'⟩
          · have b3 : ((k : Int) == 9) = false := by rw [beq_eq_false_iff_ne]; omega
            have b4 : (cc == 0) = true := by rw [beq_iff_eq]; omega
            have hk0 : 0 < k := by omega
            clear k9 bad
            go_wp2_with (go_at_call 42; refine (rfail H.out 3 (by omega)).mono ?_; rintro r w' ⟨rfl, hs', hg'⟩)
            go_ret
            exact ⟨by rw [HZ.out]; rfl, hfail _ hs' hg'⟩
        · have good : numGo s (10 - k) k nn = if cc < 128 then (nn + cc % 128 * 128 ^ k, ⟨s.l.drop (k + 1), s.e⟩) else numGo s (9 - k) (k + 1) (nn + cc % 128 * 128 ^ k) := by
            rw [show 10 - k = (9 - k) + 1 by omega, numGo, if_neg hlen, HCC.out, if_neg bad]
          have HGOOD := Aside0.mk good
          clear good
          have tests : (((k : Int) == 9) = true ∧ (cc != 1) = false ∧ decide (0 < (k : Int)) = true ∧ (cc == 0) = false) ∨ (((k : Int) == 9) = false ∧ decide (0 < (k : Int)) = true ∧ (cc == 0) = false) ∨ (((k : Int) == 9) = false ∧ decide (0 < k) = false) := by
            simp only [beq_iff_eq, beq_eq_false_iff_ne, bne_eq_false_iff_eq, decide_eq_true_eq, decide_eq_false_iff_not]
            omega
          have h9 : k = 9 → cc = 1 := by omega
          have hv := Aside0.mk (num_valR k nn un cc HUN.out hk HN.out.1 HN.out.2 hc0 hc256 h9)
          clear h9 bad hlen
          by_cases hs : cc < 128
          · have hfin : s.num = (nn + cc % 128 * 128 ^ k, ⟨s.l.drop (k + 1), s.e⟩) := by rw [← HG.out, HGOOD.out, if_pos hs]
            have HFIN := Aside0.mk hfin
            clear hfin
            have hend : ∀ (v : Value) (w' : World), v = .int .u64 (IntKind.u64.wrap (nn + IntKind.u64.wrap (un * IntKind.u64.wrap (bits .and .u8 cc 127)))) → Scn 44 S w' g ⟨s.l.drop (k + 1), s.e⟩ → w.grownBy w' (some g) →
                Ending.returned v = .returned (.int .u64 s.num.1) ∧ Scn 44 S w' g s.num.2 ∧ w.grownBy w' (some g) := fun v w' h1 h2 h3 => by
              rw [HFIN.out, h1, hv.out.1]; exact ⟨rfl, h2, h3⟩
            have HEND := Aside0.mk hend
            clear hend
            rcases tests with ⟨t1, t2, t3, t4⟩ | ⟨t1, t3, t4⟩ | ⟨t1, t3⟩
            all_goals
              go_wp2_with fail
              all_goals go_ret
              all_goals first
                | exact HEND.out _ _ rfl (H.out.dropped_b (k + 1) (by omega) HB.out hc hc2 HH.out rfl) (grown_set _ _ _ _)
                | exact HEND.out _ _ rfl (H.out.dropped_b (k + 1) (by omega) HB.out hc hc2 HH.out (by first | assumption | omega)) (grown_set _ _ _ _)
                | exact HEND.out _ _ rfl (by rw [← add_pos _ _ (by omega)]; exact H.out.dropped_a (k + 1) (by omega) HB.out hc hc2 HH.out (by first | assumption | omega)) (grown_set _ _ _ _)
          · have hgo : numGo s (10 - (k + 1)) (k + 1) (nn + cc % 128 * 128 ^ k) = s.num := by rw [← HG.out, HGOOD.out, if_neg hs, show 10 - (k + 1) = 9 - k by omega]
            have HGO := Aside0.mk hgo
            clear hgo
            have hk9 : k < 9 := by
              rcases tests with ⟨t1, t2, t3, t4⟩ | ⟨t1, t3, t4⟩ | ⟨t1, t3⟩
              · rw [bne_eq_false_iff_eq] at t2; omega
              · rw [beq_eq_false_iff_ne] at t1; omega
              · rw [beq_eq_false_iff_ne] at t1; omega
            rcases tests with ⟨t1, t2, t3, t4⟩ | ⟨t1, t3, t4⟩ | ⟨t1, t3⟩
            · rw [beq_iff_eq] at t1; omega
            all_goals
              go_wp2_with fail
              all_goals (refine ⟨⟨k + 1, nn + cc % 128 * 128 ^ k, 128 ^ (k + 1), by omega, by go_num, by rw [hv.out.1], by rw [unit_next k un HUN.out hk9], ⟨rfl⟩, ⟨hv.out.2.1, hv.out.2.2.1⟩, by omega, HGO⟩, ?_⟩; simp [intOf]; omega)
  · have d0 : (s.e != 0) = true := by simpa using s0
    have S0 := Aside0.mk s0
    clear s0
    go_enter Try.func58, Try.ntmps58
    go_wp2_with fail
    go_ret
    exact ⟨by simp [Sc.num, S0.out], by simpa [Sc.num, S0.out] using H.out, grown_refl _ _⟩

set_option maxRecDepth 100000 in
set_option maxHeartbeats 1000000 in
theorem rupto {S : Nat → Prop} {w : World} {g : Nat} {s : Sc} (h : Scn 44 S w g s) (most : Int) (hm : -9223372036854775808 ≤ most ∧ most < 9223372036854775808) :
    Calls Try.prog 43 #[.pointer (some ⟨g, 0, none⟩), .int .i64 most] w fun r w' => r = .returned (.int .i64 (s.upto most).1) ∧ Scn 44 S w' g (s.upto most).2 ∧ w.grownBy w' (some g) := by
  have hn := Sc.num_lt s h.u8
  go_enter Try.func43, Try.ntmps43
  go_wp2_with fail
  refine (rnum h).mono ?_
  rintro r w1 ⟨rfl, h1, hg1⟩
  generalize hnum : s.num.1 = n
  obtain ⟨A, c, hb, hc, hc2, hh, c0, c1, f0, f1⟩ := h1.cells
  clear hb hh
  have H1 := Aside0.mk h1
  clear h1 h
  have hup : s.upto most = if s.num.2.e = 0 ∧ (most < 0 ∨ most < s.num.1) then (0, s.num.2.fail 4) else (wrap64 s.num.1, s.num.2) := rfl
  have HUP := Aside0.mk hup
  clear hup
  rw [hnum] at hn HUP
  generalize hs1 : s.num.2 = s1 at H1 HUP c0 c1 hc
  have HNUM := Aside0.mk hnum
  have HS1 := Aside0.mk hs1
  clear hnum hs1
  by_cases e0 : s1.e = 0
  · have b0 : (s1.e == 0) = true := by simp [e0]
    have E0 := Aside0.mk e0
    clear e0
    by_cases m0 : most < 0
    · have hres : s.upto most = (0, s1.fail 4) := by rw [HUP.out, if_pos ⟨E0.out, .inl m0⟩]
      have HRES := Aside0.mk hres
      clear hres
      go_wp2_with (go_at_call 42; refine (rfail H1.out 4 (by omega)).mono ?_; rintro r w' ⟨rfl, hs', hg'⟩)
      go_ret
      exact ⟨by rw [HRES.out]; rfl, by rw [HRES.out]; exact hs', grown_trans hg1 hg'⟩
    · have m1 : 0 ≤ most := by omega
      have hwm : IntKind.u64.wrap most = most := by rw [IntKind.wrap_u64]; omega
      have d0 : decide (most < 0) = false := decide_eq_false m0
      by_cases n0 : most < n
      · have hres : s.upto most = (0, s1.fail 4) := by rw [HUP.out, if_pos ⟨E0.out, .inr n0⟩]
        have HRES := Aside0.mk hres
        clear hres
        go_wp2_with (go_at_call 42; refine (rfail H1.out 4 (by omega)).mono ?_; rintro r w' ⟨rfl, hs', hg'⟩)
        go_ret
        exact ⟨by rw [HRES.out]; rfl, by rw [HRES.out]; exact hs', grown_trans hg1 hg'⟩
      · have hwn : wrap64 n = n := by unfold wrap64; omega
        have hres : s.upto most = (n, s1) := by rw [HUP.out, if_neg (fun hh => by rcases hh.2 with hh | hh; exact m0 hh; exact n0 hh), hwn]
        have HRES := Aside0.mk hres
        clear hres
        go_wp2_with (go_at_call 42; refine (rfail H1.out 4 (by omega)).mono ?_; rintro r w' ⟨rfl, hs', hg'⟩)
        go_ret
        exact ⟨by rw [HRES.out]; first | rfl | (simp; done), by rw [HRES.out]; exact H1.out, hg1⟩
  · have b0 : (s1.e == 0) = false := by simpa using e0
    have E0 := Aside0.mk e0
    clear e0
    have hres : s.upto most = (wrap64 n, s1) := by rw [HUP.out, if_neg (fun hh => E0.out hh.1)]
    have HRES := Aside0.mk hres
    clear hres
    go_wp2_with (go_at_call 42; refine (rfail H1.out 4 (by omega)).mono ?_; rintro r w' ⟨rfl, hs', hg'⟩)
    go_ret
    exact ⟨by rw [HRES.out]; first | rfl | (simp; done), by rw [HRES.out]; exact H1.out, hg1⟩


set_option maxRecDepth 100000 in
set_option maxHeartbeats 1000000 in
theorem rint {S : Nat → Prop} {w : World} {g : Nat} {s : Sc} (h : Scn 44 S w g s) :
    Calls Try.prog 59 #[.pointer (some ⟨g, 0, none⟩)] w fun r w' => r = .returned (.int .i64 s.int.1) ∧ Scn 44 S w' g s.int.2 ∧ w.grownBy w' (some g) := by
  have hn := Sc.num_lt s h.u8
  go_enter Try.func59, Try.ntmps59
  go_wp2_with fail
  refine (rnum h).mono ?_
  rintro r w1 ⟨rfl, h1, hg1⟩
  have H1 := Aside0.mk h1
  clear h1 h
  have hi : s.int.1 = zag s.num.1 := rfl
  have HI := Aside0.mk hi
  clear hi
  have h2 : s.int.2 = s.num.2 := rfl
  have HI2 := Aside0.mk h2
  clear h2
  generalize s.num.1 = n at hn HI ⊢
  by_cases hodd : n % 2 = 1
  · have b0 : (n % 2 == 1) = true := by simp [hodd]
    have b1 : (n.tmod 2 == 1) = true := by rw [Int.tmod_eq_emod_of_nonneg hn.1]; exact b0
    have hz : zag n = -1 - n / 2 := by unfold zag; rw [if_pos hodd]
    have HZ := Aside0.mk hz
    clear hz hodd
    go_wp2
    go_ret
    exact ⟨by rw [HI.out, HZ.out]; first | rfl | (simp; done), by rw [HI2.out]; exact H1.out, hg1⟩
  · have b0 : (n % 2 == 1) = false := by simpa using hodd
    have b1 : (n.tmod 2 == 1) = false := by rw [Int.tmod_eq_emod_of_nonneg hn.1]; exact b0
    have hz : zag n = n / 2 := by unfold zag; rw [if_neg hodd]
    have HZ := Aside0.mk hz
    clear hz hodd
    go_wp2
    go_ret
    exact ⟨by rw [HI.out, HZ.out]; first | rfl | (simp; done), by rw [HI2.out]; exact H1.out, hg1⟩
set_option maxRecDepth 100000 in
set_option maxHeartbeats 1000000 in
theorem rtext {S : Nat → Prop} {w : World} {g : Nat} {s : Sc} (h : Scn 44 S w g s) (most : Int) (hm : -9223372036854775808 ≤ most ∧ most < 9223372036854775808) :
    Calls Try.prog 41 #[.pointer (some ⟨g, 0, none⟩), .int .i64 most] w fun r w' => r = .returned (.string (strOfNums (s.text most).1)) ∧ Scn 44 S w' g (s.text most).2 ∧ w.grownBy w' (some g) := by
  have hn := Sc.num_lt s h.u8
  have hu := Sc.upto_pos s most hm hn h.err
  go_enter Try.func41, Try.ntmps41
  go_wp2_with fail
  refine (rupto h most hm).mono ?_
  rintro r w1 ⟨rfl, h1, hg1⟩
  obtain ⟨A, c, hb, hc, hc2, hh, c0, c1, f0, f1⟩ := h1.cells
  have H1 := Aside0.mk h1
  have HB := Aside0.mk hb
  have HH := Aside0.mk hh
  have htx : s.text most = if (s.upto most).2.e = 0 then (if (s.upto most).1 > (s.upto most).2.l.length then ([], (s.upto most).2.fail 2) else ((s.upto most).2.l.take (s.upto most).1.toNat, ⟨(s.upto most).2.l.drop (s.upto most).1.toNat, 0⟩)) else ([], (s.upto most).2) := rfl
  have HT := Aside0.mk htx
  clear hb hh h1 h htx
  generalize hnum : (s.upto most).1 = n at hu HT ⊢
  generalize hs1 : (s.upto most).2 = s1 at H1 HB HH HT c0 c1 hc hu
  clear hnum hs1 hn
  obtain ⟨m, rfl⟩ := Int.eq_ofNat_of_zero_le hu.1
  by_cases e0 : s1.e = 0
  · have b0 : (s1.e == 0) = true := by simp [e0]
    have b1 : (s1.e != 0) = false := by simp [e0]
    have E0 := Aside0.mk e0
    clear e0 hu
    by_cases hgt : s1.l.length < m
    · have d0 : decide (s1.l.length < m) = true := decide_eq_true hgt
      have hres : s.text most = ([], s1.fail 2) := by rw [HT.out, if_pos E0.out, if_pos (by omega)]
      have hfe : ((s1.fail 2).e != 0) = true := by simp [Sc.fail, E0.out]
      have HRES := Aside0.mk hres
      clear hres
      go_wp2_with fail
      refine (rfail H1.out 2 (by omega)).mono ?_
      rintro r w' ⟨rfl, hs', hg'⟩
      obtain ⟨A2, c2, hb2, hc_2, hc2_2, hh2, c0_2, c1_2, f0_2, f1_2⟩ := hs'.cells
      have HS := Aside0.mk hs'
      clear hs' hb2 hh2 c0 c1 f0 f1
      go_wp2
      go_ret
      exact ⟨by rw [HRES.out]; rfl, by rw [HRES.out]; exact HS.out, grown_trans hg1 hg'⟩
    · have hle : m ≤ s1.l.length := by omega
      have d0 : decide (s1.l.length < m) = false := decide_eq_false hgt
      have hres : s.text most = (s1.l.take m, ⟨s1.l.drop m, s1.e⟩) := by
        rw [HT.out, if_pos E0.out, if_neg (by omega), Int.toNat_natCast, E0.out]
      have HRES := Aside0.mk hres
      clear hres
      have hcs : (convert 27 9 (.slice A m c)).run Try.prog w1 = .ok (.string (strOfNums (s1.l.take m))) w1 := by
        have hC := HH.out.C (by have := H1.out.short; omega)
        have hT := Kd.C_take hC hle
        rw [List.length_take, Nat.min_eq_left hle] at hT
        exact Kd.C_string (P := Try.prog) (A := A) (c := c) Try.underlying27 Try.underlying5 Try.underlying9 hT
      have HEND : ∀ (W : World), Scn 44 S W g ⟨s1.l.drop m, s1.e⟩ → w1.grownBy W (some g) → Ending.returned (.string (strOfNums (s1.l.take m))) = .returned (.string (strOfNums (s.text most).1)) ∧ Scn 44 S W g (s.text most).2 ∧ w.grownBy W (some g) := fun W h1 h2 => by
        rw [HRES.out]; exact ⟨rfl, h1, grown_trans hg1 h2⟩
      have HE := Aside0.mk HEND
      clear HEND
      go_wp2
      all_goals go_ret
      all_goals first
        | exact HE.out _ (H1.out.dropped_b m hle HB.out hc hc2 HH.out (by assumption)) (grown_set _ _ _ _)
        | exact HE.out _ (H1.out.dropped_b m hle HB.out hc hc2 HH.out rfl) (grown_set _ _ _ _)
        | (refine HE.out _ ?_ (grown_set _ _ _ _); have h_ := H1.out.dropped m hle HB.out hc hc2 HH.out; rw [if_neg (by first | assumption | omega)] at h_; exact h_)
  · have b0 : (s1.e == 0) = false := by simpa using e0
    have b1 : (s1.e != 0) = true := by simpa using e0
    have hres : s.text most = ([], s1) := by rw [HT.out, if_neg e0]
    have HRES := Aside0.mk hres
    clear hres e0 hu
    go_wp2
    go_ret
    exact ⟨by rw [HRES.out]; rfl, by rw [HRES.out]; exact H1.out, hg1⟩
end Go.Proofs.Ytojefdnngkcaoaa
end

section
set_option linter.unusedVariables false
set_option linter.unusedSimpArgs false
namespace Go.Proofs.Ytojefdnngkcaoaa
open Go.RowKit Go.Proofs.YtojefdnngkcaoaaW.PrintWords Go.Proofs.YtojefdnngkcaoaaW.PrintLast Go.Proofs.YtojefdnngkcaoaaW.PrintMore

/-! ### wire.Scan: its methods -/
def TW : Nat := 63
set_option maxRecDepth 100000 in
set_option maxHeartbeats 400000 in
theorem wfail {S : Nat → Prop} {w : World} {g : Nat} {s : Sc} (h : Scn 63 S w g s) (e : Int) (he : -9223372036854775808 ≤ e ∧ e < 9223372036854775808) :
    Calls Try.prog 38 #[.pointer (some ⟨g, 0, none⟩), .int .i64 e] w fun r w' => r = .returned (.tuple #[]) ∧ Scn 63 S w' g (s.fail e) ∧ w.grownBy w' (some g) := by
  obtain ⟨A, c, hb, hc, hc2, hh, c0, c1, f0, f1⟩ := h.cells
  have HB := Aside0.mk hb
  have HH := Aside0.mk hh
  have H := Aside0.mk h
  clear hb hh h
  by_cases e0 : e = 0
  · subst e0
    go_enter Try.func38, Try.ntmps38
    go_wp2
    exact bodyPost_ret (v := .tuple #[]) (by simp [results, Try.results38, go_sem]) rfl ⟨rfl, by simpa [Sc.fail] using H.out, grown_refl _ _⟩
  · have b0 : (e == 0) = false := beq_eq_false_iff_ne.2 e0
    have b1 : (e != 0) = true := bne_iff_ne.2 e0
    by_cases s0 : s.e = 0
    · have d0 : (s.e == 0) = true := beq_iff_eq.2 s0
      have S0 := Aside0.mk s0
      have E0 := Aside0.mk e0
      clear s0 e0
      go_enter Try.func38, Try.ntmps38
      go_wp2
      go_end0
      refine ⟨rfl, ?_, grown_trans (grown_set _ _ _ _) (grown_set _ _ _ _)⟩
      have := H.out.failed e he
      simpa [Sc.fail, E0.out, S0.out] using this
    · have d0 : (s.e == 0) = false := beq_eq_false_iff_ne.2 s0
      have S0 := Aside0.mk s0
      have E0 := Aside0.mk e0
      clear s0 e0
      go_enter Try.func38, Try.ntmps38
      go_wp2
      go_end0
      refine ⟨rfl, ?_, grown_set _ _ _ _⟩
      have := H.out.emptied
      simpa [Sc.fail, E0.out, S0.out] using this

set_option maxRecDepth 100000 in
set_option maxHeartbeats 1000000 in
theorem wnum {S : Nat → Prop} {w : World} {g : Nat} {s : Sc} (h : Scn 63 S w g s) :
    Calls Try.prog 56 #[.pointer (some ⟨g, 0, none⟩)] w fun r w' => r = .returned (.int .u64 s.num.1) ∧ Scn 63 S w' g s.num.2 ∧ w.grownBy w' (some g) := by
  obtain ⟨A, c, hb, hc, hc2, hh, c0, c1, f0, f1⟩ := h.cells
  have HB := Aside0.mk hb
  have HH := Aside0.mk hh
  have H := Aside0.mk h
  clear hb hh h
  by_cases s0 : s.e = 0
  · have d0 : (s.e != 0) = false := by simp [s0]
    have S0 := Aside0.mk s0
    clear s0
    go_enter Try.func56, Try.ntmps56
    go_wp2_with fail
    go_loop [2, 9] (fun n i => ∃ (k : Nat) (nn : Int), k ≤ 9 ∧ i = .int .i64 k ∧ n = .int .u64 nn ∧ Aside0 (0 ≤ nn ∧ nn < 128 ^ k) ∧ k ≤ s.l.length ∧ Aside0 (numGo s (10 - k) k nn = s.num)) (fun _ i => 10 - (intOf i).toNat)
    case atStart => exact ⟨0, 0, by omega, rfl, rfl, ⟨by simp⟩, by omega, ⟨by simp [Sc.num, S0.out]⟩⟩
    case round =>
      obtain ⟨k, nn, hk, rfl, rfl, HN, hkl, HG⟩ := hrel
      by_cases hlen : k = s.l.length
      · have b1 : ((k : Int) == (s.l.length : Int)) = true := by simp [hlen]
        go_wp2_with (go_at_call 38; refine (wfail H.out 2 (by omega)).mono ?_; rintro r w' ⟨rfl, hs', hg'⟩)
        go_ret
        refine ⟨?_, ?_, hg'⟩
        · rw [← HG.out, show 10 - k = (9 - k) + 1 by omega, numGo, if_pos hlen]; rfl
        · rw [← HG.out, show 10 - k = (9 - k) + 1 by omega, numGo, if_pos hlen]; exact hs'
      · have hlt : k < s.l.length := by omega
        have b1 : ((k : Int) == (s.l.length : Int)) = false := by rw [beq_eq_false_iff_ne]; omega
        obtain ⟨ad, hA, hS, hcell⟩ := HH.out (by omega)
        subst hA
        have hck := hcell k hlt
        obtain ⟨hc0, hc256⟩ := rd_u8 H.out.u8 k hlt
        have HCELL := Aside0.mk hcell
        clear hcell
        generalize hcc : rd s.l k = cc at hck hc0 hc256
        have HCC := Aside0.mk hcc
        clear hcc
        by_cases bad : (k = 9 ∧ cc ≠ 1) ∨ (0 < k ∧ cc = 0)
        · have fin : numGo s (10 - k) k nn = (0, s.fail 3) := by rw [show 10 - k = (9 - k) + 1 by omega, numGo, if_neg hlen, HCC.out, if_pos bad]
          have HF := Aside0.mk fin
          clear fin
          have hfail : ∀ w', Scn 63 S w' g (s.fail 3) → w.grownBy w' (some g) → Scn 63 S w' g s.num.2 ∧ w.grownBy w' (some g) := fun w' h1 h2 => ⟨by rw [← HG.out, HF.out]; exact h1, h2⟩
          have hz : s.num.1 = 0 := by rw [← HG.out, HF.out]
          have HZ := Aside0.mk hz
          clear hz
          by_cases k9 : k = 9
          · have b3 : ((k : Int) == 9) = true := by rw [beq_iff_eq]; omega
            have b2 : (cc != 1) = true := by rw [bne_iff_ne]; omega
            clear k9 bad
            go_wp2_with (go_at_call 38; refine (wfail H.out 3 (by omega)).mono ?_; rintro r w' ⟨rfl, hs', hg'⟩)
            go_ret
            exact ⟨by rw [HZ.out]; rfl, hfail _ hs' hg'⟩
          · have b3 : ((k : Int) == 9) = false := by rw [beq_eq_false_iff_ne]; omega
            have b4 : (cc == 0) = true := by rw [beq_iff_eq]; omega
            have hk0 : 0 < k := by omega
            clear k9 bad
            go_wp2_with (go_at_call 38; refine (wfail H.out 3 (by omega)).mono ?_; rintro r w' ⟨rfl, hs', hg'⟩)
            go_ret
            exact ⟨by rw [HZ.out]; rfl, hfail _ hs' hg'⟩
        · have good : numGo s (10 - k) k nn = if cc < 128 then (nn + cc % 128 * 128 ^ k, ⟨s.l.drop (k + 1), s.e⟩) else numGo s (9 - k) (k + 1) (nn + cc % 128 * 128 ^ k) := by
            rw [show 10 - k = (9 - k) + 1 by omega, numGo, if_neg hlen, HCC.out, if_neg bad]
          have HGOOD := Aside0.mk good
          clear good
          have tests : (((k : Int) == 9) = true ∧ (cc != 1) = false ∧ decide (0 < (k : Int)) = true ∧ (cc == 0) = false) ∨ (((k : Int) == 9) = false ∧ decide (0 < (k : Int)) = true ∧ (cc == 0) = false) ∨ (((k : Int) == 9) = false ∧ decide (0 < k) = false) := by
            simp only [beq_iff_eq, beq_eq_false_iff_ne, bne_eq_false_iff_eq, decide_eq_true_eq, decide_eq_false_iff_not]
            omega
          have h9 : k = 9 → cc = 1 := by omega
          have hv := Aside0.mk (num_val k nn cc hk HN.out.1 HN.out.2 hc0 hc256 h9)
          clear h9 bad hlen
          by_cases hs : cc < 128
          · have hfin : s.num = (nn + cc % 128 * 128 ^ k, ⟨s.l.drop (k + 1), s.e⟩) := by rw [← HG.out, HGOOD.out, if_pos hs]
            have HFIN := Aside0.mk hfin
            clear hfin
            have hend : ∀ (v : Value) (w' : World), v = .int .u64 (bits .or .u64 nn (IntKind.u64.wrap (IntKind.u64.wrap (bits .andNot .u8 cc 128) * 2 ^ (7 * k)))) → Scn 63 S w' g ⟨s.l.drop (k + 1), s.e⟩ → w.grownBy w' (some g) →
                Ending.returned v = .returned (.int .u64 s.num.1) ∧ Scn 63 S w' g s.num.2 ∧ w.grownBy w' (some g) := fun v w' h1 h2 h3 => by
              rw [HFIN.out, h1, hv.out.1]; exact ⟨rfl, h2, h3⟩
            have HEND := Aside0.mk hend
            clear hend
            rcases tests with ⟨t1, t2, t3, t4⟩ | ⟨t1, t3, t4⟩ | ⟨t1, t3⟩
            all_goals
              go_wp2_with fail
              all_goals go_ret
              all_goals first
                | exact HEND.out _ _ rfl (H.out.dropped_b (k + 1) (by omega) HB.out hc hc2 HH.out rfl) (grown_set _ _ _ _)
                | exact HEND.out _ _ rfl (H.out.dropped_b (k + 1) (by omega) HB.out hc hc2 HH.out (by first | assumption | omega)) (grown_set _ _ _ _)
                | exact HEND.out _ _ rfl (by rw [← add_pos _ _ (by omega)]; exact H.out.dropped_a (k + 1) (by omega) HB.out hc hc2 HH.out (by first | assumption | omega)) (grown_set _ _ _ _)
          · have hgo : numGo s (10 - (k + 1)) (k + 1) (nn + cc % 128 * 128 ^ k) = s.num := by rw [← HG.out, HGOOD.out, if_neg hs, show 10 - (k + 1) = 9 - k by omega]
            have HGO := Aside0.mk hgo
            clear hgo
            have hk9 : k < 9 := by
              rcases tests with ⟨t1, t2, t3, t4⟩ | ⟨t1, t3, t4⟩ | ⟨t1, t3⟩
              · rw [bne_eq_false_iff_eq] at t2; omega
              · rw [beq_eq_false_iff_ne] at t1; omega
              · rw [beq_eq_false_iff_ne] at t1; omega
            rcases tests with ⟨t1, t2, t3, t4⟩ | ⟨t1, t3, t4⟩ | ⟨t1, t3⟩
            · rw [beq_iff_eq] at t1; omega
            all_goals
              go_wp2_with fail
              all_goals (refine ⟨⟨k + 1, nn + cc % 128 * 128 ^ k, by omega, by go_num, by rw [hv.out.1], ⟨hv.out.2.1, hv.out.2.2.1⟩, by omega, HGO⟩, ?_⟩; simp [intOf]; omega)
  · have d0 : (s.e != 0) = true := by simpa using s0
    have S0 := Aside0.mk s0
    clear s0
    go_enter Try.func56, Try.ntmps56
    go_wp2_with fail
    go_ret
    exact ⟨by simp [Sc.num, S0.out], by simpa [Sc.num, S0.out] using H.out, grown_refl _ _⟩

set_option maxRecDepth 100000 in
set_option maxHeartbeats 1000000 in
theorem wupto {S : Nat → Prop} {w : World} {g : Nat} {s : Sc} (h : Scn 63 S w g s) (most : Int) (hm : -9223372036854775808 ≤ most ∧ most < 9223372036854775808) :
    Calls Try.prog 39 #[.pointer (some ⟨g, 0, none⟩), .int .i64 most] w fun r w' => r = .returned (.int .i64 (s.upto most).1) ∧ Scn 63 S w' g (s.upto most).2 ∧ w.grownBy w' (some g) := by
  have hn := Sc.num_lt s h.u8
  go_enter Try.func39, Try.ntmps39
  go_wp2_with fail
  refine (wnum h).mono ?_
  rintro r w1 ⟨rfl, h1, hg1⟩
  generalize hnum : s.num.1 = n
  obtain ⟨A, c, hb, hc, hc2, hh, c0, c1, f0, f1⟩ := h1.cells
  clear hb hh
  have H1 := Aside0.mk h1
  clear h1 h
  have hup : s.upto most = if s.num.2.e = 0 ∧ (most < 0 ∨ most < s.num.1) then (0, s.num.2.fail 4) else (wrap64 s.num.1, s.num.2) := rfl
  have HUP := Aside0.mk hup
  clear hup
  rw [hnum] at hn HUP
  generalize hs1 : s.num.2 = s1 at H1 HUP c0 c1 hc
  have HNUM := Aside0.mk hnum
  have HS1 := Aside0.mk hs1
  clear hnum hs1
  by_cases e0 : s1.e = 0
  · have b0 : (s1.e == 0) = true := by simp [e0]
    have E0 := Aside0.mk e0
    clear e0
    by_cases m0 : most < 0
    · have hres : s.upto most = (0, s1.fail 4) := by rw [HUP.out, if_pos ⟨E0.out, .inl m0⟩]
      have HRES := Aside0.mk hres
      clear hres
      go_wp2_with (go_at_call 38; refine (wfail H1.out 4 (by omega)).mono ?_; rintro r w' ⟨rfl, hs', hg'⟩)
      go_ret
      exact ⟨by rw [HRES.out]; rfl, by rw [HRES.out]; exact hs', grown_trans hg1 hg'⟩
    · have m1 : 0 ≤ most := by omega
      have hwm : IntKind.u64.wrap most = most := by rw [IntKind.wrap_u64]; omega
      have d0 : decide (most < 0) = false := decide_eq_false m0
      by_cases n0 : most < n
      · have hres : s.upto most = (0, s1.fail 4) := by rw [HUP.out, if_pos ⟨E0.out, .inr n0⟩]
        have HRES := Aside0.mk hres
        clear hres
        go_wp2_with (go_at_call 38; refine (wfail H1.out 4 (by omega)).mono ?_; rintro r w' ⟨rfl, hs', hg'⟩)
        go_ret
        exact ⟨by rw [HRES.out]; rfl, by rw [HRES.out]; exact hs', grown_trans hg1 hg'⟩
      · have hwn : wrap64 n = n := by unfold wrap64; omega
        have hres : s.upto most = (n, s1) := by rw [HUP.out, if_neg (fun hh => by rcases hh.2 with hh | hh; exact m0 hh; exact n0 hh), hwn]
        have HRES := Aside0.mk hres
        clear hres
        go_wp2_with (go_at_call 38; refine (wfail H1.out 4 (by omega)).mono ?_; rintro r w' ⟨rfl, hs', hg'⟩)
        go_ret
        exact ⟨by rw [HRES.out]; first | rfl | (simp; done), by rw [HRES.out]; exact H1.out, hg1⟩
  · have b0 : (s1.e == 0) = false := by simpa using e0
    have E0 := Aside0.mk e0
    clear e0
    have hres : s.upto most = (wrap64 n, s1) := by rw [HUP.out, if_neg (fun hh => E0.out hh.1)]
    have HRES := Aside0.mk hres
    clear hres
    go_wp2_with (go_at_call 38; refine (wfail H1.out 4 (by omega)).mono ?_; rintro r w' ⟨rfl, hs', hg'⟩)
    go_ret
    exact ⟨by rw [HRES.out]; first | rfl | (simp; done), by rw [HRES.out]; exact H1.out, hg1⟩

set_option maxRecDepth 100000 in
set_option maxHeartbeats 1000000 in
theorem wint {S : Nat → Prop} {w : World} {g : Nat} {s : Sc} (h : Scn 63 S w g s) :
    Calls Try.prog 57 #[.pointer (some ⟨g, 0, none⟩)] w fun r w' => r = .returned (.int .i64 s.int.1) ∧ Scn 63 S w' g s.int.2 ∧ w.grownBy w' (some g) := by
  have hn := Sc.num_lt s h.u8
  go_enter Try.func57, Try.ntmps57
  go_wp2_with fail
  refine (wnum h).mono ?_
  rintro r w1 ⟨rfl, h1, hg1⟩
  have H1 := Aside0.mk h1
  clear h1 h
  have hz := zag_val _ hn.1 hn.2
  have HZ := Aside0.mk hz
  clear hz
  go_wp2
  go_ret
  refine ⟨?_, H1.out, hg1⟩
  rw [show s.int.1 = bits .xor .i64 (s.num.1 / 2) (wrap64 (-wrap64 (bits .and .u64 s.num.1 1))) from HZ.out.symm]
  rfl
set_option maxRecDepth 100000 in
set_option maxHeartbeats 1000000 in
theorem wtext {S : Nat → Prop} {w : World} {g : Nat} {s : Sc} (h : Scn 63 S w g s) (most : Int) (hm : -9223372036854775808 ≤ most ∧ most < 9223372036854775808) :
    Calls Try.prog 37 #[.pointer (some ⟨g, 0, none⟩), .int .i64 most] w fun r w' => r = .returned (.string (strOfNums (s.text most).1)) ∧ Scn 63 S w' g (s.text most).2 ∧ w.grownBy w' (some g) := by
  have hn := Sc.num_lt s h.u8
  have hu := Sc.upto_pos s most hm hn h.err
  go_enter Try.func37, Try.ntmps37
  go_wp2_with fail
  refine (wupto h most hm).mono ?_
  rintro r w1 ⟨rfl, h1, hg1⟩
  obtain ⟨A, c, hb, hc, hc2, hh, c0, c1, f0, f1⟩ := h1.cells
  have H1 := Aside0.mk h1
  have HB := Aside0.mk hb
  have HH := Aside0.mk hh
  have htx : s.text most = if (s.upto most).2.e = 0 then (if (s.upto most).1 > (s.upto most).2.l.length then ([], (s.upto most).2.fail 2) else ((s.upto most).2.l.take (s.upto most).1.toNat, ⟨(s.upto most).2.l.drop (s.upto most).1.toNat, 0⟩)) else ([], (s.upto most).2) := rfl
  have HT := Aside0.mk htx
  clear hb hh h1 h htx
  generalize hnum : (s.upto most).1 = n at hu HT ⊢
  generalize hs1 : (s.upto most).2 = s1 at H1 HB HH HT c0 c1 hc hu
  clear hnum hs1 hn
  obtain ⟨m, rfl⟩ := Int.eq_ofNat_of_zero_le hu.1
  by_cases hgt : s1.l.length < m
  · have e0 : s1.e = 0 := by
      apply Classical.byContradiction
      intro hne
      have := hu.2 hne
      omega
    have hres : s.text most = ([], s1.fail 2) := by rw [HT.out, if_pos e0, if_pos (by omega)]
    have HRES := Aside0.mk hres
    clear hres e0 hu
    go_wp2_with (go_at_call 38; refine (wfail H1.out 2 (by omega)).mono ?_; rintro r w' ⟨rfl, hs', hg'⟩)
    go_ret
    exact ⟨by rw [HRES.out]; rfl, by rw [HRES.out]; exact hs', grown_trans hg1 hg'⟩
  · have hle : m ≤ s1.l.length := by omega
    have hres : s.text most = (s1.l.take m, ⟨s1.l.drop m, s1.e⟩) := by
      rw [HT.out]
      by_cases e0 : s1.e = 0
      · rw [if_pos e0, if_neg (by omega), Int.toNat_natCast, e0]
      · rw [if_neg e0]
        have := hu.2 e0
        obtain rfl : m = 0 := by omega
        have := H1.out.err e0
        rw [List.take_zero, List.drop_zero]
    have HRES := Aside0.mk hres
    clear hres hu
    have hcs : (convert 27 9 (.slice A m c)).run Try.prog w1 = .ok (.string (strOfNums (s1.l.take m))) w1 := by
      have hC := HH.out.C (by have := H1.out.short; omega)
      have hT := Kd.C_take hC hle
      rw [List.length_take, Nat.min_eq_left hle] at hT
      exact Kd.C_string (P := Try.prog) (A := A) (c := c) Try.underlying27 Try.underlying5 Try.underlying9 hT
    have HEND : ∀ (W : World), Scn 63 S W g ⟨s1.l.drop m, s1.e⟩ → w1.grownBy W (some g) → Ending.returned (.string (strOfNums (s1.l.take m))) = .returned (.string (strOfNums (s.text most).1)) ∧ Scn 63 S W g (s.text most).2 ∧ w.grownBy W (some g) := fun W h1 h2 => by
      rw [HRES.out]; exact ⟨rfl, h1, grown_trans hg1 h2⟩
    have HE := Aside0.mk HEND
    clear HEND
    go_wp2
    all_goals go_ret
    all_goals first
      | exact HE.out _ (H1.out.dropped_b m hle HB.out hc hc2 HH.out (by assumption)) (grown_set _ _ _ _)
      | exact HE.out _ (H1.out.dropped_b m hle HB.out hc hc2 HH.out rfl) (grown_set _ _ _ _)
      | (refine HE.out _ ?_ (grown_set _ _ _ _); have h_ := H1.out.dropped m hle HB.out hc hc2 HH.out; rw [if_neg (by first | assumption | omega)] at h_; exact h_)

theorem wleft {S : Nat → Prop} {w : World} {g : Nat} {s : Sc} (h : Scn 63 S w g s) :
    Calls Try.prog 22 #[.pointer (some ⟨g, 0, none⟩)] w fun r w' => r = .returned (.int .i64 s.l.length) ∧ w = w' := by
  obtain ⟨A, c, hb, hc, hc2, hh, c0, c1, f0, f1⟩ := h.cells
  clear hb hh h
  go_enter Try.func22, Try.ntmps22
  go_wp2
  go_ret
  exact ⟨rfl, rfl⟩
theorem werr {S : Nat → Prop} {w : World} {g : Nat} {s : Sc} (h : Scn 63 S w g s) :
    Calls Try.prog 23 #[.pointer (some ⟨g, 0, none⟩)] w fun r w' => r = .returned (.int .i64 s.e) ∧ w = w' := by
  obtain ⟨A, c, hb, hc, hc2, hh, c0, c1, f0, f1⟩ := h.cells
  clear hb hh h
  go_enter Try.func23, Try.ntmps23
  go_wp2
  go_ret
  exact ⟨rfl, rfl⟩
set_option maxHeartbeats 400000 in
theorem wend {S : Nat → Prop} {w : World} {g : Nat} {s : Sc} (h : Scn 63 S w g s) :
    Calls Try.prog 24 #[.pointer (some ⟨g, 0, none⟩)] w fun r w' => r = .returned (.int .i64 s.endE) ∧ w = w' := by
  obtain ⟨A, c, hb, hc, hc2, hh, c0, c1, f0, f1⟩ := h.cells
  clear hb hh h
  by_cases e0 : s.e = 0
  · have b0 : (s.e == 0) = true := by simp [e0]
    have E0 := Aside0.mk e0
    clear e0
    by_cases l0 : 0 < s.l.length
    · have d0 : decide (0 < (s.l.length : Int)) = true := by simpa using l0
      have hres : s.endE = 5 := by rw [Sc.endE, if_pos ⟨E0.out, l0⟩]
      have HR := Aside0.mk hres
      clear hres
      go_enter Try.func24, Try.ntmps24
      go_wp2
      go_ret
      exact ⟨by rw [HR.out]; rfl, rfl⟩
    · have d0 : decide (0 < s.l.length) = false := decide_eq_false l0
      have hres : s.endE = s.e := by rw [Sc.endE, if_neg (fun hh => l0 hh.2)]
      have HR := Aside0.mk hres
      clear hres l0
      go_enter Try.func24, Try.ntmps24
      go_wp2
      go_ret
      exact ⟨by rw [HR.out]; rfl, rfl⟩
  · have b0 : (s.e == 0) = false := by simpa using e0
    have hres : s.endE = s.e := by rw [Sc.endE, if_neg (fun hh => e0 hh.1)]
    have HR := Aside0.mk hres
    clear hres e0
    go_enter Try.func24, Try.ntmps24
    go_wp2
    go_ret
    exact ⟨by rw [HR.out]; rfl, rfl⟩
end Go.Proofs.Ytojefdnngkcaoaa
end

section
set_option linter.unusedVariables false
set_option linter.unusedSimpArgs false
set_option autoImplicit false
namespace Go.Proofs.Ytojefdnngkcaoaa
open Go.RowKit Go.Proofs.YtojefdnngkcaoaaW.PrintWords Go.Proofs.YtojefdnngkcaoaaW.PrintLast Go.Proofs.YtojefdnngkcaoaaW.PrintMore

/-- a value that is read: its kind, its int, its text; and the scan behind it -/
structure Vl where
  k : Int
  i : Int
  t : ByteArray
deriving DecidableEq
def Vl.v (x : Vl) : Value := .agg #[.int .i64 x.k, .int .i64 x.i, .string x.t]
def Sc.val0k (k : Int) (s : Sc) : Vl × Sc :=
  if k = 1 then (⟨1, s.int.1, ByteArray.empty⟩, s.int.2)
  else if k = 2 then (⟨2, 0, strOfNums (s.text 64).1⟩, (s.text 64).2)
  else if k = 3 then (⟨3, (s.upto 1).1, ByteArray.empty⟩, (s.upto 1).2)
  else (⟨k, 0, ByteArray.empty⟩, s.fail 3)
def Sc.val0 (s : Sc) : Vl × Sc := Sc.val0k (s.upto 3).1 (s.upto 3).2
def Sc.val (s : Sc) : Vl × Sc := if s.val0.2.e = 0 then s.val0 else (⟨0, 0, ByteArray.empty⟩, s.val0.2)

theorem Scn.low {T : Nat} {S : Nat → Prop} {w : World} {g : Nat} {s : Sc} (h : Scn T S w g s) : Scn T (fun k => S k ∧ k < w.heap.size) w g s := by
  obtain ⟨h1, h2, h3, h4, h5, A, c, h6, h7, h8, h9⟩ := h
  refine ⟨h1, h2, fun h => h3 h.1, h4, h5, A, c, h6, h7, h8, fun h0 => ?_⟩
  obtain ⟨ad, rfl, hS, hc⟩ := h9 h0
  have := World.block_lt_of_cell? _ _ (hc 0 h0)
  rw [add_block] at this
  exact ⟨ad, rfl, ⟨hS, this⟩, hc⟩

/-- a scan, and a block of one's own behind all that lay -/
structure Own1 (T : Nat) (U : Nat) (S : Nat → Prop) (w wx : World) (g : Nat) (s : Sc) (c : Array Value) : Prop where
  heap : wx.heap[w.heap.size]? = some (.cells c U (0, 0))
  scn : Scn T S wx g s
  low : ∀ k, S k → k < w.heap.size
  lt : g < w.heap.size
  grown : w.grownBy wx (some g)
theorem Own1.start {T U : Nat} {S : Nat → Prop} {w : World} {g : Nat} {s : Sc} (h : Scn T S w g s) (c : Array Value) : Own1 T U (fun k => S k ∧ k < w.heap.size) w (w.alloc (.cells c U (0, 0))) g s c :=
  ⟨heap_alloc_new w _, h.low.below ((Below.refl _ _).alloc (Nat.le_refl _) _), fun _ h => h.2, h.lt, World.grownBy_alloc w _ _⟩
theorem Own1.store {T U : Nat} {S : Nat → Prop} {w wx : World} {g : Nat} {s : Sc} {c : Array Value} (h : Own1 T U S w wx g s c) (i : Nat) (v : Value) : Own1 T U S w (wx.setCell ⟨w.heap.size, i, none⟩ v) g s (c.setIfInBounds i v) := by
  have hl := h.lt
  refine ⟨heap_setCell_same _ _ _ _ _ _ h.heap, h.scn.keep fun k hk hs => heap_setCell_other _ _ _ _ ?_, h.low, h.lt, ?_⟩
  · rcases hs with rfl | hs
    · simp; omega
    · have := h.low k hs; simp; omega
  · refine ⟨h.grown.os, h.grown.tape, h.grown.output, by simpa using h.grown.size, fun k hk hne => ?_⟩
    rw [heap_setCell_other _ _ _ _ (by simp; omega)]
    exact h.grown.block k hk hne
theorem Own1.call {T U : Nat} {S : Nat → Prop} {w wx wy : World} {g : Nat} {s s' : Sc} {c : Array Value} (h : Own1 T U S w wx g s c) (hs : Scn T S wy g s') (hg : wx.grownBy wy (some g)) : Own1 T U S w wy g s' c := by
  have hl := h.lt
  refine ⟨?_, hs, h.low, h.lt, grown_trans h.grown hg⟩
  rw [hg.block _ (lt_of_heap h.heap) (fun e => by cases e; omega)]
  exact h.heap
theorem Own1.done {T U : Nat} {S : Nat → Prop} {w wx : World} {g : Nat} {s : Sc} {c : Array Value} (h : Own1 T U (fun k => S k ∧ k < w.heap.size) w wx g s c) (hg : ¬ S g) : Scn T S wx g s ∧ w.grownBy wx (some g) := ⟨h.scn.mono (fun _ h => h.1) hg, h.grown⟩
theorem Own1.cells {T U : Nat} {S : Nat → Prop} {w wx : World} {g : Nat} {s : Sc} {a b d : Value} (h : Own1 T U S w wx g s #[a, b, d]) :
    wx.cell? ⟨w.heap.size, 0, none⟩ = some a ∧ wx.cell? ⟨w.heap.size, 1, none⟩ = some b ∧ wx.cell? ⟨w.heap.size, 2, none⟩ = some d ∧ wx.frozen? ⟨w.heap.size, 0, none⟩ = false ∧ wx.frozen? ⟨w.heap.size, 1, none⟩ = false ∧ wx.frozen? ⟨w.heap.size, 2, none⟩ = false :=
  ⟨by rw [cell_of_row _ _ _ _ _ _ h.heap]; rfl, by rw [cell_of_row _ _ _ _ _ _ h.heap]; rfl, by rw [cell_of_row _ _ _ _ _ _ h.heap]; rfl, frozen_of_row _ _ _ _ _ h.heap, frozen_of_row _ _ _ _ _ h.heap, frozen_of_row _ _ _ _ _ h.heap⟩

theorem Own1.three {T U : Nat} {S : Nat → Prop} {w wx : World} {g : Nat} {s : Sc} {a b d : Value} (h : Own1 T U (fun k => S k ∧ k < w.heap.size) w wx g s #[a, b, d]) (hg : ¬ S g) (x y z : Value) :
    (((wx.setCell ⟨w.heap.size, 0, none⟩ x).setCell ⟨w.heap.size, 1, none⟩ y).setCell ⟨w.heap.size, 2, none⟩ z).heap[w.heap.size]? = some (.cells #[x, y, z] U (0, 0)) ∧ Scn T S (((wx.setCell ⟨w.heap.size, 0, none⟩ x).setCell ⟨w.heap.size, 1, none⟩ y).setCell ⟨w.heap.size, 2, none⟩ z) g s ∧ w.grownBy (((wx.setCell ⟨w.heap.size, 0, none⟩ x).setCell ⟨w.heap.size, 1, none⟩ y).setCell ⟨w.heap.size, 2, none⟩ z) (some g) :=
  ⟨(((h.store 0 x).store 1 y).store 2 z).heap, (((h.store 0 x).store 1 y).store 2 z).done hg⟩
theorem info_val : (Try.prog.info? 23).map (·.size) = some 3 := by kernel_rfl

set_option maxRecDepth 100000 in
set_option maxHeartbeats 4000000 in
theorem wget {S : Nat → Prop} {w : World} {g : Nat} {s : Sc} (h : Scn 63 S w g s) :
    Calls Try.prog 40 #[.pointer (some ⟨g, 0, none⟩)] w fun r w' => r = .returned s.val.1.v ∧ Scn 63 S w' g s.val.2 ∧ w.grownBy w' (some g) := by
  have hne := Aside0.mk h.ne
  have H0 := Aside0.mk (Own1.start (U := 23) h #[.int .i64 0, .int .i64 0, .string ByteArray.empty])
  clear h
  go_enter Try.func40, Try.ntmps40
  go_wp2_with fail
  refine (wupto H0.out.scn 3 (by decide)).mono ?_
  rintro e w1 ⟨rfl, hs, hg⟩
  have H1 := Aside0.mk (H0.out.call hs hg)
  have hV : s.val0 = Sc.val0k (s.upto 3).1 (s.upto 3).2 := rfl
  obtain ⟨k, hk⟩ : ∃ k, (s.upto 3).1 = k := ⟨_, rfl⟩
  obtain ⟨s1, hs1⟩ : ∃ s1, (s.upto 3).2 = s1 := ⟨_, rfl⟩
  rw [hk, hs1] at hV
  rw [hs1] at H1
  rw [hk]
  have HV := Aside0.mk hV
  clear hs hg H0 hk hs1 hV
  obtain ⟨c0, c1, c2, f0, f1, f2⟩ := H1.out.cells
  have H2 := Aside0.mk (H1.out.store 0 (.int .i64 k))
  simp only [List.setIfInBounds_toArray, List.set_cons_zero] at H2
  clear H1
  by_cases k1 : k = 1
  · have b1 : (k == 1) = true := by simp [k1]
    have HV1 : Aside0 (s.val0 = (⟨1, (s1.int).1, ByteArray.empty⟩, (s1.int).2)) := ⟨by rw [HV.out, Sc.val0k, if_pos k1]⟩
    subst k1
    clear HV
    go_wp2_with fail
    refine (wint H2.out.scn).mono ?_
    rintro e w3 ⟨rfl, hs, hg⟩
    have H3 := Aside0.mk (H2.out.call hs hg)
    clear hs hg c0 c1 c2 f0 f1 f2 H2
    obtain ⟨c0, c1, c2, f0, f1, f2⟩ := H3.out.cells
    obtain ⟨s3, hs3⟩ : ∃ s3, (s1.int).2 = s3 := ⟨_, rfl⟩
    obtain ⟨i3, hi3⟩ : ∃ i3, (s1.int).1 = i3 := ⟨_, rfl⟩
    rw [hi3]
    rw [hs3] at H3 HV1
    rw [hi3] at HV1
    have H4 := Aside0.mk (H3.out.store 1 (.int .i64 i3))
    simp only [List.setIfInBounds_toArray, List.set_cons_zero, List.set_cons_succ] at H4
    clear hs3 hi3 H3
    by_cases e0 : s3.e = 0
    · have b2 : (s3.e != 0) = false := by simp [e0]
      have HE : Aside0 (s.val = (⟨1, i3, ByteArray.empty⟩, s3)) := ⟨by rw [Sc.val, HV1.out, if_pos e0]⟩
      clear e0
      go_wp2_with (go_at_call 23; refine (werr H4.out.scn).mono ?_; rintro e w5 ⟨rfl, rfl⟩)
      have hz := H4.out.three hne.out (.int .i64 1) (.int .i64 i3) (.string ByteArray.empty)
      refine bodyPost_ret (results_cell_row (P := Try.prog) (ty := 23) (p := 2) rfl _ _ w.heap.size 23 _ (0, 0) _ rfl hz.1 Try.underlying23 rfl info_val) rfl ?_
      exact ⟨by rw [HE.out]; rfl, by rw [HE.out]; exact hz.2.1, hz.2.2⟩
    · have b2 : (s3.e != 0) = true := by simp [e0]
      have HE : Aside0 (s.val = (⟨0, 0, ByteArray.empty⟩, s3)) := ⟨by rw [Sc.val, HV1.out, if_neg e0]⟩
      clear e0
      go_wp2_with (go_at_call 23; refine (werr H4.out.scn).mono ?_; rintro e w5 ⟨rfl, rfl⟩)
      have hz := H4.out.three hne.out (.int .i64 0) (.int .i64 0) (.string ByteArray.empty)
      refine bodyPost_ret (results_cell_row (P := Try.prog) (ty := 23) (p := 2) rfl _ _ w.heap.size 23 _ (0, 0) _ rfl hz.1 Try.underlying23 rfl info_val) rfl ?_
      exact ⟨by rw [HE.out]; rfl, by rw [HE.out]; exact hz.2.1, hz.2.2⟩
  have n1 := Aside0.mk k1
  have m1 : (k == 1) = false := by simp [k1]
  clear k1
  by_cases k1 : k = 2
  · have b1 : (k == 2) = true := by simp [k1]
    have HV1 : Aside0 (s.val0 = (⟨2, 0, strOfNums (s1.text 64).1⟩, (s1.text 64).2)) := ⟨by rw [HV.out, Sc.val0k, if_neg n1.out, if_pos k1]⟩
    subst k1
    clear HV
    go_wp2_with fail
    refine (wtext H2.out.scn 64 (by decide)).mono ?_
    rintro e w3 ⟨rfl, hs, hg⟩
    have H3 := Aside0.mk (H2.out.call hs hg)
    clear hs hg c0 c1 c2 f0 f1 f2 H2
    obtain ⟨c0, c1, c2, f0, f1, f2⟩ := H3.out.cells
    obtain ⟨s3, hs3⟩ : ∃ s3, (s1.text 64).2 = s3 := ⟨_, rfl⟩
    obtain ⟨i3, hi3⟩ : ∃ i3, (s1.text 64).1 = i3 := ⟨_, rfl⟩
    rw [hi3]
    rw [hs3] at H3 HV1
    rw [hi3] at HV1
    have H4 := Aside0.mk (H3.out.store 2 (.string (strOfNums i3)))
    simp only [List.setIfInBounds_toArray, List.set_cons_zero, List.set_cons_succ] at H4
    clear hs3 hi3 H3
    by_cases e0 : s3.e = 0
    · have b2 : (s3.e != 0) = false := by simp [e0]
      have HE : Aside0 (s.val = (⟨2, 0, strOfNums i3⟩, s3)) := ⟨by rw [Sc.val, HV1.out, if_pos e0]⟩
      clear e0
      go_wp2_with (go_at_call 23; refine (werr H4.out.scn).mono ?_; rintro e w5 ⟨rfl, rfl⟩)
      have hz := H4.out.three hne.out (.int .i64 2) (.int .i64 0) (.string (strOfNums i3))
      refine bodyPost_ret (results_cell_row (P := Try.prog) (ty := 23) (p := 2) rfl _ _ w.heap.size 23 _ (0, 0) _ rfl hz.1 Try.underlying23 rfl info_val) rfl ?_
      exact ⟨by rw [HE.out]; rfl, by rw [HE.out]; exact hz.2.1, hz.2.2⟩
    · have b2 : (s3.e != 0) = true := by simp [e0]
      have HE : Aside0 (s.val = (⟨0, 0, ByteArray.empty⟩, s3)) := ⟨by rw [Sc.val, HV1.out, if_neg e0]⟩
      clear e0
      go_wp2_with (go_at_call 23; refine (werr H4.out.scn).mono ?_; rintro e w5 ⟨rfl, rfl⟩)
      have hz := H4.out.three hne.out (.int .i64 0) (.int .i64 0) (.string ByteArray.empty)
      refine bodyPost_ret (results_cell_row (P := Try.prog) (ty := 23) (p := 2) rfl _ _ w.heap.size 23 _ (0, 0) _ rfl hz.1 Try.underlying23 rfl info_val) rfl ?_
      exact ⟨by rw [HE.out]; rfl, by rw [HE.out]; exact hz.2.1, hz.2.2⟩
  have n2 := Aside0.mk k1
  have m2 : (k == 2) = false := by simp [k1]
  clear k1
  by_cases k1 : k = 3
  · have b1 : (k == 3) = true := by simp [k1]
    have HV1 : Aside0 (s.val0 = (⟨3, (s1.upto 1).1, ByteArray.empty⟩, (s1.upto 1).2)) := ⟨by rw [HV.out, Sc.val0k, if_neg n1.out, if_neg n2.out, if_pos k1]⟩
    subst k1
    clear HV
    go_wp2_with fail
    refine (wupto H2.out.scn 1 (by decide)).mono ?_
    rintro e w3 ⟨rfl, hs, hg⟩
    have H3 := Aside0.mk (H2.out.call hs hg)
    clear hs hg c0 c1 c2 f0 f1 f2 H2
    obtain ⟨c0, c1, c2, f0, f1, f2⟩ := H3.out.cells
    obtain ⟨s3, hs3⟩ : ∃ s3, (s1.upto 1).2 = s3 := ⟨_, rfl⟩
    obtain ⟨i3, hi3⟩ : ∃ i3, (s1.upto 1).1 = i3 := ⟨_, rfl⟩
    rw [hi3]
    rw [hs3] at H3 HV1
    rw [hi3] at HV1
    have H4 := Aside0.mk (H3.out.store 1 (.int .i64 i3))
    simp only [List.setIfInBounds_toArray, List.set_cons_zero, List.set_cons_succ] at H4
    clear hs3 hi3 H3
    by_cases e0 : s3.e = 0
    · have b2 : (s3.e != 0) = false := by simp [e0]
      have HE : Aside0 (s.val = (⟨3, i3, ByteArray.empty⟩, s3)) := ⟨by rw [Sc.val, HV1.out, if_pos e0]⟩
      clear e0
      go_wp2_with (go_at_call 23; refine (werr H4.out.scn).mono ?_; rintro e w5 ⟨rfl, rfl⟩)
      have hz := H4.out.three hne.out (.int .i64 3) (.int .i64 i3) (.string ByteArray.empty)
      refine bodyPost_ret (results_cell_row (P := Try.prog) (ty := 23) (p := 2) rfl _ _ w.heap.size 23 _ (0, 0) _ rfl hz.1 Try.underlying23 rfl info_val) rfl ?_
      exact ⟨by rw [HE.out]; rfl, by rw [HE.out]; exact hz.2.1, hz.2.2⟩
    · have b2 : (s3.e != 0) = true := by simp [e0]
      have HE : Aside0 (s.val = (⟨0, 0, ByteArray.empty⟩, s3)) := ⟨by rw [Sc.val, HV1.out, if_neg e0]⟩
      clear e0
      go_wp2_with (go_at_call 23; refine (werr H4.out.scn).mono ?_; rintro e w5 ⟨rfl, rfl⟩)
      have hz := H4.out.three hne.out (.int .i64 0) (.int .i64 0) (.string ByteArray.empty)
      refine bodyPost_ret (results_cell_row (P := Try.prog) (ty := 23) (p := 2) rfl _ _ w.heap.size 23 _ (0, 0) _ rfl hz.1 Try.underlying23 rfl info_val) rfl ?_
      exact ⟨by rw [HE.out]; rfl, by rw [HE.out]; exact hz.2.1, hz.2.2⟩
  have n3 := Aside0.mk k1
  have m3 : (k == 3) = false := by simp [k1]
  clear k1
  have HV1 : Aside0 (s.val0 = (⟨k, 0, ByteArray.empty⟩, s1.fail 3)) := ⟨by rw [HV.out, Sc.val0k, if_neg n1.out, if_neg n2.out, if_neg n3.out]⟩
  clear HV
  go_wp2_with fail
  refine (wfail H2.out.scn 3 (by decide)).mono ?_
  rintro e w3 ⟨rfl, hs, hg⟩
  have H4 := Aside0.mk (H2.out.call hs hg)
  clear hs hg c0 c1 c2 f0 f1 f2 H2
  obtain ⟨c0, c1, c2, f0, f1, f2⟩ := H4.out.cells
  obtain ⟨s3, hs3⟩ : ∃ s3, s1.fail 3 = s3 := ⟨_, rfl⟩
  rw [hs3] at H4 HV1
  clear hs3
  by_cases e0 : s3.e = 0
  · have b2 : (s3.e != 0) = false := by simp [e0]
    have HE : Aside0 (s.val = (⟨k, 0, ByteArray.empty⟩, s3)) := ⟨by rw [Sc.val, HV1.out, if_pos e0]⟩
    clear e0
    go_wp2_with (go_at_call 23; refine (werr H4.out.scn).mono ?_; rintro e w5 ⟨rfl, rfl⟩)
    have hz := H4.out.three hne.out (.int .i64 k) (.int .i64 0) (.string ByteArray.empty)
    refine bodyPost_ret (results_cell_row (P := Try.prog) (ty := 23) (p := 2) rfl _ _ w.heap.size 23 _ (0, 0) _ rfl hz.1 Try.underlying23 rfl info_val) rfl ?_
    exact ⟨by rw [HE.out]; rfl, by rw [HE.out]; exact hz.2.1, hz.2.2⟩
  · have b2 : (s3.e != 0) = true := by simp [e0]
    have HE : Aside0 (s.val = (⟨0, 0, ByteArray.empty⟩, s3)) := ⟨by rw [Sc.val, HV1.out, if_neg e0]⟩
    clear e0
    go_wp2_with (go_at_call 23; refine (werr H4.out.scn).mono ?_; rintro e w5 ⟨rfl, rfl⟩)
    have hz := H4.out.three hne.out (.int .i64 0) (.int .i64 0) (.string ByteArray.empty)
    refine bodyPost_ret (results_cell_row (P := Try.prog) (ty := 23) (p := 2) rfl _ _ w.heap.size 23 _ (0, 0) _ rfl hz.1 Try.underlying23 rfl info_val) rfl ?_
    exact ⟨by rw [HE.out]; rfl, by rw [HE.out]; exact hz.2.1, hz.2.2⟩
theorem Sc.upto_in (s : Sc) (hu : u8s s.l) (hne : s.e ≠ 0 → s.l = []) : 0 ≤ (s.upto 3).1 ∧ (s.upto 3).1 ≤ 3 := by
  have h := s.num_lt hu
  have hz := s.num_zero hne
  unfold Sc.upto
  by_cases he : s.num.2.e = 0
  · by_cases h3 : 3 < s.num.1
    · rw [if_pos ⟨he, .inr h3⟩]; simp
    · rw [if_neg (fun hh => by rcases hh.2 with hh | hh <;> omega)]
      unfold wrap64
      simp only
      omega
  · rw [if_neg (fun hh => he hh.1), hz he]
    simp only
    unfold wrap64
    omega

set_option maxRecDepth 100000 in
set_option maxHeartbeats 4000000 in
theorem rget {S : Nat → Prop} {w : World} {g : Nat} {s : Sc} (h : Scn 44 S w g s) :
    Calls Try.prog 44 #[.pointer (some ⟨g, 0, none⟩)] w fun r w' => r = .returned s.val.1.v ∧ Scn 44 S w' g s.val.2 ∧ w.grownBy w' (some g) := by
  have hne := Aside0.mk h.ne
  have hb := s.upto_in h.u8 h.err
  have HZ := Aside0.mk (Own1.start (U := 23) h #[.int .i64 0, .int .i64 0, .string ByteArray.empty])
  clear h
  go_enter Try.func44, Try.ntmps44
  go_wp2_with fail
  refine (rupto HZ.out.scn 3 (by decide)).mono ?_
  rintro e w1 ⟨rfl, hs, hg⟩
  have H0 := Aside0.mk (HZ.out.call hs hg)
  have hV : s.val0 = Sc.val0k (s.upto 3).1 (s.upto 3).2 := rfl
  obtain ⟨k, hk⟩ : ∃ k, (s.upto 3).1 = k := ⟨_, rfl⟩
  obtain ⟨s1, hs1⟩ : ∃ s1, (s.upto 3).2 = s1 := ⟨_, rfl⟩
  rw [hk] at hb
  rw [hk, hs1] at hV
  rw [hs1] at H0
  rw [hk]
  have HV := Aside0.mk hV
  clear hs hg HZ hk hs1 hV
  have H1 := Aside0.mk (Own1.start (U := 23) H0.out.scn #[.int .i64 k, .int .i64 0, .string ByteArray.empty])
  have hg1 : g < w1.heap.size := H0.out.scn.lt
  have hg2 : (w1.heap.size = g) = False := by simp; omega
  have hg3 : (g = w1.heap.size) = False := by simp; omega
  have hg0 := lt_of_heap H0.out.heap
  have hg4 : (w1.heap.size = w.heap.size) = False := by simp; omega
  have hg5 : (w.heap.size = w1.heap.size) = False := by simp; omega
  have hq := Aside0.mk (show ¬ (S g ∧ g < w.heap.size) from fun h => hne.out h.1)
  clear hg1 hg0
  by_cases k0 : k = 0
  · have b1 : (k == 0) = true := by simp [k0]
    have HV1 : Aside0 (s.val0 = (⟨0, 0, ByteArray.empty⟩, s1.fail 3)) := ⟨by rw [HV.out, k0]; rfl⟩
    subst k0
    clear HV
    go_wp2_with fail
    refine (rfail H1.out.scn 3 (by decide)).mono ?_
    rintro e w3 ⟨rfl, hs, hg⟩
    have H4 := Aside0.mk (H1.out.call hs hg)
    clear hs hg H1
    obtain ⟨d0, d1, d2, p0, p1, p2⟩ := H4.out.cells
    obtain ⟨r0, r1, r2, q0, q1, q2⟩ := (H0.out.call (H4.out.scn.mono (fun _ h => h.1) hq.out) H4.out.grown).cells
    obtain ⟨s3, hs3⟩ : ∃ s3, s1.fail 3 = s3 := ⟨_, rfl⟩
    rw [hs3] at H4 HV1
    obtain ⟨A, c, hb0, _, _, hh, c0, c1, f0, f1⟩ := H4.out.scn.cells
    clear hb0 hh hs3
    by_cases e0 : s3.e = 0
    · have b2 : (s3.e != 0) = false := by simp [e0]
      have HE : Aside0 (s.val = (⟨0, 0, ByteArray.empty⟩, s3)) := ⟨by rw [Sc.val, HV1.out, if_pos e0]⟩
      clear e0
      go_wp2
      have hz := (H0.out.call (H4.out.scn.mono (fun _ h => h.1) hq.out) H4.out.grown).three hne.out (.int .i64 0) (.int .i64 0) (.string ByteArray.empty)
      refine bodyPost_ret (results_cell_row (P := Try.prog) (ty := 23) (p := 2) rfl _ _ w.heap.size 23 _ (0, 0) _ rfl hz.1 Try.underlying23 rfl info_val) rfl ?_
      exact ⟨by rw [HE.out]; rfl, by rw [HE.out]; exact hz.2.1, hz.2.2⟩
    · have b2 : (s3.e != 0) = true := by simp [e0]
      have HE : Aside0 (s.val = (⟨0, 0, ByteArray.empty⟩, s3)) := ⟨by rw [Sc.val, HV1.out, if_neg e0]⟩
      clear e0
      go_wp2
      have hz := (H0.out.call (H4.out.scn.mono (fun _ h => h.1) hq.out) H4.out.grown).three hne.out (.int .i64 0) (.int .i64 0) (.string ByteArray.empty)
      refine bodyPost_ret (results_cell_row (P := Try.prog) (ty := 23) (p := 2) rfl _ _ w.heap.size 23 _ (0, 0) _ rfl hz.1 Try.underlying23 rfl info_val) rfl ?_
      exact ⟨by rw [HE.out]; rfl, by rw [HE.out]; exact hz.2.1, hz.2.2⟩
  have m0 : (k == 0) = false := by simp [k0]
  by_cases k1 : k = 1
  · have b1 : (k == 1) = true := by simp [k1]
    have HV1 : Aside0 (s.val0 = (⟨1, (s1.int).1, ByteArray.empty⟩, (s1.int).2)) := ⟨by rw [HV.out, Sc.val0k, if_pos k1]⟩
    subst k1
    clear HV
    go_wp2_with fail
    refine (rint H1.out.scn).mono ?_
    rintro e w3 ⟨rfl, hs, hg⟩
    have H3 := Aside0.mk (H1.out.call hs hg)
    clear hs hg H1
    obtain ⟨d0, d1, d2, p0, p1, p2⟩ := H3.out.cells
    obtain ⟨r0, r1, r2, q0, q1, q2⟩ := (H0.out.call (H3.out.scn.mono (fun _ h => h.1) hq.out) H3.out.grown).cells
    obtain ⟨s3, hs3⟩ : ∃ s3, (s1.int).2 = s3 := ⟨_, rfl⟩
    obtain ⟨i3, hi3⟩ : ∃ i3, (s1.int).1 = i3 := ⟨_, rfl⟩
    rw [hi3]
    rw [hs3] at H3 HV1
    rw [hi3] at HV1
    obtain ⟨A, c, hb0, _, _, hh, c0, c1, f0, f1⟩ := H3.out.scn.cells
    have H4 := Aside0.mk (H3.out.store 1 (.int .i64 i3))
    clear hb0 hh hs3 hi3 H3
    by_cases e0 : s3.e = 0
    · have b2 : (s3.e != 0) = false := by simp [e0]
      have HE : Aside0 (s.val = (⟨1, i3, ByteArray.empty⟩, s3)) := ⟨by rw [Sc.val, HV1.out, if_pos e0]⟩
      clear e0
      go_wp2
      have hz := (H0.out.call (H4.out.scn.mono (fun _ h => h.1) hq.out) H4.out.grown).three hne.out (.int .i64 1) (.int .i64 i3) (.string ByteArray.empty)
      refine bodyPost_ret (results_cell_row (P := Try.prog) (ty := 23) (p := 2) rfl _ _ w.heap.size 23 _ (0, 0) _ rfl hz.1 Try.underlying23 rfl info_val) rfl ?_
      exact ⟨by rw [HE.out]; rfl, by rw [HE.out]; exact hz.2.1, hz.2.2⟩
    · have b2 : (s3.e != 0) = true := by simp [e0]
      have HE : Aside0 (s.val = (⟨0, 0, ByteArray.empty⟩, s3)) := ⟨by rw [Sc.val, HV1.out, if_neg e0]⟩
      clear e0
      go_wp2
      have hz := (H0.out.call (H4.out.scn.mono (fun _ h => h.1) hq.out) H4.out.grown).three hne.out (.int .i64 0) (.int .i64 0) (.string ByteArray.empty)
      refine bodyPost_ret (results_cell_row (P := Try.prog) (ty := 23) (p := 2) rfl _ _ w.heap.size 23 _ (0, 0) _ rfl hz.1 Try.underlying23 rfl info_val) rfl ?_
      exact ⟨by rw [HE.out]; rfl, by rw [HE.out]; exact hz.2.1, hz.2.2⟩
  have n1 := Aside0.mk k1
  have m1 : (k == 1) = false := by simp [k1]
  by_cases k2 : k = 2
  · have b1 : (k == 2) = true := by simp [k2]
    have HV1 : Aside0 (s.val0 = (⟨2, 0, strOfNums (s1.text 64).1⟩, (s1.text 64).2)) := ⟨by rw [HV.out, Sc.val0k, if_neg n1.out, if_pos k2]⟩
    subst k2
    clear HV
    go_wp2_with fail
    refine (rtext H1.out.scn 64 (by decide)).mono ?_
    rintro e w3 ⟨rfl, hs, hg⟩
    have H3 := Aside0.mk (H1.out.call hs hg)
    clear hs hg H1
    obtain ⟨d0, d1, d2, p0, p1, p2⟩ := H3.out.cells
    obtain ⟨r0, r1, r2, q0, q1, q2⟩ := (H0.out.call (H3.out.scn.mono (fun _ h => h.1) hq.out) H3.out.grown).cells
    obtain ⟨s3, hs3⟩ : ∃ s3, (s1.text 64).2 = s3 := ⟨_, rfl⟩
    obtain ⟨i3, hi3⟩ : ∃ i3, (s1.text 64).1 = i3 := ⟨_, rfl⟩
    rw [hi3]
    rw [hs3] at H3 HV1
    rw [hi3] at HV1
    obtain ⟨A, c, hb0, _, _, hh, c0, c1, f0, f1⟩ := H3.out.scn.cells
    have H4 := Aside0.mk (H3.out.store 2 (.string (strOfNums i3)))
    clear hb0 hh hs3 hi3 H3
    by_cases e0 : s3.e = 0
    · have b2 : (s3.e != 0) = false := by simp [e0]
      have HE : Aside0 (s.val = (⟨2, 0, strOfNums i3⟩, s3)) := ⟨by rw [Sc.val, HV1.out, if_pos e0]⟩
      clear e0
      go_wp2
      have hz := (H0.out.call (H4.out.scn.mono (fun _ h => h.1) hq.out) H4.out.grown).three hne.out (.int .i64 2) (.int .i64 0) (.string (strOfNums i3))
      refine bodyPost_ret (results_cell_row (P := Try.prog) (ty := 23) (p := 2) rfl _ _ w.heap.size 23 _ (0, 0) _ rfl hz.1 Try.underlying23 rfl info_val) rfl ?_
      exact ⟨by rw [HE.out]; rfl, by rw [HE.out]; exact hz.2.1, hz.2.2⟩
    · have b2 : (s3.e != 0) = true := by simp [e0]
      have HE : Aside0 (s.val = (⟨0, 0, ByteArray.empty⟩, s3)) := ⟨by rw [Sc.val, HV1.out, if_neg e0]⟩
      clear e0
      go_wp2
      have hz := (H0.out.call (H4.out.scn.mono (fun _ h => h.1) hq.out) H4.out.grown).three hne.out (.int .i64 0) (.int .i64 0) (.string ByteArray.empty)
      refine bodyPost_ret (results_cell_row (P := Try.prog) (ty := 23) (p := 2) rfl _ _ w.heap.size 23 _ (0, 0) _ rfl hz.1 Try.underlying23 rfl info_val) rfl ?_
      exact ⟨by rw [HE.out]; rfl, by rw [HE.out]; exact hz.2.1, hz.2.2⟩
  have n2 := Aside0.mk k2
  have m2 : (k == 2) = false := by simp [k2]
  have k3 : k = 3 := by omega
  clear k0 k1 k2 hb
  have b1 : (k == 3) = true := by simp [k3]
  have HV1 : Aside0 (s.val0 = (⟨3, (s1.upto 1).1, ByteArray.empty⟩, (s1.upto 1).2)) := ⟨by rw [HV.out, Sc.val0k, if_neg n1.out, if_neg n2.out, if_pos k3]⟩
  subst k3
  clear HV
  go_wp2_with fail
  refine (rupto H1.out.scn 1 (by decide)).mono ?_
  rintro e w3 ⟨rfl, hs, hg⟩
  have H3 := Aside0.mk (H1.out.call hs hg)
  clear hs hg H1
  obtain ⟨d0, d1, d2, p0, p1, p2⟩ := H3.out.cells
  obtain ⟨r0, r1, r2, q0, q1, q2⟩ := (H0.out.call (H3.out.scn.mono (fun _ h => h.1) hq.out) H3.out.grown).cells
  obtain ⟨s3, hs3⟩ : ∃ s3, (s1.upto 1).2 = s3 := ⟨_, rfl⟩
  obtain ⟨i3, hi3⟩ : ∃ i3, (s1.upto 1).1 = i3 := ⟨_, rfl⟩
  rw [hi3]
  rw [hs3] at H3 HV1
  rw [hi3] at HV1
  obtain ⟨A, c, hb0, _, _, hh, c0, c1, f0, f1⟩ := H3.out.scn.cells
  have H4 := Aside0.mk (H3.out.store 1 (.int .i64 i3))
  clear hb0 hh hs3 hi3 H3
  by_cases e0 : s3.e = 0
  · have b2 : (s3.e != 0) = false := by simp [e0]
    have HE : Aside0 (s.val = (⟨3, i3, ByteArray.empty⟩, s3)) := ⟨by rw [Sc.val, HV1.out, if_pos e0]⟩
    clear e0
    go_wp2
    have hz := (H0.out.call (H4.out.scn.mono (fun _ h => h.1) hq.out) H4.out.grown).three hne.out (.int .i64 3) (.int .i64 i3) (.string ByteArray.empty)
    refine bodyPost_ret (results_cell_row (P := Try.prog) (ty := 23) (p := 2) rfl _ _ w.heap.size 23 _ (0, 0) _ rfl hz.1 Try.underlying23 rfl info_val) rfl ?_
    exact ⟨by rw [HE.out]; rfl, by rw [HE.out]; exact hz.2.1, hz.2.2⟩
  · have b2 : (s3.e != 0) = true := by simp [e0]
    have HE : Aside0 (s.val = (⟨0, 0, ByteArray.empty⟩, s3)) := ⟨by rw [Sc.val, HV1.out, if_neg e0]⟩
    clear e0
    go_wp2
    have hz := (H0.out.call (H4.out.scn.mono (fun _ h => h.1) hq.out) H4.out.grown).three hne.out (.int .i64 0) (.int .i64 0) (.string ByteArray.empty)
    refine bodyPost_ret (results_cell_row (P := Try.prog) (ty := 23) (p := 2) rfl _ _ w.heap.size 23 _ (0, 0) _ rfl hz.1 Try.underlying23 rfl info_val) rfl ?_
    exact ⟨by rw [HE.out]; rfl, by rw [HE.out]; exact hz.2.1, hz.2.2⟩
end Go.Proofs.Ytojefdnngkcaoaa
end

section
-- Written by a program of this session (wip/tools/myprint.py), over the kit's print.
namespace Go.Proofs.Ytojefdnngkcaoaa.G
open Go.RowKit Go.Proofs.YtojefdnngkcaoaaW.PrintWords Go.Proofs.YtojefdnngkcaoaaW.PrintLast Go.Proofs.YtojefdnngkcaoaaW.PrintMore
attribute [local go_sem] max2_int min2_int max_two min_two max_three min_three max_four min_four   -- for this text's walks alone
set_option linter.unusedVariables false
set_option linter.unusedSimpArgs false



def errW : Option Int → Value
  | none => .nilIface
  | some c => .iface 0 (.int .i64 c)
theorem errW_none : errW none = .nilIface := rfl
theorem errW_some (c : Int) : errW (some c) = .iface 0 (.int .i64 c) := rfl

theorem info3 : (Try.prog.info? 3).map (fun i => (i.zero, i.size, i.bytes)) = some (some (.int .i64 0), 1, 8) := by kernel_rfl
theorem info5 : (Try.prog.info? 5).map (fun i => (i.zero, i.size, i.bytes)) = some (some (.int .u8 0), 1, 1) := by kernel_rfl
-- the values' own types
/-! #### struct type 23 -/
structure S23 where
  f0 : Int
  f1 : Int
  f2 : ByteArray
def z23 : S23 := ⟨(0 : Int), (0 : Int), (⟨#[]⟩ : ByteArray)⟩
def k23 : Kd S23 := Kd.iso (Kd.pair (Kd.int .i64) (Kd.pair (Kd.int .i64) Kd.string)) (fun x : S23 => (x.f0, x.f1, x.f2))
theorem k23_open {w : World} {x : S23} {cs : List Value} (h : k23.K w x cs) : cs = [.int .i64 x.f0, .int .i64 x.f1, .string x.f2] := by
  obtain ⟨_, _, rfl, rfl, ⟨_, _, rfl, rfl, rfl⟩⟩ := h
  exact rfl
theorem k23_openM {w : World} {base : Nat} {ok : Nat → Prop} {x : S23} {cs : List Value} (h : k23.M w base ok x cs) : cs = [.int .i64 x.f0, .int .i64 x.f1, .string x.f2] := by
  obtain ⟨_, _, rfl, rfl, ⟨_, _, rfl, rfl, rfl⟩⟩ := h
  exact rfl
theorem k23_mk (w : World) (x : S23)  : k23.K w x [.int .i64 x.f0, .int .i64 x.f1, .string x.f2] := ⟨[.int .i64 x.f0], [.int .i64 x.f1, .string x.f2], rfl, rfl, ⟨[.int .i64 x.f1], [.string x.f2], rfl, rfl, rfl⟩⟩
theorem k23_mkM (w : World) (base : Nat) (ok : Nat → Prop) (x : S23)  : k23.M w base ok x [.int .i64 x.f0, .int .i64 x.f1, .string x.f2] := ⟨[.int .i64 x.f0], [.int .i64 x.f1, .string x.f2], rfl, rfl, ⟨[.int .i64 x.f1], [.string x.f2], rfl, rfl, rfl⟩⟩
def rd_T23 (xs : List S23) (i : Int) : S23 := xs.getD i.toNat z23
theorem at_T23 {w : World} {A : Option Addr} {n : Nat} {xs : List S23} (h : Kd.C k23 w A n xs) (i : Int) (h0 : 0 ≤ i) (h1 : i < n) : ∃ ad , A = some ad ∧ w.cell? (ad.add (i.toNat * 3)) = some (.int .i64 (rd_T23 xs i).f0) ∧ w.cell? ⟨(ad.add (i.toNat * 3)).block, (ad.add (i.toNat * 3)).off + 1, none⟩ = some (.int .i64 (rd_T23 xs i).f1) ∧ w.cell? ⟨(ad.add (i.toNat * 3)).block, (ad.add (i.toNat * 3)).off + 2, none⟩ = some (.string (rd_T23 xs i).f2) := by
  obtain ⟨ad, c, e, _, hK, hc0⟩ := Kd.C_get h z23 i h0 h1
  have hc : ∀ j u, c[j]? = some u → w.cell? (ad.add (i.toNat * 3 + j)) = some u := hc0
  obtain rfl := k23_open hK
  exact ⟨ad, e, hc 0 _ rfl, by rw [← add_field _ _ 1 (by omega)]; exact hc 1 _ rfl, by rw [← add_field _ _ 2 (by omega)]; exact hc 2 _ rfl⟩

/-! #### struct type 52 -/
structure S52 where
  f0 : ByteArray
  f1 : S23
def z52 : S52 := ⟨(⟨#[]⟩ : ByteArray), z23⟩
def k52 : Kd S52 := Kd.iso (Kd.pair Kd.string k23) (fun x : S52 => (x.f0, x.f1))
theorem k52_open {w : World} {x : S52} {cs : List Value} (h : k52.K w x cs) : cs = [.string x.f0, .int .i64 x.f1.f0, .int .i64 x.f1.f1, .string x.f1.f2] := by
  obtain ⟨_, _, rfl, rfl, s1⟩ := h
  obtain rfl := k23_open s1
  exact rfl
theorem k52_openM {w : World} {base : Nat} {ok : Nat → Prop} {x : S52} {cs : List Value} (h : k52.M w base ok x cs) : cs = [.string x.f0, .int .i64 x.f1.f0, .int .i64 x.f1.f1, .string x.f1.f2] := by
  obtain ⟨_, _, rfl, rfl, s1⟩ := h
  obtain rfl := k23_openM s1
  exact rfl
theorem k52_mk (w : World) (x : S52)  : k52.K w x [.string x.f0, .int .i64 x.f1.f0, .int .i64 x.f1.f1, .string x.f1.f2] := ⟨[.string x.f0], [.int .i64 x.f1.f0, .int .i64 x.f1.f1, .string x.f1.f2], rfl, rfl, (k23_mk w x.f1 )⟩
theorem k52_mkM (w : World) (base : Nat) (ok : Nat → Prop) (x : S52)  : k52.M w base ok x [.string x.f0, .int .i64 x.f1.f0, .int .i64 x.f1.f1, .string x.f1.f2] := ⟨[.string x.f0], [.int .i64 x.f1.f0, .int .i64 x.f1.f1, .string x.f1.f2], rfl, rfl, (k23_mkM w base ok x.f1 )⟩
def rd_T52 (xs : List S52) (i : Int) : S52 := xs.getD i.toNat z52
theorem at_T52 {w : World} {A : Option Addr} {n : Nat} {xs : List S52} (h : Kd.C k52 w A n xs) (i : Int) (h0 : 0 ≤ i) (h1 : i < n) : ∃ ad , A = some ad ∧ w.cell? (ad.add (i.toNat * 4)) = some (.string (rd_T52 xs i).f0) ∧ w.cell? ⟨(ad.add (i.toNat * 4)).block, (ad.add (i.toNat * 4)).off + 1, none⟩ = some (.int .i64 (rd_T52 xs i).f1.f0) ∧ w.cell? ⟨(ad.add (i.toNat * 4)).block, (ad.add (i.toNat * 4)).off + 2, none⟩ = some (.int .i64 (rd_T52 xs i).f1.f1) ∧ w.cell? ⟨(ad.add (i.toNat * 4)).block, (ad.add (i.toNat * 4)).off + 3, none⟩ = some (.string (rd_T52 xs i).f1.f2) := by
  obtain ⟨ad, c, e, _, hK, hc0⟩ := Kd.C_get h z52 i h0 h1
  have hc : ∀ j u, c[j]? = some u → w.cell? (ad.add (i.toNat * 4 + j)) = some u := hc0
  obtain rfl := k52_open hK
  exact ⟨ad, e, hc 0 _ rfl, by rw [← add_field _ _ 1 (by omega)]; exact hc 1 _ rfl, by rw [← add_field _ _ 2 (by omega)]; exact hc 2 _ rfl, by rw [← add_field _ _ 3 (by omega)]; exact hc 3 _ rfl⟩

def rd_L4 (xs : List (List S52)) (i : Int) : (List S52) := xs.getD i.toNat ([] : List S52)
theorem at_L4 {w : World} {A : Option Addr} {n : Nat} {xs : List (List S52)} (h : Kd.C (Kd.slice 52 k52) w A n xs) (i : Int) (h0 : 0 ≤ i) (h1 : i < n) : ∃ ad A0 c0, A = some ad ∧ w.cell? (ad.add i.toNat) = some (.slice A0 (rd_L4 xs i).length c0) ∧ (rd_L4 xs i).length ≤ c0 ∧ k52.C w A0 (rd_L4 xs i).length (rd_L4 xs i) := by
  obtain ⟨ad, c, e, _, hK, hc0⟩ := Kd.C_get h ([] : List S52) i h0 h1
  have hc : ∀ j u, c[j]? = some u → w.cell? (ad.add (i.toNat * 1 + j)) = some u := hc0
  obtain ⟨A0, c0, rfl, l0, g0⟩ := hK
  exact ⟨ad, A0, c0, e, by have hq := hc 0 _ rfl; rwa [Nat.mul_one, Nat.add_zero] at hq, l0, g0⟩

def rd_L7 (xs : List (List Int)) (i : Int) : (List Int) := xs.getD i.toNat ([] : List Int)
theorem at_L7 {w : World} {A : Option Addr} {n : Nat} {xs : List (List Int)} (h : Kd.C (Kd.slice 5 (Kd.int .u8)) w A n xs) (i : Int) (h0 : 0 ≤ i) (h1 : i < n) : ∃ ad A0 c0, A = some ad ∧ w.cell? (ad.add i.toNat) = some (.slice A0 (rd_L7 xs i).length c0) ∧ (rd_L7 xs i).length ≤ c0 ∧ (Kd.int .u8).C w A0 (rd_L7 xs i).length (rd_L7 xs i) := by
  obtain ⟨ad, c, e, _, hK, hc0⟩ := Kd.C_get h ([] : List Int) i h0 h1
  have hc : ∀ j u, c[j]? = some u → w.cell? (ad.add (i.toNat * 1 + j)) = some u := hc0
  obtain ⟨A0, c0, rfl, l0, g0⟩ := hK
  exact ⟨ad, A0, c0, e, by have hq := hc 0 _ rfl; rwa [Nat.mul_one, Nat.add_zero] at hq, l0, g0⟩

end Go.Proofs.Ytojefdnngkcaoaa.G
end

section
-- Written by a program of this session (wip/tools/myprint.py), over the kit's print.
namespace Go.Proofs.Ytojefdnngkcaoaa.G
open Go.RowKit Go.Proofs.YtojefdnngkcaoaaW.PrintWords Go.Proofs.YtojefdnngkcaoaaW.PrintLast Go.Proofs.YtojefdnngkcaoaaW.PrintMore
attribute [local go_sem] max2_int min2_int max_two min_two max_three min_three max_four min_four   -- for this text's walks alone
set_option linter.unusedVariables false
set_option linter.unusedSimpArgs false

-- BY HAND
def slices_Clone_byte_byte.f (l0 : List Int) : Option (List Int) := if l0.length ≤ 140737488355328 then some l0 else none
set_option maxRecDepth 100000 in
set_option maxHeartbeats 400000 in
theorem slices_Clone_byte_byte.calls (A0 : Option Addr) (c0 : Nat) (l0 : List Int) (r : List Int) (w : World) (hr0 : Kd.C (Kd.int .u8) w A0 l0.length l0) (hc0 : l0.length ≤ c0) (h : slices_Clone_byte_byte.f l0 = some r) :
    Calls Try.prog 31 #[.slice A0 l0.length c0] w fun e w' => ∃ v0_ : Value, e = .returned (v0_) ∧ Kd.R (Kd.int .u8) 5 w' w.heap.size (fun _ => True) v0_ r ∧ Below w.heap.size w w' := by
  have hh := h
  clear h
  unfold slices_Clone_byte_byte.f at hh
  split at hh
  · rename_i hl
    obtain rfl := Option.some.inj hh
    clear hh
    have HR := Aside0.mk hr0
    clear hr0
    have heq := fun (W : World) (n c : Nat) => Lib.run_eql_slice_nil (P := Try.prog) W 27 5 A0 n c 0 0 Try.underlying27
    have hinfo : (Try.prog.info? 5).map (fun i => (i.zero, i.size, i.bytes)) = some (some (.int .u8 0), 1, 1) := by kernel_rfl
    have Hinfo := Aside0.mk hinfo
    clear hinfo
    cases A0 with
    | none =>
      have h0 : l0 = [] := by
        have h1 := HR.out.2.2
        cases l0 with
        | nil => rfl
        | cons x l => obtain ⟨ad, h2, _⟩ := h1 (by simp); cases h2
      subst h0
      go_enter Try.func31, Try.ntmps31
      go_wp2
      go_ret
      exact ⟨_, rfl, Kd.R_nil _ _ _ _ _, Below.refl _ _⟩
    | some ad =>
      go_enter Try.func31, Try.ntmps31
      go_wp2_with (at_builtin; refine Kd.R_append_rows (Kd.int .u8) (w0 := w) w.heap.size rfl (.tmp 5) (.tmp 6) 27 5 (.int .u8 0) 1 rfl Try.underlying27 Hinfo.out rfl (by decide) (by decide) (.slice (some ⟨w.heap.size, 0, none⟩) 0 0) [] l0 (some ad) l0.length c0 (fun _ => True) (fun _ => False) rfl rfl (kd_R (xs := []) (World.ownsRow_made w #[] 0 (Nat.le_refl _) (by decide) rfl)) (Kd.C_alloc HR.out _) (fun _ _ h => h) (fun _ h => h.elim) (fun _ _ => trivial) ((Below.refl _ _).alloc (Nat.le_refl _) _) (by simp) (by simpa using hl) ?_; intro v1 w1 HO1 hB1 _ _)
      go_ret
      exact ⟨v1, rfl, HO1, hB1⟩
  · cases hh

end Go.Proofs.Ytojefdnngkcaoaa.G
end

section
set_option linter.unusedVariables false
set_option linter.unusedSimpArgs false
set_option autoImplicit false
namespace Go.Proofs.Ytojefdnngkcaoaa
open Go.RowKit Go.Proofs.YtojefdnngkcaoaaW.PrintWords Go.Proofs.YtojefdnngkcaoaaW.PrintLast Go.Proofs.YtojefdnngkcaoaaW.PrintMore Go.Proofs.Ytojefdnngkcaoaa.G

theorem held_own {W : World} {base e : Nat} {ok : Nat → Prop} {v : Value} {xs : List Int} (h : (Kd.int .u8).R e W base ok v xs) :
    ∃ A c, v = .slice A xs.length c ∧ xs.length ≤ c ∧ c ≤ 9223372036854775807 ∧ HeldB W (fun k => base ≤ k ∧ k < W.heap.size) A xs ∧ (Kd.int .u8).C W A xs.length xs := by
  obtain ⟨A, c, rfl, hc, hC⟩ := own_C h
  obtain ⟨_, ho⟩ := kd_own h
  rcases ho with ⟨h1, h2⟩ | ⟨g, cap, cur, h1, h2, h3, h4, h5, h6, h7⟩
  · simp only [Value.slice.injEq] at h1
    obtain ⟨rfl, _, rfl⟩ := h1
    exact ⟨none, 0, rfl, by omega, by omega, fun h0 => absurd h0 (by omega), hC⟩
  · cases h1
    refine ⟨_, _, rfl, hc, by simpa [maxLen] using h5, HeldB.of_C hC ?_, hC⟩
    rintro ad hA _
    cases hA
    exact ⟨h2, lt_of_heap h3⟩
theorem HeldB.below {w w' : World} {S : Nat → Prop} {A : Option Addr} {l : List Int} (h : HeldB w S A l) (hb : Below w.heap.size w w') : HeldB w' S A l := h.keep fun k hk _ => hb.block k hk
theorem HeldB.grown {w w' : World} {S : Nat → Prop} {A : Option Addr} {l : List Int} {r : Nat} (h : HeldB w S A l) (hb : w.grownBy w' (some r)) (h2 : ¬ S r) : HeldB w' S A l :=
  h.keep fun k hk hs => hb.block k hk (fun e => by cases e; exact h2 hs)
theorem HeldB.low {w : World} {A : Option Addr} {l : List Int} (h : (Kd.int .u8).C w A l.length l) : HeldB w (fun k => k < w.heap.size) A l := by
  refine HeldB.of_C h ?_
  rintro ad rfl h0
  obtain ⟨_, _, hr⟩ := Kd.reads_of_C (d := (0 : Int)) h
  obtain ⟨ad', e, hc⟩ := hr h0
  cases e
  have := World.block_lt_of_cell? _ _ (hc 0 h0)
  rwa [add_block] at this
set_option maxRecDepth 100000 in
set_option maxHeartbeats 1000000 in
/-- a scan ahead of bytes: a block of its own, and bytes of its own -/
theorem won (A0 : Option Addr) (c0 : Nat) (l0 : List Int) (w : World) (hr0 : (Kd.int .u8).C w A0 l0.length l0) (hc0 : l0.length ≤ c0) (hu : u8s l0) (hl : l0.length ≤ 140737488355300) :
    Calls Try.prog 19 #[.slice A0 l0.length c0] w fun e w' => ∃ g, e = .returned (.pointer (some ⟨g, 0, none⟩)) ∧ w.heap.size ≤ g ∧ Scn 63 (fun k => w.heap.size ≤ k ∧ k < g) w' g ⟨l0, 0⟩ ∧ Below w.heap.size w w' := by
  have hcl := Aside0.mk (show slices_Clone_byte_byte.f l0 = some l0 by unfold slices_Clone_byte_byte.f; rw [if_pos (by omega)])
  have HU := Aside0.mk hu
  have HL := Aside0.mk hl
  clear hu hl
  go_enter Try.func19, Try.ntmps19
  go_wp2_with fail
  refine (slices_Clone_byte_byte.calls _ _ l0 l0 _ hr0 hc0 hcl.out).mono ?_
  rintro e w1 ⟨v1, rfl, hR1, hB1⟩
  obtain ⟨A1, n1, rfl, hc1, hm1, hH1, hC1⟩ := held_own hR1
  clear hr0 hR1 hC1 hc0
  have HB := Aside0.mk hB1
  have HH := Aside0.mk hH1
  clear hB1 hH1
  go_wp2_with fail
  go_ret
  have hB := HB.out
  have hh := heap_alloc_new w1 (.cells #[.slice A1 l0.length n1, .int .i64 0] 63)
  refine ⟨w1.heap.size, rfl, hB.size, ⟨HU.out, fun h => absurd rfl h, fun h => by omega, by have := HL.out; simp only; omega, by simp, A1, n1, hh, hc1, hm1, ?_⟩, hB.alloc hB.size _⟩
  exact HH.out.keep fun k hk _ => by rw [show (w1.alloc _).heap = w1.heap.push _ from rfl, Array.getElem?_push, if_neg (by omega)]
theorem Scn.drewN {T : Nat} {S : Nat → Prop} {w : World} {g : Nat} {s : Sc} (h : Scn T S w g s) (n : Nat) : Scn T S (w.drewN n) g s := h.below (pw_below_drewN (Below.refl _ _) n)
theorem werrq {S : Nat → Prop} {w : World} {g : Nat} {s : Sc} (h : Scn 63 S w g s) (n : Nat) :
    Calls Try.prog 23 #[.pointer (some ⟨g, 0, none⟩)] (w.drewN n) fun r w' => r = .returned (.int .i64 s.e) ∧ ∃ m, w' = w.drewN m := (werr (h.drewN n)).mono fun _ _ ⟨a, b⟩ => ⟨a, n, b.symm⟩
theorem wleftq {S : Nat → Prop} {w : World} {g : Nat} {s : Sc} (h : Scn 63 S w g s) (n : Nat) :
    Calls Try.prog 22 #[.pointer (some ⟨g, 0, none⟩)] (w.drewN n) fun r w' => r = .returned (.int .i64 s.l.length) ∧ ∃ m, w' = w.drewN m := (wleft (h.drewN n)).mono fun _ _ ⟨a, b⟩ => ⟨a, n, b.symm⟩
theorem wendq {S : Nat → Prop} {w : World} {g : Nat} {s : Sc} (h : Scn 63 S w g s) (n : Nat) :
    Calls Try.prog 24 #[.pointer (some ⟨g, 0, none⟩)] (w.drewN n) fun r w' => r = .returned (.int .i64 s.endE) ∧ ∃ m, w' = w.drewN m := (wend (h.drewN n)).mono fun _ _ ⟨a, b⟩ => ⟨a, n, b.symm⟩
/-- a slice of bytes as a text, in any world that has only drawn -/
theorem strq {w : World} {S : Nat → Prop} {A : Option Addr} {l : List Int} (h : HeldB w S A l) (hl : l.length ≤ 9223372036854775807) (c : Nat) (n : Nat) : (convert 27 9 (.slice A l.length c)).run Try.prog (w.drewN n) = .ok (.string (strOfNums l)) (w.drewN n) :=
  Kd.C_string (P := Try.prog) (A := A) (c := c) Try.underlying27 Try.underlying5 Try.underlying9 ((h.below (pw_below_drewN (Below.refl _ _) n)).C hl)
theorem HeldB.take {w : World} {S : Nat → Prop} {A : Option Addr} {a b : List Int} (h : HeldB w S A (a ++ b)) : HeldB w S A a := by
  intro h0
  obtain ⟨ad, rfl, hS, hc⟩ := h (by simp; omega)
  refine ⟨ad, rfl, hS, fun j hj => ?_⟩
  rw [hc j (by simp; omega)]
  simp [rd, List.getD_eq_getElem?_getD, List.getElem?_append_left hj]
end Go.Proofs.Ytojefdnngkcaoaa
end

section
-- Written by a program of this session (wip/tools/myprint.py), over the kit's print.
namespace Go.Proofs.Ytojefdnngkcaoaa.G
open Go.RowKit Go.Proofs.YtojefdnngkcaoaaW.PrintWords Go.Proofs.YtojefdnngkcaoaaW.PrintLast Go.Proofs.YtojefdnngkcaoaaW.PrintMore
attribute [local go_sem] max2_int min2_int max_two min_two max_three min_three max_four min_four   -- for this text's walks alone
set_option linter.unusedVariables false
set_option linter.unusedSimpArgs false

theorem eqA23 (d : Nat) (w : World) (x0 y0 : Int) (x1 y1 : Int) (x2 y2 : ByteArray) :
    (Op.equalIn (d + 2) 23 (.agg #[.int .i64 x0, .int .i64 x1, .string x2]) (.agg #[.int .i64 y0, .int .i64 y1, .string y2])).run Try.prog w = .ok (x0 == y0 && (x1 == y1 && (x2.toList == y2.toList))) w := by
  refine eqA_of Try.underlying23 (by kernel_rfl) ?_
  refine eqf_cons (by rfl) (by go_simp; rfl) (by go_simp; rfl) (by go_simp) ?_
  refine eqf_cons (by rfl) (by go_simp; rfl) (by go_simp; rfl) (by go_simp) ?_
  exact eqf_last (by rfl) (by go_simp; rfl) (by go_simp; rfl) (by go_simp)
end Go.Proofs.Ytojefdnngkcaoaa.G
end

section
-- Written by a program of this session (wip/tools/myprint.py), over the kit's print.
namespace Go.Proofs.Ytojefdnngkcaoaa.G
open Go.RowKit Go.Proofs.YtojefdnngkcaoaaW.PrintWords Go.Proofs.YtojefdnngkcaoaaW.PrintLast Go.Proofs.YtojefdnngkcaoaaW.PrintMore
attribute [local go_sem] max2_int min2_int max_two min_two max_three min_three max_four min_four   -- for this text's walks alone
set_option linter.unusedVariables false
set_option linter.unusedSimpArgs false

/-! ### value_Right: function 18 -/
def value_Right.f (a0_0 : Int) (a0_1 : Int) (a0_2 : ByteArray) : Option (Bool) := if a0_0 = 1 then (some (a0_2.toList == ([] : List UInt8))) else (if a0_0 = 2 then (if a0_1 = 0 then (some (decide ((a0_2.size : Int) ≤ 64))) else (some false)) else (if a0_0 = 3 then (if a0_2.toList = ([] : List UInt8) then (some ((Go.bits .andNot .i64 a0_1 1) == 0)) else (some false)) else (some false)))
set_option maxHeartbeats 8000000 in
set_option maxRecDepth 100000 in
theorem value_Right.calls (a0_0 : Int) (a0_1 : Int) (a0_2 : ByteArray) (r : Bool) (w : World) (h : value_Right.f a0_0 a0_1 a0_2 = some r) :
    Calls Try.prog 18 #[.agg #[.int .i64 a0_0, .int .i64 a0_1, .string a0_2]] w fun e w' => e = .returned (.bool r) ∧ Below w.heap.size w w' := by
  have hu23 := Try.underlying23
  have HB := Aside0.mk (Below.refl w.heap.size w)
  have H : (if a0_0 = 1 then (some (a0_2.toList == ([] : List UInt8))) else (if a0_0 = 2 then (if a0_1 = 0 then (some (decide ((a0_2.size : Int) ≤ 64))) else (some false)) else (if a0_0 = 3 then (if a0_2.toList = ([] : List UInt8) then (some ((Go.bits .andNot .i64 a0_1 1) == 0)) else (some false)) else (some false)))) = some r := h
  clear h
  by_cases c2 : a0_0 = 1
  · rw [if_pos c2] at H
    have c2b0 : (a0_0 == 1) = true := beq_iff_eq.mpr c2
    have c2b1 : (a0_0 != 1) = false := bne_eq_false_iff_eq.mpr c2
    clear c2
    obtain rfl := Option.some.inj H
    go_enter Try.func18, Try.ntmps18
    go_wp2_with (first | ((with_reducible refine gate_dst (N := 1) rfl ?_); (try (refine gate_guard (by rfl) ?_; dsimp only)); refine box_event ?hg (N := 1) ?hd (cs := #[.int .i64 a0_0, .int .i64 a0_1, .string a0_2]) (t := 23) ?hr ?_; (case hd => rfl); (case hg => rfl); (case hr => first | (go_simp; done) | (go_simp; rfl)); intro gb101 hg w3 hbox hb; have n0_ := Aside0.mk (below_step (by repeat (first | (with_reducible first | exact HB.out | apply below_alloc | apply pw_below_drewN | apply below_drew1) | exact HB.out)) hb); have n1_ := Aside0.mk (hbox); have n2_ := Aside0.mk ((by rw [hg]; exact (below_size (by repeat (first | (with_reducible first | exact HB.out | apply below_alloc | apply pw_below_drewN | apply below_drew1) | exact HB.out))) : w.heap.size ≤ gb101)); have n3_ := Aside0.mk ((by rw [hg]; exact (below_size (by repeat (first | (with_reducible first | exact HB.out | apply below_alloc | apply pw_below_drewN | apply below_drew1) | exact HB.out))) : w.heap.size ≤ gb101)); clear HB; have HB := n0_; have BK101 := n1_; have GW101 := n2_; have GE101 := n3_; clear n0_ n1_ n2_ n3_; clear hb hbox hg; have hcz4_0 : w3.cell? ⟨gb101, 0, none⟩ = some (.int .i64 a0_0) := (blk_cell BK101.out 0).trans rfl; have hcz4_1 : w3.cell? ⟨gb101, 1, none⟩ = some (.int .i64 a0_1) := (blk_cell BK101.out 1).trans rfl; have hcz4_2 : w3.cell? ⟨gb101, 2, none⟩ = some (.string a0_2) := (blk_cell BK101.out 2).trans rfl; have hfz4_0 := blk_frozen BK101.out 0; have hfz4_1 := blk_frozen BK101.out 1; have hfz4_2 := blk_frozen BK101.out 2))
    go_ret
    exact ⟨by first | rfl | (simp [errW_none, errW_some] <;> rfl) | (simp [*, errW_none, errW_some] <;> rfl), by repeat (first | (with_reducible first | exact HB.out | apply below_alloc | apply pw_below_drewN | apply below_drew1 | refine below_set ?_ GE101.out) | exact HB.out)⟩
  · rw [if_neg c2] at H
    have c2b0 : (a0_0 == 1) = false := beq_eq_false_iff_ne.mpr c2
    have c2b1 : (a0_0 != 1) = true := bne_iff_ne.mpr c2
    by_cases c5 : a0_0 = 2
    · rw [if_pos c5] at H
      have c5b0 : (a0_0 == 2) = true := beq_iff_eq.mpr c5
      have c5b1 : (a0_0 != 2) = false := bne_eq_false_iff_eq.mpr c5
      clear c5
      by_cases c6 : a0_1 = 0
      · rw [if_pos c6] at H
        have c6b0 : (a0_1 == 0) = true := beq_iff_eq.mpr c6
        have c6b1 : (a0_1 != 0) = false := bne_eq_false_iff_eq.mpr c6
        clear c6
        obtain rfl := Option.some.inj H
        go_enter Try.func18, Try.ntmps18
        go_wp2_with (first | ((with_reducible refine gate_dst (N := 1) rfl ?_); (try (refine gate_guard (by rfl) ?_; dsimp only)); refine box_event ?hg (N := 1) ?hd (cs := #[.int .i64 a0_0, .int .i64 a0_1, .string a0_2]) (t := 23) ?hr ?_; (case hd => rfl); (case hg => rfl); (case hr => first | (go_simp; done) | (go_simp; rfl)); intro gb101 hg w7 hbox hb; have n0_ := Aside0.mk (below_step (by repeat (first | (with_reducible first | exact HB.out | apply below_alloc | apply pw_below_drewN | apply below_drew1) | exact HB.out)) hb); have n1_ := Aside0.mk (hbox); have n2_ := Aside0.mk ((by rw [hg]; exact (below_size (by repeat (first | (with_reducible first | exact HB.out | apply below_alloc | apply pw_below_drewN | apply below_drew1) | exact HB.out))) : w.heap.size ≤ gb101)); have n3_ := Aside0.mk ((by rw [hg]; exact (below_size (by repeat (first | (with_reducible first | exact HB.out | apply below_alloc | apply pw_below_drewN | apply below_drew1) | exact HB.out))) : w.heap.size ≤ gb101)); clear HB; have HB := n0_; have BK101 := n1_; have GW101 := n2_; have GE101 := n3_; clear n0_ n1_ n2_ n3_; clear hb hbox hg; have hcz8_0 : w7.cell? ⟨gb101, 0, none⟩ = some (.int .i64 a0_0) := (blk_cell BK101.out 0).trans rfl; have hcz8_1 : w7.cell? ⟨gb101, 1, none⟩ = some (.int .i64 a0_1) := (blk_cell BK101.out 1).trans rfl; have hcz8_2 : w7.cell? ⟨gb101, 2, none⟩ = some (.string a0_2) := (blk_cell BK101.out 2).trans rfl; have hfz8_0 := blk_frozen BK101.out 0; have hfz8_1 := blk_frozen BK101.out 1; have hfz8_2 := blk_frozen BK101.out 2))
        go_ret
        exact ⟨by first | rfl | (simp [errW_none, errW_some] <;> rfl) | (simp [*, errW_none, errW_some] <;> rfl), by repeat (first | (with_reducible first | exact HB.out | apply below_alloc | apply pw_below_drewN | apply below_drew1 | refine below_set ?_ GE101.out) | exact HB.out)⟩
      · rw [if_neg c6] at H
        have c6b0 : (a0_1 == 0) = false := beq_eq_false_iff_ne.mpr c6
        have c6b1 : (a0_1 != 0) = true := bne_iff_ne.mpr c6
        obtain rfl := Option.some.inj H
        go_enter Try.func18, Try.ntmps18
        go_wp2_with (first | ((with_reducible refine gate_dst (N := 1) rfl ?_); (try (refine gate_guard (by rfl) ?_; dsimp only)); refine box_event ?hg (N := 1) ?hd (cs := #[.int .i64 a0_0, .int .i64 a0_1, .string a0_2]) (t := 23) ?hr ?_; (case hd => rfl); (case hg => rfl); (case hr => first | (go_simp; done) | (go_simp; rfl)); intro gb101 hg w9 hbox hb; have n0_ := Aside0.mk (below_step (by repeat (first | (with_reducible first | exact HB.out | apply below_alloc | apply pw_below_drewN | apply below_drew1) | exact HB.out)) hb); have n1_ := Aside0.mk (hbox); have n2_ := Aside0.mk ((by rw [hg]; exact (below_size (by repeat (first | (with_reducible first | exact HB.out | apply below_alloc | apply pw_below_drewN | apply below_drew1) | exact HB.out))) : w.heap.size ≤ gb101)); have n3_ := Aside0.mk ((by rw [hg]; exact (below_size (by repeat (first | (with_reducible first | exact HB.out | apply below_alloc | apply pw_below_drewN | apply below_drew1) | exact HB.out))) : w.heap.size ≤ gb101)); clear HB; have HB := n0_; have BK101 := n1_; have GW101 := n2_; have GE101 := n3_; clear n0_ n1_ n2_ n3_; clear hb hbox hg; have hcz10_0 : w9.cell? ⟨gb101, 0, none⟩ = some (.int .i64 a0_0) := (blk_cell BK101.out 0).trans rfl; have hcz10_1 : w9.cell? ⟨gb101, 1, none⟩ = some (.int .i64 a0_1) := (blk_cell BK101.out 1).trans rfl; have hcz10_2 : w9.cell? ⟨gb101, 2, none⟩ = some (.string a0_2) := (blk_cell BK101.out 2).trans rfl; have hfz10_0 := blk_frozen BK101.out 0; have hfz10_1 := blk_frozen BK101.out 1; have hfz10_2 := blk_frozen BK101.out 2))
        go_ret
        exact ⟨by first | rfl | (simp [errW_none, errW_some] <;> rfl) | (simp [*, errW_none, errW_some] <;> rfl), by repeat (first | (with_reducible first | exact HB.out | apply below_alloc | apply pw_below_drewN | apply below_drew1 | refine below_set ?_ GE101.out) | exact HB.out)⟩
    · rw [if_neg c5] at H
      have c5b0 : (a0_0 == 2) = false := beq_eq_false_iff_ne.mpr c5
      have c5b1 : (a0_0 != 2) = true := bne_iff_ne.mpr c5
      by_cases c11 : a0_0 = 3
      · rw [if_pos c11] at H
        have c11b0 : (a0_0 == 3) = true := beq_iff_eq.mpr c11
        have c11b1 : (a0_0 != 3) = false := bne_eq_false_iff_eq.mpr c11
        clear c11
        by_cases c12 : a0_2.toList = ([] : List UInt8)
        · rw [if_pos c12] at H
          have c12b0 : (a0_2.toList == ([] : List UInt8)) = true := beq_iff_eq.mpr c12
          have c12b1 : (a0_2.toList != ([] : List UInt8)) = false := bne_eq_false_iff_eq.mpr c12
          clear c12
          obtain rfl := Option.some.inj H
          go_enter Try.func18, Try.ntmps18
          go_wp2_with (first | ((with_reducible refine gate_dst (N := 1) rfl ?_); (try (refine gate_guard (by rfl) ?_; dsimp only)); refine box_event ?hg (N := 1) ?hd (cs := #[.int .i64 a0_0, .int .i64 a0_1, .string a0_2]) (t := 23) ?hr ?_; (case hd => rfl); (case hg => rfl); (case hr => first | (go_simp; done) | (go_simp; rfl)); intro gb101 hg w13 hbox hb; have n0_ := Aside0.mk (below_step (by repeat (first | (with_reducible first | exact HB.out | apply below_alloc | apply pw_below_drewN | apply below_drew1) | exact HB.out)) hb); have n1_ := Aside0.mk (hbox); have n2_ := Aside0.mk ((by rw [hg]; exact (below_size (by repeat (first | (with_reducible first | exact HB.out | apply below_alloc | apply pw_below_drewN | apply below_drew1) | exact HB.out))) : w.heap.size ≤ gb101)); have n3_ := Aside0.mk ((by rw [hg]; exact (below_size (by repeat (first | (with_reducible first | exact HB.out | apply below_alloc | apply pw_below_drewN | apply below_drew1) | exact HB.out))) : w.heap.size ≤ gb101)); clear HB; have HB := n0_; have BK101 := n1_; have GW101 := n2_; have GE101 := n3_; clear n0_ n1_ n2_ n3_; clear hb hbox hg; have hcz14_0 : w13.cell? ⟨gb101, 0, none⟩ = some (.int .i64 a0_0) := (blk_cell BK101.out 0).trans rfl; have hcz14_1 : w13.cell? ⟨gb101, 1, none⟩ = some (.int .i64 a0_1) := (blk_cell BK101.out 1).trans rfl; have hcz14_2 : w13.cell? ⟨gb101, 2, none⟩ = some (.string a0_2) := (blk_cell BK101.out 2).trans rfl; have hfz14_0 := blk_frozen BK101.out 0; have hfz14_1 := blk_frozen BK101.out 1; have hfz14_2 := blk_frozen BK101.out 2))
          go_ret
          exact ⟨by first | rfl | (simp [errW_none, errW_some] <;> rfl) | (simp [*, errW_none, errW_some] <;> rfl), by repeat (first | (with_reducible first | exact HB.out | apply below_alloc | apply pw_below_drewN | apply below_drew1 | refine below_set ?_ GE101.out) | exact HB.out)⟩
        · rw [if_neg c12] at H
          have c12b0 : (a0_2.toList == ([] : List UInt8)) = false := beq_eq_false_iff_ne.mpr c12
          have c12b1 : (a0_2.toList != ([] : List UInt8)) = true := bne_iff_ne.mpr c12
          obtain rfl := Option.some.inj H
          go_enter Try.func18, Try.ntmps18
          go_wp2_with (first | ((with_reducible refine gate_dst (N := 1) rfl ?_); (try (refine gate_guard (by rfl) ?_; dsimp only)); refine box_event ?hg (N := 1) ?hd (cs := #[.int .i64 a0_0, .int .i64 a0_1, .string a0_2]) (t := 23) ?hr ?_; (case hd => rfl); (case hg => rfl); (case hr => first | (go_simp; done) | (go_simp; rfl)); intro gb101 hg w15 hbox hb; have n0_ := Aside0.mk (below_step (by repeat (first | (with_reducible first | exact HB.out | apply below_alloc | apply pw_below_drewN | apply below_drew1) | exact HB.out)) hb); have n1_ := Aside0.mk (hbox); have n2_ := Aside0.mk ((by rw [hg]; exact (below_size (by repeat (first | (with_reducible first | exact HB.out | apply below_alloc | apply pw_below_drewN | apply below_drew1) | exact HB.out))) : w.heap.size ≤ gb101)); have n3_ := Aside0.mk ((by rw [hg]; exact (below_size (by repeat (first | (with_reducible first | exact HB.out | apply below_alloc | apply pw_below_drewN | apply below_drew1) | exact HB.out))) : w.heap.size ≤ gb101)); clear HB; have HB := n0_; have BK101 := n1_; have GW101 := n2_; have GE101 := n3_; clear n0_ n1_ n2_ n3_; clear hb hbox hg; have hcz16_0 : w15.cell? ⟨gb101, 0, none⟩ = some (.int .i64 a0_0) := (blk_cell BK101.out 0).trans rfl; have hcz16_1 : w15.cell? ⟨gb101, 1, none⟩ = some (.int .i64 a0_1) := (blk_cell BK101.out 1).trans rfl; have hcz16_2 : w15.cell? ⟨gb101, 2, none⟩ = some (.string a0_2) := (blk_cell BK101.out 2).trans rfl; have hfz16_0 := blk_frozen BK101.out 0; have hfz16_1 := blk_frozen BK101.out 1; have hfz16_2 := blk_frozen BK101.out 2))
          go_ret
          exact ⟨by first | rfl | (simp [errW_none, errW_some] <;> rfl) | (simp [*, errW_none, errW_some] <;> rfl), by repeat (first | (with_reducible first | exact HB.out | apply below_alloc | apply pw_below_drewN | apply below_drew1 | refine below_set ?_ GE101.out) | exact HB.out)⟩
      · rw [if_neg c11] at H
        have c11b0 : (a0_0 == 3) = false := beq_eq_false_iff_ne.mpr c11
        have c11b1 : (a0_0 != 3) = true := bne_iff_ne.mpr c11
        obtain rfl := Option.some.inj H
        go_enter Try.func18, Try.ntmps18
        go_wp2_with (first | ((with_reducible refine gate_dst (N := 1) rfl ?_); (try (refine gate_guard (by rfl) ?_; dsimp only)); refine box_event ?hg (N := 1) ?hd (cs := #[.int .i64 a0_0, .int .i64 a0_1, .string a0_2]) (t := 23) ?hr ?_; (case hd => rfl); (case hg => rfl); (case hr => first | (go_simp; done) | (go_simp; rfl)); intro gb101 hg w17 hbox hb; have n0_ := Aside0.mk (below_step (by repeat (first | (with_reducible first | exact HB.out | apply below_alloc | apply pw_below_drewN | apply below_drew1) | exact HB.out)) hb); have n1_ := Aside0.mk (hbox); have n2_ := Aside0.mk ((by rw [hg]; exact (below_size (by repeat (first | (with_reducible first | exact HB.out | apply below_alloc | apply pw_below_drewN | apply below_drew1) | exact HB.out))) : w.heap.size ≤ gb101)); have n3_ := Aside0.mk ((by rw [hg]; exact (below_size (by repeat (first | (with_reducible first | exact HB.out | apply below_alloc | apply pw_below_drewN | apply below_drew1) | exact HB.out))) : w.heap.size ≤ gb101)); clear HB; have HB := n0_; have BK101 := n1_; have GW101 := n2_; have GE101 := n3_; clear n0_ n1_ n2_ n3_; clear hb hbox hg; have hcz18_0 : w17.cell? ⟨gb101, 0, none⟩ = some (.int .i64 a0_0) := (blk_cell BK101.out 0).trans rfl; have hcz18_1 : w17.cell? ⟨gb101, 1, none⟩ = some (.int .i64 a0_1) := (blk_cell BK101.out 1).trans rfl; have hcz18_2 : w17.cell? ⟨gb101, 2, none⟩ = some (.string a0_2) := (blk_cell BK101.out 2).trans rfl; have hfz18_0 := blk_frozen BK101.out 0; have hfz18_1 := blk_frozen BK101.out 1; have hfz18_2 := blk_frozen BK101.out 2))
        go_ret
        exact ⟨by first | rfl | (simp [errW_none, errW_some] <;> rfl) | (simp [*, errW_none, errW_some] <;> rfl), by repeat (first | (with_reducible first | exact HB.out | apply below_alloc | apply pw_below_drewN | apply below_drew1 | refine below_set ?_ GE101.out) | exact HB.out)⟩

end Go.Proofs.Ytojefdnngkcaoaa.G
end

section
-- Written by a program of this session (wip/tools/myprint.py), over the kit's print.
namespace Go.Proofs.Ytojefdnngkcaoaa.G
open Go.RowKit Go.Proofs.YtojefdnngkcaoaaW.PrintWords Go.Proofs.YtojefdnngkcaoaaW.PrintLast Go.Proofs.YtojefdnngkcaoaaW.PrintMore
attribute [local go_sem] max2_int min2_int max_two min_two max_three min_three max_four min_four   -- for this text's walks alone
set_option linter.unusedVariables false
set_option linter.unusedSimpArgs false

attribute [local go_sem high] eqA23
/-! ### pred_Right: function 10 -/
def pred_Right.j0 : Nat → Bool → ByteArray → Int → Int → Int → ByteArray → Option (Bool)
  | 0, _, _, _, _, _, _ => none
  | k + 1, x3, x103000, x103001, x103002, x103003, x103004 => if x103001 = 8 then (if x3 = true then (some (x103002 == 0 && (x103003 == 0 && (x103004.toList == ([] : List UInt8))))) else (some false)) else (if x103001 = 7 then (if x103002 = 2 then (if x3 = true then (if x103001 ≥ 1 then (if x103001 ≤ 7 then ((value_Right.f x103002 x103003 x103004).bind fun t103 => (some t103)) else (some false)) else (some false)) else (some false)) else (some false)) else (if x3 = true then (if x103001 ≥ 1 then (if x103001 ≤ 7 then ((value_Right.f x103002 x103003 x103004).bind fun t104 => (some t104)) else (some false)) else (some false)) else (some false)))
def pred_Right.f (k : Nat) (a0_0 : ByteArray) (a0_1 : Int) (a0_2 : Int) (a0_3 : Int) (a0_4 : ByteArray) : Option (Bool) := if a0_0.toList = ([] : List UInt8) then (pred_Right.j0 k false a0_0 a0_1 a0_2 a0_3 a0_4) else (if (a0_0.size : Int) ≤ 16 then (pred_Right.j0 k (decide ((a0_4.size : Int) ≤ 32)) a0_0 a0_1 a0_2 a0_3 a0_4) else (pred_Right.j0 k false a0_0 a0_1 a0_2 a0_3 a0_4))
theorem pred_Right.mono_l : ∀ k, (∀ y0 y1 y2 y3 y4 y5, LeO (pred_Right.j0 k y0 y1 y2 y3 y4 y5) (pred_Right.j0 (k + 1) y0 y1 y2 y3 y4 y5))
  | 0 => fun _ _ _ _ _ _ r h => by simp [pred_Right.j0] at h
  | k + 1 => by
    have ih0 := pred_Right.mono_l k
    · intro y0 y1 y2 y3 y4 y5
      unfold pred_Right.j0
      repeat' first
      | (with_reducible exact ih0 _ _ _ _ _ _)
      | (with_reducible exact LeO.refl _)
      | (with_reducible exact LeO.none _)
      | (with_reducible refine LeO.ite ?_ ?_)
      | (with_reducible refine LeO.bind ?_ (fun _ => ?_))
      | exact ih0 _ _ _ _ _ _
      | exact LeO.none _
      | refine LeO.ite ?_ ?_
      | refine LeO.bind ?_ (fun _ => ?_)
theorem pred_Right.mono : ∀ a0 a1 a2 a3 a4 k, LeO (pred_Right.f k a0 a1 a2 a3 a4) (pred_Right.f (k + 1) a0 a1 a2 a3 a4) := by
  intro a0 a1 a2 a3 a4 k
  have ih0 := pred_Right.mono_l k
  unfold pred_Right.f
  repeat' first
      | (with_reducible exact ih0 _ _ _ _ _ _)
      | (with_reducible exact LeO.refl _)
      | (with_reducible exact LeO.none _)
      | (with_reducible refine LeO.ite ?_ ?_)
      | (with_reducible refine LeO.bind ?_ (fun _ => ?_))
      | exact ih0 _ _ _ _ _ _
      | exact LeO.none _
      | refine LeO.ite ?_ ?_
      | refine LeO.bind ?_ (fun _ => ?_)
set_option maxHeartbeats 8000000 in
set_option maxRecDepth 100000 in
theorem pred_Right.calls (k : Nat) (a0_0 : ByteArray) (a0_1 : Int) (a0_2 : Int) (a0_3 : Int) (a0_4 : ByteArray) (r : Bool) (w : World) (h : pred_Right.f k a0_0 a0_1 a0_2 a0_3 a0_4 = some r) :
    Calls Try.prog 10 #[.agg #[.string a0_0, .int .i64 a0_1, .int .i64 a0_2, .int .i64 a0_3, .string a0_4]] w fun e w' => e = .returned (.bool r) ∧ Below w.heap.size w w' := by
  have hu25 := Try.underlying25
  have hu23 := Try.underlying23
  have HB := Aside0.mk (Below.refl w.heap.size w)
  have H : (if a0_0.toList = ([] : List UInt8) then (pred_Right.j0 k false a0_0 a0_1 a0_2 a0_3 a0_4) else (if (a0_0.size : Int) ≤ 16 then (pred_Right.j0 k (decide ((a0_4.size : Int) ≤ 32)) a0_0 a0_1 a0_2 a0_3 a0_4) else (pred_Right.j0 k false a0_0 a0_1 a0_2 a0_3 a0_4))) = some r := h
  clear h
  have HC2 := Aside0.mk H
  clear H
  go_enter Try.func10, Try.ntmps10
  go_upto_region 1 with (first | ((with_reducible refine gate_dst (N := 1) rfl ?_); (try (refine gate_guard (by rfl) ?_; dsimp only)); refine box_event ?hg (N := 1) ?hd (cs := #[.string a0_0, .int .i64 a0_1, .int .i64 a0_2, .int .i64 a0_3, .string a0_4]) (t := 25) ?hr ?_; (case hd => rfl); (case hg => rfl); (case hr => first | (go_simp; done) | (go_simp; rfl)); intro gb102 hg w3 hbox hb; have n0_ := Aside0.mk (below_step (by repeat (first | (with_reducible first | exact HB.out | apply below_alloc | apply pw_below_drewN | apply below_drew1) | exact HB.out)) hb); have n1_ := Aside0.mk (hbox); have n2_ := Aside0.mk ((by rw [hg]; exact (below_size (by repeat (first | (with_reducible first | exact HB.out | apply below_alloc | apply pw_below_drewN | apply below_drew1) | exact HB.out))) : w.heap.size ≤ gb102)); have n3_ := Aside0.mk ((by rw [hg]; exact (below_size (by repeat (first | (with_reducible first | exact HB.out | apply below_alloc | apply pw_below_drewN | apply below_drew1) | exact HB.out))) : w.heap.size ≤ gb102)); clear HB; have HB := n0_; have BK102 := n1_; have GW102 := n2_; have GE102 := n3_; clear n0_ n1_ n2_ n3_; clear hb hbox hg))
  (try simp only [Act.put, List.setIfInBounds_toArray, List.set_cons_zero, List.set_cons_succ])
  go_cut [3] (fun v3 wc => ∃ (kq : Nat) (x3_1 : Bool), v3 = .bool x3_1 ∧ Aside0 (pred_Right.j0 kq x3_1 a0_0 a0_1 a0_2 a0_3 a0_4 = some r) ∧ Aside0 (kq ≤ k) ∧ Aside0 (wc.heap[gb102]? = some (.cells #[.string a0_0, .int .i64 a0_1, .int .i64 a0_2, .int .i64 a0_3, .string a0_4] 25 (0, 0))) ∧ Aside0 (Below w.heap.size w wc))
  case first =>
    have H := HC2.out
    clear HC2
    by_cases c4 : a0_0.toList = ([] : List UInt8)
    · rw [if_pos c4] at H
      have c4b0 : (a0_0.toList == ([] : List UInt8)) = true := beq_iff_eq.mpr c4
      have c4b1 : (a0_0.toList != ([] : List UInt8)) = false := bne_eq_false_iff_eq.mpr c4
      clear c4
      (first | rw [c4b0] | (simp only [i64_w, i32_w]; rw [c4b0]) | skip)
      have H' := Aside0.mk H
      clear H
      have hcz5_0 : w3.cell? ⟨gb102, 0, none⟩ = some (.string a0_0) := (blk_cell BK102.out 0).trans rfl
      have hcz5_1 : w3.cell? ⟨gb102, 1, none⟩ = some (.int .i64 a0_1) := (blk_cell BK102.out 1).trans rfl
      have hcz5_2 : w3.cell? ⟨gb102, 2, none⟩ = some (.int .i64 a0_2) := (blk_cell BK102.out 2).trans rfl
      have hcz5_3 : w3.cell? ⟨gb102, 3, none⟩ = some (.int .i64 a0_3) := (blk_cell BK102.out 3).trans rfl
      have hcz5_4 : w3.cell? ⟨gb102, 4, none⟩ = some (.string a0_4) := (blk_cell BK102.out 4).trans rfl
      have hfz5_0 := blk_frozen BK102.out 0
      have hfz5_1 := blk_frozen BK102.out 1
      have hfz5_2 := blk_frozen BK102.out 2
      have hfz5_3 := blk_frozen BK102.out 3
      have hfz5_4 := blk_frozen BK102.out 4
      go_wp2
      go_meet
      case rel => exact ⟨_, (false), (by first | rfl | (simp; done) | (simp [*]; done)), H', ⟨by first | omega | exact Nat.le_refl _⟩, ⟨by (with_reducible repeat (first | refine blk_drewN ?_ _ | refine blk_drew ?_ | refine blk_alloc ?_ _)); exact BK102.out⟩, ⟨by repeat (first | (with_reducible first | exact HB.out | apply below_alloc | apply pw_below_drewN | apply below_drew1 | refine below_set ?_ GE102.out) | exact HB.out)⟩⟩
    · rw [if_neg c4] at H
      have c4b0 : (a0_0.toList == ([] : List UInt8)) = false := beq_eq_false_iff_ne.mpr c4
      have c4b1 : (a0_0.toList != ([] : List UInt8)) = true := bne_iff_ne.mpr c4
      (first | rw [c4b0] | (simp only [i64_w, i32_w]; rw [c4b0]) | skip)
      by_cases c6 : (a0_0.size : Int) ≤ 16
      · rw [if_pos c6] at H
        have c6b0 : decide ((a0_0.size : Int) ≤ 16) = true := decide_eq_true c6
        have c6b1 : decide (a0_0.size ≤ 16) = true := decide_eq_true (by omega)
        clear c6
        have H' := Aside0.mk H
        clear H
        have hcz7_0 : w3.cell? ⟨gb102, 0, none⟩ = some (.string a0_0) := (blk_cell BK102.out 0).trans rfl
        have hcz7_1 : w3.cell? ⟨gb102, 1, none⟩ = some (.int .i64 a0_1) := (blk_cell BK102.out 1).trans rfl
        have hcz7_2 : w3.cell? ⟨gb102, 2, none⟩ = some (.int .i64 a0_2) := (blk_cell BK102.out 2).trans rfl
        have hcz7_3 : w3.cell? ⟨gb102, 3, none⟩ = some (.int .i64 a0_3) := (blk_cell BK102.out 3).trans rfl
        have hcz7_4 : w3.cell? ⟨gb102, 4, none⟩ = some (.string a0_4) := (blk_cell BK102.out 4).trans rfl
        have hfz7_0 := blk_frozen BK102.out 0
        have hfz7_1 := blk_frozen BK102.out 1
        have hfz7_2 := blk_frozen BK102.out 2
        have hfz7_3 := blk_frozen BK102.out 3
        have hfz7_4 := blk_frozen BK102.out 4
        go_wp2
        go_meet
        case rel => exact ⟨_, (decide ((a0_4.size : Int) ≤ 32)), (by first | rfl | (simp; done) | (simp [*]; done)), H', ⟨by first | omega | exact Nat.le_refl _⟩, ⟨by (with_reducible repeat (first | refine blk_drewN ?_ _ | refine blk_drew ?_ | refine blk_alloc ?_ _)); exact BK102.out⟩, ⟨by repeat (first | (with_reducible first | exact HB.out | apply below_alloc | apply pw_below_drewN | apply below_drew1 | refine below_set ?_ GE102.out) | exact HB.out)⟩⟩
      · rw [if_neg c6] at H
        have c6b0 : decide ((a0_0.size : Int) ≤ 16) = false := decide_eq_false c6
        have c6b1 : decide (a0_0.size ≤ 16) = false := decide_eq_false (by omega)
        clear c6
        have H' := Aside0.mk H
        clear H
        have hcz8_0 : w3.cell? ⟨gb102, 0, none⟩ = some (.string a0_0) := (blk_cell BK102.out 0).trans rfl
        have hcz8_1 : w3.cell? ⟨gb102, 1, none⟩ = some (.int .i64 a0_1) := (blk_cell BK102.out 1).trans rfl
        have hcz8_2 : w3.cell? ⟨gb102, 2, none⟩ = some (.int .i64 a0_2) := (blk_cell BK102.out 2).trans rfl
        have hcz8_3 : w3.cell? ⟨gb102, 3, none⟩ = some (.int .i64 a0_3) := (blk_cell BK102.out 3).trans rfl
        have hcz8_4 : w3.cell? ⟨gb102, 4, none⟩ = some (.string a0_4) := (blk_cell BK102.out 4).trans rfl
        have hfz8_0 := blk_frozen BK102.out 0
        have hfz8_1 := blk_frozen BK102.out 1
        have hfz8_2 := blk_frozen BK102.out 2
        have hfz8_3 := blk_frozen BK102.out 3
        have hfz8_4 := blk_frozen BK102.out 4
        go_wp2
        go_meet
        case rel => exact ⟨_, (false), (by first | rfl | (simp; done) | (simp [*]; done)), H', ⟨by first | omega | exact Nat.le_refl _⟩, ⟨by (with_reducible repeat (first | refine blk_drewN ?_ _ | refine blk_drew ?_ | refine blk_alloc ?_ _)); exact BK102.out⟩, ⟨by repeat (first | (with_reducible first | exact HB.out | apply below_alloc | apply pw_below_drewN | apply below_drew1 | refine below_set ?_ GE102.out) | exact HB.out)⟩⟩
  case rest =>
    clear HC2
    try clear c1
    try clear p2
    try clear c4
    try clear c4b0
    try clear c4b1
    try clear c6
    try clear c6b0
    try clear c6b1
    try clear hcz5_0
    try clear hcz5_1
    try clear hcz5_2
    try clear hcz5_3
    try clear hcz5_4
    try clear hcz7_0
    try clear hcz7_1
    try clear hcz7_2
    try clear hcz7_3
    try clear hcz7_4
    try clear hcz8_0
    try clear hcz8_1
    try clear hcz8_2
    try clear hcz8_3
    try clear hcz8_4
    try clear hfz5_0
    try clear hfz5_1
    try clear hfz5_2
    try clear hfz5_3
    try clear hfz5_4
    try clear hfz7_0
    try clear hfz7_1
    try clear hfz7_2
    try clear hfz7_3
    try clear hfz7_4
    try clear hfz8_0
    try clear hfz8_1
    try clear hfz8_2
    try clear hfz8_3
    try clear hfz8_4
    obtain ⟨kq, x3_1, rfl, HA, HJ1, BK102, HB⟩ := hcut
    cases kq with
    | zero => exact absurd HA.out (by simp [pred_Right.j0])
    | succ kj1 =>
      have H := HA.out
      clear HA
      simp only [pred_Right.j0] at H
      by_cases c9 : a0_1 = 8
      · rw [if_pos c9] at H
        have c9b0 : (a0_1 == 8) = true := beq_iff_eq.mpr c9
        have c9b1 : (a0_1 != 8) = false := bne_eq_false_iff_eq.mpr c9
        clear c9
        by_cases c10 : x3_1 = true
        · subst c10
          have H1 : (some (a0_2 == 0 && (a0_3 == 0 && (a0_4.toList == ([] : List UInt8))))) = some r := by rw [if_pos rfl] at H; exact H
          clear H
          have H := H1
          clear H1
          obtain rfl := Option.some.inj H
          have hcz11_0 : wc.cell? ⟨gb102, 0, none⟩ = some (.string a0_0) := (blk_cell BK102.out 0).trans rfl
          have hcz11_1 : wc.cell? ⟨gb102, 1, none⟩ = some (.int .i64 a0_1) := (blk_cell BK102.out 1).trans rfl
          have hcz11_2 : wc.cell? ⟨gb102, 2, none⟩ = some (.int .i64 a0_2) := (blk_cell BK102.out 2).trans rfl
          have hcz11_3 : wc.cell? ⟨gb102, 3, none⟩ = some (.int .i64 a0_3) := (blk_cell BK102.out 3).trans rfl
          have hcz11_4 : wc.cell? ⟨gb102, 4, none⟩ = some (.string a0_4) := (blk_cell BK102.out 4).trans rfl
          have hfz11_0 := blk_frozen BK102.out 0
          have hfz11_1 := blk_frozen BK102.out 1
          have hfz11_2 := blk_frozen BK102.out 2
          have hfz11_3 := blk_frozen BK102.out 3
          have hfz11_4 := blk_frozen BK102.out 4
          go_wp2
          go_ret
          exact ⟨by first | rfl | (simp [errW_none, errW_some] <;> rfl) | (simp [*, errW_none, errW_some] <;> rfl), by repeat (first | (with_reducible first | exact HB.out | apply below_alloc | apply pw_below_drewN | apply below_drew1 | refine below_set ?_ GE102.out) | exact HB.out)⟩
        · replace c10 := Bool.eq_false_iff.mpr c10
          subst c10
          have H1 : (some false) = some r := by rw [if_neg (show ¬ (false = true) by decide)] at H; exact H
          clear H
          have H := H1
          clear H1
          obtain rfl := Option.some.inj H
          have hcz12_0 : wc.cell? ⟨gb102, 0, none⟩ = some (.string a0_0) := (blk_cell BK102.out 0).trans rfl
          have hcz12_1 : wc.cell? ⟨gb102, 1, none⟩ = some (.int .i64 a0_1) := (blk_cell BK102.out 1).trans rfl
          have hcz12_2 : wc.cell? ⟨gb102, 2, none⟩ = some (.int .i64 a0_2) := (blk_cell BK102.out 2).trans rfl
          have hcz12_3 : wc.cell? ⟨gb102, 3, none⟩ = some (.int .i64 a0_3) := (blk_cell BK102.out 3).trans rfl
          have hcz12_4 : wc.cell? ⟨gb102, 4, none⟩ = some (.string a0_4) := (blk_cell BK102.out 4).trans rfl
          have hfz12_0 := blk_frozen BK102.out 0
          have hfz12_1 := blk_frozen BK102.out 1
          have hfz12_2 := blk_frozen BK102.out 2
          have hfz12_3 := blk_frozen BK102.out 3
          have hfz12_4 := blk_frozen BK102.out 4
          go_wp2
          go_ret
          exact ⟨by first | rfl | (simp [errW_none, errW_some] <;> rfl) | (simp [*, errW_none, errW_some] <;> rfl), by repeat (first | (with_reducible first | exact HB.out | apply below_alloc | apply pw_below_drewN | apply below_drew1 | refine below_set ?_ GE102.out) | exact HB.out)⟩
      · rw [if_neg c9] at H
        have c9b0 : (a0_1 == 8) = false := beq_eq_false_iff_ne.mpr c9
        have c9b1 : (a0_1 != 8) = true := bne_iff_ne.mpr c9
        by_cases c13 : a0_1 = 7
        · rw [if_pos c13] at H
          have c13b0 : (a0_1 == 7) = true := beq_iff_eq.mpr c13
          have c13b1 : (a0_1 != 7) = false := bne_eq_false_iff_eq.mpr c13
          clear c13
          by_cases c14 : a0_2 = 2
          · rw [if_pos c14] at H
            have c14b0 : (a0_2 == 2) = true := beq_iff_eq.mpr c14
            have c14b1 : (a0_2 != 2) = false := bne_eq_false_iff_eq.mpr c14
            clear c14
            by_cases c15 : x3_1 = true
            · subst c15
              have H1 : (if a0_1 ≥ 1 then (if a0_1 ≤ 7 then ((value_Right.f a0_2 a0_3 a0_4).bind fun t103 => (some t103)) else (some false)) else (some false)) = some r := by rw [if_pos rfl] at H; exact H
              clear H
              have H := H1
              clear H1
              by_cases c16 : a0_1 ≥ 1
              · rw [if_pos c16] at H
                have c16b0 : decide (1 ≤ a0_1) = true := decide_eq_true c16
                clear c16
                by_cases c17 : a0_1 ≤ 7
                · rw [if_pos c17] at H
                  have c17b0 : decide (a0_1 ≤ 7) = true := decide_eq_true c17
                  clear c17
                  replace H := Option.bind_eq_some_iff.mp H
                  obtain ⟨t103, A180, H⟩ := H
                  replace H : (some t103) = some r := H
                  have A18 := Aside0.mk A180
                  clear A180
                  obtain rfl := Option.some.inj H
                  have hcz19_0 : wc.cell? ⟨gb102, 0, none⟩ = some (.string a0_0) := (blk_cell BK102.out 0).trans rfl
                  have hcz19_1 : wc.cell? ⟨gb102, 1, none⟩ = some (.int .i64 a0_1) := (blk_cell BK102.out 1).trans rfl
                  have hcz19_2 : wc.cell? ⟨gb102, 2, none⟩ = some (.int .i64 a0_2) := (blk_cell BK102.out 2).trans rfl
                  have hcz19_3 : wc.cell? ⟨gb102, 3, none⟩ = some (.int .i64 a0_3) := (blk_cell BK102.out 3).trans rfl
                  have hcz19_4 : wc.cell? ⟨gb102, 4, none⟩ = some (.string a0_4) := (blk_cell BK102.out 4).trans rfl
                  have hfz19_0 := blk_frozen BK102.out 0
                  have hfz19_1 := blk_frozen BK102.out 1
                  have hfz19_2 := blk_frozen BK102.out 2
                  have hfz19_3 := blk_frozen BK102.out 3
                  have hfz19_4 := blk_frozen BK102.out 4
                  go_wp2_with (first | (go_at_call 18; (with_reducible refine (value_Right.calls a0_2 a0_3 a0_4 t103 _ A18.out).mono ?_); rintro e w20 ⟨rfl, hb⟩; have n0_ := Aside0.mk (blk_below (g := gb102) (o := .cells #[.string a0_0, .int .i64 a0_1, .int .i64 a0_2, .int .i64 a0_3, .string a0_4] 25 (0, 0)) (by (with_reducible repeat (first | refine blk_drewN ?_ _ | refine blk_drew ?_ | refine blk_alloc ?_ _)); exact BK102.out) hb); have n1_ := Aside0.mk (below_step (by repeat (first | (with_reducible first | exact HB.out | apply below_alloc | apply pw_below_drewN | apply below_drew1 | refine below_set ?_ GE102.out) | exact HB.out)) hb); clear BK102; clear HB; have BK102 := n0_; have HB := n1_; clear n0_ n1_; (try clear hb); (try clear hb2); (try clear hk); (try clear hi)))
                  go_ret
                  exact ⟨by first | rfl | (simp [errW_none, errW_some] <;> rfl) | (simp [*, errW_none, errW_some] <;> rfl), by repeat (first | (with_reducible first | exact HB.out | apply below_alloc | apply pw_below_drewN | apply below_drew1 | refine below_set ?_ GE102.out) | exact HB.out)⟩
                · rw [if_neg c17] at H
                  have c17b0 : decide (a0_1 ≤ 7) = false := decide_eq_false c17
                  clear c17
                  obtain rfl := Option.some.inj H
                  have hcz21_0 : wc.cell? ⟨gb102, 0, none⟩ = some (.string a0_0) := (blk_cell BK102.out 0).trans rfl
                  have hcz21_1 : wc.cell? ⟨gb102, 1, none⟩ = some (.int .i64 a0_1) := (blk_cell BK102.out 1).trans rfl
                  have hcz21_2 : wc.cell? ⟨gb102, 2, none⟩ = some (.int .i64 a0_2) := (blk_cell BK102.out 2).trans rfl
                  have hcz21_3 : wc.cell? ⟨gb102, 3, none⟩ = some (.int .i64 a0_3) := (blk_cell BK102.out 3).trans rfl
                  have hcz21_4 : wc.cell? ⟨gb102, 4, none⟩ = some (.string a0_4) := (blk_cell BK102.out 4).trans rfl
                  have hfz21_0 := blk_frozen BK102.out 0
                  have hfz21_1 := blk_frozen BK102.out 1
                  have hfz21_2 := blk_frozen BK102.out 2
                  have hfz21_3 := blk_frozen BK102.out 3
                  have hfz21_4 := blk_frozen BK102.out 4
                  go_wp2
                  go_ret
                  exact ⟨by first | rfl | (simp [errW_none, errW_some] <;> rfl) | (simp [*, errW_none, errW_some] <;> rfl), by repeat (first | (with_reducible first | exact HB.out | apply below_alloc | apply pw_below_drewN | apply below_drew1 | refine below_set ?_ GE102.out) | exact HB.out)⟩
              · rw [if_neg c16] at H
                have c16b0 : decide (1 ≤ a0_1) = false := decide_eq_false c16
                clear c16
                obtain rfl := Option.some.inj H
                have hcz22_0 : wc.cell? ⟨gb102, 0, none⟩ = some (.string a0_0) := (blk_cell BK102.out 0).trans rfl
                have hcz22_1 : wc.cell? ⟨gb102, 1, none⟩ = some (.int .i64 a0_1) := (blk_cell BK102.out 1).trans rfl
                have hcz22_2 : wc.cell? ⟨gb102, 2, none⟩ = some (.int .i64 a0_2) := (blk_cell BK102.out 2).trans rfl
                have hcz22_3 : wc.cell? ⟨gb102, 3, none⟩ = some (.int .i64 a0_3) := (blk_cell BK102.out 3).trans rfl
                have hcz22_4 : wc.cell? ⟨gb102, 4, none⟩ = some (.string a0_4) := (blk_cell BK102.out 4).trans rfl
                have hfz22_0 := blk_frozen BK102.out 0
                have hfz22_1 := blk_frozen BK102.out 1
                have hfz22_2 := blk_frozen BK102.out 2
                have hfz22_3 := blk_frozen BK102.out 3
                have hfz22_4 := blk_frozen BK102.out 4
                go_wp2
                go_ret
                exact ⟨by first | rfl | (simp [errW_none, errW_some] <;> rfl) | (simp [*, errW_none, errW_some] <;> rfl), by repeat (first | (with_reducible first | exact HB.out | apply below_alloc | apply pw_below_drewN | apply below_drew1 | refine below_set ?_ GE102.out) | exact HB.out)⟩
            · replace c15 := Bool.eq_false_iff.mpr c15
              subst c15
              have H1 : (some false) = some r := by rw [if_neg (show ¬ (false = true) by decide)] at H; exact H
              clear H
              have H := H1
              clear H1
              obtain rfl := Option.some.inj H
              have hcz23_0 : wc.cell? ⟨gb102, 0, none⟩ = some (.string a0_0) := (blk_cell BK102.out 0).trans rfl
              have hcz23_1 : wc.cell? ⟨gb102, 1, none⟩ = some (.int .i64 a0_1) := (blk_cell BK102.out 1).trans rfl
              have hcz23_2 : wc.cell? ⟨gb102, 2, none⟩ = some (.int .i64 a0_2) := (blk_cell BK102.out 2).trans rfl
              have hcz23_3 : wc.cell? ⟨gb102, 3, none⟩ = some (.int .i64 a0_3) := (blk_cell BK102.out 3).trans rfl
              have hcz23_4 : wc.cell? ⟨gb102, 4, none⟩ = some (.string a0_4) := (blk_cell BK102.out 4).trans rfl
              have hfz23_0 := blk_frozen BK102.out 0
              have hfz23_1 := blk_frozen BK102.out 1
              have hfz23_2 := blk_frozen BK102.out 2
              have hfz23_3 := blk_frozen BK102.out 3
              have hfz23_4 := blk_frozen BK102.out 4
              go_wp2
              go_ret
              exact ⟨by first | rfl | (simp [errW_none, errW_some] <;> rfl) | (simp [*, errW_none, errW_some] <;> rfl), by repeat (first | (with_reducible first | exact HB.out | apply below_alloc | apply pw_below_drewN | apply below_drew1 | refine below_set ?_ GE102.out) | exact HB.out)⟩
          · rw [if_neg c14] at H
            have c14b0 : (a0_2 == 2) = false := beq_eq_false_iff_ne.mpr c14
            have c14b1 : (a0_2 != 2) = true := bne_iff_ne.mpr c14
            obtain rfl := Option.some.inj H
            have hcz24_0 : wc.cell? ⟨gb102, 0, none⟩ = some (.string a0_0) := (blk_cell BK102.out 0).trans rfl
            have hcz24_1 : wc.cell? ⟨gb102, 1, none⟩ = some (.int .i64 a0_1) := (blk_cell BK102.out 1).trans rfl
            have hcz24_2 : wc.cell? ⟨gb102, 2, none⟩ = some (.int .i64 a0_2) := (blk_cell BK102.out 2).trans rfl
            have hcz24_3 : wc.cell? ⟨gb102, 3, none⟩ = some (.int .i64 a0_3) := (blk_cell BK102.out 3).trans rfl
            have hcz24_4 : wc.cell? ⟨gb102, 4, none⟩ = some (.string a0_4) := (blk_cell BK102.out 4).trans rfl
            have hfz24_0 := blk_frozen BK102.out 0
            have hfz24_1 := blk_frozen BK102.out 1
            have hfz24_2 := blk_frozen BK102.out 2
            have hfz24_3 := blk_frozen BK102.out 3
            have hfz24_4 := blk_frozen BK102.out 4
            go_wp2
            go_ret
            exact ⟨by first | rfl | (simp [errW_none, errW_some] <;> rfl) | (simp [*, errW_none, errW_some] <;> rfl), by repeat (first | (with_reducible first | exact HB.out | apply below_alloc | apply pw_below_drewN | apply below_drew1 | refine below_set ?_ GE102.out) | exact HB.out)⟩
        · rw [if_neg c13] at H
          have c13b0 : (a0_1 == 7) = false := beq_eq_false_iff_ne.mpr c13
          have c13b1 : (a0_1 != 7) = true := bne_iff_ne.mpr c13
          by_cases c25 : x3_1 = true
          · subst c25
            have H1 : (if a0_1 ≥ 1 then (if a0_1 ≤ 7 then ((value_Right.f a0_2 a0_3 a0_4).bind fun t104 => (some t104)) else (some false)) else (some false)) = some r := by rw [if_pos rfl] at H; exact H
            clear H
            have H := H1
            clear H1
            by_cases c26 : a0_1 ≥ 1
            · rw [if_pos c26] at H
              have c26b0 : decide (1 ≤ a0_1) = true := decide_eq_true c26
              clear c26
              by_cases c27 : a0_1 ≤ 7
              · rw [if_pos c27] at H
                have c27b0 : decide (a0_1 ≤ 7) = true := decide_eq_true c27
                clear c27
                replace H := Option.bind_eq_some_iff.mp H
                obtain ⟨t104, A280, H⟩ := H
                replace H : (some t104) = some r := H
                have A28 := Aside0.mk A280
                clear A280
                obtain rfl := Option.some.inj H
                have hcz29_0 : wc.cell? ⟨gb102, 0, none⟩ = some (.string a0_0) := (blk_cell BK102.out 0).trans rfl
                have hcz29_1 : wc.cell? ⟨gb102, 1, none⟩ = some (.int .i64 a0_1) := (blk_cell BK102.out 1).trans rfl
                have hcz29_2 : wc.cell? ⟨gb102, 2, none⟩ = some (.int .i64 a0_2) := (blk_cell BK102.out 2).trans rfl
                have hcz29_3 : wc.cell? ⟨gb102, 3, none⟩ = some (.int .i64 a0_3) := (blk_cell BK102.out 3).trans rfl
                have hcz29_4 : wc.cell? ⟨gb102, 4, none⟩ = some (.string a0_4) := (blk_cell BK102.out 4).trans rfl
                have hfz29_0 := blk_frozen BK102.out 0
                have hfz29_1 := blk_frozen BK102.out 1
                have hfz29_2 := blk_frozen BK102.out 2
                have hfz29_3 := blk_frozen BK102.out 3
                have hfz29_4 := blk_frozen BK102.out 4
                go_wp2_with (first | (go_at_call 18; (with_reducible refine (value_Right.calls a0_2 a0_3 a0_4 t104 _ A28.out).mono ?_); rintro e w30 ⟨rfl, hb⟩; have n0_ := Aside0.mk (blk_below (g := gb102) (o := .cells #[.string a0_0, .int .i64 a0_1, .int .i64 a0_2, .int .i64 a0_3, .string a0_4] 25 (0, 0)) (by (with_reducible repeat (first | refine blk_drewN ?_ _ | refine blk_drew ?_ | refine blk_alloc ?_ _)); exact BK102.out) hb); have n1_ := Aside0.mk (below_step (by repeat (first | (with_reducible first | exact HB.out | apply below_alloc | apply pw_below_drewN | apply below_drew1 | refine below_set ?_ GE102.out) | exact HB.out)) hb); clear BK102; clear HB; have BK102 := n0_; have HB := n1_; clear n0_ n1_; (try clear hb); (try clear hb2); (try clear hk); (try clear hi)))
                go_ret
                exact ⟨by first | rfl | (simp [errW_none, errW_some] <;> rfl) | (simp [*, errW_none, errW_some] <;> rfl), by repeat (first | (with_reducible first | exact HB.out | apply below_alloc | apply pw_below_drewN | apply below_drew1 | refine below_set ?_ GE102.out) | exact HB.out)⟩
              · rw [if_neg c27] at H
                have c27b0 : decide (a0_1 ≤ 7) = false := decide_eq_false c27
                clear c27
                obtain rfl := Option.some.inj H
                have hcz31_0 : wc.cell? ⟨gb102, 0, none⟩ = some (.string a0_0) := (blk_cell BK102.out 0).trans rfl
                have hcz31_1 : wc.cell? ⟨gb102, 1, none⟩ = some (.int .i64 a0_1) := (blk_cell BK102.out 1).trans rfl
                have hcz31_2 : wc.cell? ⟨gb102, 2, none⟩ = some (.int .i64 a0_2) := (blk_cell BK102.out 2).trans rfl
                have hcz31_3 : wc.cell? ⟨gb102, 3, none⟩ = some (.int .i64 a0_3) := (blk_cell BK102.out 3).trans rfl
                have hcz31_4 : wc.cell? ⟨gb102, 4, none⟩ = some (.string a0_4) := (blk_cell BK102.out 4).trans rfl
                have hfz31_0 := blk_frozen BK102.out 0
                have hfz31_1 := blk_frozen BK102.out 1
                have hfz31_2 := blk_frozen BK102.out 2
                have hfz31_3 := blk_frozen BK102.out 3
                have hfz31_4 := blk_frozen BK102.out 4
                go_wp2
                go_ret
                exact ⟨by first | rfl | (simp [errW_none, errW_some] <;> rfl) | (simp [*, errW_none, errW_some] <;> rfl), by repeat (first | (with_reducible first | exact HB.out | apply below_alloc | apply pw_below_drewN | apply below_drew1 | refine below_set ?_ GE102.out) | exact HB.out)⟩
            · rw [if_neg c26] at H
              have c26b0 : decide (1 ≤ a0_1) = false := decide_eq_false c26
              clear c26
              obtain rfl := Option.some.inj H
              have hcz32_0 : wc.cell? ⟨gb102, 0, none⟩ = some (.string a0_0) := (blk_cell BK102.out 0).trans rfl
              have hcz32_1 : wc.cell? ⟨gb102, 1, none⟩ = some (.int .i64 a0_1) := (blk_cell BK102.out 1).trans rfl
              have hcz32_2 : wc.cell? ⟨gb102, 2, none⟩ = some (.int .i64 a0_2) := (blk_cell BK102.out 2).trans rfl
              have hcz32_3 : wc.cell? ⟨gb102, 3, none⟩ = some (.int .i64 a0_3) := (blk_cell BK102.out 3).trans rfl
              have hcz32_4 : wc.cell? ⟨gb102, 4, none⟩ = some (.string a0_4) := (blk_cell BK102.out 4).trans rfl
              have hfz32_0 := blk_frozen BK102.out 0
              have hfz32_1 := blk_frozen BK102.out 1
              have hfz32_2 := blk_frozen BK102.out 2
              have hfz32_3 := blk_frozen BK102.out 3
              have hfz32_4 := blk_frozen BK102.out 4
              go_wp2
              go_ret
              exact ⟨by first | rfl | (simp [errW_none, errW_some] <;> rfl) | (simp [*, errW_none, errW_some] <;> rfl), by repeat (first | (with_reducible first | exact HB.out | apply below_alloc | apply pw_below_drewN | apply below_drew1 | refine below_set ?_ GE102.out) | exact HB.out)⟩
          · replace c25 := Bool.eq_false_iff.mpr c25
            subst c25
            have H1 : (some false) = some r := by rw [if_neg (show ¬ (false = true) by decide)] at H; exact H
            clear H
            have H := H1
            clear H1
            obtain rfl := Option.some.inj H
            have hcz33_0 : wc.cell? ⟨gb102, 0, none⟩ = some (.string a0_0) := (blk_cell BK102.out 0).trans rfl
            have hcz33_1 : wc.cell? ⟨gb102, 1, none⟩ = some (.int .i64 a0_1) := (blk_cell BK102.out 1).trans rfl
            have hcz33_2 : wc.cell? ⟨gb102, 2, none⟩ = some (.int .i64 a0_2) := (blk_cell BK102.out 2).trans rfl
            have hcz33_3 : wc.cell? ⟨gb102, 3, none⟩ = some (.int .i64 a0_3) := (blk_cell BK102.out 3).trans rfl
            have hcz33_4 : wc.cell? ⟨gb102, 4, none⟩ = some (.string a0_4) := (blk_cell BK102.out 4).trans rfl
            have hfz33_0 := blk_frozen BK102.out 0
            have hfz33_1 := blk_frozen BK102.out 1
            have hfz33_2 := blk_frozen BK102.out 2
            have hfz33_3 := blk_frozen BK102.out 3
            have hfz33_4 := blk_frozen BK102.out 4
            go_wp2
            go_ret
            exact ⟨by first | rfl | (simp [errW_none, errW_some] <;> rfl) | (simp [*, errW_none, errW_some] <;> rfl), by repeat (first | (with_reducible first | exact HB.out | apply below_alloc | apply pw_below_drewN | apply below_drew1 | refine below_set ?_ GE102.out) | exact HB.out)⟩

end Go.Proofs.Ytojefdnngkcaoaa.G
end

section
-- Written by a program of this session (wip/tools/myprint.py), over the kit's print.
namespace Go.Proofs.Ytojefdnngkcaoaa.G
open Go.RowKit Go.Proofs.YtojefdnngkcaoaaW.PrintWords Go.Proofs.YtojefdnngkcaoaaW.PrintLast Go.Proofs.YtojefdnngkcaoaaW.PrintMore
attribute [local go_sem] max2_int min2_int max_two min_two max_three min_three max_four min_four   -- for this text's walks alone
set_option linter.unusedVariables false
set_option linter.unusedSimpArgs false

-- BY HAND
def putGo : Nat → Int → List Int
  | 0, n => [n % 256]
  | f + 1, n => if n < 128 then [n % 256] else (n % 128 + 128) :: putGo f (n / 128)
def putL (n : Int) : List Int := putGo 9 n
def wire_Put.f (l0 : List Int) (a1 : Int) : Option (List Int) := if 0 ≤ a1 ∧ a1 < 18446744073709551616 ∧ l0.length ≤ 140737488355300 then some (l0 ++ putL a1) else none
theorem info_u8 : (Try.prog.info? 5).map (fun i => (i.zero, i.size, i.bytes)) = some (some (.int .u8 0), 1, 1) := by kernel_rfl
theorem or128 (m : Int) (h0 : 0 ≤ m) : bits .or .u8 (m % 256) 128 = m % 128 + 128 := by
  obtain ⟨n, rfl⟩ := Int.eq_ofNat_of_zero_le h0
  rw [show ((n : Int) % 256) = ((n % 256 : Nat) : Int) by omega, show (128 : Int) = ((128 : Nat) : Int) from rfl, u8_or_nat _ _ (by omega) (by decide)]
  have e : (n % 256) ||| 128 = n % 128 + 128 := by
    have h1 : n % 256 = 2 ^ 7 * (n % 256 / 128) + n % 256 % 128 := by omega
    have h2 : n % 256 % 128 < 2 ^ 7 := by omega
    rw [h1, Nat.two_pow_add_eq_or_of_lt h2, Nat.or_assoc, Nat.or_comm (n % 256 % 128), ← Nat.or_assoc, show (128 : Nat) = 2 ^ 7 * 1 from rfl]
    have h3 : n % 256 / (2 ^ 7 * 1) = 0 ∨ n % 256 / (2 ^ 7 * 1) = 1 := by omega
    have h4 : 2 ^ 7 * (n % 256 / (2 ^ 7 * 1)) ||| 2 ^ 7 * 1 = 2 ^ 7 * 1 := by
      rcases h3 with h3 | h3 <;> rw [h3] <;> decide
    rw [h4, ← Nat.two_pow_add_eq_or_of_lt (by omega)]
    omega
  rw [e]; omega
theorem clip_any (A : Option Addr) (n c : Nat) (h : n ≤ c) (w : World) : Calls Try.prog 53 #[.slice A n c] w fun e w' => e = .returned (.slice A n n) ∧ w' = w := by
  go_enter Try.func53, Try.ntmps53
  go_wp2_with fail
  go_ret
  exact ⟨rfl, rfl⟩
set_option maxRecDepth 100000 in
set_option maxHeartbeats 1000000 in
theorem wire_Put.calls (A0 : Option Addr) (c0 : Nat) (l0 : List Int) (a1 : Int) (r : List Int) (w : World) (hr0 : Kd.C (Kd.int .u8) w A0 l0.length l0) (hc0 : l0.length ≤ c0) (h : wire_Put.f l0 a1 = some r) :
    Calls Try.prog 33 #[.slice A0 l0.length c0, .int .u64 a1] w fun e w' => ∃ v0_ : Value, e = .returned (v0_) ∧ Kd.R (Kd.int .u8) 5 w' w.heap.size (fun _ => True) v0_ r ∧ Below w.heap.size w w' := by
  have hh := h
  clear h
  unfold wire_Put.f at hh
  split at hh
  · rename_i hcond
    obtain ⟨ha0, ha1, hl⟩ := hcond
    have HRES := Aside0.mk (Option.some.inj hh)
    clear hh
    have hcl := Aside0.mk (show slices_Clone_byte_byte.f l0 = some l0 by unfold slices_Clone_byte_byte.f; rw [if_pos (by omega)])
    go_enter Try.func33, Try.ntmps33
    go_wp2_with fail
    refine (slices_Clone_byte_byte.calls _ _ l0 l0 _ hr0 hc0 hcl.out).mono ?_
    rintro e w1 ⟨v1, rfl, hR1, hB1⟩
    obtain ⟨A1, n1, rfl, hc1, hC1⟩ := own_C hR1
    have hA1 : A1 = none → l0.length = 0 := by
      rintro rfl
      apply Classical.byContradiction
      intro hne
      obtain ⟨_, _, hr⟩ := Kd.reads_of_C (d := (0 : Int)) hC1
      obtain ⟨ad, h2, _⟩ := hr (by omega)
      cases h2
    have HOUT : Outs .u8 5 w1 w.heap.size (.slice A1 l0.length l0.length) l0 := .inr ⟨A1, rfl, hC1, hA1⟩
    have HO1 := Aside0.mk HOUT
    clear HOUT hC1 hR1 hA1 hr0
    go_wp2_with fail
    refine (clip_any A1 l0.length n1 hc1 w1).mono ?_
    rintro e w2 ⟨rfl, rfl⟩
    have HBB := Aside0.mk hB1
    clear hB1
    go_wp2_with fail
    go_loopw [1, 5] (fun n v wr => ∃ (f : Nat) (m : Int) (xs : List Int), n = .int .u64 m ∧ 0 ≤ m ∧ f ≤ 9 ∧ Aside0 (m < 128 ^ (f + 1)) ∧ m < 18446744073709551616 ∧ Aside0 (xs ++ putGo f m = r) ∧ Aside0 (xs.length + f ≤ 140737488355309) ∧ Aside0 (Outs .u8 5 wr w.heap.size v xs) ∧ Below w.heap.size w wr) (fun n _ _ => (intOf n).toNat)
    case atStart => exact ⟨9, a1, l0, rfl, ha0, Nat.le_refl _, ⟨by omega⟩, ha1, ⟨HRES.out⟩, ⟨by omega⟩, ⟨HO1.out⟩, HBB.out⟩
    case round =>
      obtain ⟨f, m, xs, rfl, hm0, hf, HM, hm64, HX, HL, HO, hBr⟩ := hrel
      by_cases hlt : 128 ≤ m
      · go_wp2_with (at_builtin; refine app_outs (w0 := w) w.heap.size rfl (.tmp 13) (.tmp 17) 27 5 .u8 1 rfl Try.underlying27 info_u8 (by decide) u5 xs (bits .or .u8 (m % 256) 128) rfl rfl HO.out hBr hBr.size (by have := HL.out; omega) ?_; intro v1 w1 HO2 hB2; clear HO hBr)
        have hm1 := HM.out
        cases f with
        | zero => exact absurd hm1 (by simp; omega)
        | succ f =>
          have hx := HX.out
          have hL := HL.out
          rw [putGo, if_neg (by omega)] at hx
          refine ⟨⟨f, m / 128, xs ++ [bits .or .u8 (m % 256) 128], rfl, by omega, by omega, ⟨?_⟩, by omega, ⟨?_⟩, ⟨?_⟩, ⟨.inl HO2.out⟩, hB2⟩, ?_⟩
          · rw [Int.pow_succ] at hm1
            exact Int.ediv_lt_of_lt_mul (by decide) hm1
          · rw [or128 m hm0, List.append_assoc]; exact hx
          · simp only [List.length_append, List.length_singleton]; omega
          · simp only [intOf]; omega
      · go_wp2_with (at_builtin; refine app_outs (w0 := w) w.heap.size rfl (.tmp 19) (.tmp 22) 27 5 .u8 1 rfl Try.underlying27 info_u8 (by decide) u5 xs m rfl rfl HO.out hBr hBr.size (by have := HL.out; omega) ?_; intro v1 w1 HO2 hB2; clear HO hBr)
        have hx := HX.out
        have hp : putGo f m = [m] := by
          cases f with
          | zero => rw [putGo]; rw [Int.emod_eq_of_lt hm0 (by omega)]
          | succ f => rw [putGo, if_pos (by omega)]; rw [Int.emod_eq_of_lt hm0 (by omega)]
        rw [hp] at hx
        subst hx
        go_ret
        exact ⟨v1, rfl, HO2.out, hB2⟩
  · cases hh

end Go.Proofs.Ytojefdnngkcaoaa.G
end

section
-- Written by a program of this session (wip/tools/myprint.py), over the kit's print.
namespace Go.Proofs.Ytojefdnngkcaoaa.G
open Go.RowKit Go.Proofs.YtojefdnngkcaoaaW.PrintWords Go.Proofs.YtojefdnngkcaoaaW.PrintLast Go.Proofs.YtojefdnngkcaoaaW.PrintMore
attribute [local go_sem] max2_int min2_int max_two min_two max_three min_three max_four min_four   -- for this text's walks alone
set_option linter.unusedVariables false
set_option linter.unusedSimpArgs false

/-! ### wire_zig: function 63 -/
def wire_zig.f (a0 : Int) : Option (Int) := some (Go.bits .xor .u64 (IntKind.u64.wrap (wrap64 (a0 * 2))) (IntKind.u64.wrap (a0 / 9223372036854775808)))
set_option maxHeartbeats 8000000 in
set_option maxRecDepth 100000 in
theorem wire_zig.calls (a0 : Int) (r : Int) (w : World) (h : wire_zig.f a0 = some r) :
    Calls Try.prog 63 #[.int .i64 a0] w fun e w' => e = .returned (.int .u64 r) ∧ Drawn0 w w' := by
  have H : (some (Go.bits .xor .u64 (IntKind.u64.wrap (wrap64 (a0 * 2))) (IntKind.u64.wrap (a0 / 9223372036854775808)))) = some r := h
  clear h
  obtain rfl := Option.some.inj H
  go_enter Try.func63, Try.ntmps63
  go_wp2
  go_ret
  exact ⟨by first | rfl | (simp; done) | (simp [*]; done), by repeat (first | exact Drawn0.refl _ | apply Drawn0.step)⟩

end Go.Proofs.Ytojefdnngkcaoaa.G
end

section
-- Written by a program of this session (wip/tools/myprint.py), over the kit's print.
namespace Go.Proofs.Ytojefdnngkcaoaa.G
open Go.RowKit Go.Proofs.YtojefdnngkcaoaaW.PrintWords Go.Proofs.YtojefdnngkcaoaaW.PrintLast Go.Proofs.YtojefdnngkcaoaaW.PrintMore
attribute [local go_sem] max2_int min2_int max_two min_two max_three min_three max_four min_four   -- for this text's walks alone
set_option linter.unusedVariables false
set_option linter.unusedSimpArgs false

/-! ### wire_PutInt: function 52 -/
def wire_PutInt.f (l0 : List Int) (a1 : Int) : Option (List Int) := (wire_zig.f a1).bind fun t137 => ((wire_Put.f l0 t137).bind fun t138 => (some t138))
set_option maxHeartbeats 8000000 in
set_option maxRecDepth 100000 in
theorem wire_PutInt.calls (A0 : Option Addr) (c0 : Nat) (l0 : List Int) (a1 : Int) (r : List Int) (w : World) (hr0 : Kd.C (Kd.int .u8) w A0 l0.length l0) (hc0 : l0.length ≤ c0) (h : wire_PutInt.f l0 a1 = some r) :
    Calls Try.prog 52 #[.slice A0 l0.length c0, .int .i64 a1] w fun e w' => ∃ v0_ : Value, e = .returned (v0_) ∧ Kd.R (Kd.int .u8) 5 w' w.heap.size (fun _ => True) v0_ r ∧ Below w.heap.size w w' := by
  have HR0 := Aside0.mk hr0
  have HC0 := Aside0.mk hc0
  clear hr0 hc0
  have HB := Aside0.mk (Below.refl w.heap.size w)
  have H : ((wire_zig.f a1).bind fun t137 => ((wire_Put.f l0 t137).bind fun t138 => (some t138))) = some r := h
  clear h
  replace H := Option.bind_eq_some_iff.mp H
  obtain ⟨t137, A30, H⟩ := H
  replace H : ((wire_Put.f l0 t137).bind fun t138 => (some t138)) = some r := H
  have A3 := Aside0.mk A30
  clear A30
  replace H := Option.bind_eq_some_iff.mp H
  obtain ⟨t138, A40, H⟩ := H
  replace H : (some t138) = some r := H
  have A4 := Aside0.mk A40
  clear A40
  obtain rfl := Option.some.inj H
  go_enter Try.func52, Try.ntmps52
  go_wp2_with (first | ((with_reducible refine gate_callee (f := 63) rfl ?_); refine goesL_ (some 7) rfl rfl Try.func63 (by kernel_rfl) rfl #[.int .i64 a1] rfl (by (try simp only [List.map_toArray, List.map_cons, List.map_nil]); first | done | rfl | (simp only [List.length_drop, List.length_take]; rfl)) ?_; (with_reducible refine (wire_zig.calls a1 t137 _ A3.out).mono ?_); rintro e w' ⟨rfl, ⟨nd, rfl⟩⟩; refine ⟨_, rfl, ?_⟩) | ((with_reducible refine gate_callee (f := 33) rfl ?_); refine goesL_ (some 8) rfl rfl Try.func33 (by kernel_rfl) rfl #[.slice A0 l0.length c0, .int .u64 t137] rfl (by (try simp only [List.map_toArray, List.map_cons, List.map_nil]); first | done | rfl | (simp only [List.length_drop, List.length_take]; rfl)) ?_; (with_reducible refine (wire_Put.calls _ _ l0 t137 t138 _ ?side1 ?side2 A4.out).mono ?_); (case side1 => repeat (first | exact HR0.out | (with_reducible refine Kd.C_alloc ?_ _) | (with_reducible refine Kd.C_drewN ?_ _) | (with_reducible refine Kd.C_drew ?_))); (case side2 => exact HC0.out); rintro e w5 ⟨v139, rfl, ho0, hb⟩; refine ⟨_, rfl, ?_⟩; have n0_ := Aside0.mk (Kd.R_lower ho0 (below_size (by repeat (first | (with_reducible first | exact HB.out | apply below_alloc | apply pw_below_drewN | apply below_drew1) | exact HB.out)))); have n1_ := Aside0.mk (below_step (by repeat (first | (with_reducible first | exact HB.out | apply below_alloc | apply pw_below_drewN | apply below_drew1) | exact HB.out)) hb); clear HB; have HO140 := n0_; have HB := n1_; clear n0_ n1_; (try clear hb); (try clear hb2); (try clear hk); (try clear hi); (try clear ho0)))
  go_ret
  exact ⟨_, by first | rfl | (simp [errW_none, errW_some] <;> rfl) | (simp [*, errW_none, errW_some] <;> rfl), by (with_reducible repeat (first | apply Kd.R_alloc | apply Kd.R_drewN | apply Kd.R_drew)); exact HO140.out, by repeat (first | (with_reducible first | exact HB.out | apply below_alloc | apply pw_below_drewN | apply below_drew1) | exact HB.out)⟩

end Go.Proofs.Ytojefdnngkcaoaa.G
end

section
-- Written by a program of this session (wip/tools/myprint.py), over the kit's print.
namespace Go.Proofs.Ytojefdnngkcaoaa.G
open Go.RowKit Go.Proofs.YtojefdnngkcaoaaW.PrintWords Go.Proofs.YtojefdnngkcaoaaW.PrintLast Go.Proofs.YtojefdnngkcaoaaW.PrintMore
attribute [local go_sem] max2_int min2_int max_two min_two max_three min_three max_four min_four   -- for this text's walks alone
set_option linter.unusedVariables false
set_option linter.unusedSimpArgs false

/-! ### wire_PutText: function 34 -/
def wire_PutText.f (l0 : List Int) (a1 : ByteArray) : Option (List Int) := (wire_Put.f l0 (IntKind.u64.wrap ((a1.size : Int)))).bind fun t131 => (if t131.length + a1.size < 140737488355328 then (some (t131 ++ bytesOf a1)) else (none))
set_option maxHeartbeats 8000000 in
set_option maxRecDepth 100000 in
theorem wire_PutText.calls (A0 : Option Addr) (c0 : Nat) (l0 : List Int) (a1 : ByteArray) (r : List Int) (w : World) (hr0 : Kd.C (Kd.int .u8) w A0 l0.length l0) (hc0 : l0.length ≤ c0) (h : wire_PutText.f l0 a1 = some r) :
    Calls Try.prog 34 #[.slice A0 l0.length c0, .string a1] w fun e w' => ∃ v0_ : Value, e = .returned (v0_) ∧ Kd.R (Kd.int .u8) 5 w' w.heap.size (fun _ => True) v0_ r ∧ Below w.heap.size w w' := by
  have HR0 := Aside0.mk hr0
  have HC0 := Aside0.mk hc0
  clear hr0 hc0
  have HB := Aside0.mk (Below.refl w.heap.size w)
  have H : ((wire_Put.f l0 (IntKind.u64.wrap ((a1.size : Int)))).bind fun t131 => (if t131.length + a1.size < 140737488355328 then (some (t131 ++ bytesOf a1)) else (none))) = some r := h
  clear h
  replace H := Option.bind_eq_some_iff.mp H
  obtain ⟨t131, A30, H⟩ := H
  replace H : (if t131.length + a1.size < 140737488355328 then (some (t131 ++ bytesOf a1)) else (none)) = some r := H
  have A3 := Aside0.mk A30
  clear A30
  by_cases c4 : t131.length + a1.size < 140737488355328
  · rw [if_pos c4] at H
    have LMc4 := Aside0.mk c4
    clear c4
    obtain ⟨y134, hy134⟩ : ∃ y_ : List Int, y_ = (t131 ++ bytesOf a1) := ⟨_, rfl⟩
    replace H : (some y134) = some r := by first | (rw [hy134]; with_reducible exact H) | (have H2_ := (Option.bind_some _ _).symm.trans H; rw [hy134]; with_reducible exact H2_) | (have H2_ := (Option.bind_some _ _).symm.trans H; with_reducible exact H2_) | with_reducible exact H | (rw [hy134]; exact H) | exact H
    have Ny134 := Aside0.mk hy134
    clear hy134
    obtain rfl := Option.some.inj H
    go_enter Try.func34, Try.ntmps34
    go_wp2_with (first | ((with_reducible refine gate_callee (f := 33) rfl ?_); refine goesL_ (some 9) rfl rfl Try.func33 (by kernel_rfl) rfl #[.slice A0 l0.length c0, .int .u64 (IntKind.u64.wrap ((a1.size : Int)))] rfl (by (try simp only [List.map_toArray, List.map_cons, List.map_nil]); first | done | rfl | (simp only [List.length_drop, List.length_take]; rfl)) ?_; (with_reducible refine (wire_Put.calls _ _ l0 (IntKind.u64.wrap ((a1.size : Int))) t131 _ ?side1 ?side2 A3.out).mono ?_); (case side1 => repeat (first | exact HR0.out | (with_reducible refine Kd.C_alloc ?_ _) | (with_reducible refine Kd.C_drewN ?_ _) | (with_reducible refine Kd.C_drew ?_))); (case side2 => exact HC0.out); rintro e w5 ⟨v132, rfl, ho0, hb⟩; refine ⟨_, rfl, ?_⟩; have n0_ := Aside0.mk (Kd.R_lower ho0 (below_size (by repeat (first | (with_reducible first | exact HB.out | apply below_alloc | apply pw_below_drewN | apply below_drew1) | exact HB.out)))); have n1_ := Aside0.mk (below_step (by repeat (first | (with_reducible first | exact HB.out | apply below_alloc | apply pw_below_drewN | apply below_drew1) | exact HB.out)) hb); clear HB; have HO133 := n0_; have HB := n1_; clear n0_ n1_; (try clear hb); (try clear hb2); (try clear hk); (try clear hi); (try clear ho0)) | (at_builtin; refine print_append_str (w0 := w) w.heap.size rfl (.tmp 9) _ 27 9 5 rfl Try.underlying27 Try.underlying9 info5 v132 t131 a1 rfl rfl ?aO ?aB ?aS ?aL ?_; (case aB => exact (by repeat (first | (with_reducible first | exact HB.out | apply below_alloc | apply pw_below_drewN | apply below_drew1) | exact HB.out))); (case aO => exact (Kd.own_of_R (by (with_reducible repeat (first | apply Kd.R_alloc | apply Kd.R_drewN | apply Kd.R_drew)); exact HO133.out))); (case aS => exact (below_size (by repeat (first | (with_reducible first | exact HB.out | apply below_alloc | apply pw_below_drewN | apply below_drew1) | exact HB.out)))); (case aL => have := LMc4.out; omega); intro v135 w6 ho0 hb hg; have ho := Kd.R_of_own (h1 := fun _ => rfl) (ok := fun _ => True) ho0 (fun _ _ => trivial); clear ho0; have hat := True.intro; rw [← Ny134.out] at ho; change Kd.R (Kd.int .u8) 5 w6 w.heap.size (fun _ => True) v135 y134 at ho; have n0_ := Aside0.mk (hb); have n1_ := Aside0.mk (ho); clear HB; clear HO133; have HB := n0_; have HO136 := n1_; clear n0_ n1_; clear ho hb hg hat))
    go_ret
    exact ⟨_, by first | rfl | (simp [errW_none, errW_some] <;> rfl) | (simp [*, errW_none, errW_some] <;> rfl), by (with_reducible repeat (first | apply Kd.R_alloc | apply Kd.R_drewN | apply Kd.R_drew)); exact HO136.out, by repeat (first | (with_reducible first | exact HB.out | apply below_alloc | apply pw_below_drewN | apply below_drew1) | exact HB.out)⟩
  · rw [if_neg c4] at H
    exact absurd H (by simp)

end Go.Proofs.Ytojefdnngkcaoaa.G
end

section
/- numbers as bytes and back, over lists alone -/
set_option linter.unusedVariables false
set_option linter.unusedSimpArgs false
set_option autoImplicit false
namespace Go.Proofs.Ytojefdnngkcaoaa
open Go.RowKit Go.Proofs.YtojefdnngkcaoaaW.PrintWords Go.Proofs.YtojefdnngkcaoaaW.PrintLast Go.Proofs.YtojefdnngkcaoaaW.PrintMore Go.Proofs.Ytojefdnngkcaoaa.G

theorem u8s_wf {l : List Int} (h : ∀ x ∈ l, (Lit.int .u8 x).wf = true) : u8s l := fun x hx => by
  have := Go.bounds_u8 (h x hx)
  omega
theorem drop_rd (l : List Int) (k : Nat) (hk : k < l.length) : l.drop k = rd l k :: l.drop (k + 1) := by
  rw [List.drop_eq_getElem_cons hk]
  simp [rd, List.getD_eq_getElem?_getD, hk]
theorem putGo_len (f : Nat) : ∀ n, (putGo f n).length ≤ f + 1 := by
  induction f with
  | zero => intro n; simp [putGo]
  | succ f ih => intro n; rw [putGo]; split <;> simp; exact ih _
theorem putL_len (n : Int) : (putL n).length ≤ 10 := putGo_len 9 n
theorem putGo_u8s (f : Nat) : ∀ n, 0 ≤ n → u8s (putGo f n) := by
  induction f with
  | zero => intro n h x hx; simp [putGo] at hx; omega
  | succ f ih =>
    intro n h x hx
    rw [putGo] at hx
    split at hx
    · simp at hx; omega
    · rcases List.mem_cons.1 hx with rfl | hx
      · omega
      · exact ih _ (by omega) x hx
theorem put_u8s (n : Int) (h : 0 ≤ n) : u8s (putL n) := putGo_u8s 9 n h
theorem put_f (l : List Int) (n : Int) (h0 : 0 ≤ n) (h1 : n < 18446744073709551616) (hl : l.length ≤ 140737488355300) : wire_Put.f l n = some (l ++ putL n) := by
  unfold wire_Put.f
  rw [if_pos ⟨h0, h1, hl⟩]

/-- what is read was laid just so -/
theorem numGo_once (l : List Int) (hu : u8s l) : ∀ (f k : Nat) (acc n : Int) (s' : Sc), f + k = 9 → k ≤ l.length → numGo ⟨l, 0⟩ (f + 1) k acc = (n, s') → s'.e = 0 →
    ∃ m : Int, 0 ≤ m ∧ (0 < k → 0 < m) ∧ n = acc + m * 128 ^ k ∧ l.drop k = putGo f m ++ s'.l := by
  intro f
  induction f with
  | zero =>
    intro k acc n s' hk hle h he
    rw [numGo] at h
    obtain rfl : k = 9 := by omega
    split at h
    · cases h; simp [Sc.fail] at he
    · split at h
      · cases h; simp [Sc.fail] at he
      · rename_i h1 h2
        have hc : rd l 9 = 1 := Classical.byContradiction fun hc => h2 (.inl ⟨rfl, hc⟩)
        have hkl : 9 < l.length := by simp only at h1; omega
        simp only [Int.cast_ofNat_Int] at h
        rw [if_pos (by simp only [hc]; omega)] at h
        cases h
        refine ⟨1, by omega, by omega, ?_, ?_⟩
        · simp only [hc]; omega
        · have hd := drop_rd l 9 hkl
          rw [hd]
          simp only [Int.cast_ofNat_Int, hc]
          rfl
  | succ f ih =>
    intro k acc n s' hk hle h he
    rw [numGo] at h
    split at h
    · cases h; simp [Sc.fail] at he
    · split at h
      · cases h; simp [Sc.fail] at he
      · rename_i h1 h2
        have hkl : k < l.length := by simp only at h1; omega
        have hc := rd_u8 hu k hkl
        have hnz : 0 < k → rd l k ≠ 0 := fun h0 hz => h2 (.inr ⟨h0, hz⟩)
        have hd := drop_rd l k hkl
        split at h
        · rename_i hlt
          simp only at hlt
          cases h
          refine ⟨rd l k, hc.1, fun h0 => by have := hnz h0; omega, ?_, ?_⟩
          · simp only; rw [Int.emod_eq_of_lt hc.1 hlt]
          · rw [hd, putGo, if_pos hlt, Int.emod_eq_of_lt hc.1 hc.2]; rfl
        · rename_i hlt
          simp only at hlt
          obtain ⟨m, hm0, hm1, hn, hdr⟩ := ih (k + 1) _ n s' (by omega) hkl h he
          have := hm1 (by omega)
          refine ⟨rd l k % 128 + 128 * m, by omega, fun _ => by omega, ?_, ?_⟩
          · rw [hn, Int.pow_succ, Int.add_mul, Int.add_assoc]
            congr 1; congr 1
            simp only [Int.mul_comm, Int.mul_left_comm, Int.mul_assoc]
          · rw [hd, hdr, putGo, if_neg (by omega)]
            rw [show (rd l k % 128 + 128 * m) % 128 + 128 = rd l k by omega, show (rd l k % 128 + 128 * m) / 128 = m by omega]
            rfl
theorem num_once (l : List Int) (hu : u8s l) (he : (Sc.num ⟨l, 0⟩).2.e = 0) : l = putL (Sc.num ⟨l, 0⟩).1 ++ (Sc.num ⟨l, 0⟩).2.l := by
  have hq : Sc.num ⟨l, 0⟩ = numGo ⟨l, 0⟩ 10 0 0 := rfl
  obtain ⟨m, _, _, hn, hd⟩ := numGo_once l hu 9 0 0 _ _ rfl (by omega) (show numGo ⟨l, 0⟩ (9 + 1) 0 0 = ((Sc.num ⟨l, 0⟩).1, (Sc.num ⟨l, 0⟩).2) by rw [hq]) he
  rw [show m = (Sc.num ⟨l, 0⟩).1 by rw [hn]; simp] at hd
  exact hd
/-- what was laid is read as it was -/
theorem numGo_back (l : List Int) : ∀ (f k : Nat) (acc m : Int) (rest : List Int), f + k = 9 → 0 ≤ m → (0 < k → 0 < m) → m * 128 ^ k < 18446744073709551616 → l.drop k = putGo f m ++ rest →
    numGo ⟨l, 0⟩ (f + 1) k acc = (acc + m * 128 ^ k, ⟨rest, 0⟩) := by
  intro f
  induction f with
  | zero =>
    intro k acc m rest hk h0 h1 hb hd
    obtain rfl : k = 9 := by omega
    have hm := h1 (by omega)
    obtain rfl : m = 1 := by omega
    have hkl : 9 < l.length := by
      apply Classical.byContradiction; intro hn
      rw [List.drop_eq_nil_of_le (by omega)] at hd
      simp [putGo] at hd
    have hd2 := drop_rd l 9 hkl
    rw [hd, putGo] at hd2
    simp only [List.singleton_append, List.cons.injEq] at hd2
    obtain ⟨hc, hr⟩ := hd2
    rw [numGo, if_neg (by simp only; omega), if_neg (by rintro (⟨_, h⟩ | ⟨_, h⟩) <;> simp only at h <;> omega), if_pos (by simp only; omega)]
    simp only
    rw [← hr, ← hc]
    rfl
  | succ f ih =>
    intro k acc m rest hk h0 h1 hb hd
    have hkl : k < l.length := by
      apply Classical.byContradiction; intro hn
      rw [List.drop_eq_nil_of_le (by omega), putGo] at hd
      split at hd <;> simp at hd
    have hd2 := drop_rd l k hkl
    rw [hd, putGo] at hd2
    have hk9 : k ≠ 9 := by omega
    by_cases hlt : m < 128
    · rw [if_pos hlt] at hd2
      simp only [List.singleton_append, List.cons.injEq] at hd2
      obtain ⟨hc, hr⟩ := hd2
      rw [numGo, if_neg (by simp only; omega), if_neg (by rintro (⟨h, _⟩ | ⟨h, hz⟩) <;> first | exact hk9 h | (have := h1 h; simp only at hz; omega)), if_pos (by simp only; omega)]
      simp only
      rw [← hr, ← hc, Int.emod_eq_of_lt h0 (by omega : m < 256), Int.emod_eq_of_lt h0 hlt]
    · rw [if_neg hlt] at hd2
      simp only [List.cons_append, List.cons.injEq] at hd2
      obtain ⟨hc, hr⟩ := hd2
      rw [numGo, if_neg (by simp only; omega), if_neg (by rintro (⟨h, _⟩ | ⟨_, hz⟩) <;> first | exact hk9 h | (simp only at hz; omega)), if_neg (by simp only; omega)]
      have hsplit : m * 128 ^ k = m % 128 * 128 ^ k + m / 128 * 128 ^ (k + 1) := by
        rw [Int.pow_succ, ← Int.mul_assoc, Int.mul_right_comm, ← Int.add_mul]
        congr 1; omega
      have hp : (0 : Int) < 128 ^ k := Int.pow_pos (by decide)
      have hnn : 0 ≤ m % 128 * 128 ^ k := Int.mul_nonneg (by omega) (by omega)
      rw [ih (k + 1) _ (m / 128) rest (by omega) (by omega) (fun _ => by omega) (by omega) hr.symm]
      simp only
      rw [← hc, show (m % 128 + 128) % 128 = m % 128 by omega, hsplit, Int.add_assoc]
theorem num_back (n : Int) (rest : List Int) (h0 : 0 ≤ n) (h1 : n < 18446744073709551616) : Sc.num ⟨putL n ++ rest, 0⟩ = (n, ⟨rest, 0⟩) := by
  have := numGo_back (putL n ++ rest) 9 0 0 n rest rfl h0 (by omega) (by simpa using h1) rfl
  rw [show Sc.num ⟨putL n ++ rest, 0⟩ = numGo ⟨putL n ++ rest, 0⟩ (9 + 1) 0 0 from rfl, this]
  simp

/-! ### ints -/
def zig (a : Int) : Int := if 0 ≤ a then 2 * a else -2 * a - 1
theorem zig_f (a : Int) (h0 : -9223372036854775808 ≤ a) (h1 : a < 9223372036854775808) : wire_zig.f a = some (zig a) := by
  unfold wire_zig.f zig
  congr 1
  by_cases h : 0 ≤ a
  · rw [if_pos h, show a / 9223372036854775808 = 0 by omega, show IntKind.u64.wrap 0 = ((0 : Nat) : Int) by rfl]
    obtain ⟨n, rfl⟩ := Int.eq_ofNat_of_zero_le h
    rw [show IntKind.u64.wrap (wrap64 ((n : Int) * 2)) = ((2 * n : Nat) : Int) by rw [IntKind.wrap_u64]; unfold wrap64; omega, u64_xor_nat _ _ (by omega) (by decide), Nat.xor_zero]
    omega
  · rw [if_neg h, show a / 9223372036854775808 = -1 by omega, show IntKind.u64.wrap (-1) = ((2 ^ 64 - 1 : Nat) : Int) by rfl]
    rw [show IntKind.u64.wrap (wrap64 (a * 2)) = (((2 * a + 18446744073709551616).toNat : Nat) : Int) by rw [IntKind.wrap_u64]; unfold wrap64; omega, u64_xor_nat _ _ (by omega) (by decide), Nat.xor_comm, Lib.xor_ones64 _ (by omega)]
    omega
theorem zig_lt (a : Int) (h0 : -9223372036854775808 ≤ a) (h1 : a < 9223372036854775808) : 0 ≤ zig a ∧ zig a < 18446744073709551616 := by unfold zig; split <;> omega
theorem zag_lt (n : Int) (h0 : 0 ≤ n) (h1 : n < 18446744073709551616) : -9223372036854775808 ≤ zag n ∧ zag n < 9223372036854775808 := by unfold zag; split <;> omega
theorem zag_zig (a : Int) : zag (zig a) = a := by unfold zag zig; split <;> split <;> omega
theorem zig_zag (n : Int) (h0 : 0 ≤ n) : zig (zag n) = n := by unfold zag zig; split <;> split <;> omega
theorem putInt_f (l : List Int) (a : Int) (h0 : -9223372036854775808 ≤ a) (h1 : a < 9223372036854775808) (hl : l.length ≤ 140737488355300) : wire_PutInt.f l a = some (l ++ putL (zig a)) := by
  unfold wire_PutInt.f
  rw [zig_f a h0 h1]
  have := zig_lt a h0 h1
  simp only [Option.bind_some]
  rw [put_f l _ this.1 this.2 hl]
  rfl

/-! ### texts -/
theorem wrap_size (n : Nat) (h : n < 18446744073709551616) : IntKind.u64.wrap (n : Int) = n := by rw [IntKind.wrap_u64]; omega
theorem putText_f (l : List Int) (s : ByteArray) (hl : l.length ≤ 140737488350000) (hs : s.size ≤ 4000) : wire_PutText.f l s = some (l ++ putL s.size ++ bytesOf s) := by
  unfold wire_PutText.f
  rw [wrap_size _ (by omega), put_f l _ (by omega) (by omega) (by omega)]
  have := putL_len (s.size : Int)
  simp only [Option.bind_some]
  rw [if_pos (by simp only [List.length_append]; omega)]
theorem fail_ne (s : Sc) (e : Int) (h : e ≠ 0) : (s.fail e).e ≠ 0 := by
  unfold Sc.fail
  rw [if_neg h]
  split
  · exact h
  · assumption
theorem text_none (s : Sc) (most : Int) (h : (s.text most).2.e ≠ 0) : (s.text most).1 = [] := by
  unfold Sc.text at h ⊢
  split at h
  · rename_i h1
    rw [if_pos h1]
    split at h
    · rename_i h2; rw [if_pos h2]
    · simp at h
  · rename_i h1; rw [if_neg h1]
theorem text_once (l : List Int) (hu : u8s l) (most : Int) (hm : 0 ≤ most ∧ most ≤ 4000) (he : (Sc.text ⟨l, 0⟩ most).2.e = 0) :
    l = putL (Sc.text ⟨l, 0⟩ most).1.length ++ (Sc.text ⟨l, 0⟩ most).1 ++ (Sc.text ⟨l, 0⟩ most).2.l ∧ ((Sc.text ⟨l, 0⟩ most).1.length : Int) ≤ most := by
  have hn := Sc.num_lt ⟨l, 0⟩ hu
  have ho := num_once l hu
  unfold Sc.text at he ⊢
  split at he
  · rename_i h1
    rw [if_pos h1]
    split at he
    · rename_i h2
      exact absurd he (fail_ne _ 2 (by decide))
    · rename_i h2
      rw [if_neg h2]
      unfold Sc.upto at h1 h2 ⊢
      split at h1
      · exact absurd h1 (fail_ne _ 4 (by decide))
      · rename_i h3
        simp only at h1
        rw [if_neg h3] at h2 ⊢
        have h4 : ¬ (most < 0 ∨ most < (Sc.num ⟨l, 0⟩).1) := fun h => h3 ⟨h1, h⟩
        generalize Sc.num ⟨l, 0⟩ = p at *
        obtain ⟨n, s⟩ := p
        simp only at *
        have hw : wrap64 n = n := by unfold wrap64; omega
        rw [hw] at h2 ⊢
        have hlen : ((s.l.take n.toNat).length : Int) = n := by rw [List.length_take]; omega
        rw [hlen, List.append_assoc, List.take_append_drop]
        exact ⟨ho h1, by omega⟩
  · exact absurd he (by assumption)
theorem text_back (x rest : List Int) (most : Int) (hm : (x.length : Int) ≤ most) (hl : x.length < 9223372036854775808) : Sc.text ⟨putL x.length ++ (x ++ rest), 0⟩ most = (x, ⟨rest, 0⟩) := by
  have hn := num_back x.length (x ++ rest) (by omega) (by omega)
  have hu : Sc.upto ⟨putL x.length ++ (x ++ rest), 0⟩ most = ((x.length : Int), ⟨x ++ rest, 0⟩) := by
    unfold Sc.upto
    rw [hn, if_neg (by simp only; omega)]
    simp only
    rw [show wrap64 (x.length : Int) = x.length by unfold wrap64; omega]
  unfold Sc.text
  rw [hu]
  simp only
  rw [if_pos trivial, if_neg (by simp only [List.length_append]; omega)]
  simp
theorem int_back (a : Int) (rest : List Int) (h0 : -9223372036854775808 ≤ a) (h1 : a < 9223372036854775808) : Sc.int ⟨putL (zig a) ++ rest, 0⟩ = (a, ⟨rest, 0⟩) := by
  have hz := zig_lt a h0 h1
  unfold Sc.int
  rw [num_back _ rest hz.1 hz.2, zag_zig]
theorem str_size (x : List Int) : (strOfNums x).size = x.length := by simp [strOfNums, ByteArray.size]
theorem str_bytes (x : List Int) (hu : u8s x) : bytesOf (strOfNums x) = x := by
  unfold bytesOf strOfNums
  simp only [List.map_map]
  apply List.ext_getElem (by simp)
  intro i h1 h2
  simp only [List.getElem_map, Function.comp]
  have := hu x[i] (List.getElem_mem h2)
  rw [UInt8.toNat_ofNat']
  omega
theorem u8s_left {a b : List Int} (h : u8s (a ++ b)) : u8s a := (u8s_append.1 h).1
theorem u8s_right {a b : List Int} (h : u8s (a ++ b)) : u8s b := (u8s_append.1 h).2
end Go.Proofs.Ytojefdnngkcaoaa
end

section
-- Written by a program of this session (wip/tools/myprint.py), over the kit's print.
namespace Go.Proofs.Ytojefdnngkcaoaa.G
open Go.RowKit Go.Proofs.YtojefdnngkcaoaaW.PrintWords Go.Proofs.YtojefdnngkcaoaaW.PrintLast Go.Proofs.YtojefdnngkcaoaaW.PrintMore
attribute [local go_sem] max2_int min2_int max_two min_two max_three min_three max_four min_four   -- for this text's walks alone
set_option linter.unusedVariables false
set_option linter.unusedSimpArgs false

-- BY HAND
def rosetteref02_Put.f (l0 : List Int) (a1 : Int) : Option (List Int) := if 0 ≤ a1 ∧ a1 < 18446744073709551616 ∧ l0.length ≤ 140737488355300 then some (l0 ++ putL a1) else none
set_option maxRecDepth 100000 in
set_option maxHeartbeats 1000000 in
theorem rosetteref02_Put.calls (A0 : Option Addr) (c0 : Nat) (l0 : List Int) (a1 : Int) (r : List Int) (w : World) (hr0 : Kd.C (Kd.int .u8) w A0 l0.length l0) (hc0 : l0.length ≤ c0) (h : rosetteref02_Put.f l0 a1 = some r) :
    Calls Try.prog 54 #[.slice A0 l0.length c0, .int .u64 a1] w fun e w' => ∃ v0_ : Value, e = .returned (v0_) ∧ Kd.R (Kd.int .u8) 5 w' w.heap.size (fun _ => True) v0_ r ∧ Below w.heap.size w w' := by
  have hh := h
  clear h
  unfold rosetteref02_Put.f at hh
  split at hh
  · rename_i hcond
    obtain ⟨ha0, ha1, hl⟩ := hcond
    have HRES := Aside0.mk (Option.some.inj hh)
    have HR0 := Aside0.mk hr0
    clear hh hr0
    go_enter Try.func54, Try.ntmps54
    go_wp2_with (at_builtin; refine print_append_row (w0 := w) w.heap.size rfl (.tmp 6) (.tmp 7) 27 5 .u8 1 rfl Try.underlying27 info_u8 (by decide) (.slice (some ⟨w.heap.size, 0, none⟩) 0 0) [] l0 A0 l0.length c0 rfl rfl ⟨by simp [nums], .inr ⟨w.heap.size, 0, #[], rfl, Nat.le_refl _, heap_alloc_new w _, by simp, by simp [maxLen], by simp, by simp [nums]⟩⟩ (Kd.reads_of_C (d := (0 : Int)) (Kd.C_alloc HR0.out _)) ((Below.refl _ _).alloc (Nat.le_refl _) _) (by simp) (by simp; omega) ?_; intro v1 w1 ho2 hB2 _ _; rw [List.nil_append] at ho2; have HO1 := Aside0.mk (kd_R ho2); have HB1 := Aside0.mk hB2; clear ho2 hB2)
    go_loopw [1, 5] (fun n v wr => ∃ (f : Nat) (m : Int) (xs : List Int), n = .int .u64 m ∧ 0 ≤ m ∧ f ≤ 9 ∧ Aside0 (m < 128 ^ (f + 1)) ∧ m < 18446744073709551616 ∧ Aside0 (xs ++ putGo f m = r) ∧ Aside0 (xs.length + f ≤ 140737488355309) ∧ Aside0 ((Kd.int .u8).R 5 wr w.heap.size (fun _ => True) v xs) ∧ Below w.heap.size w wr) (fun n _ _ => (intOf n).toNat)
    case atStart => exact ⟨9, a1, l0, rfl, ha0, Nat.le_refl _, ⟨by omega⟩, ha1, ⟨HRES.out⟩, ⟨by omega⟩, ⟨HO1.out⟩, HB1.out⟩
    case round =>
      obtain ⟨f, m, xs, rfl, hm0, hf, HM, hm64, HX, HL, HO, hBr⟩ := hrel
      by_cases hlt : 127 < m
      · go_wp2_with (at_builtin; refine app_num (w0 := w) w.heap.size rfl (.tmp 11) (.tmp 16) 27 5 .u8 1 rfl Try.underlying27 info_u8 (by decide) u5 xs (m % 128 + 128) rfl rfl HO.out hBr hBr.size (by have := HL.out; omega) ?_; intro v1 w1 HO2 hB2; clear HO hBr)
        have hm1 := HM.out
        have htm : Int.tmod m 128 = m % 128 := Int.tmod_eq_emod_of_nonneg hm0
        have htd : Int.tdiv m 128 = m / 128 := Int.tdiv_eq_ediv_of_nonneg hm0
        cases f with
        | zero => exact absurd hm1 (by simp; omega)
        | succ f =>
          have hx := HX.out
          have hL := HL.out
          rw [putGo, if_neg (by omega)] at hx
          refine ⟨⟨f, m / 128, xs ++ [m % 128 + 128], by first | rfl | rw [htd] | (rw [htd, IntKind.wrap_u64]; congr 1; omega), by omega, by omega, ⟨?_⟩, by omega, ⟨?_⟩, ⟨?_⟩, ⟨HO2.out⟩, hB2⟩, ?_⟩
          · rw [Int.pow_succ] at hm1
            exact Int.ediv_lt_of_lt_mul (by decide) hm1
          · rw [List.append_assoc]; exact hx
          · simp only [List.length_append, List.length_singleton]; omega
          · simp only [intOf, htd, IntKind.wrap_u64]; omega
      · go_wp2_with (at_builtin; refine app_num (w0 := w) w.heap.size rfl (.tmp 20) (.tmp 23) 27 5 .u8 1 rfl Try.underlying27 info_u8 (by decide) u5 xs m rfl rfl HO.out hBr hBr.size (by have := HL.out; omega) ?_; intro v1 w1 HO2 hB2; clear HO hBr)
        have hx := HX.out
        have hp : putGo f m = [m] := by
          cases f with
          | zero => rw [putGo]; rw [Int.emod_eq_of_lt hm0 (by omega)]
          | succ f => rw [putGo, if_pos (by omega)]; rw [Int.emod_eq_of_lt hm0 (by omega)]
        rw [hp] at hx
        subst hx
        go_ret
        exact ⟨v1, rfl, HO2.out, hB2⟩
  · cases hh

end Go.Proofs.Ytojefdnngkcaoaa.G
end

section
-- Written by a program of this session (wip/tools/myprint.py), over the kit's print.
namespace Go.Proofs.Ytojefdnngkcaoaa.G
open Go.RowKit Go.Proofs.YtojefdnngkcaoaaW.PrintWords Go.Proofs.YtojefdnngkcaoaaW.PrintLast Go.Proofs.YtojefdnngkcaoaaW.PrintMore
attribute [local go_sem] max2_int min2_int max_two min_two max_three min_three max_four min_four   -- for this text's walks alone
set_option linter.unusedVariables false
set_option linter.unusedSimpArgs false

/-! ### rosetteref02_PutInt: function 55 -/
def rosetteref02_PutInt.f (l0 : List Int) (a1 : Int) : Option (List Int) := if a1 < 0 then ((rosetteref02_Put.f l0 (IntKind.u64.wrap ((IntKind.u64.wrap (2 * (IntKind.u64.wrap (wrap64 ((-1) - a1))))) + 1))).bind fun t209 => (some t209)) else ((rosetteref02_Put.f l0 (IntKind.u64.wrap (2 * (IntKind.u64.wrap (a1))))).bind fun t212 => (some t212))
set_option maxHeartbeats 8000000 in
set_option maxRecDepth 100000 in
theorem rosetteref02_PutInt.calls (A0 : Option Addr) (c0 : Nat) (l0 : List Int) (a1 : Int) (r : List Int) (w : World) (hr0 : Kd.C (Kd.int .u8) w A0 l0.length l0) (hc0 : l0.length ≤ c0) (h : rosetteref02_PutInt.f l0 a1 = some r) :
    Calls Try.prog 55 #[.slice A0 l0.length c0, .int .i64 a1] w fun e w' => ∃ v0_ : Value, e = .returned (v0_) ∧ Kd.R (Kd.int .u8) 5 w' w.heap.size (fun _ => True) v0_ r ∧ Below w.heap.size w w' := by
  have HR0 := Aside0.mk hr0
  have HC0 := Aside0.mk hc0
  clear hr0 hc0
  have HB := Aside0.mk (Below.refl w.heap.size w)
  have H : (if a1 < 0 then ((rosetteref02_Put.f l0 (IntKind.u64.wrap ((IntKind.u64.wrap (2 * (IntKind.u64.wrap (wrap64 ((-1) - a1))))) + 1))).bind fun t209 => (some t209)) else ((rosetteref02_Put.f l0 (IntKind.u64.wrap (2 * (IntKind.u64.wrap (a1))))).bind fun t212 => (some t212))) = some r := h
  clear h
  by_cases c3 : a1 < 0
  · rw [if_pos c3] at H
    have c3b0 : decide (a1 < 0) = true := decide_eq_true c3
    clear c3
    replace H := Option.bind_eq_some_iff.mp H
    obtain ⟨t209, A40, H⟩ := H
    replace H : (some t209) = some r := H
    have A4 := Aside0.mk A40
    clear A40
    obtain rfl := Option.some.inj H
    go_enter Try.func55, Try.ntmps55
    go_wp2_with (first | ((with_reducible refine gate_callee (f := 54) rfl ?_); refine goesL_ (some 13) rfl rfl Try.func54 (by kernel_rfl) rfl #[.slice A0 l0.length c0, .int .u64 (IntKind.u64.wrap ((IntKind.u64.wrap (2 * (IntKind.u64.wrap (wrap64 ((-1) - a1))))) + 1))] rfl (by (try simp only [List.map_toArray, List.map_cons, List.map_nil]); first | done | rfl | (simp only [List.length_drop, List.length_take]; rfl)) ?_; (with_reducible refine (rosetteref02_Put.calls _ _ l0 (IntKind.u64.wrap ((IntKind.u64.wrap (2 * (IntKind.u64.wrap (wrap64 ((-1) - a1))))) + 1)) t209 _ ?side1 ?side2 A4.out).mono ?_); (case side1 => repeat (first | exact HR0.out | (with_reducible refine Kd.C_alloc ?_ _) | (with_reducible refine Kd.C_drewN ?_ _) | (with_reducible refine Kd.C_drew ?_))); (case side2 => exact HC0.out); rintro e w5 ⟨v210, rfl, ho0, hb⟩; refine ⟨_, rfl, ?_⟩; have n0_ := Aside0.mk (Kd.R_lower ho0 (below_size (by repeat (first | (with_reducible first | exact HB.out | apply below_alloc | apply pw_below_drewN | apply below_drew1) | exact HB.out)))); have n1_ := Aside0.mk (below_step (by repeat (first | (with_reducible first | exact HB.out | apply below_alloc | apply pw_below_drewN | apply below_drew1) | exact HB.out)) hb); clear HB; have HO211 := n0_; have HB := n1_; clear n0_ n1_; (try clear hb); (try clear hb2); (try clear hk); (try clear hi); (try clear ho0)))
    go_ret
    exact ⟨_, by first | rfl | (simp [errW_none, errW_some] <;> rfl) | (simp [*, errW_none, errW_some] <;> rfl), by (with_reducible repeat (first | apply Kd.R_alloc | apply Kd.R_drewN | apply Kd.R_drew)); exact HO211.out, by repeat (first | (with_reducible first | exact HB.out | apply below_alloc | apply pw_below_drewN | apply below_drew1) | exact HB.out)⟩
  · rw [if_neg c3] at H
    have c3b0 : decide (a1 < 0) = false := decide_eq_false c3
    clear c3
    replace H := Option.bind_eq_some_iff.mp H
    obtain ⟨t212, A60, H⟩ := H
    replace H : (some t212) = some r := H
    have A6 := Aside0.mk A60
    clear A60
    obtain rfl := Option.some.inj H
    go_enter Try.func55, Try.ntmps55
    go_wp2_with (first | ((with_reducible refine gate_callee (f := 54) rfl ?_); refine goesL_ (some 18) rfl rfl Try.func54 (by kernel_rfl) rfl #[.slice A0 l0.length c0, .int .u64 (IntKind.u64.wrap (2 * (IntKind.u64.wrap (a1))))] rfl (by (try simp only [List.map_toArray, List.map_cons, List.map_nil]); first | done | rfl | (simp only [List.length_drop, List.length_take]; rfl)) ?_; (with_reducible refine (rosetteref02_Put.calls _ _ l0 (IntKind.u64.wrap (2 * (IntKind.u64.wrap (a1)))) t212 _ ?side1 ?side2 A6.out).mono ?_); (case side1 => repeat (first | exact HR0.out | (with_reducible refine Kd.C_alloc ?_ _) | (with_reducible refine Kd.C_drewN ?_ _) | (with_reducible refine Kd.C_drew ?_))); (case side2 => exact HC0.out); rintro e w7 ⟨v213, rfl, ho0, hb⟩; refine ⟨_, rfl, ?_⟩; have n0_ := Aside0.mk (Kd.R_lower ho0 (below_size (by repeat (first | (with_reducible first | exact HB.out | apply below_alloc | apply pw_below_drewN | apply below_drew1) | exact HB.out)))); have n1_ := Aside0.mk (below_step (by repeat (first | (with_reducible first | exact HB.out | apply below_alloc | apply pw_below_drewN | apply below_drew1) | exact HB.out)) hb); clear HB; have HO214 := n0_; have HB := n1_; clear n0_ n1_; (try clear hb); (try clear hb2); (try clear hk); (try clear hi); (try clear ho0)))
    go_ret
    exact ⟨_, by first | rfl | (simp [errW_none, errW_some] <;> rfl) | (simp [*, errW_none, errW_some] <;> rfl), by (with_reducible repeat (first | apply Kd.R_alloc | apply Kd.R_drewN | apply Kd.R_drew)); exact HO214.out, by repeat (first | (with_reducible first | exact HB.out | apply below_alloc | apply pw_below_drewN | apply below_drew1) | exact HB.out)⟩

end Go.Proofs.Ytojefdnngkcaoaa.G
end

section
-- Written by a program of this session (wip/tools/myprint.py), over the kit's print.
namespace Go.Proofs.Ytojefdnngkcaoaa.G
open Go.RowKit Go.Proofs.YtojefdnngkcaoaaW.PrintWords Go.Proofs.YtojefdnngkcaoaaW.PrintLast Go.Proofs.YtojefdnngkcaoaaW.PrintMore
attribute [local go_sem] max2_int min2_int max_two min_two max_three min_three max_four min_four   -- for this text's walks alone
set_option linter.unusedVariables false
set_option linter.unusedSimpArgs false

/-! ### rosetteref02_PutText: function 35 -/
def rosetteref02_PutText.f (l0 : List Int) (a1 : ByteArray) : Option (List Int) := (rosetteref02_Put.f l0 (IntKind.u64.wrap ((a1.size : Int)))).bind fun t203 => (if t203.length + a1.size < 140737488355328 then (some (t203 ++ bytesOf a1)) else (none))
set_option maxHeartbeats 8000000 in
set_option maxRecDepth 100000 in
theorem rosetteref02_PutText.calls (A0 : Option Addr) (c0 : Nat) (l0 : List Int) (a1 : ByteArray) (r : List Int) (w : World) (hr0 : Kd.C (Kd.int .u8) w A0 l0.length l0) (hc0 : l0.length ≤ c0) (h : rosetteref02_PutText.f l0 a1 = some r) :
    Calls Try.prog 35 #[.slice A0 l0.length c0, .string a1] w fun e w' => ∃ v0_ : Value, e = .returned (v0_) ∧ Kd.R (Kd.int .u8) 5 w' w.heap.size (fun _ => True) v0_ r ∧ Below w.heap.size w w' := by
  have HR0 := Aside0.mk hr0
  have HC0 := Aside0.mk hc0
  clear hr0 hc0
  have HB := Aside0.mk (Below.refl w.heap.size w)
  have H : ((rosetteref02_Put.f l0 (IntKind.u64.wrap ((a1.size : Int)))).bind fun t203 => (if t203.length + a1.size < 140737488355328 then (some (t203 ++ bytesOf a1)) else (none))) = some r := h
  clear h
  replace H := Option.bind_eq_some_iff.mp H
  obtain ⟨t203, A30, H⟩ := H
  replace H : (if t203.length + a1.size < 140737488355328 then (some (t203 ++ bytesOf a1)) else (none)) = some r := H
  have A3 := Aside0.mk A30
  clear A30
  by_cases c4 : t203.length + a1.size < 140737488355328
  · rw [if_pos c4] at H
    have LMc4 := Aside0.mk c4
    clear c4
    obtain ⟨y206, hy206⟩ : ∃ y_ : List Int, y_ = (t203 ++ bytesOf a1) := ⟨_, rfl⟩
    replace H : (some y206) = some r := by first | (rw [hy206]; with_reducible exact H) | (have H2_ := (Option.bind_some _ _).symm.trans H; rw [hy206]; with_reducible exact H2_) | (have H2_ := (Option.bind_some _ _).symm.trans H; with_reducible exact H2_) | with_reducible exact H | (rw [hy206]; exact H) | exact H
    have Ny206 := Aside0.mk hy206
    clear hy206
    obtain rfl := Option.some.inj H
    go_enter Try.func35, Try.ntmps35
    go_wp2_with (first | ((with_reducible refine gate_callee (f := 54) rfl ?_); refine goesL_ (some 9) rfl rfl Try.func54 (by kernel_rfl) rfl #[.slice A0 l0.length c0, .int .u64 (IntKind.u64.wrap ((a1.size : Int)))] rfl (by (try simp only [List.map_toArray, List.map_cons, List.map_nil]); first | done | rfl | (simp only [List.length_drop, List.length_take]; rfl)) ?_; (with_reducible refine (rosetteref02_Put.calls _ _ l0 (IntKind.u64.wrap ((a1.size : Int))) t203 _ ?side1 ?side2 A3.out).mono ?_); (case side1 => repeat (first | exact HR0.out | (with_reducible refine Kd.C_alloc ?_ _) | (with_reducible refine Kd.C_drewN ?_ _) | (with_reducible refine Kd.C_drew ?_))); (case side2 => exact HC0.out); rintro e w5 ⟨v204, rfl, ho0, hb⟩; refine ⟨_, rfl, ?_⟩; have n0_ := Aside0.mk (Kd.R_lower ho0 (below_size (by repeat (first | (with_reducible first | exact HB.out | apply below_alloc | apply pw_below_drewN | apply below_drew1) | exact HB.out)))); have n1_ := Aside0.mk (below_step (by repeat (first | (with_reducible first | exact HB.out | apply below_alloc | apply pw_below_drewN | apply below_drew1) | exact HB.out)) hb); clear HB; have HO205 := n0_; have HB := n1_; clear n0_ n1_; (try clear hb); (try clear hb2); (try clear hk); (try clear hi); (try clear ho0)) | (at_builtin; refine print_append_str (w0 := w) w.heap.size rfl (.tmp 9) _ 27 9 5 rfl Try.underlying27 Try.underlying9 info5 v204 t203 a1 rfl rfl ?aO ?aB ?aS ?aL ?_; (case aB => exact (by repeat (first | (with_reducible first | exact HB.out | apply below_alloc | apply pw_below_drewN | apply below_drew1) | exact HB.out))); (case aO => exact (Kd.own_of_R (by (with_reducible repeat (first | apply Kd.R_alloc | apply Kd.R_drewN | apply Kd.R_drew)); exact HO205.out))); (case aS => exact (below_size (by repeat (first | (with_reducible first | exact HB.out | apply below_alloc | apply pw_below_drewN | apply below_drew1) | exact HB.out)))); (case aL => have := LMc4.out; omega); intro v207 w6 ho0 hb hg; have ho := Kd.R_of_own (h1 := fun _ => rfl) (ok := fun _ => True) ho0 (fun _ _ => trivial); clear ho0; have hat := True.intro; rw [← Ny206.out] at ho; change Kd.R (Kd.int .u8) 5 w6 w.heap.size (fun _ => True) v207 y206 at ho; have n0_ := Aside0.mk (hb); have n1_ := Aside0.mk (ho); clear HB; clear HO205; have HB := n0_; have HO208 := n1_; clear n0_ n1_; clear ho hb hg hat))
    go_ret
    exact ⟨_, by first | rfl | (simp [errW_none, errW_some] <;> rfl) | (simp [*, errW_none, errW_some] <;> rfl), by (with_reducible repeat (first | apply Kd.R_alloc | apply Kd.R_drewN | apply Kd.R_drew)); exact HO208.out, by repeat (first | (with_reducible first | exact HB.out | apply below_alloc | apply pw_below_drewN | apply below_drew1) | exact HB.out)⟩
  · rw [if_neg c4] at H
    exact absurd H (by simp)

end Go.Proofs.Ytojefdnngkcaoaa.G
end

section
/- the document's own Put, PutInt, PutText over lists -/
set_option linter.unusedVariables false
set_option linter.unusedSimpArgs false
set_option autoImplicit false
namespace Go.Proofs.Ytojefdnngkcaoaa
open Go.RowKit Go.Proofs.YtojefdnngkcaoaaW.PrintWords Go.Proofs.YtojefdnngkcaoaaW.PrintLast Go.Proofs.YtojefdnngkcaoaaW.PrintMore Go.Proofs.Ytojefdnngkcaoaa.G
theorem rput_f (l : List Int) (n : Int) (h0 : 0 ≤ n) (h1 : n < 18446744073709551616) (hl : l.length ≤ 140737488355300) : rosetteref02_Put.f l n = some (l ++ putL n) := by
  unfold rosetteref02_Put.f
  rw [if_pos ⟨h0, h1, hl⟩]
theorem rputInt_f (l : List Int) (a : Int) (h0 : -9223372036854775808 ≤ a) (h1 : a < 9223372036854775808) (hl : l.length ≤ 140737488355300) : rosetteref02_PutInt.f l a = some (l ++ putL (zig a)) := by
  have hz := zig_lt a h0 h1
  unfold rosetteref02_PutInt.f
  by_cases h : a < 0
  · rw [if_pos h, show IntKind.u64.wrap ((IntKind.u64.wrap (2 * (IntKind.u64.wrap (wrap64 ((-1) - a))))) + 1) = zig a by simp only [IntKind.wrap_u64]; unfold wrap64 zig; rw [if_neg (by omega)]; omega]
    rw [rput_f l _ hz.1 hz.2 hl]
    rfl
  · rw [if_neg h, show IntKind.u64.wrap (2 * (IntKind.u64.wrap a)) = zig a by simp only [IntKind.wrap_u64]; unfold zig; rw [if_pos (by omega)]; omega]
    rw [rput_f l _ hz.1 hz.2 hl]
    rfl
theorem rputText_f (l : List Int) (s : ByteArray) (hl : l.length ≤ 140737488350000) (hs : s.size ≤ 4000) : rosetteref02_PutText.f l s = some (l ++ putL s.size ++ bytesOf s) := by
  unfold rosetteref02_PutText.f
  rw [wrap_size _ (by omega), rput_f l _ (by omega) (by omega) (by omega)]
  have := putL_len (s.size : Int)
  simp only [Option.bind_some]
  rw [if_pos (by simp only [List.length_append]; omega)]
end Go.Proofs.Ytojefdnngkcaoaa
end

section
-- Written by a program of this session (wip/tools/myprint.py), over the kit's print.
namespace Go.Proofs.Ytojefdnngkcaoaa.G
open Go.RowKit Go.Proofs.YtojefdnngkcaoaaW.PrintWords Go.Proofs.YtojefdnngkcaoaaW.PrintLast Go.Proofs.YtojefdnngkcaoaaW.PrintMore
attribute [local go_sem] max2_int min2_int max_two min_two max_three min_three max_four min_four   -- for this text's walks alone
set_option linter.unusedVariables false
set_option linter.unusedSimpArgs false

/-! ### value_Put: function 32 -/
def value_Put.f (l0 : List Int) (a1_0 : Int) (a1_1 : Int) (a1_2 : ByteArray) : Option (List Int) := (value_Right.f a1_0 a1_1 a1_2).bind fun t142 => (if t142 = true then ((wire_Put.f l0 (IntKind.u64.wrap (a1_0))).bind fun t146 => (if a1_0 = 1 then ((wire_PutInt.f t146 a1_1).bind fun t149 => (some t149)) else (if a1_0 = 2 then ((wire_PutText.f t146 a1_2).bind fun t152 => (some t152)) else ((wire_Put.f t146 (IntKind.u64.wrap (a1_1))).bind fun t155 => (some t155))))) else ((slices_Clone_byte_byte.f l0).bind fun t143 => (some t143)))
set_option maxHeartbeats 8000000 in
set_option maxRecDepth 100000 in
theorem value_Put.calls (A0 : Option Addr) (c0 : Nat) (l0 : List Int) (a1_0 : Int) (a1_1 : Int) (a1_2 : ByteArray) (r : List Int) (w : World) (hr0 : Kd.C (Kd.int .u8) w A0 l0.length l0) (hc0 : l0.length ≤ c0) (h : value_Put.f l0 a1_0 a1_1 a1_2 = some r) :
    Calls Try.prog 32 #[.slice A0 l0.length c0, .agg #[.int .i64 a1_0, .int .i64 a1_1, .string a1_2]] w fun e w' => ∃ v0_ : Value, e = .returned (v0_) ∧ Kd.R (Kd.int .u8) 5 w' w.heap.size (fun _ => True) v0_ r ∧ Below w.heap.size w w' := by
  have hu23 := Try.underlying23
  have HR0 := Aside0.mk hr0
  have HC0 := Aside0.mk hc0
  clear hr0 hc0
  have HB := Aside0.mk (Below.refl w.heap.size w)
  have H : ((value_Right.f a1_0 a1_1 a1_2).bind fun t142 => (if t142 = true then ((wire_Put.f l0 (IntKind.u64.wrap (a1_0))).bind fun t146 => (if a1_0 = 1 then ((wire_PutInt.f t146 a1_1).bind fun t149 => (some t149)) else (if a1_0 = 2 then ((wire_PutText.f t146 a1_2).bind fun t152 => (some t152)) else ((wire_Put.f t146 (IntKind.u64.wrap (a1_1))).bind fun t155 => (some t155))))) else ((slices_Clone_byte_byte.f l0).bind fun t143 => (some t143)))) = some r := h
  clear h
  replace H := Option.bind_eq_some_iff.mp H
  obtain ⟨t142, A30, H⟩ := H
  replace H : (if t142 = true then ((wire_Put.f l0 (IntKind.u64.wrap (a1_0))).bind fun t146 => (if a1_0 = 1 then ((wire_PutInt.f t146 a1_1).bind fun t149 => (some t149)) else (if a1_0 = 2 then ((wire_PutText.f t146 a1_2).bind fun t152 => (some t152)) else ((wire_Put.f t146 (IntKind.u64.wrap (a1_1))).bind fun t155 => (some t155))))) else ((slices_Clone_byte_byte.f l0).bind fun t143 => (some t143))) = some r := H
  have A3 := Aside0.mk A30
  clear A30
  by_cases c4 : t142 = true
  · subst c4
    have H1 : ((wire_Put.f l0 (IntKind.u64.wrap (a1_0))).bind fun t146 => (if a1_0 = 1 then ((wire_PutInt.f t146 a1_1).bind fun t149 => (some t149)) else (if a1_0 = 2 then ((wire_PutText.f t146 a1_2).bind fun t152 => (some t152)) else ((wire_Put.f t146 (IntKind.u64.wrap (a1_1))).bind fun t155 => (some t155))))) = some r := by rw [if_pos rfl] at H; exact H
    clear H
    have H := H1
    clear H1
    replace H := Option.bind_eq_some_iff.mp H
    obtain ⟨t146, A50, H⟩ := H
    replace H : (if a1_0 = 1 then ((wire_PutInt.f t146 a1_1).bind fun t149 => (some t149)) else (if a1_0 = 2 then ((wire_PutText.f t146 a1_2).bind fun t152 => (some t152)) else ((wire_Put.f t146 (IntKind.u64.wrap (a1_1))).bind fun t155 => (some t155)))) = some r := H
    have A5 := Aside0.mk A50
    clear A50
    by_cases c6 : a1_0 = 1
    · rw [if_pos c6] at H
      have c6b0 : (a1_0 == 1) = true := beq_iff_eq.mpr c6
      have c6b1 : (a1_0 != 1) = false := bne_eq_false_iff_eq.mpr c6
      clear c6
      replace H := Option.bind_eq_some_iff.mp H
      obtain ⟨t149, A70, H⟩ := H
      replace H : (some t149) = some r := H
      have A7 := Aside0.mk A70
      clear A70
      obtain rfl := Option.some.inj H
      go_enter Try.func32, Try.ntmps32
      go_wp2_with (first | ((with_reducible refine gate_dst (N := 3) rfl ?_); refine box_event ?hg (N := 3) ?hd (cs := #[.int .i64 a1_0, .int .i64 a1_1, .string a1_2]) (t := 23) ?hr ?_; (case hd => rfl); (case hg => rfl); (case hr => first | (go_simp; done) | (go_simp; rfl)); intro gb141 hg w8 hbox hb; have n0_ := Aside0.mk (below_step (by repeat (first | (with_reducible first | exact HB.out | apply below_alloc | apply pw_below_drewN | apply below_drew1) | exact HB.out)) hb); have n1_ := Aside0.mk (hbox); have n2_ := Aside0.mk ((by rw [hg]; exact (below_size (by repeat (first | (with_reducible first | exact HB.out | apply below_alloc | apply pw_below_drewN | apply below_drew1) | exact HB.out))) : w.heap.size ≤ gb141)); have n3_ := Aside0.mk ((by rw [hg]; exact (below_size (by repeat (first | (with_reducible first | exact HB.out | apply below_alloc | apply pw_below_drewN | apply below_drew1) | exact HB.out))) : w.heap.size ≤ gb141)); clear HB; have HB := n0_; have BK141 := n1_; have GW141 := n2_; have GE141 := n3_; clear n0_ n1_ n2_ n3_; clear hb hbox hg; have hcz9_0 : w8.cell? ⟨gb141, 0, none⟩ = some (.int .i64 a1_0) := (blk_cell BK141.out 0).trans rfl; have hcz9_1 : w8.cell? ⟨gb141, 1, none⟩ = some (.int .i64 a1_1) := (blk_cell BK141.out 1).trans rfl; have hcz9_2 : w8.cell? ⟨gb141, 2, none⟩ = some (.string a1_2) := (blk_cell BK141.out 2).trans rfl; have hfz9_0 := blk_frozen BK141.out 0; have hfz9_1 := blk_frozen BK141.out 1; have hfz9_2 := blk_frozen BK141.out 2) | ((with_reducible refine gate_callee (f := 18) rfl ?_); refine goesL_ (some 7) rfl rfl Try.func18 (by kernel_rfl) rfl #[.agg #[.int .i64 a1_0, .int .i64 a1_1, .string a1_2]] rfl (by (try simp only [List.map_toArray, List.map_cons, List.map_nil]); first | done | rfl | (simp only [List.length_drop, List.length_take]; rfl)) ?_; (with_reducible refine (value_Right.calls a1_0 a1_1 a1_2 true _ A3.out).mono ?_); rintro e w10 ⟨rfl, hb⟩; refine ⟨_, rfl, ?_⟩; have n0_ := Aside0.mk (blk_below (g := gb141) (o := .cells #[.int .i64 a1_0, .int .i64 a1_1, .string a1_2] 23 (0, 0)) (by (with_reducible repeat (first | refine blk_drewN ?_ _ | refine blk_drew ?_ | refine blk_alloc ?_ _)); exact BK141.out) hb); have n1_ := Aside0.mk (below_step (by repeat (first | (with_reducible first | exact HB.out | apply below_alloc | apply pw_below_drewN | apply below_drew1 | refine below_set ?_ GE141.out) | exact HB.out)) hb); clear BK141; clear HB; have BK141 := n0_; have HB := n1_; clear n0_ n1_; (try clear hb); (try clear hb2); (try clear hk); (try clear hi); have hcz11_0 : w10.cell? ⟨gb141, 0, none⟩ = some (.int .i64 a1_0) := (blk_cell BK141.out 0).trans rfl; have hcz11_1 : w10.cell? ⟨gb141, 1, none⟩ = some (.int .i64 a1_1) := (blk_cell BK141.out 1).trans rfl; have hcz11_2 : w10.cell? ⟨gb141, 2, none⟩ = some (.string a1_2) := (blk_cell BK141.out 2).trans rfl; have hfz11_0 := blk_frozen BK141.out 0; have hfz11_1 := blk_frozen BK141.out 1; have hfz11_2 := blk_frozen BK141.out 2) | ((with_reducible refine gate_callee (f := 33) rfl ?_); refine goesL_ (some 15) rfl rfl Try.func33 (by kernel_rfl) rfl #[.slice A0 l0.length c0, .int .u64 (IntKind.u64.wrap (a1_0))] rfl (by (try simp only [List.map_toArray, List.map_cons, List.map_nil]); first | done | rfl | (simp only [List.length_drop, List.length_take]; rfl)) ?_; (with_reducible refine (wire_Put.calls _ _ l0 (IntKind.u64.wrap (a1_0)) t146 _ ?side1 ?side2 A5.out).mono ?_); (case side1 => repeat (first | exact (Kd.C_below HR0.out HB.out) | (with_reducible refine Kd.C_alloc ?_ _) | (with_reducible refine Kd.C_drewN ?_ _) | (with_reducible refine Kd.C_drew ?_))); (case side2 => exact HC0.out); rintro e w12 ⟨v147, rfl, ho0, hb⟩; refine ⟨_, rfl, ?_⟩; have n0_ := Aside0.mk (Kd.R_lower ho0 (below_size (by repeat (first | (with_reducible first | exact HB.out | apply below_alloc | apply pw_below_drewN | apply below_drew1 | refine below_set ?_ GE141.out) | exact HB.out)))); have n1_ := Aside0.mk (blk_below (g := gb141) (o := .cells #[.int .i64 a1_0, .int .i64 a1_1, .string a1_2] 23 (0, 0)) (by (with_reducible repeat (first | refine blk_drewN ?_ _ | refine blk_drew ?_ | refine blk_alloc ?_ _)); exact BK141.out) hb); have n2_ := Aside0.mk (below_step (by repeat (first | (with_reducible first | exact HB.out | apply below_alloc | apply pw_below_drewN | apply below_drew1 | refine below_set ?_ GE141.out) | exact HB.out)) hb); clear BK141; clear HB; have HO148 := n0_; have BK141 := n1_; have HB := n2_; clear n0_ n1_ n2_; (try clear hb); (try clear hb2); (try clear hk); (try clear hi); (try clear ho0); have hcz13_0 : w12.cell? ⟨gb141, 0, none⟩ = some (.int .i64 a1_0) := (blk_cell BK141.out 0).trans rfl; have hcz13_1 : w12.cell? ⟨gb141, 1, none⟩ = some (.int .i64 a1_1) := (blk_cell BK141.out 1).trans rfl; have hcz13_2 : w12.cell? ⟨gb141, 2, none⟩ = some (.string a1_2) := (blk_cell BK141.out 2).trans rfl; have hfz13_0 := blk_frozen BK141.out 0; have hfz13_1 := blk_frozen BK141.out 1; have hfz13_2 := blk_frozen BK141.out 2; obtain ⟨Ao14, co14, eo14⟩ := Kd.R_slice HO148.out; subst eo14) | ((with_reducible refine gate_callee (f := 52) rfl ?_); refine goesL_ (some 23) rfl rfl Try.func52 (by kernel_rfl) rfl #[.slice Ao14 t146.length co14, .int .i64 a1_1] rfl (by (try simp only [List.map_toArray, List.map_cons, List.map_nil]); first | done | rfl | (simp only [List.length_drop, List.length_take]; rfl)) ?_; (with_reducible refine (wire_PutInt.calls _ _ t146 a1_1 t149 _ ?side1 ?side2 A7.out).mono ?_); (case side1 => repeat (first | exact (Kd.R_reads' HO148.out).2.2 | (with_reducible refine Kd.C_alloc ?_ _) | (with_reducible refine Kd.C_drewN ?_ _) | (with_reducible refine Kd.C_drew ?_))); (case side2 => exact (Kd.R_reads' HO148.out).2.1); rintro e w15 ⟨v150, rfl, ho0, hb⟩; refine ⟨_, rfl, ?_⟩; have n0_ := Aside0.mk (Kd.R_elder' (by (with_reducible repeat (first | apply Kd.R_alloc | apply Kd.R_drewN | apply Kd.R_drew)); exact HO148.out) (Kd.R_base ho0) hb); have n1_ := Aside0.mk (Kd.R_lower (Kd.R_new' ho0 (Kd.R_lt (by (with_reducible repeat (first | apply Kd.R_alloc | apply Kd.R_drewN | apply Kd.R_drew)); exact HO148.out))) (below_size (by repeat (first | (with_reducible first | exact HB.out | apply below_alloc | apply pw_below_drewN | apply below_drew1 | refine below_set ?_ GE141.out) | exact HB.out)))); have n2_ := Aside0.mk (blk_below (g := gb141) (o := .cells #[.int .i64 a1_0, .int .i64 a1_1, .string a1_2] 23 (0, 0)) (by (with_reducible repeat (first | refine blk_drewN ?_ _ | refine blk_drew ?_ | refine blk_alloc ?_ _)); exact BK141.out) hb); have n3_ := Aside0.mk (below_step (by repeat (first | (with_reducible first | exact HB.out | apply below_alloc | apply pw_below_drewN | apply below_drew1 | refine below_set ?_ GE141.out) | exact HB.out)) hb); clear HO148; clear BK141; clear HB; have HO148 := n0_; have HO151 := n1_; have BK141 := n2_; have HB := n3_; clear n0_ n1_ n2_ n3_; (try clear hb); (try clear hb2); (try clear hk); (try clear hi); (try clear ho0)))
      go_ret
      exact ⟨_, by first | rfl | (simp [errW_none, errW_some] <;> rfl) | (simp [*, errW_none, errW_some] <;> rfl), by (with_reducible repeat (first | apply Kd.R_alloc | apply Kd.R_drewN | apply Kd.R_drew)); exact Kd.R_mono HO151.out (fun _ hk => trivial), by repeat (first | (with_reducible first | exact HB.out | apply below_alloc | apply pw_below_drewN | apply below_drew1 | refine below_set ?_ GE141.out) | exact HB.out)⟩
    · rw [if_neg c6] at H
      have c6b0 : (a1_0 == 1) = false := beq_eq_false_iff_ne.mpr c6
      have c6b1 : (a1_0 != 1) = true := bne_iff_ne.mpr c6
      by_cases c16 : a1_0 = 2
      · rw [if_pos c16] at H
        have c16b0 : (a1_0 == 2) = true := beq_iff_eq.mpr c16
        have c16b1 : (a1_0 != 2) = false := bne_eq_false_iff_eq.mpr c16
        clear c16
        replace H := Option.bind_eq_some_iff.mp H
        obtain ⟨t152, A170, H⟩ := H
        replace H : (some t152) = some r := H
        have A17 := Aside0.mk A170
        clear A170
        obtain rfl := Option.some.inj H
        go_enter Try.func32, Try.ntmps32
        go_wp2_with (first | ((with_reducible refine gate_dst (N := 3) rfl ?_); refine box_event ?hg (N := 3) ?hd (cs := #[.int .i64 a1_0, .int .i64 a1_1, .string a1_2]) (t := 23) ?hr ?_; (case hd => rfl); (case hg => rfl); (case hr => first | (go_simp; done) | (go_simp; rfl)); intro gb141 hg w18 hbox hb; have n0_ := Aside0.mk (below_step (by repeat (first | (with_reducible first | exact HB.out | apply below_alloc | apply pw_below_drewN | apply below_drew1) | exact HB.out)) hb); have n1_ := Aside0.mk (hbox); have n2_ := Aside0.mk ((by rw [hg]; exact (below_size (by repeat (first | (with_reducible first | exact HB.out | apply below_alloc | apply pw_below_drewN | apply below_drew1) | exact HB.out))) : w.heap.size ≤ gb141)); have n3_ := Aside0.mk ((by rw [hg]; exact (below_size (by repeat (first | (with_reducible first | exact HB.out | apply below_alloc | apply pw_below_drewN | apply below_drew1) | exact HB.out))) : w.heap.size ≤ gb141)); clear HB; have HB := n0_; have BK141 := n1_; have GW141 := n2_; have GE141 := n3_; clear n0_ n1_ n2_ n3_; clear hb hbox hg; have hcz19_0 : w18.cell? ⟨gb141, 0, none⟩ = some (.int .i64 a1_0) := (blk_cell BK141.out 0).trans rfl; have hcz19_1 : w18.cell? ⟨gb141, 1, none⟩ = some (.int .i64 a1_1) := (blk_cell BK141.out 1).trans rfl; have hcz19_2 : w18.cell? ⟨gb141, 2, none⟩ = some (.string a1_2) := (blk_cell BK141.out 2).trans rfl; have hfz19_0 := blk_frozen BK141.out 0; have hfz19_1 := blk_frozen BK141.out 1; have hfz19_2 := blk_frozen BK141.out 2) | ((with_reducible refine gate_callee (f := 18) rfl ?_); refine goesL_ (some 7) rfl rfl Try.func18 (by kernel_rfl) rfl #[.agg #[.int .i64 a1_0, .int .i64 a1_1, .string a1_2]] rfl (by (try simp only [List.map_toArray, List.map_cons, List.map_nil]); first | done | rfl | (simp only [List.length_drop, List.length_take]; rfl)) ?_; (with_reducible refine (value_Right.calls a1_0 a1_1 a1_2 true _ A3.out).mono ?_); rintro e w20 ⟨rfl, hb⟩; refine ⟨_, rfl, ?_⟩; have n0_ := Aside0.mk (blk_below (g := gb141) (o := .cells #[.int .i64 a1_0, .int .i64 a1_1, .string a1_2] 23 (0, 0)) (by (with_reducible repeat (first | refine blk_drewN ?_ _ | refine blk_drew ?_ | refine blk_alloc ?_ _)); exact BK141.out) hb); have n1_ := Aside0.mk (below_step (by repeat (first | (with_reducible first | exact HB.out | apply below_alloc | apply pw_below_drewN | apply below_drew1 | refine below_set ?_ GE141.out) | exact HB.out)) hb); clear BK141; clear HB; have BK141 := n0_; have HB := n1_; clear n0_ n1_; (try clear hb); (try clear hb2); (try clear hk); (try clear hi); have hcz21_0 : w20.cell? ⟨gb141, 0, none⟩ = some (.int .i64 a1_0) := (blk_cell BK141.out 0).trans rfl; have hcz21_1 : w20.cell? ⟨gb141, 1, none⟩ = some (.int .i64 a1_1) := (blk_cell BK141.out 1).trans rfl; have hcz21_2 : w20.cell? ⟨gb141, 2, none⟩ = some (.string a1_2) := (blk_cell BK141.out 2).trans rfl; have hfz21_0 := blk_frozen BK141.out 0; have hfz21_1 := blk_frozen BK141.out 1; have hfz21_2 := blk_frozen BK141.out 2) | ((with_reducible refine gate_callee (f := 33) rfl ?_); refine goesL_ (some 15) rfl rfl Try.func33 (by kernel_rfl) rfl #[.slice A0 l0.length c0, .int .u64 (IntKind.u64.wrap (a1_0))] rfl (by (try simp only [List.map_toArray, List.map_cons, List.map_nil]); first | done | rfl | (simp only [List.length_drop, List.length_take]; rfl)) ?_; (with_reducible refine (wire_Put.calls _ _ l0 (IntKind.u64.wrap (a1_0)) t146 _ ?side1 ?side2 A5.out).mono ?_); (case side1 => repeat (first | exact (Kd.C_below HR0.out HB.out) | (with_reducible refine Kd.C_alloc ?_ _) | (with_reducible refine Kd.C_drewN ?_ _) | (with_reducible refine Kd.C_drew ?_))); (case side2 => exact HC0.out); rintro e w22 ⟨v147, rfl, ho0, hb⟩; refine ⟨_, rfl, ?_⟩; have n0_ := Aside0.mk (Kd.R_lower ho0 (below_size (by repeat (first | (with_reducible first | exact HB.out | apply below_alloc | apply pw_below_drewN | apply below_drew1 | refine below_set ?_ GE141.out) | exact HB.out)))); have n1_ := Aside0.mk (blk_below (g := gb141) (o := .cells #[.int .i64 a1_0, .int .i64 a1_1, .string a1_2] 23 (0, 0)) (by (with_reducible repeat (first | refine blk_drewN ?_ _ | refine blk_drew ?_ | refine blk_alloc ?_ _)); exact BK141.out) hb); have n2_ := Aside0.mk (below_step (by repeat (first | (with_reducible first | exact HB.out | apply below_alloc | apply pw_below_drewN | apply below_drew1 | refine below_set ?_ GE141.out) | exact HB.out)) hb); clear BK141; clear HB; have HO148 := n0_; have BK141 := n1_; have HB := n2_; clear n0_ n1_ n2_; (try clear hb); (try clear hb2); (try clear hk); (try clear hi); (try clear ho0); have hcz23_0 : w22.cell? ⟨gb141, 0, none⟩ = some (.int .i64 a1_0) := (blk_cell BK141.out 0).trans rfl; have hcz23_1 : w22.cell? ⟨gb141, 1, none⟩ = some (.int .i64 a1_1) := (blk_cell BK141.out 1).trans rfl; have hcz23_2 : w22.cell? ⟨gb141, 2, none⟩ = some (.string a1_2) := (blk_cell BK141.out 2).trans rfl; have hfz23_0 := blk_frozen BK141.out 0; have hfz23_1 := blk_frozen BK141.out 1; have hfz23_2 := blk_frozen BK141.out 2; obtain ⟨Ao24, co24, eo24⟩ := Kd.R_slice HO148.out; subst eo24) | ((with_reducible refine gate_callee (f := 34) rfl ?_); refine goesL_ (some 29) rfl rfl Try.func34 (by kernel_rfl) rfl #[.slice Ao24 t146.length co24, .string a1_2] rfl (by (try simp only [List.map_toArray, List.map_cons, List.map_nil]); first | done | rfl | (simp only [List.length_drop, List.length_take]; rfl)) ?_; (with_reducible refine (wire_PutText.calls _ _ t146 a1_2 t152 _ ?side1 ?side2 A17.out).mono ?_); (case side1 => repeat (first | exact (Kd.R_reads' HO148.out).2.2 | (with_reducible refine Kd.C_alloc ?_ _) | (with_reducible refine Kd.C_drewN ?_ _) | (with_reducible refine Kd.C_drew ?_))); (case side2 => exact (Kd.R_reads' HO148.out).2.1); rintro e w25 ⟨v153, rfl, ho0, hb⟩; refine ⟨_, rfl, ?_⟩; have n0_ := Aside0.mk (Kd.R_elder' (by (with_reducible repeat (first | apply Kd.R_alloc | apply Kd.R_drewN | apply Kd.R_drew)); exact HO148.out) (Kd.R_base ho0) hb); have n1_ := Aside0.mk (Kd.R_lower (Kd.R_new' ho0 (Kd.R_lt (by (with_reducible repeat (first | apply Kd.R_alloc | apply Kd.R_drewN | apply Kd.R_drew)); exact HO148.out))) (below_size (by repeat (first | (with_reducible first | exact HB.out | apply below_alloc | apply pw_below_drewN | apply below_drew1 | refine below_set ?_ GE141.out) | exact HB.out)))); have n2_ := Aside0.mk (blk_below (g := gb141) (o := .cells #[.int .i64 a1_0, .int .i64 a1_1, .string a1_2] 23 (0, 0)) (by (with_reducible repeat (first | refine blk_drewN ?_ _ | refine blk_drew ?_ | refine blk_alloc ?_ _)); exact BK141.out) hb); have n3_ := Aside0.mk (below_step (by repeat (first | (with_reducible first | exact HB.out | apply below_alloc | apply pw_below_drewN | apply below_drew1 | refine below_set ?_ GE141.out) | exact HB.out)) hb); clear HO148; clear BK141; clear HB; have HO148 := n0_; have HO154 := n1_; have BK141 := n2_; have HB := n3_; clear n0_ n1_ n2_ n3_; (try clear hb); (try clear hb2); (try clear hk); (try clear hi); (try clear ho0)))
        go_ret
        exact ⟨_, by first | rfl | (simp [errW_none, errW_some] <;> rfl) | (simp [*, errW_none, errW_some] <;> rfl), by (with_reducible repeat (first | apply Kd.R_alloc | apply Kd.R_drewN | apply Kd.R_drew)); exact Kd.R_mono HO154.out (fun _ hk => trivial), by repeat (first | (with_reducible first | exact HB.out | apply below_alloc | apply pw_below_drewN | apply below_drew1 | refine below_set ?_ GE141.out) | exact HB.out)⟩
      · rw [if_neg c16] at H
        have c16b0 : (a1_0 == 2) = false := beq_eq_false_iff_ne.mpr c16
        have c16b1 : (a1_0 != 2) = true := bne_iff_ne.mpr c16
        replace H := Option.bind_eq_some_iff.mp H
        obtain ⟨t155, A260, H⟩ := H
        replace H : (some t155) = some r := H
        have A26 := Aside0.mk A260
        clear A260
        obtain rfl := Option.some.inj H
        go_enter Try.func32, Try.ntmps32
        go_wp2_with (first | ((with_reducible refine gate_dst (N := 3) rfl ?_); refine box_event ?hg (N := 3) ?hd (cs := #[.int .i64 a1_0, .int .i64 a1_1, .string a1_2]) (t := 23) ?hr ?_; (case hd => rfl); (case hg => rfl); (case hr => first | (go_simp; done) | (go_simp; rfl)); intro gb141 hg w27 hbox hb; have n0_ := Aside0.mk (below_step (by repeat (first | (with_reducible first | exact HB.out | apply below_alloc | apply pw_below_drewN | apply below_drew1) | exact HB.out)) hb); have n1_ := Aside0.mk (hbox); have n2_ := Aside0.mk ((by rw [hg]; exact (below_size (by repeat (first | (with_reducible first | exact HB.out | apply below_alloc | apply pw_below_drewN | apply below_drew1) | exact HB.out))) : w.heap.size ≤ gb141)); have n3_ := Aside0.mk ((by rw [hg]; exact (below_size (by repeat (first | (with_reducible first | exact HB.out | apply below_alloc | apply pw_below_drewN | apply below_drew1) | exact HB.out))) : w.heap.size ≤ gb141)); clear HB; have HB := n0_; have BK141 := n1_; have GW141 := n2_; have GE141 := n3_; clear n0_ n1_ n2_ n3_; clear hb hbox hg; have hcz28_0 : w27.cell? ⟨gb141, 0, none⟩ = some (.int .i64 a1_0) := (blk_cell BK141.out 0).trans rfl; have hcz28_1 : w27.cell? ⟨gb141, 1, none⟩ = some (.int .i64 a1_1) := (blk_cell BK141.out 1).trans rfl; have hcz28_2 : w27.cell? ⟨gb141, 2, none⟩ = some (.string a1_2) := (blk_cell BK141.out 2).trans rfl; have hfz28_0 := blk_frozen BK141.out 0; have hfz28_1 := blk_frozen BK141.out 1; have hfz28_2 := blk_frozen BK141.out 2) | ((with_reducible refine gate_callee (f := 18) rfl ?_); refine goesL_ (some 7) rfl rfl Try.func18 (by kernel_rfl) rfl #[.agg #[.int .i64 a1_0, .int .i64 a1_1, .string a1_2]] rfl (by (try simp only [List.map_toArray, List.map_cons, List.map_nil]); first | done | rfl | (simp only [List.length_drop, List.length_take]; rfl)) ?_; (with_reducible refine (value_Right.calls a1_0 a1_1 a1_2 true _ A3.out).mono ?_); rintro e w29 ⟨rfl, hb⟩; refine ⟨_, rfl, ?_⟩; have n0_ := Aside0.mk (blk_below (g := gb141) (o := .cells #[.int .i64 a1_0, .int .i64 a1_1, .string a1_2] 23 (0, 0)) (by (with_reducible repeat (first | refine blk_drewN ?_ _ | refine blk_drew ?_ | refine blk_alloc ?_ _)); exact BK141.out) hb); have n1_ := Aside0.mk (below_step (by repeat (first | (with_reducible first | exact HB.out | apply below_alloc | apply pw_below_drewN | apply below_drew1 | refine below_set ?_ GE141.out) | exact HB.out)) hb); clear BK141; clear HB; have BK141 := n0_; have HB := n1_; clear n0_ n1_; (try clear hb); (try clear hb2); (try clear hk); (try clear hi); have hcz30_0 : w29.cell? ⟨gb141, 0, none⟩ = some (.int .i64 a1_0) := (blk_cell BK141.out 0).trans rfl; have hcz30_1 : w29.cell? ⟨gb141, 1, none⟩ = some (.int .i64 a1_1) := (blk_cell BK141.out 1).trans rfl; have hcz30_2 : w29.cell? ⟨gb141, 2, none⟩ = some (.string a1_2) := (blk_cell BK141.out 2).trans rfl; have hfz30_0 := blk_frozen BK141.out 0; have hfz30_1 := blk_frozen BK141.out 1; have hfz30_2 := blk_frozen BK141.out 2) | ((with_reducible refine gate_callee (f := 33) rfl ?_); refine goesL_ (some 15) rfl rfl Try.func33 (by kernel_rfl) rfl #[.slice A0 l0.length c0, .int .u64 (IntKind.u64.wrap (a1_0))] rfl (by (try simp only [List.map_toArray, List.map_cons, List.map_nil]); first | done | rfl | (simp only [List.length_drop, List.length_take]; rfl)) ?_; (with_reducible refine (wire_Put.calls _ _ l0 (IntKind.u64.wrap (a1_0)) t146 _ ?side1 ?side2 A5.out).mono ?_); (case side1 => repeat (first | exact (Kd.C_below HR0.out HB.out) | (with_reducible refine Kd.C_alloc ?_ _) | (with_reducible refine Kd.C_drewN ?_ _) | (with_reducible refine Kd.C_drew ?_))); (case side2 => exact HC0.out); rintro e w31 ⟨v147, rfl, ho0, hb⟩; refine ⟨_, rfl, ?_⟩; have n0_ := Aside0.mk (Kd.R_lower ho0 (below_size (by repeat (first | (with_reducible first | exact HB.out | apply below_alloc | apply pw_below_drewN | apply below_drew1 | refine below_set ?_ GE141.out) | exact HB.out)))); have n1_ := Aside0.mk (blk_below (g := gb141) (o := .cells #[.int .i64 a1_0, .int .i64 a1_1, .string a1_2] 23 (0, 0)) (by (with_reducible repeat (first | refine blk_drewN ?_ _ | refine blk_drew ?_ | refine blk_alloc ?_ _)); exact BK141.out) hb); have n2_ := Aside0.mk (below_step (by repeat (first | (with_reducible first | exact HB.out | apply below_alloc | apply pw_below_drewN | apply below_drew1 | refine below_set ?_ GE141.out) | exact HB.out)) hb); clear BK141; clear HB; have HO148 := n0_; have BK141 := n1_; have HB := n2_; clear n0_ n1_ n2_; (try clear hb); (try clear hb2); (try clear hk); (try clear hi); (try clear ho0); have hcz32_0 : w31.cell? ⟨gb141, 0, none⟩ = some (.int .i64 a1_0) := (blk_cell BK141.out 0).trans rfl; have hcz32_1 : w31.cell? ⟨gb141, 1, none⟩ = some (.int .i64 a1_1) := (blk_cell BK141.out 1).trans rfl; have hcz32_2 : w31.cell? ⟨gb141, 2, none⟩ = some (.string a1_2) := (blk_cell BK141.out 2).trans rfl; have hfz32_0 := blk_frozen BK141.out 0; have hfz32_1 := blk_frozen BK141.out 1; have hfz32_2 := blk_frozen BK141.out 2; obtain ⟨Ao33, co33, eo33⟩ := Kd.R_slice HO148.out; subst eo33) | ((with_reducible refine gate_callee (f := 33) rfl ?_); refine goesL_ (some 34) rfl rfl Try.func33 (by kernel_rfl) rfl #[.slice Ao33 t146.length co33, .int .u64 (IntKind.u64.wrap (a1_1))] rfl (by (try simp only [List.map_toArray, List.map_cons, List.map_nil]); first | done | rfl | (simp only [List.length_drop, List.length_take]; rfl)) ?_; (with_reducible refine (wire_Put.calls _ _ t146 (IntKind.u64.wrap (a1_1)) t155 _ ?side1 ?side2 A26.out).mono ?_); (case side1 => repeat (first | exact (Kd.R_reads' HO148.out).2.2 | (with_reducible refine Kd.C_alloc ?_ _) | (with_reducible refine Kd.C_drewN ?_ _) | (with_reducible refine Kd.C_drew ?_))); (case side2 => exact (Kd.R_reads' HO148.out).2.1); rintro e w34 ⟨v156, rfl, ho0, hb⟩; refine ⟨_, rfl, ?_⟩; have n0_ := Aside0.mk (Kd.R_elder' (by (with_reducible repeat (first | apply Kd.R_alloc | apply Kd.R_drewN | apply Kd.R_drew)); exact HO148.out) (Kd.R_base ho0) hb); have n1_ := Aside0.mk (Kd.R_lower (Kd.R_new' ho0 (Kd.R_lt (by (with_reducible repeat (first | apply Kd.R_alloc | apply Kd.R_drewN | apply Kd.R_drew)); exact HO148.out))) (below_size (by repeat (first | (with_reducible first | exact HB.out | apply below_alloc | apply pw_below_drewN | apply below_drew1 | refine below_set ?_ GE141.out) | exact HB.out)))); have n2_ := Aside0.mk (blk_below (g := gb141) (o := .cells #[.int .i64 a1_0, .int .i64 a1_1, .string a1_2] 23 (0, 0)) (by (with_reducible repeat (first | refine blk_drewN ?_ _ | refine blk_drew ?_ | refine blk_alloc ?_ _)); exact BK141.out) hb); have n3_ := Aside0.mk (below_step (by repeat (first | (with_reducible first | exact HB.out | apply below_alloc | apply pw_below_drewN | apply below_drew1 | refine below_set ?_ GE141.out) | exact HB.out)) hb); clear HO148; clear BK141; clear HB; have HO148 := n0_; have HO157 := n1_; have BK141 := n2_; have HB := n3_; clear n0_ n1_ n2_ n3_; (try clear hb); (try clear hb2); (try clear hk); (try clear hi); (try clear ho0)))
        go_ret
        exact ⟨_, by first | rfl | (simp [errW_none, errW_some] <;> rfl) | (simp [*, errW_none, errW_some] <;> rfl), by (with_reducible repeat (first | apply Kd.R_alloc | apply Kd.R_drewN | apply Kd.R_drew)); exact Kd.R_mono HO157.out (fun _ hk => trivial), by repeat (first | (with_reducible first | exact HB.out | apply below_alloc | apply pw_below_drewN | apply below_drew1 | refine below_set ?_ GE141.out) | exact HB.out)⟩
  · replace c4 := Bool.eq_false_iff.mpr c4
    subst c4
    have H1 : ((slices_Clone_byte_byte.f l0).bind fun t143 => (some t143)) = some r := by rw [if_neg (show ¬ (false = true) by decide)] at H; exact H
    clear H
    have H := H1
    clear H1
    replace H := Option.bind_eq_some_iff.mp H
    obtain ⟨t143, A350, H⟩ := H
    replace H : (some t143) = some r := H
    have A35 := Aside0.mk A350
    clear A350
    obtain rfl := Option.some.inj H
    go_enter Try.func32, Try.ntmps32
    go_wp2_with (first | ((with_reducible refine gate_dst (N := 3) rfl ?_); refine box_event ?hg (N := 3) ?hd (cs := #[.int .i64 a1_0, .int .i64 a1_1, .string a1_2]) (t := 23) ?hr ?_; (case hd => rfl); (case hg => rfl); (case hr => first | (go_simp; done) | (go_simp; rfl)); intro gb141 hg w36 hbox hb; have n0_ := Aside0.mk (below_step (by repeat (first | (with_reducible first | exact HB.out | apply below_alloc | apply pw_below_drewN | apply below_drew1) | exact HB.out)) hb); have n1_ := Aside0.mk (hbox); have n2_ := Aside0.mk ((by rw [hg]; exact (below_size (by repeat (first | (with_reducible first | exact HB.out | apply below_alloc | apply pw_below_drewN | apply below_drew1) | exact HB.out))) : w.heap.size ≤ gb141)); have n3_ := Aside0.mk ((by rw [hg]; exact (below_size (by repeat (first | (with_reducible first | exact HB.out | apply below_alloc | apply pw_below_drewN | apply below_drew1) | exact HB.out))) : w.heap.size ≤ gb141)); clear HB; have HB := n0_; have BK141 := n1_; have GW141 := n2_; have GE141 := n3_; clear n0_ n1_ n2_ n3_; clear hb hbox hg; have hcz37_0 : w36.cell? ⟨gb141, 0, none⟩ = some (.int .i64 a1_0) := (blk_cell BK141.out 0).trans rfl; have hcz37_1 : w36.cell? ⟨gb141, 1, none⟩ = some (.int .i64 a1_1) := (blk_cell BK141.out 1).trans rfl; have hcz37_2 : w36.cell? ⟨gb141, 2, none⟩ = some (.string a1_2) := (blk_cell BK141.out 2).trans rfl; have hfz37_0 := blk_frozen BK141.out 0; have hfz37_1 := blk_frozen BK141.out 1; have hfz37_2 := blk_frozen BK141.out 2) | ((with_reducible refine gate_callee (f := 18) rfl ?_); refine goesL_ (some 7) rfl rfl Try.func18 (by kernel_rfl) rfl #[.agg #[.int .i64 a1_0, .int .i64 a1_1, .string a1_2]] rfl (by (try simp only [List.map_toArray, List.map_cons, List.map_nil]); first | done | rfl | (simp only [List.length_drop, List.length_take]; rfl)) ?_; (with_reducible refine (value_Right.calls a1_0 a1_1 a1_2 false _ A3.out).mono ?_); rintro e w38 ⟨rfl, hb⟩; refine ⟨_, rfl, ?_⟩; have n0_ := Aside0.mk (blk_below (g := gb141) (o := .cells #[.int .i64 a1_0, .int .i64 a1_1, .string a1_2] 23 (0, 0)) (by (with_reducible repeat (first | refine blk_drewN ?_ _ | refine blk_drew ?_ | refine blk_alloc ?_ _)); exact BK141.out) hb); have n1_ := Aside0.mk (below_step (by repeat (first | (with_reducible first | exact HB.out | apply below_alloc | apply pw_below_drewN | apply below_drew1 | refine below_set ?_ GE141.out) | exact HB.out)) hb); clear BK141; clear HB; have BK141 := n0_; have HB := n1_; clear n0_ n1_; (try clear hb); (try clear hb2); (try clear hk); (try clear hi)) | ((with_reducible refine gate_callee (f := 31) rfl ?_); refine goesL_ (some 10) rfl rfl Try.func31 (by kernel_rfl) rfl #[.slice A0 l0.length c0] rfl (by (try simp only [List.map_toArray, List.map_cons, List.map_nil]); first | done | rfl | (simp only [List.length_drop, List.length_take]; rfl)) ?_; (with_reducible refine (slices_Clone_byte_byte.calls _ _ l0 t143 _ ?side1 ?side2 A35.out).mono ?_); (case side1 => repeat (first | exact (Kd.C_below HR0.out HB.out) | (with_reducible refine Kd.C_alloc ?_ _) | (with_reducible refine Kd.C_drewN ?_ _) | (with_reducible refine Kd.C_drew ?_))); (case side2 => exact HC0.out); rintro e w39 ⟨v144, rfl, ho0, hb⟩; refine ⟨_, rfl, ?_⟩; have n0_ := Aside0.mk (Kd.R_lower ho0 (below_size (by repeat (first | (with_reducible first | exact HB.out | apply below_alloc | apply pw_below_drewN | apply below_drew1 | refine below_set ?_ GE141.out) | exact HB.out)))); have n1_ := Aside0.mk (blk_below (g := gb141) (o := .cells #[.int .i64 a1_0, .int .i64 a1_1, .string a1_2] 23 (0, 0)) (by (with_reducible repeat (first | refine blk_drewN ?_ _ | refine blk_drew ?_ | refine blk_alloc ?_ _)); exact BK141.out) hb); have n2_ := Aside0.mk (below_step (by repeat (first | (with_reducible first | exact HB.out | apply below_alloc | apply pw_below_drewN | apply below_drew1 | refine below_set ?_ GE141.out) | exact HB.out)) hb); clear BK141; clear HB; have HO145 := n0_; have BK141 := n1_; have HB := n2_; clear n0_ n1_ n2_; (try clear hb); (try clear hb2); (try clear hk); (try clear hi); (try clear ho0)))
    go_ret
    exact ⟨_, by first | rfl | (simp [errW_none, errW_some] <;> rfl) | (simp [*, errW_none, errW_some] <;> rfl), by (with_reducible repeat (first | apply Kd.R_alloc | apply Kd.R_drewN | apply Kd.R_drew)); exact HO145.out, by repeat (first | (with_reducible first | exact HB.out | apply below_alloc | apply pw_below_drewN | apply below_drew1 | refine below_set ?_ GE141.out) | exact HB.out)⟩

end Go.Proofs.Ytojefdnngkcaoaa.G
end
