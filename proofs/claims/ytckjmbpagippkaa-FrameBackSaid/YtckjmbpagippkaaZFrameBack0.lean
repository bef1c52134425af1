import Derived.Test.YtckjmbpagippkaaWMore
import Derived.Laws.CopyOwn
import Derived.Laws.Tables
import Derived.Lib.SliceRun
import Derived.ArgAppend
import Derived.Lib.SlBytesConst
import Derived.Test.YtckjmbpagippkaaProg
import Derived.Below
import Derived.Deep.Draws
import Derived.Deep.AppendLies
import Derived.Maps.AppendAt
import Derived.OwnWalk
import Derived.Laws.BytesArg
import Derived.Laws.MakeOwn
import Derived.Laws.OwnMore
import Derived.Deep.OwnRows
import Derived.Tactics
import Derived.Lib.ConvBytes
import Derived.Laws.Slices
import Derived.WalkKit
import Derived.KernelRfl
import Derived.RowKit3
import Derived.Deep.LoopGhost
import Derived.Deep.QuietTactic
import Derived.BigQuiet
import Derived.WideLaws
import Derived.Deep.DeepCutAuto
import Derived.Deep.CutBlock
import Derived.Deep.RegionHeld3
import Derived.Laws.Rows
import Derived.Lib.AppendStr
import Derived.Laws.IdiomCopy
import Derived.OrdersHeld
import Derived.Laws.BitsLemmas
import Derived.RowKit
import Derived.Test.YtckjmbpagippkaaWWords
import Derived.Test.YtckjmbpagippkaaWLast
import Derived.Test.YtckjmbpagippkaaWTab
import Derived.Test.YtckjmbpagippkaaWFour
import Derived.Test.YtckjmbpagippkaaWQPut
import Derived.Test.YtckjmbpagippkaaWApart
import Derived.Test.YtckjmbpagippkaaWArr
import Derived.Test.YtckjmbpagippkaaWZeros
import Derived.Test.YtckjmbpagippkaaWFoot
import Derived.Test.YtckjmbpagippkaaWKept
import Derived.Test.YtckjmbpagippkaaWShare
import Derived.Test.YtckjmbpagippkaaWN
import Derived.Test.YtckjmbpagippkaaWFootNe
import Derived.Test.YtckjmbpagippkaaWAt
import Derived.Test.YtckjmbpagippkaaWEqStruct
import Derived.Test.YtckjmbpagippkaaWRepsOne
import Derived.Test.YtckjmbpagippkaaWInv
import Derived.Test.YtckjmbpagippkaaWInvWords
import Derived.Test.YtckjmbpagippkaaWGuard
import Derived.Test.YtckjmbpagippkaaWNEv
import Derived.Lib.AppendZeros
import Derived.Laws.BitsAllLaws
import Derived.RangeFuncNested
import Derived.RangeFuncBound
import Derived.RangeFuncCalls
import Derived.RangeFuncLeaves
import Derived.RangeFuncBox
import Derived.Shelf.Abstract
import Derived.Shelf.RegionOpen
import Derived.OwnWalkIn
import Derived.TacticsInMore
import Derived.LoopNIn
import Derived.LoopIn
import Derived.Deep.RegionWith
import Derived.OpenShut
import Derived.Lib.Bytes
section
set_option linter.unusedVariables false
set_option linter.unusedSimpArgs false
namespace Go.Proofs.Ytckjmbpagippkaa
open Go.RowKit Go.Proofs.YtckjmbpagippkaaW.PrintWords Go.Proofs.YtckjmbpagippkaaW.PrintLast Go.Proofs.YtckjmbpagippkaaW.PrintMore

theorem kd_own {W : World} {base e : Nat} {k : IntKind} {ok : Nat → Prop} {v : Value} {xs : List Int} (h : (Kd.int k).R e W base ok v xs) : W.ownsRow base e 1 v xs.length (nums k xs) := Kd.own_of_R h
theorem kd_R {W : World} {base e : Nat} {k : IntKind} {v : Value} {xs : List Int} (h : W.ownsRow base e 1 v xs.length (nums k xs)) : (Kd.int k).R e W base (fun _ => True) v xs := Kd.R_of_own h (fun _ _ => trivial)

section
variable {P : Program} {ops : Array Oper} {rest : List Oper} {o : Oper} {a : Act} {Q : Exit → Act → World → Prop}
/-- append(v, y), one whole number, to a row of the call's own -/
theorem app_num {w0 W : World} (base : Nat) (hgd : o.guard = none) (s x : Operand) (t e : TypeId) (k : IntKind) (bytes : Nat)
    (ho : o.op = .call { callee := .builtin .append, args := #[s, x], argTypes := #[t, t] })
    (ht : P.underlying t = some (.slice e)) (hinfo : (P.info? e).map (fun i => (i.zero, i.size, i.bytes)) = some (some (.int k 0), 1, bytes)) (hb0 : 0 < bytes)
    (v : Value) (xs : List Int) (y : Int) (hs : a.eval s = v) (hx : a.eval x = .slice (some ⟨W.heap.size, 0, none⟩) 1 1)
    (HO : (Kd.int k).R e W base (fun _ => True) v xs) (HB : Below base w0 W) (hbase : base ≤ W.heap.size) (hl : (xs.length + 1) * bytes ≤ 140737488355328)
    (h : ∀ v1 w1, Aside0 ((Kd.int k).R e w1 base (fun _ => True) v1 (xs ++ [y])) → Below base w0 w1 → wpList P ops Q rest (a.put o.dst v1) w1) :
    wpList P ops Q (o :: rest) a (W.alloc (.cells #[.int k y] e)) :=
  print_append_num base hgd s x t e k bytes ho ht hinfo hb0 v xs y hs hx (kd_own HO) HB hbase hl fun v1 w1 ho hB _ _ => h v1 w1 ⟨kd_R ho⟩ hB

/-- copy(dst, src) where dst is as long as src and was just made: what dst then is -/
theorem copy_made {w0 W : World} (base : Nat) (hgd : o.guard = none) (d s : Operand) (dT sT e : TypeId) (k : IntKind)
    (ho : o.op = .call { callee := .builtin .copy, args := #[d, s], argTypes := #[dT, sT] })
    (hu : P.underlying dT = some (.slice e)) (hsz : (P.info? e).map (·.size) = some 1)
    (g n dc C : Nat) (A : Option Addr) (c : Nat) (xs : List Int) (hn : xs.length = n)
    (hd : a.eval d = .slice (some ⟨g, 0, none⟩) n dc) (hs : a.eval s = .slice A n c)
    (hg : W.heap[g]? = some (.cells (madeCells #[.int k 0] C) e (0, 0))) (hC : dc = C) (hnC : n ≤ C) (hC2 : C ≤ maxLen)
    (hr : (Kd.int k).C W A n xs) (HB : Below base w0 W) (hbg : base ≤ g)
    (h : ∀ w1, Aside0 ((Kd.int k).R e w1 base (fun _ => True) (.slice (some ⟨g, 0, none⟩) n dc) xs) → Below base w0 w1 → wpList P ops Q rest (a.put o.dst (goInt n)) w1) :
    wpList P ops Q (o :: rest) a W := by
  subst hC
  have hreads := Kd.reads_of_C (d := (0 : Int)) hr
  have hlen : (nums k xs).length = n := by rw [nums_length]; exact hn
  have hcl : (madeCells #[.int k 0] dc).toList.length = dc := by simp [madeCells]
  refine wpList_copy_splice hgd d s dT sT ho e hu hsz (some ⟨g, 0, none⟩) A n dc n c hd hs g 0 (madeCells #[.int k 0] dc).toList e (by simpa using hg) (nums k xs) (by rw [hlen]; simp) ?_ (by rw [hlen, hcl]; omega) ?_ base w0 HB hbg ?_
  · intro h0
    refine ⟨rfl, ?_⟩
    obtain ⟨ad, hA, hc⟩ := hreads.2.2 (by omega)
    refine ⟨ad, hA, fun j v hj => ?_⟩
    simp only [nums, List.getElem?_map, Option.map_eq_some_iff] at hj
    obtain ⟨x, hx, rfl⟩ := hj
    have hjn : j < n := by have := (List.getElem?_eq_some_iff.1 hx).1; omega
    have := hc j hjn
    rw [List.getD_eq_getElem?_getD, hx] at this
    simpa using this
  · intro v hv
    simp only [nums, List.mem_map] at hv
    obtain ⟨x, _, rfl⟩ := hv
    rfl
  · intro w1 H1 hB1
    rw [hlen]
    refine h w1 ⟨kd_R ⟨by rw [hlen, hn]; simp, .inr ⟨g, dc, _, by rw [hn], hbg, H1.out, by omega, hC2, ?_, ?_⟩⟩⟩ hB1
    · have := length_splice (madeCells #[.int k 0] dc).toList 0 (nums k xs) (by rw [hlen, hcl]; omega)
      simp only [List.size_toArray]
      rw [this, hcl, Nat.mul_one]
    · simp only [splice, List.take_zero, List.nil_append, Nat.zero_add]
      rw [Nat.mul_one, List.take_append_of_le_length (by rw [hlen, hn]; exact Nat.le_refl _), List.take_of_length_le (by rw [hlen, hn]; exact Nat.le_refl _)]
end

/-- make([]T, n, c) of whole numbers -/
theorem make_cap {P : Program} (t e : TypeId) (k : IntKind) (bytes : Nat) (ht : P.underlying t = some (.slice e)) (hinfo : (P.info? e).map (fun i => (i.zero, i.size, i.bytes)) = some (some (.int k 0), 1, bytes))
    (n c : Int) (hn : 0 ≤ n) (hnc : n ≤ c) (hb : (bytes : Int) * c ≤ 281474976710656) (hc : c ≤ 9223372036854775807) (W : World) :
    (Instr.makeSlice t (.int .i64 n) (.int .i64 c)).run P W = .ok (.slice (some ⟨W.heap.size, 0, none⟩) n.toNat c.toNat) (W.alloc (.cells (madeCells #[.int k 0] c.toNat) e)) := by
  obtain ⟨i0, hi, hz⟩ := Option.map_eq_some_iff.1 hinfo
  simp only [Prod.mk.injEq] at hz
  obtain ⟨hz0, hz1, hz2⟩ := hz
  have h := run_make (P := P) (w := W) t e i0 (.int k 0) ht hi hz0 .i64 .i64 n c hn hnc (by rw [hz2]; exact hb) hc
  rw [hz1, Nat.mul_one] at h
  simpa [Value.cells] using h

theorem pow_min8 (n : Nat) : (2 : Int) ^ min n 8 % 256 = 2 ^ n % 256 := by
  by_cases h : n ≤ 8
  · rw [Nat.min_eq_left h]
  · rw [Nat.min_eq_right (by omega)]
    obtain ⟨m, rfl⟩ : ∃ m, n = 8 + m := ⟨n - 8, by omega⟩
    rw [Int.pow_add, show (2 : Int) ^ 8 = 256 from rfl, Int.mul_emod_right]; rfl
/-- a literal's cells, just laid -/
theorem lit_C (W : World) (e : TypeId) (k : IntKind) (xs : List Int) (hl : xs.length ≤ 9223372036854775807) (fr : Nat × Nat := (0, 0)) : (Kd.int k).C (W.alloc (.cells (nums k xs).toArray e fr)) (some ⟨W.heap.size, 0, none⟩) xs.length xs := by
  refine Kd.C_of_reads (d := (0 : Int)) ⟨rfl, hl, fun _ => ⟨_, rfl, fun j hj => ?_⟩⟩
  have hadd : (⟨W.heap.size, 0, none⟩ : Addr).add j = ⟨W.heap.size, j, none⟩ := add_plain _ _
  rw [hadd, cell_of_row _ _ _ _ _ _ (heap_alloc_new W _)]
  simp [nums, hj, List.getD_eq_getElem?_getD]
theorem nil_C (W : World) (k : IntKind) : (Kd.int k).C W none 0 ([] : List Int) := Kd.C_nil _ _
/-- what is owned reads -/
theorem own_C {W : World} {base e : Nat} {k : IntKind} {ok : Nat → Prop} {v : Value} {xs : List Int} (h : (Kd.int k).R e W base ok v xs) : ∃ A c, v = .slice A xs.length c ∧ xs.length ≤ c ∧ (Kd.int k).C W A xs.length xs := Kd.R_reads h

/-- a slice that is the call's own, or one without spare room that only reads: what is appended lies in memory of the call's own -/
def Outs (k : IntKind) (e : Nat) (W : World) (base : Nat) (v : Value) (xs : List Int) : Prop :=
  (Kd.int k).R e W base (fun _ => True) v xs ∨ (∃ A, v = .slice A xs.length xs.length ∧ (Kd.int k).C W A xs.length xs ∧ (A = none → xs.length = 0))
section
variable {P : Program} {ops : Array Oper} {rest : List Oper} {o : Oper} {a : Act} {Q : Exit → Act → World → Prop}
theorem app_outs {w0 W : World} (base : Nat) (hgd : o.guard = none) (s x : Operand) (t e : TypeId) (k : IntKind) (bytes : Nat)
    (ho : o.op = .call { callee := .builtin .append, args := #[s, x], argTypes := #[t, t] })
    (ht : P.underlying t = some (.slice e)) (hinfo : (P.info? e).map (fun i => (i.zero, i.size, i.bytes)) = some (some (.int k 0), 1, bytes)) (hb0 : 0 < bytes)
    (v : Value) (xs : List Int) (y : Int) (hs : a.eval s = v) (hx : a.eval x = .slice (some ⟨W.heap.size, 0, none⟩) 1 1)
    (HO : Outs k e W base v xs) (HB : Below base w0 W) (hbase : base ≤ W.heap.size) (hl : (xs.length + 1) * bytes ≤ 140737488355328)
    (h : ∀ v1 w1, Aside0 ((Kd.int k).R e w1 base (fun _ => True) v1 (xs ++ [y])) → Below base w0 w1 → wpList P ops Q rest (a.put o.dst v1) w1) :
    wpList P ops Q (o :: rest) a (W.alloc (.cells #[.int k y] e)) := by
  rcases HO with HO | ⟨A, rfl, hC, hn⟩
  · exact app_num base hgd s x t e k bytes ho ht hinfo hb0 v xs y hs hx HO HB hbase hl h
  · obtain ⟨i0, hi, hzz⟩ := Option.map_eq_some_iff.1 hinfo
    simp only [Prod.mk.injEq] at hzz
    obtain ⟨hz0, hz1, hz2⟩ := hzz
    have hlen : xs.length + 1 ≤ 140737488355328 := Nat.le_trans (Nat.le_mul_of_pos_right _ hb0) hl
    have hC2 := Kd.C_alloc hC (.cells #[.int k y] e)
    refine wpList_append_grows (W.alloc (.cells #[.int k y] e)) hgd s x t ho e i0 (.int k 0) 1 bytes ht hi hz0 hz1 hz2 rfl (by decide) A xs.length xs.length (nums k xs) hs (fun hA => ⟨hn hA, hn hA⟩) (by rw [nums_length, Nat.mul_one]) ?_ ⟨W.heap.size, 0, none⟩ 1 1 [.int k y] hx rfl
      (World.news_of_block (cs := #[.int k y]) (t := e) (fr := (0, 0)) (heap_alloc_new W _)) (by simp [Value.oneCell']) (by omega) (by simp only [maxLen]; omega) hl ?_
    · rintro b rfl j u hj
      simp only [nums, List.getElem?_map, Option.map_eq_some_iff] at hj
      obtain ⟨z, hz, rfl⟩ := hj
      obtain ⟨_, _, hr⟩ := Kd.reads_of_C (d := (0 : Int)) hC2
      have hjl := (List.getElem?_eq_some_iff.1 hz).1
      obtain ⟨ad, e1, hc⟩ := hr (by omega)
      cases e1
      have := hc j hjl
      rw [List.getD_eq_getElem?_getD, hz] at this
      simpa using this
    · intro v1 w1 ho1 hg1
      refine h v1 w1 ⟨kd_R ?_⟩ ((HB.alloc hbase _).grown hg1 (by simp; omega) (fun k hk => by cases hk))
      have h2 : w1.ownsRow (W.alloc (.cells #[.int k y] e)).heap.size e 1 v1 (xs ++ [y]).length (nums k (xs ++ [y])) := by
        rw [nums_append, List.length_append]; exact ho1
      exact own_weaken h2 (by simp; omega)
end
theorem outs_below {k : IntKind} {e : Nat} {W W1 : World} {base : Nat} {v : Value} {xs : List Int} (h : Outs k e W base v xs) (hb : Below W.heap.size W W1) : Outs k e W1 base v xs := by
  rcases h with h | ⟨A, rfl, hC, hn⟩
  · exact .inl (Kd.R_below h hb)
  · exact .inr ⟨A, rfl, Kd.C_below hC hb, hn⟩
end Go.Proofs.Ytckjmbpagippkaa
end

section
namespace CrcM

/-- one bit's step -/
def t1 (n : Nat) : Nat := if n % 2 = 1 then (n / 2) ^^^ 3988292384 else n / 2
def tk : Nat → Nat → Nat
  | 0, n => n
  | k + 1, n => tk k (t1 n)
/-- a byte's step -/
def upd (s c : Nat) : Nat := tk 8 ((s ^^^ c) % 256) ^^^ s / 256
def run (s : Nat) (l : List Nat) : Nat := l.foldl upd s
def M : Nat := 4294967295
def add (s : Nat) (l : List Nat) : Nat := run (s ^^^ M) l ^^^ M
def sum (l : List Nat) : Nat := add 0 l
def low (n : Nat) : List Nat := [n % 256, n / 256 % 256, n / 65536 % 256, n / 16777216 % 256]
def sealB (l : List Nat) : List Nat := l ++ low (sum l)
def openB (l : List Nat) : Option (List Nat) :=
  if l.length < 4 then none
  else if low (sum (l.take (l.length - 4))) = l.drop (l.length - 4) then some (l.take (l.length - 4)) else none

theorem xor_div (a b k : Nat) : (a ^^^ b) / 2 ^ k = a / 2 ^ k ^^^ b / 2 ^ k := by
  apply Nat.eq_of_testBit_eq
  intro i
  simp [Nat.testBit_div_two_pow, Nat.testBit_xor]

theorem xor_mod (a b k : Nat) : (a ^^^ b) % 2 ^ k = a % 2 ^ k ^^^ b % 2 ^ k := by
  apply Nat.eq_of_testBit_eq
  intro i
  simp only [Nat.testBit_mod_two_pow, Nat.testBit_xor]
  cases decide (i < k) <;> simp

theorem t1_xor (a b : Nat) : t1 (a ^^^ b) = t1 a ^^^ t1 b := by
  have hd := xor_div a b 1
  have hm := xor_mod a b 1
  simp only [Nat.pow_one] at hd hm
  unfold t1
  rw [hd, hm]
  rcases Nat.mod_two_eq_zero_or_one a with ha | ha <;> rcases Nat.mod_two_eq_zero_or_one b with hb | hb <;> simp only [ha, hb, Nat.xor_zero, Nat.zero_xor, Nat.xor_self, if_true, if_false, Nat.one_ne_zero, Nat.zero_ne_one]
  · rw [Nat.xor_assoc]
  · rw [Nat.xor_assoc, Nat.xor_assoc, Nat.xor_comm 3988292384]
  · rw [Nat.xor_assoc, ← Nat.xor_assoc 3988292384, Nat.xor_comm 3988292384, Nat.xor_assoc, Nat.xor_self, Nat.xor_zero]

theorem tk_xor (k a b : Nat) : tk k (a ^^^ b) = tk k a ^^^ tk k b := by
  induction k generalizing a b with
  | zero => rfl
  | succ k ih => simp only [tk]; rw [t1_xor, ih]

theorem tk_add (j k n : Nat) : tk (j + k) n = tk k (tk j n) := by
  induction j generalizing n with
  | zero => simp [tk]
  | succ j ih => rw [Nat.succ_add]; simp only [tk]; exact ih _

theorem tk_zero (k : Nat) : tk k 0 = 0 := by
  induction k with
  | zero => rfl
  | succ k ih => simp only [tk]; exact ih

theorem t1_even (n : Nat) : t1 (2 * n) = n := by
  unfold t1
  rw [if_neg (by omega)]; omega

theorem tk_shift (k n : Nat) : tk k (n * 2 ^ k) = n := by
  induction k generalizing n with
  | zero => simp [tk]
  | succ k ih =>
    simp only [tk]
    rw [show n * 2 ^ (k + 1) = 2 * (n * 2 ^ k) by rw [Nat.pow_succ]; ac_rfl, t1_even, ih]

theorem t1_lt (n : Nat) (h : n < 4294967296) : t1 n < 4294967296 := by
  unfold t1
  split
  · exact Nat.xor_lt_two_pow (n := 32) (by omega) (by omega)
  · omega

theorem tk_lt (k n : Nat) (h : n < 4294967296) : tk k n < 4294967296 := by
  induction k generalizing n with
  | zero => exact h
  | succ k ih => exact ih _ (t1_lt n h)

theorem xor_eq_zero {a b : Nat} (h : a ^^^ b = 0) : a = b := by
  have : a ^^^ (a ^^^ b) = a ^^^ 0 := by rw [h]
  rw [← Nat.xor_assoc, Nat.xor_self, Nat.zero_xor, Nat.xor_zero] at this
  exact this.symm

theorem t1_ne_zero (n : Nat) (h : n < 4294967296) (h0 : n ≠ 0) : t1 n ≠ 0 := by
  unfold t1
  split
  · intro e
    have := xor_eq_zero e
    omega
  · omega

theorem tk_ne_zero (k n : Nat) (h : n < 4294967296) (h0 : n ≠ 0) : tk k n ≠ 0 := by
  induction k generalizing n with
  | zero => exact h0
  | succ k ih => exact ih _ (t1_lt n h) (t1_ne_zero n h h0)

theorem tk_inj (k a b : Nat) (ha : a < 4294967296) (hb : b < 4294967296) (h : tk k a = tk k b) : a = b := by
  apply xor_eq_zero
  apply Classical.byContradiction
  intro hne
  exact tk_ne_zero k (a ^^^ b) (Nat.xor_lt_two_pow (n := 32) ha hb) hne (by rw [tk_xor, h, Nat.xor_self])

/-- a byte's step, as eight bits' -/
theorem split_byte (s : Nat) : s = (s % 256) ^^^ (s / 256 * 256) := by
  apply Nat.eq_of_testBit_eq
  intro i
  rw [Nat.testBit_xor, show (256 : Nat) = 2 ^ 8 from rfl, Nat.testBit_mod_two_pow, Nat.mul_comm, Nat.testBit_two_pow_mul, Nat.testBit_div_two_pow]
  by_cases h : i < 8
  · simp [h, Nat.not_le.2 h]
  · have h8 : 8 ≤ i := by omega
    simp [h, h8, show 8 + (i - 8) = i by omega]

theorem upd_eq (s c : Nat) (hc : c < 256) : upd s c = tk 8 (s ^^^ c) := by
  have h := split_byte (s ^^^ c)
  have hd : (s ^^^ c) / 256 = s / 256 := by
    have := xor_div s c 8
    rw [show (2 : Nat) ^ 8 = 256 from rfl] at this
    rw [this, Nat.div_eq_of_lt hc, Nat.xor_zero]
  rw [hd] at h
  unfold upd
  rw [h, tk_xor]
  have e := tk_shift 8 (s / 256)
  rw [show (2 : Nat) ^ 8 = 256 from rfl] at e
  rw [e, ← h]

def Bytes (l : List Nat) : Prop := ∀ c ∈ l, c < 256

theorem upd_lt (s c : Nat) (hs : s < 4294967296) (hc : c < 256) : upd s c < 4294967296 := by
  rw [upd_eq s c hc]; exact tk_lt _ _ (Nat.xor_lt_two_pow (n := 32) hs (by omega))

theorem run_lt (l : List Nat) (hl : Bytes l) (s : Nat) (hs : s < 4294967296) : run s l < 4294967296 := by
  induction l generalizing s with
  | nil => exact hs
  | cons c l ih => exact ih (fun x hx => hl x (List.mem_cons_of_mem _ hx)) _ (upd_lt s c hs (hl c (List.mem_cons_self)))

theorem run_append (s : Nat) (a b : List Nat) : run s (a ++ b) = run (run s a) b := by simp [run]

/-- what a state's change comes to -/
theorem run_xor (l : List Nat) (hl : Bytes l) (s d : Nat) : run (s ^^^ d) l = run s l ^^^ tk (8 * l.length) d := by
  induction l generalizing s d with
  | nil => rfl
  | cons c l ih =>
    have hc := hl c (List.mem_cons_self)
    show run (upd (s ^^^ d) c) l = run (upd s c) l ^^^ _
    rw [upd_eq _ _ hc, upd_eq _ _ hc, show s ^^^ d ^^^ c = (s ^^^ c) ^^^ d by rw [Nat.xor_assoc, Nat.xor_comm d, ← Nat.xor_assoc], tk_xor, ih (fun x hx => hl x (List.mem_cons_of_mem _ hx)), ← tk_add]
    congr 2
    simp only [List.length_cons]; omega

/-- one bit turned -/
def flip (l : List Nat) (p : Nat) : List Nat := l.set (p / 8) (l.getD (p / 8) 0 ^^^ 2 ^ (p % 8))

theorem flip_length (l : List Nat) (p : Nat) : (flip l p).length = l.length := by simp [flip]

theorem pow_lt (p : Nat) : 2 ^ (p % 8) < 256 := by
  have h := Nat.pow_lt_pow_right (a := 2) (by omega) (show p % 8 < 8 by omega)
  simpa using h

theorem flip_bytes (l : List Nat) (p : Nat) (hl : Bytes l) : Bytes (flip l p) := by
  intro c hc
  rcases List.mem_or_eq_of_mem_set hc with h | h
  · exact hl c h
  · rw [h]
    refine Nat.xor_lt_two_pow (n := 8) ?_ (pow_lt p)
    by_cases hp : p / 8 < l.length
    · simp [List.getD_eq_getElem?_getD, hp]; exact hl _ (List.getElem_mem hp)
    · simp [List.getD_eq_getElem?_getD, Nat.le_of_not_lt hp]

theorem run_flip (l : List Nat) (hl : Bytes l) (s p : Nat) (hp : p < 8 * l.length) :
    run s (flip l p) = run s l ^^^ tk (8 * l.length - p) 1 := by
  induction l generalizing s p with
  | nil => simp at hp
  | cons c l ih =>
    have hc := hl c (List.mem_cons_self)
    have hl' : Bytes l := fun x hx => hl x (List.mem_cons_of_mem _ hx)
    by_cases h8 : p < 8
    · have e : p / 8 = 0 := by omega
      have em : p % 8 = p := by omega
      simp only [flip, e, em, List.set_cons_zero, List.getD_cons_zero]
      show run (upd s (c ^^^ 2 ^ p)) l = run (upd s c) l ^^^ _
      have hx : c ^^^ 2 ^ p < 256 := Nat.xor_lt_two_pow (n := 8) hc (by have := pow_lt p; rwa [em] at this)
      rw [upd_eq _ _ hx, upd_eq _ _ hc, ← Nat.xor_assoc, tk_xor, run_xor l hl', ← tk_add]
      congr 1
      have h2 := tk_shift p 1
      rw [Nat.one_mul] at h2
      rw [show 8 + 8 * l.length = p + (8 * (c :: l).length - p) by simp only [List.length_cons]; omega, tk_add, h2]
    · have e : flip (c :: l) p = c :: flip l (p - 8) := by
        obtain ⟨q, rfl⟩ : ∃ q, p = q + 8 := ⟨p - 8, by omega⟩
        simp only [flip, show (q + 8) / 8 = q / 8 + 1 by omega, show (q + 8) % 8 = q % 8 by omega, List.set_cons_succ, List.getD_cons_succ, Nat.add_sub_cancel]
      rw [e]
      show run (upd s c) (flip l (p - 8)) = run (upd s c) l ^^^ _
      rw [ih hl' _ _ (by simp only [List.length_cons] at hp; omega)]
      congr 2
      simp only [List.length_cons] at hp ⊢; omega

/-- the four bytes of a number, read behind a state -/
theorem low_bytes (y : Nat) : Bytes (low y) := by
  intro c hc
  simp only [low, List.mem_cons, List.not_mem_nil, or_false] at hc
  omega

theorem run_low (x y : Nat) (hy : y < 4294967296) : run x (low y) = tk 32 (x ^^^ y) := by
  have h0 : y = (y % 256) ^^^ (y / 256 * 256) := split_byte y
  have h1 : y / 256 = (y / 256 % 256) ^^^ (y / 256 / 256 * 256) := split_byte _
  have h2 : y / 256 / 256 = (y / 256 / 256 % 256) ^^^ (y / 256 / 256 / 256 * 256) := split_byte _
  have e2 : y / 65536 = y / 256 / 256 := by omega
  have e3 : y / 16777216 = y / 256 / 256 / 256 := by omega
  have e4 : y / 256 / 256 / 256 % 256 = y / 256 / 256 / 256 := by omega
  have key : ∀ s a q, a < 256 → tk 8 (s ^^^ (a ^^^ q * 256)) = upd s a ^^^ q := by
    intro s a q ha
    rw [← Nat.xor_assoc, tk_xor, upd_eq _ _ ha]
    have := tk_shift 8 q
    rw [show (2 : Nat) ^ 8 = 256 from rfl] at this
    rw [this]
  simp only [run, low, List.foldl]
  rw [e2, e3, e4]
  rw [show (32 : Nat) = 8 + (8 + (8 + 8)) from rfl, tk_add, tk_add, tk_add]
  conv => rhs; rw [h0]
  rw [key _ _ _ (by omega)]
  conv => rhs; rw [h1]
  rw [key _ _ _ (by omega)]
  conv => rhs; rw [h2]
  rw [key _ _ _ (by omega), upd_eq _ (y / 256 / 256 / 256) (by omega)]

theorem low_inj (x y : Nat) (hx : x < 4294967296) (hy : y < 4294967296) (h : low x = low y) : x = y := by
  simp only [low, List.cons.injEq, and_true] at h
  omega

theorem low_of (l : List Nat) (hl : Bytes l) (h : l.length = 4) : ∃ y, y < 4294967296 ∧ l = low y := by
  match l, h with
  | [a, b, c, d], _ =>
    have ha := hl a (by simp)
    have hb := hl b (by simp)
    have hc := hl c (by simp)
    have hd := hl d (by simp)
    refine ⟨a + 256 * b + 65536 * c + 16777216 * d, by omega, ?_⟩
    simp only [low, List.cons.injEq, and_true]
    omega

/-- the state that what is sealed comes to -/
def K : Nat := tk 32 M

theorem M_lt : M < 4294967296 := by decide

theorem sum_lt (l : List Nat) (hl : Bytes l) : sum l < 4294967296 := by
  unfold sum add
  exact Nat.xor_lt_two_pow (n := 32) (run_lt l hl _ (by decide)) M_lt

theorem run_sum (l : List Nat) (hl : Bytes l) (y : Nat) (hy : y < 4294967296) : run M (l ++ low y) = K ↔ y = sum l := by
  have hr := run_lt l hl M M_lt
  rw [run_append, run_low _ _ hy]
  unfold K sum add
  rw [Nat.zero_xor]
  constructor
  · intro h
    have := tk_inj 32 _ _ (Nat.xor_lt_two_pow (n := 32) hr hy) M_lt h
    have e : run M l ^^^ (run M l ^^^ y) = run M l ^^^ M := by rw [this]
    rwa [← Nat.xor_assoc, Nat.xor_self, Nat.zero_xor] at e
  · intro h
    rw [h, ← Nat.xor_assoc, Nat.xor_self, Nat.zero_xor]

theorem sealB_bytes (l : List Nat) (hl : Bytes l) : Bytes (sealB l) := by
  intro c hc
  rcases List.mem_append.1 hc with h | h
  · exact hl c h
  · exact low_bytes _ c h

theorem sealB_length (l : List Nat) : (sealB l).length = l.length + 4 := by simp [sealB, low]

theorem sealB_run (l : List Nat) (hl : Bytes l) : run M (sealB l) = K := (run_sum l hl _ (sum_lt l hl)).2 rfl

theorem open_sealB (l : List Nat) : openB (sealB l) = some l := by
  unfold openB
  have h := sealB_length l
  rw [if_neg (by omega), h, show l.length + 4 - 4 = l.length by omega]
  simp [sealB]

theorem open_some (c y : List Nat) (h : openB c = some y) : sealB y = c := by
  unfold openB at h
  split at h
  · cases h
  · split at h
    · rename_i h4 he
      cases h
      unfold sealB
      rw [he]
      exact List.take_append_drop _ _
    · cases h

/-- what is opened comes to K -/
theorem open_iff (c : List Nat) (hc : Bytes c) : openB c ≠ none ↔ 4 ≤ c.length ∧ run M c = K := by
  unfold openB
  by_cases h4 : c.length < 4
  · rw [if_pos h4]; simp; omega
  · rw [if_neg h4]
    have ht : Bytes (c.take (c.length - 4)) := fun x hx => hc x (List.mem_of_mem_take hx)
    have hd : Bytes (c.drop (c.length - 4)) := fun x hx => hc x (List.mem_of_mem_drop hx)
    obtain ⟨y, hy, hdy⟩ := low_of _ hd (by simp; omega)
    have hs := sum_lt _ ht
    have e : run M c = run M (c.take (c.length - 4) ++ low y) := by rw [← hdy, List.take_append_drop]
    rw [hdy, e, run_sum _ ht y hy]
    constructor
    · intro h
      refine ⟨by omega, ?_⟩
      split at h
      · rename_i he; exact (low_inj _ _ hs hy he).symm
      · exact absurd rfl h
    · rintro ⟨_, rfl⟩
      simp

/-- places turned, one behind the other -/
def flips (l : List Nat) (ps : List Nat) : List Nat := ps.foldl flip l

theorem flips_length (ps l : List Nat) : (flips l ps).length = l.length := by
  induction ps generalizing l with
  | nil => rfl
  | cons p ps ih => show (flips (flip l p) ps).length = _; rw [ih, flip_length]

theorem flips_bytes (ps l : List Nat) (hl : Bytes l) : Bytes (flips l ps) := by
  induction ps generalizing l with
  | nil => exact hl
  | cons p ps ih => exact ih _ (flip_bytes l p hl)

def wt (n : Nat) (ps : List Nat) : Nat := ps.foldl (fun a p => a ^^^ tk (n - p) 1) 0

theorem foldl_xor (n a : Nat) (ps : List Nat) : ps.foldl (fun a p => a ^^^ tk (n - p) 1) a = a ^^^ wt n ps := by
  induction ps generalizing a with
  | nil => simp [wt]
  | cons p ps ih => simp only [List.foldl, wt]; rw [ih, ih (0 ^^^ _), Nat.zero_xor, Nat.xor_assoc]

theorem run_flips (ps l : List Nat) (hl : Bytes l) (s : Nat) (hp : ∀ p ∈ ps, p < 8 * l.length) :
    run s (flips l ps) = run s l ^^^ wt (8 * l.length) ps := by
  induction ps generalizing l with
  | nil => simp [flips, wt]
  | cons p ps ih =>
    show run s (flips (flip l p) ps) = _
    rw [ih _ (flip_bytes l p hl) (fun q hq => by rw [flip_length]; exact hp q (List.mem_cons_of_mem _ hq)), flip_length, run_flip l hl s p (hp p (List.mem_cons_self))]
    show _ = _ ^^^ List.foldl _ (0 ^^^ _) ps
    rw [foldl_xor, Nat.zero_xor, Nat.xor_assoc]

theorem refused (l ps : List Nat) (hl : Bytes l) (hp : ∀ p ∈ ps, p < 8 * (l.length + 4)) (hw : wt (8 * (l.length + 4)) ps ≠ 0) :
    openB (flips (sealB l) ps) = none := by
  apply Classical.byContradiction
  intro h
  have h2 := ((open_iff _ (flips_bytes ps _ (sealB_bytes l hl))).1 h).2
  rw [run_flips ps _ (sealB_bytes l hl) M (by rw [sealB_length]; exact hp), sealB_length, sealB_run l hl] at h2
  apply hw
  have : K ^^^ (K ^^^ wt (8 * (l.length + 4)) ps) = K ^^^ K := by rw [h2]
  rwa [← Nat.xor_assoc, Nat.xor_self, Nat.zero_xor] at this

/-- the bits of a mask, from 'at' on -/
def burst (i : Nat) (at_ mask : Nat) : List Nat := ((List.range i).filter fun j => mask / 2 ^ j % 2 = 1).map (at_ + ·)

theorem mod_succ (m i : Nat) : m % 2 ^ (i + 1) = (m % 2 ^ i) ^^^ (m / 2 ^ i % 2 * 2 ^ i) := by
  apply Nat.eq_of_testBit_eq
  intro j
  rw [Nat.testBit_xor, Nat.testBit_mod_two_pow, Nat.testBit_mod_two_pow, Nat.mul_comm, Nat.testBit_two_pow_mul]
  have h2 : m / 2 ^ i % 2 = (m / 2 ^ i) % 2 ^ 1 := by simp
  rw [h2, Nat.testBit_mod_two_pow, Nat.testBit_div_two_pow]
  by_cases h : j < i
  · simp [h, show j < i + 1 by omega, Nat.not_le.2 h]
  · by_cases h' : j = i
    · subst h'; simp
    · simp [h, show ¬ j < i + 1 by omega, show ¬ j - i < 1 by omega]

theorem wt_append (n : Nat) (a b : List Nat) : wt n (a ++ b) = wt n a ^^^ wt n b := by
  show List.foldl _ 0 (a ++ b) = _
  rw [List.foldl_append, foldl_xor]; rfl

theorem wt_burst (n at_ mask i : Nat) (h : at_ + i ≤ n) : wt n (burst i at_ mask) = tk (n - at_) (mask % 2 ^ i) := by
  induction i with
  | zero => simp [burst, wt, Nat.mod_one, tk_zero]
  | succ i ih =>
    have e : burst (i + 1) at_ mask = burst i at_ mask ++ (if mask / 2 ^ i % 2 = 1 then [at_ + i] else []) := by
      unfold burst
      rw [List.range_succ, List.filter_append, List.map_append]
      congr 1
      by_cases hb : mask / 2 ^ i % 2 = 1 <;> simp [hb]
    rw [e, wt_append, ih (by omega), mod_succ, tk_xor]
    congr 1
    by_cases hb : mask / 2 ^ i % 2 = 1
    · rw [if_pos hb, hb, Nat.one_mul]
      have h1 := tk_shift i 1
      rw [Nat.one_mul] at h1
      rw [show n - at_ = i + (n - (at_ + i)) by omega, tk_add, h1]
      simp [wt]
    · have h0 : mask / 2 ^ i % 2 = 0 := by omega
      rw [if_neg hb, h0, Nat.zero_mul, tk_zero]; rfl

theorem burst_ne (n at_ mask : Nat) (h : at_ + 32 ≤ n) (h0 : mask ≠ 0) (hm : mask < 4294967296) : wt n (burst 32 at_ mask) ≠ 0 := by
  rw [wt_burst n at_ mask 32 h, Nat.mod_eq_of_lt hm]
  exact tk_ne_zero _ _ hm h0

/-- two or three places -/
theorem two_ne (n p q : Nat) (hd : ∀ i, 0 < i → i < n → tk i 1 / 2 ≠ 0) (hp : p < q) (hq : q < n) : tk (n - p) 1 ^^^ tk (n - q) 1 ≠ 0 := by
  intro h
  have h1 := xor_eq_zero h
  rw [show n - p = (q - p) + (n - q) by omega, tk_add] at h1
  have h2 := tk_inj (n - q) _ _ (tk_lt _ _ (by omega)) (by omega) h1
  have := hd (q - p) (by omega) (by omega)
  rw [h2] at this
  exact this rfl

theorem three_ne (n p q r : Nat) (hd : ∀ i j, i < j → j < n → tk i 1 / 2 ≠ tk j 1 / 2) (hp : p < q) (hq : q < r) (hr : r < n) :
    tk (n - p) 1 ^^^ tk (n - q) 1 ^^^ tk (n - r) 1 ≠ 0 := by
  intro h
  rw [show n - p = (r - p) + (n - r) by omega, show n - q = (r - q) + (n - r) by omega, tk_add, tk_add, ← tk_xor, ← tk_xor] at h
  have hz : tk (r - p) 1 ^^^ tk (r - q) 1 ^^^ 1 = 0 := by
    apply Classical.byContradiction
    intro hne
    exact tk_ne_zero (n - r) _ (Nat.xor_lt_two_pow (n := 32) (Nat.xor_lt_two_pow (n := 32) (tk_lt _ _ (by omega)) (tk_lt _ _ (by omega))) (by omega)) hne h
  have he := xor_eq_zero hz
  have hx := xor_div (tk (r - p) 1) (tk (r - q) 1) 1
  rw [he] at hx
  simp only [Nat.pow_one] at hx
  have := hd (r - q) (r - p) (by omega) (by omega)
  exact this (xor_eq_zero hx.symm).symm

end CrcM
end

section
-- Written by a program of this session (wip/tools/myprint.py), over the kit's print.
namespace Go.Proofs.Ytckjmbpagippkaa.G
open Go.RowKit Go.Proofs.YtckjmbpagippkaaW.PrintWords Go.Proofs.YtckjmbpagippkaaW.PrintLast Go.Proofs.YtckjmbpagippkaaW.PrintMore
attribute [local go_sem] max2_int min2_int max_two min_two max_three min_three max_four min_four   -- for this text's walks alone
set_option linter.unusedVariables false
set_option linter.unusedSimpArgs false



def errW : Option Int → Value
  | none => .nilIface
  | some c => .iface 0 (.int .i64 c)
theorem errW_none : errW none = .nilIface := rfl
theorem errW_some (c : Int) : errW (some c) = .iface 0 (.int .i64 c) := rfl

theorem info5 : (Try.prog.info? 5).map (fun i => (i.zero, i.size, i.bytes)) = some (some (.int .u8 0), 1, 1) := by kernel_rfl
theorem info22 : (Try.prog.info? 22).map (fun i => (i.zero, i.size, i.bytes)) = some (some (.slice none 0 0), 1, 24) := by kernel_rfl
-- the values' own types
def rd_L1 (xs : List (List Int)) (i : Int) : (List Int) := xs.getD i.toNat ([] : List Int)
theorem at_L1 {w : World} {A : Option Addr} {n : Nat} {xs : List (List Int)} (h : Kd.C (Kd.slice 5 (Kd.int .u8)) w A n xs) (i : Int) (h0 : 0 ≤ i) (h1 : i < n) : ∃ ad A0 c0, A = some ad ∧ w.cell? (ad.add i.toNat) = some (.slice A0 (rd_L1 xs i).length c0) ∧ (rd_L1 xs i).length ≤ c0 ∧ (Kd.int .u8).C w A0 (rd_L1 xs i).length (rd_L1 xs i) := by
  obtain ⟨ad, c, e, _, hK, hc0⟩ := Kd.C_get h ([] : List Int) i h0 h1
  have hc : ∀ j u, c[j]? = some u → w.cell? (ad.add (i.toNat * 1 + j)) = some u := hc0
  obtain ⟨A0, c0, rfl, l0, g0⟩ := hK
  exact ⟨ad, A0, c0, e, by have hq := hc 0 _ rfl; rwa [Nat.mul_one, Nat.add_zero] at hq, l0, g0⟩

def rd_L4 (xs : List (List (List Int))) (i : Int) : (List (List Int)) := xs.getD i.toNat ([] : List (List Int))
theorem at_L4 {w : World} {A : Option Addr} {n : Nat} {xs : List (List (List Int))} (h : Kd.C (Kd.slice 22 (Kd.slice 5 (Kd.int .u8))) w A n xs) (i : Int) (h0 : 0 ≤ i) (h1 : i < n) : ∃ ad A0 c0, A = some ad ∧ w.cell? (ad.add i.toNat) = some (.slice A0 (rd_L4 xs i).length c0) ∧ (rd_L4 xs i).length ≤ c0 ∧ (Kd.slice 5 (Kd.int .u8)).C w A0 (rd_L4 xs i).length (rd_L4 xs i) := by
  obtain ⟨ad, c, e, _, hK, hc0⟩ := Kd.C_get h ([] : List (List Int)) i h0 h1
  have hc : ∀ j u, c[j]? = some u → w.cell? (ad.add (i.toNat * 1 + j)) = some u := hc0
  obtain ⟨A0, c0, rfl, l0, g0⟩ := hK
  exact ⟨ad, A0, c0, e, by have hq := hc 0 _ rfl; rwa [Nat.mul_one, Nat.add_zero] at hq, l0, g0⟩

end Go.Proofs.Ytckjmbpagippkaa.G
end

section
-- Written by a program of this session (wip/tools/myprint.py), over the kit's print.
namespace Go.Proofs.Ytckjmbpagippkaa.G
open Go.RowKit Go.Proofs.YtckjmbpagippkaaW.PrintWords Go.Proofs.YtckjmbpagippkaaW.PrintLast Go.Proofs.YtckjmbpagippkaaW.PrintMore
attribute [local go_sem] max2_int min2_int max_two min_two max_three min_three max_four min_four   -- for this text's walks alone
set_option linter.unusedVariables false
set_option linter.unusedSimpArgs false

-- BY HAND

def tabArr (f : Nat → Int) : Array Value := ((List.range 256).map fun i => Value.int .u32 (f i)).toArray
theorem zero28 (w : World) : (zeroValue 54).run Try.prog w = .ok (.agg (tabArr fun _ => 0)) w := by kernel_rfl


def T (k i : Nat) : Int := if i < k then ((CrcM.tk 8 i : Nat) : Int) else 0
theorem tabArr_get (f : Nat → Int) (i : Nat) (h : i < 256) : (tabArr f)[i]? = some (.int .u32 (f i)) := by simp [tabArr, h]
theorem tabArr_size (f : Nat → Int) : (tabArr f).size = 256 := by simp [tabArr]
theorem tabArr_set (f : Nat → Int) (i : Nat) (v : Int) : (tabArr f).setIfInBounds i (.int .u32 v) = tabArr fun j => if j = i then v else f j := by
  apply Array.ext_getElem?
  intro j
  by_cases hj : j < 256
  · rw [tabArr_get _ _ hj, Array.getElem?_setIfInBounds]
    by_cases e : i = j
    · subst e; simp [tabArr_size, hj]
    · rw [if_neg e, tabArr_get _ _ hj, if_neg (fun h => e h.symm)]
  · rw [Array.getElem?_eq_none (by simp [tabArr_size]; omega), Array.getElem?_eq_none (by simp [tabArr_size]; omega)]
theorem T_zero : T 0 = fun _ => 0 := by funext i; simp [T]
theorem T_succ (k : Nat) : (fun j => if j = k then ((CrcM.tk 8 k : Nat) : Int) else T k j) = T (k + 1) := by
  funext j
  unfold T
  by_cases e : j = k
  · subst e; simp
  · rw [if_neg e]
    by_cases h : j < k
    · rw [if_pos h, if_pos (by omega)]
    · rw [if_neg h, if_neg (by omega)]

theorem step_eq (n : Nat) (h : n < 4294967296) :
    bits .xor .u32 ((n : Int) / 2) (bits .and .u32 3988292384 (-bits .and .u32 (n : Int) 1 % 4294967296)) = (CrcM.t1 n : Nat) := by
  rw [show (1 : Int) = ((1 : Nat) : Int) from rfl, u32_and_nat n 1 h (by decide), Nat.and_one_is_mod]
  rw [show (n : Int) / 2 = ((n / 2 : Nat) : Int) by omega]
  unfold CrcM.t1
  rcases Nat.mod_two_eq_zero_or_one n with e | e
  · rw [e, if_neg (by omega)]
    rw [show (-((0 : Nat) : Int)) % 4294967296 = ((0 : Nat) : Int) by decide, show (3988292384 : Int) = ((3988292384 : Nat) : Int) from rfl, u32_and_nat _ _ (by decide) (by decide), Nat.and_zero, u32_xor_nat _ _ (by omega) (by decide), Nat.xor_zero]
  · rw [e, if_pos rfl]
    rw [show (-((1 : Nat) : Int)) % 4294967296 = ((4294967295 : Nat) : Int) by decide, show (3988292384 : Int) = ((3988292384 : Nat) : Int) from rfl, u32_and_nat _ _ (by decide) (by decide), show 3988292384 &&& 4294967295 = 3988292384 by decide, u32_xor_nat _ _ (by omega) (by decide)]

theorem tk_step (j k : Nat) : CrcM.tk (j + 1) k = CrcM.t1 (CrcM.tk j k) := by rw [CrcM.tk_add]; rfl

theorem tabArr_one (f : Nat → Int) : (tabArr f).all (·.oneCell') = true := by
  rw [Array.all_eq_true_iff_forall_mem]
  intro v hv
  simp only [tabArr, List.mem_toArray, List.mem_map] at hv
  obtain ⟨i, _, rfl⟩ := hv
  rfl
theorem size28 : (Try.prog.info? 54).map (·.size) = some 256 := by kernel_rfl

set_option maxRecDepth 100000 in
set_option maxHeartbeats 400000 in
theorem table_any (w : World) : Calls Try.prog 32 #[] w fun e w' => e = .returned (.agg (tabArr (T 256))) ∧ Below w.heap.size w w' := by
  have hz := zero28
  go_enter Try.func32, Try.ntmps32
  go_wp2_with fail
  clear hz
  go_loopw [3] (fun i wr => ∃ k : Nat, k ≤ 256 ∧ i = .int .i64 k ∧ wr.heap[w.heap.size]? = some (.cells (tabArr (T k)) 54 (0, 0)) ∧ Below w.heap.size w wr) (fun i _ => 256 - (intOf i).toNat)
  case atStart => exact ⟨0, by omega, rfl, by rw [T_zero]; exact heap_alloc_new w _, (Below.refl _ _).alloc (Nat.le_refl _) _⟩
  case round =>
    obtain ⟨k, hk, rfl, hb, hB⟩ := hrel
    by_cases hlt : k < 256
    · have hc : wr.cell? ⟨w.heap.size, k, none⟩ = some (.int .u32 (T k k)) := by rw [cell_of_row wr _ _ _ _ _ hb, tabArr_get _ _ hlt]
      have hf : wr.frozen? ⟨w.heap.size, k, none⟩ = false := frozen_of_row wr _ _ _ _ hb
      have HB := Aside0.mk hb
      clear hb
      go_wp2_with fail
      go_loop [2, 8] (fun n i => ∃ j : Nat, j ≤ 8 ∧ i = .int .i64 j ∧ n = .int .u32 (CrcM.tk j k)) (fun _ i => 8 - (intOf i).toNat)
      case atStart => exact ⟨0, by omega, rfl, rfl⟩
      case round =>
        obtain ⟨j, hj, rfl, rfl⟩ := hrel
        by_cases hl : j < 8
        · go_wp2_with fail
          go_round
          case rel => exact ⟨j + 1, by omega, by go_num, by rw [step_eq _ (CrcM.tk_lt _ _ (by omega)), tk_step]⟩
          case measure => simp [intOf]; omega
        · obtain rfl : j = 8 := by omega
          go_wp2_with fail
          go_roundw
          case rel => exact ⟨k + 1, by omega, by go_num, by rw [heap_setCell_same _ _ _ _ _ _ HB.out, tabArr_set, T_succ], hB.setCell (Nat.le_refl _) _⟩
          case measure => simp [intOf]; omega
    · obtain rfl : k = 256 := by omega
      go_wp2_with (first | (with_reducible refine wpList_load_row rfl 54 _ rfl w.heap.size rfl 54 (tabArr (T 256)) (0, 0) _ hb Try.underlying54 rfl (by rw [tabArr_size]; exact size28) ?_) | (with_reducible refine wpList_store_row rfl 54 _ _ rfl w.heap.size (tabArr (T 256)) rfl rfl 54 (tabArr (T 256)) hb (by rw [tabArr_size]; exact size28) rfl (tabArr_one _) ?_))
      rw [setRow_self _ _ _ _ _ hb]
      refine bodyPost_ret (results_cell_row (P := Try.prog) (ty := 54) (p := 0) rfl _ wr w.heap.size 54 (tabArr (T 256)) (0, 0) _ rfl hb Try.underlying54 rfl (by rw [tabArr_size]; exact size28)) rfl ⟨rfl, hB⟩

def u8s (l : List Int) : Prop := ∀ x ∈ l, 0 ≤ x ∧ x < 256
def nats (l : List Int) : List Nat := l.map Int.toNat
instance (l : List Int) : Decidable (u8s l) := inferInstanceAs (Decidable (∀ x ∈ l, 0 ≤ x ∧ x < 256))
theorem u8s_nats {l : List Int} (h : u8s l) : CrcM.Bytes (nats l) := by
  intro c hc
  obtain ⟨x, hx, rfl⟩ := List.mem_map.1 hc
  have := h x hx
  omega
theorem run_take (s : Nat) (l : List Int) (k : Nat) (h : k < l.length) : CrcM.run s (nats (l.take (k + 1))) = CrcM.upd (CrcM.run s (nats (l.take k))) (rd l k).toNat := by
  rw [List.take_succ_eq_append_getElem h, nats, List.map_append]
  simp [nats, CrcM.run, rd, List.getD_eq_getElem?_getD, h]
theorem rd_u8 {l : List Int} (h : u8s l) (k : Nat) (hk : k < l.length) : 0 ≤ rd l k ∧ rd l k < 256 := by
  have := h (l[k]) (List.getElem_mem hk)
  simpa [rd, List.getD_eq_getElem?_getD, hk] using this

theorem not_u32 (a : Nat) (h : a < 4294967296) : bits .xor .u32 IntKind.u32.max (a : Int) = ((a ^^^ CrcM.M : Nat) : Int) := by
  rw [show IntKind.u32.max = ((CrcM.M : Nat) : Int) from rfl, u32_xor_nat _ _ (by decide) h, Nat.xor_comm]

def crc_Add.f (a0 : Int) (l1 : List Int) : Option Int := if 0 ≤ a0 ∧ a0 < 4294967296 ∧ u8s l1 then some ((CrcM.add a0.toNat (nats l1) : Nat) : Int) else none
set_option maxRecDepth 100000 in
set_option maxHeartbeats 400000 in
theorem crc_Add.calls (a0 : Int) (A1 : Option Addr) (c1 : Nat) (l1 : List Int) (r : Int) (w : World) (hr1 : Kd.C (Kd.int .u8) w A1 l1.length l1) (hc1 : l1.length ≤ c1) (h : crc_Add.f a0 l1 = some r) :
    Calls Try.prog 31 #[.int .u32 a0, .slice A1 l1.length c1] w fun e w' => e = .returned (.int .u32 r) ∧ Below w.heap.size w w' := by
  have hz := zero28
  unfold crc_Add.f at h
  split at h
  · rename_i hh
    obtain ⟨h0, h1, hu⟩ := hh
    obtain ⟨a, rfl⟩ := Int.eq_ofNat_of_zero_le h0
    have ha : a < 4294967296 := by omega
    clear h0 h1
    have H := Aside0.mk (Option.some.inj h)
    have HU := Aside0.mk hu
    have HR := Aside0.mk hr1
    clear h hu hr1
    go_enter Try.func31, Try.ntmps31
    go_wp2_with (first | (go_at_call 32; refine (table_any _).mono ?_; rintro e w1 ⟨rfl, hB1⟩) | (with_reducible refine wpList_store_row rfl 54 _ _ rfl w1.heap.size (tabArr (T 256)) rfl rfl 54 (tabArr fun _ => 0) (heap_alloc_new w1 _) (by rw [tabArr_size]; exact size28) rfl (tabArr_one _) ?_))
    have hb : ((w1.alloc (.cells (tabArr fun _ => 0) 54)).setRow w1.heap.size (tabArr (T 256))).heap[w1.heap.size]? = some (.cells (tabArr (T 256)) 54 (0, 0)) := setRow_heap _ _ _ _ _ _ (heap_alloc_new w1 _)
    have hB : Below w.heap.size w ((w1.alloc (.cells (tabArr fun _ => 0) 54)).setRow w1.heap.size (tabArr (T 256))) := by
      refine (hB1.alloc hB1.size _).trans ⟨rfl, rfl, rfl, by simp, fun k hk => setRow_other _ _ _ _ (by have := hB1.size; omega)⟩
    generalize ((w1.alloc (.cells (tabArr fun _ => 0) 54)).setRow w1.heap.size (tabArr (T 256))) = w2 at hb hB ⊢
    clear hz hB1
    have HR2 := Aside0.mk (Kd.C_below HR.out hB)
    have HBl := Aside0.mk hb
    clear hb
    have hlen := Kd.C_max HR.out
    go_wp2_with fail
    go_loop [0, 13] (fun s i => ∃ k : Nat, k ≤ l1.length ∧ i = .int .i64 k ∧ s = .int .u32 (CrcM.run (a ^^^ CrcM.M) (nats (l1.take k)))) (fun _ i => l1.length - (intOf i).toNat)
    case atStart => exact ⟨0, Nat.zero_le _, rfl, by rw [not_u32 a ha]; simp [nats, CrcM.run]⟩
    case round =>
      obtain ⟨k, hk, rfl, rfl⟩ := hrel
      have hrun : CrcM.run (a ^^^ CrcM.M) (nats (l1.take k)) < 4294967296 := CrcM.run_lt _ (u8s_nats (fun x hx => HU.out x (List.mem_of_mem_take hx))) _ (Nat.xor_lt_two_pow (n := 32) ha CrcM.M_lt)
      by_cases hlt : k < l1.length
      · obtain ⟨ad, e, hcell⟩ := Kd.at_int HR2.out (k : Int) (by omega) (by omega)
        obtain rfl := e
        rw [Int.toNat_natCast] at hcell
        obtain ⟨hc0, hc1'⟩ := rd_u8 HU.out k hlt
        have hstep := Aside0.mk (run_take (a ^^^ CrcM.M) l1 k hlt)
        generalize CrcM.run (a ^^^ CrcM.M) (nats (l1.take k)) = s at *
        generalize hc : rd l1 k = c at *
        obtain ⟨c, rfl⟩ := Int.eq_ofNat_of_zero_le hc0
        have Hc := Aside0.mk hc
        clear hc
        obtain ⟨j, hj⟩ : ∃ j, j = (s % 256) ^^^ c := ⟨_, rfl⟩
        have hj256 : j < 256 := by rw [hj]; exact Nat.xor_lt_two_pow (n := 8) (by omega) (by omega)
        have hx : bits .xor .u8 ((s : Int) % 256) (c : Int) = (j : Int) := by
          rw [show (s : Int) % 256 = ((s % 256 : Nat) : Int) by omega, u8_xor_nat _ _ (by omega) (by omega), hj]
        obtain ⟨t, ht⟩ : ∃ t, t = CrcM.tk 8 j := ⟨_, rfl⟩
        have htlt : t < 4294967296 := by rw [ht]; exact CrcM.tk_lt _ _ (by omega)
        have hcc : w2.cell? ⟨w1.heap.size, j, none⟩ = some (.int .u32 (t : Int)) := by
          rw [cell_of_row w2 _ _ _ _ _ HBl.out, tabArr_get _ _ hj256, T, if_pos hj256, ht]
        have hnext : bits .xor .u32 (t : Int) ((s : Int) / 256) = (CrcM.upd s c : Nat) := by
          rw [show (s : Int) / 256 = ((s / 256 : Nat) : Int) by omega, u32_xor_nat _ _ htlt (by omega), ht, hj]
          unfold CrcM.upd
          have e := CrcM.xor_mod s c 8
          simp only [show (2 : Nat) ^ 8 = 256 from rfl, Nat.mod_eq_of_lt (show c < 256 by omega)] at e
          rw [e]
        have Hnext := Aside0.mk hnext
        clear hnext ht hj
        go_wp2_with fail
        go_round
        case rel => exact ⟨k + 1, by omega, by go_num, by rw [hstep.out, Int.toNat_natCast, Hnext.out]⟩
        case measure => simp [intOf]; omega
      · obtain rfl : k = l1.length := by omega
        rw [List.take_length] at hrun ⊢
        go_wp2_with fail
        go_ret
        refine ⟨?_, hB⟩
        rw [← H.out, Int.toNat_natCast, not_u32 _ hrun]
        rfl
  · cases h

end Go.Proofs.Ytckjmbpagippkaa.G
end

section
-- Written by a program of this session (wip/tools/myprint.py), over the kit's print.
namespace Go.Proofs.Ytckjmbpagippkaa.G
open Go.RowKit Go.Proofs.YtckjmbpagippkaaW.PrintWords Go.Proofs.YtckjmbpagippkaaW.PrintLast Go.Proofs.YtckjmbpagippkaaW.PrintMore
attribute [local go_sem] max2_int min2_int max_two min_two max_three min_three max_four min_four   -- for this text's walks alone
set_option linter.unusedVariables false
set_option linter.unusedSimpArgs false

/-! ### crc_Sum: function 26 -/
def crc_Sum.f (l0 : List Int) : Option (Int) := (crc_Add.f 0 l0).bind fun t102 => (some t102)
set_option maxHeartbeats 8000000 in
set_option maxRecDepth 100000 in
theorem crc_Sum.calls (A0 : Option Addr) (c0 : Nat) (l0 : List Int) (r : Int) (w : World) (hr0 : Kd.C (Kd.int .u8) w A0 l0.length l0) (hc0 : l0.length ≤ c0) (h : crc_Sum.f l0 = some r) :
    Calls Try.prog 26 #[.slice A0 l0.length c0] w fun e w' => e = .returned (.int .u32 r) ∧ Below w.heap.size w w' := by
  have HR0 := Aside0.mk hr0
  have HC0 := Aside0.mk hc0
  clear hr0 hc0
  have HB := Aside0.mk (Below.refl w.heap.size w)
  have H : ((crc_Add.f 0 l0).bind fun t102 => (some t102)) = some r := h
  clear h
  replace H := Option.bind_eq_some_iff.mp H
  obtain ⟨t102, A20, H⟩ := H
  replace H : (some t102) = some r := H
  have A2 := Aside0.mk A20
  clear A20
  obtain rfl := Option.some.inj H
  go_enter Try.func26, Try.ntmps26
  go_wp2_with (first | ((with_reducible refine gate_callee (f := 31) rfl ?_); refine goesL_ (some 4) rfl rfl Try.func31 (by kernel_rfl) rfl #[.int .u32 0, .slice A0 l0.length c0] rfl (by (try simp only [List.map_toArray, List.map_cons, List.map_nil]); first | done | rfl | (simp only [List.length_drop, List.length_take]; rfl)) ?_; (with_reducible refine (crc_Add.calls 0 _ _ l0 t102 _ ?side1 ?side2 A2.out).mono ?_); (case side1 => repeat (first | exact HR0.out | (with_reducible refine Kd.C_alloc ?_ _) | (with_reducible refine Kd.C_drewN ?_ _) | (with_reducible refine Kd.C_drew ?_))); (case side2 => exact HC0.out); rintro e w3 ⟨rfl, hb⟩; refine ⟨_, rfl, ?_⟩; have n0_ := Aside0.mk (below_step (by repeat (first | (with_reducible first | exact HB.out | apply below_alloc | apply pw_below_drewN | apply below_drew1) | exact HB.out)) hb); clear HB; have HB := n0_; clear n0_; (try clear hb); (try clear hb2); (try clear hk); (try clear hi)))
  go_ret
  exact ⟨by first | rfl | (simp [errW_none, errW_some] <;> rfl) | (simp [*, errW_none, errW_some] <;> rfl), by repeat (first | (with_reducible first | exact HB.out | apply below_alloc | apply pw_below_drewN | apply below_drew1) | exact HB.out)⟩

end Go.Proofs.Ytckjmbpagippkaa.G
end

section
-- Written by a program of this session (wip/tools/myprint.py), over the kit's print.
namespace Go.Proofs.Ytckjmbpagippkaa.G
open Go.RowKit Go.Proofs.YtckjmbpagippkaaW.PrintWords Go.Proofs.YtckjmbpagippkaaW.PrintLast Go.Proofs.YtckjmbpagippkaaW.PrintMore
attribute [local go_sem] max2_int min2_int max_two min_two max_three min_three max_four min_four   -- for this text's walks alone
set_option linter.unusedVariables false
set_option linter.unusedSimpArgs false

-- BY HAND
def zof (l : List Nat) : List Int := l.map fun (n : Nat) => (n : Int)
theorem zof_append (a b : List Nat) : zof (a ++ b) = zof a ++ zof b := by simp [zof]
theorem zof_nats {l : List Int} (h : u8s l) : zof (nats l) = l := by
  unfold zof nats
  rw [List.map_map]
  conv => rhs; rw [← List.map_id l]
  exact List.map_congr_left fun x hx => by have := h x hx; simp; omega
theorem low_take (n k : Nat) (hk : k < 4) : (CrcM.low n).take (k + 1) = (CrcM.low n).take k ++ [n / 2 ^ (8 * k) % 256] := by
  match k, hk with
  | 0, _ => simp [CrcM.low]
  | 1, _ => simp [CrcM.low]
  | 2, _ => simp [CrcM.low]
  | 3, _ => simp [CrcM.low]
def crc_Seal.f (l0 : List Int) : Option (List Int) := if u8s l0 ∧ l0.length ≤ 140737488351232 then some (zof (CrcM.sealB (nats l0))) else none
theorem sum_some {l : List Int} (h : u8s l) : crc_Sum.f l = some ((CrcM.sum (nats l) : Nat) : Int) := by
  unfold crc_Sum.f crc_Add.f
  rw [if_pos ⟨by omega, by omega, h⟩]
  rfl
theorem info_u8 : (Try.prog.info? 5).map (fun i => (i.zero, i.size, i.bytes)) = some (some (.int .u8 0), 1, 1) := by kernel_rfl
theorem size_u8 : (Try.prog.info? 5).map (·.size) = some 1 := by kernel_rfl
set_option maxRecDepth 100000 in
set_option maxHeartbeats 400000 in
theorem crc_Seal.calls (A0 : Option Addr) (c0 : Nat) (l0 : List Int) (r : List Int) (w : World) (hr0 : Kd.C (Kd.int .u8) w A0 l0.length l0) (hc0 : l0.length ≤ c0) (h : crc_Seal.f l0 = some r) :
    Calls Try.prog 19 #[.slice A0 l0.length c0] w fun e w' => ∃ v0_ : Value, e = .returned (v0_) ∧ Kd.R (Kd.int .u8) 5 w' w.heap.size (fun _ => True) v0_ r ∧ Below w.heap.size w w' := by
  have hh0 := h
  clear h
  unfold crc_Seal.f at hh0
  split at hh0
  · rename_i hh
    obtain ⟨hu, hl⟩ := hh
    have H := Aside0.mk (Option.some.inj hh0)
    have HU := Aside0.mk hu
    have HR := Aside0.mk hr0
    clear hh0 hu hr0
    have hmk := make_cap (P := Try.prog) 22 5 .u8 1 Try.underlying22 info_u8 (l0.length : Int) ((l0.length : Int) + 4) (by omega) (by omega) (by omega) (by omega)
    rw [show ((l0.length : Int) + 4).toNat = l0.length + 4 by omega, Int.toNat_natCast] at hmk
    obtain ⟨n, hn⟩ : ∃ n, n = CrcM.sum (nats l0) := ⟨_, rfl⟩
    have hn32 : n < 4294967296 := by rw [hn]; exact CrcM.sum_lt _ (u8s_nats HU.out)
    have hsum := Aside0.mk (show crc_Sum.f l0 = some (n : Int) by rw [hn]; exact sum_some HU.out)
    have Hn := Aside0.mk hn
    clear hn
    go_enter Try.func19, Try.ntmps19
    go_wp2_with (first
      | ((with_reducible refine copy_made (w0 := w) w.heap.size rfl (.tmp 12) (.tmp 13) 22 22 5 .u8 rfl Try.underlying22 size_u8 w.heap.size l0.length (l0.length + 4) (l0.length + 4) A0 c0 l0 rfl rfl rfl (heap_alloc_new w _) rfl (by omega) (by unfold maxLen; omega) (Kd.C_alloc HR.out _) ((Below.refl _ _).alloc (Nat.le_refl _) _) (Nat.le_refl _) ?_); intro w1 HO1 hB1; clear hmk)
      | (go_at_call 26; refine (crc_Sum.calls _ _ l0 (n : Int) _ (Kd.C_below HR.out hB1) hc0 hsum.out).mono ?_; rintro e w2 ⟨rfl, hB2⟩))
    have hB := hB1.trans (hB2.mono hB1.size)
    have HO2 := Aside0.mk (Kd.R_below HO1.out hB2)
    clear HO1 hB1 hB2
    go_wp2_with fail
    go_loopw [3, 17] (fun v i wr => ∃ k : Nat, k ≤ 4 ∧ i = .int .i64 k ∧ Aside0 ((Kd.int .u8).R 5 wr w.heap.size (fun _ => True) v (l0 ++ zof ((CrcM.low n).take k))) ∧ Below w.heap.size w wr) (fun _ i _ => 4 - (intOf i).toNat)
    case atStart => exact ⟨0, by omega, rfl, ⟨by simpa [zof] using HO2.out⟩, hB⟩
    case round =>
      obtain ⟨k, hk, rfl, HO, hBr⟩ := hrel
      by_cases hlt : k < 4
      · have hlk : (l0 ++ zof ((CrcM.low n).take k)).length ≤ l0.length + 4 := by simp [zof]; omega
        have HLK := Aside0.mk hlk
        clear hlk
        go_wp2_with (at_builtin; refine app_num (w0 := w) w.heap.size rfl (.tmp 20) (.tmp 26) 22 5 .u8 1 rfl Try.underlying22 info_u8 (by decide) u3 (l0 ++ zof ((CrcM.low n).take k)) ((n : Int) / 2 ^ (8 * k) % 256) rfl rfl HO.out hBr hBr.size (by have := HLK.out; omega) ?_; intro v1 w1 HO1 hB1; clear HO hBr)
        go_roundw
        case rel => exact ⟨k + 1, by omega, by go_num, ⟨by have h := HO1.out; rwa [low_take n k hlt, zof_append, ← List.append_assoc, show zof [n / 2 ^ (8 * k) % 256] = [(n : Int) / 2 ^ (8 * k) % 256] by simp [zof]]⟩, hB1⟩
        case measure => simp [intOf]; omega
      · obtain rfl : k = 4 := by omega
        go_wp2_with fail
        go_ret
        refine ⟨u3, rfl, ?_, hBr⟩
        have h := HO.out
        rw [show (CrcM.low n).take 4 = CrcM.low n from rfl] at h
        have e : l0 ++ zof (CrcM.low n) = r := by rw [← H.out, CrcM.sealB, zof_append, zof_nats HU.out, Hn.out]
        rwa [e] at h
  · cases hh0

end Go.Proofs.Ytckjmbpagippkaa.G
end

section
set_option linter.unusedVariables false
set_option linter.unusedSimpArgs false
set_option autoImplicit false
namespace Go.Proofs.Ytckjmbpagippkaa
open Go.RowKit Go.Proofs.YtckjmbpagippkaaW.PrintWords Go.Proofs.YtckjmbpagippkaaW.PrintLast Go.Proofs.YtckjmbpagippkaaW.PrintMore

/-- the bytes that a slice tells, in blocks of which S tells -/
def HeldB (w : World) (S : Nat → Prop) (A : Option Addr) (l : List Int) : Prop :=
  0 < l.length → ∃ ad, A = some ad ∧ S ad.block ∧ ∀ j, j < l.length → w.cell? (ad.add j) = some (.int .u8 (rd l j))
theorem lt_of_heap {w : World} {g : Nat} {o : Obj} (h : w.heap[g]? = some o) : g < w.heap.size := (Array.getElem?_eq_some_iff.1 h).1
theorem HeldB.keep {w w' : World} {S : Nat → Prop} {A : Option Addr} {l : List Int} (h : HeldB w S A l) (hk : ∀ k, k < w.heap.size → S k → w'.heap[k]? = w.heap[k]?) : HeldB w' S A l := by
  intro hl
  obtain ⟨ad, rfl, hS, hc⟩ := h hl
  refine ⟨ad, rfl, hS, fun j hj => ?_⟩
  have h1 := hc j hj
  have hlt := World.block_lt_of_cell? w _ h1
  have hb : (ad.add j).block = ad.block := add_block _ _
  rw [World.cell?_of_block (w := w) (by rw [hb]; exact hk _ (by rwa [hb] at hlt) hS)]
  exact h1
theorem HeldB.C {w : World} {S : Nat → Prop} {A : Option Addr} {l : List Int} (h : HeldB w S A l) (hl : l.length ≤ 9223372036854775807) : (Kd.int .u8).C w A l.length l :=
  Kd.C_of_reads (d := (0 : Int)) ⟨rfl, hl, fun h0 => by obtain ⟨ad, rfl, _, hc⟩ := h h0; exact ⟨ad, rfl, fun j hj => by have := hc j hj; simpa [rd] using this⟩⟩
theorem HeldB.of_C {w : World} {S : Nat → Prop} {A : Option Addr} {l : List Int} (h : (Kd.int .u8).C w A l.length l) (hS : ∀ ad, A = some ad → 0 < l.length → S ad.block) : HeldB w S A l := by
  intro h0
  obtain ⟨_, _, hr⟩ := Kd.reads_of_C (d := (0 : Int)) h
  obtain ⟨ad, rfl, hc⟩ := hr h0
  exact ⟨ad, rfl, hS ad rfl h0, fun j hj => by have := hc j hj; simpa [rd] using this⟩

theorem held_own {W : World} {base e : Nat} {ok : Nat → Prop} {v : Value} {xs : List Int} (h : (Kd.int .u8).R e W base ok v xs) :
    ∃ A c, v = .slice A xs.length c ∧ xs.length ≤ c ∧ c ≤ 9223372036854775807 ∧ HeldB W (fun k => base ≤ k ∧ k < W.heap.size) A xs ∧ (Kd.int .u8).C W A xs.length xs := by
  obtain ⟨A, c, rfl, hc, hC⟩ := own_C h
  obtain ⟨_, ho⟩ := kd_own h
  rcases ho with ⟨h1, h2⟩ | ⟨g, cap, cur, h1, h2, h3, h4, h5, h6, h7⟩
  · simp only [Value.slice.injEq] at h1
    obtain ⟨rfl, _, rfl⟩ := h1
    exact ⟨none, 0, rfl, by omega, by omega, fun h0 => absurd h0 (by omega), hC⟩
  · cases h1
    refine ⟨_, _, rfl, hc, by simpa [maxLen] using h5, HeldB.of_C hC ?_, hC⟩
    rintro ad hA _
    cases hA
    exact ⟨h2, lt_of_heap h3⟩
theorem HeldB.below {w w' : World} {S : Nat → Prop} {A : Option Addr} {l : List Int} (h : HeldB w S A l) (hb : Below w.heap.size w w') : HeldB w' S A l := h.keep fun k hk _ => hb.block k hk
theorem HeldB.grown {w w' : World} {S : Nat → Prop} {A : Option Addr} {l : List Int} {r : Nat} (h : HeldB w S A l) (hb : w.grownBy w' (some r)) (h2 : ¬ S r) : HeldB w' S A l :=
  h.keep fun k hk hs => hb.block k hk (fun e => by cases e; exact h2 hs)
theorem HeldB.low {w : World} {A : Option Addr} {l : List Int} (h : (Kd.int .u8).C w A l.length l) : HeldB w (fun k => k < w.heap.size) A l := by
  refine HeldB.of_C h ?_
  rintro ad rfl h0
  obtain ⟨_, _, hr⟩ := Kd.reads_of_C (d := (0 : Int)) h
  obtain ⟨ad', e, hc⟩ := hr h0
  cases e
  have := World.block_lt_of_cell? _ _ (hc 0 h0)
  rwa [add_block] at this
theorem strA {w : World} {A : Option Addr} {l : List Int} (h : (Kd.int .u8).C w A l.length l) (c : Nat) : (convert 22 9 (.slice A l.length c)).run Try.prog w = .ok (.string (strOfNums l)) w :=
  Kd.C_string (P := Try.prog) (A := A) (c := c) Try.underlying22 Try.underlying5 Try.underlying9 h
theorem below_of_grown {w0 a b : World} {g : Nat} (h : Below w0.heap.size w0 a) (k : a.grownBy b (some g)) (hg : w0.heap.size ≤ g) : Below w0.heap.size w0 b :=
  h.grown k h.size (fun k hk => by cases hk; exact hg)
theorem below_via {w W W' : World} (h : Below W.heap.size W W') (h0 : Below w.heap.size w W) : Below w.heap.size w W' := h0.trans (h.mono h0.size)
end Go.Proofs.Ytckjmbpagippkaa
end

section
/- slices.Grow of nothing, and slices.Concat of two rows of bytes. -/
set_option linter.unusedVariables false
set_option linter.unusedSimpArgs false
set_option autoImplicit false
namespace Go.Proofs.Ytckjmbpagippkaa
open Go.RowKit Go.Proofs.YtckjmbpagippkaaW.PrintWords Go.Proofs.YtckjmbpagippkaaW.PrintLast Go.Proofs.YtckjmbpagippkaaW.PrintMore

set_option maxRecDepth 100000 in
set_option maxHeartbeats 1000000 in
theorem grow_nil (n : Nat) (hn : n ≤ 100000) (w : World) :
    Calls Try.prog 25 #[.slice none 0 0, .int .i64 n] w fun e w' => ∃ v, e = .returned v ∧ (Kd.int .u8).R 5 w' w.heap.size (fun _ => True) v [] ∧ Below w.heap.size w w' := by
  have hw : wrap64 ((n : Int) - 0) = (n : Int) := by unfold wrap64; omega
  go_enter Try.func25, Try.ntmps25
  by_cases h0 : 0 < n
  · have hinfo : ∃ i : TypeInfo, Try.prog.info? 5 = some i ∧ i.zero = some (.int .u8 0) ∧ i.size = 1 ∧ i.bytes = 1 := ⟨_, rfl, rfl, rfl, rfl⟩
    obtain ⟨i0, hi, hz, hs, hb⟩ := hinfo
    have hrun := fun W => Lib.run_append_nil_zeros (P := Try.prog) W 22 3 22 5 i0 (.int .u8 0) .i64 .i64 Try.underlying22 Try.underlying3 hi hz n h0 (by omega) (by omega) (by rw [hb]; omega)
    clear hi hz hs hb
    go_wp2_with (at_builtin; refine Lib.wpList_append_run _ rfl _ _ _ _ rfl _ _ rfl rfl _ _ (hrun _) ?_)
    go_ret
    refine ⟨_, rfl, ?_, (Below.refl _ _).alloc (Nat.le_refl _) _ |> below_drew⟩
    refine kd_R ⟨by simp [nums], .inr ⟨w.heap.size, grownCap w n 0 5, _, rfl, Nat.le_refl _, heap_alloc_new w _, Nat.zero_le _, grownCap_le_maxLen w n 0 _ (by unfold maxLen; omega), ?_, by simp [nums]⟩⟩
    have hg := grownCap_ge w n 0 5
    rw [Array.size_append, size_zeroCells, size_zeroCells]
    simp
    omega
  · obtain rfl : n = 0 := by omega
    go_wp2
    go_ret
    exact ⟨_, rfl, Kd.R_nil _ _ _ _ _, Below.refl _ _⟩
theorem info_b8 : (Try.prog.info? 5).map (fun i => (i.zero, i.size, i.bytes)) = some (some (.int .u8 0), 1, 1) := by kernel_rfl
theorem HeldB.mono {w : World} {S S' : Nat → Prop} {A : Option Addr} {l : List Int} (h : HeldB w S A l) (hS : ∀ k, S k → S' k) : HeldB w S' A l := by
  intro h0
  obtain ⟨ad, h1, h2, h3⟩ := h h0
  exact ⟨ad, h1, hS _ h2, h3⟩
theorem two_cells {W : World} {b T : Nat} {x y : Value} (h : W.heap[b]? = some (.cells #[x, y] T (0, 0))) :
    W.cell? ⟨b, 0, none⟩ = some x ∧ W.cell? ⟨b, 1, none⟩ = some y :=
  ⟨by rw [cell_of_row _ _ _ _ _ _ h]; rfl, by rw [cell_of_row _ _ _ _ _ _ h]; rfl⟩
theorem vkeepB {W W' : World} {b : Nat} {o : Obj} (h : W.heap[b]? = some o) (hB : Below W.heap.size W W') : W'.heap[b]? = some o := by rw [hB.block _ (lt_of_heap h)]; exact h
theorem vkeepO {W W' : World} {b base : Nat} {o : Obj} (h : W.heap[b]? = some o) (hB : Below base W W') (hb : b < base) : W'.heap[b]? = some o := by rw [hB.block _ hb]; exact h
set_option maxRecDepth 100000 in
set_option maxHeartbeats 2000000 in
theorem concat_two (gc cc : Nat) (A1 : Option Addr) (c1 : Nat) (l1 : List Int) (A2 : Option Addr) (c2 : Nat) (l2 : List Int) (w : World) (hcell : w.heap[gc]? = some (.cells #[.slice A1 l1.length c1, .slice A2 l2.length c2] 22 (0, 0)))
    (h1 : HeldB w (fun k => k < w.heap.size) A1 l1) (h2 : HeldB w (fun k => k < w.heap.size) A2 l2) (hl1 : l1.length ≤ 40000) (hl2 : l2.length ≤ 40000) :
    Calls Try.prog 18 #[.slice (some ⟨gc, 0, none⟩) 2 cc] w fun e w' => ∃ v, e = .returned v ∧ (Kd.int .u8).R 5 w' w.heap.size (fun _ => True) v (l1 ++ l2) ∧ Below w.heap.size w w' := by
  have hgc := lt_of_heap hcell
  obtain ⟨k0, k1⟩ := two_cells hcell
  have HC := Aside0.mk hcell
  have H1 := Aside0.mk h1
  have H2 := Aside0.mk h2
  have HGC := Aside0.mk hgc
  clear hcell h1 h2 hgc
  go_enter Try.func18, Try.ntmps18
  go_wp2_with fail
  go_loop [3, 11] (fun s i => (i = .int .i64 0 ∧ s = .int .i64 0) ∨ (i = .int .i64 1 ∧ s = .int .i64 l1.length) ∨ (i = .int .i64 2 ∧ s = .int .i64 (l1.length + l2.length : Nat))) (fun _ i => 2 - (intOf i).toNat)
  case atStart => exact .inl ⟨rfl, rfl⟩
  case round =>
    rcases hrel with ⟨rfl, rfl⟩ | ⟨rfl, rfl⟩ | ⟨rfl, rfl⟩
    · go_wp2_with fail
      exact ⟨.inr (.inl ⟨rfl, rfl⟩), by simp [intOf]⟩
    · go_wp2_with fail
      exact ⟨.inr (.inr ⟨rfl, by simp⟩), by simp [intOf]⟩
    · go_wp2_with fail
      refine (grow_nil (l1.length + l2.length) (by omega) w).mono ?_
      rintro e w2 ⟨v0, rfl, hR, hB⟩
      have HB2 := Aside0.mk hB
      have HC2 := Aside0.mk (vkeepB HC.out hB)
      have H12 := Aside0.mk (H1.out.below hB)
      have H22 := Aside0.mk (H2.out.below hB)
      have HO2 := Aside0.mk hR
      clear hB hR HC H1 H2 k0 k1
      go_wp2_with fail
      go_loopw [6, 27] (fun v i wr => ∃ (k : Nat) (xs : List Int), k ≤ 2 ∧ i = .int .i64 k ∧ Aside0 (xs = if k = 0 then [] else if k = 1 then l1 else l1 ++ l2) ∧ Aside0 ((Kd.int .u8).R 5 wr w.heap.size (fun _ => True) v xs) ∧ Aside0 (wr.heap[gc]? = some (.cells #[.slice A1 l1.length c1, .slice A2 l2.length c2] 22 (0, 0))) ∧ Aside0 (HeldB wr (fun k => k < w.heap.size) A1 l1) ∧ Aside0 (HeldB wr (fun k => k < w.heap.size) A2 l2) ∧ Below w.heap.size w wr) (fun _ i _ => 2 - (intOf i).toNat)
      case atStart => exact ⟨0, [], by omega, rfl, ⟨rfl⟩, ⟨HO2.out⟩, ⟨HC2.out⟩, ⟨H12.out⟩, ⟨H22.out⟩, HB2.out⟩
      case round =>
        clear HO2 HC2 H12 H22 HB2
        obtain ⟨k, xs, hk, rfl, HX, HO, HC, H1, H2, hBr⟩ := hrel
        have HBR := Aside0.mk hBr
        clear hBr
        obtain ⟨k0, k1⟩ := two_cells HC.out
        have hk3 : k = 0 ∨ k = 1 ∨ k = 2 := by omega
        clear hk
        obtain ⟨Ab, cb, rfl, hcb, _⟩ := own_C HO.out
        rcases hk3 with rfl | rfl | rfl
        · have hx : xs = [] := HX.out
          subst hx
          go_wp2_with (at_builtin; refine print_append_row (w0 := w) w.heap.size rfl (.tmp 31) (.tmp 32) 22 5 .u8 1 rfl Try.underlying22 info_b8 (by decide) (.slice Ab 0 cb) ([] : List Int) l1 A1 l1.length c1 rfl rfl (kd_own HO.out) (Kd.reads_of_C (d := (0 : Int)) (H1.out.C (by omega))) HBR.out HBR.out.size (by simp; omega) ?_; intro v3 w3 ho3 hB3 hG3 _)
          have HK : Aside0 (∀ k, k < w.heap.size → w3.heap[k]? = wr.heap[k]?) := ⟨fun k hk => by rw [hB3.block k hk, HBR.out.block k hk]⟩
          have HC3 : Aside0 (w3.heap[gc]? = some (.cells #[.slice A1 l1.length c1, .slice A2 l2.length c2] 22 (0, 0))) := ⟨by rw [HK.out gc HGC.out]; exact HC.out⟩
          have H13 := Aside0.mk (H1.out.keep fun k _ hs => HK.out k hs)
          have H23 := Aside0.mk (H2.out.keep fun k _ hs => HK.out k hs)
          have HO3 := Aside0.mk (kd_R ho3)
          have HB3 := Aside0.mk hB3
          clear ho3 hB3 hG3 HO HC H1 H2 HBR k0 k1
          go_wp2_with fail
          exact ⟨⟨1, _, by omega, rfl, ⟨by simp⟩, ⟨HO3.out⟩, ⟨HC3.out⟩, ⟨H13.out⟩, ⟨H23.out⟩, HB3.out⟩, by simp [intOf]⟩
        · have hx : xs = l1 := HX.out
          subst hx
          go_wp2_with (at_builtin; refine print_append_row (w0 := w) w.heap.size rfl (.tmp 31) (.tmp 32) 22 5 .u8 1 rfl Try.underlying22 info_b8 (by decide) (.slice Ab xs.length cb) xs l2 A2 l2.length c2 rfl rfl (kd_own HO.out) (Kd.reads_of_C (d := (0 : Int)) (H2.out.C (by omega))) HBR.out HBR.out.size (by simp; omega) ?_; intro v3 w3 ho3 hB3 hG3 _)
          have HK : Aside0 (∀ k, k < w.heap.size → w3.heap[k]? = wr.heap[k]?) := ⟨fun k hk => by rw [hB3.block k hk, HBR.out.block k hk]⟩
          have HC3 : Aside0 (w3.heap[gc]? = some (.cells #[.slice A1 xs.length c1, .slice A2 l2.length c2] 22 (0, 0))) := ⟨by rw [HK.out gc HGC.out]; exact HC.out⟩
          have H13 := Aside0.mk (H1.out.keep fun k _ hs => HK.out k hs)
          have H23 := Aside0.mk (H2.out.keep fun k _ hs => HK.out k hs)
          have HO3 := Aside0.mk (kd_R ho3)
          have HB3 := Aside0.mk hB3
          clear ho3 hB3 hG3 HO HC H1 H2 HBR k0 k1
          go_wp2_with fail
          exact ⟨⟨2, _, by omega, rfl, ⟨by simp⟩, ⟨HO3.out⟩, ⟨HC3.out⟩, ⟨H13.out⟩, ⟨H23.out⟩, HB3.out⟩, by simp [intOf]⟩
        · have hx : xs = l1 ++ l2 := HX.out
          go_wp2_with fail
          go_ret
          exact ⟨_, rfl, by rw [← hx]; exact HO.out, HBR.out⟩
end Go.Proofs.Ytckjmbpagippkaa
end

section
-- Written by a program of this session (wip/tools/myprint.py), over the kit's print.
namespace Go.Proofs.Ytckjmbpagippkaa.G
open Go.RowKit Go.Proofs.YtckjmbpagippkaaW.PrintWords Go.Proofs.YtckjmbpagippkaaW.PrintLast Go.Proofs.YtckjmbpagippkaaW.PrintMore
attribute [local go_sem] max2_int min2_int max_two min_two max_three min_three max_four min_four   -- for this text's walks alone
set_option linter.unusedVariables false
set_option linter.unusedSimpArgs false

-- BY HAND
-- IMPORT YtckjmbpagippkaaConcat
-- over: crc_Seal.f
def frame_Make.f (l0 : List Int) : Option (List Int × Int) := if 8192 < l0.length then some ([], 4) else (crc_Seal.f [(l0.length : Int) % 256, (l0.length : Int) / 256]).bind fun h => (crc_Seal.f l0).bind fun t => if h.length ≤ 40000 ∧ t.length ≤ 40000 then some (h ++ t, 0) else none
set_option maxRecDepth 100000 in
set_option maxHeartbeats 2000000 in
theorem frame_Make.calls (A0 : Option Addr) (c0 : Nat) (l0 : List Int) (r1 : List Int) (r2 : Int) (w : World) (hr0 : Kd.C (Kd.int .u8) w A0 l0.length l0) (hc0 : l0.length ≤ c0) (h : frame_Make.f l0 = some (r1, r2)) :
    Calls Try.prog 9 #[.slice A0 l0.length c0] w fun e w' => ∃ v0_ : Value, e = .returned (.tuple #[v0_, .int .i64 r2]) ∧ Kd.R (Kd.int .u8) 5 w' w.heap.size (fun _ => True) v0_ r1 ∧ Below w.heap.size w w' := by
  unfold frame_Make.f at h
  by_cases hbig : 8192 < l0.length
  · rw [if_pos hbig] at h
    obtain ⟨rfl, rfl⟩ := Prod.mk.inj (Option.some.inj h)
    clear h
    go_enter Try.func9, Try.ntmps9
    go_wp2
    go_ret2
    exact ⟨_, rfl, Kd.R_nil _ _ _ _ _, Below.refl _ _⟩
  · rw [if_neg hbig] at h
    obtain ⟨hd, h1, h⟩ := Option.bind_eq_some_iff.mp h
    obtain ⟨tl, h2, h⟩ := Option.bind_eq_some_iff.mp h
    split at h
    · rename_i hlen
      obtain ⟨rfl, rfl⟩ := Prod.mk.inj (Option.some.inj h)
      clear h
      have HR := Aside0.mk (HeldB.low hr0)
      have E1 := Aside0.mk h1
      have E2 := Aside0.mk h2
      have HL := Aside0.mk hlen
      clear hr0 h1 h2 hlen
      have hsmall : l0.length ≤ 8192 := by omega
      go_enter Try.func9, Try.ntmps9
      go_wp2_with fail
      refine (crc_Seal.calls _ _ [(l0.length : Int) % 256, (l0.length : Int) / 256] hd _ (lit_C w 5 .u8 [(l0.length : Int) % 256, (l0.length : Int) / 256] (by simp)) (Nat.le_refl _) E1.out).mono ?_
      rintro e w2 ⟨v2, rfl, hRr, hB⟩
      obtain ⟨Ah, ch, rfl, hch, _, hH, _⟩ := held_own hRr
      have HB2 : Aside0 (Below w.heap.size w w2) := ⟨((Below.refl _ _).alloc (Nat.le_refl _) _).trans (hB.mono (by simp))⟩
      have HR2 := Aside0.mk ((HR.out.below ((Below.refl _ _).alloc (Nat.le_refl _) _)).below hB)
      have HH2 := Aside0.mk (hH.mono (S' := fun k => k < w2.heap.size) (fun k hk => hk.2))
      clear hRr hB hH HR
      go_wp2_with fail
      refine (crc_Seal.calls _ _ l0 tl _ (HR2.out.C (by omega)) hc0 E2.out).mono ?_
      rintro e w3 ⟨v3, rfl, hRr, hB⟩
      obtain ⟨At, ct, rfl, hct, _, hH, _⟩ := held_own hRr
      have HB3 : Aside0 (Below w.heap.size w w3) := ⟨HB2.out.trans (hB.mono HB2.out.size)⟩
      have hs3 := hB.size
      have HH3 := Aside0.mk ((HH2.out.below hB).mono (S' := fun k => k < w3.heap.size) (fun k hk => by omega))
      have HT3 := Aside0.mk (hH.mono (S' := fun k => k < w3.heap.size) (fun k hk => hk.2))
      clear hRr hB hH HR2 HB2 HH2 hs3
      go_wp2_with fail
      have hba := (Below.refl w3.heap.size w3).alloc (Nat.le_refl _) (.cells #[.slice Ah hd.length ch, .slice At tl.length ct] 22)
      have hcell := heap_alloc_new w3 (.cells #[.slice Ah hd.length ch, .slice At tl.length ct] 22)
      refine (concat_two w3.heap.size 2 Ah ch hd At ct tl _ hcell ((HH3.out.below hba).mono (fun k hk => by simp; omega)) ((HT3.out.below hba).mono (fun k hk => by simp; omega)) HL.out.1 HL.out.2).mono ?_
      rintro e w4 ⟨v4, rfl, hRr, hB⟩
      have HB4 : Aside0 (Below w.heap.size w w4) := ⟨(HB3.out.alloc HB3.out.size _).trans (hB.mono (by have := HB3.out.size; simp; omega))⟩
      have hRl := Kd.R_lower hRr (base' := w.heap.size) (by have := HB3.out.size; simp; omega)
      clear hRr hB hba hcell
      go_wp2
      go_ret2
      exact ⟨_, rfl, hRl, HB4.out⟩
    · cases h

end Go.Proofs.Ytckjmbpagippkaa.G
end

section
-- Written by a program of this session (wip/tools/myprint.py), over the kit's print.
namespace Go.Proofs.Ytckjmbpagippkaa.G
open Go.RowKit Go.Proofs.YtckjmbpagippkaaW.PrintWords Go.Proofs.YtckjmbpagippkaaW.PrintLast Go.Proofs.YtckjmbpagippkaaW.PrintMore
attribute [local go_sem] max2_int min2_int max_two min_two max_three min_three max_four min_four   -- for this text's walks alone
set_option linter.unusedVariables false
set_option linter.unusedSimpArgs false

/-! ### bytes_Equal: function 27 -/
def bytes_Equal.f (l0 : List Int) (l1 : List Int) : Option (Bool) := some ((strOfNums l0).toList == (strOfNums l1).toList)
set_option maxHeartbeats 8000000 in
set_option maxRecDepth 100000 in
theorem bytes_Equal.calls (A0 : Option Addr) (c0 : Nat) (l0 : List Int) (A1 : Option Addr) (c1 : Nat) (l1 : List Int) (r : Bool) (w : World) (hr0 : Kd.C (Kd.int .u8) w A0 l0.length l0) (hc0 : l0.length ≤ c0) (hr1 : Kd.C (Kd.int .u8) w A1 l1.length l1) (hc1 : l1.length ≤ c1) (h : bytes_Equal.f l0 l1 = some r) :
    Calls Try.prog 27 #[.slice A0 l0.length c0, .slice A1 l1.length c1] w fun e w' => e = .returned (.bool r) ∧ Drawn0 w w' := by
  have HR0 := Aside0.mk hr0
  have HC0 := Aside0.mk hc0
  clear hr0 hc0
  have HR1 := Aside0.mk hr1
  have HC1 := Aside0.mk hc1
  clear hr1 hc1
  have H : (some ((strOfNums l0).toList == (strOfNums l1).toList)) = some r := h
  clear h
  obtain rfl := Option.some.inj H
  have hcv3 := Kd.C_string (P := Try.prog) (A := A0) (c := c0) Try.underlying22 Try.underlying5 Try.underlying9 HR0.out
  have hcw4 := fun (m_ : Nat) => Kd.C_string (P := Try.prog) (A := A0) (c := c0) Try.underlying22 Try.underlying5 Try.underlying9 (Kd.C_drewN HR0.out m_)
  have hcv5 := Kd.C_string (P := Try.prog) (A := A1) (c := c1) Try.underlying22 Try.underlying5 Try.underlying9 HR1.out
  have hcw6 := fun (m_ : Nat) => Kd.C_string (P := Try.prog) (A := A1) (c := c1) Try.underlying22 Try.underlying5 Try.underlying9 (Kd.C_drewN HR1.out m_)
  go_enter Try.func27, Try.ntmps27
  go_wp2
  go_ret
  exact ⟨by first | rfl | (simp; done) | (simp [*]; done), by repeat (first | exact Drawn0.refl _ | apply Drawn0.step)⟩

end Go.Proofs.Ytckjmbpagippkaa.G
end

section
-- Written by a program of this session (wip/tools/myprint.py), over the kit's print.
namespace Go.Proofs.Ytckjmbpagippkaa.G
open Go.RowKit Go.Proofs.YtckjmbpagippkaaW.PrintWords Go.Proofs.YtckjmbpagippkaaW.PrintLast Go.Proofs.YtckjmbpagippkaaW.PrintMore
attribute [local go_sem] max2_int min2_int max_two min_two max_three min_three max_four min_four   -- for this text's walks alone
set_option linter.unusedVariables false
set_option linter.unusedSimpArgs false

-- BY HAND
def bytes_Clone.f (l0 : List Int) : Option (List Int) := if l0.length ≤ 140737488355328 then some l0 else none
set_option maxRecDepth 100000 in
set_option maxHeartbeats 400000 in
theorem bytes_Clone.calls (A0 : Option Addr) (c0 : Nat) (l0 : List Int) (r : List Int) (w : World) (hr0 : Kd.C (Kd.int .u8) w A0 l0.length l0) (hc0 : l0.length ≤ c0) (h : bytes_Clone.f l0 = some r) :
    Calls Try.prog 28 #[.slice A0 l0.length c0] w fun e w' => ∃ v0_ : Value, e = .returned (v0_) ∧ Kd.R (Kd.int .u8) 5 w' w.heap.size (fun _ => True) v0_ r ∧ Below w.heap.size w w' := by
  have hh := h
  clear h
  unfold bytes_Clone.f at hh
  split at hh
  · rename_i hl
    obtain rfl := Option.some.inj hh
    clear hh
    have HR := Aside0.mk hr0
    clear hr0
    have heq := fun (W : World) (n c : Nat) => Lib.run_eql_slice_nil (P := Try.prog) W 22 5 A0 n c 0 0 Try.underlying22
    have hinfo : (Try.prog.info? 5).map (fun i => (i.zero, i.size, i.bytes)) = some (some (.int .u8 0), 1, 1) := by kernel_rfl
    have Hinfo := Aside0.mk hinfo
    clear hinfo
    cases A0 with
    | none =>
      have h0 : l0 = [] := by
        have h1 := HR.out.2.2
        cases l0 with
        | nil => rfl
        | cons x l => obtain ⟨ad, h2, _⟩ := h1 (by simp); cases h2
      subst h0
      go_enter Try.func28, Try.ntmps28
      go_wp2
      go_ret
      exact ⟨_, rfl, Kd.R_nil _ _ _ _ _, Below.refl _ _⟩
    | some ad =>
      go_enter Try.func28, Try.ntmps28
      go_wp2_with (at_builtin; refine Kd.R_append_rows (Kd.int .u8) (w0 := w) w.heap.size rfl (.tmp 5) (.tmp 6) 22 5 (.int .u8 0) 1 rfl Try.underlying22 Hinfo.out rfl (by decide) (by decide) (.slice (some ⟨w.heap.size, 0, none⟩) 0 0) [] l0 (some ad) l0.length c0 (fun _ => True) (fun _ => False) rfl rfl (kd_R (xs := []) (World.ownsRow_made w #[] 0 (Nat.le_refl _) (by decide) rfl)) (Kd.C_alloc HR.out _) (fun _ _ h => h) (fun _ h => h.elim) (fun _ _ => trivial) ((Below.refl _ _).alloc (Nat.le_refl _) _) (by simp) (by simpa using hl) ?_; intro v1 w1 HO1 hB1 _ _)
      go_ret
      exact ⟨v1, rfl, HO1, hB1⟩
  · cases hh

end Go.Proofs.Ytckjmbpagippkaa.G
end

section
-- Written by a program of this session (wip/tools/myprint.py), over the kit's print.
namespace Go.Proofs.Ytckjmbpagippkaa.G
open Go.RowKit Go.Proofs.YtckjmbpagippkaaW.PrintWords Go.Proofs.YtckjmbpagippkaaW.PrintLast Go.Proofs.YtckjmbpagippkaaW.PrintMore
attribute [local go_sem] max2_int min2_int max_two min_two max_three min_three max_four min_four   -- for this text's walks alone
set_option linter.unusedVariables false
set_option linter.unusedSimpArgs false

/-! ### crc_Open: function 21 -/
def crc_Open.f (l0 : List Int) : Option (List Int × Bool) := if (wrap64 ((l0.length : Int) - 4)) < 0 then (some (([] : List Int), false)) else (if 0 ≤ (wrap64 ((l0.length : Int) - 4)) then (if (wrap64 ((l0.length : Int) - 4)) ≤ (l0.length : Int) then ((crc_Seal.f (l0.take ((wrap64 ((l0.length : Int) - 4)) : Int).toNat)).bind fun t104 => (if (wrap64 ((l0.length : Int) - 4)) ≤ (t104.length : Int) then ((bytes_Equal.f (t104.drop ((wrap64 ((l0.length : Int) - 4)) : Int).toNat) (l0.drop ((wrap64 ((l0.length : Int) - 4)) : Int).toNat)).bind fun t112 => (if t112 = true then ((bytes_Clone.f (l0.take ((wrap64 ((l0.length : Int) - 4)) : Int).toNat)).bind fun t114 => (some (t114, true))) else (some (([] : List Int), false)))) else (none))) else (none)) else (none))
def crc_Open.T2 : Bool × List (List Nat × List Nat) := (true, [([], []), ([0], [0]), ([1], [1]), ([2], [2]), ([2], [2]), ([3, 4, 2], [2, 3, 4]), ([5, 2, 2], [2, 5]), ([2], [2]), ([6, 7, 2], [2, 6, 7]), ([2], [2]), ([2], [2]), ([9, 10, 2], [2, 9, 10]), ([8, 11, 6, 2], [2, 8, 11]), ([12, 2], [2, 12]), ([2, 13], [2, 13])])
def crc_Open.B2 : List Nat := [0, 1, 3, 7, 7, 31, 63, 7, 255, 7, 7, 1543, 4095, 8191, 16383]
theorem crc_Open.tab2 : rtab .any (opsOf Try.f21 2) = crc_Open.T2 := by kernel_rfl
theorem crc_Open.bits2 : waitsOk crc_Open.T2.2 crc_Open.B2 = true := by kernel_rfl
set_option maxHeartbeats 8000000 in
set_option maxRecDepth 100000 in
theorem crc_Open.calls (A0 : Option Addr) (c0 : Nat) (l0 : List Int) (r1 : List Int) (r2 : Bool) (w : World) (hr0 : Kd.C (Kd.int .u8) w A0 l0.length l0) (hc0 : l0.length ≤ c0) (h : crc_Open.f l0 = some (r1, r2)) :
    Calls Try.prog 21 #[.slice A0 l0.length c0] w fun e w' => ∃ v0_ : Value, e = .returned (.tuple #[v0_, .bool r2]) ∧ Kd.R (Kd.int .u8) 5 w' w.heap.size (fun _ => True) v0_ r1 ∧ Below w.heap.size w w' := by
  have HR0 := Aside0.mk hr0
  have HC0 := Aside0.mk hc0
  clear hr0 hc0
  have HB := Aside0.mk (Below.refl w.heap.size w)
  have H : (if (wrap64 ((l0.length : Int) - 4)) < 0 then (some (([] : List Int), false)) else (if 0 ≤ (wrap64 ((l0.length : Int) - 4)) then (if (wrap64 ((l0.length : Int) - 4)) ≤ (l0.length : Int) then ((crc_Seal.f (l0.take ((wrap64 ((l0.length : Int) - 4)) : Int).toNat)).bind fun t104 => (if (wrap64 ((l0.length : Int) - 4)) ≤ (t104.length : Int) then ((bytes_Equal.f (t104.drop ((wrap64 ((l0.length : Int) - 4)) : Int).toNat) (l0.drop ((wrap64 ((l0.length : Int) - 4)) : Int).toNat)).bind fun t112 => (if t112 = true then ((bytes_Clone.f (l0.take ((wrap64 ((l0.length : Int) - 4)) : Int).toNat)).bind fun t114 => (some (t114, true))) else (some (([] : List Int), false)))) else (none))) else (none)) else (none))) = some (r1, r2) := h
  clear h
  by_cases c2 : (wrap64 ((l0.length : Int) - 4)) < 0
  · rw [if_pos c2] at H
    have c2b0 : decide ((wrap64 ((l0.length : Int) - 4)) < 0) = true := decide_eq_true c2
    clear c2
    simp only [Option.some.injEq, Prod.mk.injEq] at H
    obtain ⟨rfl, rfl⟩ := H
    go_enter Try.func21, Try.ntmps21
    try go_wp2
    have n0_ := Aside0.mk (below_drew1 HB.out)
    clear HB
    have HB := n0_
    clear n0_
    refine start_ (n := 15) (S := fun w' => True) (ds := []) #[false, false, false, false, false, false, false, false, false, false, false, false, false, false, false] (by kernel_rfl) rfl rfl trivial (fun hHeld => ?_); refine with_tabW crc_Open.tab2 crc_Open.bits2 (fun HT_ HW_ => ?_)
    generalize w.drew = w3 at HB hHeld ⊢
    refine pure_ (i := 0) (N := some 8) (v := ?_) (a' := ?_) #[true, false, false, false, false, false, false, false, false, false, false, false, false, false, false] rfl rfl (any_of HT_.out (by kernel_rfl)) (fun _ _ _ h => h) (Or.inl ⟨by rfl, ?_⟩) ?_ ?_
    rotate_left
    · intro w'
      go_simp
      with_reducible rfl
    rotate_left
    · simp only [Act.put, List.setIfInBounds_toArray, List.set_cons_zero, List.set_cons_succ, i64_w, i32_w]
      rfl
    refine pure_ (i := 1) (N := some 9) (v := ?_) (a' := ?_) #[true, true, false, false, false, false, false, false, false, false, false, false, false, false, false] rfl rfl (any_of HT_.out (by kernel_rfl)) (fun _ _ _ h => h) (Or.inl ⟨by rfl, ?_⟩) ?_ ?_
    rotate_left
    · intro w'
      go_simp
      with_reducible rfl
    rotate_left
    · simp only [Act.put, List.setIfInBounds_toArray, List.set_cons_zero, List.set_cons_succ, i64_w, i32_w]
      rfl
    refine pure_ (i := 2) (N := some 10) (v := ?_) (a' := ?_) #[true, true, true, false, false, false, false, false, false, false, false, false, false, false, false] rfl rfl (any_of HT_.out (by kernel_rfl)) (fun _ _ _ h => h) (Or.inl ⟨by rfl, ?_⟩) ?_ ?_
    rotate_left
    · intro w'
      go_simp
      with_reducible rfl
    rotate_left
    · simp only [Act.put, List.setIfInBounds_toArray, List.set_cons_zero, List.set_cons_succ, i64_w, i32_w]
      rfl
    refine pure_ (i := 3) (N := some 11) (v := undef) (a' := ?_) #[true, true, true, true, false, false, false, false, false, false, false, false, false, false, false] rfl rfl (any_of HT_.out (by kernel_rfl)) (fun _ _ _ h => h) (Or.inr ⟨by rfl, rfl⟩) ?_ ?_
    rotate_left
    · simp only [Act.put, List.setIfInBounds_toArray, List.set_cons_zero, List.set_cons_succ, i64_w, i32_w]
      rfl
    refine pure_ (i := 4) (N := some 12) (v := undef) (a' := ?_) #[true, true, true, true, true, false, false, false, false, false, false, false, false, false, false] rfl rfl (any_of HT_.out (by kernel_rfl)) (fun _ _ _ h => h) (Or.inr ⟨by rfl, rfl⟩) ?_ ?_
    rotate_left
    · simp only [Act.put, List.setIfInBounds_toArray, List.set_cons_zero, List.set_cons_succ, i64_w, i32_w]
      rfl
    refine pure_ (i := 5) (N := some 13) (v := undef) (a' := ?_) #[true, true, true, true, true, true, false, false, false, false, false, false, false, false, false] rfl rfl (any_of HT_.out (by kernel_rfl)) (fun _ _ _ h => h) (Or.inr ⟨by rfl, rfl⟩) ?_ ?_
    rotate_left
    · simp only [Act.put, List.setIfInBounds_toArray, List.set_cons_zero, List.set_cons_succ, i64_w, i32_w]
      rfl
    refine pure_ (i := 6) (N := some 14) (v := undef) (a' := ?_) #[true, true, true, true, true, true, true, false, false, false, false, false, false, false, false] rfl rfl (any_of HT_.out (by kernel_rfl)) (fun _ _ _ h => h) (Or.inr ⟨by rfl, rfl⟩) ?_ ?_
    rotate_left
    · simp only [Act.put, List.setIfInBounds_toArray, List.set_cons_zero, List.set_cons_succ, i64_w, i32_w]
      rfl
    refine pure_ (i := 7) (N := some 15) (v := undef) (a' := ?_) #[true, true, true, true, true, true, true, true, false, false, false, false, false, false, false] rfl rfl (any_of HT_.out (by kernel_rfl)) (fun _ _ _ h => h) (Or.inr ⟨by rfl, rfl⟩) ?_ ?_
    rotate_left
    · simp only [Act.put, List.setIfInBounds_toArray, List.set_cons_zero, List.set_cons_succ, i64_w, i32_w]
      rfl
    refine pure_ (i := 8) (N := some 16) (v := undef) (a' := ?_) #[true, true, true, true, true, true, true, true, true, false, false, false, false, false, false] rfl rfl (any_of HT_.out (by kernel_rfl)) (fun _ _ _ h => h) (Or.inr ⟨by rfl, rfl⟩) ?_ ?_
    rotate_left
    · simp only [Act.put, List.setIfInBounds_toArray, List.set_cons_zero, List.set_cons_succ, i64_w, i32_w]
      rfl
    refine pure_ (i := 9) (N := some 17) (v := undef) (a' := ?_) #[true, true, true, true, true, true, true, true, true, true, false, false, false, false, false] rfl rfl (any_of HT_.out (by kernel_rfl)) (fun _ _ _ h => h) (Or.inr ⟨by rfl, rfl⟩) ?_ ?_
    rotate_left
    · simp only [Act.put, List.setIfInBounds_toArray, List.set_cons_zero, List.set_cons_succ, i64_w, i32_w]
      rfl
    refine pure_ (i := 10) (N := some 18) (v := undef) (a' := ?_) #[true, true, true, true, true, true, true, true, true, true, true, false, false, false, false] rfl rfl (any_of HT_.out (by kernel_rfl)) (fun _ _ _ h => h) (Or.inr ⟨by rfl, rfl⟩) ?_ ?_
    rotate_left
    · simp only [Act.put, List.setIfInBounds_toArray, List.set_cons_zero, List.set_cons_succ, i64_w, i32_w]
      rfl
    refine pure_ (i := 11) (N := some 19) (v := undef) (a' := ?_) #[true, true, true, true, true, true, true, true, true, true, true, true, false, false, false] rfl rfl (any_of HT_.out (by kernel_rfl)) (fun _ _ _ h => h) (Or.inr ⟨by rfl, rfl⟩) ?_ ?_
    rotate_left
    · simp only [Act.put, List.setIfInBounds_toArray, List.set_cons_zero, List.set_cons_succ, i64_w, i32_w]
      rfl
    refine pure_ (i := 12) (N := some 20) (v := undef) (a' := ?_) #[true, true, true, true, true, true, true, true, true, true, true, true, true, false, false] rfl rfl (any_of HT_.out (by kernel_rfl)) (fun _ _ _ h => h) (Or.inr ⟨by rfl, rfl⟩) ?_ ?_
    rotate_left
    · simp only [Act.put, List.setIfInBounds_toArray, List.set_cons_zero, List.set_cons_succ, i64_w, i32_w]
      rfl
    refine pure_ (i := 13) (N := some 21) (v := undef) (a' := ?_) #[true, true, true, true, true, true, true, true, true, true, true, true, true, true, false] rfl rfl (any_of HT_.out (by kernel_rfl)) (fun _ _ _ h => h) (Or.inr ⟨by rfl, rfl⟩) ?_ ?_
    rotate_left
    · simp only [Act.put, List.setIfInBounds_toArray, List.set_cons_zero, List.set_cons_succ, i64_w, i32_w]
      rfl
    refine pure_ (i := 14) (N := some 22) (v := ?_) (a' := ?_) #[true, true, true, true, true, true, true, true, true, true, true, true, true, true, true] rfl rfl (any_of HT_.out (by kernel_rfl)) (fun _ _ _ h => h) (Or.inl ⟨by rfl, ?_⟩) ?_ ?_
    rotate_left
    · intro w'
      go_simp
      with_reducible rfl
    rotate_left
    · simp only [Act.put, List.setIfInBounds_toArray, List.set_cons_zero, List.set_cons_succ, i64_w, i32_w]
      rfl
    refine done_ (done_of HT_.out (by kernel_rfl)) ?_
    try go_wp2
    go_ret2
    exact ⟨_, by first | rfl | (simp [errW_none, errW_some] <;> rfl) | (simp [*, errW_none, errW_some] <;> rfl), by first | exact Kd.R_nil _ _ _ _ _ | exact Kd.N_nil _ _ _ _ _ | exact Kd.V_nil _ _ _ _ _ | exact Kd.Q_nil _ _ _ _ _ | exact Kd.S_nil _ _ _ _ _, by repeat (first | (with_reducible first | exact HB.out | apply below_alloc | apply pw_below_drewN | apply below_drew1) | exact HB.out)⟩
  · rw [if_neg c2] at H
    have c2b0 : decide ((wrap64 ((l0.length : Int) - 4)) < 0) = false := decide_eq_false c2
    clear c2
    obtain ⟨ji4, hji4⟩ : ∃ j_ : Int, (wrap64 ((l0.length : Int) - 4)) = j_ := ⟨_, rfl⟩
    replace H : (if 0 ≤ (ji4) then (if (ji4) ≤ (l0.length : Int) then ((crc_Seal.f (l0.take ((ji4) : Int).toNat)).bind fun t104 => (if (ji4) ≤ (t104.length : Int) then ((bytes_Equal.f (t104.drop ((ji4) : Int).toNat) (l0.drop ((ji4) : Int).toNat)).bind fun t112 => (if t112 = true then ((bytes_Clone.f (l0.take ((ji4) : Int).toNat)).bind fun t114 => (some (t114, true))) else (some (([] : List Int), false)))) else (none))) else (none)) else (none)) = some (r1, r2) := by first | (rw [hji4] at H; exact H) | (simp only [hji4] at H ⊢; exact H)
    (try rw [hji4] at c2b0)
    have hji4w : (IntKind.i64.wrap ((l0.length : Int) - 4)) = ji4 := (i64_w _).trans hji4
    by_cases c5 : 0 ≤ (ji4)
    · rw [if_pos c5] at H
      have c5b0 := eq_true c5
      have c5b1 : decide (0 ≤ (ji4)) = true := decide_eq_true c5
      clear c5
      by_cases c6 : (ji4) ≤ (l0.length : Int)
      · rw [if_pos c6] at H
        have c6b0 := eq_true c6
        have c6b1 : decide ((ji4) ≤ (l0.length : Int)) = true := decide_eq_true c6
        clear c6
        replace H := Option.bind_eq_some_iff.mp H
        obtain ⟨t104, A70, H⟩ := H
        replace H : (if (ji4) ≤ (t104.length : Int) then ((bytes_Equal.f (t104.drop ((ji4) : Int).toNat) (l0.drop ((ji4) : Int).toNat)).bind fun t112 => (if t112 = true then ((bytes_Clone.f (l0.take ((ji4) : Int).toNat)).bind fun t114 => (some (t114, true))) else (some (([] : List Int), false)))) else (none)) = some (r1, r2) := H
        have A7 := Aside0.mk A70
        clear A70
        have c8b0 := eq_true (of_decide_eq_true (by first | (with_reducible assumption) | assumption) : 0 ≤ (ji4))
        by_cases c9 : (ji4) ≤ (t104.length : Int)
        · rw [if_pos c9] at H
          have c9b0 := eq_true c9
          have c9b1 : decide ((ji4) ≤ (t104.length : Int)) = true := decide_eq_true c9
          clear c9
          obtain ⟨y107, hy107⟩ : ∃ y_ : List Int, y_ = (t104.drop ((ji4) : Int).toNat) := ⟨_, rfl⟩
          replace H : ((bytes_Equal.f y107 (l0.drop ((ji4) : Int).toNat)).bind fun t112 => (if t112 = true then ((bytes_Clone.f (l0.take ((ji4) : Int).toNat)).bind fun t114 => (some (t114, true))) else (some (([] : List Int), false)))) = some (r1, r2) := by first | (rw [hy107]; with_reducible exact H) | (have H2_ := (Option.bind_some _ _).symm.trans H; rw [hy107]; with_reducible exact H2_) | (have H2_ := (Option.bind_some _ _).symm.trans H; with_reducible exact H2_) | with_reducible exact H | (rw [hy107]; exact H) | exact H
          have Ny107 := Aside0.mk hy107
          clear hy107
          have c10b0 := eq_true (of_decide_eq_true (by first | (with_reducible assumption) | assumption) : 0 ≤ (ji4))
          have c11b0 := eq_true (of_decide_eq_true (by first | (with_reducible assumption) | assumption) : (ji4) ≤ (l0.length : Int))
          replace H := Option.bind_eq_some_iff.mp H
          obtain ⟨t112, A120, H⟩ := H
          replace H : (if t112 = true then ((bytes_Clone.f (l0.take ((ji4) : Int).toNat)).bind fun t114 => (some (t114, true))) else (some (([] : List Int), false))) = some (r1, r2) := H
          have A12 := Aside0.mk A120
          clear A120
          by_cases c13 : t112 = true
          · subst c13
            have H1 : ((bytes_Clone.f (l0.take ((ji4) : Int).toNat)).bind fun t114 => (some (t114, true))) = some (r1, r2) := by rw [if_pos rfl] at H; exact H
            clear H
            have H := H1
            clear H1
            have c14b0 := eq_true (of_decide_eq_true (by first | (with_reducible assumption) | assumption) : 0 ≤ (ji4))
            have c15b0 := eq_true (of_decide_eq_true (by first | (with_reducible assumption) | assumption) : (ji4) ≤ (l0.length : Int))
            replace H := Option.bind_eq_some_iff.mp H
            obtain ⟨t114, A160, H⟩ := H
            replace H : (some (t114, true)) = some (r1, r2) := H
            have A16 := Aside0.mk A160
            clear A160
            simp only [Option.some.injEq, Prod.mk.injEq] at H
            obtain ⟨rfl, rfl⟩ := H
            go_enter Try.func21, Try.ntmps21
            try go_wp2
            have n0_ := Aside0.mk (below_drew1 HB.out)
            clear HB
            have HB := n0_
            clear n0_
            obtain ⟨i018, hi018, _, hsz18, _⟩ := info_parts info5
            obtain ⟨hcut18, hA18, hC18⟩ := print_take_of (P := Try.prog) (Value.int .u8) 0 22 5 .i64 Try.underlying22 hi018 hsz18 A0 c0 l0 (ji4) (of_decide_eq_true (by first | (with_reducible assumption) | assumption)) (of_decide_eq_true (by first | (with_reducible assumption) | assumption)) HC0.out
            have HR103 := Aside0.mk (Kd.C_of_reads (h1 := fun _ => rfl) (hA18 _ (Kd.reads_of_C HR0.out)))
            have HC103 := Aside0.mk hC18
            clear hA18 hC18 hi018 hsz18
            obtain ⟨i019, hi019, _, hsz19, _⟩ := info_parts info5
            obtain ⟨A19, hcut19, hA19, hC19⟩ := print_drop_of (P := Try.prog) (Value.int .u8) 0 22 5 .i64 Try.underlying22 hi019 hsz19 A0 c0 l0 (ji4) (of_decide_eq_true (by first | (with_reducible assumption) | assumption)) (of_decide_eq_true (by first | (with_reducible assumption) | assumption)) HC0.out
            have HR111 := Aside0.mk (Kd.C_of_reads (h1 := fun _ => rfl) (hA19 _ (Kd.reads_of_C HR0.out)))
            have HC111 := Aside0.mk hC19
            clear hA19 hC19 hi019 hsz19
            refine start_ (n := 15) (S := fun w' => True) (ds := []) #[false, false, false, false, false, false, false, false, false, false, false, false, false, false, false] (by kernel_rfl) rfl rfl trivial (fun hHeld => ?_); refine with_tabW crc_Open.tab2 crc_Open.bits2 (fun HT_ HW_ => ?_)
            generalize w.drew = w17 at HB HR103 HR111 hHeld ⊢
            refine pure_ (i := 0) (N := some 8) (v := ?_) (a' := ?_) #[true, false, false, false, false, false, false, false, false, false, false, false, false, false, false] rfl rfl (any_of HT_.out (by kernel_rfl)) (fun _ _ _ h => h) (Or.inl ⟨by rfl, ?_⟩) ?_ ?_
            rotate_left
            · intro w'
              go_simp
              with_reducible rfl
            rotate_left
            · simp only [Act.put, List.setIfInBounds_toArray, List.set_cons_zero, List.set_cons_succ, i64_w, i32_w]
              rfl
            refine pure_ (i := 1) (N := some 9) (v := ?_) (a' := ?_) #[true, true, false, false, false, false, false, false, false, false, false, false, false, false, false] rfl rfl (any_of HT_.out (by kernel_rfl)) (fun _ _ _ h => h) (Or.inl ⟨by rfl, ?_⟩) ?_ ?_
            rotate_left
            · intro w'
              go_simp
              with_reducible rfl
            rotate_left
            · simp only [Act.put, List.setIfInBounds_toArray, List.set_cons_zero, List.set_cons_succ, i64_w, i32_w]
              rfl
            refine pure_ (i := 2) (N := some 10) (v := ?_) (a' := ?_) #[true, true, true, false, false, false, false, false, false, false, false, false, false, false, false] rfl rfl (any_of HT_.out (by kernel_rfl)) (fun _ _ _ h => h) (Or.inl ⟨by rfl, ?_⟩) ?_ ?_
            rotate_left
            · intro w'
              go_simp
              with_reducible rfl
            rotate_left
            · simp only [Act.put, List.setIfInBounds_toArray, List.set_cons_zero, List.set_cons_succ, i64_w, i32_w]
              rfl
            refine pure_ (i := 3) (N := some 11) (v := ?_) (a' := ?_) #[true, true, true, true, false, false, false, false, false, false, false, false, false, false, false] rfl rfl (any_of HT_.out (by kernel_rfl)) (fun _ _ _ h => h) (Or.inl ⟨by rfl, ?_⟩) ?_ ?_
            rotate_left
            · intro w'
              go_simp
              with_reducible rfl
            rotate_left
            · simp only [Act.put, List.setIfInBounds_toArray, List.set_cons_zero, List.set_cons_succ, i64_w, i32_w]
              rfl
            refine pure_ (i := 4) (N := some 12) (v := ?_) (a' := ?_) #[true, true, true, true, true, false, false, false, false, false, false, false, false, false, false] rfl rfl (any_of HT_.out (by kernel_rfl)) (fun _ _ _ h => h) (Or.inl ⟨by rfl, ?_⟩) ?_ ?_
            rotate_left
            · intro w'
              go_simp
              with_reducible rfl
            rotate_left
            · simp only [Act.put, List.setIfInBounds_toArray, List.set_cons_zero, List.set_cons_succ, i64_w, i32_w]
              rfl
            refine pure_ (i := 5) (N := some 13) (v := ?_) (a' := ?_) #[true, true, true, true, true, true, false, false, false, false, false, false, false, false, false] rfl rfl (any_of HT_.out (by kernel_rfl)) (fun _ _ _ h => h) (Or.inl ⟨by rfl, ?_⟩) ?_ ?_
            rotate_left
            · intro w'
              go_simp
              with_reducible rfl
            rotate_left
            · simp only [Act.put, List.setIfInBounds_toArray, List.set_cons_zero, List.set_cons_succ, i64_w, i32_w]
              rfl
            refine pure_ (i := 7) (N := some 15) (v := ?_) (a' := ?_) #[true, true, true, true, true, true, false, true, false, false, false, false, false, false, false] rfl rfl (any_of HT_.out (by kernel_rfl)) (fun _ _ _ h => h) (Or.inl ⟨by rfl, ?_⟩) ?_ ?_
            rotate_left
            · intro w'
              go_simp
              with_reducible rfl
            rotate_left
            · simp only [Act.put, List.setIfInBounds_toArray, List.set_cons_zero, List.set_cons_succ, i64_w, i32_w]
              rfl
            refine pure_ (i := 9) (N := some 17) (v := ?_) (a' := ?_) #[true, true, true, true, true, true, false, true, false, true, false, false, false, false, false] rfl rfl (any_of HT_.out (by kernel_rfl)) (fun _ _ _ h => h) (Or.inl ⟨by rfl, ?_⟩) ?_ ?_
            rotate_left
            · intro w'
              go_simp
              with_reducible rfl
            rotate_left
            · simp only [Act.put, List.setIfInBounds_toArray, List.set_cons_zero, List.set_cons_succ, i64_w, i32_w]
              rfl
            refine pure_ (i := 10) (N := some 18) (v := ?_) (a' := ?_) #[true, true, true, true, true, true, false, true, false, true, true, false, false, false, false] rfl rfl (any_of HT_.out (by kernel_rfl)) (fun _ _ _ h => h) (Or.inl ⟨by rfl, ?_⟩) ?_ ?_
            rotate_left
            · intro w'
              go_simp
              with_reducible rfl
            rotate_left
            · simp only [Act.put, List.setIfInBounds_toArray, List.set_cons_zero, List.set_cons_succ, i64_w, i32_w]
              rfl
            refine pure_ (i := 11) (N := some 19) (v := ?_) (a' := ?_) #[true, true, true, true, true, true, false, true, false, true, true, true, false, false, false] rfl rfl (any_of HT_.out (by kernel_rfl)) (fun _ _ _ h => h) (Or.inl ⟨by rfl, ?_⟩) ?_ ?_
            rotate_left
            · intro w'
              go_simp
              with_reducible rfl
            rotate_left
            · simp only [Act.put, List.setIfInBounds_toArray, List.set_cons_zero, List.set_cons_succ, i64_w, i32_w]
              rfl
            refine one_ (i := 6) (N := some 14) #[true, true, true, true, true, true, true, true, false, true, true, true, false, false, false] rfl rfl (one_of HT_.out (by kernel_rfl)) (by decide) (fun K hK => ?_)
            refine goes_ Try.func19 (by kernel_rfl) rfl #[.slice A0 (l0.take ((ji4) : Int).toNat).length c0] (by rfl) rfl rfl (by (try simp only [List.map_toArray, List.map_cons, List.map_nil]); first | done | (rw [show (l0.take ((ji4) : Int).toNat).length = (ji4).toNat from (by rw [List.length_take]; have h_ : ((ji4) : Int) ≤ (l0.length : Int) := of_decide_eq_true (by first | (with_reducible assumption) | assumption); omega)] <;> rfl) | (simp only [hji4]; rfl) | rfl | (simp only [List.length_drop, List.length_take]; rfl)) ?_
            with_reducible refine (crc_Seal.calls _ _ (l0.take ((ji4) : Int).toNat) t104 _ ?side1 ?side2 A7.out).mono ?_
            (case side1 => repeat (first | exact (Kd.C_below HR103.out HB.out) | (with_reducible refine Kd.C_alloc ?_ _) | (with_reducible refine Kd.C_drewN ?_ _) | (with_reducible refine Kd.C_drew ?_)))
            (case side2 => exact HC103.out)
            rintro e w20 ⟨v105, rfl, ho0, hb⟩
            refine ⟨_, rfl, ?_⟩
            have n0_ := Aside0.mk (Kd.R_lower ho0 (below_size (by repeat (first | (with_reducible first | exact HB.out | apply below_alloc | apply pw_below_drewN | apply below_drew1) | exact HB.out))))
            have n1_ := Aside0.mk (below_step (by repeat (first | (with_reducible first | exact HB.out | apply below_alloc | apply pw_below_drewN | apply below_drew1) | exact HB.out)) hb)
            clear HB
            have HO106 := n0_
            have HB := n1_
            clear n0_ n1_
            (try clear hb)
            (try clear hb2)
            (try clear hk)
            (try clear hi)
            (try clear ho0)
            obtain ⟨Ao22, co22, eo22⟩ := Kd.R_slice HO106.out
            (first | subst eo22 | (injection eo22 with f1_ f2_ f3_; have f4_ := f1_.symm; have f5_ := f3_.symm; clear f1_ f2_ f3_; subst f4_; subst f5_))
            have q21 : ((ji4) : Int) ≤ ((t104.length : Int) : Int) := of_decide_eq_true (by first | (with_reducible assumption) | assumption)
            obtain ⟨i021, hi021, _, hsz21, _⟩ := info_parts info5
            have hroom21 : t104.length ≤ co22 := (Kd.R_reads' HO106.out).2.1
            have hC21 : Kd.C (Kd.int .u8) _ Ao22 t104.length t104 := (Kd.R_reads' HO106.out).2.2
            have q021 : (0 : Int) ≤ ((ji4) : Int) := of_decide_eq_true (by first | (with_reducible assumption) | assumption)
            have hcut21 := cut_from (P := Try.prog) 22 5 .i64 Try.underlying22 hi021 1 hsz21 Ao22 t104.length co22 (ji4) q021 q21
            have hr21 := Kd.C_drop (m := ((ji4) : Int).toNat) (c := co22) hC21 (by omega) hroom21
            obtain ⟨A21, hA21⟩ : ∃ A1, A1 = (if co22 = ((ji4) : Int).toNat then Ao22 else (Ao22 : Option Addr).map (·.add (((ji4) : Int).toNat * 1))) := ⟨_, rfl⟩
            obtain ⟨c21, hc21⟩ : ∃ c1, c1 = co22 - ((ji4) : Int).toNat := ⟨_, rfl⟩
            have hy21 : y107.length = t104.length - ((ji4) : Int).toNat := (by rw [Ny107.out, List.length_drop] <;> omega)
            rw [show (t104).drop ((ji4) : Int).toNat = y107 from Ny107.out.symm] at hr21
            replace hr21 : Kd.C (Kd.int .u8) _ A21 y107.length y107 := (by rw [hA21]; exact hr21)
            rw [← hy21, ← hA21, ← hc21] at hcut21
            have HR110 := Aside0.mk hr21
            have HC110 := Aside0.mk (show y107.length ≤ c21 from by rw [hy21, hc21]; exact Nat.sub_le_sub_right hroom21 _)
            clear hr21 hC21 hroom21 hi021 hsz21 hc21
            have KY21 := Aside0.mk hy21
            have KA21 := Aside0.mk hA21
            clear hy21 hA21
            have KL21 := Aside0.mk (show ((ji4) : Int).toNat ≤ t104.length from by omega)
            replace q21 := eq_true q21
            refine hK.out _ _ trivial (fun hHeld => ?_)
            clear hK K
            refine norm_ (a' := ?_) ?_ ?_
            rotate_left
            · show Act.put _ (some 14) _ = _
              simp only [Act.put, List.setIfInBounds_toArray, List.set_cons_zero, List.set_cons_succ, i64_w, i32_w]
              rfl
            refine pure_ (i := 8) (N := some 16) (v := ?_) (a' := ?_) #[true, true, true, true, true, true, true, true, true, true, true, true, false, false, false] rfl rfl (any_of HT_.out (by kernel_rfl)) (fun _ _ _ h => h) (Or.inl ⟨by rfl, ?_⟩) ?_ ?_
            rotate_left
            · intro w'
              go_simp
              with_reducible rfl
            rotate_left
            · simp only [Act.put, List.setIfInBounds_toArray, List.set_cons_zero, List.set_cons_succ, i64_w, i32_w]
              rfl
            refine one_ (i := 12) (N := some 20) #[true, true, true, true, true, true, true, true, true, true, true, true, true, false, false] rfl rfl (one_of HT_.out (by kernel_rfl)) (by decide) (fun K hK => ?_)
            refine goes_ Try.func27 (by kernel_rfl) rfl #[.slice A21 y107.length c21, .slice A19 (l0.drop ((ji4) : Int).toNat).length (c0 - (ji4).toNat)] (by rfl) rfl rfl (by (try simp only [List.map_toArray, List.map_cons, List.map_nil]); first | done | (rw [show (l0.drop ((ji4) : Int).toNat).length = (l0.length - (ji4).toNat) from List.length_drop] <;> rfl) | (simp only [hji4]; rfl) | rfl | (simp only [List.length_drop, List.length_take]; rfl)) ?_
            with_reducible refine (bytes_Equal.calls _ _ y107 _ _ (l0.drop ((ji4) : Int).toNat) true _ ?side1 ?side2 ?side3 ?side4 A12.out).mono ?_
            (case side1 => repeat (first | exact (by repeat (first | (with_reducible exact HR110.out) | (with_reducible refine Kd.C_alloc ?_ _) | (with_reducible refine Kd.C_drewN ?_ _) | (with_reducible refine Kd.C_drew ?_) | exact HR110.out)) | (with_reducible refine Kd.C_alloc ?_ _) | (with_reducible refine Kd.C_drewN ?_ _) | (with_reducible refine Kd.C_drew ?_)))
            (case side2 => exact HC110.out)
            (case side3 => repeat (first | exact (Kd.C_below HR111.out HB.out) | (with_reducible refine Kd.C_alloc ?_ _) | (with_reducible refine Kd.C_drewN ?_ _) | (with_reducible refine Kd.C_drew ?_)))
            (case side4 => exact HC111.out)
            rintro e w' ⟨rfl, ⟨nd, rfl⟩⟩
            refine ⟨_, rfl, ?_⟩
            refine hK.out _ _ trivial (fun hHeld => ?_)
            clear hK K
            refine norm_ (a' := ?_) ?_ ?_
            rotate_left
            · show Act.put _ (some 20) _ = _
              simp only [Act.put, List.setIfInBounds_toArray, List.set_cons_zero, List.set_cons_succ, i64_w, i32_w]
              rfl
            refine pure_ (i := 13) (N := some 21) (v := ?_) (a' := ?_) #[true, true, true, true, true, true, true, true, true, true, true, true, true, true, false] rfl rfl (any_of HT_.out (by kernel_rfl)) (fun _ _ _ h => h) (Or.inl ⟨by rfl, ?_⟩) ?_ ?_
            rotate_left
            · intro w'
              go_simp
              with_reducible rfl
            rotate_left
            · simp only [Act.put, List.setIfInBounds_toArray, List.set_cons_zero, List.set_cons_succ, i64_w, i32_w]
              rfl
            refine pure_ (i := 14) (N := some 22) (v := ?_) (a' := ?_) #[true, true, true, true, true, true, true, true, true, true, true, true, true, true, true] rfl rfl (any_of HT_.out (by kernel_rfl)) (fun _ _ _ h => h) (Or.inl ⟨by rfl, ?_⟩) ?_ ?_
            rotate_left
            · intro w'
              go_simp
              with_reducible rfl
            rotate_left
            · simp only [Act.put, List.setIfInBounds_toArray, List.set_cons_zero, List.set_cons_succ, i64_w, i32_w]
              rfl
            refine done_ (done_of HT_.out (by kernel_rfl)) ?_
            obtain ⟨i023, hi023, _, hsz23, _⟩ := info_parts info5
            obtain ⟨hcut23, hA23, hC23⟩ := print_take_of (P := Try.prog) (Value.int .u8) 0 22 5 .i64 Try.underlying22 hi023 hsz23 A0 c0 l0 (ji4) (of_decide_eq_true (by first | (with_reducible assumption) | assumption)) (of_decide_eq_true (by first | (with_reducible assumption) | assumption)) HC0.out
            have HR113 := Aside0.mk (Kd.C_of_reads (h1 := fun _ => rfl) (hA23 _ (Kd.reads_of_C HR0.out)))
            have HC113 := Aside0.mk hC23
            clear hA23 hC23 hi023 hsz23
            try go_wp2_with (first | ((with_reducible refine gate_callee (f := 28) rfl ?_); refine goesL_ (some 26) rfl rfl Try.func28 (by kernel_rfl) rfl #[.slice A0 (l0.take ((ji4) : Int).toNat).length c0] rfl (by (try simp only [List.map_toArray, List.map_cons, List.map_nil]); first | done | (rw [show (l0.take ((ji4) : Int).toNat).length = (ji4).toNat from (by rw [List.length_take]; have h_ : ((ji4) : Int) ≤ (l0.length : Int) := of_decide_eq_true (by first | (with_reducible assumption) | assumption); omega)] <;> rfl) | (simp only [hji4]; rfl) | rfl | (simp only [List.length_drop, List.length_take]; rfl)) ?_; (with_reducible refine (bytes_Clone.calls _ _ (l0.take ((ji4) : Int).toNat) t114 _ ?side1 ?side2 A16.out).mono ?_); (case side1 => repeat (first | exact (Kd.C_below HR113.out (by repeat (first | (with_reducible first | exact HB.out | apply below_alloc | apply pw_below_drewN | apply below_drew1) | exact HB.out))) | (with_reducible refine Kd.C_alloc ?_ _) | (with_reducible refine Kd.C_drewN ?_ _) | (with_reducible refine Kd.C_drew ?_))); (case side2 => exact HC113.out); rintro e w24 ⟨v115, rfl, ho0, hb⟩; refine ⟨_, rfl, ?_⟩; have n0_ := Aside0.mk (Kd.R_elder' (by (with_reducible repeat (first | apply Kd.R_alloc | apply Kd.R_drewN | apply Kd.R_drew)); exact HO106.out) (Kd.R_base ho0) hb); have n1_ := Aside0.mk (Kd.R_lower (Kd.R_new' ho0 (Kd.R_lt (by (with_reducible repeat (first | apply Kd.R_alloc | apply Kd.R_drewN | apply Kd.R_drew)); exact HO106.out))) (below_size (by repeat (first | (with_reducible first | exact HB.out | apply below_alloc | apply pw_below_drewN | apply below_drew1) | exact HB.out)))); have n2_ := Aside0.mk (Kd.C_below (by repeat (first | (with_reducible exact HR110.out) | (with_reducible refine Kd.C_alloc ?_ _) | (with_reducible refine Kd.C_drewN ?_ _) | (with_reducible refine Kd.C_drew ?_) | exact HR110.out)) hb); have n3_ := Aside0.mk (below_step (by repeat (first | (with_reducible first | exact HB.out | apply below_alloc | apply pw_below_drewN | apply below_drew1) | exact HB.out)) hb); clear HO106; clear HR110; clear HB; have HO106 := n0_; have HO116 := n1_; have HR110 := n2_; have HB := n3_; clear n0_ n1_ n2_ n3_; (try clear hb); (try clear hb2); (try clear hk); (try clear hi); (try clear ho0)))
            go_ret2
            exact ⟨_, by first | rfl | (simp [errW_none, errW_some] <;> rfl) | (simp only [← hji4]; first | rfl | (simp [errW_none, errW_some] <;> rfl)) | (simp [*, errW_none, errW_some] <;> rfl), by (with_reducible repeat (first | apply Kd.R_alloc | apply Kd.R_drewN | apply Kd.R_drew)); exact Kd.R_mono HO116.out (fun _ hk => trivial), by repeat (first | (with_reducible first | exact HB.out | apply below_alloc | apply pw_below_drewN | apply below_drew1) | exact HB.out)⟩
          · replace c13 := Bool.eq_false_iff.mpr c13
            subst c13
            have H1 : (some (([] : List Int), false)) = some (r1, r2) := by rw [if_neg (show ¬ (false = true) by decide)] at H; exact H
            clear H
            have H := H1
            clear H1
            simp only [Option.some.injEq, Prod.mk.injEq] at H
            obtain ⟨rfl, rfl⟩ := H
            go_enter Try.func21, Try.ntmps21
            try go_wp2
            have n0_ := Aside0.mk (below_drew1 HB.out)
            clear HB
            have HB := n0_
            clear n0_
            obtain ⟨i026, hi026, _, hsz26, _⟩ := info_parts info5
            obtain ⟨hcut26, hA26, hC26⟩ := print_take_of (P := Try.prog) (Value.int .u8) 0 22 5 .i64 Try.underlying22 hi026 hsz26 A0 c0 l0 (ji4) (of_decide_eq_true (by first | (with_reducible assumption) | assumption)) (of_decide_eq_true (by first | (with_reducible assumption) | assumption)) HC0.out
            have HR103 := Aside0.mk (Kd.C_of_reads (h1 := fun _ => rfl) (hA26 _ (Kd.reads_of_C HR0.out)))
            have HC103 := Aside0.mk hC26
            clear hA26 hC26 hi026 hsz26
            obtain ⟨i027, hi027, _, hsz27, _⟩ := info_parts info5
            obtain ⟨A27, hcut27, hA27, hC27⟩ := print_drop_of (P := Try.prog) (Value.int .u8) 0 22 5 .i64 Try.underlying22 hi027 hsz27 A0 c0 l0 (ji4) (of_decide_eq_true (by first | (with_reducible assumption) | assumption)) (of_decide_eq_true (by first | (with_reducible assumption) | assumption)) HC0.out
            have HR111 := Aside0.mk (Kd.C_of_reads (h1 := fun _ => rfl) (hA27 _ (Kd.reads_of_C HR0.out)))
            have HC111 := Aside0.mk hC27
            clear hA27 hC27 hi027 hsz27
            refine start_ (n := 15) (S := fun w' => True) (ds := []) #[false, false, false, false, false, false, false, false, false, false, false, false, false, false, false] (by kernel_rfl) rfl rfl trivial (fun hHeld => ?_); refine with_tabW crc_Open.tab2 crc_Open.bits2 (fun HT_ HW_ => ?_)
            generalize w.drew = w25 at HB HR103 HR111 hHeld ⊢
            refine pure_ (i := 0) (N := some 8) (v := ?_) (a' := ?_) #[true, false, false, false, false, false, false, false, false, false, false, false, false, false, false] rfl rfl (any_of HT_.out (by kernel_rfl)) (fun _ _ _ h => h) (Or.inl ⟨by rfl, ?_⟩) ?_ ?_
            rotate_left
            · intro w'
              go_simp
              with_reducible rfl
            rotate_left
            · simp only [Act.put, List.setIfInBounds_toArray, List.set_cons_zero, List.set_cons_succ, i64_w, i32_w]
              rfl
            refine pure_ (i := 1) (N := some 9) (v := ?_) (a' := ?_) #[true, true, false, false, false, false, false, false, false, false, false, false, false, false, false] rfl rfl (any_of HT_.out (by kernel_rfl)) (fun _ _ _ h => h) (Or.inl ⟨by rfl, ?_⟩) ?_ ?_
            rotate_left
            · intro w'
              go_simp
              with_reducible rfl
            rotate_left
            · simp only [Act.put, List.setIfInBounds_toArray, List.set_cons_zero, List.set_cons_succ, i64_w, i32_w]
              rfl
            refine pure_ (i := 2) (N := some 10) (v := ?_) (a' := ?_) #[true, true, true, false, false, false, false, false, false, false, false, false, false, false, false] rfl rfl (any_of HT_.out (by kernel_rfl)) (fun _ _ _ h => h) (Or.inl ⟨by rfl, ?_⟩) ?_ ?_
            rotate_left
            · intro w'
              go_simp
              with_reducible rfl
            rotate_left
            · simp only [Act.put, List.setIfInBounds_toArray, List.set_cons_zero, List.set_cons_succ, i64_w, i32_w]
              rfl
            refine pure_ (i := 3) (N := some 11) (v := ?_) (a' := ?_) #[true, true, true, true, false, false, false, false, false, false, false, false, false, false, false] rfl rfl (any_of HT_.out (by kernel_rfl)) (fun _ _ _ h => h) (Or.inl ⟨by rfl, ?_⟩) ?_ ?_
            rotate_left
            · intro w'
              go_simp
              with_reducible rfl
            rotate_left
            · simp only [Act.put, List.setIfInBounds_toArray, List.set_cons_zero, List.set_cons_succ, i64_w, i32_w]
              rfl
            refine pure_ (i := 4) (N := some 12) (v := ?_) (a' := ?_) #[true, true, true, true, true, false, false, false, false, false, false, false, false, false, false] rfl rfl (any_of HT_.out (by kernel_rfl)) (fun _ _ _ h => h) (Or.inl ⟨by rfl, ?_⟩) ?_ ?_
            rotate_left
            · intro w'
              go_simp
              with_reducible rfl
            rotate_left
            · simp only [Act.put, List.setIfInBounds_toArray, List.set_cons_zero, List.set_cons_succ, i64_w, i32_w]
              rfl
            refine pure_ (i := 5) (N := some 13) (v := ?_) (a' := ?_) #[true, true, true, true, true, true, false, false, false, false, false, false, false, false, false] rfl rfl (any_of HT_.out (by kernel_rfl)) (fun _ _ _ h => h) (Or.inl ⟨by rfl, ?_⟩) ?_ ?_
            rotate_left
            · intro w'
              go_simp
              with_reducible rfl
            rotate_left
            · simp only [Act.put, List.setIfInBounds_toArray, List.set_cons_zero, List.set_cons_succ, i64_w, i32_w]
              rfl
            refine pure_ (i := 7) (N := some 15) (v := ?_) (a' := ?_) #[true, true, true, true, true, true, false, true, false, false, false, false, false, false, false] rfl rfl (any_of HT_.out (by kernel_rfl)) (fun _ _ _ h => h) (Or.inl ⟨by rfl, ?_⟩) ?_ ?_
            rotate_left
            · intro w'
              go_simp
              with_reducible rfl
            rotate_left
            · simp only [Act.put, List.setIfInBounds_toArray, List.set_cons_zero, List.set_cons_succ, i64_w, i32_w]
              rfl
            refine pure_ (i := 9) (N := some 17) (v := ?_) (a' := ?_) #[true, true, true, true, true, true, false, true, false, true, false, false, false, false, false] rfl rfl (any_of HT_.out (by kernel_rfl)) (fun _ _ _ h => h) (Or.inl ⟨by rfl, ?_⟩) ?_ ?_
            rotate_left
            · intro w'
              go_simp
              with_reducible rfl
            rotate_left
            · simp only [Act.put, List.setIfInBounds_toArray, List.set_cons_zero, List.set_cons_succ, i64_w, i32_w]
              rfl
            refine pure_ (i := 10) (N := some 18) (v := ?_) (a' := ?_) #[true, true, true, true, true, true, false, true, false, true, true, false, false, false, false] rfl rfl (any_of HT_.out (by kernel_rfl)) (fun _ _ _ h => h) (Or.inl ⟨by rfl, ?_⟩) ?_ ?_
            rotate_left
            · intro w'
              go_simp
              with_reducible rfl
            rotate_left
            · simp only [Act.put, List.setIfInBounds_toArray, List.set_cons_zero, List.set_cons_succ, i64_w, i32_w]
              rfl
            refine pure_ (i := 11) (N := some 19) (v := ?_) (a' := ?_) #[true, true, true, true, true, true, false, true, false, true, true, true, false, false, false] rfl rfl (any_of HT_.out (by kernel_rfl)) (fun _ _ _ h => h) (Or.inl ⟨by rfl, ?_⟩) ?_ ?_
            rotate_left
            · intro w'
              go_simp
              with_reducible rfl
            rotate_left
            · simp only [Act.put, List.setIfInBounds_toArray, List.set_cons_zero, List.set_cons_succ, i64_w, i32_w]
              rfl
            refine one_ (i := 6) (N := some 14) #[true, true, true, true, true, true, true, true, false, true, true, true, false, false, false] rfl rfl (one_of HT_.out (by kernel_rfl)) (by decide) (fun K hK => ?_)
            refine goes_ Try.func19 (by kernel_rfl) rfl #[.slice A0 (l0.take ((ji4) : Int).toNat).length c0] (by rfl) rfl rfl (by (try simp only [List.map_toArray, List.map_cons, List.map_nil]); first | done | (rw [show (l0.take ((ji4) : Int).toNat).length = (ji4).toNat from (by rw [List.length_take]; have h_ : ((ji4) : Int) ≤ (l0.length : Int) := of_decide_eq_true (by first | (with_reducible assumption) | assumption); omega)] <;> rfl) | (simp only [hji4]; rfl) | rfl | (simp only [List.length_drop, List.length_take]; rfl)) ?_
            with_reducible refine (crc_Seal.calls _ _ (l0.take ((ji4) : Int).toNat) t104 _ ?side1 ?side2 A7.out).mono ?_
            (case side1 => repeat (first | exact (Kd.C_below HR103.out HB.out) | (with_reducible refine Kd.C_alloc ?_ _) | (with_reducible refine Kd.C_drewN ?_ _) | (with_reducible refine Kd.C_drew ?_)))
            (case side2 => exact HC103.out)
            rintro e w28 ⟨v105, rfl, ho0, hb⟩
            refine ⟨_, rfl, ?_⟩
            have n0_ := Aside0.mk (Kd.R_lower ho0 (below_size (by repeat (first | (with_reducible first | exact HB.out | apply below_alloc | apply pw_below_drewN | apply below_drew1) | exact HB.out))))
            have n1_ := Aside0.mk (below_step (by repeat (first | (with_reducible first | exact HB.out | apply below_alloc | apply pw_below_drewN | apply below_drew1) | exact HB.out)) hb)
            clear HB
            have HO106 := n0_
            have HB := n1_
            clear n0_ n1_
            (try clear hb)
            (try clear hb2)
            (try clear hk)
            (try clear hi)
            (try clear ho0)
            obtain ⟨Ao30, co30, eo30⟩ := Kd.R_slice HO106.out
            (first | subst eo30 | (injection eo30 with f1_ f2_ f3_; have f4_ := f1_.symm; have f5_ := f3_.symm; clear f1_ f2_ f3_; subst f4_; subst f5_))
            have q29 : ((ji4) : Int) ≤ ((t104.length : Int) : Int) := of_decide_eq_true (by first | (with_reducible assumption) | assumption)
            obtain ⟨i029, hi029, _, hsz29, _⟩ := info_parts info5
            have hroom29 : t104.length ≤ co30 := (Kd.R_reads' HO106.out).2.1
            have hC29 : Kd.C (Kd.int .u8) _ Ao30 t104.length t104 := (Kd.R_reads' HO106.out).2.2
            have q029 : (0 : Int) ≤ ((ji4) : Int) := of_decide_eq_true (by first | (with_reducible assumption) | assumption)
            have hcut29 := cut_from (P := Try.prog) 22 5 .i64 Try.underlying22 hi029 1 hsz29 Ao30 t104.length co30 (ji4) q029 q29
            have hr29 := Kd.C_drop (m := ((ji4) : Int).toNat) (c := co30) hC29 (by omega) hroom29
            obtain ⟨A29, hA29⟩ : ∃ A1, A1 = (if co30 = ((ji4) : Int).toNat then Ao30 else (Ao30 : Option Addr).map (·.add (((ji4) : Int).toNat * 1))) := ⟨_, rfl⟩
            obtain ⟨c29, hc29⟩ : ∃ c1, c1 = co30 - ((ji4) : Int).toNat := ⟨_, rfl⟩
            have hy29 : y107.length = t104.length - ((ji4) : Int).toNat := (by rw [Ny107.out, List.length_drop] <;> omega)
            rw [show (t104).drop ((ji4) : Int).toNat = y107 from Ny107.out.symm] at hr29
            replace hr29 : Kd.C (Kd.int .u8) _ A29 y107.length y107 := (by rw [hA29]; exact hr29)
            rw [← hy29, ← hA29, ← hc29] at hcut29
            have HR110 := Aside0.mk hr29
            have HC110 := Aside0.mk (show y107.length ≤ c29 from by rw [hy29, hc29]; exact Nat.sub_le_sub_right hroom29 _)
            clear hr29 hC29 hroom29 hi029 hsz29 hc29
            have KY29 := Aside0.mk hy29
            have KA29 := Aside0.mk hA29
            clear hy29 hA29
            have KL29 := Aside0.mk (show ((ji4) : Int).toNat ≤ t104.length from by omega)
            replace q29 := eq_true q29
            refine hK.out _ _ trivial (fun hHeld => ?_)
            clear hK K
            refine norm_ (a' := ?_) ?_ ?_
            rotate_left
            · show Act.put _ (some 14) _ = _
              simp only [Act.put, List.setIfInBounds_toArray, List.set_cons_zero, List.set_cons_succ, i64_w, i32_w]
              rfl
            refine pure_ (i := 8) (N := some 16) (v := ?_) (a' := ?_) #[true, true, true, true, true, true, true, true, true, true, true, true, false, false, false] rfl rfl (any_of HT_.out (by kernel_rfl)) (fun _ _ _ h => h) (Or.inl ⟨by rfl, ?_⟩) ?_ ?_
            rotate_left
            · intro w'
              go_simp
              with_reducible rfl
            rotate_left
            · simp only [Act.put, List.setIfInBounds_toArray, List.set_cons_zero, List.set_cons_succ, i64_w, i32_w]
              rfl
            refine one_ (i := 12) (N := some 20) #[true, true, true, true, true, true, true, true, true, true, true, true, true, false, false] rfl rfl (one_of HT_.out (by kernel_rfl)) (by decide) (fun K hK => ?_)
            refine goes_ Try.func27 (by kernel_rfl) rfl #[.slice A29 y107.length c29, .slice A27 (l0.drop ((ji4) : Int).toNat).length (c0 - (ji4).toNat)] (by rfl) rfl rfl (by (try simp only [List.map_toArray, List.map_cons, List.map_nil]); first | done | (rw [show (l0.drop ((ji4) : Int).toNat).length = (l0.length - (ji4).toNat) from List.length_drop] <;> rfl) | (simp only [hji4]; rfl) | rfl | (simp only [List.length_drop, List.length_take]; rfl)) ?_
            with_reducible refine (bytes_Equal.calls _ _ y107 _ _ (l0.drop ((ji4) : Int).toNat) false _ ?side1 ?side2 ?side3 ?side4 A12.out).mono ?_
            (case side1 => repeat (first | exact (by repeat (first | (with_reducible exact HR110.out) | (with_reducible refine Kd.C_alloc ?_ _) | (with_reducible refine Kd.C_drewN ?_ _) | (with_reducible refine Kd.C_drew ?_) | exact HR110.out)) | (with_reducible refine Kd.C_alloc ?_ _) | (with_reducible refine Kd.C_drewN ?_ _) | (with_reducible refine Kd.C_drew ?_)))
            (case side2 => exact HC110.out)
            (case side3 => repeat (first | exact (Kd.C_below HR111.out HB.out) | (with_reducible refine Kd.C_alloc ?_ _) | (with_reducible refine Kd.C_drewN ?_ _) | (with_reducible refine Kd.C_drew ?_)))
            (case side4 => exact HC111.out)
            rintro e w' ⟨rfl, ⟨nd, rfl⟩⟩
            refine ⟨_, rfl, ?_⟩
            refine hK.out _ _ trivial (fun hHeld => ?_)
            clear hK K
            refine norm_ (a' := ?_) ?_ ?_
            rotate_left
            · show Act.put _ (some 20) _ = _
              simp only [Act.put, List.setIfInBounds_toArray, List.set_cons_zero, List.set_cons_succ, i64_w, i32_w]
              rfl
            refine pure_ (i := 13) (N := some 21) (v := ?_) (a' := ?_) #[true, true, true, true, true, true, true, true, true, true, true, true, true, true, false] rfl rfl (any_of HT_.out (by kernel_rfl)) (fun _ _ _ h => h) (Or.inl ⟨by rfl, ?_⟩) ?_ ?_
            rotate_left
            · intro w'
              go_simp
              with_reducible rfl
            rotate_left
            · simp only [Act.put, List.setIfInBounds_toArray, List.set_cons_zero, List.set_cons_succ, i64_w, i32_w]
              rfl
            refine pure_ (i := 14) (N := some 22) (v := ?_) (a' := ?_) #[true, true, true, true, true, true, true, true, true, true, true, true, true, true, true] rfl rfl (any_of HT_.out (by kernel_rfl)) (fun _ _ _ h => h) (Or.inl ⟨by rfl, ?_⟩) ?_ ?_
            rotate_left
            · intro w'
              go_simp
              with_reducible rfl
            rotate_left
            · simp only [Act.put, List.setIfInBounds_toArray, List.set_cons_zero, List.set_cons_succ, i64_w, i32_w]
              rfl
            refine done_ (done_of HT_.out (by kernel_rfl)) ?_
            try go_wp2
            go_ret2
            exact ⟨_, by first | rfl | (simp [errW_none, errW_some] <;> rfl) | (simp only [← hji4]; first | rfl | (simp [errW_none, errW_some] <;> rfl)) | (simp [*, errW_none, errW_some] <;> rfl), by first | exact Kd.R_nil _ _ _ _ _ | exact Kd.N_nil _ _ _ _ _ | exact Kd.V_nil _ _ _ _ _ | exact Kd.Q_nil _ _ _ _ _ | exact Kd.S_nil _ _ _ _ _, by repeat (first | (with_reducible first | exact HB.out | apply below_alloc | apply pw_below_drewN | apply below_drew1) | exact HB.out)⟩
        · rw [if_neg c9] at H
          exact absurd H (by simp)
      · rw [if_neg c6] at H
        exact absurd H (by simp)
    · rw [if_neg c5] at H
      exact absurd H (by simp)

end Go.Proofs.Ytckjmbpagippkaa.G
end

section
-- Written by a program of this session (wip/tools/myprint.py), over the kit's print.
namespace Go.Proofs.Ytckjmbpagippkaa.G
open Go.RowKit Go.Proofs.YtckjmbpagippkaaW.PrintWords Go.Proofs.YtckjmbpagippkaaW.PrintLast Go.Proofs.YtckjmbpagippkaaW.PrintMore
attribute [local go_sem] max2_int min2_int max_two min_two max_three min_three max_four min_four   -- for this text's walks alone
set_option linter.unusedVariables false
set_option linter.unusedSimpArgs false

-- BY HAND
-- IMPORT YtckjmbpagippkaaConcat
-- LIB Derived.BigQuiet
-- LIB Derived.Deep.QuietTactic
-- LIB Derived.Laws.BitsAllLaws
-- over: crc_Open.f
def frame_Next.f (l0 : List Int) : Option (List Int × Int × Int) :=
  if l0.length < 6 then some ([], 0, 2) else (crc_Open.f (l0.take 6)).bind fun p => if p.2 = false then some ([], 0, 6) else if p.1.length = 2 ∧ u8s p.1 then
    (if rd p.1 0 + 256 * rd p.1 1 > 8192 then some ([], 0, 4) else if (l0.length : Int) < rd p.1 0 + 256 * rd p.1 1 + 10 then some ([], 0, 2) else
      (crc_Open.f ((l0.take (rd p.1 0 + 256 * rd p.1 1 + 10).toNat).drop 6)).bind fun q => if q.2 = false then some ([], 0, 6) else some (q.1, rd p.1 0 + 256 * rd p.1 1 + 10, 0)) else none
theorem held_mid {w : World} {S : Nat → Prop} {ad : Addr} {l : List Int} (h : HeldB w S (some ad) l) (a b : Nat) (ha : 0 < a) (hb : b ≤ l.length) : HeldB w S (some ⟨ad.block, ad.off + a, none⟩) ((l.take b).drop a) := by
  intro h0
  rw [List.length_drop, List.length_take] at h0
  obtain ⟨ad', e1, e2, e3⟩ := h (by omega)
  cases e1
  refine ⟨_, rfl, e2, fun j hj => ?_⟩
  rw [List.length_drop, List.length_take] at hj
  have e4 := e3 (a + j) (by omega)
  rw [← add_add] at e4
  have e5 : ad.add a = ⟨ad.block, ad.off + a, none⟩ := by unfold Addr.add; rw [if_neg (by omega)]
  rw [e5] at e4
  rw [e4]
  congr 2
  have e6 : ((a + j : Nat) : Int).toNat = a + j := by omega
  have e7 : ((j : Nat) : Int).toNat = j := by omega
  simp only [rd, List.getD_eq_getElem?_getD, e6, e7, List.getElem?_drop]
  rw [List.getElem?_take_of_lt (by omega)]
theorem or_two (x y : Int) (hx : 0 ≤ x ∧ x < 256) (hy : 0 ≤ y ∧ y < 256) : bits .or .i64 x (y * 256) = x + 256 * y := by
  obtain ⟨X, rfl⟩ := Int.eq_ofNat_of_zero_le hx.1
  obtain ⟨Y, rfl⟩ := Int.eq_ofNat_of_zero_le hy.1
  have hX : X < 256 := by omega
  have hY : Y < 256 := by omega
  have e1 : (BitVec.ofInt 64 (X : Int)).toNat = X := by rw [BitVec.toNat_ofInt]; omega
  have e2 : (BitVec.ofInt 64 ((Y : Int) * 256)).toNat = Y * 256 := by rw [BitVec.toNat_ofInt]; omega
  show IntKind.i64.wrap ((BitVec.ofInt 64 (X : Int) ||| BitVec.ofInt 64 ((Y : Int) * 256)).toNat : Int) = _
  rw [BitVec.toNat_or, e1, e2, Nat.or_comm, Nat.mul_comm Y 256]
  have := Nat.two_pow_add_eq_or_of_lt (i := 8) (b := X) (by omega) Y
  rw [show (256 : Nat) = 2 ^ 8 from rfl, ← this, IntKind.wrap_i64]
  omega
set_option maxRecDepth 100000 in
set_option maxHeartbeats 2000000 in
theorem frame_Next.calls (A0 : Option Addr) (c0 : Nat) (l0 : List Int) (r1 : List Int) (r2 r3 : Int) (w : World) (hr0 : Kd.C (Kd.int .u8) w A0 l0.length l0) (hc0 : l0.length ≤ c0) (h : frame_Next.f l0 = some (r1, r2, r3)) :
    Calls Try.prog 11 #[.slice A0 l0.length c0] w fun e w' => ∃ v0_ : Value, e = .returned (.tuple #[v0_, .int .i64 r2, .int .i64 r3]) ∧ Kd.R (Kd.int .u8) 5 w' w.heap.size (fun _ => True) v0_ r1 ∧ Below w.heap.size w w' := by
  unfold frame_Next.f at h
  by_cases hlt : l0.length < 6
  · rw [if_pos hlt] at h
    simp only [Option.some.injEq, Prod.mk.injEq] at h
    obtain ⟨rfl, rfl, rfl⟩ := h
    go_enter Try.func11, Try.ntmps11
    go_wp2
    go_ret3
    exact ⟨_, rfl, Kd.R_nil _ _ _ _ _, Below.refl _ _⟩
  · rw [if_neg hlt] at h
    obtain ⟨⟨hd, ok⟩, h1, h⟩ := Option.bind_eq_some_iff.mp h
    simp only at h
    obtain ⟨T6, hT⟩ : ∃ T, T = l0.take 6 := ⟨_, rfl⟩
    have hl6 : T6.length = 6 := by rw [hT, List.length_take]; omega
    have hsplit : l0 = T6 ++ l0.drop 6 := by rw [hT, List.take_append_drop]
    rw [← hT] at h1
    have HR := Aside0.mk (HeldB.low hr0)
    have hR6 : HeldB w (fun k => k < w.heap.size) A0 T6 := by
      have hh := HR.out
      rw [hsplit] at hh
      intro h0
      obtain ⟨ad, e1, e2, e3⟩ := hh (by rw [List.length_append]; omega)
      refine ⟨ad, e1, e2, fun j hj => ?_⟩
      rw [e3 j (by rw [List.length_append]; omega)]
      simp [rd, List.getD_eq_getElem?_getD, List.getElem?_append_left hj]
    have hop := crc_Open.calls A0 c0 T6 hd ok w (hR6.C (by omega)) (by omega) h1
    rw [hl6] at hop
    have HOP := Aside0.mk hop
    have HH := Aside0.mk h
    have HS := Aside0.mk hsplit
    clear hop h h1 hR6 hsplit hT hr0
    go_enter Try.func11, Try.ntmps11
    go_wp2_with fail
    refine HOP.out.mono ?_
    rintro e w2 ⟨v2, rfl, hRr, hB⟩
    have HB2 := Aside0.mk hB
    have HR2 := Aside0.mk (HR.out.below hB)
    have HO2 := Aside0.mk hRr
    clear hRr hB HR HOP
    have h := HH.out
    cases ok with
    | false =>
      rw [if_pos rfl] at h
      simp only [Option.some.injEq, Prod.mk.injEq] at h
      obtain ⟨rfl, rfl, rfl⟩ := h
      go_wp2
      go_ret3
      exact ⟨_, rfl, Kd.R_nil _ _ _ _ _, HB2.out⟩
    | true =>
      rw [if_neg (by decide)] at h
      split at h
      · rename_i hcond
        obtain ⟨hl2, hu2⟩ := hcond
        clear HH
        obtain ⟨Ah, ch, rfl, hch, _, hH, _⟩ := held_own HO2.out
        obtain ⟨gh, rfl⟩ : ∃ g, Ah = some ⟨g, 0, none⟩ := by
          obtain ⟨_, ho⟩ := kd_own HO2.out
          rcases ho with ⟨h1, h2⟩ | ⟨g, cap, cur, h1, h2, h3, h4, h5, h6, h7⟩
          · omega
          · simp only [Value.slice.injEq] at h1
            exact ⟨g, h1.1⟩
        have hI := HO2.out
        obtain ⟨q0, _⟩ := Kd.R_cell (d := (0 : Int)) hI (0 : Int) (by omega) (by omega)
        obtain ⟨q1, _⟩ := Kd.R_cell (d := (0 : Int)) hI (1 : Int) (by omega) (by omega)
        have H := Aside0.mk h
        have HU := Aside0.mk hu2
        clear hI hH h hu2
        have u0 := rd_u8 HU.out 0 (by omega)
        have u1 := rd_u8 HU.out 1 (by omega)
        have q0' : w2.cell? ⟨gh, 0, none⟩ = some (.int .u8 (rd hd 0)) := q0
        have q1' : w2.cell? ⟨gh, 1, none⟩ = some (.int .u8 (rd hd 1)) := q1
        clear q0 q1 HU
        rw [show ((0 : Nat) : Int) = 0 from rfl] at u0
        rw [show ((1 : Nat) : Int) = 1 from rfl] at u1
        generalize rd hd 0 = x at *
        generalize rd hd 1 = y at *
        rw [hl2]
        go_wp2_with fail
        go_quiet (fail)
        rw [or_two x y u0 u1]
        have hn0 : 0 ≤ x + 256 * y := by omega
        generalize x + 256 * y = n at *
        obtain ⟨m, rfl⟩ := Int.eq_ofNat_of_zero_le hn0
        clear u0 u1 q0' q1' hn0
        have HB3 : Aside0 (Below w.heap.size w (w2.drewN nq)) := ⟨pw_below_drewN HB2.out _⟩
        have HR3 : Aside0 (HeldB (w2.drewN nq) (fun k => k < w.heap.size) A0 l0) := ⟨HR2.out.below (pw_below_drewN (Below.refl _ _) _)⟩
        clear HB2 HR2 HO2
        generalize w2.drewN nq = w3 at HB3 HR3 ⊢
        have h := H.out
        clear H
        by_cases hm : 8192 < m
        · rw [if_pos (by omega)] at h
          simp only [Option.some.injEq, Prod.mk.injEq] at h
          obtain ⟨rfl, rfl, rfl⟩ := h
          go_wp2
          go_ret3
          exact ⟨_, rfl, Kd.R_nil _ _ _ _ _, HB3.out⟩
        · rw [if_neg (by omega)] at h
          by_cases hs : l0.length < m + 10
          · rw [if_pos (by omega)] at h
            simp only [Option.some.injEq, Prod.mk.injEq] at h
            obtain ⟨rfl, rfl, rfl⟩ := h
            go_wp2
            go_ret3
            exact ⟨_, rfl, Kd.R_nil _ _ _ _ _, HB3.out⟩
          · rw [if_neg (by omega)] at h
            obtain ⟨⟨x2, ok2⟩, h2, h⟩ := Option.bind_eq_some_iff.mp h
            have H2 := Aside0.mk h2
            have H := Aside0.mk h
            clear h2 h
            obtain ⟨ad, rfl⟩ : ∃ ad, A0 = some ad := by
              obtain ⟨ad, e, _, _⟩ := HR3.out (by omega)
              exact ⟨ad, e⟩
            have hT := held_mid HR3.out 6 (m + 10) (by decide) (by omega)
            have hlT : ((l0.take (m + 10)).drop 6).length = 6 + m - 2 := by rw [List.length_drop, List.length_take]; omega
            have h2 := H2.out
            rw [show ((m : Int) + 10).toNat = m + 10 by omega] at h2
            have hop := crc_Open.calls _ (c0 - 6) _ x2 ok2 w3 (hT.C (by rw [hlT]; omega)) (by rw [hlT]; omega) h2
            rw [hlT] at hop
            have HOP := Aside0.mk hop
            clear hop h2 hlT hT H2
            go_wp2_with fail
            refine HOP.out.mono ?_
            rintro e w4 ⟨v4, rfl, hRr, hB⟩
            have HB4 : Aside0 (Below w.heap.size w w4) := ⟨HB3.out.trans (hB.mono HB3.out.size)⟩
            have hRl := Kd.R_lower hRr (base' := w.heap.size) HB3.out.size
            have h := H.out
            clear H HOP HB3 hB hRr
            cases ok2 with
            | false =>
              rw [if_pos rfl] at h
              simp only [Option.some.injEq, Prod.mk.injEq] at h
              obtain ⟨rfl, rfl, rfl⟩ := h
              go_wp2
              go_ret3
              exact ⟨_, rfl, Kd.R_nil _ _ _ _ _, HB4.out⟩
            | true =>
              rw [if_neg (by decide)] at h
              simp only [Option.some.injEq, Prod.mk.injEq] at h
              obtain ⟨rfl, rfl, rfl⟩ := h
              have HRl := Aside0.mk hRl
              clear hRl
              go_wp2
              go_ret3
              exact ⟨v4, (by show Ending.returned (Value.tuple #[v4, .int .i64 (6 + (m : Int) + 4), .int .i64 0]) = _; rw [show 6 + (m : Int) + 4 = (m : Int) + 10 by omega]), HRl.out, HB4.out⟩
      · cases h

end Go.Proofs.Ytckjmbpagippkaa.G
end

section
set_option linter.unusedVariables false
set_option autoImplicit false
namespace Go.Proofs.Ytckjmbpagippkaa
open Go.RowKit

/-- a round ends by going on -/
def rpost {α : Type} (B : Nat) (I : List α → Int → World → Prop) (xs : List α) (W : World) : Exit → Act → World → Prop
  | .normal, _, W' => KeepsFrom B W W' ∧ I xs 0 W'
  | _, _, _ => False

/-- A range over a function whose iterator stores an error into one cell, which is zero at each round. No round leaves the loop. (Turned from the library's laws of Derived/RangeFunc*.) -/
theorem range_err {α : Type} {F : Fence} {n : Nat} {P : Program} {g : Operand} {ps : Array Tmp} {assign body : Code} {Q : Exit → Act → World → Prop} {a : Act} {w : World}
    (hro : F.round = none) (h1 : 1 ≤ n) {gf : Nat} {lb : Array Value} (hg : a.eval g = .func (.func gf) #[] lb) (hFg : F.fn gf) (eg : ∀ args w, (callFunc gf args).run P w = .ok (.enter gf args) w)
    {encs : α → Array Value} (hps : ∀ x, (encs x).size = ps.size) (eb : Nat) (heb : eb < w.heap.size) (S : List α → Int → Prop) (I : List α → Int → World → Prop)
    (hI : OwnFrom w.heap.size (fun (s : List α × Int) W => I s.1 s.2 W))
    (N : Nat) (Px : List α → α → World → Prop) (hPx : OwnFrom w.heap.size (fun (s : List α × α) W => Px s.1 s.2 W))
    (hIe : ∀ pre er W, I pre 0 W → I pre er (W.setCell ⟨eb, 0, none⟩ (.int .i64 er))) (h0 : I [] 0 w)
    (hseq : ∀ (l : Nat) (J : List α → World → Prop) (W : World), (∀ pre W1, J pre W1 → I pre 0 W1) → (∀ pre W1 W2, J pre W1 → W1.grownBy W2 none → J pre W2) →
      (∀ pre x W1, J pre W1 → Px pre x W1 → pre.length < N → YieldAt F (n - 1 - 1) P l (encs x) W1 fun e W' => e = .returned (.bool true) ∧ J (pre ++ [x]) W') → J [] W →
      CallsIn F (n - 1) P gf (#[.func (.yield l) #[] #[]] ++ lb) W fun e W' => (∃ v, e = .returned v) ∧ ∃ xs er W0, S xs er ∧ J xs W0 ∧ W' = W0.setCell ⟨eb, 0, none⟩ (.int .i64 er))
    (a₁ : α → Act)
    (hassign : ∀ (l : Nat) (x : α) (W : World) (K : Act → World → Prop), K (a₁ x) W → assign.wpIn (F.inRound l) (n - 1 - 1) P (Exit.then K (fun _ _ _ => False)) { tmps := (ps.zip (encs x)).foldl (fun t (p, v) => t.setIfInBounds p v) a.tmps, defers := [] } W)
    (hbody : ∀ (l : Nat) (pre : List α) (x : α) (W : World), I pre 0 W → Px pre x W → pre.length < N → body.wpIn (F.inRound l) (n - 1 - 1) P (rpost w.heap.size I (pre ++ [x]) W) (a₁ x) W)
    (hdone : ∀ (D : Nat) (xs : List α) (er : Int) (W : World), w.heap.size ≤ D → S xs er → I xs er W → W.heap[D]? = some (.deferred (some [])) → Q .normal { a with defers := { target := .collected D, args := #[] } :: a.defers } W) :
    (Code.rangeFunc g ps assign body).wpIn F n P Q a w := by
  have hIp : ∀ (xs : List α) (er : Int) {W : World} {l : Nat} {o : Obj} (o' : Obj), I xs er W → w.heap.size ≤ l → W.heap[l]? = some o → o.isCells = false → I xs er (W.putObj l o') :=
    fun xs er W l o o' h hB hl ho => OwnFrom.putObj (s := (xs, er)) hI o' h hB hl ho
  have hIa : ∀ (xs : List α) (er : Int) {W : World} (o : Obj), I xs er W → I xs er (W.alloc o) := fun xs er W o h => OwnFrom.alloc (s := (xs, er)) hI o h
  refine wpIn_rangeFunc ?_
  intro fn hfn
  rw [hro]
  obtain ⟨rec, hrec⟩ : ∃ rec : LoopState → Option Code → Loop, rec = fun st pe => { state := st, pending := pe, fn, tmps := a.tmps, params := ps, assign, body, defers := w.heap.size } := ⟨_, rfl⟩
  obtain ⟨W1, hW1⟩ : ∃ W1, (w.alloc (.deferred (some []))).alloc (.loop (rec .ready none)) = W1 := ⟨_, rfl⟩
  have hL1 : W1.heap[w.heap.size + 1]? = some (.loop (rec .ready none)) := by
    rw [← hW1]; have := World.alloc_heap_new (w.alloc (.deferred (some []))) (.loop (rec .ready none)); rwa [World.size_alloc] at this
  have hK1 : W1.heap[w.heap.size]? = some (.deferred (some [])) := by
    rw [← hW1]; exact (Below.heap_alloc _ _ _ (by simp)).trans (World.alloc_heap_new w _)
  have hI1 : I [] 0 W1 := by rw [← hW1]; exact hIa _ _ _ (hIa _ _ _ h0)
  refine ⟨w.heap.size + 1, [{ target := .collected w.heap.size, args := #[] }], W1, { target := .fn (.func gf) lb, args := #[.func (.yield (w.heap.size + 1)) #[] #[]] }, W1, gf,
    #[.func (.yield (w.heap.size + 1)) #[] #[]] ++ lb, W1, ?_, ?_, ?_, ?_, fun _ => h1, ?_⟩
  · rw [← hW1, hrec]; exact run_enterLoop_outer _ _ _ _ _
  · simp only [resolve, hg]
    simp [go_sem]
  · intro f' hf'; simp [Target.leads] at hf'; subst hf'; exact hFg
  · simp [invoke, go_sem, eg]
  · refine (hseq (w.heap.size + 1) (fun pre W => I pre 0 W ∧ W.heap[w.heap.size + 1]? = some (.loop (rec .ready none)) ∧ W.heap[w.heap.size]? = some (.deferred (some []))) W1
      (fun pre W h => h.1)
      (fun pre A B h hg' => ⟨hI (pre, 0) A B none h.1 hg' (fun r e => by cases e), (hg'.block _ (Array.getElem?_eq_some_iff.1 h.2.1).1 (by simp)).trans h.2.1, (hg'.block _ (Array.getElem?_eq_some_iff.1 h.2.2).1 (by simp)).trans h.2.2⟩)
      ?_ ⟨hI1, hL1, hK1⟩).mono ?_
    · rintro pre x W ⟨hi, hl, hk⟩ hx hN
      have hlt : w.heap.size + 1 < W.heap.size := (Array.getElem?_eq_some_iff.1 hl).1
      have hy := run_yield (P := P) (args := encs x) hl (by rw [hrec]; exact hps x)
      rw [hrec] at hy
      refine ⟨fn, _, assign, body, hy, roundIn_of_wpIn hfn (hassign _ x W _ ?_)⟩
      refine ⟨_, run_beginRound hl (by rw [hrec]), ?_⟩
      have hl2 : (W.putObj (w.heap.size + 1) (.loop { rec .ready none with state := .busy })).heap[w.heap.size + 1]? = some (.loop { rec .ready none with state := .busy }) := World.putObj_heap_same hlt
      have hk2 : (W.putObj (w.heap.size + 1) (.loop { rec .ready none with state := .busy })).heap[w.heap.size]? = some (.deferred (some [])) := (World.putObj_heap_other (by omega)).trans hk
      refine wpIn_mono (hbody _ pre x _ (hIp _ _ _ hi (by omega) hl rfl) (OwnFrom.putObj (s := (pre, x)) hPx _ hx (by omega) hl rfl) hN) ?_
      rintro e a3 W3 hp
      cases e with
      | normal =>
        obtain ⟨hk3, hi3⟩ := hp
        have hl3 := hk3.same _ _ (by omega) hl2 rfl
        have hr := run_endRound (P := P) none hl3
        refine ⟨_, _, hr, rfl, hIp _ _ _ hi3 (by omega) hl3 rfl, ?_, (World.putObj_heap_other (by omega)).trans (hk3.same _ _ (Nat.le_refl _) hk2 rfl)⟩
        rw [hrec] at hl3 ⊢
        exact World.putObj_heap_same (Array.getElem?_eq_some_iff.1 hl3).1
      | ret => exact hp.elim
      | exit id => exact hp.elim
      | goto t => exact hp.elim
      | panic ch => exact hp.elim
      | outgrown => exact hp.elim
    · rintro e W2 ⟨⟨v, rfl⟩, xs, er, W0, hS, ⟨hi, hl, hk⟩, rfl⟩
      have hl' : (W0.setCell ⟨eb, 0, none⟩ (.int .i64 er)).heap[w.heap.size + 1]? = some (.loop (rec .ready none)) := by rw [heap_setCell_other _ _ _ _ (by simp; omega)]; exact hl
      have hk' : (W0.setCell ⟨eb, 0, none⟩ (.int .i64 er)).heap[w.heap.size]? = some (.deferred (some [])) := by rw [heap_setCell_other _ _ _ _ (by simp; omega)]; exact hk
      exact ⟨none, _, by have := run_endLoop (P := P) hl' (by rw [hrec]; simp); rw [hrec] at this; exact this, hdone _ xs er _ (Nat.le_refl _) hS (hIp _ _ _ (hIe _ _ _ hi) (by omega) hl' rfl) ((World.putObj_heap_other (by omega)).trans hk')⟩
end Go.Proofs.Ytckjmbpagippkaa
end

section
/- frame.All: all that is framed, walked: a range over frame.frames. -/
set_option linter.unusedVariables false
set_option linter.unusedSimpArgs false
set_option autoImplicit false
namespace Go.Proofs.Ytckjmbpagippkaa
open Go.RowKit Go.Shelf Go.Proofs.YtckjmbpagippkaaW.PrintWords Go.Proofs.YtckjmbpagippkaaW.PrintLast Go.Proofs.YtckjmbpagippkaaW.PrintMore Go.Proofs.Ytckjmbpagippkaa.G
attribute [local go_sem] Oper.semAt_some

/-- what a round is handed: where it ends; the slice; its bytes -/
structure It where
  e : Int
  v : Value
  b : List Int
inductive Walked (l : List Int) : List It → Nat → Prop
  | start : Walked l [] 0
  | more {pre : List It} {at_ : Nat} {v : Value} {x : List Int} {n : Int} : Walked l pre at_ → at_ < l.length → frame_Next.f (l.drop at_) = some (x, n, 0) → 0 < n → (at_ : Int) + n ≤ l.length → Walked l (pre ++ [⟨(at_ : Int) + n, v, x⟩]) (at_ + n.toNat)
theorem Walked.count {l : List Int} {pre : List It} {k : Nat} (h : Walked l pre k) : pre.length ≤ k := by
  induction h with
  | start => simp
  | more h1 h2 h3 h4 h5 ih => simp; omega
def Ended (l : List Int) (xs : List It) (er : Int) : Prop :=
  ∃ at_, Walked l xs at_ ∧ ((l.length ≤ at_ ∧ er = 0) ∨ (at_ < l.length ∧ er ≠ 0 ∧ ∃ x n, frame_Next.f (l.drop at_) = some (x, n, er)))
/-- the boxes of the caller and of the iterator, in their order behind n0 -/
structure Bx (n0 : Nat) (A0 : Option Addr) (c0 : Nat) (l : List Int) (w : World) (pre : List It) (er : Int) (W : World) : Prop where
  out : ∃ vo, W.heap[n0]? = some (.cells #[vo] 29 (0, 0)) ∧ W.ownsRow (n0 + 5) 22 1 vo pre.length (pre.map It.v)
  fin : W.heap[n0 + 1]? = some (.cells #[.int .i64 ((pre.getLast?.map It.e).getD 0)] 3 (0, 0))
  err : W.heap[n0 + 2]? = some (.cells #[.int .i64 er] 24 (0, 0))
  box : W.heap[n0 + 3]? = some (.cells #[.slice A0 l.length c0] 22 (0, 0))
  ptr : W.heap[n0 + 4]? = some (.cells #[.pointer (some ⟨n0 + 2, 0, none⟩)] 49 (0, 0))
  rows : ∀ y ∈ pre, W.ownsRow n0 5 1 y.v y.b.length (nums .u8 y.b)
  held : HeldB W (fun k => k < n0) A0 l
  below : Below n0 w W
  apart : pre.Pairwise (fun a b : It => a.v.ownBlock = none ∨ b.v.ownBlock ≠ a.v.ownBlock)

theorem one_cell {W : World} {b T : Nat} {x : Value} (h : W.heap[b]? = some (.cells #[x] T (0, 0))) : W.cell? ⟨b, 0, none⟩ = some x ∧ W.frozen? ⟨b, 0, none⟩ = false :=
  ⟨by rw [cell_of_row _ _ _ _ _ _ h]; rfl, frozen_of_row _ _ _ _ _ h⟩

theorem held_add {w : World} {S : Nat → Prop} {ad : Addr} {l : List Int} (h : HeldB w S (some ad) l) (k : Nat) : HeldB w S (some (ad.add k)) (l.drop k) := by
  intro h0
  rw [List.length_drop] at h0
  obtain ⟨ad', e1, e2, e3⟩ := h (by omega)
  cases e1
  refine ⟨_, rfl, by rw [add_block]; exact e2, fun j hj => ?_⟩
  rw [List.length_drop] at hj
  have e4 := e3 (k + j) (by omega)
  rw [add_add, e4]
  congr 2
  have e6 : ((k + j : Nat) : Int).toNat = k + j := by omega
  have e7 : ((j : Nat) : Int).toNat = j := by omega
  simp only [rd, List.getD_eq_getElem?_getD, e6, e7, List.getElem?_drop]
theorem setCell_self1 {W : World} {b T : Nat} {x : Value} (h : W.heap[b]? = some (.cells #[x] T (0, 0))) : W.setCell ⟨b, 0, none⟩ x = W := by
  rw [setCell_eq_setRow W b 0 #[x] T (0, 0) x h]
  exact setRow_self W b _ _ _ h
set_option maxRecDepth 100000 in
set_option maxHeartbeats 2000000 in
theorem frames_in (n0 : Nat) (A0 : Option Addr) (c0 : Nat) (l : List Int) (w : World) (hc0 : l.length ≤ c0) (hl : l.length ≤ 1000000) (hnext : ∀ k, ∃ x n er, frame_Next.f (l.drop k) = some (x, n, er) ∧ (er = 0 → 0 < n ∧ (k : Int) + n ≤ l.length))
    (yl : Nat) (J : List It → World → Prop) (W : World) (m : Nat) (hm : 3 ≤ m)
    (hJI : ∀ pre W1, J pre W1 → Bx n0 A0 c0 l w pre 0 W1) (hJg : ∀ pre W1 W2, J pre W1 → W1.grownBy W2 none → J pre W2)
    (hY : ∀ pre x W1, J pre W1 → (W1.ownsRow n0 5 1 x.v x.b.length (nums .u8 x.b) ∧ ∀ y ∈ pre, y.v.ownBlock = none ∨ x.v.ownBlock ≠ y.v.ownBlock) → pre.length < l.length → YieldAt Fence.wide (m - 1) Try.prog yl #[.int .i64 x.e, x.v] W1 fun e W' => e = .returned (.bool true) ∧ J (pre ++ [x]) W') (h0 : J [] W) :
    CallsIn Fence.wide m Try.prog 29 #[.func (.yield yl) #[] #[], .pointer (some ⟨n0 + 3, 0, none⟩), .pointer (some ⟨n0 + 4, 0, none⟩)] W fun e W' => (∃ v, e = .returned v) ∧ ∃ xs er W0, Ended l xs er ∧ J xs W0 ∧ W' = W0.setCell ⟨n0 + 2, 0, none⟩ (.int .i64 er) := by
  refine callsIn_of_wp Try.func29 rfl trivial ?_ rfl
  simp only [Try.ntmps29, List.size_toArray, List.length_cons, List.length_nil, Nat.reduceAdd, Nat.reduceSub, Array.replicate_succ, Array.replicate_zero, List.push_toArray, List.append_toArray, List.nil_append, List.cons_append]
  gi_wp2
  gi_loopw [4] (fun p wr => ∃ (pre : List It) (k : Nat), p = .int .i64 k ∧ k ≤ l.length ∧ Walked l pre k ∧ J pre wr) (fun p wr => l.length - (intOf p).toNat)
  case atStart => exact ⟨[], 0, rfl, Nat.zero_le _, .start, h0⟩
  case round =>
    obtain ⟨pre, k, rfl, hk, hW, hJ⟩ := hrel
    have hB := hJI _ _ hJ
    obtain ⟨b0, _⟩ := one_cell hB.box
    by_cases hlt : k < l.length
    · obtain ⟨ad, rfl⟩ : ∃ ad, A0 = some ad := by
        obtain ⟨ad, e, _, _⟩ := hB.held (by omega)
        exact ⟨ad, e⟩
      have f1 : (0 : Int) ≤ (k : Int) := by omega
      have f2 : (k : Int) ≤ (l.length : Int) := by omega
      have f3 : (k : Int) < (l.length : Int) := by omega
      have f4 : decide ((k : Int) < (l.length : Int)) = true := decide_eq_true f3
      obtain ⟨x, n, er, hnx, hpos⟩ := hnext k
      have hld : (l.drop k).length = l.length - k := by rw [List.length_drop]
      have hop := frame_Next.calls (some (ad.add k)) (c0 - k) (l.drop k) x n er wr ((held_add hB.held k).C (by rw [hld]; omega)) (by rw [hld]; omega) hnx
      rw [hld] at hop
      have HOP := Aside0.mk hop
      have HNX := Aside0.mk hnx
      have HPOS := Aside0.mk hpos
      have HJ := Aside0.mk hJ
      have HB := Aside0.mk hB
      have HWk := Aside0.mk hW
      clear hop hnx hpos hJ hB hW hld
      gi_wp2
      refine ⟨trivial, fun _ => by omega, ?_⟩
      refine (callsIn_wide.2 HOP.out).mono ?_
      rintro e W3 ⟨v3, rfl, hR, hBl⟩
      have hJ3 : J pre W3 := hJg pre wr W3 HJ.out ⟨hBl.os, hBl.tape, hBl.output, hBl.size, fun j hj _ => hBl.block j hj⟩
      have hB3 := hJI _ _ hJ3
      obtain ⟨b0, _⟩ := one_cell hB3.box
      obtain ⟨b1, _⟩ := one_cell hB3.ptr
      obtain ⟨b2, b3⟩ := one_cell hB3.err
      by_cases h0e : er = 0
      · subst h0e
        obtain ⟨hn, hkn⟩ := HPOS.out rfl
        have e3 := setCell_self1 hB3.err
        have hrow : W3.ownsRow n0 5 1 v3 x.length (nums .u8 x) := kd_own (Kd.R_lower hR (by have := lt_of_heap HB.out.ptr; omega))
        have hap : ∀ y ∈ pre, y.v.ownBlock = none ∨ v3.ownBlock ≠ y.v.ownBlock := fun y hy => by
          cases hk : y.v.ownBlock with
          | none => exact .inl rfl
          | some k =>
            refine .inr fun e => ?_
            have h1 := own_lt (HB.out.rows y hy) k hk
            have h2 := own_base (kd_own hR) k e
            omega
        obtain ⟨fn, tmps, assign, body, hy, hRd⟩ := hY pre ⟨(k : Int) + n, v3, x⟩ W3 hJ3 ⟨hrow, hap⟩ (by have := HWk.out.count; omega)
        have hw : IntKind.i64.wrap ((k : Int) + n) = (k : Int) + n := by rw [IntKind.wrap_i64]; omega
        dsimp only at hy
        gi_wp2
        refine ⟨fun _ => by omega, ?_⟩
        refine hRd.mono ?_
        rintro e W4 ⟨rfl, hJ4⟩
        gi_wp2
        exact ⟨⟨pre ++ [⟨(k : Int) + n, v3, x⟩], k + n.toNat, by congr 1; omega, by omega, .more HWk.out hlt HNX.out hn hkn, hJ4⟩, by simp [intOf]; omega⟩
      · have b4 : (er != 0) = true := by simp [h0e]
        have g := Aside0.mk h0e
        clear h0e
        gi_wp2
        refine bodyPost_ret (results_none rfl _ _ _) rfl ?_
        exact ⟨⟨_, rfl⟩, pre, er, W3, ⟨k, HWk.out, .inr ⟨hlt, g.out, x, n, HNX.out⟩⟩, hJ3, rfl⟩
    · obtain rfl : k = l.length := by omega
      gi_wp2
      go_end0
      exact ⟨⟨_, rfl⟩, pre, 0, wr, ⟨_, hW, .inl ⟨Nat.le_refl _, rfl⟩⟩, hJ, (setCell_self1 hB.err).symm⟩
theorem ownsRow_low {W : World} {b b' e s : Nat} {v : Value} {k : Nat} {xs : List Value} (h : W.ownsRow b e s v k xs) (hb : b' ≤ b) : W.ownsRow b' e s v k xs := by
  obtain ⟨h1, h2 | ⟨g, cap, cur, e1, e2, e3⟩⟩ := h
  · exact ⟨h1, .inl h2⟩
  · exact ⟨h1, .inr ⟨g, cap, cur, e1, Nat.le_trans hb e2, e3⟩⟩
theorem Bx.keep {n0 : Nat} {A0 : Option Addr} {c0 : Nat} {l : List Int} {w : World} {pre : List It} {er er' : Int} {W W' : World} (h : Bx n0 A0 c0 l w pre er W)
    (hk : ∀ j, j ≠ n0 + 2 → (∃ c T, W.heap[j]? = some (.cells c T (0, 0))) → W'.heap[j]? = W.heap[j]?) (he : W'.heap[n0 + 2]? = some (.cells #[.int .i64 er'] 24 (0, 0))) (hb : Below n0 w W') : Bx n0 A0 c0 l w pre er' W' := by
  have hrow : ∀ (b e : Nat) (v : Value) (k : Nat) (xs : List Value), e ≠ 24 → W.ownsRow b e 1 v k xs → W'.ownsRow b e 1 v k xs := by
    rintro b e v k xs hne ⟨h1, h2 | ⟨g, cap, cur, e1, e2, e3, e4, e5, e6, e7⟩⟩
    · exact ⟨h1, .inl h2⟩
    · refine ⟨h1, .inr ⟨g, cap, cur, e1, e2, ?_, e4, e5, e6, e7⟩⟩
      rw [hk g (fun hg => ?_) ⟨_, _, e3⟩]
      · exact e3
      · rw [hg, h.err] at e3
        cases e3
        exact hne rfl
  obtain ⟨vo, ho1, ho2⟩ := h.out
  refine ⟨⟨vo, by rw [hk _ (by omega) ⟨_, _, ho1⟩]; exact ho1, hrow _ _ _ _ _ (by decide) ho2⟩, by rw [hk _ (by omega) ⟨_, _, h.fin⟩]; exact h.fin, he, by rw [hk _ (by omega) ⟨_, _, h.box⟩]; exact h.box, by rw [hk _ (by omega) ⟨_, _, h.ptr⟩]; exact h.ptr, fun y hy => hrow _ _ _ _ _ (by decide) (h.rows y hy), ?_, hb, h.apart⟩
  exact h.held.keep fun k hk1 hk2 => by rw [hb.block k hk2, h.below.block k hk2]
theorem frames_mk (A0 : Option Addr) (n c0 : Nat) (p : Addr) (w : World) :
    CallsIn Fence.wide 7 Try.prog 23 #[.slice A0 n c0, .pointer (some p)] w fun e w' => e = .returned (.func (.func 29) #[] #[.pointer (some ⟨w.heap.size, 0, none⟩), .pointer (some ⟨w.heap.size + 1, 0, none⟩)]) ∧ w' = (w.alloc (.cells #[.slice A0 n c0] 22)).alloc (.cells #[.pointer (some p)] 49) := by
  refine callsIn_of_wp Try.func23 rfl trivial ?_ rfl
  simp only [Try.ntmps23, List.size_toArray, List.length_cons, List.length_nil, Nat.reduceAdd, Nat.reduceSub, Array.replicate_succ, Array.replicate_zero, List.push_toArray, List.append_toArray, List.nil_append, List.cons_append]
  gi_wp2
  go_ret
  exact ⟨rfl, rfl⟩
theorem alloc5 (w : World) (A B C D E : Obj) : (((((w.alloc A).alloc B).alloc C).alloc D).alloc E).heap[w.heap.size]? = some A ∧ (((((w.alloc A).alloc B).alloc C).alloc D).alloc E).heap[w.heap.size + 1]? = some B ∧ (((((w.alloc A).alloc B).alloc C).alloc D).alloc E).heap[w.heap.size + 2]? = some C ∧ (((((w.alloc A).alloc B).alloc C).alloc D).alloc E).heap[w.heap.size + 3]? = some D ∧ (((((w.alloc A).alloc B).alloc C).alloc D).alloc E).heap[w.heap.size + 4]? = some E ∧ Below w.heap.size w (((((w.alloc A).alloc B).alloc C).alloc D).alloc E) ∧ (((((w.alloc A).alloc B).alloc C).alloc D).alloc E).heap.size = w.heap.size + 5 := by
  have h : (((((w.alloc A).alloc B).alloc C).alloc D).alloc E).heap = ((((w.heap.push A).push B).push C).push D).push E := rfl
  have b1 := (Below.refl w.heap.size w).alloc (Nat.le_refl _) A
  have b2 := b1.alloc b1.size B
  have b3 := b2.alloc b2.size C
  have b4 := b3.alloc b3.size D
  rw [h]
  refine ⟨?_, ?_, ?_, ?_, ?_, b4.alloc b4.size E, by simp⟩
  · rw [Array.getElem?_push, if_neg (by simp; omega), Array.getElem?_push, if_neg (by simp; omega), Array.getElem?_push, if_neg (by simp; omega), Array.getElem?_push, if_neg (by simp), Array.getElem?_push, if_pos rfl]
  · rw [Array.getElem?_push, if_neg (by simp), Array.getElem?_push, if_neg (by simp), Array.getElem?_push, if_neg (by simp), Array.getElem?_push, if_pos (by simp)]
  · rw [Array.getElem?_push, if_neg (by simp), Array.getElem?_push, if_neg (by simp), Array.getElem?_push, if_pos (by simp)]
  · rw [Array.getElem?_push, if_neg (by simp), Array.getElem?_push, if_pos (by simp)]
  · rw [Array.getElem?_push, if_pos (by simp)]
theorem append_same {W w1 : World} {n0 : Nat} {vo : Value} {k : Nat} {xs : List Value} {tmp : Obj} (ho2 : W.ownsRow n0 22 1 vo k xs) (hgrow : (W.alloc tmp).grownBy w1 vo.ownBlock) (j : Nat) (c : Array Value) (T : TypeId) (hT : T ≠ 22) (hj : W.heap[j]? = some (.cells c T (0, 0))) :
    w1.heap[j]? = some (.cells c T (0, 0)) := by
  have hlt := lt_of_heap hj
  have hne : some j ≠ vo.ownBlock := by
    rcases ho2.2 with ⟨rfl, _⟩ | ⟨g, cap, cur, rfl, _, hgb, _⟩
    · simp [Value.ownBlock]
    · intro e
      have e2 : j = g := by simpa [Value.ownBlock] using e
      rw [e2, hgb] at hj
      cases hj
      exact hT rfl
  rw [hgrow.block j (by rw [World.size_alloc]; omega) hne, Below.heap_alloc _ _ _ hlt]
  exact hj
theorem load_slice (W : World) (b : Nat) (x : Value) (hc : W.cell? ⟨b, 0, none⟩ = some x) : (loadVar 29 ⟨b, 0, none⟩).run Try.prog W = .ok x W := by
  simp [loadVar, isAgg, run_underlying Try.underlying29, hc, go_sem]
theorem load_int (W : World) (b : Nat) (x : Value) (hc : W.cell? ⟨b, 0, none⟩ = some x) : (loadVar 3 ⟨b, 0, none⟩).run Try.prog W = .ok x W := by
  simp [loadVar, isAgg, run_underlying Try.underlying3, hc, go_sem]
theorem load_errno (W : World) (b : Nat) (x : Value) (hc : W.cell? ⟨b, 0, none⟩ = some x) : (loadVar 24 ⟨b, 0, none⟩).run Try.prog W = .ok x W := by
  simp [loadVar, isAgg, run_underlying Try.underlying24, hc, go_sem]
theorem results_ccc {fn : Func} {p q r : Tmp} {t u s : TypeId} (h : fn.results = #[.cell p t, .cell q u, .cell r s]) (tmps : Array Value) (P : Program) (w : World) (a b c : Addr) (x y z : Value)
    (ha : tmps.getD p undef = .pointer (some a)) (hb : tmps.getD q undef = .pointer (some b)) (hc : tmps.getD r undef = .pointer (some c)) (hx : (loadVar t a).run P w = .ok x w) (hy : (loadVar u b).run P w = .ok y w) (hz : (loadVar s c).run P w = .ok z w) :
    (results fn tmps).run P w = .ok (.tuple #[x, y, z]) w := by
  simp only [results, h]
  simp only [Array.getD_eq_getD_getElem?] at ha hb hc
  simp [Sem.run_bind, Result.andThen, ha, hb, hc, asAddr, hx, hy, hz]
theorem info22 : (Try.prog.info? 22).map (fun i => (i.zero, i.size, i.bytes)) = some (some (.slice none 0 0), 1, 24) := by kernel_rfl
set_option maxRecDepth 100000 in
set_option maxHeartbeats 2000000 in
theorem all_any (A0 : Option Addr) (c0 : Nat) (l : List Int) (w : World) (hr : (Kd.int .u8).C w A0 l.length l) (hc0 : l.length ≤ c0) (hl : l.length ≤ 1000000) (hnext : ∀ k, ∃ x n er, frame_Next.f (l.drop k) = some (x, n, er) ∧ (er = 0 → 0 < n ∧ (k : Int) + n ≤ l.length)) :
    Calls Try.prog 13 #[.slice A0 l.length c0] w fun e w' => ∃ xs er vo, e = .returned (.tuple #[vo, .int .i64 ((xs.getLast?.map It.e).getD 0), .int .i64 er]) ∧ Ended l xs er ∧ w'.ownsRow w.heap.size 22 1 vo xs.length (xs.map It.v) ∧ (∀ y ∈ xs, w'.ownsRow w.heap.size 5 1 y.v y.b.length (nums .u8 y.b)) ∧ xs.Pairwise (fun a b : It => a.v.ownBlock = none ∨ b.v.ownBlock ≠ a.v.ownBlock) ∧ Below w.heap.size w w' := by
  obtain ⟨i0, hi, hz0, hz1, hz2⟩ := info_parts info22
  refine (callsIn_wide (n := 8)).1 ?_
  refine callsIn_of_wp_marks Try.func13 rfl trivial ?_ rfl
  simp only [Try.ntmps13, List.size_toArray, List.length_cons, List.length_nil, Nat.reduceAdd, Nat.reduceSub, Array.replicate_succ, Array.replicate_zero, List.push_toArray, List.append_toArray, List.nil_append, List.cons_append]
  gi_wp2
  refine ⟨trivial, ?_⟩
  refine (frames_mk _ _ _ _ _).mono ?_
  rintro e w' ⟨rfl, rfl⟩
  obtain ⟨a1, a2, a3, a4, a5, hB5, hs5⟩ := alloc5 w (.cells #[.slice none 0 0] 29) (.cells #[.int .i64 0] 3) (.cells #[.int .i64 0] 24) (.cells #[.slice A0 l.length c0] 22) (.cells #[.pointer (some ⟨w.heap.size + 2, 0, none⟩)] 49)
  have hs3 : (((w.alloc (.cells #[.slice none 0 0] 29)).alloc (.cells #[.int .i64 0] 3)).alloc (.cells #[.int .i64 0] 24)).heap.size = w.heap.size + 3 := by simp
  rw [hs3]
  have h0 : Bx w.heap.size A0 c0 l w [] 0 (((((w.alloc (.cells #[.slice none 0 0] 29)).alloc (.cells #[.int .i64 0] 3)).alloc (.cells #[.int .i64 0] 24)).alloc (.cells #[.slice A0 l.length c0] 22)).alloc (.cells #[.pointer (some ⟨w.heap.size + 2, 0, none⟩)] 49)) :=
    ⟨⟨_, a1, World.ownsRow_nil _ _ _ _⟩, a2, a3, a4, a5, (fun y hy => by cases hy), ((HeldB.low hr).below hB5), hB5, List.Pairwise.nil⟩
  clear a1 a2 a3 a4 a5 hB5
  generalize hw5 : (((((w.alloc (.cells #[.slice none 0 0] 29)).alloc (.cells #[.int .i64 0] 3)).alloc (.cells #[.int .i64 0] 24)).alloc (.cells #[.slice A0 l.length c0] 22)).alloc (.cells #[.pointer (some ⟨w.heap.size + 2, 0, none⟩)] 49)) = w5 at h0 hs5 ⊢
  clear hw5
  gi_wp2
  have hlow : ∀ {X : World} {row : Option Nat} {Y : World}, X.grownBy Y row → (∀ r, row = some r → w5.heap.size ≤ r ∧ ∃ o : Obj, X.heap[r]? = some o ∧ o.isCells = false) → ∀ j : Nat, (∃ (c : Array Value) (T : TypeId), X.heap[j]? = some (Obj.cells c T (0, 0))) → Y.heap[j]? = X.heap[j]? := by
    rintro X row Y hg hrow j ⟨c, T, hj⟩
    refine hg.block j (lt_of_heap hj) (fun e => ?_)
    obtain ⟨_, o, ho, hc⟩ := hrow j e.symm
    rw [hj] at ho
    cases ho
    cases hc
  refine range_err rfl (by omega) (gf := 29) (lb := #[.pointer (some ⟨w.heap.size + 3, 0, none⟩), .pointer (some ⟨w.heap.size + 4, 0, none⟩)]) ?hg trivial (enters_of Try.func29 (by kernel_rfl) rfl)
    (encs := fun x : It => #[.int .i64 x.e, x.v]) (fun _ => rfl) (w.heap.size + 2) (by omega) (Ended l) (fun pre er W => Bx w.heap.size A0 c0 l w pre er W) ?own l.length (fun pre x W => W.ownsRow w.heap.size 5 1 x.v x.b.length (nums .u8 x.b) ∧ ∀ y ∈ pre, y.v.ownBlock = none ∨ x.v.ownBlock ≠ y.v.ownBlock) ?ownx ?err h0
    (fun yl J W hJI hJg hY hJ0 => frames_in w.heap.size A0 c0 l w hc0 hl hnext yl J W (8 - 1) (by omega) hJI hJg hY hJ0) ?a1 ?assign ?body ?done
  case hg => rfl
  case assign =>
    intro l1 x W K hK
    gi_wp2
    exact hK
  case own =>
    rintro ⟨pre, er⟩ X Y row h hg hrow
    refine Bx.keep h (fun j _ hj => hlow hg hrow j hj) ?_ (h.below.grown hg h.below.size (fun k e => by have := (hrow k e).1; omega))
    rw [hlow hg hrow _ ⟨_, _, h.err⟩]
    exact h.err
  case ownx =>
    rintro ⟨pre, x⟩ X Y row ⟨⟨h1, h2 | ⟨g, cap, cur, e1, e2, e3, e4, e5, e6, e7⟩⟩, hap⟩ hg hrow
    · exact ⟨⟨h1, .inl h2⟩, hap⟩
    · refine ⟨⟨h1, .inr ⟨g, cap, cur, e1, e2, ?_, e4, e5, e6, e7⟩⟩, hap⟩
      rw [hlow hg hrow _ ⟨_, _, e3⟩]
      exact e3
  case err =>
    intro pre er W h
    refine Bx.keep h (fun j hj _ => heap_setCell_other _ _ _ _ (by simpa using hj)) ?_ (h.below.setCell (p := ⟨w.heap.size + 2, 0, none⟩) (by simp) _)
    rw [heap_setCell_same _ _ _ _ _ _ h.err]
    rfl
  case body =>
    rintro l1 pre ⟨xe, xv, xb⟩ W h ⟨hx, hap⟩ hN
    simp only at hx hap
    have HAP := Aside0.mk hap
    clear hap
    obtain ⟨Ax, nx, cx, rfl⟩ : ∃ A n c, xv = .slice A n c := by rcases hx.2 with ⟨h, _⟩ | ⟨_, _, _, h, _⟩ <;> exact ⟨_, _, _, h⟩
    obtain ⟨vo, ho1, ho5⟩ := h.out
    have ho2 := ownsRow_low ho5 (b' := w.heap.size) (by omega)
    have hsz5 := lt_of_heap h.ptr
    have hv : Boxed W w.heap.size 29 vo := ho1
    have hc := hv.cell
    have hszW := h.below.size
    have HH := Aside0.mk h
    have HX := Aside0.mk hx
    clear h hx
    gi_wp2_with (gi_at_builtin; refine wpListIn_append_own _ rfl _ _ 29 rfl (w.heap.size + 5) 22 i0 (.slice none 0 0) 1 24 Try.underlying29 hi hz0 hz1 hz2 rfl (by decide) _ _ _ rfl (ho5.alloc _) ⟨W.heap.size, 0, none⟩ 1 1 [.slice Ax nx cx] rfl rfl (cell_one_new _ _ _) (by simp [Value.oneCell']) (by unfold maxLen; omega) (by omega) (by simp; omega) ?_; intro v' w1 hown' hgrow _; obtain ⟨g', cap', rfl⟩ := ownsRow_succ hown'; have hown5 := hown'; replace hown' := ownsRow_low hown' (b' := w.heap.size) (by omega); obtain ⟨hv1, hv2, hr2, hk2, hb2⟩ := hv.appended (by decide) ho2 hszW (Nat.le_refl _) hown' hgrow; have hc1 := hv1.cell; have hf1 := hv1.frozen; have hs1 := append_same ho2 hgrow; obtain ⟨hc2, hf2⟩ := one_cell (hs1 _ _ _ (by decide) HH.out.fin))
    have h := HH.out
    have hx := HX.out
    have hvb := hv2
    have hsame : ∀ (j : Nat) (c : Array Value) (T : TypeId), j ≠ w.heap.size → j ≠ w.heap.size + 1 → T ≠ 22 → W.heap[j]? = some (Obj.cells c T (0, 0)) → ((w1.setCell ⟨w.heap.size, 0, none⟩ (.slice (some ⟨g', 0, none⟩) (pre.length + 1) cap')).setCell ⟨w.heap.size + 1, 0, none⟩ (.int .i64 xe)).heap[j]? = some (Obj.cells c T (0, 0)) := fun j c T h1 h2 h3 h4 => by
      rw [heap_setCell_other _ _ _ _ (by simpa using h2), heap_setCell_other _ _ _ _ (by simpa using h1)]
      exact hs1 j c T h3 h4
    have hbelow : Below w.heap.size w ((w1.setCell ⟨w.heap.size, 0, none⟩ (.slice (some ⟨g', 0, none⟩) (pre.length + 1) cap')).setCell ⟨w.heap.size + 1, 0, none⟩ (.int .i64 xe)) := (h.below.trans hb2).setCell (p := ⟨w.heap.size + 1, 0, none⟩) (by simp) _
    have hrow5 : ∀ (y : It), W.ownsRow w.heap.size 5 1 y.v y.b.length (nums .u8 y.b) → ((w1.setCell ⟨w.heap.size, 0, none⟩ (.slice (some ⟨g', 0, none⟩) (pre.length + 1) cap')).setCell ⟨w.heap.size + 1, 0, none⟩ (.int .i64 xe)).ownsRow w.heap.size 5 1 y.v y.b.length (nums .u8 y.b) := by
      rintro y ⟨h1, h2 | ⟨g, cap, cur, e1, e2, e3, e4, e5, e6, e7⟩⟩
      · exact ⟨h1, .inl h2⟩
      · refine ⟨h1, .inr ⟨g, cap, cur, e1, e2, hsame g _ _ ?_ ?_ (by decide) e3, e4, e5, e6, e7⟩⟩
        · intro e; rw [e, ho1] at e3; cases e3
        · intro e; rw [e, h.fin] at e3; cases e3
    have hfinB : Boxed (w1.setCell ⟨w.heap.size, 0, none⟩ (.slice (some ⟨g', 0, none⟩) (pre.length + 1) cap')) (w.heap.size + 1) 3 (.int .i64 ((pre.getLast?.map It.e).getD 0)) := by
      show (w1.setCell _ _).heap[w.heap.size + 1]? = _
      rw [heap_setCell_other _ _ _ _ (by simp)]
      exact hs1 _ _ _ (by decide) h.fin
    refine ⟨(hk2.trans (KeepsOthers.setCell _ _ _)).from _, ⟨⟨.slice (some ⟨g', 0, none⟩) (pre.length + 1) cap', ?_, ?_⟩, ?_, hsame _ _ _ (by omega) (by omega) (by decide) h.err, ?_, hsame _ _ _ (by omega) (by omega) (by decide) h.ptr, ?_, ?_, hbelow, ?_⟩⟩
    · rw [heap_setCell_other _ _ _ _ (by simp)]
      exact hv2
    · have k1 := hown5.kept (grownBy_setCell' w1 w.heap.size (.slice (some ⟨g', 0, none⟩) (pre.length + 1) cap')) (.inr (hv1.not_row (by decide) hown').symm)
      have := k1.kept (grownBy_setCell' _ (w.heap.size + 1) (.int .i64 xe)) (.inr (hfinB.not_row (by decide) hr2).symm)
      simpa using this
    · have := hfinB.set (.int .i64 xe)
      simpa [Boxed] using this
    · rw [heap_setCell_other _ _ _ _ (by simp), heap_setCell_other _ _ _ _ (by simp)]
      have hne : some (w.heap.size + 3) ≠ vo.ownBlock := by
        rcases ho5.2 with ⟨rfl, _⟩ | ⟨g, cap, cur, rfl, hge, hgb, _⟩
        · simp [Value.ownBlock]
        · intro e
          have e2 : w.heap.size + 3 = g := by simpa [Value.ownBlock] using e
          omega
      have hlt3 := lt_of_heap h.box
      rw [hgrow.block _ (by rw [World.size_alloc]; omega) hne, Below.heap_alloc _ _ _ hlt3]
      exact h.box
    · intro y hy
      rcases List.mem_append.1 hy with hy | hy
      · exact hrow5 y (h.rows y hy)
      · simp only [List.mem_singleton] at hy
        rw [hy]
        exact hrow5 _ hx
    · exact h.held.keep fun k hk1 hk2 => by rw [hbelow.block k hk2, h.below.block k hk2]
    · refine List.pairwise_append.2 ⟨h.apart, List.pairwise_singleton _ _, fun a ha b hb => ?_⟩
      simp only [List.mem_singleton] at hb
      rw [hb]
      exact HAP.out a ha
  case done =>
    rintro D xs er W hD hE h hK
    obtain ⟨vo, ho1, ho5⟩ := h.out
    have ho2 := ownsRow_low ho5 (b' := w.heap.size) (by omega)
    obtain ⟨c1, d1⟩ := one_cell ho1
    obtain ⟨c2, d2⟩ := one_cell h.fin
    obtain ⟨c3, d3⟩ := one_cell h.err
    obtain ⟨Ao, no, co, rfl⟩ : ∃ A n c, vo = .slice A n c := by rcases ho2.2 with ⟨h, _⟩ | ⟨_, _, _, h, _⟩ <;> exact ⟨_, _, _, h⟩
    gi_wp2
    refine wpIn_wide.2 ?_
    have hd1 := setCell_self1 (W := W.drew) ho1
    have hd2 := setCell_self1 (W := W.drew) h.fin
    have hd3 := setCell_self1 (W := W.drew) h.err
    go_region_with (fail)
    all_goals gi_wp2
    all_goals refine ⟨by simp, .inl ⟨_, _, rfl, run_takeDeferred (show W.drew.heap[D]? = _ from hK), ?_⟩⟩
    all_goals refine ⟨_, results_ccc (P := Try.prog) (w := W.drew.putObj D (.deferred none)) rfl _ ⟨w.heap.size, 0, none⟩ ⟨w.heap.size + 1, 0, none⟩ ⟨w.heap.size + 1 + 1, 0, none⟩ (.slice Ao no co) (.int .i64 ((xs.getLast?.map It.e).getD 0)) (.int .i64 er) rfl rfl rfl (load_slice _ _ _ ?_) (load_int _ _ _ ?_) (load_errno _ _ _ ?_), xs, er, .slice Ao no co, rfl, hE, ?_, ?_, h.apart, ?_⟩
    all_goals first
      | exact (one_cell ((World.putObj_heap_other (w := W.drew) (by omega)).trans ho1)).1
      | exact (one_cell ((World.putObj_heap_other (w := W.drew) (by omega)).trans h.fin)).1
      | exact (one_cell ((World.putObj_heap_other (w := W.drew) (by omega)).trans h.err)).1
      | exact ownsRow_putObj (W := W.drew) ho2 _ hK rfl
      | exact fun y hy => ownsRow_putObj (W := W.drew) (h.rows y hy) _ hK rfl
      | exact (below_drew h.below).trans (belowK_b (w := w) (Nat.le_refl _) W.drew D _ _ (by omega) hK rfl rfl)
end Go.Proofs.Ytckjmbpagippkaa
end

section
namespace Go.Proofs.Ytckjmbpagippkaa.Pure
open Go.RowKit Go.Proofs.Ytckjmbpagippkaa.G Go.Proofs.YtckjmbpagippkaaW.PrintWords Go.Proofs.YtckjmbpagippkaaW.PrintLast

theorem u8s_wf {l : List Int} (h : ∀ x ∈ l, (Lit.int .u8 x).wf = true) : u8s l := fun x hx => by
  have := Go.bounds_u8 (h x hx)
  omega
theorem u8s_append {a b : List Int} : u8s (a ++ b) ↔ u8s a ∧ u8s b := by
  unfold u8s
  constructor
  · intro h; exact ⟨fun x hx => h x (List.mem_append_left _ hx), fun x hx => h x (List.mem_append_right _ hx)⟩
  · rintro ⟨h1, h2⟩ x hx
    rcases List.mem_append.1 hx with h | h
    · exact h1 x h
    · exact h2 x h
theorem u8s_take {l : List Int} (h : u8s l) (n : Nat) : u8s (l.take n) := fun x hx => h x (List.mem_of_mem_take hx)
theorem u8s_drop {l : List Int} (h : u8s l) (n : Nat) : u8s (l.drop n) := fun x hx => h x (List.mem_of_mem_drop hx)
theorem u8s_zof {l : List Nat} (h : CrcM.Bytes l) : u8s (zof l) := by
  intro x hx
  obtain ⟨c, hc, rfl⟩ := List.mem_map.1 hx
  have := h c hc
  omega
theorem nats_zof (l : List Nat) : nats (zof l) = l := by
  unfold nats zof
  rw [List.map_map]
  exact (List.map_congr_left (fun x _ => by simp)).trans (List.map_id l)
theorem nats_append (a b : List Int) : nats (a ++ b) = nats a ++ nats b := by simp [nats]
theorem nats_length (l : List Int) : (nats l).length = l.length := by simp [nats]
theorem zof_length (l : List Nat) : (zof l).length = l.length := by simp [zof]
theorem nats_take (l : List Int) (n : Nat) : nats (l.take n) = (nats l).take n := by simp [nats, List.map_take]
theorem nats_drop (l : List Int) (n : Nat) : nats (l.drop n) = (nats l).drop n := by simp [nats, List.map_drop]
theorem zof_take (l : List Nat) (n : Nat) : zof (l.take n) = (zof l).take n := by simp [zof, List.map_take]
theorem zof_drop (l : List Nat) (n : Nat) : zof (l.drop n) = (zof l).drop n := by simp [zof, List.map_drop]
theorem zof_inj {a b : List Nat} (h : zof a = zof b) : a = b := by
  have := congrArg nats h
  rwa [nats_zof, nats_zof] at this
theorem nats_inj {a b : List Int} (ha : u8s a) (hb : u8s b) (h : nats a = nats b) : a = b := by
  rw [← zof_nats ha, ← zof_nats hb, h]

/-- two rows of bytes are one text just if they are one row -/
theorem str_eq {a b : List Int} (ha : u8s a) (hb : u8s b) : ((strOfNums a).toList = (strOfNums b).toList) ↔ a = b := by
  constructor
  · intro h
    have h3 := h
    rw [Lib.strOfNums_toList, Lib.strOfNums_toList] at h3
    unfold Lib.bytesOf at h3
    apply nats_inj ha hb
    unfold nats
    have h4 := congrArg (List.map UInt8.toNat) h3
    simp only [List.map_map] at h4
    have e : ∀ l : List Int, u8s l → l.map (UInt8.toNat ∘ fun n => UInt8.ofNat n.toNat) = l.map Int.toNat := fun l hl => List.map_congr_left fun x hx => by
      have := hl x hx
      simp only [Function.comp, UInt8.toNat_ofNat']
      omega
    rwa [e a ha, e b hb] at h4
  · rintro rfl; rfl
theorem str_beq {a b : List Int} (ha : u8s a) (hb : u8s b) : ((strOfNums a).toList == (strOfNums b).toList) = decide (a = b) := by
  rw [Bool.eq_iff_iff]
  simp [str_eq ha hb]

theorem seal_some {l : List Int} (h : u8s l) (hl : l.length ≤ 140737488351232) : crc_Seal.f l = some (zof (CrcM.sealB (nats l))) := by
  unfold crc_Seal.f
  rw [if_pos ⟨h, hl⟩]
theorem add_some {l : List Int} (h : u8s l) (n : Nat) (hn : n < 4294967296) : crc_Add.f (n : Int) l = some ((CrcM.add n (nats l) : Nat) : Int) := by
  unfold crc_Add.f
  rw [if_pos ⟨by omega, by omega, h⟩, Int.toNat_natCast]

theorem wrap_small (x : Int) (h0 : -9223372036854775808 ≤ x) (h1 : x < 9223372036854775808) : wrap64 x = x := by unfold wrap64; omega

def opened (o : Option (List Nat)) : List Int × Bool := match o with
  | some y => (zof y, true)
  | none => ([], false)
theorem open_some' {l : List Int} (h : u8s l) (hl : l.length ≤ 140737488351232) : crc_Open.f l = some (opened (CrcM.openB (nats l))) := by
  unfold crc_Open.f CrcM.openB
  rw [nats_length, wrap_small _ (by omega) (by omega)]
  by_cases h4 : l.length < 4
  · rw [if_pos (by omega), if_pos h4]; rfl
  · rw [if_neg (by omega), if_pos (by omega), if_pos (by omega), if_neg h4]
    rw [show ((l.length : Int) - 4).toNat = l.length - 4 by omega]
    have ht := u8s_take h (l.length - 4)
    rw [seal_some ht (by simp; omega)]
    simp only [Option.bind_some]
    rw [if_pos (by rw [zof_length, CrcM.sealB_length, nats_length, List.length_take]; omega)]
    have e : (zof (CrcM.sealB (nats (l.take (l.length - 4))))).drop (l.length - 4) = zof (CrcM.low (CrcM.sum (nats (l.take (l.length - 4))))) := by
      unfold CrcM.sealB
      rw [zof_append, List.drop_append_of_le_length (by rw [zof_length, nats_length, List.length_take]; omega), List.drop_of_length_le (by rw [zof_length, nats_length, List.length_take]; omega), List.nil_append]
    rw [e, ← nats_take, ← nats_drop]
    unfold bytes_Equal.f
    rw [str_beq (u8s_zof (CrcM.low_bytes _)) (u8s_drop h _)]
    simp only [Option.bind_some]
    have hiff : (zof (CrcM.low (CrcM.sum (nats (l.take (l.length - 4))))) = l.drop (l.length - 4)) ↔ (CrcM.low (CrcM.sum (nats (l.take (l.length - 4)))) = nats (l.drop (l.length - 4))) := by
      constructor
      · intro hh; rw [← hh, nats_zof]
      · intro hh; rw [hh, zof_nats (u8s_drop h _)]
    by_cases he : CrcM.low (CrcM.sum (nats (l.take (l.length - 4)))) = nats (l.drop (l.length - 4))
    · rw [if_pos he, if_pos (by simpa using hiff.2 he)]
      unfold bytes_Clone.f
      rw [if_pos (by simp; omega)]
      simp [opened, zof_nats ht]
    · rw [if_neg he, if_neg (by simpa using fun hh => he (hiff.1 hh))]
      rfl
end Go.Proofs.Ytckjmbpagippkaa.Pure
end

section
/- frames over lists: what is found first, and in all -/
set_option linter.unusedVariables false
set_option linter.unusedSimpArgs false
set_option autoImplicit false
namespace Go.Proofs.Ytckjmbpagippkaa
open Go.RowKit Go.Proofs.YtckjmbpagippkaaW.PrintWords Go.Proofs.YtckjmbpagippkaaW.PrintLast Go.Proofs.YtckjmbpagippkaaW.PrintMore Go.Proofs.Ytckjmbpagippkaa.G Go.Proofs.Ytckjmbpagippkaa.Pure

theorem opened_some {l h : List Int} {ok : Bool} (hu : u8s l) (ho : opened (CrcM.openB (nats l)) = (h, ok)) (hok : ok = true) : h.length + 4 = l.length ∧ u8s h := by
  cases hb : CrcM.openB (nats l) with
  | none => rw [hb] at ho; simp only [opened, Prod.mk.injEq] at ho; rw [← ho.2] at hok; cases hok
  | some y =>
    rw [hb] at ho
    simp only [opened, Prod.mk.injEq] at ho
    have hs := CrcM.open_some _ _ hb
    have hl := congrArg List.length hs
    rw [CrcM.sealB_length, nats_length] at hl
    rw [← ho.1, zof_length]
    refine ⟨hl, u8s_zof fun c hc => u8s_nats hu c ?_⟩
    rw [← hs]
    exact List.mem_append_left _ hc
theorem next_total (l : List Int) (hu : u8s l) (hl : l.length ≤ 1000000) : ∃ x n er, frame_Next.f l = some (x, n, er) ∧ (er = 0 → 0 < n ∧ n ≤ l.length) := by
  unfold frame_Next.f
  by_cases h6 : l.length < 6
  · rw [if_pos h6]; exact ⟨_, _, _, rfl, fun h => by cases h⟩
  rw [if_neg h6, open_some' (u8s_take hu 6) (by simp; omega)]
  obtain ⟨⟨h, ok⟩, ho⟩ : ∃ p, opened (CrcM.openB (nats (l.take 6))) = p := ⟨_, rfl⟩
  rw [ho]
  simp only [Option.bind_some]
  cases ok with
  | false => rw [if_pos rfl]; exact ⟨_, _, _, rfl, fun h => by cases h⟩
  | true =>
    obtain ⟨e1, e2⟩ := opened_some (u8s_take hu 6) ho rfl
    have e3 : h.length = 2 := by rw [List.length_take] at e1; omega
    have u0 := rd_u8 e2 0 (by omega)
    have u1 := rd_u8 e2 1 (by omega)
    rw [show ((0 : Nat) : Int) = 0 from rfl] at u0
    rw [show ((1 : Nat) : Int) = 1 from rfl] at u1
    rw [if_neg (by decide), if_pos ⟨e3, e2⟩]
    by_cases hb : rd h 0 + 256 * rd h 1 > 8192
    · rw [if_pos hb]; exact ⟨_, _, _, rfl, fun h => by cases h⟩
    rw [if_neg hb]
    by_cases hs : (l.length : Int) < rd h 0 + 256 * rd h 1 + 10
    · rw [if_pos hs]; exact ⟨_, _, _, rfl, fun h => by cases h⟩
    rw [if_neg hs, open_some' (u8s_drop (u8s_take hu _) 6) (by simp; omega)]
    obtain ⟨⟨x, ok2⟩, ho2⟩ : ∃ p, opened (CrcM.openB (nats ((l.take (rd h 0 + 256 * rd h 1 + 10).toNat).drop 6))) = p := ⟨_, rfl⟩
    rw [ho2]
    simp only [Option.bind_some]
    cases ok2 with
    | false => rw [if_pos rfl]; exact ⟨_, _, _, rfl, fun h => by cases h⟩
    | true => rw [if_neg (by decide)]; exact ⟨_, _, _, rfl, fun _ => by omega⟩
theorem next_from (l : List Int) (hu : u8s l) (hl : l.length ≤ 1000000) (k : Nat) : ∃ x n er, frame_Next.f (l.drop k) = some (x, n, er) ∧ (er = 0 → 0 < n ∧ (k : Int) + n ≤ l.length) := by
  obtain ⟨x, n, er, h1, h2⟩ := next_total (l.drop k) (u8s_drop hu k) (by rw [List.length_drop]; omega)
  refine ⟨x, n, er, h1, fun h => ?_⟩
  have := h2 h
  rw [List.length_drop] at this
  omega
/-- the run from a place on -/
inductive Runs (l : List Int) : Nat → List It → Int → Prop
  | stop {k : Nat} : l.length ≤ k → Runs l k [] 0
  | fail {k : Nat} {x : List Int} {n er : Int} : k < l.length → frame_Next.f (l.drop k) = some (x, n, er) → er ≠ 0 → Runs l k [] er
  | step {k : Nat} {x : List Int} {n : Int} {v : Value} {xs : List It} {er : Int} : k < l.length → frame_Next.f (l.drop k) = some (x, n, 0) → Runs l (k + n.toNat) xs er → Runs l k (⟨(k : Int) + n, v, x⟩ :: xs) er
theorem runs_of {l : List Int} {pre : List It} {k : Nat} (h : Walked l pre k) : ∀ (ys : List It) (er : Int), Runs l k ys er → Runs l 0 (pre ++ ys) er := by
  induction h with
  | start => intro ys er h; exact h
  | more h1 h2 h3 h4 h5 ih =>
    intro ys er h
    rw [List.append_assoc]
    exact ih _ _ (.step h2 h3 h)
theorem Ended.runs {l : List Int} {xs : List It} {er : Int} (h : Ended l xs er) : Runs l 0 xs er := by
  obtain ⟨k, hw, ⟨h1, rfl⟩ | ⟨h1, h2, x, n, h3⟩⟩ := h
  · simpa using runs_of hw [] 0 (.stop h1)
  · simpa using runs_of hw [] er (.fail h1 h3 h2)
end Go.Proofs.Ytckjmbpagippkaa
end

section
/- Two rows of bytes that tell the same: rosetteref03.Same is true. -/
set_option linter.unusedVariables false
set_option linter.unusedSimpArgs false
set_option autoImplicit false
namespace Go.Proofs.Ytckjmbpagippkaa
open Go.RowKit Go.Proofs.YtckjmbpagippkaaW.PrintWords Go.Proofs.YtckjmbpagippkaaW.PrintLast Go.Proofs.YtckjmbpagippkaaW.PrintMore

def RowS (w : World) (A : Option Addr) (n : Nat) (L : Nat → List Int) : Prop :=
  ∀ i, i < n → ∃ (a : Addr) (P : Option Addr) (c : Nat), A = some a ∧ w.cell? (a.add i) = some (.slice P (L i).length c) ∧ (Kd.int .u8).C w P (L i).length (L i)
set_option maxRecDepth 100000 in
set_option maxHeartbeats 1000000 in
theorem same_true (A : Option Addr) (n c : Nat) (B : Option Addr) (d : Nat) (L : Nat → List Int) (w : World) (hn : n ≤ 9223372036854775807) (h1 : RowS w A n L) (h2 : RowS w B n L) :
    Calls Try.prog 15 #[.slice A n c, .slice B n d] w fun e w' => e = .returned (.bool true) ∧ Below w.heap.size w w' := by
  have H1 := Aside0.mk h1
  have H2 := Aside0.mk h2
  clear h1 h2
  go_enter Try.func15, Try.ntmps15
  go_wp2_with fail
  go_loopw [5] (fun i wr => ∃ k q : Nat, k ≤ n ∧ i = .int .i64 k ∧ wr = w.drewN q) (fun i _ => n - (intOf i).toNat)
  case atStart => exact ⟨0, 0, Nat.zero_le _, rfl, rfl⟩
  case round =>
    obtain ⟨k, q, hk, rfl, rfl⟩ := hrel
    by_cases hlt : k < n
    · obtain ⟨a, P, c1, rfl, e1, hC1⟩ := H1.out k hlt
      obtain ⟨b, R, c2, rfl, e2, hC2⟩ := H2.out k hlt
      have k1 : ∀ m, (w.drewN m).cell? (a.add k) = some (.slice P (L k).length c1) := fun m => e1
      have k2 : ∀ m, (w.drewN m).cell? (b.add k) = some (.slice R (L k).length c2) := fun m => e2
      have s1 : ∀ m, (convert 22 9 (.slice P (L k).length c1)).run Try.prog (w.drewN m) = .ok (.string (strOfNums (L k))) (w.drewN m) := fun m => strA (Kd.C_below hC1 (pw_below_drewN (Below.refl _ _) m)) c1
      have s2 : ∀ m, (convert 22 9 (.slice R (L k).length c2)).run Try.prog (w.drewN m) = .ok (.string (strOfNums (L k))) (w.drewN m) := fun m => strA (Kd.C_below hC2 (pw_below_drewN (Below.refl _ _) m)) c2
      clear hC1 hC2 e1 e2
      go_wp2_with fail
      go_quiet (fail)
      go_wp2
      exact ⟨⟨k + 1, q + nq, by omega, by simp, rfl⟩, by simp [intOf]; omega⟩
    · obtain rfl : k = n := by omega
      go_wp2
      go_ret
      exact ⟨rfl, pw_below_drewN (Below.refl _ _) _⟩
end Go.Proofs.Ytckjmbpagippkaa
end

section
/- rows of rows of bytes: what frame.All hands back, held over the walk -/
set_option linter.unusedVariables false
set_option linter.unusedSimpArgs false
set_option autoImplicit false
namespace Go.Proofs.Ytckjmbpagippkaa
open Go.RowKit Go.Proofs.YtckjmbpagippkaaW.PrintWords Go.Proofs.YtckjmbpagippkaaW.PrintLast Go.Proofs.YtckjmbpagippkaaW.PrintMore Go.Proofs.Ytckjmbpagippkaa.G

def RowsH (w : World) (S : Nat → Prop) (A : Option Addr) (L : List (List Int)) : Prop :=
  ∀ i, i < L.length → ∃ (a : Addr) (P : Option Addr) (c : Nat), A = some a ∧ a.block < w.heap.size ∧ S a.block ∧ w.cell? (a.add i) = some (.slice P (L.getD i []).length c) ∧ (L.getD i []).length ≤ c ∧ (L.getD i []).length ≤ 9223372036854775807 ∧ HeldB w S P (L.getD i [])
theorem RowsH.keep {w w' : World} {S : Nat → Prop} {A : Option Addr} {L : List (List Int)} (h : RowsH w S A L) (hk : ∀ k, k < w.heap.size → S k → w'.heap[k]? = w.heap[k]?) (hs : w.heap.size ≤ w'.heap.size) : RowsH w' S A L := by
  intro i hi
  obtain ⟨a, P, c, h1, h2, h2', h3, h4, h5, h6⟩ := h i hi
  refine ⟨a, P, c, h1, by omega, h2', ?_, h4, h5, h6.keep hk⟩
  rw [← h3]
  unfold World.cell?
  rw [add_block, hk _ h2 h2']
theorem RowsH.below {w w' : World} {S : Nat → Prop} {A : Option Addr} {L : List (List Int)} (h : RowsH w S A L) (hb : Below w.heap.size w w') : RowsH w' S A L := h.keep (fun k hk _ => hb.block k hk) hb.size
theorem RowsH.grown {w w' : World} {S : Nat → Prop} {A : Option Addr} {L : List (List Int)} {r : Nat} (h : RowsH w S A L) (hb : w.grownBy w' (some r)) (h2 : ¬ S r) : RowsH w' S A L :=
  h.keep (fun k hk hs => hb.block k hk (fun e => by cases e; exact h2 hs)) hb.size
theorem RowsH.mono {w : World} {S S' : Nat → Prop} {A : Option Addr} {L : List (List Int)} (h : RowsH w S A L) (hS : ∀ k, S k → S' k) : RowsH w S' A L := by
  intro i hi
  obtain ⟨a, P, c, h1, h2, h2', h3, h4, h5, h6⟩ := h i hi
  exact ⟨a, P, c, h1, h2, hS _ h2', h3, h4, h5, h6.mono hS⟩
theorem RowsH.rowS {w : World} {S : Nat → Prop} {A : Option Addr} {L : List (List Int)} (h : RowsH w S A L) : RowS w A L.length (fun i => L.getD i []) := by
  intro i hi
  obtain ⟨a, P, c, h1, h2, h2', h3, h4, h5, h6⟩ := h i hi
  exact ⟨a, P, c, h1, h3, h6.C h5⟩
theorem RowsH.of_own {w : World} {base t : Nat} {vo : Value} {vs : List Value} {L : List (List Int)} (hl : vs.length = L.length) (h : w.ownsRow base t 1 vo vs.length vs)
    (hr : ∀ i, i < L.length → w.ownsRow base 5 1 (vs.getD i undef) (L.getD i []).length (nums .u8 (L.getD i []))) :
    ∃ A c, vo = .slice A L.length c ∧ L.length ≤ c ∧ c ≤ 9223372036854775807 ∧ RowsH w (fun k => base ≤ k ∧ k < w.heap.size) A L := by
  obtain ⟨h0, h⟩ := h
  rcases h with ⟨rfl, hn⟩ | ⟨g, cap, cur, rfl, hg, hc, hcap, hcm, hcs, htk⟩
  · refine ⟨none, 0, by rw [← hl, hn], by omega, by omega, fun i hi => by omega⟩
  · refine ⟨_, cap, by rw [hl], by omega, by simp only [maxLen] at hcm; omega, fun i hi => ?_⟩
    obtain ⟨P, c, e1, e2, e3, e4, e5⟩ := held_own (kd_R (hr i hi))
    refine ⟨_, P, c, rfl, lt_of_heap hc, ⟨hg, lt_of_heap hc⟩, ?_, e2, by omega, e4⟩
    have hadd : (⟨g, 0, none⟩ : Addr).add i = ⟨g, i, none⟩ := add_plain _ _
    rw [hadd, cell_of_row _ _ _ _ _ _ hc, ← e1, ← htk, Nat.mul_one]
    have hi' : i < vs.length := by omega
    have hcs' : i < cur.size := by omega
    simp [List.getD_eq_getElem?_getD, List.getElem?_take, hi', hcs']
theorem RowsH.of_all {w : World} {base t : Nat} {vo : Value} {xs : List It} (h : w.ownsRow base t 1 vo xs.length (xs.map It.v)) (hr : ∀ y ∈ xs, w.ownsRow base 5 1 y.v y.b.length (nums .u8 y.b)) :
    ∃ A c, vo = .slice A xs.length c ∧ xs.length ≤ c ∧ c ≤ 9223372036854775807 ∧ RowsH w (fun k => base ≤ k ∧ k < w.heap.size) A (xs.map It.b) := by
  have := RowsH.of_own (w := w) (base := base) (t := t) (vo := vo) (vs := xs.map It.v) (L := xs.map It.b) (by simp) (by simpa using h) (fun i hi => ?_)
  · simpa using this
  · have hi' : i < xs.length := by simpa using hi
    have := hr xs[i] (List.getElem_mem hi')
    simpa [List.getD_eq_getElem?_getD, hi'] using this
theorem next_n (A0 : Option Addr) (n c0 : Nat) (l0 : List Int) (r1 : List Int) (r2 r3 : Int) (w : World) (hn : n = l0.length) (hr0 : HeldB w (fun _ => True) A0 l0) (hl : l0.length ≤ 9223372036854775807) (hc0 : l0.length ≤ c0) (h : frame_Next.f l0 = some (r1, r2, r3)) :
    Calls Try.prog 11 #[.slice A0 n c0] w fun e w' => ∃ (P : Option Addr) (c : Nat), e = .returned (.tuple #[.slice P r1.length c, .int .i64 r2, .int .i64 r3]) ∧ r1.length ≤ c ∧ c ≤ 9223372036854775807 ∧ HeldB w' (fun k => w.heap.size ≤ k ∧ k < w'.heap.size) P r1 ∧ Below w.heap.size w w' := by
  subst hn
  refine (frame_Next.calls A0 c0 l0 r1 r2 r3 w (hr0.C hl) hc0 h).mono ?_
  rintro e w1 ⟨v, rfl, hR, hB⟩
  obtain ⟨P, c, rfl, h1, h2, h3, h4⟩ := held_own hR
  exact ⟨P, c, rfl, h1, h2, h3, hB⟩
theorem all_n (A0 : Option Addr) (n c0 : Nat) (l : List Int) (w : World) (hn : n = l.length) (hu : u8s l) (hr : HeldB w (fun _ => True) A0 l) (hc0 : l.length ≤ c0) (hl : l.length ≤ 1000000) :
    Calls Try.prog 13 #[.slice A0 n c0] w fun e w' => ∃ (xs : List It) (er : Int) (A : Option Addr) (c : Nat), e = .returned (.tuple #[.slice A xs.length c, .int .i64 ((xs.getLast?.map It.e).getD 0), .int .i64 er]) ∧ Runs l 0 xs er ∧ xs.length ≤ c ∧ c ≤ 9223372036854775807 ∧ RowsH w' (fun k => w.heap.size ≤ k ∧ k < w'.heap.size) A (xs.map It.b) ∧ Below w.heap.size w w' := by
  subst hn
  refine (all_any A0 c0 l w (hr.C (by omega)) hc0 hl (next_from l hu hl)).mono ?_
  rintro e w1 ⟨xs, er, vo, rfl, hE, hO, hr, _, hB⟩
  obtain ⟨A, c, rfl, h1, h2, h3⟩ := RowsH.of_all hO hr
  exact ⟨xs, er, A, c, rfl, hE.runs, h1, h2, h3, hB⟩
end Go.Proofs.Ytckjmbpagippkaa
end

section
-- Written by a program of this session (wip/tools/myprint.py), over the kit's print.
namespace Go.Proofs.Ytckjmbpagippkaa.G
open Go.RowKit Go.Proofs.YtckjmbpagippkaaW.PrintWords Go.Proofs.YtckjmbpagippkaaW.PrintLast Go.Proofs.YtckjmbpagippkaaW.PrintMore
attribute [local go_sem] max2_int min2_int max_two min_two max_three min_three max_four min_four   -- for this text's walks alone
set_option linter.unusedVariables false
set_option linter.unusedSimpArgs false

-- BY HAND
-- IMPORT YtckjmbpagippkaaRowsH
-- over: frame_Next.f
def frame_All.l0 : Nat → List Int → List (List Int) → Nat → Int → Option (List (List Int) × Int × Int)
  | 0, _, _, _, _ => none
  | k + 1, l, acc, at_, end_ => if l.length ≤ at_ then some (acc, end_, 0) else (frame_Next.f (l.drop at_)).bind fun q => if q.2.2 = 0 then frame_All.l0 k l (acc ++ [q.1]) (at_ + q.2.1.toNat) ((at_ : Int) + q.2.1) else some (acc, end_, q.2.2)
def frame_All.f (k : Nat) (l0 : List Int) : Option (List (List Int) × Int × Int) := if l0.length ≤ 1000000 ∧ u8s l0 then frame_All.l0 k l0 [] 0 0 else none
theorem frame_All.mono_l : ∀ k y0 y1 y2 y3, LeO (frame_All.l0 k y0 y1 y2 y3) (frame_All.l0 (k + 1) y0 y1 y2 y3)
  | 0 => fun _ _ _ _ r h => by simp [frame_All.l0] at h
  | k + 1 => fun y0 y1 y2 y3 => by
    have ih := frame_All.mono_l k
    rw [frame_All.l0]
    conv => rhs; rw [frame_All.l0]
    refine LeO.ite (LeO.refl _) (LeO.bind (LeO.refl _) fun q => LeO.ite (ih _ _ _ _) (LeO.refl _))
theorem frame_All.mono : ∀ a0 k, LeO (frame_All.f k a0) (frame_All.f (k + 1) a0) := by
  intro a0 k
  unfold frame_All.f
  exact LeO.ite (frame_All.mono_l k _ _ _ _) (LeO.refl _)
theorem all_det {l : List Int} {k : Nat} {ys : List It} {er : Int} (h : Runs l k ys er) : ∀ (m : Nat) (acc : List (List Int)) (e0 : Int) (r : List (List Int) × Int × Int), frame_All.l0 m l acc k e0 = some r → r = (acc ++ ys.map It.b, (ys.getLast?.map It.e).getD e0, er) := by
  induction h with
  | stop h =>
    intro m acc e0 r hr
    obtain ⟨m, rfl⟩ : ∃ q, m = q + 1 := ⟨m - 1, by cases m with | zero => simp [frame_All.l0] at hr | succ m => omega⟩
    simp only [frame_All.l0] at hr
    rw [if_pos h] at hr
    cases hr
    simp
  | fail h1 h2 h3 =>
    intro m acc e0 r hr
    obtain ⟨m, rfl⟩ : ∃ q, m = q + 1 := ⟨m - 1, by cases m with | zero => simp [frame_All.l0] at hr | succ m => omega⟩
    simp only [frame_All.l0] at hr
    rw [if_neg (by omega), h2] at hr
    simp only [Option.bind_some] at hr
    rw [if_neg h3] at hr
    cases hr
    simp
  | @step k x n v xs er h1 h2 h3 ih =>
    intro m acc e0 r hr
    obtain ⟨m, rfl⟩ : ∃ q, m = q + 1 := ⟨m - 1, by cases m with | zero => simp [frame_All.l0] at hr | succ m => omega⟩
    simp only [frame_All.l0] at hr
    rw [if_neg (by omega), h2] at hr
    simp only [Option.bind_some] at hr
    rw [if_pos trivial] at hr
    rw [ih _ _ _ _ hr]
    cases xs with
    | nil => simp
    | cons y ys => simp [List.getLast?_cons]
theorem S_of_all {W : World} {base : Nat} {vo : Value} {xs : List It} (h : W.ownsRow base 22 1 vo xs.length (xs.map It.v)) (hr : ∀ y ∈ xs, W.ownsRow base 5 1 y.v y.b.length (nums .u8 y.b))
    (hp : xs.Pairwise (fun a b : It => a.v.ownBlock = none ∨ b.v.ownBlock ≠ a.v.ownBlock)) : Kd.S (Kd.slice 5 (Kd.int .u8)) 22 W base (fun _ => True) vo (xs.map It.b) := by
  refine ⟨fun k => xs.findIdx (fun y => decide (y.v.ownBlock = some k)), fun _ _ => trivial, xs.map It.v, by simpa [Kd.tag, Kd.slice] using h, ?_⟩
  refine ⟨by simp [Kd.tag, Kd.slice], ?_⟩
  intro j p hj
  rw [List.getElem?_zipIdx] at hj
  simp only [Nat.zero_add, Option.map_eq_some_iff] at hj
  obtain ⟨b, hb, rfl⟩ := hj
  rw [List.getElem?_map, Option.map_eq_some_iff] at hb
  obtain ⟨y, hy, rfl⟩ := hb
  have hlt : j < xs.length := (List.getElem?_eq_some_iff.1 hy).1
  have hyx : xs[j] = y := (List.getElem?_eq_some_iff.1 hy).2
  have hmem : y ∈ xs := hyx ▸ List.getElem_mem hlt
  refine ⟨y.v, ?_, Kd.R_of_own (hr y hmem) (fun k hk => ⟨⟨trivial, ?_⟩, ?_⟩)⟩
  · simp [Kd.tag, Kd.slice, List.take_one, List.head?_drop, hy]
  · intro e
    have := own_type_ne (hr y hmem) h (by decide)
    rcases this with h1 | h1
    · rw [hk] at h1; cases h1
    · exact h1 (hk.trans e)
  · show xs.findIdx _ = j
    rw [List.findIdx_eq hlt]
    refine ⟨by rw [hyx]; exact decide_eq_true hk, fun i hi => ?_⟩
    rw [decide_eq_false_iff_not]
    intro e
    have := (List.pairwise_iff_getElem.1 hp) i j (by omega) hlt hi
    rw [hyx] at this
    rcases this with h1 | h1
    · rw [e] at h1; cases h1
    · exact h1 (hk.trans e.symm)
theorem frame_All.calls (k : Nat) (A0 : Option Addr) (c0 : Nat) (l0 : List Int) (r1 : List (List Int)) (r2 : Int) (r3 : Int) (w : World) (hr0 : Kd.C (Kd.int .u8) w A0 l0.length l0) (hc0 : l0.length ≤ c0) (h : frame_All.f k l0 = some (r1, r2, r3)) :
    Calls Try.prog 13 #[.slice A0 l0.length c0] w fun e w' => ∃ v0_ : Value, e = .returned (.tuple #[v0_, .int .i64 r2, .int .i64 r3]) ∧ Kd.S (Kd.slice 5 (Kd.int .u8)) 22 w' w.heap.size (fun _ => True) v0_ r1 ∧ Below w.heap.size w w' := by
  unfold frame_All.f at h
  split at h
  · rename_i hc
    refine (all_any A0 c0 l0 w hr0 hc0 hc.1 (next_from l0 hc.2 hc.1)).mono ?_
    rintro e w1 ⟨xs, er, vo, rfl, hE, hO, hr, hp, hB⟩
    have := all_det hE.runs _ _ _ _ h
    simp only [List.nil_append, Prod.mk.injEq] at this
    obtain ⟨rfl, rfl, rfl⟩ := this
    exact ⟨vo, rfl, S_of_all hO hr hp, hB⟩
  · cases h

end Go.Proofs.Ytckjmbpagippkaa.G
end
