import Derived.Test.YtiodpbenjbdcfaaKit
import Derived.Laws.BitsAllLaws
import Derived.Laws.DeepNot64
set_option linter.unusedVariables false
set_option linter.unusedSimpArgs false
namespace Go.Proofs.Ytiodpbenjbdcfaa
open Go.RowKit Go.Proofs.YtiodpbenjbdcfaaW.PrintWords Go.Proofs.YtiodpbenjbdcfaaW.PrintLast Go.Proofs.YtiodpbenjbdcfaaW.PrintMore

/-! ### bytes as numbers -/
def u8s (l : List Int) : Prop := ∀ x ∈ l, 0 ≤ x ∧ x < 256
instance (l : List Int) : Decidable (u8s l) := inferInstanceAs (Decidable (∀ x ∈ l, 0 ≤ x ∧ x < 256))
theorem rd_u8 {l : List Int} (h : u8s l) (k : Nat) (hk : k < l.length) : 0 ≤ rd l k ∧ rd l k < 256 := by
  have := h (l[k]) (List.getElem_mem hk)
  simpa [rd, List.getD_eq_getElem?_getD, hk] using this
theorem u8s_drop {l : List Int} (h : u8s l) (n : Nat) : u8s (l.drop n) := fun x hx => h x (List.mem_of_mem_drop hx)
theorem u8s_take {l : List Int} (h : u8s l) (n : Nat) : u8s (l.take n) := fun x hx => h x (List.mem_of_mem_take hx)
theorem u8s_nil : u8s [] := fun x hx => by cases hx
theorem u8s_append {a b : List Int} : u8s (a ++ b) ↔ u8s a ∧ u8s b := by
  unfold u8s
  constructor
  · intro h; exact ⟨fun x hx => h x (List.mem_append_left _ hx), fun x hx => h x (List.mem_append_right _ hx)⟩
  · rintro ⟨h1, h2⟩ x hx
    rcases List.mem_append.1 hx with h | h
    · exact h1 x h
    · exact h2 x h

/-! ### a scan: what is left, and the error; where the bytes lie (S) -/
structure Sc where
  l : List Int
  e : Int
def Sc.fail (s : Sc) (e : Int) : Sc := if e = 0 then s else ⟨[], if s.e = 0 then e else s.e⟩
def numGo (s : Sc) : Nat → Nat → Int → Int × Sc
  | 0, _, _ => (0, s)
  | f + 1, k, n =>
    if k = s.l.length then (0, s.fail 2)
    else if (k = 9 ∧ rd s.l k ≠ 1) ∨ (0 < k ∧ rd s.l k = 0) then (0, s.fail 3)
    else if rd s.l k < 128 then (n + rd s.l k % 128 * 128 ^ k, ⟨s.l.drop (k + 1), s.e⟩)
    else numGo s f (k + 1) (n + rd s.l k % 128 * 128 ^ k)
def Sc.num (s : Sc) : Int × Sc := if s.e = 0 then numGo s 10 0 0 else (0, s)
def Sc.upto (s : Sc) (most : Int) : Int × Sc :=
  if s.num.2.e = 0 ∧ (most < 0 ∨ most < s.num.1) then (0, s.num.2.fail 4) else (wrap64 s.num.1, s.num.2)
def zag (n : Int) : Int := if n % 2 = 1 then -1 - n / 2 else n / 2
def Sc.int (s : Sc) : Int × Sc := (zag s.num.1, s.num.2)
def Sc.text (s : Sc) (most : Int) : List Int × Sc :=
  if (s.upto most).2.e = 0 then
    if (s.upto most).1 > (s.upto most).2.l.length then ([], (s.upto most).2.fail 2)
    else ((s.upto most).2.l.take (s.upto most).1.toNat, ⟨(s.upto most).2.l.drop (s.upto most).1.toNat, 0⟩)
  else ([], (s.upto most).2)
def Sc.endE (s : Sc) : Int := if s.e = 0 ∧ 0 < s.l.length then 5 else s.e

/-- the bytes that a slice of a scan tells -/
def HeldB (w : World) (S : Nat → Prop) (A : Option Addr) (l : List Int) : Prop :=
  0 < l.length → ∃ ad, A = some ad ∧ S ad.block ∧ ∀ j, j < l.length → w.cell? (ad.add j) = some (.int .u8 (rd l j))
structure Scn (T : Nat) (S : Nat → Prop) (w : World) (g : Nat) (s : Sc) : Prop where
  u8 : u8s s.l
  err : s.e ≠ 0 → s.l = []
  ne : ¬ S g
  short : s.l.length ≤ 140737488355328
  wide : -9223372036854775808 ≤ s.e ∧ s.e < 9223372036854775808
  mem : ∃ A c, w.heap[g]? = some (.cells #[.slice A s.l.length c, .int .i64 s.e] T (0, 0)) ∧ s.l.length ≤ c ∧ c ≤ 9223372036854775807 ∧ HeldB w S A s.l

theorem lt_of_heap {w : World} {g : Nat} {o : Obj} (h : w.heap[g]? = some o) : g < w.heap.size := (Array.getElem?_eq_some_iff.1 h).1
theorem HeldB.keep {w w' : World} {S : Nat → Prop} {A : Option Addr} {l : List Int} (h : HeldB w S A l) (hk : ∀ k, k < w.heap.size → S k → w'.heap[k]? = w.heap[k]?) : HeldB w' S A l := by
  intro hl
  obtain ⟨ad, rfl, hS, hc⟩ := h hl
  refine ⟨ad, rfl, hS, fun j hj => ?_⟩
  have h1 := hc j hj
  have hlt := World.block_lt_of_cell? w _ h1
  have hb : (ad.add j).block = ad.block := add_block _ _
  rw [World.cell?_of_block (w := w) (by rw [hb]; exact hk _ (by rwa [hb] at hlt) hS)]
  exact h1
theorem Scn.keep {T : Nat} {S : Nat → Prop} {w w' : World} {g : Nat} {s : Sc} (h : Scn T S w g s) (hk : ∀ k, k < w.heap.size → (k = g ∨ S k) → w'.heap[k]? = w.heap[k]?) : Scn T S w' g s := by
  obtain ⟨h1, h2, h3, h4, h5, A, c, h6, h7, h8, h9⟩ := h
  exact ⟨h1, h2, h3, h4, h5, A, c, by rw [hk g (lt_of_heap h6) (.inl rfl)]; exact h6, h7, h8, h9.keep fun k hl hs => hk k hl (.inr hs)⟩
theorem Scn.below {T : Nat} {S : Nat → Prop} {w w' : World} {g : Nat} {s : Sc} (h : Scn T S w g s) (hb : Below w.heap.size w w') : Scn T S w' g s := h.keep fun k hk _ => hb.block k hk
theorem Scn.grown {T : Nat} {S : Nat → Prop} {w w' : World} {g r : Nat} {s : Sc} (h : Scn T S w g s) (hb : w.grownBy w' (some r)) (h1 : g ≠ r) (h2 : ¬ S r) : Scn T S w' g s :=
  h.keep fun k hk hs => hb.block k hk (fun e => by cases e; rcases hs with h | h; exact h1 h.symm; exact h2 h)
theorem Scn.lt {T : Nat} {S : Nat → Prop} {w : World} {g : Nat} {s : Sc} (h : Scn T S w g s) : g < w.heap.size := by
  obtain ⟨_, _, _, _, _, A, c, h6, _⟩ := h
  exact lt_of_heap h6
theorem Scn.mono {T : Nat} {S S' : Nat → Prop} {w : World} {g : Nat} {s : Sc} (h : Scn T S w g s) (hS : ∀ k, S k → S' k) (hg : ¬ S' g) : Scn T S' w g s := by
  obtain ⟨h1, h2, h3, h4, h5, A, c, h6, h7, h8, h9⟩ := h
  exact ⟨h1, h2, hg, h4, h5, A, c, h6, h7, h8, fun hl => by obtain ⟨ad, a, b, d⟩ := h9 hl; exact ⟨ad, a, hS _ b, d⟩⟩

theorem grown_set (w : World) (g j : Nat) (v : Value) : w.grownBy (w.setCell ⟨g, j, none⟩ v) (some g) :=
  ⟨rfl, rfl, rfl, by simp [World.setCell], fun k hk hne => Below.heap_setCell _ _ _ _ (fun e => hne (by rw [e]))⟩
theorem grown_refl (w : World) (r : Option Nat) : w.grownBy w r := ⟨rfl, rfl, rfl, Nat.le_refl _, fun _ _ _ => rfl⟩
theorem grown_trans {a b c : World} {r : Option Nat} (h : a.grownBy b r) (k : b.grownBy c r) : a.grownBy c r :=
  ⟨k.os.trans h.os, k.tape.trans h.tape, k.output.trans h.output, Nat.le_trans h.size k.size, fun i hi hn => (k.block i (Nat.lt_of_lt_of_le hi h.size) hn).trans (h.block i hi hn)⟩
theorem below_of_grown {w0 a b : World} {g : Nat} (h : Below w0.heap.size w0 a) (k : a.grownBy b (some g)) (hg : w0.heap.size ≤ g) : Below w0.heap.size w0 b :=
  h.grown k h.size (fun k hk => by cases hk; exact hg)

/-- the cells of a scan, as the walk asks them -/
theorem Scn.cells {T : Nat} {S : Nat → Prop} {w : World} {g : Nat} {s : Sc} (h : Scn T S w g s) : ∃ A c, w.heap[g]? = some (.cells #[.slice A s.l.length c, .int .i64 s.e] T (0, 0)) ∧ s.l.length ≤ c ∧ c ≤ 9223372036854775807 ∧ HeldB w S A s.l ∧
    w.cell? ⟨g, 0, none⟩ = some (.slice A s.l.length c) ∧ w.cell? ⟨g, 1, none⟩ = some (.int .i64 s.e) ∧ w.frozen? ⟨g, 0, none⟩ = false ∧ w.frozen? ⟨g, 1, none⟩ = false := by
  obtain ⟨A, c, h6, h7, h8, h9⟩ := h.mem
  exact ⟨A, c, h6, h7, h8, h9, by rw [cell_of_row _ _ _ _ _ _ h6]; rfl, by rw [cell_of_row _ _ _ _ _ _ h6]; rfl, frozen_of_row _ _ _ _ _ h6, frozen_of_row _ _ _ _ _ h6⟩
theorem heldB_set {w : World} {S : Nat → Prop} {A : Option Addr} {l : List Int} {g : Nat} (h : HeldB w S A l) (hg : ¬ S g) (j : Nat) (v : Value) : HeldB (w.setCell ⟨g, j, none⟩ v) S A l :=
  h.keep fun k _ hS => Below.heap_setCell _ _ _ _ (fun e => hg (by rw [← show k = g from e]; exact hS))
/-- the error is stored -/
theorem Scn.set_err {T : Nat} {S : Nat → Prop} {w : World} {g : Nat} {s : Sc} (h : Scn T S w g s) (e : Int) (hn : s.l = []) (he : -9223372036854775808 ≤ e ∧ e < 9223372036854775808) : Scn T S (w.setCell ⟨g, 1, none⟩ (.int .i64 e)) g ⟨s.l, e⟩ := by
  obtain ⟨h1, h2, h3, h4, h5, A, c, h6, h7, h8, h9⟩ := h
  exact ⟨h1, fun _ => hn, h3, h4, he, A, c, by rw [heap_setCell_same _ _ _ _ _ _ h6]; rfl, h7, h8, heldB_set h9 h3 1 _⟩
/-- the scan failed -/
theorem Scn.failed {T : Nat} {S : Nat → Prop} {w : World} {g : Nat} {s : Sc} (h : Scn T S w g s) (e : Int) (he : -9223372036854775808 ≤ e ∧ e < 9223372036854775808) :
    Scn T S ((w.setCell ⟨g, 1, none⟩ (.int .i64 e)).setCell ⟨g, 0, none⟩ (.slice none 0 0)) g ⟨[], e⟩ := by
  obtain ⟨h1, h2, h3, h4, h5, A, c, h6, h7, h8, h9⟩ := h
  refine ⟨u8s_nil, fun _ => rfl, h3, by simp, he, none, 0, ?_, by simp, by simp, fun hl => absurd hl (by simp)⟩
  rw [heap_setCell_same _ _ _ _ _ _ (heap_setCell_same _ _ _ _ _ _ h6)]; rfl
theorem Scn.emptied {T : Nat} {S : Nat → Prop} {w : World} {g : Nat} {s : Sc} (h : Scn T S w g s) : Scn T S (w.setCell ⟨g, 0, none⟩ (.slice none 0 0)) g ⟨[], s.e⟩ := by
  obtain ⟨h1, h2, h3, h4, h5, A, c, h6, h7, h8, h9⟩ := h
  refine ⟨u8s_nil, fun _ => rfl, h3, by simp, h5, none, 0, ?_, by simp, by simp, fun hl => absurd hl (by simp)⟩
  rw [heap_setCell_same _ _ _ _ _ _ h6]; rfl
/-- the scan goes on: the slice is cut at its begin -/
theorem heldB_drop {w : World} {S : Nat → Prop} {A : Option Addr} {l : List Int} (h : HeldB w S A l) (m c : Nat) (hm : m ≤ l.length) (hc : l.length ≤ c) : HeldB w S (if c = m then A else A.map (·.add m)) (l.drop m) := by
  intro hl
  rw [List.length_drop] at hl
  obtain ⟨ad, rfl, hS, hcell⟩ := h (by omega)
  rw [if_neg (by omega)]
  refine ⟨ad.add m, rfl, by rw [add_block]; exact hS, fun j hj => ?_⟩
  rw [List.length_drop] at hj
  have h1 := hcell (m + j) (by omega)
  rw [add_add, h1]
  congr 2
  simp only [rd, Int.toNat_natCast, List.getD_eq_getElem?_getD, List.getElem?_drop]
theorem Scn.dropped {T : Nat} {S : Nat → Prop} {w : World} {g : Nat} {s : Sc} (h : Scn T S w g s) (m : Nat) (hm : m ≤ s.l.length) {A : Option Addr} {c : Nat} (hb : w.heap[g]? = some (.cells #[.slice A s.l.length c, .int .i64 s.e] T (0, 0))) (hc : s.l.length ≤ c) (hc2 : c ≤ 9223372036854775807) (hh : HeldB w S A s.l) :
    Scn T S (w.setCell ⟨g, 0, none⟩ (.slice (if c = m then A else A.map (·.add m)) (s.l.length - m) (c - m))) g ⟨s.l.drop m, s.e⟩ := by
  obtain ⟨h1, h2, h3, h4, h5, _⟩ := h
  refine ⟨u8s_drop h1 m, fun h => by rw [h2 h]; simp, h3, by simp; omega, h5, _, c - m, ?_, by simp; omega, by omega, heldB_set (heldB_drop hh m c hm hc) h3 0 _⟩
  rw [heap_setCell_same _ _ _ _ _ _ hb, List.length_drop]; rfl
theorem HeldB.C {w : World} {S : Nat → Prop} {A : Option Addr} {l : List Int} (h : HeldB w S A l) (hl : l.length ≤ 9223372036854775807) : (Kd.int .u8).C w A l.length l :=
  Kd.C_of_reads (d := (0 : Int)) ⟨rfl, hl, fun h0 => by obtain ⟨ad, rfl, _, hc⟩ := h h0; exact ⟨ad, rfl, fun j hj => by have := hc j hj; simpa [rd] using this⟩⟩
theorem HeldB.of_C {w : World} {S : Nat → Prop} {A : Option Addr} {l : List Int} (h : (Kd.int .u8).C w A l.length l) (hS : ∀ ad, A = some ad → 0 < l.length → S ad.block) : HeldB w S A l := by
  intro h0
  obtain ⟨_, _, hr⟩ := Kd.reads_of_C (d := (0 : Int)) h
  obtain ⟨ad, rfl, hc⟩ := hr h0
  exact ⟨ad, rfl, hS ad rfl h0, fun j hj => by have := hc j hj; simpa [rd] using this⟩

theorem add_pos (ad : Addr) (m : Nat) (hm : 0 < m) : ad.add m = ⟨ad.block, ad.off + m, none⟩ := by unfold Addr.add; rw [if_neg (by omega)]
theorem Scn.dropped_a {T : Nat} {S : Nat → Prop} {w : World} {g : Nat} {s : Sc} (h : Scn T S w g s) (m : Nat) (hm : m ≤ s.l.length) {ad : Addr} {c : Nat} (hb : w.heap[g]? = some (.cells #[.slice (some ad) s.l.length c, .int .i64 s.e] T (0, 0))) (hc : s.l.length ≤ c) (hc2 : c ≤ 9223372036854775807) (hh : HeldB w S (some ad) s.l) (hne : c ≠ m) :
    Scn T S (w.setCell ⟨g, 0, none⟩ (.slice (some (ad.add m)) (s.l.length - m) (c - m))) g ⟨s.l.drop m, s.e⟩ := by
  have := h.dropped m hm hb hc hc2 hh
  rwa [if_neg hne] at this
theorem Scn.dropped_b {T : Nat} {S : Nat → Prop} {w : World} {g : Nat} {s : Sc} (h : Scn T S w g s) (m : Nat) (hm : m ≤ s.l.length) {A : Option Addr} {c : Nat} (hb : w.heap[g]? = some (.cells #[.slice A s.l.length c, .int .i64 s.e] T (0, 0))) (hc : s.l.length ≤ c) (hc2 : c ≤ 9223372036854775807) (hh : HeldB w S A s.l) (hne : c = m) :
    Scn T S (w.setCell ⟨g, 0, none⟩ (.slice A (s.l.length - m) 0)) g ⟨s.l.drop m, s.e⟩ := by
  have := h.dropped m hm hb hc hc2 hh
  rwa [if_pos hne, show c - m = 0 by omega] at this

/-! ### the numbers -/
theorem pow128 (k : Nat) : (2 : Nat) ^ (7 * k) = 128 ^ k := by rw [Nat.pow_mul]
theorem pow_le9 (k : Nat) (hk : k ≤ 8) : (128 : Nat) ^ k ≤ 72057594037927936 := by
  have := Nat.pow_le_pow_right (n := 128) (by omega) hk
  simpa using this
theorem num_val (k : Nat) (nn cc : Int) (hk : k ≤ 9) (h0 : 0 ≤ nn) (h1 : nn < 128 ^ k) (hc0 : 0 ≤ cc) (hc1 : cc < 256) (h9 : k = 9 → cc = 1) :
    bits .or .u64 nn (IntKind.u64.wrap (IntKind.u64.wrap (bits .andNot .u8 cc 128) * 2 ^ (7 * k))) = nn + cc % 128 * 128 ^ k ∧ 0 ≤ nn + cc % 128 * 128 ^ k ∧ nn + cc % 128 * 128 ^ k < 128 ^ (k + 1) ∧ nn + cc % 128 * 128 ^ k < 18446744073709551616 := by
  obtain ⟨n, rfl⟩ := Int.eq_ofNat_of_zero_le h0
  obtain ⟨c, rfl⟩ := Int.eq_ofNat_of_zero_le hc0
  have e1 : ((128 : Int) ^ k) = ((128 ^ k : Nat) : Int) := by simp
  rw [e1] at h1 ⊢
  have e2 : ((2 : Int) ^ (7 * k)) = ((128 ^ k : Nat) : Int) := by rw [← pow128]; simp
  have e3 : ((128 : Int) ^ (k + 1)) = ((128 ^ k * 128 : Nat) : Int) := by rw [← Nat.pow_succ]; simp
  rw [e2, e3, show (128 : Int) = ((128 : Nat) : Int) from rfl, u8_andNot_nat c 128 (by omega) (by decide), show 255 - 128 = 2 ^ 7 - 1 from rfl, Nat.and_two_pow_sub_one_eq_mod, show (2 : Nat) ^ 7 = 128 from rfl]
  have hn : n < 128 ^ k := by omega
  have hm : c % 128 < 128 := Nat.mod_lt _ (by omega)
  have hbound : n + c % 128 * 128 ^ k < 18446744073709551616 := by
    by_cases k9 : k = 9
    · subst k9
      have := h9 rfl
      have : c = 1 := by omega
      subst this
      simp at hn ⊢
      omega
    · have hp := pow_le9 k (by omega)
      have : c % 128 * 128 ^ k ≤ 127 * 128 ^ k := Nat.mul_le_mul_right _ (by omega)
      omega
  have hlt : n + c % 128 * 128 ^ k < 128 ^ k * 128 := by
    have : c % 128 * 128 ^ k ≤ 127 * 128 ^ k := Nat.mul_le_mul_right _ (by omega)
    omega
  have e4 : ((c % 128 : Nat) : Int) * ((128 ^ k : Nat) : Int) = ((c % 128 * 128 ^ k : Nat) : Int) := by simp
  have e5 : ((c : Int) % ((128 : Nat) : Int)) * ((128 ^ k : Nat) : Int) = ((c % 128 * 128 ^ k : Nat) : Int) := by rw [← e4]; simp
  rw [show IntKind.u64.wrap ((c % 128 : Nat) : Int) = ((c % 128 : Nat) : Int) by rw [IntKind.wrap_u64]; omega, e4, e5]
  generalize hq : c % 128 * 128 ^ k = q at hbound hlt
  have hw : IntKind.u64.wrap ((q : Nat) : Int) = (q : Int) := by rw [IntKind.wrap_u64]; omega
  rw [hw, u64_or_nat n q (by omega) (by omega)]
  have hor : n ||| q = n + q := by
    rw [← hq, ← pow128] at *
    rw [Nat.or_comm, Nat.mul_comm, ← Nat.two_pow_add_eq_or_of_lt hn, Nat.add_comm]
  rw [hor]
  refine ⟨by omega, by omega, ?_, by omega⟩
  have : ((128 ^ k * 128 : Nat) : Int) = ((128 ^ k * 128 : Nat) : Int) := rfl
  omega
theorem Sc.num_lt (s : Sc) (hu : u8s s.l) : 0 ≤ s.num.1 ∧ s.num.1 < 18446744073709551616 := by
  have go : ∀ (f k : Nat) (nn : Int), f + k = 10 → 0 ≤ nn → nn < 128 ^ k → 0 ≤ (numGo s f k nn).1 ∧ (numGo s f k nn).1 < 18446744073709551616 := by
    intro f
    induction f with
    | zero => intro k nn _ _ _; simp [numGo]
    | succ f ih =>
      intro k nn hk h0 h1
      rw [numGo]
      split
      · simp
      · split
        · simp
        · rename_i hne hbad
          by_cases hkl : k < s.l.length
          · have hc := rd_u8 hu k hkl
            by_cases h9 : k = 9 → rd s.l k = 1
            · have hv := num_val k nn (rd s.l k) (by omega) h0 h1 hc.1 hc.2 h9
              split
              · exact ⟨hv.2.1, hv.2.2.2⟩
              · exact ih (k + 1) _ (by omega) hv.2.1 hv.2.2.1
            · exact absurd (Classical.not_imp.1 h9) (fun hh => hbad (.inl hh))
          · have hz : rd s.l (k : Int) = 0 := by simp [rd, List.getD_eq_getElem?_getD, List.getElem?_eq_none (show s.l.length ≤ k by omega)]
            by_cases k0 : 0 < k
            · exact absurd (.inr ⟨k0, hz⟩) hbad
            · omega
  unfold Sc.num
  split
  · exact go 10 0 0 rfl (by omega) (by simp)
  · simp
theorem Sc.num_zero (s : Sc) (_he : s.e ≠ 0 → s.l = []) (hn : s.num.2.e ≠ 0) : s.num.1 = 0 := by
  have go : ∀ (f k : Nat) (nn : Int), s.e = 0 → (numGo s f k nn).2.e ≠ 0 → (numGo s f k nn).1 = 0 := by
    intro f
    induction f with
    | zero => intro k nn _ _; rfl
    | succ f ih =>
      intro k nn h0 h
      rw [numGo] at h ⊢
      split at h
      · rw [if_pos (by assumption)]
      · rename_i h1
        rw [if_neg h1]
        split at h
        · rw [if_pos (by assumption)]
        · rename_i h2
          rw [if_neg h2]
          split at h
          · exact absurd h0 h
          · rename_i h3
            rw [if_neg h3]
            exact ih _ _ h0 h
  unfold Sc.num at hn ⊢
  split at hn
  · rename_i h0
    rw [if_pos h0]
    exact go _ _ _ h0 hn
  · rename_i h0
    rw [if_neg h0]
theorem xor_m1 (a : Nat) (ha : a < 9223372036854775808) : bits .xor .i64 (a : Int) (-1) = -1 - (a : Int) := by
  rw [← i64_not a ha]
  show IntKind.i64.wrap ((BitVec.ofInt 64 _ ^^^ BitVec.ofInt 64 _).toNat : Int) = IntKind.i64.wrap ((BitVec.ofInt 64 _ ^^^ BitVec.ofInt 64 _).toNat : Int)
  rw [BitVec.xor_comm]
theorem xor_0 (a : Nat) (ha : a < 9223372036854775808) : bits .xor .i64 (a : Int) 0 = (a : Int) := by
  show IntKind.i64.wrap ((BitVec.ofInt 64 (a : Int) ^^^ BitVec.ofInt 64 0).toNat : Int) = _
  rw [show BitVec.ofInt 64 0 = 0#64 from rfl, BitVec.xor_zero, BitVec.ofInt_natCast, BitVec.toNat_ofNat, IntKind.wrap_i64]
  omega
theorem zag_val (n : Int) (h0 : 0 ≤ n) (h1 : n < 18446744073709551616) : bits .xor .i64 (n / 2) (wrap64 (-wrap64 (bits .and .u64 n 1))) = zag n := by
  obtain ⟨m, rfl⟩ := Int.eq_ofNat_of_zero_le h0
  have e : bits .and .u64 (m : Int) 1 = ((m % 2 : Nat) : Int) := by
    rw [show (1 : Int) = ((1 : Nat) : Int) from rfl, u64_and_nat m 1 (by omega) (by decide), Nat.and_one_is_mod]
  rw [e, show (m : Int) / 2 = ((m / 2 : Nat) : Int) by omega]
  unfold zag
  rcases Nat.mod_two_eq_zero_or_one m with h | h
  · rw [h, if_neg (by omega), show wrap64 (-wrap64 ((0 : Nat) : Int)) = 0 by unfold wrap64; omega, xor_0 _ (by omega)]
    omega
  · rw [h, if_pos (by omega), show wrap64 (-wrap64 ((1 : Nat) : Int)) = -1 by unfold wrap64; omega, xor_m1 _ (by omega)]
    omega

theorem Sc.upto_pos (s : Sc) (most : Int) (_hm : -9223372036854775808 ≤ most ∧ most < 9223372036854775808) (hn : 0 ≤ s.num.1 ∧ s.num.1 < 18446744073709551616) (he : s.e ≠ 0 → s.l = []) : 0 ≤ (s.upto most).1 ∧ ((s.upto most).2.e ≠ 0 → (s.upto most).1 = 0) := by
  unfold Sc.upto
  split
  · exact ⟨by simp, fun _ => rfl⟩
  · rename_i hne
    by_cases e0 : s.num.2.e = 0
    · have : s.num.1 ≤ most := by
        apply Classical.byContradiction
        intro hh
        exact hne ⟨e0, .inr (by omega)⟩
      exact ⟨by show 0 ≤ wrap64 s.num.1; unfold wrap64; omega, fun h => absurd e0 h⟩
    · have hz : s.num.1 = 0 := Sc.num_zero s he e0
      exact ⟨by show 0 ≤ wrap64 s.num.1; rw [hz]; unfold wrap64; omega, fun _ => by show wrap64 s.num.1 = 0; rw [hz]; unfold wrap64; omega⟩
theorem num_val' (k : Nat) (nn cc : Int) (hk : k ≤ 9) (h0 : 0 ≤ nn) (h1 : nn < 128 ^ k) (hc0 : 0 ≤ cc) (hc1 : cc < 256) (h9 : k = 9 → cc = 1) : bits .and .u8 cc 127 = cc % 128 := by
  obtain ⟨c, rfl⟩ := Int.eq_ofNat_of_zero_le hc0
  rw [show (127 : Int) = ((127 : Nat) : Int) from rfl, u8_and_nat c 127 (by omega) (by decide), show 127 = 2 ^ 7 - 1 from rfl, Nat.and_two_pow_sub_one_eq_mod]
  simp
theorem num_valR (k : Nat) (nn un cc : Int) (hu : un = 128 ^ k) (hk : k ≤ 9) (h0 : 0 ≤ nn) (h1 : nn < 128 ^ k) (hc0 : 0 ≤ cc) (hc1 : cc < 256) (h9 : k = 9 → cc = 1) :
    IntKind.u64.wrap (nn + IntKind.u64.wrap (un * IntKind.u64.wrap (bits .and .u8 cc 127))) = nn + cc % 128 * 128 ^ k ∧ 0 ≤ nn + cc % 128 * 128 ^ k ∧ nn + cc % 128 * 128 ^ k < 128 ^ (k + 1) ∧ nn + cc % 128 * 128 ^ k < 18446744073709551616 := by
  have h := num_val k nn cc hk h0 h1 hc0 hc1 h9
  refine ⟨?_, h.2⟩
  rw [num_val' k nn cc hk h0 h1 hc0 hc1 h9, hu]
  have hp : (0 : Int) < 128 ^ k := Int.pow_pos (by decide)
  have hq : 0 ≤ cc % 128 * 128 ^ k := Int.mul_nonneg (by omega) (by omega)
  have hlt := h.2.2.2
  rw [show IntKind.u64.wrap (cc % 128) = cc % 128 by rw [IntKind.wrap_u64]; omega, Int.mul_comm]
  generalize cc % 128 * 128 ^ k = q at hq hlt ⊢
  rw [show IntKind.u64.wrap q = q by rw [IntKind.wrap_u64]; omega, IntKind.wrap_u64]
  omega
theorem unit_next (k : Nat) (un : Int) (hu : un = 128 ^ k) (hk : k < 9) : IntKind.u64.wrap (un * 128) = 128 ^ (k + 1) := by
  rw [hu, ← Int.pow_succ]
  have h := Nat.pow_le_pow_right (n := 128) (by omega) (show k + 1 ≤ 9 by omega)
  have e : ((128 : Int) ^ (k + 1)) = ((128 ^ (k + 1) : Nat) : Int) := by simp
  rw [e, IntKind.wrap_u64]
  simp only [show (128 : Nat) ^ 9 = 9223372036854775808 from rfl] at h
  generalize (128 : Nat) ^ (k + 1) = z at h ⊢
  omega
end Go.Proofs.Ytiodpbenjbdcfaa
