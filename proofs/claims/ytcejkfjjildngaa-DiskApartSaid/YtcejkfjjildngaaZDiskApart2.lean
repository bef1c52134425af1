import Derived.Maps.Range
import Derived.Test.YtcejkfjjildngaaZDiskApart1
import Derived.Test.YtcejkfjjildngaaZDiskApart0
import Derived.Test.YtcejkfjjildngaaProg
section
/- maps as rows of keys and values: delete, and a range over one -/
set_option linter.unusedVariables false
set_option linter.unusedSimpArgs false
set_option autoImplicit false
namespace Go.Proofs.Ytcejkfjjildngaa
open Go Go.RowKit
open Go.Maps (Keyed)
open Go.ChangeMaps (setBlock modify_eq_set heap_setBlock_same heap_setBlock_other)

theorem map_erase_ {α β : Type} (f : α → β) : ∀ (l : List α) (j : Nat), (l.eraseIdx j).map f = (l.map f).eraseIdx j
  | [], _ => by simp
  | a :: l, 0 => by simp
  | a :: l, j + 1 => by simp [map_erase_ f l j]
section
variable {P : Program} {k : TypeId} {w W : World} {b : Nat}
/-- delete(m, x) -/
theorem MapR.delete {kv : List (Value × Value)} {t e : TypeId} (ty : TypeId) (h : MapR P k w b kv) (K : Keyed P k) (ht : P.underlying t = some (.map k e)) {x : Value} {lx : Lit} (hx : keyOf P k x = some lx) :
    ∃ w', (Builtin.delete_ #[t, k] ty #[.map (some b), x]).run P w = .ok (.tuple #[]) w' ∧ w.grownBy w' (some b) ∧
      (((∀ p ∈ kv, p.1 ≠ x) ∧ MapR P k w' b kv) ∨ ∃ (j : Nat) (v : Value), kv[j]? = some (x, v) ∧ MapR P k w' b (kv.eraseIdx j)) := by
  obtain ⟨es, clock, h⟩ := h
  rcases K.find w hx es.toList h.keys with ⟨h1, h2⟩ | ⟨j, e0, h1, h2, h3⟩
  · refine ⟨setBlock w b (.map es clock), ?_, grown_setBlock h, .inl ⟨h.no h2, es, clock, ⟨heap_setBlock_same h.heap _, h.kv, h.keys, h.apart, h.old⟩⟩⟩
    simp [Builtin.delete_, run_underlying ht, MapKept.run_getObj_map h.heap, K.check w _ hx, h1, MapKept.run_setObj_map _ h.heap, Result.andThen, setBlock]
  · have hjl : j < es.toList.length := (List.getElem?_eq_some_iff.1 h2).1
    have hjs : j < es.size := by simpa using hjl
    have hsub : (es.eraseIdxIfInBounds j).toList = es.toList.eraseIdx j := by
      unfold Array.eraseIdxIfInBounds
      rw [dif_pos hjs]
      simp
    have hsl := List.eraseIdx_sublist es.toList j
    refine ⟨setBlock w b (.map (es.eraseIdxIfInBounds j) clock), ?_, grown_setBlock h, .inr ⟨j, e0.val, by rw [h.at_ j e0 h2, h3], es.eraseIdxIfInBounds j, clock, ⟨heap_setBlock_same h.heap _, ?_, ?_, ?_, ?_⟩⟩⟩
    · simp [Builtin.delete_, run_underlying ht, MapKept.run_getObj_map h.heap, K.check w _ hx, h1, MapKept.run_setObj_map _ h.heap, Result.andThen, setBlock]
    · rw [hsub, ← h.kv]
      exact map_erase_ _ _ _
    · intro x hx; rw [hsub] at hx; exact h.keys x (hsl.subset hx)
    · rw [hsub]; exact h.apart.sublist hsl
    · intro x hx; rw [hsub] at hx; exact h.old x (hsl.subset hx)
/-- the loop over map b, its iterator in block r; js: the places of the entries that are still to come -/
def Rng (P : Program) (k : TypeId) (w : World) (b r : Nat) (kv : List (Value × Value)) (js : List Nat) : Prop :=
  ∃ es clock since seen c0, MapE P k w b kv es clock ∧ w.heap[r]? = some (.mapIter (some b) since seen c0) ∧ (∀ x ∈ es.toList, x.born < since) ∧ since ≤ c0 ∧ c0 ≤ clock ∧ clock = since ∧ js.Nodup ∧
    (∀ j, j ∈ js → j < kv.length) ∧ ∀ j e, es.toList[j]? = some e → (j ∈ js ↔ seen.contains e.born = false)
theorem Rng.keep {kv : List (Value × Value)} {r : Nat} {js : List Nat} (h : Rng P k w b r kv js) (hb : W.heap[b]? = w.heap[b]?) (hr : W.heap[r]? = w.heap[r]?) : Rng P k W b r kv js := by
  obtain ⟨es, clock, since, seen, c0, h1, h2, h3⟩ := h
  exact ⟨es, clock, since, seen, c0, h1.keep hb, hr.trans h2, h3⟩
theorem Rng.map {kv : List (Value × Value)} {r : Nat} {js : List Nat} (h : Rng P k w b r kv js) : MapR P k w b kv := by
  obtain ⟨es, clock, since, seen, c0, h1, _⟩ := h
  exact ⟨es, clock, h1⟩
theorem Rng.lt {kv : List (Value × Value)} {r : Nat} {js : List Nat} (h : Rng P k w b r kv js) : r < w.heap.size := by
  obtain ⟨es, clock, since, seen, c0, h1, h2, _⟩ := h
  exact (Array.getElem?_eq_some_iff.1 h2).1
theorem Rng.ne {kv : List (Value × Value)} {r : Nat} {js : List Nat} (h : Rng P k w b r kv js) : r ≠ b := by
  obtain ⟨es, clock, since, seen, c0, h1, h2, _⟩ := h
  intro e
  rw [e, h1.heap] at h2
  cases h2
theorem Rng.ne_cells {kv : List (Value × Value)} {r : Nat} {js : List Nat} (h : Rng P k w b r kv js) {p : Nat} {cs : Array Value} {t : TypeId} {f : Nat × Nat} (hp : w.heap[p]? = some (.cells cs t f)) : r ≠ p ∧ b ≠ p := by
  obtain ⟨es, clock, since, seen, c0, h1, h2, _⟩ := h
  exact ⟨fun e => (by rw [e, hp] at h2; cases h2), fun e => (by have := h1.heap; rw [e, hp] at this; cases this)⟩
theorem MapE.len {kv : List (Value × Value)} {es : Array MapEntry} {clock : Nat} (h : MapE P k w b kv es clock) : kv.length = es.toList.length := by rw [← h.kv, List.length_map]
/-- range m -/
theorem MapR.range {kv : List (Value × Value)} {t e : TypeId} (h : MapR P k w b kv) (ht : P.underlying t = some (.map k e)) :
    ∃ w', (Instr.range t (.map (some b))).run P w = .ok (.pointer (some ⟨w.heap.size, 0, none⟩)) w' ∧ Rng P k w' b w.heap.size kv (List.range kv.length) ∧ Below w.heap.size w w' ∧ w'.heap.size = w.heap.size + 1 := by
  have hlt := h.lt
  obtain ⟨es, clock, h⟩ := h
  refine ⟨_, run_range_map w t k e b es clock ht h.heap, ⟨es, clock, clock, #[], clock, h.keep ((MapKept.heap_alloc w _).2 b hlt), (MapKept.heap_alloc w _).1, h.old, Nat.le_refl _, Nat.le_refl _, rfl, List.nodup_range, fun j hj => List.mem_range.1 hj, fun j e he => ?_⟩, (Below.refl _ _).alloc (Nat.le_refl _) _, by simp⟩
  have hjl := (List.getElem?_eq_some_iff.1 he).1
  rw [List.mem_range, h.len]
  simp
  simpa using hjl
theorem mem_left_iff {es : Array MapEntry} {seen : Array Nat} {e : MapEntry} : e ∈ (leftOf es seen).toList ↔ e ∈ es.toList ∧ seen.contains e.born = false := by
  unfold leftOf
  simp
/-- the step -/
theorem Rng.next {kv : List (Value × Value)} {r : Nat} {js : List Nat} (h : Rng P k w b r kv js) (ty : TypeId) :
    (js = [] ∧ (Instr.next (.pointer (some ⟨r, 0, none⟩)) false ty).run P w = .ok (.tuple #[.bool false]) w) ∨
    ∃ j key v w', j ∈ js ∧ kv[j]? = some (key, v) ∧ (Instr.next (.pointer (some ⟨r, 0, none⟩)) false ty).run P w = .ok (.tuple #[.bool true, key, v]) w' ∧ Rng P k w' b r kv (js.erase j) ∧
      w.grownBy w' (some r) ∧ w'.heap.size = w.heap.size ∧ (Instr.entry (.pointer (some ⟨r, 0, none⟩))).run P w' = .ok (.tuple #[key, v]) w' := by
  have hne := h.ne
  obtain ⟨es, clock, since, seen, c0, h1, hr, hold, hsc, hcc, rfl, hnd, hjl, hj⟩ := h
  have hborn : (es.toList.map (·.born)).Nodup := by
    unfold List.Nodup
    rw [List.pairwise_map]
    exact h1.apart
  rcases run_next_at (P := P) w ty r b clock c0 seen es clock hr h1.heap hold hsc with ⟨h0, hrun⟩ | ⟨e, he, w1, hal, hrun⟩
  · refine .inl ⟨?_, hrun⟩
    cases js with
    | nil => rfl
    | cons j js =>
      exfalso
      have hjk := hjl j (by simp)
      rw [h1.len] at hjk
      obtain ⟨e, he⟩ : ∃ e, es.toList[j]? = some e := ⟨_, List.getElem?_eq_getElem hjk⟩
      have hs := (hj j e he).1 (by simp)
      have hm : e ∈ (leftOf es seen).toList := mem_left_iff.2 ⟨List.mem_of_getElem? he, hs⟩
      have : (leftOf es seen).toList.length = 0 := by simpa using h0
      rw [List.eq_nil_of_length_eq_zero this] at hm
      cases hm
  · obtain ⟨hem, hes⟩ := mem_left_iff.1 he
    obtain ⟨j, hje⟩ := List.getElem?_of_mem hem
    have hr1 : w1.heap[r]? = some (.mapIter (some b) clock seen c0) := by rcases hal with rfl | rfl <;> exact hr
    have hb1 : w1.heap[b]? = some (.map es clock) := by rcases hal with rfl | rfl <;> exact h1.heap
    obtain ⟨hset1, hset2⟩ := MapKept.heap_set (o' := .mapIter (some b) clock (seen.push e.born) clock) hr1
    have hb' : (setBlock w1 r (.mapIter (some b) clock (seen.push e.born) clock)).heap[b]? = some (.map es clock) := (hset2 b (fun e1 => hne e1.symm)).trans hb1
    refine .inr ⟨j, e.key, e.val, _, (hj j e hje).2 hes, h1.at_ j e hje, hrun, ⟨es, clock, clock, seen.push e.born, clock, ⟨hb', h1.kv, h1.keys, h1.apart, h1.old⟩, hset1, hold, Nat.le_refl _, Nat.le_refl _, rfl, hnd.erase j, fun i hi => hjl i (List.mem_of_mem_erase hi), fun i x hx => ?_⟩, ?_, ?_,
      run_entry_at _ r b clock seen es clock e hset1 hb' hem hborn⟩
    · rw [hnd.mem_erase_iff, hj i x hx, contains_push]
      have hie : (i = j ↔ x.born = e.born) := by
        constructor
        · rintro rfl
          rw [hje] at hx
          rw [Option.some.inj hx]
        · intro hb
          have := born_inj hborn (List.mem_of_getElem? hx) hem hb
          subst this
          obtain ⟨hil, hie⟩ := List.getElem?_eq_some_iff.1 hx
          obtain ⟨hjl2, hje2⟩ := List.getElem?_eq_some_iff.1 hje
          have hp := List.pairwise_iff_getElem.1 h1.apart
          rcases Nat.lt_trichotomy i j with h | h | h
          · exact absurd (by rw [hie, hje2]) (hp i j hil hjl2 h)
          · exact h
          · exact absurd (by rw [hie, hje2]) (hp j i hjl2 hil h)
      cases hsb : seen.contains x.born with
      | true => simp
      | false =>
        simp only [and_true, Bool.false_or, ne_eq, hie]
        simp
    · rcases hal with rfl | rfl <;> exact ⟨rfl, rfl, rfl, by simp [setBlock], fun i _ hi => hset2 i (fun e1 => hi (by rw [e1]))⟩
    · rcases hal with rfl | rfl <;> simp [setBlock]
theorem filter_range_len {α : Type} (p : α → Bool) : ∀ l : List α, (l.filter p).length = ((List.range l.length).filter fun j => (l[j]?.map p).getD false).length := by
  intro l
  induction l with
  | nil => rfl
  | cons a l ih =>
    rw [List.length_cons, List.range_succ_eq_map, List.filter_cons, List.filter_cons]
    have e : ((List.range l.length).map Nat.succ).filter (fun j => (((a :: l)[j]?).map p).getD false) = ((List.range l.length).filter fun j => (l[j]?.map p).getD false).map Nat.succ := by
      rw [List.filter_map]
      rfl
    rw [e]
    simp only [List.getElem?_cons_zero, Option.map_some, Option.getD_some]
    by_cases ha : p a = true
    · simp [ha, ih]
    · simp [ha, ih]
theorem Rng.left {kv : List (Value × Value)} {r : Nat} {js : List Nat} (h : Rng P k w b r kv js) : w.rangeLeft b r = js.length := by
  obtain ⟨es, clock, since, seen, c0, h1, hr, hold, hsc, hcc, rfl, hnd, hjl, hj⟩ := h
  simp only [World.rangeLeft, h1.heap, hr]
  have e1 : (leftOf es seen).size = (es.toList.filter fun e => !seen.contains e.born).length := by
    unfold leftOf
    rw [← Array.toList_filter, Array.length_toList]
  rw [e1, filter_range_len]
  refine ((List.perm_ext_iff_of_nodup (List.nodup_range.filter _) hnd).2 fun j => ?_).length_eq
  rw [List.mem_filter, List.mem_range]
  constructor
  · rintro ⟨hjn, hs⟩
    rw [List.getElem?_eq_getElem hjn] at hs
    simp only [Option.map_some, Option.getD_some, Bool.not_eq_true'] at hs
    exact (hj j _ (List.getElem?_eq_getElem hjn)).2 hs
  · intro hm
    have hjn := hjl j hm
    rw [h1.len] at hjn
    refine ⟨hjn, ?_⟩
    rw [List.getElem?_eq_getElem hjn]
    have := (hj j _ (List.getElem?_eq_getElem hjn)).1 hm
    simp only [Option.map_some, Option.getD_some, Bool.not_eq_true']
    exact this
end
end Go.Proofs.Ytcejkfjjildngaa
end

section
set_option linter.unusedVariables false
set_option linter.unusedSimpArgs false
set_option autoImplicit false
namespace Go.Proofs.Ytcejkfjjildngaa
open Go.RowKit Go.Proofs.YtcejkfjjildngaaW.PrintWords Go.Proofs.YtcejkfjjildngaaW.PrintLast Go.Proofs.YtcejkfjjildngaaW.PrintMore

/-- the bytes that a slice tells, in blocks of which S tells -/
def HeldB (w : World) (S : Nat → Prop) (A : Option Addr) (l : List Int) : Prop :=
  0 < l.length → ∃ ad, A = some ad ∧ S ad.block ∧ ∀ j, j < l.length → w.cell? (ad.add j) = some (.int .u8 (rd l j))
theorem lt_of_heap {w : World} {g : Nat} {o : Obj} (h : w.heap[g]? = some o) : g < w.heap.size := (Array.getElem?_eq_some_iff.1 h).1
theorem HeldB.keep {w w' : World} {S : Nat → Prop} {A : Option Addr} {l : List Int} (h : HeldB w S A l) (hk : ∀ k, k < w.heap.size → S k → w'.heap[k]? = w.heap[k]?) : HeldB w' S A l := by
  intro hl
  obtain ⟨ad, rfl, hS, hc⟩ := h hl
  refine ⟨ad, rfl, hS, fun j hj => ?_⟩
  have h1 := hc j hj
  have hlt := World.block_lt_of_cell? w _ h1
  have hb : (ad.add j).block = ad.block := add_block _ _
  rw [World.cell?_of_block (w := w) (by rw [hb]; exact hk _ (by rwa [hb] at hlt) hS)]
  exact h1
theorem HeldB.C {w : World} {S : Nat → Prop} {A : Option Addr} {l : List Int} (h : HeldB w S A l) (hl : l.length ≤ 9223372036854775807) : (Kd.int .u8).C w A l.length l :=
  Kd.C_of_reads (d := (0 : Int)) ⟨rfl, hl, fun h0 => by obtain ⟨ad, rfl, _, hc⟩ := h h0; exact ⟨ad, rfl, fun j hj => by have := hc j hj; simpa [rd] using this⟩⟩
theorem HeldB.of_C {w : World} {S : Nat → Prop} {A : Option Addr} {l : List Int} (h : (Kd.int .u8).C w A l.length l) (hS : ∀ ad, A = some ad → 0 < l.length → S ad.block) : HeldB w S A l := by
  intro h0
  obtain ⟨_, _, hr⟩ := Kd.reads_of_C (d := (0 : Int)) h
  obtain ⟨ad, rfl, hc⟩ := hr h0
  exact ⟨ad, rfl, hS ad rfl h0, fun j hj => by have := hc j hj; simpa [rd] using this⟩

theorem held_own {W : World} {base e : Nat} {ok : Nat → Prop} {v : Value} {xs : List Int} (h : (Kd.int .u8).R e W base ok v xs) :
    ∃ A c, v = .slice A xs.length c ∧ xs.length ≤ c ∧ c ≤ 9223372036854775807 ∧ HeldB W (fun k => base ≤ k ∧ k < W.heap.size) A xs ∧ (Kd.int .u8).C W A xs.length xs := by
  obtain ⟨A, c, rfl, hc, hC⟩ := own_C h
  obtain ⟨_, ho⟩ := kd_own h
  rcases ho with ⟨h1, h2⟩ | ⟨g, cap, cur, h1, h2, h3, h4, h5, h6, h7⟩
  · simp only [Value.slice.injEq] at h1
    obtain ⟨rfl, _, rfl⟩ := h1
    exact ⟨none, 0, rfl, by omega, by omega, fun h0 => absurd h0 (by omega), hC⟩
  · cases h1
    refine ⟨_, _, rfl, hc, by simpa [maxLen] using h5, HeldB.of_C hC ?_, hC⟩
    rintro ad hA _
    cases hA
    exact ⟨h2, lt_of_heap h3⟩
theorem HeldB.below {w w' : World} {S : Nat → Prop} {A : Option Addr} {l : List Int} (h : HeldB w S A l) (hb : Below w.heap.size w w') : HeldB w' S A l := h.keep fun k hk _ => hb.block k hk
theorem HeldB.grown {w w' : World} {S : Nat → Prop} {A : Option Addr} {l : List Int} {r : Nat} (h : HeldB w S A l) (hb : w.grownBy w' (some r)) (h2 : ¬ S r) : HeldB w' S A l :=
  h.keep fun k hk hs => hb.block k hk (fun e => by cases e; exact h2 hs)
theorem HeldB.low {w : World} {A : Option Addr} {l : List Int} (h : (Kd.int .u8).C w A l.length l) : HeldB w (fun k => k < w.heap.size) A l := by
  refine HeldB.of_C h ?_
  rintro ad rfl h0
  obtain ⟨_, _, hr⟩ := Kd.reads_of_C (d := (0 : Int)) h
  obtain ⟨ad', e, hc⟩ := hr h0
  cases e
  have := World.block_lt_of_cell? _ _ (hc 0 h0)
  rwa [add_block] at this
theorem below_of_grown {w0 a b : World} {g : Nat} (h : Below w0.heap.size w0 a) (k : a.grownBy b (some g)) (hg : w0.heap.size ≤ g) : Below w0.heap.size w0 b :=
  h.grown k h.size (fun k hk => by cases hk; exact hg)
theorem below_via {w W W' : World} (h : Below W.heap.size W W') (h0 : Below w.heap.size w W) : Below w.heap.size w W' := h0.trans (h.mono h0.size)
end Go.Proofs.Ytcejkfjjildngaa
end

section
/- a disk in memory: its files, and what is framed -/
set_option linter.unusedVariables false
set_option linter.unusedSimpArgs false
set_option autoImplicit false
namespace Go.Proofs.Ytcejkfjjildngaa
open Go Go.RowKit Go.Proofs.YtcejkfjjildngaaW.PrintWords Go.Proofs.YtcejkfjjildngaaW.PrintLast Go.Proofs.YtcejkfjjildngaaW.PrintMore

/-! ### what is turned lies in S -/
structure Fr (S : Nat → Prop) (w w' : World) : Prop where
  os : w'.os = w.os
  tape : w'.tape = w.tape
  output : w'.output = w.output
  size : w.heap.size ≤ w'.heap.size
  block : ∀ k, k < w.heap.size → ¬ S k → w'.heap[k]? = w.heap[k]?
theorem Fr.refl (S : Nat → Prop) (w : World) : Fr S w w := ⟨rfl, rfl, rfl, Nat.le_refl _, fun _ _ _ => rfl⟩
theorem Fr.trans {S S1 : Nat → Prop} {a b c : World} (h : Fr S a b) (h1 : Fr S1 b c) (hs : ∀ k, S1 k → S k ∨ a.heap.size ≤ k) : Fr S a c :=
  ⟨h1.os.trans h.os, h1.tape.trans h.tape, h1.output.trans h.output, Nat.le_trans h.size h1.size, fun k hk hn => (h1.block k (Nat.lt_of_lt_of_le hk h.size) (fun hh => (hs k hh).elim hn (fun hh => by omega))).trans (h.block k hk hn)⟩
theorem Fr.of_below {S : Nat → Prop} {w w' : World} (h : Below w.heap.size w w') : Fr S w w' := ⟨h.os, h.tape, h.output, h.size, fun k hk _ => h.block k hk⟩
theorem Fr.of_grown {S : Nat → Prop} {w w' : World} {r : Option Nat} (h : w.grownBy w' r) (hr : ∀ k, r = some k → S k) : Fr S w w' := ⟨h.os, h.tape, h.output, h.size, fun k hk hn => h.block k hk (fun e => hn (hr k e.symm))⟩
theorem Fr.below {S : Nat → Prop} {w0 w w' : World} (hB : Below w0.heap.size w0 w) (h : Fr S w w') (hs : ∀ k, S k → w0.heap.size ≤ k) : Below w0.heap.size w0 w' :=
  ⟨h.os.trans hB.os, h.tape.trans hB.tape, h.output.trans hB.output, Nat.le_trans hB.size h.size, fun k hk => (h.block k (Nat.lt_of_lt_of_le hk hB.size) (fun hh => by have := hs k hh; omega)).trans (hB.block k hk)⟩
theorem Fr.mono {S S' : Nat → Prop} {w w' : World} (h : Fr S w w') (hs : ∀ k, S k → S' k) : Fr S' w w' := ⟨h.os, h.tape, h.output, h.size, fun k hk hn => h.block k hk (fun hh => hn (hs k hh))⟩
theorem Fr.set {S : Nat → Prop} {w : World} {g : Nat} (hg : S g) (j : Nat) (v : Value) : Fr S w (w.setCell ⟨g, j, none⟩ v) :=
  ⟨rfl, rfl, rfl, by simp [World.setCell], fun k _ hn => Below.heap_setCell w _ _ k (fun e => hn (by rw [e]; exact hg))⟩

/-! ### files -/
def u8s (l : List Int) : Prop := ∀ x ∈ l, 0 ≤ x ∧ x < 256
theorem u8s_take {l : List Int} (h : u8s l) (n : Nat) : u8s (l.take n) := fun x hx => h x (List.mem_of_mem_take hx)
theorem u8s_app {a b : List Int} (ha : u8s a) (hb : u8s b) : u8s (a ++ b) := fun x hx => (List.mem_append.1 hx).elim (ha x) (hb x)
structure FileV where
  n : ByteArray
  d : List Int
  s : Int
structure FileOk (f : FileV) : Prop where
  s0 : 0 ≤ f.s
  s1 : f.s ≤ f.d.length
  u8 : u8s f.d
  n : f.n.size ≤ 24
def FileR (S : Nat → Prop) (w : World) (f : FileV) (p : Nat) : Prop :=
  S p ∧ ∃ v, w.heap[p]? = some (.cells #[v, .int .i64 f.s] 56 (0, 0)) ∧ (Kd.int .u8).R 5 w 0 S v f.d
structure DD where
  fs : List FileV
  room : Int
  dies : Bool
  left : Int
  dead : Bool
def sumL (l : List FileV) : Nat := (l.map fun f => f.d.length).sum
def entsOf (ps : List (FileV × Nat)) : List (Value × Value) := ps.map fun q => (.string q.1.n, .pointer (some ⟨q.2, 0, none⟩))
structure DDOk (D : DD) : Prop where
  files : ∀ f ∈ D.fs, FileOk f
  names : (D.fs.map FileV.n).Nodup
  total : (sumL D.fs : Int) ≤ D.room
  room : D.room ≤ 9223372036854775807
  left0 : 0 ≤ D.left
  left1 : D.left ≤ 9223372036854775807
structure DiskR (S : Nat → Prop) (w : World) (g : Nat) (D : DD) : Prop where
  ok : DDOk D
  bound : ∀ k, S k → k < w.heap.size
  own : S g
  mem : ∃ m ps, D.fs = ps.map Prod.fst ∧ w.heap[g]? = some (.cells #[.map (some m), .int .i64 D.room, .bool D.dies, .int .i64 D.left, .bool D.dead] 51 (0, 0)) ∧ S m ∧
    MapR Try.prog 9 w m (entsOf ps) ∧ (ps.map Prod.snd).Nodup ∧ ∀ q ∈ ps, FileR S w q.1 q.2
/-- the disk is so behind the call, and nothing else has turned -/
def After (S : Nat → Prop) (w w' : World) (g : Nat) (D : DD) : Prop := ∃ S', DiskR S' w' g D ∧ Fr S w w' ∧ ∀ k, S' k → S k ∨ w.heap.size ≤ k
theorem FileR.keep {S : Nat → Prop} {w w' : World} {f : FileV} {p : Nat} (h : FileR S w f p) (hk : ∀ k, S k → k < w.heap.size → w'.heap[k]? = w.heap[k]?) : FileR S w' f p := by
  obtain ⟨h1, v, h2, h3⟩ := h
  exact ⟨h1, v, by rw [hk p h1 (lt_of_heap h2)]; exact h2, Kd.R_step h3 hk⟩
theorem FileR.mono {S S' : Nat → Prop} {w : World} {f : FileV} {p : Nat} (h : FileR S w f p) (hk : ∀ k, S k → S' k) : FileR S' w f p := by
  obtain ⟨h1, v, h2, h3⟩ := h
  exact ⟨hk p h1, v, h2, Kd.R_mono h3 hk⟩
theorem DiskR.keep {S : Nat → Prop} {w w' : World} {g : Nat} {D : DD} (h : DiskR S w g D) (hk : ∀ k, S k → w'.heap[k]? = w.heap[k]?) (hs : w.heap.size ≤ w'.heap.size) : DiskR S w' g D := by
  obtain ⟨h1, h2, h3, m, ps, h4, h5, h6, h7, h8, h9⟩ := h
  exact ⟨h1, fun k hk => Nat.lt_of_lt_of_le (h2 k hk) hs, h3, m, ps, h4, (hk g h3).trans h5, h6, h7.keep (hk m h6), h8, fun q hq => (h9 q hq).keep fun k h _ => hk k h⟩
theorem DiskR.below {S : Nat → Prop} {w w' : World} {g : Nat} {D : DD} (h : DiskR S w g D) (hb : Below w.heap.size w w') : DiskR S w' g D := h.keep (fun k hk => hb.block k (h.bound k hk)) hb.size
theorem DiskR.apart {S S1 : Nat → Prop} {w w' : World} {g : Nat} {D : DD} (h : DiskR S w g D) (hf : Fr S1 w w') (hd : ∀ k, S k → ¬ S1 k) : DiskR S w' g D := h.keep (fun k hk => hf.block k (h.bound k hk) (hd k hk)) hf.size
theorem After.refl {S : Nat → Prop} {w : World} {g : Nat} {D : DD} (h : DiskR S w g D) : After S w w g D := ⟨S, h, Fr.refl _ _, fun k hk => .inl hk⟩
theorem After.of_below {S : Nat → Prop} {w w' : World} {g : Nat} {D : DD} (h : DiskR S w g D) (hb : Below w.heap.size w w') : After S w w' g D := ⟨S, h.below hb, .of_below hb, fun k hk => .inl hk⟩
theorem After.trans {S S1 : Nat → Prop} {a b c : World} {g : Nat} {D : DD} (hf : Fr S a b) (hs : ∀ k, S1 k → S k ∨ a.heap.size ≤ k) (h : After S1 b c g D) : After S a c g D := by
  obtain ⟨S2, h1, h2, h3⟩ := h
  exact ⟨S2, h1, hf.trans h2 hs, fun k hk => (h3 k hk).elim (hs k) (fun h => .inr (Nat.le_trans hf.size h))⟩
/-- a call that only lays blocks, and the rest behind it -/
theorem After.behind {S : Nat → Prop} {a b c : World} {g : Nat} {D : DD} (hb : Below a.heap.size a b) (h : After S b c g D) : After S a c g D := After.trans (Fr.of_below hb) (fun k hk => .inl hk) h

/-! ### names in the map -/
theorem lawS : Go.Maps.Keyed Try.prog 9 := Go.Maps.string_keyed Try.underlying9
theorem key_S (s : ByteArray) (h : s.size ≤ maxLen) : ∃ l, keyOf Try.prog 9 (.string s) = some l := by
  refine ⟨.string s.data.toList, ?_⟩
  unfold keyOf
  rw [Try.underlying9]
  simp [mapKey, Try.underlying9, h]
theorem zeroP (W : World) : (zeroValue 59).run Try.prog W = .ok (.pointer none) W := by kernel_rfl
theorem ents_at {ps : List (FileV × Nat)} {j : Nat} {x v : Value} (h : (entsOf ps)[j]? = some (x, v)) : ∃ q, ps[j]? = some q ∧ x = .string q.1.n ∧ v = .pointer (some ⟨q.2, 0, none⟩) := by
  unfold entsOf at h
  rw [List.getElem?_map, Option.map_eq_some_iff] at h
  obtain ⟨q, h1, h2⟩ := h
  obtain ⟨e1, e2⟩ := Prod.mk.inj h2
  exact ⟨q, h1, e1.symm, e2.symm⟩
def DD.find (D : DD) (n : ByteArray) : Option FileV := D.fs.find? fun f => decide (f.n = n)
theorem find_none {l : List FileV} {n : ByteArray} (h : ∀ f ∈ l, f.n ≠ n) : l.find? (fun f => decide (f.n = n)) = none := by
  rw [List.find?_eq_none]
  intro x hx hh
  exact h x hx (of_decide_eq_true hh)
theorem nodup_at {l : List FileV} (hn : (l.map FileV.n).Nodup) {i j : Nat} {a b : FileV} (hi : l[i]? = some a) (hj : l[j]? = some b) (h : a.n = b.n) : i = j := by
  obtain ⟨hil, hie⟩ := List.getElem?_eq_some_iff.1 hi
  obtain ⟨hjl, hje⟩ := List.getElem?_eq_some_iff.1 hj
  unfold List.Nodup at hn
  rw [List.pairwise_map] at hn
  have hp := List.pairwise_iff_getElem.1 hn
  rcases Nat.lt_trichotomy i j with h1 | h1 | h1
  · exact absurd (by rw [hie, hje]; exact h) (hp i j hil hjl h1)
  · exact h1
  · exact absurd (by rw [hie, hje]; exact h.symm) (hp j i hjl hil h1)
theorem find_at {l : List FileV} (hn : (l.map FileV.n).Nodup) {j : Nat} {f : FileV} (hj : l[j]? = some f) : l.find? (fun x => decide (x.n = f.n)) = some f := by
  obtain ⟨hjl, hje⟩ := List.getElem?_eq_some_iff.1 hj
  cases hf : l.find? (fun x => decide (x.n = f.n)) with
  | none => rw [List.find?_eq_none] at hf; exact absurd (decide_eq_true rfl) (hf f (List.mem_of_getElem? hj))
  | some a =>
    obtain ⟨i, hi⟩ := List.getElem?_of_mem (List.mem_of_find?_eq_some hf)
    have := nodup_at hn hi hj (of_decide_eq_true (List.find?_some (p := fun x : FileV => decide (x.n = f.n)) hf))
    subst this
    rw [← hi, hj]
/-- d.files[name] -/
theorem look {S : Nat → Prop} {w : World} {m : Nat} {ps : List (FileV × Nat)} (h : MapR Try.prog 9 w m (entsOf ps)) (hn : ((ps.map Prod.fst).map FileV.n).Nodup) (n : ByteArray) (hs : n.size ≤ maxLen) (c : Bool) :
    ((Instr.lookup 49 (.map (some m)) (.string n) c).run Try.prog w = .ok (if c then .tuple #[.pointer none, .bool false] else .pointer none) w ∧ (ps.map Prod.fst).find? (fun f => decide (f.n = n)) = none) ∨
    ∃ (j : Nat) (q : FileV × Nat), ps[j]? = some q ∧ q.1.n = n ∧ (ps.map Prod.fst).find? (fun f => decide (f.n = n)) = some q.1 ∧ (Instr.lookup 49 (.map (some m)) (.string n) c).run Try.prog w = .ok (if c then .tuple #[.pointer (some ⟨q.2, 0, none⟩), .bool true] else .pointer (some ⟨q.2, 0, none⟩)) w := by
  obtain ⟨l, hl⟩ := key_S n hs
  rcases h.lookup lawS Try.underlying49 (zeroP w) hl c with ⟨h1, h2⟩ | ⟨j, v, h1, h2⟩
  · refine .inl ⟨h1, find_none fun f hf e => ?_⟩
    obtain ⟨q, hq, rfl⟩ := List.mem_map.1 hf
    exact h2 (.string q.1.n, .pointer (some ⟨q.2, 0, none⟩)) (List.mem_map.2 ⟨q, hq, rfl⟩) (by rw [e])
  · obtain ⟨q, hq, e1, e2⟩ := ents_at h1
    subst e2
    injection e1 with e1
    subst e1
    exact .inr ⟨j, q, hq, rfl, find_at hn (by rw [List.getElem?_map, hq]; rfl), h2⟩
theorem DiskR.cells {S : Nat → Prop} {w : World} {g : Nat} {D : DD} (h : DiskR S w g D) : ∃ m ps, D.fs = ps.map Prod.fst ∧ w.heap[g]? = some (.cells #[.map (some m), .int .i64 D.room, .bool D.dies, .int .i64 D.left, .bool D.dead] 51 (0, 0)) ∧ S m ∧
    MapR Try.prog 9 w m (entsOf ps) ∧ (ps.map Prod.snd).Nodup ∧ (∀ q ∈ ps, FileR S w q.1 q.2) ∧
    (w.cell? ⟨g, 0, none⟩ = some (.map (some m)) ∧ w.cell? ⟨g, 1, none⟩ = some (.int .i64 D.room) ∧ w.cell? ⟨g, 2, none⟩ = some (.bool D.dies) ∧ w.cell? ⟨g, 3, none⟩ = some (.int .i64 D.left) ∧ w.cell? ⟨g, 4, none⟩ = some (.bool D.dead)) ∧
    ∀ j, w.frozen? ⟨g, j, none⟩ = false := by
  obtain ⟨m, ps, h4, h5, h6, h7, h8, h9⟩ := h.mem
  exact ⟨m, ps, h4, h5, h6, h7, h8, h9, ⟨by rw [cell_of_row _ _ _ _ _ _ h5]; rfl, by rw [cell_of_row _ _ _ _ _ _ h5]; rfl, by rw [cell_of_row _ _ _ _ _ _ h5]; rfl, by rw [cell_of_row _ _ _ _ _ _ h5]; rfl, by rw [cell_of_row _ _ _ _ _ _ h5]; rfl⟩, fun j => frozen_of_row _ _ _ _ _ h5⟩
/-- a field that is stored -/
theorem DiskR.put {S : Nat → Prop} {w : World} {g : Nat} {D : DD} (h : DiskR S w g D) (D' : DD) (hf : D'.fs = D.fs) (hok : DDOk D') (j : Nat) (v : Value)
    (hc : ∀ m : Nat, (#[Value.map (some m), .int .i64 D.room, .bool D.dies, .int .i64 D.left, .bool D.dead].setIfInBounds j v) = #[.map (some m), .int .i64 D'.room, .bool D'.dies, .int .i64 D'.left, .bool D'.dead]) :
    DiskR S (w.setCell ⟨g, j, none⟩ v) g D' := by
  obtain ⟨h1, h2, h3, m, ps, h4, h5, h6, h7, h8, h9⟩ := h
  have hne : g ≠ m := by
    rintro rfl
    obtain ⟨es, c, h7⟩ := h7
    rw [h7.heap] at h5
    cases h5
  refine ⟨hok, fun k hk => by simpa [World.setCell] using h2 k hk, h3, m, ps, hf.trans h4, ?_, h6, h7.keep (Below.heap_setCell w _ _ m (fun e => hne e.symm)), h8, fun q hq => ?_⟩
  · rw [heap_setCell_same _ _ _ _ _ _ h5, hc m]
  · obtain ⟨hp, v1, hp2, hp3⟩ := h9 q hq
    refine ⟨hp, v1, ?_, Kd.R_set hp3 h5 (by decide) j v⟩
    rw [Below.heap_setCell w _ _ q.2 (fun e => by
      have e : q.2 = g := e
      rw [e, h5] at hp2
      injection hp2 with hp2
      injection hp2 with _ hp2
      cases hp2)]
    exact hp2
end Go.Proofs.Ytcejkfjjildngaa
end

section
/- the disk: New, Dead, Kill, spend, used; walked -/
set_option linter.unusedVariables false
set_option linter.unusedSimpArgs false
set_option autoImplicit false
namespace Go.Proofs.Ytcejkfjjildngaa
open Go Go.RowKit Go.Proofs.YtcejkfjjildngaaW.PrintWords Go.Proofs.YtcejkfjjildngaaW.PrintLast Go.Proofs.YtcejkfjjildngaaW.PrintMore

theorem wnew (room : Int) (hr : room ≤ 9223372036854775807) (w : World) : Calls Try.prog 10 #[.int .i64 room] w fun e w' => ∃ g, e = .returned (.pointer (some ⟨g, 0, none⟩)) ∧
    ∃ S, DiskR S w' g ⟨[], max room 0, false, 0, false⟩ ∧ (∀ k, S k → w.heap.size ≤ k) ∧ Below w.heap.size w w' := by
  have hmm := @run_makeMap Try.prog
  have fin : ∀ n : Int, n = max room 0 → ∃ S, DiskR S ((w.alloc (.map #[] 0)).alloc (.cells #[.map (some w.heap.size), .int .i64 n, .bool false, .int .i64 0, .bool false] 51 (0, 0))) (w.heap.size + 1) ⟨[], max room 0, false, 0, false⟩ ∧ (∀ k, S k → w.heap.size ≤ k) ∧
      Below w.heap.size w ((w.alloc (.map #[] 0)).alloc (.cells #[.map (some w.heap.size), .int .i64 n, .bool false, .int .i64 0, .bool false] 51 (0, 0))) := by
    rintro n rfl
    have hm := MapR.made w Try.prog 9
    refine ⟨fun k => k = w.heap.size ∨ k = w.heap.size + 1, ⟨⟨fun f hf => (by cases hf), List.nodup_nil, ?_, ?_, by simp, by simp⟩, ?_, .inr rfl, w.heap.size, [], rfl, ?_, .inl rfl, ?_, List.nodup_nil, fun q hq => (by cases hq)⟩, fun k hk => (by omega), ((Below.refl _ _).alloc (Nat.le_refl _) _).alloc (by simp) _⟩
    · show (0 : Int) ≤ max room 0
      omega
    · show max room 0 ≤ _
      omega
    · intro k hk
      simp only [World.size_alloc]
      omega
    · have := heap_alloc_new (w.alloc (.map #[] 0)) (.cells #[.map (some w.heap.size), .int .i64 (max room 0), .bool false, .int .i64 0, .bool false] 51 (0, 0))
      rw [World.size_alloc] at this
      exact this
    · exact hm.keep (Below.heap_alloc _ _ _ (by simp))
  have FIN := Aside0.mk fin
  clear fin
  go_enter Try.func10, Try.ntmps10
  go_wp2_with fail
  all_goals (go_ret; refine ⟨_, rfl, ?_⟩; refine FIN.out _ ?_; omega)
theorem wdead {S : Nat → Prop} {g : Nat} {D : DD} {w : World} (h : DiskR S w g D) : Calls Try.prog 20 #[.pointer (some ⟨g, 0, none⟩)] w fun e w' => e = .returned (.bool D.dead) ∧ w' = w := by
  obtain ⟨m, ps, -, -, -, -, -, -, ⟨c0, c1, c2, c3, c4⟩, -⟩ := h.cells
  go_enter Try.func20, Try.ntmps20
  go_wp2_with fail
  go_ret
  exact ⟨rfl, rfl⟩
theorem wkill {S : Nat → Prop} {g : Nat} {D : DD} {w : World} (h : DiskR S w g D) (a : Int) (ha : a ≤ 9223372036854775807) : Calls Try.prog 22 #[.pointer (some ⟨g, 0, none⟩), .int .i64 a] w fun e w' => e = .returned (.tuple #[]) ∧ After S w w' g { D with dies := true, left := max a 0 } := by
  obtain ⟨m, ps, -, -, -, -, -, -, ⟨c0, c1, c2, c3, c4⟩, hfr⟩ := h.cells
  have f2 := hfr 2
  have f3 := hfr 3
  have fin : ∀ n : Int, n = max a 0 → After S w ((w.setCell ⟨g, 2, none⟩ (.bool true)).setCell ⟨g, 3, none⟩ (.int .i64 n)) g { D with dies := true, left := max a 0 } := by
    rintro n rfl
    have h1 := h.put { D with dies := true } rfl ⟨h.ok.files, h.ok.names, h.ok.total, h.ok.room, h.ok.left0, h.ok.left1⟩ 2 (.bool true) (fun m => rfl)
    have h2 := h1.put { D with dies := true, left := max a 0 } rfl ⟨h.ok.files, h.ok.names, h.ok.total, h.ok.room, by show 0 ≤ max a 0; omega, by show max a 0 ≤ _; omega⟩ 3 (.int .i64 (max a 0)) (fun m => rfl)
    exact ⟨S, h2, (Fr.set h.own 2 _).trans (Fr.set h.own 3 _) (fun k hk => .inl hk), fun k hk => .inl hk⟩
  have FIN := Aside0.mk fin
  clear h hfr fin
  go_enter Try.func22, Try.ntmps22
  go_wp2_with fail
  all_goals (go_end0; refine ⟨rfl, ?_⟩; refine FIN.out _ ?_; omega)
/-! ### units -/
def DD.spend (D : DD) (n : Int) : Int × DD := if D.dies = false then (n, D) else if D.left < n then (D.left, { D with left := 0, dead := true }) else (n, { D with left := D.left - n })
theorem spend_fs (D : DD) (n : Int) : (D.spend n).2.fs = D.fs ∧ (D.spend n).2.room = D.room := by
  unfold DD.spend; split
  · exact ⟨rfl, rfl⟩
  · split <;> exact ⟨rfl, rfl⟩
theorem spend_ok {D : DD} (h : DDOk D) (n : Int) (hn : 0 ≤ n) : DDOk (D.spend n).2 := by
  unfold DD.spend
  split
  · exact h
  · split
    · exact ⟨h.files, h.names, h.total, h.room, by simp, by simp⟩
    · exact ⟨h.files, h.names, h.total, h.room, by show 0 ≤ D.left - n; omega, by have := h.left1; show D.left - n ≤ _; omega⟩
theorem wspend {S : Nat → Prop} {g : Nat} {D : DD} {w : World} (h : DiskR S w g D) (n : Int) (hn : 0 ≤ n) : Calls Try.prog 47 #[.pointer (some ⟨g, 0, none⟩), .int .i64 n] w fun e w' => e = .returned (.int .i64 (D.spend n).1) ∧ DiskR S w' g (D.spend n).2 ∧ Fr (fun k => k = g) w w' := by
  obtain ⟨m, ps, -, -, -, -, -, -, ⟨c0, c1, c2, c3, c4⟩, hfr⟩ := h.cells
  have f3 := hfr 3
  have f4 := hfr 4
  have hl0 := h.ok.left0
  have hl1 := h.ok.left1
  have H := Aside0.mk h
  have hok := spend_ok h.ok n hn
  have hsp := spend_fs D n
  unfold DD.spend at hok hsp ⊢
  clear h hfr
  by_cases hd : D.dies = false
  case pos =>
    rw [if_pos hd]
    rw [hd] at c2
    clear hok hsp
    go_enter Try.func47, Try.ntmps47
    go_wp2_with fail
    go_ret
    exact ⟨rfl, H.out, Fr.refl _ _⟩
  have hd' : D.dies = true := by simpa using hd
  rw [if_neg hd] at hok hsp ⊢
  rw [hd'] at c2
  by_cases hlt : D.left < n
  case pos =>
    rw [if_pos hlt] at hok hsp ⊢
    have h1 := H.out.put { D with dead := true } rfl ⟨H.out.ok.files, H.out.ok.names, H.out.ok.total, H.out.ok.room, H.out.ok.left0, H.out.ok.left1⟩ 4 (.bool true) (fun m => rfl)
    have h2 := h1.put { D with left := 0, dead := true } rfl hok 3 (.int .i64 0) (fun m => rfl)
    have HF := Aside0.mk (And.intro h2 ((Fr.set (S := fun k => k = g) (w := w) rfl 4 (.bool true)).trans (Fr.set (S := fun k => k = g) rfl 3 (.int .i64 0)) (fun k hk => .inl hk)))
    have hz : wrap64 (D.left - D.left) = 0 := by unfold wrap64; omega
    have hgt : n > D.left := hlt
    clear h1 h2 hok hsp
    go_enter Try.func47, Try.ntmps47
    go_wp2_with fail
    go_ret
    exact ⟨rfl, HF.out⟩
  case neg =>
    rw [if_neg hlt] at hok hsp ⊢
    have h2 := H.out.put ⟨D.fs, D.room, true, D.left - n, D.dead⟩ rfl (by rw [hd'] at hok; exact hok) 3 (.int .i64 (D.left - n)) (fun m => by rw [hd']; rfl)
    have HF := Aside0.mk (And.intro h2 (Fr.set (S := fun k => k = g) (w := w) rfl 3 (.int .i64 (D.left - n))))
    have hz : wrap64 (D.left - n) = D.left - n := by unfold wrap64; omega
    have hgt : ¬ n > D.left := hlt
    clear h2 hok hsp
    go_enter Try.func47, Try.ntmps47
    go_wp2_with fail
    go_ret
    exact ⟨rfl, HF.out⟩
end Go.Proofs.Ytcejkfjjildngaa
end

section
/- the disk: used, walked -/
set_option linter.unusedVariables false
set_option linter.unusedSimpArgs false
set_option autoImplicit false
namespace Go.Proofs.Ytcejkfjjildngaa
open Go Go.RowKit Go.Proofs.YtcejkfjjildngaaW.PrintWords Go.Proofs.YtcejkfjjildngaaW.PrintLast Go.Proofs.YtcejkfjjildngaaW.PrintMore

def lenAt (ps : List (FileV × Nat)) (j : Nat) : Nat := match ps[j]? with
  | some q => q.1.d.length
  | none => 0
def sumAt (ps : List (FileV × Nat)) (js : List Nat) : Nat := (js.map (lenAt ps)).sum
theorem sumAt_erase (ps : List (FileV × Nat)) {js : List Nat} {j : Nat} (h : j ∈ js) : sumAt ps (js.erase j) + lenAt ps j = sumAt ps js := by
  have hp := (List.perm_cons_erase h).map (lenAt ps)
  unfold sumAt
  rw [hp.sum_nat, List.map_cons, List.sum_cons]
  omega
theorem sumAt_all (ps : List (FileV × Nat)) : sumAt ps (List.range ps.length) = sumL (ps.map Prod.fst) := by
  unfold sumAt sumL
  congr 1
  rw [List.map_map]
  refine List.ext_getElem? fun i => ?_
  rw [List.getElem?_map, List.getElem?_map]
  by_cases hi : i < ps.length
  · rw [List.getElem?_range hi, List.getElem?_eq_getElem hi]
    simp [lenAt, List.getElem?_eq_getElem hi]
  · rw [List.getElem?_eq_none (by simpa using hi), List.getElem?_eq_none (by simpa using hi)]
    rfl
set_option maxRecDepth 100000 in
set_option maxHeartbeats 4000000 in
theorem wused {S : Nat → Prop} {g : Nat} {D : DD} {w : World} (h : DiskR S w g D) : Calls Try.prog 45 #[.pointer (some ⟨g, 0, none⟩)] w fun e w' => e = .returned (.int .i64 (sumL D.fs : Nat)) ∧ Below w.heap.size w w' := by
  obtain ⟨m, ps, hfs, -, -, hmap, -, hfiles, ⟨c0, -, -, -, -⟩, -⟩ := h.cells
  have htot := h.ok.total
  have hroom := h.ok.room
  rw [hfs] at htot ⊢
  rw [← sumAt_all] at htot ⊢
  have hrm : ((sumAt ps (List.range ps.length) : Nat) : Int) ≤ 9223372036854775807 := by omega
  obtain ⟨w1, hrun, hR, hB, hsz⟩ := hmap.range Try.underlying49
  have hlen : (entsOf ps).length = ps.length := by unfold entsOf; rw [List.length_map]
  rw [hlen] at hR
  have HF := Aside0.mk hfiles
  have HR := Aside0.mk hR
  have HB := Aside0.mk hB
  have HM := Aside0.mk hrm
  clear hfs hmap hfiles htot hroom hlen hR hB hrm h hsz
  obtain ⟨T, hT⟩ : ∃ T, sumAt ps (List.range ps.length) = T := ⟨_, rfl⟩
  have HT := Aside0.mk hT
  rw [hT] at HM ⊢
  clear hT
  go_enter Try.func45, Try.ntmps45
  go_upto_region 2 with fail
  go_loopw [2] (fun n wr => ∃ js : List Nat, n = .int .i64 ((T - sumAt ps js : Nat) : Int) ∧ Aside0 (sumAt ps js ≤ T) ∧ Aside0 (Rng Try.prog 9 wr m w.heap.size (entsOf ps) js) ∧ Aside0 (Below w.heap.size w wr)) (fun _ wr => wr.rangeLeft m w.heap.size)
  case atStart => exact ⟨List.range ps.length, by rw [HT.out, Nat.sub_self]; rfl, ⟨Nat.le_of_eq HT.out⟩, HR, HB⟩
  case round =>
    obtain ⟨js, rfl, HS, HRr, HBr⟩ := hrel
    clear HR HB HT
    rcases HRr.out.next 0 with ⟨rfl, hnx⟩ | ⟨j, key, v, w2, hj, hkv, hnx, hR2, hg2, hs2, hen⟩
    case inl =>
      have hz : ((T - sumAt ps [] : Nat) : Int) = (T : Int) := by simp [sumAt]
      rw [hz]
      clear HS HRr
      go_wp2_with fail
      go_ret
      exact ⟨rfl, HBr.out⟩
    obtain ⟨q, hq, rfl, rfl⟩ := ents_at hkv
    obtain ⟨hSq, fv, hfv, hfR⟩ := HF.out q (List.mem_of_getElem? hq)
    obtain ⟨A, c, rfl⟩ := Kd.R_slice hfR
    have hB2 := HBr.out.grown hg2 HBr.out.size (fun k hk => by cases hk; exact Nat.le_refl _)
    have hfc : w2.cell? ⟨q.2, 0, none⟩ = some (.slice A q.1.d.length c) := by rw [hB2.cell (lt_of_heap hfv), cell_of_row _ _ _ _ _ _ hfv]; rfl
    have hla : lenAt ps j = q.1.d.length := by unfold lenAt; rw [hq]
    have her := sumAt_erase ps hj
    have hHS := HS.out
    have hHM := HM.out
    have hmeas : w2.rangeLeft m w.heap.size < wr.rangeLeft m w.heap.size := by rw [hR2.left, HRr.out.left, List.length_erase_of_mem hj]; have := List.length_pos_of_mem hj; omega
    have hwr : wrap64 (((T - sumAt ps js : Nat) : Int) + (q.1.d.length : Int)) = ((T - sumAt ps (js.erase j) : Nat) : Int) := by unfold wrap64; omega
    have HE := Aside0.mk (And.intro hR2 (And.intro hB2 (And.intro hmeas (show sumAt ps (js.erase j) ≤ T by omega))))
    clear hkv hq hSq hfv hfR hB2 hla her hHS hHM hmeas hR2 hg2 HRr HBr HS hj hs2
    generalize js.erase j = js2 at *
    go_wp2_with fail
    exact ⟨⟨js2, by rw [hwr], ⟨HE.out.2.2.2⟩, ⟨HE.out.1⟩, ⟨HE.out.2.1⟩⟩, HE.out.2.2.1⟩
end Go.Proofs.Ytcejkfjjildngaa
end

section
/- the disk: a file is laid, or taken away -/
set_option linter.unusedVariables false
set_option linter.unusedSimpArgs false
set_option autoImplicit false
namespace Go.Proofs.Ytcejkfjjildngaa
open Go Go.RowKit Go.Proofs.YtcejkfjjildngaaW.PrintWords Go.Proofs.YtcejkfjjildngaaW.PrintLast Go.Proofs.YtcejkfjjildngaaW.PrintMore

def putF : List FileV → FileV → List FileV
  | [], f => [f]
  | x :: l, f => if x.n = f.n then f :: l else x :: putF l f
theorem putF_new {f : FileV} : ∀ {l : List FileV}, (∀ x ∈ l, x.n ≠ f.n) → putF l f = l ++ [f] := by
  intro l
  induction l with
  | nil => intro _; rfl
  | cons x l ih =>
    intro h
    rw [putF, if_neg (h x (by simp)), ih (fun y hy => h y (by simp [hy]))]
    rfl
theorem putF_at {f : FileV} : ∀ {l : List FileV} {j : Nat} {x : FileV}, (l.map FileV.n).Nodup → l[j]? = some x → x.n = f.n → putF l f = l.set j f := by
  intro l
  induction l with
  | nil => intro j x _ h _; simp at h
  | cons y l ih =>
    intro j x hn hj hx
    cases j with
    | zero =>
      rw [List.getElem?_cons_zero] at hj
      obtain rfl := Option.some.inj hj
      rw [putF, if_pos hx]
      rfl
    | succ j =>
      rw [List.getElem?_cons_succ] at hj
      have hne : y.n ≠ f.n := by
        rw [List.map_cons, List.nodup_cons] at hn
        intro e
        exact hn.1 (List.mem_map.2 ⟨x, List.mem_of_getElem? hj, by rw [hx, e]⟩)
      rw [putF, if_neg hne, ih (by rw [List.map_cons, List.nodup_cons] at hn; exact hn.2) hj hx]
      rfl
def dropF (l : List FileV) (n : ByteArray) : List FileV := l.filter fun x => !decide (x.n = n)
theorem dropF_at {l : List FileV} {j : Nat} {x : FileV} (hn : (l.map FileV.n).Nodup) (hj : l[j]? = some x) : l.eraseIdx j = dropF l x.n := by
  induction l generalizing j with
  | nil => simp at hj
  | cons y l ih =>
    rw [List.map_cons, List.nodup_cons] at hn
    cases j with
    | zero =>
      rw [List.getElem?_cons_zero] at hj
      obtain rfl := Option.some.inj hj
      unfold dropF
      rw [List.filter_cons_of_neg (by simp), List.eraseIdx_cons_zero]
      refine (List.filter_eq_self.2 fun a ha => ?_).symm
      have hne : ¬ a.n = y.n := fun e => hn.1 (List.mem_map.2 ⟨a, ha, e⟩)
      simp [hne]
    | succ j =>
      rw [List.getElem?_cons_succ] at hj
      rw [List.eraseIdx_cons_succ, ih hn.2 hj]
      unfold dropF
      have hne : ¬ y.n = x.n := fun e => hn.1 (List.mem_map.2 ⟨x, List.mem_of_getElem? hj, e.symm⟩)
      rw [List.filter_cons_of_pos (by simp [hne])]
theorem dropF_none {l : List FileV} {n : ByteArray} (h : ∀ x ∈ l, x.n ≠ n) : dropF l n = l := List.filter_eq_self.2 fun a ha => by simp [h a ha]
theorem sumL_drop (n : ByteArray) : ∀ l : List FileV, sumL (dropF l n) ≤ sumL l := by
  intro l
  induction l with
  | nil => exact Nat.le_refl _
  | cons x l ih =>
    unfold sumL dropF at ih ⊢
    by_cases h : x.n = n
    · rw [List.filter_cons_of_neg (by simp [h]), List.map_cons, List.sum_cons]; omega
    · rw [List.filter_cons_of_pos (by simp [h]), List.map_cons, List.map_cons, List.sum_cons, List.sum_cons]; omega

theorem FileR.keepM {S : Nat → Prop} {w w' : World} {f : FileV} {p m : Nat} {es : Array MapEntry} {c : Nat} (h : FileR S w f p) (hm : w.heap[m]? = some (.map es c)) (hk : ∀ k, S k → k < w.heap.size → k ≠ m → w'.heap[k]? = w.heap[k]?) : FileR S w' f p := by
  obtain ⟨h1, v, h2, h3⟩ := h
  refine ⟨h1, v, ?_, ?_⟩
  · rw [hk p h1 (lt_of_heap h2) (fun e => by rw [e, hm] at h2; cases h2)]; exact h2
  · refine Kd.R_mono (Kd.R_step (Kd.R_bound h3) (fun k hk1 hlt => hk k hk1.1 hlt (fun e => ?_))) (fun k hk => hk.1)
    obtain ⟨q, _, cells, hc⟩ := hk1.2.2.2
    rw [e, hm] at hc
    cases hc
theorem FileR.grow {S S' : Nat → Prop} {w : World} {f : FileV} {p : Nat} (h : FileR S w f p) (hs : ∀ k, S k → S' k) : FileR S' w f p := h.mono hs
/-- the parts of a disk in memory -/
structure Parts (S : Nat → Prop) (w : World) (g : Nat) (D : DD) (m : Nat) (ps : List (FileV × Nat)) : Prop where
  ok : DDOk D
  bound : ∀ k, S k → k < w.heap.size
  own : S g
  fs : D.fs = ps.map Prod.fst
  cells : w.heap[g]? = some (.cells #[.map (some m), .int .i64 D.room, .bool D.dies, .int .i64 D.left, .bool D.dead] 51 (0, 0))
  ownm : S m
  map : MapR Try.prog 9 w m (entsOf ps)
  apart : (ps.map Prod.snd).Nodup
  files : ∀ q ∈ ps, FileR S w q.1 q.2
theorem DiskR.parts {S : Nat → Prop} {w : World} {g : Nat} {D : DD} (h : DiskR S w g D) : ∃ m ps, Parts S w g D m ps := by
  obtain ⟨h1, h2, h3, m, ps, h4, h5, h6, h7, h8, h9⟩ := h
  exact ⟨m, ps, h1, h2, h3, h4, h5, h6, h7, h8, h9⟩
theorem Parts.disk {S : Nat → Prop} {w : World} {g : Nat} {D : DD} {m : Nat} {ps : List (FileV × Nat)} (h : Parts S w g D m ps) : DiskR S w g D := ⟨h.ok, h.bound, h.own, m, ps, h.fs, h.cells, h.ownm, h.map, h.apart, h.files⟩
theorem Parts.below {S : Nat → Prop} {w w' : World} {g : Nat} {D : DD} {m : Nat} {ps : List (FileV × Nat)} (h : Parts S w g D m ps) (hb : Below w.heap.size w w') : Parts S w' g D m ps :=
  ⟨h.ok, fun k hk => Nat.lt_of_lt_of_le (h.bound k hk) hb.size, h.own, h.fs, (hb.block g (h.bound g h.own)).trans h.cells, h.ownm, h.map.below hb, h.apart, fun q hq => (h.files q hq).keep fun k _ hk => hb.block k hk⟩
theorem Parts.at {S : Nat → Prop} {w : World} {g : Nat} {D : DD} {m : Nat} {ps : List (FileV × Nat)} (h : Parts S w g D m ps) :
    (w.cell? ⟨g, 0, none⟩ = some (.map (some m)) ∧ w.cell? ⟨g, 1, none⟩ = some (.int .i64 D.room) ∧ w.cell? ⟨g, 2, none⟩ = some (.bool D.dies) ∧ w.cell? ⟨g, 3, none⟩ = some (.int .i64 D.left) ∧ w.cell? ⟨g, 4, none⟩ = some (.bool D.dead)) ∧ ∀ j, w.frozen? ⟨g, j, none⟩ = false :=
  ⟨⟨by rw [cell_of_row _ _ _ _ _ _ h.cells]; rfl, by rw [cell_of_row _ _ _ _ _ _ h.cells]; rfl, by rw [cell_of_row _ _ _ _ _ _ h.cells]; rfl, by rw [cell_of_row _ _ _ _ _ _ h.cells]; rfl, by rw [cell_of_row _ _ _ _ _ _ h.cells]; rfl⟩, fun j => frozen_of_row _ _ _ _ _ h.cells⟩
theorem Parts.names {S : Nat → Prop} {w : World} {g : Nat} {D : DD} {m : Nat} {ps : List (FileV × Nat)} (h : Parts S w g D m ps) : ((ps.map Prod.fst).map FileV.n).Nodup := h.fs ▸ h.ok.names
theorem nodup_set {l : List Nat} {j p : Nat} (h : l.Nodup) (hp : p ∉ l) : (l.set j p).Nodup := by
  induction l generalizing j with
  | nil => simp
  | cons a l ih =>
    rw [List.nodup_cons] at h
    cases j with
    | zero => rw [List.set_cons_zero, List.nodup_cons]; exact ⟨fun hm => hp (List.mem_cons_of_mem _ hm), h.2⟩
    | succ j =>
      rw [List.set_cons_succ, List.nodup_cons]
      refine ⟨fun hm => ?_, ih h.2 (fun hm => hp (List.mem_cons_of_mem _ hm))⟩
      rcases List.mem_or_eq_of_mem_set hm with hm | hm
      · exact h.1 hm
      · exact hp (by rw [← hm]; simp)
/-- d.files[name] = &file{..}: the block of the file is new -/
theorem Parts.lay {S : Nat → Prop} {w w2 : World} {g : Nat} {D : DD} {m : Nat} {ps : List (FileV × Nat)} (h : Parts S w g D m ps) (hB : Below w.heap.size w w2) {f : FileV} {p : Nat} {v : Value}
    (hp : w2.heap[p]? = some (.cells #[v, .int .i64 f.s] 56 (0, 0))) (hpn : w.heap.size ≤ p) (hR : (Kd.int .u8).R 5 w2 w.heap.size (fun _ => True) v f.d) (hn : f.n.size ≤ 24) (hok : DDOk { D with fs := putF D.fs f }) :
    ∃ w3, (Instr.mapUpdate 49 (.map (some m)) (.string f.n) (.pointer (some ⟨p, 0, none⟩))).run Try.prog w2 = .ok () w3 ∧ w2.grownBy w3 (some m) ∧ After S w w3 g { D with fs := putF D.fs f } := by
  obtain ⟨l, hl⟩ := key_S f.n (by simp only [maxLen]; omega)
  have h2 := h.below hB
  have hm2 := h2.map
  obtain ⟨w3, hrun, hg, hcase⟩ := hm2.update lawS Try.underlying49 hl (.pointer (some ⟨p, 0, none⟩))
  have hplt := lt_of_heap hp
  obtain ⟨es, c, hmE⟩ := h2.map
  have hgm : g ≠ m := by
    rintro rfl
    have := h2.cells
    rw [hmE.heap] at this
    cases this
  have hpm : p ≠ m := fun e => by have := h.bound m h.ownm; omega
  refine ⟨w3, hrun, hg, fun k => S k ∨ (w.heap.size ≤ k ∧ k < w2.heap.size), ?_, (Fr.of_below hB).trans (Fr.of_grown (S := S) hg (fun k hk => by cases hk; exact h.ownm)) (fun k hk => .inl hk), fun k hk => hk.imp id (fun hk => hk.1)⟩
  have hfile : FileR (fun k => S k ∨ (w.heap.size ≤ k ∧ k < w2.heap.size)) w3 f p := by
    refine ⟨.inr ⟨hpn, hplt⟩, v, (hg.block p hplt (fun e => hpm (by cases e; rfl))).trans hp, ?_⟩
    have h1 := Kd.R_lower (Kd.R_bound hR) (Nat.zero_le _)
    refine Kd.R_mono (Kd.R_step h1 (fun k hk hlt => hg.block k hlt (fun e => ?_))) (fun k hk => .inr ⟨hk.2.1, hk.2.2.1⟩)
    cases e
    have := h.bound m h.ownm
    omega
  have hold : ∀ q ∈ ps, FileR (fun k => S k ∨ (w.heap.size ≤ k ∧ k < w2.heap.size)) w3 q.1 q.2 := fun q hq =>
    ((h2.files q hq).keepM hmE.heap (fun k _ hlt hne => hg.block k hlt (fun e => hne (by cases e; rfl)))).grow (fun k hk => .inl hk)
  have hnew : p ∉ ps.map Prod.snd := by
    intro hm
    obtain ⟨q, hq, rfl⟩ := List.mem_map.1 hm
    have := h.bound q.2 (h.files q hq).1
    omega
  have hcells : w3.heap[g]? = some (.cells #[.map (some m), .int .i64 D.room, .bool D.dies, .int .i64 D.left, .bool D.dead] 51 (0, 0)) :=
    (hg.block g (h2.bound g h2.own) (fun e => hgm (by cases e; rfl))).trans h2.cells
  have hbd : ∀ k, (S k ∨ (w.heap.size ≤ k ∧ k < w2.heap.size)) → k < w3.heap.size := by
    rintro k (hk | hk)
    · exact Nat.lt_of_lt_of_le (h2.bound k hk) hg.size
    · exact Nat.lt_of_lt_of_le hk.2 hg.size
  rcases hcase with ⟨h3, h4⟩ | ⟨j, v0, h3, h4⟩
  · refine ⟨hok, hbd, .inl h.own, m, ps ++ [(f, p)], ?_, hcells, .inl h.ownm, ?_, ?_, ?_⟩
    · show putF D.fs f = _
      rw [h.fs, List.map_append, putF_new]
      · rfl
      · intro x hx e
        obtain ⟨q, hq, rfl⟩ := List.mem_map.1 hx
        exact h3 (.string q.1.n, .pointer (some ⟨q.2, 0, none⟩)) (List.mem_map.2 ⟨q, hq, rfl⟩) (by rw [e])
    · unfold entsOf at h4 ⊢
      rw [List.map_append]
      exact h4
    · rw [List.map_append, List.nodup_append]
      refine ⟨h.apart, by simp, fun a ha b hb => ?_⟩
      rw [List.map_cons, List.map_nil, List.mem_singleton] at hb
      subst hb
      exact fun e => hnew (e ▸ ha)
    · intro q hq
      rcases List.mem_append.1 hq with hq | hq
      · exact hold q hq
      · rw [List.mem_singleton] at hq; subst hq; exact hfile
  · obtain ⟨q0, hq0, e1, e2⟩ := ents_at h3
    injection e1 with e1
    refine ⟨hok, hbd, .inl h.own, m, ps.set j (f, p), ?_, hcells, .inl h.ownm, ?_, ?_, ?_⟩
    · show putF D.fs f = _
      rw [h.fs, List.map_set]
      exact putF_at h.names (by rw [List.getElem?_map, hq0]; rfl) e1.symm
    · unfold entsOf at h4 ⊢
      rw [List.map_set]
      exact h4
    · rw [List.map_set]
      exact nodup_set h.apart hnew
    · intro q hq
      rcases List.mem_or_eq_of_mem_set hq with hq | rfl
      · exact hold q hq
      · exact hfile
/-- delete(d.files, name) -/
theorem Parts.delete {S : Nat → Prop} {w : World} {g : Nat} {D : DD} {m : Nat} {ps : List (FileV × Nat)} (h : Parts S w g D m ps) (ty : TypeId) (n : ByteArray) (hn : n.size ≤ maxLen) :
    ∃ w3 ps', (Builtin.delete_ #[49, 9] ty #[.map (some m), .string n]).run Try.prog w = .ok (.tuple #[]) w3 ∧ w.grownBy w3 (some m) ∧ (∀ q, q ∈ ps' → q ∈ ps) ∧ (∀ q, q ∈ ps → q.1.n ≠ n → q ∈ ps') ∧ ((ps'.map Prod.fst) = dropF (ps.map Prod.fst) n) ∧
      Parts S w3 g { D with fs := dropF D.fs n } m ps' := by
  obtain ⟨l, hl⟩ := key_S n hn
  obtain ⟨w3, hrun, hg, hcase⟩ := h.map.delete ty lawS Try.underlying49 hl
  obtain ⟨es, c, hmE⟩ := h.map
  have hgm : g ≠ m := by
    rintro rfl
    have := h.cells
    rw [hmE.heap] at this
    cases this
  have hsub : ∀ x ∈ dropF D.fs n, x ∈ D.fs := fun x hx => (List.mem_filter.1 hx).1
  have hok : DDOk { D with fs := dropF D.fs n } := by
    refine ⟨fun f hf => h.ok.files f (hsub f hf), ?_, ?_, h.ok.room, h.ok.left0, h.ok.left1⟩
    · exact ((List.filter_sublist (l := D.fs)).map _).nodup h.ok.names
    · have h1 := sumL_drop n D.fs
      have := h.ok.total
      show ((sumL (dropF D.fs n) : Nat) : Int) ≤ D.room
      omega
  have hold : ∀ q ∈ ps, FileR S w3 q.1 q.2 := fun q hq => (h.files q hq).keepM hmE.heap (fun k _ hlt hne => hg.block k hlt (fun e => hne (by cases e; rfl)))
  have hcells : w3.heap[g]? = some (.cells #[.map (some m), .int .i64 D.room, .bool D.dies, .int .i64 D.left, .bool D.dead] 51 (0, 0)) :=
    (hg.block g (h.bound g h.own) (fun e => hgm (by cases e; rfl))).trans h.cells
  have hbd : ∀ k, S k → k < w3.heap.size := fun k hk => Nat.lt_of_lt_of_le (h.bound k hk) hg.size
  rcases hcase with ⟨h3, h4⟩ | ⟨j, v0, h3, h4⟩
  · have hno : ∀ x ∈ ps.map Prod.fst, x.n ≠ n := by
      intro x hx e
      obtain ⟨q, hq, rfl⟩ := List.mem_map.1 hx
      exact h3 (.string q.1.n, .pointer (some ⟨q.2, 0, none⟩)) (List.mem_map.2 ⟨q, hq, rfl⟩) (by rw [e])
    refine ⟨w3, ps, hrun, hg, fun q hq => hq, fun q hq _ => hq, (dropF_none hno).symm, hok, hbd, h.own, ?_, hcells, h.ownm, h4, h.apart, hold⟩
    show dropF D.fs n = _
    rw [h.fs, dropF_none hno]
  · obtain ⟨q0, hq0, e1, e2⟩ := ents_at h3
    injection e1 with e1
    subst e1
    have hmapd : (ps.eraseIdx j).map Prod.fst = dropF (ps.map Prod.fst) q0.1.n := by
      rw [map_erase_]
      exact dropF_at h.names (by rw [List.getElem?_map, hq0]; rfl)
    refine ⟨w3, ps.eraseIdx j, hrun, hg, fun q hq => (List.eraseIdx_sublist _ _).subset hq, fun q hq hne => ?_, hmapd, hok, hbd, h.own, ?_, hcells, h.ownm, ?_, ?_, fun q hq => hold q ((List.eraseIdx_sublist _ _).subset hq)⟩
    · rw [List.mem_eraseIdx_iff_getElem?]
      obtain ⟨i, hi⟩ := List.getElem?_of_mem hq
      refine ⟨i, fun e => hne ?_, hi⟩
      rw [e, hq0] at hi
      rw [Option.some.inj hi]
    · show dropF D.fs q0.1.n = _
      rw [h.fs, hmapd]
    · unfold entsOf at h4 ⊢
      rw [map_erase_]
      exact h4
    · rw [map_erase_]
      exact (List.eraseIdx_sublist _ _).nodup h.apart
end Go.Proofs.Ytcejkfjjildngaa
end
