import Derived.Maps.Own
import Derived.DeepKeys4
import Derived.Below
import Derived.Test.YtcejkfjjildngaaZDiskApart0
section
/- maps as rows of keys and values, in the order in which they were laid: what the operations do -/
set_option linter.unusedVariables false
set_option linter.unusedSimpArgs false
set_option autoImplicit false
namespace Go.Proofs.Ytcejkfjjildngaa
open Go.RowKit
open Go.Maps (Keyed)
open Go.ChangeMaps (setBlock modify_eq_set heap_setBlock_same heap_setBlock_other)

section
variable {P : Program} {k : TypeId} {w W : World} {b : Nat}
/-- block b is a map of these keys and values; each entry's stamp is known -/
structure MapE (P : Program) (k : TypeId) (W : World) (b : Nat) (kv : List (Value × Value)) (es : Array MapEntry) (clock : Nat) : Prop where
  heap : W.heap[b]? = some (.map es clock)
  kv : es.toList.map (fun e => (e.key, e.val)) = kv
  keys : ∀ e ∈ es.toList, ∃ l, keyOf P k e.key = some l
  apart : es.toList.Pairwise (fun x y => x.born ≠ y.born)
  old : ∀ e ∈ es.toList, e.born < clock
def MapR (P : Program) (k : TypeId) (W : World) (b : Nat) (kv : List (Value × Value)) : Prop := ∃ es clock, MapE P k W b kv es clock
theorem MapR.made (w : World) (P : Program) (k : TypeId) : MapR P k (w.alloc (.map #[] 0)) w.heap.size [] :=
  ⟨#[], 0, (MapKept.heap_alloc w _).1, rfl, by simp, by simp, by simp⟩
theorem MapE.keep {kv : List (Value × Value)} {es : Array MapEntry} {clock : Nat} (h : MapE P k w b kv es clock) (hk : W.heap[b]? = w.heap[b]?) : MapE P k W b kv es clock :=
  ⟨hk.trans h.heap, h.kv, h.keys, h.apart, h.old⟩
theorem MapR.keep {kv : List (Value × Value)} (h : MapR P k w b kv) (hk : W.heap[b]? = w.heap[b]?) : MapR P k W b kv := by
  obtain ⟨es, c, h⟩ := h
  exact ⟨es, c, h.keep hk⟩
theorem MapR.lt {kv : List (Value × Value)} (h : MapR P k w b kv) : b < w.heap.size := by
  obtain ⟨es, c, h⟩ := h
  exact (Array.getElem?_eq_some_iff.1 h.heap).1
theorem MapR.below {kv : List (Value × Value)} (h : MapR P k w b kv) (hb : Below w.heap.size w W) : MapR P k W b kv := h.keep (hb.block b h.lt)
theorem MapR.grown {kv : List (Value × Value)} {row : Option Nat} (h : MapR P k w b kv) (hg : w.grownBy W row) (hne : some b ≠ row) : MapR P k W b kv := h.keep (hg.block b h.lt hne)
theorem MapE.at_ {kv : List (Value × Value)} {es : Array MapEntry} {clock : Nat} (h : MapE P k w b kv es clock) (j : Nat) (e : MapEntry) (he : es.toList[j]? = some e) : kv[j]? = some (e.key, e.val) := by
  rw [← h.kv, List.getElem?_map, he]
  rfl
theorem MapE.no {kv : List (Value × Value)} {es : Array MapEntry} {clock : Nat} (h : MapE P k w b kv es clock) {x : Value} (hx : ∀ e ∈ es.toList, e.key ≠ x) : ∀ p ∈ kv, p.1 ≠ x := by
  intro p hp
  rw [← h.kv] at hp
  obtain ⟨e, he, rfl⟩ := List.mem_map.1 hp
  exact hx e he
/-- m[x]; v, ok := m[x] -/
theorem MapR.lookup {kv : List (Value × Value)} {t e : TypeId} (h : MapR P k w b kv) (K : Keyed P k) (ht : P.underlying t = some (.map k e)) {z : Value} (hz : (zeroValue e).run P w = .ok z w) {x : Value} {lx : Lit} (hx : keyOf P k x = some lx) (c : Bool) :
    ((Instr.lookup t (.map (some b)) x c).run P w = .ok (if c then .tuple #[z, .bool false] else z) w ∧ ∀ p ∈ kv, p.1 ≠ x) ∨
    ∃ (j : Nat) (v : Value), kv[j]? = some (x, v) ∧ (Instr.lookup t (.map (some b)) x c).run P w = .ok (if c then .tuple #[v, .bool true] else v) w := by
  obtain ⟨es, clock, h⟩ := h
  rcases K.find w hx es.toList h.keys with ⟨h1, h2⟩ | ⟨j, e0, h1, h2, h3⟩
  · exact .inl ⟨by simp [Instr.lookup, run_underlying ht, MapKept.run_getObj_map h.heap, K.check w _ hx, h1, hz, Result.andThen], h.no h2⟩
  · exact .inr ⟨j, e0.val, by rw [h.at_ j e0 h2, h3], by simp [Instr.lookup, run_underlying ht, MapKept.run_getObj_map h.heap, K.check w _ hx, h1, Result.andThen]⟩
theorem grown_setBlock {kv : List (Value × Value)} {es es' : Array MapEntry} {clock clock' : Nat} (h : MapE P k w b kv es clock) : w.grownBy (setBlock w b (.map es' clock')) (some b) :=
  ⟨rfl, rfl, rfl, by simp [setBlock], fun i _ hi => heap_setBlock_other h.heap _ (fun e => hi (by rw [e]))⟩
theorem MapE.push {kv : List (Value × Value)} {es : Array MapEntry} {clock : Nat} (h : MapE P k w b kv es clock) {x v : Value} {lx : Lit} (hx : keyOf P k x = some lx) :
    MapE P k (setBlock w b (.map (es.push ⟨x, v, clock⟩) (clock + 1))) b (kv ++ [(x, v)]) (es.push ⟨x, v, clock⟩) (clock + 1) := by
  refine ⟨heap_setBlock_same h.heap _, by simp [← h.kv], ?_, ?_, ?_⟩
  · intro e he
    simp only [Array.toList_push, List.mem_append, List.mem_singleton] at he
    rcases he with he | rfl
    · exact h.keys e he
    · exact ⟨_, hx⟩
  · rw [Array.toList_push, List.pairwise_append]
    refine ⟨h.apart, by simp, fun a ha c hc => ?_⟩
    rw [List.mem_singleton] at hc
    subst hc
    have := h.old a ha
    exact Nat.ne_of_lt this
  · intro e he
    simp only [Array.toList_push, List.mem_append, List.mem_singleton] at he
    rcases he with he | rfl
    · exact Nat.lt_succ_of_lt (h.old e he)
    · exact Nat.lt_succ_self _
theorem MapE.put {kv : List (Value × Value)} {es : Array MapEntry} {clock : Nat} (h : MapE P k w b kv es clock) {j : Nat} {e0 : MapEntry} (hj : es.toList[j]? = some e0) (v : Value) :
    (es.modify j (fun e' => { e' with val := v })).toList = es.toList.set j { e0 with val := v } ∧ MapE P k (setBlock w b (.map (es.modify j (fun e' => { e' with val := v })) clock)) b (kv.set j (e0.key, v)) (es.modify j (fun e' => { e' with val := v })) clock := by
  have hlist : (es.modify j (fun e' => { e' with val := v })).toList = es.toList.set j { e0 with val := v } := by rw [Array.toList_modify, modify_eq_set _ _ _ _ hj]
  have hmem : ∀ x ∈ es.toList.set j { e0 with val := v }, ∃ y ∈ es.toList, x.key = y.key ∧ x.born = y.born := by
    intro x hx
    rcases List.mem_or_eq_of_mem_set hx with hx | rfl
    · exact ⟨x, hx, rfl, rfl⟩
    · exact ⟨e0, List.mem_of_getElem? hj, rfl, rfl⟩
  refine ⟨hlist, heap_setBlock_same h.heap _, by rw [hlist, List.map_set, ← h.kv], ?_, ?_, ?_⟩
  · intro x hx
    rw [hlist] at hx
    obtain ⟨y, hy, e1, _⟩ := hmem x hx
    rw [e1]
    exact h.keys y hy
  · rw [hlist]
    have hb : (es.toList.set j { e0 with val := v }).map (·.born) = es.toList.map (·.born) := by
      rw [List.map_set]
      have hjl := (List.getElem?_eq_some_iff.1 hj)
      refine List.ext_getElem? fun i => ?_
      rw [List.getElem?_set]
      split
      · rename_i he
        subst he
        split
        · simp [hj]
        · rename_i hn
          exact absurd (by simpa using hjl.1) hn
      · rfl
    have h2 := List.pairwise_map (f := fun (e : MapEntry) => e.born) (R := fun a b => a ≠ b) (l := es.toList)
    have h3 := List.pairwise_map (f := fun (e : MapEntry) => e.born) (R := fun a b => a ≠ b) (l := es.toList.set j { e0 with val := v })
    exact h3.1 (by rw [hb]; exact h2.2 h.apart)
  · intro x hx
    rw [hlist] at hx
    obtain ⟨y, hy, _, e2⟩ := hmem x hx
    rw [e2]
    exact h.old y hy
/-- m[x] = v -/
theorem MapR.update {kv : List (Value × Value)} {t e : TypeId} (h : MapR P k w b kv) (K : Keyed P k) (ht : P.underlying t = some (.map k e)) {x : Value} {lx : Lit} (hx : keyOf P k x = some lx) (v : Value) :
    ∃ w', (Instr.mapUpdate t (.map (some b)) x v).run P w = .ok () w' ∧ w.grownBy w' (some b) ∧
      (((∀ p ∈ kv, p.1 ≠ x) ∧ MapR P k w' b (kv ++ [(x, v)])) ∨ ∃ (j : Nat) (v0 : Value), kv[j]? = some (x, v0) ∧ MapR P k w' b (kv.set j (x, v))) := by
  obtain ⟨es, clock, h⟩ := h
  rcases K.find w hx es.toList h.keys with ⟨h1, h2⟩ | ⟨j, e0, h1, h2, h3⟩
  · refine ⟨_, ?_, grown_setBlock (es' := es.push ⟨x, v, clock⟩) (clock' := clock + 1) h, .inl ⟨h.no h2, _, _, h.push hx⟩⟩
    simp [Instr.mapUpdate, run_underlying ht, MapKept.run_getObj_map h.heap, K.check w false hx, h1, MapKept.run_setObj_map _ h.heap, Result.andThen, setBlock]
  · have hj : es[j]? = some e0 := by simpa using h2
    have hm : es.modify j (fun e' => { e' with key := x, val := v }) = es.modify j (fun e' => { e' with val := v }) := by
      apply Array.ext'
      rw [Array.toList_modify, Array.toList_modify, modify_eq_set _ _ _ _ h2, modify_eq_set _ _ _ _ h2, ← h3]
    have hp := (h.put h2 v).2
    refine ⟨_, ?_, grown_setBlock (es' := es.modify j (fun e' => { e' with val := v })) (clock' := clock) h, .inr ⟨j, e0.val, by rw [h.at_ j e0 h2, h3], _, _, by rw [h3] at hp; exact hp⟩⟩
    rw [← hm]
    simp [Instr.mapUpdate, run_underlying ht, MapKept.run_getObj_map h.heap, K.check w false hx, h1, hj, h3, K.stays w hx, MapKept.run_setObj_map _ h.heap, Result.andThen, setBlock]
/-- the entry at place j bears this stamp -/
def Stamp (W : World) (b j s : Nat) : Prop := ∃ es clock e, W.heap[b]? = some (.map es clock) ∧ es.toList[j]? = some e ∧ e.born = s
theorem Stamp.keep {j s : Nat} (h : Stamp w b j s) (hk : W.heap[b]? = w.heap[b]?) : Stamp W b j s := by
  obtain ⟨es, c, e, h1, h2, h3⟩ := h
  exact ⟨es, c, e, hk.trans h1, h2, h3⟩
/-- m[x] = f(m[x]): the entry is made ahead .. -/
theorem MapR.entry {kv : List (Value × Value)} {t e : TypeId} (h : MapR P k w b kv) (K : Keyed P k) (ht : P.underlying t = some (.map k e)) {z : Value} (hz : (zeroValue e).run P w = .ok z w) {x : Value} {lx : Lit} (hx : keyOf P k x = some lx) :
    ∃ w' v s, (Instr.mapEntry t (.map (some b)) x).run P w = .ok (.tuple #[v, .int .i64 (s : Nat)]) w' ∧ w.grownBy w' (some b) ∧
      (((∀ p ∈ kv, p.1 ≠ x) ∧ v = z ∧ MapR P k w' b (kv ++ [(x, z)]) ∧ Stamp w' b kv.length s) ∨ ∃ (j : Nat), kv[j]? = some (x, v) ∧ MapR P k w' b kv ∧ Stamp w' b j s) := by
  obtain ⟨es, clock, h⟩ := h
  rcases K.find w hx es.toList h.keys with ⟨h1, h2⟩ | ⟨j, e0, h1, h2, h3⟩
  · refine ⟨_, z, clock, ?_, grown_setBlock (es' := es.push ⟨x, z, clock⟩) (clock' := clock + 1) h, .inl ⟨h.no h2, rfl, ⟨_, _, h.push hx⟩, _, _, ⟨x, z, clock⟩, heap_setBlock_same h.heap _, ?_, rfl⟩⟩
    · simp [Instr.mapEntry, run_underlying ht, MapKept.run_getObj_map h.heap, K.check w false hx, h1, hz, MapKept.run_setObj_map _ h.heap, Result.andThen, setBlock, goInt]
    · have hl : kv.length = es.toList.length := by rw [← h.kv, List.length_map]
      rw [hl, Array.toList_push]
      simp
  · have hj : es[j]? = some e0 := by simpa using h2
    have hm : es.modify j (fun e' => { e' with key := x }) = es := by
      apply Array.ext'
      rw [Array.toList_modify, modify_eq_set _ _ _ _ h2, ← h3]
      refine List.ext_getElem? fun i => ?_
      rw [List.getElem?_set]
      split
      · rename_i he
        subst he
        split
        · exact h2.symm
        · rename_i hn
          exact absurd (List.getElem?_eq_some_iff.1 h2).1 hn
      · rfl
    have hs : setBlock w b (.map es clock) = w := by
      have hb := h.heap
      obtain ⟨hlt, he⟩ := Array.getElem?_eq_some_iff.1 hb
      unfold setBlock
      have e1 : w.heap.setIfInBounds b (.map es clock) = w.heap := by
        apply Array.ext'
        rw [Array.toList_setIfInBounds]
        refine List.ext_getElem? fun i => ?_
        rw [List.getElem?_set]
        split
        · rename_i hi
          subst hi
          rw [if_pos (by simpa using hlt)]
          simpa using hb.symm
        · rfl
      rw [e1]
    refine ⟨w, e0.val, e0.born, ?_, World.grownBy.refl w _, .inr ⟨j, by rw [h.at_ j e0 h2, h3], ⟨es, clock, h⟩, es, clock, e0, h.heap, h2, rfl⟩⟩
    have hrun : (Instr.mapEntry t (.map (some b)) x).run P w = .ok (.tuple #[e0.val, .int .i64 (e0.born : Nat)]) (setBlock w b (.map (es.modify j (fun e' => { e' with key := x })) clock)) := by
      simp [Instr.mapEntry, run_underlying ht, MapKept.run_getObj_map h.heap, K.check w false hx, h1, hj, h3, K.stays w hx, MapKept.run_setObj_map _ h.heap, Result.andThen, setBlock, goInt]
    rw [hm, hs] at hrun
    exact hrun
/-- .. and stored into behind -/
theorem MapR.entryStore {kv : List (Value × Value)} {t : TypeId} (h : MapR P k w b kv) {j s : Nat} (hs : Stamp w b j s) {x v0 : Value} (hj : kv[j]? = some (x, v0)) (v : Value) :
    ∃ w', (Instr.entryStore t (.map (some b)) (.int .i64 (s : Nat)) v).run P w = .ok () w' ∧ w.grownBy w' (some b) ∧ MapR P k w' b (kv.set j (x, v)) := by
  obtain ⟨es, clock, h⟩ := h
  obtain ⟨es', clock', e, h1, h2, h3⟩ := hs
  rw [h.heap] at h1
  obtain ⟨rfl, rfl⟩ : es = es' ∧ clock = clock' := by
    have h1 := Option.some.inj h1
    injection h1 with a b
    exact ⟨a, b⟩
  have hx : e.key = x := by
    have := h.at_ j e h2
    rw [hj] at this
    exact (Prod.mk.inj (Option.some.inj this)).1.symm
  have hp := (h.put h2 v).2
  have hidx : es.findIdx? (fun e' => (e'.born : Int) == (s : Int)) = some j := by
    have hjl := (List.getElem?_eq_some_iff.1 h2)
    rw [Array.findIdx?_eq_some_iff_getElem]
    refine ⟨by simpa using hjl.1, ?_, fun i hi => ?_⟩
    · have : es[j]'(by simpa using hjl.1) = e := by simpa using hjl.2
      rw [this, h3]
      simp
    · have hil : i < es.toList.length := by have := hjl.1; omega
      have hne := (List.pairwise_iff_getElem.1 h.apart) i j hil hjl.1 hi
      rw [hjl.2] at hne
      have : es[i]'(by simpa using hil) = es.toList[i] := by simp
      rw [this, ← h3]
      simp only [beq_iff_eq]
      intro hh
      exact hne (by omega)
  refine ⟨_, ?_, grown_setBlock (es' := es.modify j (fun e' => { e' with val := v })) (clock' := clock) h, _, _, by rw [hx] at hp; exact hp⟩
  simp [Instr.entryStore, MapKept.run_getObj_map h.heap, hidx, MapKept.run_setObj_map _ h.heap, Result.andThen, setBlock, asInt, asIntOf]
/-- len(m) -/
theorem MapR.len {kv : List (Value × Value)} {t ty : TypeId} {e : TypeId} (h : MapR P k w b kv) (ht : P.underlying t = some (.map k e)) : (Builtin.len_ #[t] ty #[.map (some b)]).run P w = .ok (.int .i64 (kv.length : Nat)) w := by
  obtain ⟨es, clock, h⟩ := h
  have hl : kv.length = es.size := by rw [← h.kv, List.length_map]; simp
  rw [hl]
  simp [Builtin.len_, run_underlying ht, MapKept.run_getObj_map h.heap, goInt, Result.andThen]
end
end Go.Proofs.Ytcejkfjjildngaa
end
