import Derived.Shelf.SlIter.Nil
import Derived.Shelf.SortM.Plain
import Derived.Shelf.SortM.SortNone
import Derived.KernelRfl
import Derived.Test.YtcejkfjjildngaaZDiskApart2
import Derived.Test.YtcejkfjjildngaaZDiskApart5
import Derived.Test.YtcejkfjjildngaaZDiskApart4
import Derived.Lib.SlBytesConst
import Derived.BigQuiet
import Derived.Deep.QuietTactic
section
/- the names of files, sorted: slices.Sorted(maps.Keys(m)), the kit's contracts laid at this program -/
set_option linter.unusedVariables false
set_option linter.unusedSimpArgs false
set_option autoImplicit false
namespace Go.Proofs.Ytcejkfjjildngaa
open Go Go.RowKit Go.Maps Go.Sort Go.Shelf Go.Proofs.YtcejkfjjildngaaW.PrintWords Go.Proofs.YtcejkfjjildngaaW.PrintLast Go.Proofs.YtcejkfjjildngaaW.PrintMore

def keysD_ren : Go.Shelf.Ren := ⟨fun | 7 => 40 | 10 => 54 | n => n, fun | 23 => 49 | 26 => 9 | 3 => 59 | 28 => 69 | 0 => 0 | 27 => 68 | 33 => 71 | 4 => 4 | n => n, fun | n => n⟩
theorem keysD : Go.Proofs.SlLaysZ.n7 Try.prog keysD_ren := {
  mixed := by kernel_rfl,
  f7 := ⟨Try.f40.name, by decide, Try.func40.trans (congrArg some (by kernel_rfl))⟩,
  f10 := ⟨Try.f54.name, by decide, Try.func54.trans (congrArg some (by kernel_rfl))⟩,
  t0 := Try.underlying0,
  a0 := Try.isAgg0,
  z0 := Try.sizeOf0,
  v0 := Try.zeroValue0,
  t4 := Try.underlying4,
  a4 := Try.isAgg4,
  z4 := Try.sizeOf4,
  v4 := Try.zeroValue4,
  t23 := Try.underlying49,
  a23 := Try.isAgg49,
  z23 := Try.sizeOf49,
  v23 := Try.zeroValue49,
  t26 := Try.underlying9,
  a26 := Try.isAgg9,
  z26 := Try.sizeOf9,
  v26 := Try.zeroValue9,
  t27 := Try.underlying68,
  a27 := Try.isAgg68,
  z27 := Try.sizeOf68,
  v27 := Try.zeroValue68,
  t28 := Try.underlying69,
  a28 := Try.isAgg69,
  z28 := Try.sizeOf69,
  v28 := Try.zeroValue69,
  t33 := Try.underlying71,
  a33 := Try.isAgg71,
  z33 := Try.sizeOf71,
  v33 := Try.zeroValue71 }
def sortedD_ren : Go.Shelf.Ren := ⟨fun | 6 => 39 | 8 => 52 | 9 => 53 | 11 => 57 | 13 => 59 | 12 => 58 | 23 => 71 | 24 => 72 | 14 => 62 | 15 => 63 | 16 => 64 | 17 => 65 | 18 => 66 | 19 => 67 | 20 => 68 | 21 => 69 | 22 => 70 | 25 => 73 | 26 => 74 | 27 => 75 | 28 => 76 | 29 => 77 | 30 => 78 | 31 => 79 | n => n, fun | 26 => 9 | 28 => 69 | 24 => 66 | 0 => 0 | 3 => 3 | 37 => 84 | 48 => 97 | 50 => 99 | 4 => 4 | 40 => 90 | 39 => 89 | 45 => 94 | 5 => 5 | 9 => 9 | 51 => 100 | 55 => 104 | 57 => 106 | 58 => 107 | 33 => 71 | n => n, fun | n => n⟩
theorem sortedD : Go.Proofs.SlLaysZ.n6 Try.prog sortedD_ren := {
  mixed := by kernel_rfl,
  f6 := ⟨Try.f39.name, by decide, Try.func39.trans (congrArg some (by kernel_rfl))⟩,
  f8 := ⟨Try.f52.name, by decide, Try.func52.trans (congrArg some (by kernel_rfl))⟩,
  f11 := ⟨Try.f57.name, by decide, Try.func57.trans (congrArg some (by kernel_rfl))⟩,
  t0 := Try.underlying0,
  a0 := Try.isAgg0,
  z0 := Try.sizeOf0,
  v0 := Try.zeroValue0,
  t24 := Try.underlying66,
  a24 := Try.isAgg66,
  z24 := Try.sizeOf66,
  v24 := Try.zeroValue66,
  t26 := Try.underlying9,
  a26 := Try.isAgg9,
  z26 := Try.sizeOf9,
  v26 := Try.zeroValue9,
  t28 := Try.underlying69,
  a28 := Try.isAgg69,
  z28 := Try.sizeOf69,
  v28 := Try.zeroValue69,
  i26 := by kernel_rfl }
def sortD_ren : Go.Shelf.Ren := ⟨fun | 6 => 53 | 8 => 59 | 9 => 58 | 19 => 71 | 20 => 72 | 21 => 62 | 22 => 63 | 23 => 64 | 24 => 65 | 25 => 66 | 26 => 67 | 27 => 68 | 28 => 69 | 29 => 70 | 36 => 73 | 31 => 74 | 32 => 75 | 37 => 76 | 38 => 77 | 39 => 78 | 41 => 79 | n => n, fun | 27 => 66 | 29 => 9 | 3 => 3 | 32 => 84 | 26 => 66 | 0 => 0 | 44 => 97 | 46 => 99 | 4 => 4 | 36 => 90 | 35 => 89 | 41 => 94 | 5 => 5 | 9 => 9 | 53 => 100 | 57 => 104 | 63 => 106 | 64 => 107 | n => n, fun | n => n⟩
theorem sortD : Go.Proofs.SlLaysM.n6 Try.prog sortD_ren := {
  mixed := by kernel_rfl,
  f6 := ⟨Try.f53.name, by decide, Try.func53.trans (congrArg some (by kernel_rfl))⟩,
  f8 := Try.func59.trans (congrArg some (by kernel_rfl)),
  f9 := ⟨Try.f58.name, by decide, Try.func58.trans (congrArg some (by kernel_rfl))⟩,
  f19 := Try.func71.trans (congrArg some (by kernel_rfl)),
  f20 := Try.func72.trans (congrArg some (by kernel_rfl)),
  f21 := ⟨Try.f62.name, by decide, Try.func62.trans (congrArg some (by kernel_rfl))⟩,
  f22 := ⟨Try.f63.name, by decide, Try.func63.trans (congrArg some (by kernel_rfl))⟩,
  f23 := ⟨Try.f64.name, by decide, Try.func64.trans (congrArg some (by kernel_rfl))⟩,
  f24 := ⟨Try.f65.name, by decide, Try.func65.trans (congrArg some (by kernel_rfl))⟩,
  f25 := ⟨Try.f66.name, by decide, Try.func66.trans (congrArg some (by kernel_rfl))⟩,
  f26 := ⟨Try.f67.name, by decide, Try.func67.trans (congrArg some (by kernel_rfl))⟩,
  f27 := ⟨Try.f68.name, by decide, Try.func68.trans (congrArg some (by kernel_rfl))⟩,
  f28 := ⟨Try.f69.name, by decide, Try.func69.trans (congrArg some (by kernel_rfl))⟩,
  f29 := ⟨Try.f70.name, by decide, Try.func70.trans (congrArg some (by kernel_rfl))⟩,
  f31 := Try.func74.trans (congrArg some (by kernel_rfl)),
  f32 := Try.func75.trans (congrArg some (by kernel_rfl)),
  f36 := ⟨Try.f73.name, by decide, Try.func73.trans (congrArg some (by kernel_rfl))⟩,
  f37 := ⟨Try.f76.name, by decide, Try.func76.trans (congrArg some (by kernel_rfl))⟩,
  f38 := ⟨Try.f77.name, by decide, Try.func77.trans (congrArg some (by kernel_rfl))⟩,
  f39 := ⟨Try.f78.name, by decide, Try.func78.trans (congrArg some (by kernel_rfl))⟩,
  f41 := ⟨Try.f79.name, by decide, Try.func79.trans (congrArg some (by kernel_rfl))⟩,
  t0 := Try.underlying0,
  a0 := Try.isAgg0,
  z0 := Try.sizeOf0,
  v0 := Try.zeroValue0,
  t3 := Try.underlying3,
  a3 := Try.isAgg3,
  z3 := Try.sizeOf3,
  v3 := Try.zeroValue3,
  t4 := Try.underlying4,
  a4 := Try.isAgg4,
  z4 := Try.sizeOf4,
  v4 := Try.zeroValue4,
  t5 := Try.underlying5,
  a5 := Try.isAgg5,
  z5 := Try.sizeOf5,
  v5 := Try.zeroValue5,
  t9 := Try.underlying9,
  a9 := Try.isAgg9,
  z9 := Try.sizeOf9,
  v9 := Try.zeroValue9,
  t26 := Try.underlying66,
  a26 := Try.isAgg66,
  z26 := Try.sizeOf66,
  v26 := Try.zeroValue66,
  t27 := Try.underlying66,
  a27 := Try.isAgg66,
  z27 := Try.sizeOf66,
  v27 := Try.zeroValue66,
  t29 := Try.underlying9,
  a29 := Try.isAgg9,
  z29 := Try.sizeOf9,
  v29 := Try.zeroValue9,
  t32 := Try.underlying84,
  a32 := Try.isAgg84,
  z32 := Try.sizeOf84,
  v32 := Try.zeroValue84,
  t35 := Try.underlying89,
  a35 := Try.isAgg89,
  z35 := Try.sizeOf89,
  v35 := Try.zeroValue89,
  t36 := Try.underlying90,
  a36 := Try.isAgg90,
  z36 := Try.sizeOf90,
  v36 := Try.zeroValue90,
  t41 := Try.underlying94,
  a41 := Try.isAgg94,
  z41 := Try.sizeOf94,
  v41 := Try.zeroValue94,
  t44 := Try.underlying97,
  a44 := Try.isAgg97,
  z44 := Try.sizeOf97,
  v44 := Try.zeroValue97,
  t46 := Try.underlying99,
  a46 := Try.isAgg99,
  z46 := Try.sizeOf99,
  v46 := Try.zeroValue99,
  t53 := Try.underlying100,
  a53 := Try.isAgg100,
  z53 := Try.sizeOf100,
  v53 := Try.zeroValue100,
  t57 := Try.underlying104,
  a57 := Try.isAgg104,
  z57 := Try.sizeOf104,
  v57 := Try.zeroValue104,
  t63 := Try.underlying106,
  a63 := Try.isAgg106,
  z63 := Try.sizeOf106,
  v63 := Try.zeroValue106,
  t64 := Try.underlying107,
  a64 := Try.isAgg107,
  z64 := Try.sizeOf107,
  v64 := Try.zeroValue107 }

theorem sortsD (m : Nat) : AnyZ.SortsIn Try.prog sortedD_ren Fence.wide m :=
  ⟨fun blk off cap ss W hH hblk hsz => callsIn_wide.2 (AnyM.slices_Sort_string sortD blk off cap ss W hH hblk hsz),
   fun p cap W => callsIn_wide.2 (AnyM.slices_Sort_string_none sortD p cap W)⟩
theorem wkeys (mb : Option Nat) (W : World) : Calls Try.prog 40 #[.map mb] W fun e w' => e = .returned (.func (.func 54) #[] #[.pointer (some ⟨W.heap.size, 0, none⟩)]) ∧ w' = W.alloc (.cells #[.map mb] 49) :=
  (callsIn_wide (n := 5)).1 (AnyZ.keys_in keysD Fence.wide 5 trivial rfl mb W)
set_option maxHeartbeats 1000000 in
theorem wsorted0 {H : Type} (b nn : Nat) (D0 : DataW H) (R : Value → Option (DataW H × List MemPlace)) (w : World) (hown : w.ownsMap Try.prog 9 R b nn D0) (hmax : Maps.size D0 ≤ maxLen) (hbytes : Maps.size D0 * 16 ≤ 140737488355328) :
    Calls Try.prog 39 #[.func (.func 54) #[] #[.pointer (some ⟨w.heap.size, 0, none⟩)]] (w.alloc (.cells #[.map (some b)] 49)) fun e w' => ∃ (v : Value) (ss : List (List UInt8)), e = .returned v ∧ ss.Perm (strKeys D0) ∧
      w'.ownsRow (w.alloc (.cells #[.map (some b)] 49)).heap.size 9 1 v ss.length ((ss.mergeSort (fun x y => decide (x ≤ y))).map encStr) ∧ (v = .slice none 0 0 ↔ ss = []) ∧ Below (w.alloc (.cells #[.map (some b)] 49)).heap.size (w.alloc (.cells #[.map (some b)] 49)) w' := by
  have hbl := hown.lt
  have hseq : SeqGives Fence.wide 2 Try.prog 54 #[.pointer (some ⟨w.heap.size, 0, none⟩)] encStr (fun ss => ss.Perm (strKeys D0)) (Maps.size D0) (w.alloc (.cells #[.map (some b)] 49)) :=
    AnyZ.keys_gives (ρ := keysD_ren) { keysD with } Fence.wide _ trivial rfl (by omega) w.heap.size b nn D0 _ (by simp) (by simp) (by
      obtain ⟨es, clock, hb, Ft, hs, hD⟩ := hown
      exact ⟨es, clock, (Below.heap_alloc _ _ b hbl).trans hb, Ft, hs, hD⟩)
  exact (callsIn_wide (n := 5)).1 (AnyZ.sorted_in sortedD Fence.wide 5 trivial trivial trivial trivial rfl (by omega) (sortsD _) (enters_of Try.func53 (by kernel_rfl) rfl) 54 #[.pointer (some ⟨w.heap.size, 0, none⟩)] trivial (enters_of Try.func54 (by kernel_rfl) rfl) _ _ hmax hbytes _ hseq)
/-! ### the keys of a map as it was laid -/
def unitR (v : Value) : Option (DataW Unit × List MemPlace) := some (.nil, [])
theorem strKeys_of {L : List (Lit × DataW Unit)} {ls : List (List UInt8)} (h : ls.Perm (L.map fun p => strOf p.1)) : ls.Perm (strKeys (DataW.map L)) := h
theorem owns_of {w : World} {m : Nat} {kv : List (Value × Value)} (h : MapR Try.prog 9 w m kv) (hn : (kv.map Prod.fst).Nodup) (hl : kv.length ≤ maxLen) :
    ∃ D0 : DataW Unit, w.ownsMap Try.prog 9 unitR m kv.length D0 ∧ Maps.size D0 = kv.length ∧ ∃ ls : List (List UInt8), ls.Perm (strKeys D0) ∧ kv.map Prod.fst = ls.map encStr := by
  obtain ⟨es, clock, h⟩ := h
  have hlen : kv.length = es.size := by rw [← h.kv, List.length_map]; simp
  have hfst : kv.map Prod.fst = es.toList.map (·.key) := by rw [← h.kv, List.map_map]; rfl
  have hreads : ∀ x ∈ es.toList, ∃ s : List UInt8, x.key = encStr s ∧ Go.WideElems.rd Try.prog 9 unitR x = some (.string s, .nil) := by
    intro x hx
    obtain ⟨l, hl⟩ := h.keys x hx
    obtain ⟨s, h1, h2, h3⟩ := Maps.keyOf_str Try.underlying9 hl
    subst h2
    refine ⟨s, h1, ?_⟩
    unfold Go.WideElems.rd
    rw [hl]
    rfl
  have hfit : Go.WideElems.Fit Try.prog 9 unitR es clock := by
    refine ⟨by omega, (MapKept.stamped_iff es clock).2 ⟨h.old, ?_, ?_⟩, fun x hx => ?_⟩
    · unfold List.Nodup; rw [List.pairwise_map]; exact h.apart
    · rw [hfst] at hn; unfold List.Nodup at hn; rw [List.pairwise_map] at hn; exact hn
    · obtain ⟨s, _, h2⟩ := hreads x hx; exact ⟨_, h2⟩
  refine ⟨_, ⟨es, clock, h.heap, hfit, by omega, rfl⟩, ?_, ((es.toList.map (Go.WideElems.rg Try.prog 9 unitR)).map fun p => strOf p.1), ?_, ?_⟩
  · show (List.foldr DataW.insert [] _).length = _
    rw [length_sorted, List.length_map, hlen]; simp
  · have hp := (WideShapes.sorted_perm (es.toList.map (Go.WideElems.rg Try.prog 9 unitR))).symm.map fun p : Lit × DataW Unit => strOf p.1
    exact strKeys_of hp
  · rw [hfst, List.map_map, List.map_map]
    refine List.map_congr_left fun x hx => ?_
    obtain ⟨s, h1, h2⟩ := hreads x hx
    simp only [Function.comp_apply, Go.WideElems.rg_of h2, strOf]
    exact h1
theorem ms_perm {a b : List (List UInt8)} (h : a.Perm b) : a.mergeSort (fun x y => decide (x ≤ y)) = b.mergeSort (fun x y => decide (x ≤ y)) := by
  have ht : ∀ x y z : List UInt8, decide (x ≤ y) = true → decide (y ≤ z) = true → decide (x ≤ z) = true := fun x y z h1 h2 => decide_eq_true (List.le_trans (of_decide_eq_true h1) (of_decide_eq_true h2))
  have hto : ∀ x y : List UInt8, (decide (x ≤ y) || decide (y ≤ x)) = true := fun x y => by rcases List.le_total x y with h | h <;> simp [h]
  refine List.Perm.eq_of_pairwise (le := fun x y => decide (x ≤ y) = true) (fun x y _ _ h1 h2 => List.le_antisymm (of_decide_eq_true h1) (of_decide_eq_true h2)) (List.pairwise_mergeSort ht hto a) (List.pairwise_mergeSort ht hto b) ?_
  exact (List.mergeSort_perm a _).trans (h.trans (List.mergeSort_perm b _).symm)
/-- names, sorted -/
def sortS (ns : List ByteArray) : List ByteArray := ((ns.map fun n => n.data.toList).mergeSort (fun x y => decide (x ≤ y))).map fun l => ⟨l.toArray⟩
theorem sortS_perm (ns : List ByteArray) : (sortS ns).Perm ns := by
  have h := (List.mergeSort_perm (ns.map fun n => n.data.toList) (fun x y => decide (x ≤ y))).map fun l => (⟨l.toArray⟩ : ByteArray)
  rw [List.map_map] at h
  have e : ns.map ((fun l => (⟨l.toArray⟩ : ByteArray)) ∘ fun n => n.data.toList) = ns := by
    conv => rhs; rw [← List.map_id ns]
    exact List.map_congr_left fun x _ => by simp
  rw [e] at h
  exact h
theorem sortS_len (ns : List ByteArray) : (sortS ns).length = ns.length := (sortS_perm ns).length_eq
def unS : Value → List UInt8
  | .string n => n.data.toList
  | _ => []
theorem unS_enc (ls : List (List UInt8)) : (ls.map encStr).map unS = ls := by
  rw [List.map_map]
  conv => rhs; rw [← List.map_id ls]
  exact List.map_congr_left fun x _ => by simp [encStr, unS]
/-- slices.Sorted(maps.Keys(d.files)) -/
theorem wsortedK {w : World} {m : Nat} {ps : List (FileV × Nat)} (h : MapR Try.prog 9 w m (entsOf ps)) (hn : ((ps.map Prod.fst).map FileV.n).Nodup) (hl : ps.length ≤ 1000000) :
    Calls Try.prog 39 #[.func (.func 54) #[] #[.pointer (some ⟨w.heap.size, 0, none⟩)]] (w.alloc (.cells #[.map (some m)] 49)) fun e w' => ∃ v : Value, e = .returned v ∧
      Kd.string.R 9 w' w.heap.size (fun _ => True) v (sortS ((ps.map Prod.fst).map FileV.n)) ∧ Below w.heap.size w w' := by
  have hfst : (entsOf ps).map Prod.fst = ((ps.map Prod.fst).map FileV.n).map Value.string := by unfold entsOf; simp only [List.map_map]; rfl
  have hlen : (entsOf ps).length = ps.length := by unfold entsOf; rw [List.length_map]
  obtain ⟨D0, h1, h2, ls, h3, h4⟩ := owns_of h (by
    rw [hfst]
    unfold List.Nodup at hn ⊢
    rw [List.pairwise_map]
    exact hn.imp (fun {a b} hne e => hne (by injection e))) (by rw [hlen]; simp only [maxLen]; omega)
  rw [hlen] at h2
  refine (wsorted0 m _ D0 unitR w h1 (by rw [h2]; simp only [maxLen]; omega) (by rw [h2]; omega)).mono ?_
  rintro e w' ⟨v, ss, rfl, hp, hrow, _, hB⟩
  have hls : ls = ((ps.map Prod.fst).map FileV.n).map fun n => n.data.toList := by
    rw [hfst] at h4
    have h5 := congrArg (List.map unS) h4
    rw [unS_enc, List.map_map] at h5
    exact h5.symm
  have hms := ms_perm (hp.trans h3.symm)
  have hrow2 : (ss.mergeSort (fun x y => decide (x ≤ y))).map encStr = encs Value.string (sortS ((ps.map Prod.fst).map FileV.n)) := by
    rw [hms, hls]
    unfold sortS encs
    rw [List.map_map (g := Value.string)]
    exact List.map_congr_left fun x _ => rfl
  have hsl : ss.length = (sortS ((ps.map Prod.fst).map FileV.n)).length := by
    rw [sortS_len, (hp.trans h3.symm).length_eq, hls]
    simp
  rw [hrow2, hsl] at hrow
  refine ⟨v, rfl, Kd.R_lower (Kd.R_of_own hrow (fun _ _ => trivial)) (by simp), ?_⟩
  exact ((Below.refl w.heap.size w).alloc (Nat.le_refl _) _).trans (hB.mono (by simp))
end Go.Proofs.Ytcejkfjjildngaa
end

section
/- the disk: Files, walked -/
set_option linter.unusedVariables false
set_option linter.unusedSimpArgs false
set_option autoImplicit false
namespace Go.Proofs.Ytcejkfjjildngaa
open Go Go.RowKit Go.Proofs.YtcejkfjjildngaaW.PrintWords Go.Proofs.YtcejkfjjildngaaW.PrintLast Go.Proofs.YtcejkfjjildngaaW.PrintMore Go.Proofs.Ytcejkfjjildngaa.G

section
variable {P : Program} {ops : Array Oper} {o : Oper} {a : Act} {Q : Exit → Act → World → Prop} {Kc : Act → World → Prop} {α : Type} {E : Prop}
theorem step_append_kd (d : Kd α) {w0 W : World} (base : Nat) (hw : Region.wanted o (yielded ops a.tmps) = true) (s x : Operand) (t e : TypeId) (z : Value) (bytes : Nat)
    (ho : o.op = .call { callee := .builtin .append, args := #[s, x], argTypes := #[t, t] })
    (ht : P.underlying t = some (.slice e)) (hinfo : (P.info? e).map (fun i => (i.zero, i.size, i.bytes)) = some (some z, d.sz, bytes)) (hz : z.cells.size = d.sz) (hs0 : 0 < d.sz) (hb0 : 0 < bytes)
    (v : Value) (xs : List α) (p : α) (cs : List Value) (ok okp : Nat → Prop) (hs : a.eval s = v) (hx : a.eval x = .slice (some ⟨W.heap.size, 0, none⟩) 1 1) (hp : d.M W base okp p cs) (hokp : ∀ k, okp k → ok k ∧ some k ≠ v.ownBlock) (hfresh : ∀ k, W.heap.size ≤ k → ok k)
    (HO : d.R e W base ok v xs) (HB : Below base w0 W) (hbase : base ≤ W.heap.size) (hl : (xs.length + 1) * bytes ≤ 140737488355328)
    (h : ∀ v1 w1, d.R e w1 base ok v1 (xs ++ [p]) → Below base w0 w1 → W.grownBy w1 v.ownBlock → (v1.ownBlock = v.ownBlock ∨ ∃ b, v1.ownBlock = some b ∧ W.heap.size ≤ b) → Kc (a.put o.dst v1) w1) :
    if Region.wanted o (yielded ops a.tmps) = true then Oper.wp P o a (W.alloc (.cells cs.toArray e)) Kc Q else E := by
  have h1 := Kd.R_append_step (ops := ops) (Q := Q) d base hw s x t e z bytes ho ht hinfo hz hs0 hb0 v xs p cs ok okp hs hx hp hokp hfresh HO HB hbase hl h
  rw [if_pos hw] at h1 ⊢
  exact h1
end
theorem info_f43 : (Try.prog.info? 43).map (fun i => (i.zero, i.size, i.bytes)) = some (some (.agg #[.string ByteArray.empty, .slice none 0 0, .int .i64 0]), 3, 48) := by kernel_rfl
def DD.file (D : DD) (n : ByteArray) : S43 := ⟨n, (D.was n).1, (D.was n).2⟩
def DD.list (D : DD) : List S43 := (sortS (D.fs.map FileV.n)).map D.file
theorem below_lift {w W : World} (h : Below w.heap.size w W) : Below w.heap.size w W := h
set_option maxRecDepth 100000 in
set_option maxHeartbeats 4000000 in
theorem wFiles {S : Nat → Prop} {g : Nat} {D : DD} {w : World} (h : DiskR S w g D) (hl : sumL D.fs ≤ 100000) (hcnt : D.fs.length ≤ 100000) :
    Calls Try.prog 18 #[.pointer (some ⟨g, 0, none⟩)] w fun e w' => ∃ v : Value, e = .returned v ∧ Kd.R k43 43 w' w.heap.size (fun _ => True) v D.list ∧ Below w.heap.size w w' := by
  obtain ⟨m, ps, hP⟩ := h.parts
  obtain ⟨⟨c0, -⟩, -⟩ := hP.at
  have hpl : ps.length ≤ 1000000 := by have := congrArg List.length hP.fs; rw [List.length_map] at this; omega
  have HP := Aside0.mk hP
  have HS := Aside0.mk (wsortedK (w := w) hP.map hP.names hpl)
  obtain ⟨ns, hns⟩ : ∃ ns, sortS ((ps.map Prod.fst).map FileV.n) = ns := ⟨_, rfl⟩
  have hlist : D.list = ns.map D.file := by unfold DD.list; rw [hP.fs, hns]
  have hmem : ∀ n ∈ ns, ∃ q ∈ ps, q.1.n = n := by
    intro n hn
    rw [← hns] at hn
    have := (sortS_perm _).mem_iff.1 hn
    obtain ⟨f, hf, rfl⟩ := List.mem_map.1 this
    obtain ⟨q, hq, rfl⟩ := List.mem_map.1 hf
    exact ⟨q, hq, rfl⟩
  have hnl : ns.length ≤ 1000000 := by rw [← hns, sortS_len]; simpa using hpl
  rw [hns] at HS
  rw [hlist]
  have HM := Aside0.mk hmem
  have HL := Aside0.mk (And.intro hl hnl)
  clear hP hl hcnt h hpl hns hlist hmem
  go_enter Try.func18, Try.ntmps18
  go_wp2_with fail
  refine (wkeys (some m) w).mono ?_
  rintro e w1 ⟨rfl, rfl⟩
  go_wp2_with fail
  refine HS.out.mono ?_
  clear HS
  rintro e w2 ⟨vn, rfl, hR, hB⟩
  have HNR := Aside0.mk hR
  have HB := Aside0.mk hB
  obtain ⟨An, cn, rfl⟩ := Kd.R_slice hR
  clear hR hB
  go_wp2_with fail
  go_loopw [2, 13] (fun v i wr => ∃ (k : Nat) (A : Option Addr) (c : Nat), v = .slice A ((ns.map D.file).take k).length c ∧ k ≤ ns.length ∧ i = .int .i64 k ∧ Aside0 (Kd.R k43 43 wr w.heap.size (fun _ => True) v ((ns.map D.file).take k)) ∧ Aside0 (Kd.string.R 9 wr w.heap.size (fun _ => True) (.slice An ns.length cn) ns) ∧ Aside0 (Below w.heap.size w wr)) (fun _ i _ => ns.length - (intOf i).toNat)
  case atStart => exact ⟨0, none, 0, rfl, Nat.zero_le _, rfl, ⟨Kd.R_nil _ _ _ _ _⟩, HNR, HB⟩
  case round =>
    obtain ⟨k, Ao, co, rfl, hk, rfl, HO, HN, HBr⟩ := hrel
    clear HNR HB
    by_cases hlt : k < ns.length
    case neg =>
      obtain rfl : k = ns.length := by omega
      have e0 : (ns.map D.file).take ns.length = ns.map D.file := List.take_of_length_le (by simp)
      rw [e0] at HO ⊢
      clear HN HM e0
      obtain ⟨xs, hxs⟩ : ∃ xs, ns.map D.file = xs := ⟨_, rfl⟩
      have HX := Aside0.mk hxs
      rw [hxs] at HO ⊢
      clear hxs
      go_wp2_with fail
      go_ret
      exact ⟨_, rfl, by rw [HX.out]; exact HO.out, HBr.out⟩
    have hnlen := HL.out.2
    obtain ⟨ad, hA, hc⟩ := Kd.at_string (Kd.R_reads' HN.out).2.2 (k : Int) (by omega) (by omega)
    subst hA
    rw [Int.toNat_natCast] at hc
    have hrd : rdOf ByteArray.empty ns (k : Int) = ns[k] := by simp [rdOf, List.getD_eq_getElem?_getD, hlt]
    rw [hrd] at hc
    obtain ⟨q0, hq0, hq0n⟩ := HM.out ns[k] (List.getElem_mem hlt)
    have htk : (ns.map D.file).take (k + 1) = (ns.map D.file).take k ++ [D.file ns[k]] := by
      rw [List.take_add_one, List.getElem?_map, List.getElem?_eq_getElem hlt]; rfl
    obtain ⟨nm, hnm⟩ : ∃ x, ns[k] = x := ⟨_, rfl⟩
    rw [hnm] at hc hq0n htk
    have HPr := Aside0.mk (HP.out.below HBr.out)
    have hns1 : nm.size ≤ maxLen := by
      have := (HP.out.ok.files q0.1 (by rw [HP.out.fs]; exact List.mem_map.2 ⟨q0, hq0, rfl⟩)).n
      rw [← hq0n]; simp only [maxLen]; omega
    have hlk : ∃ (j : Nat) (q : FileV × Nat), ps[j]? = some q ∧ q.1.n = nm ∧ (ps.map Prod.fst).find? (fun f => decide (f.n = nm)) = some q.1 ∧ (Instr.lookup 49 (.map (some m)) (.string nm) false).run Try.prog wr = .ok (.pointer (some ⟨q.2, 0, none⟩)) wr := by
      rcases look (S := S) HPr.out.map HP.out.names nm hns1 false with ⟨_, h2⟩ | h2
      · rw [List.find?_eq_none] at h2
        exact absurd (decide_eq_true hq0n) (h2 q0.1 (List.mem_map.2 ⟨q0, hq0, rfl⟩))
      · exact h2
    obtain ⟨j, q, hq, hqn, hfd, hlk⟩ := hlk
    have hqm := List.mem_of_getElem? hq
    obtain ⟨A, c, hv, hlc, hH, hC⟩ := file_held (HP.out.files q hqm) HP.out.cells
    have hfile : D.file nm = ⟨nm, q.1.d, q.1.s⟩ := by
      have : D.was nm = (q.1.d, q.1.s) := by unfold DD.was DD.find; rw [HP.out.fs, hfd]
      unfold DD.file; rw [this]
    have hqlen : q.1.d.length ≤ 100000 := Nat.le_trans (mem_len (by rw [HP.out.fs]; exact List.mem_map.2 ⟨q, hqm, rfl⟩)) HL.out.1
    rw [hfile] at htk
    obtain ⟨g0, -⟩ := HPr.out.at.1
    have HF := Aside0.mk (And.intro (lt_of_heap hv) (two_cells hv))
    have HC := Aside0.mk (And.intro hC (And.intro hlc hqlen))
    have HT := Aside0.mk htk
    have htl : ((ns.map D.file).take k).length = k := by rw [List.length_take, List.length_map]; omega
    rw [htl] at HO ⊢
    have HTL := Aside0.mk htl
    clear hv hlc hC hH hqlen htk hfile hfd hq hqn hqm hq0 hq0n hnm hns1 hrd c0 htl
    generalize (ns.map D.file).take k = xs at HO HT HTL
    go_upto_region 5 with fail
    have HBBc := Aside0.mk (below_drew HBr.out)
    have HOc := Aside0.mk (Kd.R_drew HO.out)
    have HNc := Aside0.mk (Kd.R_drew HN.out)
    refine wp_region_held_drew (S := (fun W => W.cell? ⟨q.2, 0, none⟩ = some (.slice A q.1.d.length c) ∧ W.cell? ⟨q.2, 1, none⟩ = some (.int .i64 q.1.s))) (by kernel_rfl) ⟨(HBBc.out.cell HF.out.1).trans HF.out.2.1, (HBBc.out.cell HF.out.1).trans HF.out.2.2⟩ (fun hHeld => ?_)
    generalize wr.drew = wz at HBBc HOc HNc hHeld ⊢
    refine wpAnyH_take (i := 0) (oi := { dst := some 23, op := Op.move (Operand.tmp 2), type := 39, pos := "disk.go:145", after := #[], guard := none }) (v := ?_) rfl (by kernel_rfl) (by kernel_rfl) (by kernel_rfl) (fun _ _ _ h => h) (Or.inl ⟨by rfl, ?_⟩) (by assumption) ?_
    rotate_left
    · intro w hSw
      try dsimp only at hSw
      go_simp
      all_goals with_reducible rfl
    try simp only [Act.put, List.setIfInBounds_toArray, List.set_cons_zero, List.set_cons_succ]
    refine wpAnyH_take (i := 1) (oi := { dst := some 24, op := Op.move (Operand.tmp 4), type := 9, pos := "disk.go:145", after := #[], guard := none }) (v := ?_) rfl (by kernel_rfl) (by kernel_rfl) (by kernel_rfl) (fun _ _ _ h => h) (Or.inl ⟨by rfl, ?_⟩) (by assumption) ?_
    rotate_left
    · intro w hSw
      try dsimp only at hSw
      go_simp
      all_goals with_reducible rfl
    try simp only [Act.put, List.setIfInBounds_toArray, List.set_cons_zero, List.set_cons_succ]
    refine wpAnyH_take (i := 2) (oi := { dst := some 25, op := Op.move (Operand.tmp 5), type := 59, pos := "disk.go:145", after := #[], guard := none }) (v := ?_) rfl (by kernel_rfl) (by kernel_rfl) (by kernel_rfl) (fun _ _ _ h => h) (Or.inl ⟨by rfl, ?_⟩) (by assumption) ?_
    rotate_left
    · intro w hSw
      try dsimp only at hSw
      go_simp
      all_goals with_reducible rfl
    try simp only [Act.put, List.setIfInBounds_toArray, List.set_cons_zero, List.set_cons_succ]
    refine wpAnyH_take (i := 3) (oi := { dst := some 26, op := Op.nilCheck (Operand.tmp 25), type := 0, pos := "disk.go:145", after := #[{ on := 2, ground := Ground.data }], guard := none }) (v := ?_) rfl (by kernel_rfl) (by kernel_rfl) (by kernel_rfl) (fun _ _ _ h => h) (Or.inl ⟨by rfl, ?_⟩) (by assumption) ?_
    rotate_left
    · intro w hSw
      try dsimp only at hSw
      go_simp
      all_goals with_reducible rfl
    try simp only [Act.put, List.setIfInBounds_toArray, List.set_cons_zero, List.set_cons_succ]
    refine wpAnyH_take (i := 4) (oi := { dst := some 27, op := Op.fieldAddr 56 (Operand.tmp 26) 0, type := 0, pos := "disk.go:145", after := #[{ on := 3, ground := Ground.data }], guard := none }) (v := ?_) rfl (by kernel_rfl) (by kernel_rfl) (by kernel_rfl) (fun _ _ _ h => h) (Or.inl ⟨by rfl, ?_⟩) (by assumption) ?_
    rotate_left
    · intro w hSw
      try dsimp only at hSw
      go_simp
      all_goals with_reducible rfl
    try simp only [Act.put, List.setIfInBounds_toArray, List.set_cons_zero, List.set_cons_succ]
    refine wpAnyH_take (i := 5) (oi := { dst := some 28, op := Op.load 22 (Operand.tmp 27), type := 22, pos := "disk.go:145", after := #[{ on := 4, ground := Ground.data }], guard := none }) (v := ?_) rfl (by kernel_rfl) (by kernel_rfl) (by kernel_rfl) (fun _ _ _ h => h) (Or.inl ⟨by rfl, ?_⟩) (by assumption) ?_
    rotate_left
    · intro w hSw
      try dsimp only at hSw
      go_simp
      all_goals with_reducible rfl
    try simp only [Act.put, List.setIfInBounds_toArray, List.set_cons_zero, List.set_cons_succ]
    refine wpAnyH_take (i := 7) (oi := { dst := some 30, op := Op.move (Operand.tmp 5), type := 59, pos := "disk.go:145", after := #[], guard := none }) (v := ?_) rfl (by kernel_rfl) (by kernel_rfl) (by kernel_rfl) (fun _ _ _ h => h) (Or.inl ⟨by rfl, ?_⟩) (by assumption) ?_
    rotate_left
    · intro w hSw
      try dsimp only at hSw
      go_simp
      all_goals with_reducible rfl
    try simp only [Act.put, List.setIfInBounds_toArray, List.set_cons_zero, List.set_cons_succ]
    refine wpAnyH_take (i := 8) (oi := { dst := some 31, op := Op.nilCheck (Operand.tmp 30), type := 0, pos := "disk.go:145", after := #[{ on := 7, ground := Ground.data }], guard := none }) (v := ?_) rfl (by kernel_rfl) (by kernel_rfl) (by kernel_rfl) (fun _ _ _ h => h) (Or.inl ⟨by rfl, ?_⟩) (by assumption) ?_
    rotate_left
    · intro w hSw
      try dsimp only at hSw
      go_simp
      all_goals with_reducible rfl
    try simp only [Act.put, List.setIfInBounds_toArray, List.set_cons_zero, List.set_cons_succ]
    refine wpAnyH_take (i := 9) (oi := { dst := some 32, op := Op.fieldAddr 56 (Operand.tmp 31) 1, type := 0, pos := "disk.go:145", after := #[{ on := 8, ground := Ground.data }], guard := none }) (v := ?_) rfl (by kernel_rfl) (by kernel_rfl) (by kernel_rfl) (fun _ _ _ h => h) (Or.inl ⟨by rfl, ?_⟩) (by assumption) ?_
    rotate_left
    · intro w hSw
      try dsimp only at hSw
      go_simp
      all_goals with_reducible rfl
    try simp only [Act.put, List.setIfInBounds_toArray, List.set_cons_zero, List.set_cons_succ]
    refine wpAnyH_take (i := 10) (oi := { dst := some 33, op := Op.load 3 (Operand.tmp 32), type := 3, pos := "disk.go:145", after := #[{ on := 9, ground := Ground.data }], guard := none }) (v := ?_) rfl (by kernel_rfl) (by kernel_rfl) (by kernel_rfl) (fun _ _ _ h => h) (Or.inl ⟨by rfl, ?_⟩) (by assumption) ?_
    rotate_left
    · intro w hSw
      try dsimp only at hSw
      go_simp
      all_goals with_reducible rfl
    try simp only [Act.put, List.setIfInBounds_toArray, List.set_cons_zero, List.set_cons_succ]
    refine wpAnyH_ready (rs := [6]) (by kernel_rfl) (by simp) ?_
    refine AllReadyH.cons (o := { dst := some 29, op := Op.call { callee := Callee.value (Operand.func 38), args := #[Operand.tmp 28], argTypes := #[22] }, type := 22, pos := "disk.go:145", after := #[{ on := 5, ground := Ground.data }], guard := none }) rfl (fun K hK => ?_) AllReadyH.nil
    (go_simp; refine (clone_ok (Kd.C_below (w1 := wz) HC.out.1 (below_lift HBBc.out)) HC.out.2.1 HC.out.2.2).mono ?_; rintro e wx ⟨vd, rfl, hRd, hBx⟩; obtain ⟨Ad, cd, rfl⟩ := Kd.R_slice hRd; have HRd := Aside0.mk (Kd.R_mono (Kd.R_bound hRd) (ok' := fun k => wz.heap.size ≤ k ∧ k < wx.heap.size) (fun k hk => ⟨hk.2.1, hk.2.2.1⟩)); have HZX := Aside0.mk (show wz.heap.size ≤ wx.heap.size from hBx.size); have HOx := Aside0.mk (Kd.R_below HOc.out hBx); have HNx := Aside0.mk (Kd.R_below HNc.out hBx); have HLT := Aside0.mk (Kd.R_lt HOc.out); have HBx := Aside0.mk (HBBc.out.trans (hBx.mono HBBc.out.size)); have HZ0 := Aside0.mk HBBc.out.size; clear HBBc HOc HNc hRd hBx; have HBBc := HBx; go_wp2_with fail)
    refine hK.out _ _ ⟨(HBBc.out.cell HF.out.1).trans HF.out.2.1, (HBBc.out.cell HF.out.1).trans HF.out.2.2⟩ (fun hHeld => ?_)
    clear hK K
    try simp only [Act.put, List.setIfInBounds_toArray, List.set_cons_zero, List.set_cons_succ]
    refine wpAnyH_take (i := 11) (oi := { dst := some 34, op := Op.build 43 #[(0, Operand.tmp 24), (1, Operand.tmp 29), (2, Operand.tmp 33)], type := 43, pos := "disk.go:145", after := #[{ on := 1, ground := Ground.data }, { on := 6, ground := Ground.data }, { on := 10, ground := Ground.data }], guard := none }) (v := ?_) rfl (by kernel_rfl) (by kernel_rfl) (by kernel_rfl) (fun _ _ _ h => h) (Or.inl ⟨by rfl, ?_⟩) (by assumption) ?_
    rotate_left
    · intro w hSw
      try dsimp only at hSw
      go_simp
      all_goals with_reducible rfl
    try simp only [Act.put, List.setIfInBounds_toArray, List.set_cons_zero, List.set_cons_succ]
    refine wpAnyH_ready (rs := [12]) (by kernel_rfl) (by simp) ?_
    refine AllReadyH.cons (o := { dst := some 35, op := Op.buildSlice 39 1 #[(0, Operand.tmp 34)], type := 39, pos := "disk.go:145", after := #[{ on := 11, ground := Ground.data }], guard := none }) rfl (fun K hK => ?_) AllReadyH.nil
    go_simp
    (have HBd := Aside0.mk (HBBc.out.alloc HBBc.out.size (.cells #[.string nm, .slice Ad q.1.d.length cd, .int .i64 q.1.s] 43 (0, 0))); clear HBBc; have HBBc := HBd)
    refine hK.out _ _ ⟨(HBBc.out.cell HF.out.1).trans HF.out.2.1, (HBBc.out.cell HF.out.1).trans HF.out.2.2⟩ (fun hHeld => ?_)
    clear hK K
    try simp only [Act.put, List.setIfInBounds_toArray, List.set_cons_zero, List.set_cons_succ]
    refine wpAnyH_ready (rs := [13]) (by kernel_rfl) (by simp) ?_
    refine AllReadyH.cons (o := { dst := some 36, op := Op.call { callee := Callee.builtin Builtin.append, args := #[Operand.tmp 23, Operand.tmp 35], argTypes := #[39, 39] }, type := 39, pos := "disk.go:145", after := #[{ on := 0, ground := Ground.data }, { on := 12, ground := Ground.data }, { on := 6, ground := Ground.chain }], guard := none }) rfl (fun K hK => ?_) AllReadyH.nil
    (refine step_append_kd k43 (w0 := w) w.heap.size (by rfl) (.tmp 23) (.tmp 35) 39 43 _ 48 rfl Try.underlying39 info_f43 rfl (by decide) (by decide) _ xs ⟨nm, q.1.d, q.1.s⟩ [.string nm, .slice Ad q.1.d.length cd, .int .i64 q.1.s] (fun _ => True) (fun k => wz.heap.size ≤ k ∧ k < wx.heap.size) rfl rfl (k43_mkM _ _ _ _ (Kd.R_lower HRd.out HZ0.out)) (fun k hk => ⟨trivial, fun e => by have := HLT.out k e.symm; omega⟩) (fun _ _ => trivial) HOx.out HBx.out HBx.out.size (by rw [HTL.out]; omega) ?_; intro vn1 wn hRn hBn hGn hat; rw [← HT.out] at hRn; have HO3 := Aside0.mk hRn; have HN3 := Aside0.mk (Kd.R_over HNx.out HOx.out (by decide) hGn); clear HBBc; have HBBc := Aside0.mk hBn; obtain ⟨A3, c3, rfl⟩ := Kd.R_slice hRn; have HLEN := Aside0.mk (show ((ns.map D.file).take (k + 1)).length = k + 1 by rw [List.length_take, List.length_map]; omega); rw [HLEN.out] at HO3 ⊢; clear hRn hBn hGn hat)
    refine hK.out _ _ ⟨(HBBc.out.cell HF.out.1).trans HF.out.2.1, (HBBc.out.cell HF.out.1).trans HF.out.2.2⟩ (fun hHeld => ?_)
    clear hK K
    try simp only [Act.put, List.setIfInBounds_toArray, List.set_cons_zero, List.set_cons_succ]
    refine wpAnyH_take (i := 14) (oi := { dst := some 2, op := Op.assign (Operand.tmp 36), type := 39, pos := "disk.go:145", after := #[{ on := 13, ground := Ground.data }, { on := 13, ground := Ground.chain }, { on := 0, ground := Ground.phase }, { on := 1, ground := Ground.phase }, { on := 2, ground := Ground.phase }, { on := 3, ground := Ground.phase }, { on := 4, ground := Ground.phase }, { on := 5, ground := Ground.phase }, { on := 6, ground := Ground.phase }, { on := 7, ground := Ground.phase }, { on := 8, ground := Ground.phase }, { on := 9, ground := Ground.phase }, { on := 10, ground := Ground.phase }, { on := 11, ground := Ground.phase }, { on := 12, ground := Ground.phase }, { on := 13, ground := Ground.phase }], guard := none }) (v := ?_) rfl (by kernel_rfl) (by kernel_rfl) (by kernel_rfl) (fun _ _ _ h => h) (Or.inl ⟨by rfl, ?_⟩) (by assumption) ?_
    rotate_left
    · intro w hSw
      try dsimp only at hSw
      go_simp
      all_goals with_reducible rfl
    try simp only [Act.put, List.setIfInBounds_toArray, List.set_cons_zero, List.set_cons_succ]
    refine wpAnyH_done (by kernel_rfl) ?_ _
    go_wp2_with fail
    exact ⟨⟨k + 1, A3, c3, by rw [HLEN.out], by omega, by go_num, ⟨HO3.out⟩, ⟨HN3.out⟩, ⟨HBBc.out⟩⟩, by simp [intOf]; omega⟩
end Go.Proofs.Ytcejkfjjildngaa
end

section
/- the disk in a law: what is kept beside it -/
set_option linter.unusedVariables false
set_option linter.unusedSimpArgs false
set_option autoImplicit false
namespace Go.Proofs.Ytcejkfjjildngaa
open Go Go.RowKit Go.Proofs.YtcejkfjjildngaaW.PrintWords Go.Proofs.YtcejkfjjildngaaW.PrintLast Go.Proofs.YtcejkfjjildngaaW.PrintMore Go.Proofs.Ytcejkfjjildngaa.G

/-- where a law stands: the disk is so; X: blocks that are none of hers -/
structure LS (X : Nat → Prop) (w0 w : World) (g : Nat) (D : DD) : Prop where
  ex : ∃ S, DiskR S w g D ∧ (∀ k, S k → w0.heap.size ≤ k) ∧ (∀ k, S k → ¬ X k)
  low : ∀ k, X k → k < w.heap.size
  bel : Below w0.heap.size w0 w
def Keep (X : Nat → Prop) (w w' : World) : Prop := w.heap.size ≤ w'.heap.size ∧ ∀ k, X k → w'.heap[k]? = w.heap[k]?
theorem Keep.row {X : Nat → Prop} {w w' : World} (h : Keep X w w') {α : Type} {d : Kd α} {e : Nat} {v : Value} {xs : List α} (hr : d.R e w 0 X v xs) : d.R e w' 0 X v xs := Kd.R_move hr h.2
theorem Keep.trans {X : Nat → Prop} {a b c : World} (h : Keep X a b) (h1 : Keep X b c) : Keep X a c := ⟨Nat.le_trans h.1 h1.1, fun k hk => (h1.2 k hk).trans (h.2 k hk)⟩
theorem LS.g_ge {X : Nat → Prop} {w0 w : World} {g : Nat} {D : DD} (h : LS X w0 w g D) : w0.heap.size ≤ g := by
  obtain ⟨S, h1, h2, _⟩ := h.ex
  exact h2 g h1.own
theorem LS.g_lt {X : Nat → Prop} {w0 w : World} {g : Nat} {D : DD} (h : LS X w0 w g D) : g < w.heap.size := by
  obtain ⟨S, h1, h2, _⟩ := h.ex
  exact h1.bound g h1.own
theorem LS.ok {X : Nat → Prop} {w0 w : World} {g : Nat} {D : DD} (h : LS X w0 w g D) : DDOk D := by
  obtain ⟨S, h1, h2, _⟩ := h.ex
  exact h1.ok
/-- behind a call on the disk -/
theorem LS.after {X S : Nat → Prop} {w0 w w' : World} {g : Nat} {D D' : DD} (h : LS X w0 w g D) (h1 : ∀ k, S k → w0.heap.size ≤ k) (h2 : ∀ k, S k → ¬ X k) (hA : After S w w' g D') : LS X w0 w' g D' ∧ Keep X w w' := by
  obtain ⟨S', h3, h4, h5⟩ := hA
  refine ⟨⟨⟨S', h3, fun k hk => ?_, fun k hk hx => ?_⟩, fun k hk => Nat.lt_of_lt_of_le (h.low k hk) h4.size, h4.below h.bel h1⟩, h4.size, fun k hk => h4.block k (h.low k hk) (fun hs => h2 k hs hk)⟩
  · rcases h5 k hk with hk | hk
    · exact h1 k hk
    · exact Nat.le_trans h.bel.size hk
  · rcases h5 k hk with hk | hk
    · exact h2 k hk hx
    · have := h.low k hx; omega
/-- behind a call that lays blocks alone: they may be kept -/
theorem LS.more {X : Nat → Prop} {w0 w w' : World} {g : Nat} {D : DD} (h : LS X w0 w g D) (hb : Below w.heap.size w w') : LS (fun k => X k ∨ (w.heap.size ≤ k ∧ k < w'.heap.size)) w0 w' g D := by
  obtain ⟨S, h1, h2, h3⟩ := h.ex
  refine ⟨⟨S, h1.below hb, h2, fun k hk hx => ?_⟩, fun k hk => ?_, h.bel.trans (hb.mono h.bel.size)⟩
  · rcases hx with hx | hx
    · exact h3 k hk hx
    · have := h1.bound k hk; omega
  · rcases hk with hk | hk
    · exact Nat.lt_of_lt_of_le (h.low k hk) hb.size
    · exact hk.2
theorem LS.below {X : Nat → Prop} {w0 w w' : World} {g : Nat} {D : DD} (h : LS X w0 w g D) (hb : Below w.heap.size w w') : LS X w0 w' g D := by
  obtain ⟨S, h1, h2, h3⟩ := h.ex
  exact ⟨⟨S, h1.below hb, h2, h3⟩, fun k hk => Nat.lt_of_lt_of_le (h.low k hk) hb.size, h.bel.trans (hb.mono h.bel.size)⟩
theorem Keep.of_below {X : Nat → Prop} {w w' : World} (hb : Below w.heap.size w w') (hX : ∀ k, X k → k < w.heap.size) : Keep X w w' := ⟨hb.size, fun k hk => hb.block k (hX k hk)⟩
theorem row_of {α : Type} {d : Kd α} {e : Nat} {w w' : World} {v : Value} {xs : List α} (h : d.R e w' w.heap.size (fun _ => True) v xs) (X : Nat → Prop) : d.R e w' 0 (fun k => X k ∨ (w.heap.size ≤ k ∧ k < w'.heap.size)) v xs :=
  Kd.R_lower (Kd.R_mono (Kd.R_bound h) (fun k hk => .inr ⟨hk.2.1, hk.2.2.1⟩)) (Nat.zero_le _)
theorem row_mono {α : Type} {d : Kd α} {e : Nat} {w : World} {X : Nat → Prop} {v : Value} {xs : List α} (h : d.R e w 0 X v xs) {X' : Nat → Prop} (hX : ∀ k, X k → X' k) : d.R e w 0 X' v xs := Kd.R_mono h hX

theorem lnew (room : Int) (hr : room ≤ 9223372036854775807) (w : World) : Calls Try.prog 10 #[.int .i64 room] w fun e w' => ∃ g, e = .returned (.pointer (some ⟨g, 0, none⟩)) ∧ LS (fun _ => False) w w' g ⟨[], max room 0, false, 0, false⟩ := by
  refine (wnew room hr w).mono ?_
  rintro e w' ⟨g, rfl, S, h1, h2, h3⟩
  exact ⟨g, rfl, ⟨S, h1, h2, fun _ _ h => h⟩, fun _ h => h.elim, h3⟩
section
variable {X : Nat → Prop} {w0 w : World} {g : Nat} {D : DD} (h : LS X w0 w g D)
include h
theorem lWrite (n : ByteArray) (hn : n.size ≤ 1000) (Ab : Option Addr) (cb : Nat) (b : List Int) (hb : HeldB w (fun k => k ≠ g ∧ k < w.heap.size) Ab b) (hcb : b.length ≤ cb) (hu : u8s b) (hlim : sumL D.fs + b.length ≤ 30000) {re : Int} {D' : DD} (hr : D.lay n true b = (re, D')) :
    Calls Try.prog 12 #[.pointer (some ⟨g, 0, none⟩), .string n, .slice Ab b.length cb] w fun e w' => e = .returned (.int .i64 re) ∧ LS X w0 w' g D' ∧ Keep X w w' := by
  obtain ⟨S, h1, h2, h3⟩ := h.ex
  have := wWrite h1 n hn Ab cb b hb hcb hu hlim
  rw [hr] at this
  exact this.mono (fun e w' ⟨e1, hA⟩ => ⟨e1, h.after h2 h3 hA⟩)
theorem lAppend (n : ByteArray) (hn : n.size ≤ 1000) (Ab : Option Addr) (cb : Nat) (b : List Int) (hb : HeldB w (fun k => k ≠ g ∧ k < w.heap.size) Ab b) (hcb : b.length ≤ cb) (hu : u8s b) (hlim : sumL D.fs + b.length ≤ 30000) {re : Int} {D' : DD} (hr : D.lay n false b = (re, D')) :
    Calls Try.prog 23 #[.pointer (some ⟨g, 0, none⟩), .string n, .slice Ab b.length cb] w fun e w' => e = .returned (.int .i64 re) ∧ LS X w0 w' g D' ∧ Keep X w w' := by
  obtain ⟨S, h1, h2, h3⟩ := h.ex
  have := wAppend h1 n hn Ab cb b hb hcb hu hlim
  rw [hr] at this
  exact this.mono (fun e w' ⟨e1, hA⟩ => ⟨e1, h.after h2 h3 hA⟩)
theorem lSync (n : ByteArray) (hn : n.size ≤ 1000) {re : Int} {D' : DD} (hr : D.sync n = (re, D')) :
    Calls Try.prog 13 #[.pointer (some ⟨g, 0, none⟩), .string n] w fun e w' => e = .returned (.int .i64 re) ∧ LS X w0 w' g D' ∧ Keep X w w' := by
  obtain ⟨S, h1, h2, h3⟩ := h.ex
  have := wSync h1 n hn
  rw [hr] at this
  exact this.mono (fun e w' ⟨e1, hA⟩ => ⟨e1, h.after h2 h3 hA⟩)
theorem lRemove (n : ByteArray) (hn : n.size ≤ 1000) {re : Int} {D' : DD} (hr : D.remove n = (re, D')) :
    Calls Try.prog 25 #[.pointer (some ⟨g, 0, none⟩), .string n] w fun e w' => e = .returned (.int .i64 re) ∧ LS X w0 w' g D' ∧ Keep X w w' := by
  obtain ⟨S, h1, h2, h3⟩ := h.ex
  have := wRemove h1 n hn
  rw [hr] at this
  exact this.mono (fun e w' ⟨e1, hA⟩ => ⟨e1, h.after h2 h3 hA⟩)
theorem lRename (n nt : ByteArray) (hn : n.size ≤ 1000) {re : Int} {D' : DD} (hr : D.rename n nt = (re, D')) :
    Calls Try.prog 24 #[.pointer (some ⟨g, 0, none⟩), .string n, .string nt] w fun e w' => e = .returned (.int .i64 re) ∧ LS X w0 w' g D' ∧ Keep X w w' := by
  obtain ⟨S, h1, h2, h3⟩ := h.ex
  have := wRename h1 n nt hn
  rw [hr] at this
  exact this.mono (fun e w' ⟨e1, hA⟩ => ⟨e1, h.after h2 h3 hA⟩)
theorem lKill (a : Int) (ha : a ≤ 9223372036854775807) {D' : DD} (hr : { D with dies := true, left := max a 0 } = D') :
    Calls Try.prog 22 #[.pointer (some ⟨g, 0, none⟩), .int .i64 a] w fun e w' => e = .returned (.tuple #[]) ∧ LS X w0 w' g D' ∧ Keep X w w' := by
  obtain ⟨S, h1, h2, h3⟩ := h.ex
  have := wkill h1 a ha
  rw [hr] at this
  exact this.mono (fun e w' ⟨e1, hA⟩ => ⟨e1, h.after h2 h3 hA⟩)
theorem lCrash (a : Int) (hl : sumL D.fs ≤ 100000) {D' : DD} (hr : D.crash a = D') :
    Calls Try.prog 19 #[.pointer (some ⟨g, 0, none⟩), .int .i64 a] w fun e w' => e = .returned (.tuple #[]) ∧ LS X w0 w' g D' ∧ Keep X w w' := by
  obtain ⟨S, h1, h2, h3⟩ := h.ex
  have := wCrash h1 a hl
  rw [hr] at this
  exact this.mono (fun e w' ⟨e1, hA⟩ => ⟨e1, h.after h2 h3 hA⟩)
theorem lDead : Calls Try.prog 20 #[.pointer (some ⟨g, 0, none⟩)] w fun e w' => e = .returned (.bool D.dead) ∧ w' = w := by
  obtain ⟨S, h1, h2, h3⟩ := h.ex
  exact wdead h1
theorem lRead (n : ByteArray) (hn : n.size ≤ 1000) (hl : sumL D.fs ≤ 100000) {l : List Int} {is : Bool} (hr : D.read n = (l, is)) :
    Calls Try.prog 17 #[.pointer (some ⟨g, 0, none⟩), .string n] w fun e w' => ∃ A c, e = .returned (.tuple #[.slice A l.length c, .bool is]) ∧ l.length ≤ c ∧ (Kd.int .u8).R 5 w' 0 (fun k => X k ∨ (w.heap.size ≤ k ∧ k < w'.heap.size)) (.slice A l.length c) l ∧
      LS (fun k => X k ∨ (w.heap.size ≤ k ∧ k < w'.heap.size)) w0 w' g D ∧ Keep X w w' := by
  obtain ⟨S, h1, h2, h3⟩ := h.ex
  have := wRead h1 n hn hl
  rw [hr] at this
  refine this.mono (fun e w' ⟨v, e1, hR, hB⟩ => ?_)
  obtain ⟨A, c, rfl⟩ := Kd.R_slice hR
  exact ⟨A, c, e1, (Kd.R_reads' hR).2.1, row_of hR X, h.more hB, Keep.of_below hB h.low⟩
theorem lFiles (hl : sumL D.fs ≤ 100000) (hcnt : D.fs.length ≤ 100000) {l : List S43} (hr : D.list = l) :
    Calls Try.prog 18 #[.pointer (some ⟨g, 0, none⟩)] w fun e w' => ∃ A c, e = .returned (.slice A l.length c) ∧ l.length ≤ c ∧ Kd.R k43 43 w' 0 (fun k => X k ∨ (w.heap.size ≤ k ∧ k < w'.heap.size)) (.slice A l.length c) l ∧
      LS (fun k => X k ∨ (w.heap.size ≤ k ∧ k < w'.heap.size)) w0 w' g D ∧ Keep X w w' := by
  obtain ⟨S, h1, h2, h3⟩ := h.ex
  have := wFiles h1 hl hcnt
  rw [hr] at this
  refine this.mono (fun e w' ⟨v, e1, hR, hB⟩ => ?_)
  obtain ⟨A, c, rfl⟩ := Kd.R_slice hR
  exact ⟨A, c, e1, (Kd.R_reads' hR).2.1, row_of hR X, h.more hB, Keep.of_below hB h.low⟩
end
end Go.Proofs.Ytcejkfjjildngaa
end

section
/- the disk: what plain sequences of calls do -/
set_option linter.unusedVariables false
set_option linter.unusedSimpArgs false
set_option autoImplicit false
namespace Go.Proofs.Ytcejkfjjildngaa
open Go Go.RowKit Go.Proofs.YtcejkfjjildngaaW.PrintWords Go.Proofs.YtcejkfjjildngaaW.PrintLast Go.Proofs.YtcejkfjjildngaaW.PrintMore Go.Proofs.Ytcejkfjjildngaa.G

def na : ByteArray := ⟨#[97]⟩
def nb : ByteArray := ⟨#[98]⟩
def nf : ByteArray := ⟨#[102]⟩
def nt : ByteArray := ⟨#[116]⟩
def Z (fs : List FileV) (left : Int) (dead dies : Bool) : DD := ⟨fs, 9, dies, left, dead⟩
theorem sm1 : (⟨[], max 9 0, false, 0, false⟩ : DD).lay na false [97, 98] = (0, Z [⟨na, [97, 98], 0⟩] 0 false false) := by kernel_rfl
theorem sm2 : (Z [⟨na, [97, 98], 0⟩] 0 false false).sync na = (0, Z [⟨na, [97, 98], 2⟩] 0 false false) := by kernel_rfl
theorem sm3 : (Z [⟨na, [97, 98], 2⟩] 0 false false).lay na false [99, 100] = (0, Z [⟨na, [97, 98, 99, 100], 2⟩] 0 false false) := by kernel_rfl
theorem sm4 : (Z [⟨na, [97, 98, 99, 100], 2⟩] 0 false false).lay nb false [49, 50, 51, 52, 53, 54] = (12, Z [⟨na, [97, 98, 99, 100], 2⟩] 0 false false) := by kernel_rfl
theorem sm5 : (Z [⟨na, [97, 98, 99, 100], 2⟩] 0 false false).crash 1 = Z [⟨na, [97, 98, 99], 3⟩] 0 false false := by kernel_rfl
theorem sm6 : (Z [⟨na, [97, 98, 99], 3⟩] 0 false false).read na = ([97, 98, 99], true) := by kernel_rfl
theorem sm7 : ({ Z [⟨na, [97, 98, 99], 3⟩] 0 false false with dies := true, left := max 2 0 } : DD) = Z [⟨na, [97, 98, 99], 3⟩] 2 false true := by kernel_rfl
theorem sm8 : (Z [⟨na, [97, 98, 99], 3⟩] 2 false true).lay nb true [120, 121] = (13, Z [⟨na, [97, 98, 99], 3⟩, ⟨nb, [120], 0⟩] 0 true true) := by kernel_rfl
theorem sm9 : (Z [⟨na, [97, 98, 99], 3⟩, ⟨nb, [120], 0⟩] 0 true true).read nb = ([120], true) := by kernel_rfl
theorem sm10 : (Z [⟨na, [97, 98, 99], 3⟩, ⟨nb, [120], 0⟩] 0 true true).sync nb = (13, Z [⟨na, [97, 98, 99], 3⟩, ⟨nb, [120], 0⟩] 0 true true) := by kernel_rfl
theorem sm11 : (Z [⟨na, [97, 98, 99], 3⟩, ⟨nb, [120], 0⟩] 0 true true).crash 9 = Z [⟨na, [97, 98, 99], 3⟩, ⟨nb, [120], 1⟩] 0 false false := by kernel_rfl
theorem sm12 : (Z [⟨na, [97, 98, 99], 3⟩, ⟨nb, [120], 1⟩] 0 false false).rename nb na = (0, Z [⟨na, [120], 1⟩] 0 false false) := by kernel_rfl
theorem sm13 : (Z [⟨na, [120], 1⟩] 0 false false).list = [⟨na, [120], 1⟩] := by kernel_rfl
theorem sm14 : (Z [⟨na, [120], 1⟩] 0 false false).remove nb = (7, Z [⟨na, [120], 1⟩] 0 false false) := by kernel_rfl

/-! ### one file alone -/
def D1 (room : Int) (f : FileV) (dies : Bool) (left : Int) (dead : Bool) : DD := ⟨[f], room, dies, left, dead⟩
theorem find_one (room : Int) (f : FileV) (dies : Bool) (left : Int) (dead : Bool) : (D1 room f dies left dead).find f.n = some f := by
  unfold DD.find D1
  rw [List.find?_cons, decide_eq_true rfl]
theorem was_one (room : Int) (f : FileV) (dies : Bool) (left : Int) (dead : Bool) : (D1 room f dies left dead).was f.n = (f.d, f.s) := by
  unfold DD.was; rw [find_one]
theorem put_one (f h : FileV) (e : h.n = f.n) : putF [f] h = [h] := by rw [putF, if_pos e.symm]
theorem first_lay {room : Int} {n : ByteArray} (hn : namedB n = true) (a : List Int) (ha : (a.length : Int) ≤ room) : (⟨[], room, false, 0, false⟩ : DD).lay n true a = (0, D1 room ⟨n, a, 0⟩ false 0 false) := by
  unfold DD.lay DD.was DD.find
  simp only [List.find?_nil, List.length_nil, sumL, List.map_nil, List.sum_nil, hn]
  rw [if_neg (by decide), if_neg (by decide), if_neg (by simp; omega)]
  unfold DD.write DD.spend
  simp [D1, putF]
theorem sync_one (room : Int) (f : FileV) : (D1 room f false 0 false).sync f.n = (0, D1 room ⟨f.n, f.d, f.d.length⟩ false 0 false) := by
  unfold DD.sync
  rw [chg_done (D := D1 room f false 0 false) (fun h => Bool.noConfusion h) (find_one room f false 0 false) (show ¬ (1 : Int) = 0 by decide)]
  show (0, (⟨putF [f] ⟨f.n, f.d, f.d.length⟩, room, false, 0, false⟩ : DD)) = _
  rw [put_one f ⟨f.n, f.d, f.d.length⟩ rfl]
  rfl
/-- what is appended before the disk dies -/
theorem app_one {room : Int} {f : FileV} (hn : namedB f.n = true) (b : List Int) (L : Int) (hL : 0 ≤ L) (hr : (f.d.length : Int) + b.length ≤ room) :
    (D1 room f true L false).lay f.n false b =
      if L < 1 then (13, D1 room f true 0 true) else if L - 1 < b.length then (13, D1 room ⟨f.n, f.d ++ b.take (L - 1).toNat, f.s⟩ true 0 true) else (0, D1 room ⟨f.n, f.d ++ b, f.s⟩ true (L - 1 - b.length) false) := by
  unfold DD.lay
  rw [if_neg (fun h => Bool.noConfusion h), if_neg (by rw [hn]; decide), was_one, if_neg (by
    have : sumL (D1 room f true L false).fs = f.d.length := by unfold sumL D1; simp
    rw [this]
    show ¬ ((f.d.length : Int) - f.d.length + (if false = true then 0 else f.d.length : Nat) + b.length > room)
    simp only [Bool.false_eq_true, if_false]
    omega)]
  simp only [Bool.false_eq_true, if_false]
  unfold DD.write
  have hs1 : (D1 room f true L false).spend 1 = if L < 1 then (L, D1 room f true 0 true) else (1, D1 room f true (L - 1) false) := by
    unfold DD.spend D1
    simp only [Bool.true_eq_false, if_false]
  rw [hs1]
  by_cases h1 : L < 1
  · rw [if_pos h1, if_pos h1, if_pos (show L = 0 by omega)]
  · rw [if_neg h1, if_neg h1, if_neg (show ¬ (1 : Int) = 0 by decide)]
    have hs2 : (D1 room f true (L - 1) false).spend b.length = if L - 1 < b.length then (L - 1, D1 room f true 0 true) else ((b.length : Int), D1 room f true (L - 1 - b.length) false) := by
      unfold DD.spend D1
      simp only [Bool.true_eq_false, if_false]
    simp only [hs2]
    by_cases h2 : L - 1 < b.length
    · simp only [if_pos h2]
      show (13, (⟨putF [f] ⟨f.n, f.d ++ b.take (L - 1).toNat, f.s⟩, room, true, 0, true⟩ : DD)) = _
      rw [put_one f ⟨f.n, f.d ++ b.take (L - 1).toNat, f.s⟩ rfl]
      rfl
    · simp only [if_neg h2]
      rw [if_neg (by omega)]
      show (0, (⟨putF [f] ⟨f.n, f.d ++ b.take ((b.length : Int)).toNat, f.s⟩, room, true, L - 1 - b.length, false⟩ : DD)) = _
      rw [Int.toNat_natCast, List.take_length, put_one f ⟨f.n, f.d ++ b, f.s⟩ rfl]
      rfl
theorem crash_one (room : Int) (f : FileV) (dies : Bool) (left : Int) (dead : Bool) (keep : Int) : (D1 room f dies left dead).crash keep = D1 room (crashF keep f) false left false := rfl
theorem read_one (room : Int) (f : FileV) (dies : Bool) (left : Int) (dead : Bool) : (D1 room f dies left dead).read f.n = (f.d, true) := by
  unfold DD.read; rw [find_one]
/-- a file that was synced, bytes behind it, and a crash -/
theorem safe_facts (a b : List Int) (ha : a.length ≤ 1000) (hb : b.length ≤ 1000) (after keep : Int) : ∃ (re : Int) (Dk Dl Dz : DD) (n : Nat),
    { D1 10000 ⟨nf, a, a.length⟩ false 0 false with dies := true, left := max after 0 } = Dk ∧ Dk.lay nf false b = (re, Dl) ∧ Dl.crash keep = Dz ∧ Dz.read nf = (a ++ b.take n, true) ∧ Dz.dead = false ∧ n ≤ b.length ∧
    (n : Int) = min (min (max keep 0) (max after 1 - 1)) b.length ∧ ((re == 0) = decide (after > b.length)) ∧ sumL Dk.fs + b.length ≤ 30000 ∧ sumL Dl.fs ≤ 100000 ∧ sumL Dz.fs ≤ 100000 := by
  have hk : ({ D1 10000 ⟨nf, a, a.length⟩ false 0 false with dies := true, left := max after 0 } : DD) = D1 10000 ⟨nf, a, a.length⟩ true (max after 0) false := rfl
  have happ := app_one (room := 10000) (f := ⟨nf, a, a.length⟩) (show namedB nf = true by kernel_rfl) b (max after 0) (by omega) (show (a.length : Int) + b.length ≤ 10000 by omega)
  -- how many bytes were appended
  obtain ⟨i, re, left, dead, hi, hlay, hre, hin⟩ : ∃ (i : Nat) (re left : Int) (dead : Bool), i ≤ b.length ∧ (D1 10000 ⟨nf, a, a.length⟩ true (max after 0) false).lay nf false b = (re, D1 10000 ⟨nf, a ++ b.take i, a.length⟩ true left dead) ∧ ((re == 0) = decide (after > b.length)) ∧ (i : Int) = min (max after 1 - 1) b.length := by
    have happ2 : (D1 10000 ⟨nf, a, a.length⟩ true (max after 0) false).lay nf false b = _ := happ
    by_cases h1 : max after 0 < 1
    · refine ⟨0, 13, 0, true, by omega, ?_, ?_, by omega⟩
      · rw [happ2, if_pos h1]; simp
      · rw [decide_eq_false (by omega)]; rfl
    · by_cases h2 : max after 0 - 1 < b.length
      · refine ⟨(max after 0 - 1).toNat, 13, 0, true, by omega, ?_, ?_, by omega⟩
        · rw [happ2, if_neg h1, if_pos h2]
        · rw [decide_eq_false (by omega)]; rfl
      · refine ⟨b.length, 0, max after 0 - 1 - b.length, false, by omega, ?_, ?_, by omega⟩
        · rw [happ2, if_neg h1, if_neg h2, List.take_length]
        · rw [decide_eq_true (by omega)]; rfl
  have hil : (a ++ b.take i).length = a.length + i := by rw [List.length_append, List.length_take]; omega
  obtain ⟨n, hn⟩ : ∃ n : Nat, (n : Int) = min (max keep 0) (i : Int) := ⟨(min (max keep 0) (i : Int)).toNat, by omega⟩
  have hcs : crashS keep ⟨nf, a ++ b.take i, a.length⟩ = ((a.length + n : Nat) : Int) := by
    show (a.length : Int) + min (max keep 0) (((a ++ b.take i).length : Int) - a.length) = _
    rw [hil]; omega
  have hcf : crashF keep ⟨nf, a ++ b.take i, a.length⟩ = ⟨nf, a ++ b.take n, ((a.length + n : Nat) : Int)⟩ := by
    unfold crashF
    rw [hcs, Int.toNat_natCast]
    simp only
    rw [List.take_append, List.take_take, List.take_of_length_le (show a.length ≤ a.length + n by omega), Nat.add_sub_cancel_left, Nat.min_eq_left (by omega)]
  refine ⟨re, _, _, D1 10000 ⟨nf, a ++ b.take n, ((a.length + n : Nat) : Int)⟩ false left false, n, hk, hlay, ?_, ?_, rfl, by omega, by omega, hre, ?_, ?_, ?_⟩
  · rw [crash_one, hcf]
  · exact read_one _ ⟨nf, a ++ b.take n, ((a.length + n : Nat) : Int)⟩ _ _ _
  · show sumL [(⟨nf, a, a.length⟩ : FileV)] + b.length ≤ 30000
    simp [sumL]; omega
  · show sumL [(⟨nf, a ++ b.take i, a.length⟩ : FileV)] ≤ 100000
    simp [sumL]; omega
  · show sumL [(⟨nf, a ++ b.take n, ((a.length + n : Nat) : Int)⟩ : FileV)] ≤ 100000
    simp [sumL]; omega
end Go.Proofs.Ytcejkfjjildngaa
end

section
-- Written by a program of this session (wip/tools/myprint.py), over the kit's print.
namespace Go.Proofs.Ytcejkfjjildngaa.G
open Go.RowKit Go.Proofs.YtcejkfjjildngaaW.PrintWords Go.Proofs.YtcejkfjjildngaaW.PrintLast Go.Proofs.YtcejkfjjildngaaW.PrintMore
attribute [local go_sem] max2_int min2_int max_two min_two max_three min_three max_four min_four   -- for this text's walks alone
set_option linter.unusedVariables false
set_option linter.unusedSimpArgs false

/-! ### rosetteref19_Same: function 21 -/
def rosetteref19_Same.l0 : Nat → List (S43) → List (S43) → Int → Option (Bool)
  | 0, _, _, _ => none
  | k + 1, x0, x1, x5 => if x5 < (x0.length : Int) then (if 0 ≤ x5 then (if x5 < (x1.length : Int) then (if ((rd_T43 x0 x5).f0).toList = ((rd_T43 x1 x5).f0).toList then (if (strOfNums ((rd_T43 x0 x5).f1)).toList = (strOfNums ((rd_T43 x1 x5).f1)).toList then (if ((rd_T43 x0 x5).f2) = ((rd_T43 x1 x5).f2) then (rosetteref19_Same.l0 k x0 x1 (wrap64 (x5 + 1))) else (some false)) else (some false)) else (some false)) else (none)) else (none)) else (some true)
def rosetteref19_Same.f (k : Nat) (l0 : List (S43)) (l1 : List (S43)) : Option (Bool) := if (l0.length : Int) = (l1.length : Int) then (rosetteref19_Same.l0 k l0 l1 0) else (some false)
theorem rosetteref19_Same.mono_l : ∀ k, (∀ y0 y1 y2, LeO (rosetteref19_Same.l0 k y0 y1 y2) (rosetteref19_Same.l0 (k + 1) y0 y1 y2))
  | 0 => fun _ _ _ r h => by simp [rosetteref19_Same.l0] at h
  | k + 1 => by
    have ih0 := rosetteref19_Same.mono_l k
    · intro y0 y1 y2
      unfold rosetteref19_Same.l0
      repeat' first
      | (with_reducible exact ih0 _ _ _)
      | (with_reducible exact LeO.refl _)
      | (with_reducible exact LeO.none _)
      | (with_reducible refine LeO.ite ?_ ?_)
      | (with_reducible refine LeO.bind ?_ (fun _ => ?_))
      | exact ih0 _ _ _
      | exact LeO.none _
      | refine LeO.ite ?_ ?_
      | refine LeO.bind ?_ (fun _ => ?_)
theorem rosetteref19_Same.mono : ∀ a0 a1 k, LeO (rosetteref19_Same.f k a0 a1) (rosetteref19_Same.f (k + 1) a0 a1) := by
  intro a0 a1 k
  have ih0 := rosetteref19_Same.mono_l k
  unfold rosetteref19_Same.f
  repeat' first
      | (with_reducible exact ih0 _ _ _)
      | (with_reducible exact LeO.refl _)
      | (with_reducible exact LeO.none _)
      | (with_reducible refine LeO.ite ?_ ?_)
      | (with_reducible refine LeO.bind ?_ (fun _ => ?_))
      | exact ih0 _ _ _
      | exact LeO.none _
      | refine LeO.ite ?_ ?_
      | refine LeO.bind ?_ (fun _ => ?_)
set_option maxHeartbeats 8000000 in
set_option maxRecDepth 100000 in
theorem rosetteref19_Same.calls (k : Nat) (A0 : Option Addr) (c0 : Nat) (l0 : List (S43)) (A1 : Option Addr) (c1 : Nat) (l1 : List (S43)) (r : Bool) (w : World) (hr0 : Kd.C k43 w A0 l0.length l0) (hc0 : l0.length ≤ c0) (hr1 : Kd.C k43 w A1 l1.length l1) (hc1 : l1.length ≤ c1) (h : rosetteref19_Same.f k l0 l1 = some r) :
    Calls Try.prog 21 #[.slice A0 l0.length c0, .slice A1 l1.length c1] w fun e w' => e = .returned (.bool r) ∧ Drawn0 w w' := by
  have HR0 := Aside0.mk hr0
  have HC0 := Aside0.mk hc0
  clear hr0 hc0
  have HR1 := Aside0.mk hr1
  have HC1 := Aside0.mk hc1
  clear hr1 hc1
  have H : (if (l0.length : Int) = (l1.length : Int) then (rosetteref19_Same.l0 k l0 l1 0) else (some false)) = some r := h
  clear h
  by_cases c3 : (l0.length : Int) = (l1.length : Int)
  · rw [if_pos c3] at H
    have c3b0 : ((l0.length : Int) == (l1.length : Int)) = true := beq_iff_eq.mpr c3
    have c3b1 : ((l0.length : Int) != (l1.length : Int)) = false := bne_eq_false_iff_eq.mpr c3
    have c3b2 : (l0.length == l1.length) = true := by first | simpa using c3 | (simp at c3 ⊢; omega)
    clear c3
    have H' := Aside0.mk H
    clear H
    go_enter Try.func21, Try.ntmps21
    go_wp2
    repeat (go_quiet (fail); try go_wp2)
    go_loopg [5] k (fun kq v5 w' => ∃ (x5_1 : Int), v5 = .int .i64 x5_1 ∧ Aside0 (rosetteref19_Same.l0 kq l0 l1 x5_1 = some r) ∧ Aside0 (kq ≤ k) ∧ Drawn0 w w')
    case atStart => exact ⟨(0), (by first | rfl | (simp; done) | (simp [*]; done)), H', ⟨Nat.le_refl _⟩, by repeat (first | exact Drawn0.refl _ | apply Drawn0.step)⟩
    case round =>
      clear H'
      try clear c1
      try clear c2
      try clear p2
      try clear c3
      try clear c3b0
      try clear c3b1
      try clear c3b2
      obtain ⟨x5_1, rfl, HA, HK1, ⟨m1, rfl⟩⟩ := hrel
      cases gk with
      | zero => exact absurd HA.out (by simp [rosetteref19_Same.l0])
      | succ k1 =>
        have H := HA.out
        clear HA
        simp only [rosetteref19_Same.l0] at H
        by_cases c4 : x5_1 < (l0.length : Int)
        · rw [if_pos c4] at H
          have c4b0 : decide (x5_1 < (l0.length : Int)) = true := decide_eq_true c4
          clear c4
          by_cases c5 : 0 ≤ x5_1
          · rw [if_pos c5] at H
            have c5b0 : decide (0 ≤ x5_1) = true := decide_eq_true c5
            clear c5
            by_cases c6 : x5_1 < (l1.length : Int)
            · rw [if_pos c6] at H
              have c6b0 : decide (x5_1 < (l1.length : Int)) = true := decide_eq_true c6
              clear c6
              by_cases c7 : ((rd_T43 l0 x5_1).f0).toList = ((rd_T43 l1 x5_1).f0).toList
              · rw [if_pos c7] at H
                have c7b0 : (((rd_T43 l0 x5_1).f0).toList == ((rd_T43 l1 x5_1).f0).toList) = true := beq_iff_eq.mpr c7
                have c7b1 : (((rd_T43 l0 x5_1).f0).toList != ((rd_T43 l1 x5_1).f0).toList) = false := bne_eq_false_iff_eq.mpr c7
                clear c7
                by_cases c8 : (strOfNums ((rd_T43 l0 x5_1).f1)).toList = (strOfNums ((rd_T43 l1 x5_1).f1)).toList
                · rw [if_pos c8] at H
                  have c8b0 : ((strOfNums ((rd_T43 l0 x5_1).f1)).toList == (strOfNums ((rd_T43 l1 x5_1).f1)).toList) = true := beq_iff_eq.mpr c8
                  have c8b1 : ((strOfNums ((rd_T43 l0 x5_1).f1)).toList != (strOfNums ((rd_T43 l1 x5_1).f1)).toList) = false := bne_eq_false_iff_eq.mpr c8
                  clear c8
                  by_cases c9 : ((rd_T43 l0 x5_1).f2) = ((rd_T43 l1 x5_1).f2)
                  · rw [if_pos c9] at H
                    have c9b0 : (((rd_T43 l0 x5_1).f2) == ((rd_T43 l1 x5_1).f2)) = true := beq_iff_eq.mpr c9
                    have c9b1 : (((rd_T43 l0 x5_1).f2) != ((rd_T43 l1 x5_1).f2)) = false := bne_eq_false_iff_eq.mpr c9
                    clear c9
                    have H' := Aside0.mk H
                    clear H
                    have p222 : 0 ≤ (x5_1 : Int) := of_decide_eq_true (by first | (with_reducible assumption) | assumption)
                    have q222 : x5_1 < (l0.length : Int) := of_decide_eq_true (by first | (with_reducible assumption) | assumption)
                    obtain ⟨ad222, A222_1, c222_1, e222, hx222_0, hx222_1, hx222_2, hl222_1, hi222_1⟩ := at_T43 HR0.out x5_1 p222 q222
                    cases e222
                    have HR222_1 := Aside0.mk hi222_1
                    have HC222_1 := Aside0.mk hl222_1
                    clear hi222_1 hl222_1
                    replace p222 := eq_true p222
                    replace q222 := eq_true q222
                    have p223 : 0 ≤ (x5_1 : Int) := of_decide_eq_true (by first | (with_reducible assumption) | assumption)
                    have q223 : x5_1 < (l1.length : Int) := of_decide_eq_true (by first | (with_reducible assumption) | assumption)
                    obtain ⟨ad223, A223_1, c223_1, e223, hx223_0, hx223_1, hx223_2, hl223_1, hi223_1⟩ := at_T43 HR1.out x5_1 p223 q223
                    cases e223
                    have HR223_1 := Aside0.mk hi223_1
                    have HC223_1 := Aside0.mk hl223_1
                    clear hi223_1 hl223_1
                    replace p223 := eq_true p223
                    replace q223 := eq_true q223
                    have p224 : 0 ≤ (x5_1 : Int) := of_decide_eq_true (by first | (with_reducible assumption) | assumption)
                    have q224 : x5_1 < (l0.length : Int) := of_decide_eq_true (by first | (with_reducible assumption) | assumption)
                    obtain ⟨ad224, A224_1, c224_1, e224, hx224_0, hx224_1, hx224_2, hl224_1, hi224_1⟩ := at_T43 HR0.out x5_1 p224 q224
                    obtain rfl : ad222 = ad224 := (by injection e224)
                    have HR224_1 := Aside0.mk hi224_1
                    have HC224_1 := Aside0.mk hl224_1
                    clear hi224_1 hl224_1
                    replace p224 := eq_true p224
                    replace q224 := eq_true q224
                    have ea_ := Option.some.inj (hx222_1.symm.trans hx224_1)
                    injection ea_ with ea_ en_ ec_
                    subst ea_
                    subst ec_
                    clear en_
                    have hcv10 := Kd.C_string (P := Try.prog) (A := A222_1) (c := c222_1) Try.underlying22 Try.underlying5 Try.underlying9 HR224_1.out
                    have hcw11 := fun (m_ : Nat) => Kd.C_string (P := Try.prog) (A := A222_1) (c := c222_1) Try.underlying22 Try.underlying5 Try.underlying9 (Kd.C_drewN HR224_1.out m_)
                    have p225 : 0 ≤ (x5_1 : Int) := of_decide_eq_true (by first | (with_reducible assumption) | assumption)
                    have q225 : x5_1 < (l1.length : Int) := of_decide_eq_true (by first | (with_reducible assumption) | assumption)
                    obtain ⟨ad225, A225_1, c225_1, e225, hx225_0, hx225_1, hx225_2, hl225_1, hi225_1⟩ := at_T43 HR1.out x5_1 p225 q225
                    obtain rfl : ad223 = ad225 := (by injection e225)
                    have HR225_1 := Aside0.mk hi225_1
                    have HC225_1 := Aside0.mk hl225_1
                    clear hi225_1 hl225_1
                    replace p225 := eq_true p225
                    replace q225 := eq_true q225
                    have ea_ := Option.some.inj (hx223_1.symm.trans hx225_1)
                    injection ea_ with ea_ en_ ec_
                    subst ea_
                    subst ec_
                    clear en_
                    have hcv12 := Kd.C_string (P := Try.prog) (A := A223_1) (c := c223_1) Try.underlying22 Try.underlying5 Try.underlying9 HR225_1.out
                    have hcw13 := fun (m_ : Nat) => Kd.C_string (P := Try.prog) (A := A223_1) (c := c223_1) Try.underlying22 Try.underlying5 Try.underlying9 (Kd.C_drewN HR225_1.out m_)
                    have p226 : 0 ≤ (x5_1 : Int) := of_decide_eq_true (by first | (with_reducible assumption) | assumption)
                    have q226 : x5_1 < (l0.length : Int) := of_decide_eq_true (by first | (with_reducible assumption) | assumption)
                    obtain ⟨ad226, A226_1, c226_1, e226, hx226_0, hx226_1, hx226_2, hl226_1, hi226_1⟩ := at_T43 HR0.out x5_1 p226 q226
                    obtain rfl : ad222 = ad226 := (by injection e226)
                    have HR226_1 := Aside0.mk hi226_1
                    have HC226_1 := Aside0.mk hl226_1
                    clear hi226_1 hl226_1
                    replace p226 := eq_true p226
                    replace q226 := eq_true q226
                    have ea_ := Option.some.inj (hx222_1.symm.trans hx226_1)
                    injection ea_ with ea_ en_ ec_
                    subst ea_
                    subst ec_
                    clear en_
                    have p227 : 0 ≤ (x5_1 : Int) := of_decide_eq_true (by first | (with_reducible assumption) | assumption)
                    have q227 : x5_1 < (l1.length : Int) := of_decide_eq_true (by first | (with_reducible assumption) | assumption)
                    obtain ⟨ad227, A227_1, c227_1, e227, hx227_0, hx227_1, hx227_2, hl227_1, hi227_1⟩ := at_T43 HR1.out x5_1 p227 q227
                    obtain rfl : ad223 = ad227 := (by injection e227)
                    have HR227_1 := Aside0.mk hi227_1
                    have HC227_1 := Aside0.mk hl227_1
                    clear hi227_1 hl227_1
                    replace p227 := eq_true p227
                    replace q227 := eq_true q227
                    have ea_ := Option.some.inj (hx223_1.symm.trans hx227_1)
                    injection ea_ with ea_ en_ ec_
                    subst ea_
                    subst ec_
                    clear en_
                    go_wp2
                    repeat (go_quiet (fail); try go_wp2)
                    go_roundg k1
                    case measure => have := HK1.out; omega
                    case rel => exact ⟨(wrap64 (x5_1 + 1)), (by first | rfl | (simp; done) | (simp [*]; done)), H', ⟨by have := HK1.out; omega⟩, by repeat (first | exact Drawn0.refl _ | apply Drawn0.step)⟩
                  · rw [if_neg c9] at H
                    have c9b0 : (((rd_T43 l0 x5_1).f2) == ((rd_T43 l1 x5_1).f2)) = false := beq_eq_false_iff_ne.mpr c9
                    have c9b1 : (((rd_T43 l0 x5_1).f2) != ((rd_T43 l1 x5_1).f2)) = true := bne_iff_ne.mpr c9
                    obtain rfl := Option.some.inj H
                    have p222 : 0 ≤ (x5_1 : Int) := of_decide_eq_true (by first | (with_reducible assumption) | assumption)
                    have q222 : x5_1 < (l0.length : Int) := of_decide_eq_true (by first | (with_reducible assumption) | assumption)
                    obtain ⟨ad222, A222_1, c222_1, e222, hx222_0, hx222_1, hx222_2, hl222_1, hi222_1⟩ := at_T43 HR0.out x5_1 p222 q222
                    cases e222
                    have HR222_1 := Aside0.mk hi222_1
                    have HC222_1 := Aside0.mk hl222_1
                    clear hi222_1 hl222_1
                    replace p222 := eq_true p222
                    replace q222 := eq_true q222
                    have p223 : 0 ≤ (x5_1 : Int) := of_decide_eq_true (by first | (with_reducible assumption) | assumption)
                    have q223 : x5_1 < (l1.length : Int) := of_decide_eq_true (by first | (with_reducible assumption) | assumption)
                    obtain ⟨ad223, A223_1, c223_1, e223, hx223_0, hx223_1, hx223_2, hl223_1, hi223_1⟩ := at_T43 HR1.out x5_1 p223 q223
                    cases e223
                    have HR223_1 := Aside0.mk hi223_1
                    have HC223_1 := Aside0.mk hl223_1
                    clear hi223_1 hl223_1
                    replace p223 := eq_true p223
                    replace q223 := eq_true q223
                    have p224 : 0 ≤ (x5_1 : Int) := of_decide_eq_true (by first | (with_reducible assumption) | assumption)
                    have q224 : x5_1 < (l0.length : Int) := of_decide_eq_true (by first | (with_reducible assumption) | assumption)
                    obtain ⟨ad224, A224_1, c224_1, e224, hx224_0, hx224_1, hx224_2, hl224_1, hi224_1⟩ := at_T43 HR0.out x5_1 p224 q224
                    obtain rfl : ad222 = ad224 := (by injection e224)
                    have HR224_1 := Aside0.mk hi224_1
                    have HC224_1 := Aside0.mk hl224_1
                    clear hi224_1 hl224_1
                    replace p224 := eq_true p224
                    replace q224 := eq_true q224
                    have ea_ := Option.some.inj (hx222_1.symm.trans hx224_1)
                    injection ea_ with ea_ en_ ec_
                    subst ea_
                    subst ec_
                    clear en_
                    have hcv14 := Kd.C_string (P := Try.prog) (A := A222_1) (c := c222_1) Try.underlying22 Try.underlying5 Try.underlying9 HR224_1.out
                    have hcw15 := fun (m_ : Nat) => Kd.C_string (P := Try.prog) (A := A222_1) (c := c222_1) Try.underlying22 Try.underlying5 Try.underlying9 (Kd.C_drewN HR224_1.out m_)
                    have p225 : 0 ≤ (x5_1 : Int) := of_decide_eq_true (by first | (with_reducible assumption) | assumption)
                    have q225 : x5_1 < (l1.length : Int) := of_decide_eq_true (by first | (with_reducible assumption) | assumption)
                    obtain ⟨ad225, A225_1, c225_1, e225, hx225_0, hx225_1, hx225_2, hl225_1, hi225_1⟩ := at_T43 HR1.out x5_1 p225 q225
                    obtain rfl : ad223 = ad225 := (by injection e225)
                    have HR225_1 := Aside0.mk hi225_1
                    have HC225_1 := Aside0.mk hl225_1
                    clear hi225_1 hl225_1
                    replace p225 := eq_true p225
                    replace q225 := eq_true q225
                    have ea_ := Option.some.inj (hx223_1.symm.trans hx225_1)
                    injection ea_ with ea_ en_ ec_
                    subst ea_
                    subst ec_
                    clear en_
                    have hcv16 := Kd.C_string (P := Try.prog) (A := A223_1) (c := c223_1) Try.underlying22 Try.underlying5 Try.underlying9 HR225_1.out
                    have hcw17 := fun (m_ : Nat) => Kd.C_string (P := Try.prog) (A := A223_1) (c := c223_1) Try.underlying22 Try.underlying5 Try.underlying9 (Kd.C_drewN HR225_1.out m_)
                    have p226 : 0 ≤ (x5_1 : Int) := of_decide_eq_true (by first | (with_reducible assumption) | assumption)
                    have q226 : x5_1 < (l0.length : Int) := of_decide_eq_true (by first | (with_reducible assumption) | assumption)
                    obtain ⟨ad226, A226_1, c226_1, e226, hx226_0, hx226_1, hx226_2, hl226_1, hi226_1⟩ := at_T43 HR0.out x5_1 p226 q226
                    obtain rfl : ad222 = ad226 := (by injection e226)
                    have HR226_1 := Aside0.mk hi226_1
                    have HC226_1 := Aside0.mk hl226_1
                    clear hi226_1 hl226_1
                    replace p226 := eq_true p226
                    replace q226 := eq_true q226
                    have ea_ := Option.some.inj (hx222_1.symm.trans hx226_1)
                    injection ea_ with ea_ en_ ec_
                    subst ea_
                    subst ec_
                    clear en_
                    have p227 : 0 ≤ (x5_1 : Int) := of_decide_eq_true (by first | (with_reducible assumption) | assumption)
                    have q227 : x5_1 < (l1.length : Int) := of_decide_eq_true (by first | (with_reducible assumption) | assumption)
                    obtain ⟨ad227, A227_1, c227_1, e227, hx227_0, hx227_1, hx227_2, hl227_1, hi227_1⟩ := at_T43 HR1.out x5_1 p227 q227
                    obtain rfl : ad223 = ad227 := (by injection e227)
                    have HR227_1 := Aside0.mk hi227_1
                    have HC227_1 := Aside0.mk hl227_1
                    clear hi227_1 hl227_1
                    replace p227 := eq_true p227
                    replace q227 := eq_true q227
                    have ea_ := Option.some.inj (hx223_1.symm.trans hx227_1)
                    injection ea_ with ea_ en_ ec_
                    subst ea_
                    subst ec_
                    clear en_
                    go_wp2
                    repeat (go_quiet (fail); try go_wp2)
                    go_ret
                    exact ⟨by first | rfl | (simp; done) | (simp [*]; done), by repeat (first | exact Drawn0.refl _ | apply Drawn0.step)⟩
                · rw [if_neg c8] at H
                  have c8b0 : ((strOfNums ((rd_T43 l0 x5_1).f1)).toList == (strOfNums ((rd_T43 l1 x5_1).f1)).toList) = false := beq_eq_false_iff_ne.mpr c8
                  have c8b1 : ((strOfNums ((rd_T43 l0 x5_1).f1)).toList != (strOfNums ((rd_T43 l1 x5_1).f1)).toList) = true := bne_iff_ne.mpr c8
                  obtain rfl := Option.some.inj H
                  have p222 : 0 ≤ (x5_1 : Int) := of_decide_eq_true (by first | (with_reducible assumption) | assumption)
                  have q222 : x5_1 < (l0.length : Int) := of_decide_eq_true (by first | (with_reducible assumption) | assumption)
                  obtain ⟨ad222, A222_1, c222_1, e222, hx222_0, hx222_1, hx222_2, hl222_1, hi222_1⟩ := at_T43 HR0.out x5_1 p222 q222
                  cases e222
                  have HR222_1 := Aside0.mk hi222_1
                  have HC222_1 := Aside0.mk hl222_1
                  clear hi222_1 hl222_1
                  replace p222 := eq_true p222
                  replace q222 := eq_true q222
                  have p223 : 0 ≤ (x5_1 : Int) := of_decide_eq_true (by first | (with_reducible assumption) | assumption)
                  have q223 : x5_1 < (l1.length : Int) := of_decide_eq_true (by first | (with_reducible assumption) | assumption)
                  obtain ⟨ad223, A223_1, c223_1, e223, hx223_0, hx223_1, hx223_2, hl223_1, hi223_1⟩ := at_T43 HR1.out x5_1 p223 q223
                  cases e223
                  have HR223_1 := Aside0.mk hi223_1
                  have HC223_1 := Aside0.mk hl223_1
                  clear hi223_1 hl223_1
                  replace p223 := eq_true p223
                  replace q223 := eq_true q223
                  have p224 : 0 ≤ (x5_1 : Int) := of_decide_eq_true (by first | (with_reducible assumption) | assumption)
                  have q224 : x5_1 < (l0.length : Int) := of_decide_eq_true (by first | (with_reducible assumption) | assumption)
                  obtain ⟨ad224, A224_1, c224_1, e224, hx224_0, hx224_1, hx224_2, hl224_1, hi224_1⟩ := at_T43 HR0.out x5_1 p224 q224
                  obtain rfl : ad222 = ad224 := (by injection e224)
                  have HR224_1 := Aside0.mk hi224_1
                  have HC224_1 := Aside0.mk hl224_1
                  clear hi224_1 hl224_1
                  replace p224 := eq_true p224
                  replace q224 := eq_true q224
                  have ea_ := Option.some.inj (hx222_1.symm.trans hx224_1)
                  injection ea_ with ea_ en_ ec_
                  subst ea_
                  subst ec_
                  clear en_
                  have hcv18 := Kd.C_string (P := Try.prog) (A := A222_1) (c := c222_1) Try.underlying22 Try.underlying5 Try.underlying9 HR224_1.out
                  have hcw19 := fun (m_ : Nat) => Kd.C_string (P := Try.prog) (A := A222_1) (c := c222_1) Try.underlying22 Try.underlying5 Try.underlying9 (Kd.C_drewN HR224_1.out m_)
                  have p225 : 0 ≤ (x5_1 : Int) := of_decide_eq_true (by first | (with_reducible assumption) | assumption)
                  have q225 : x5_1 < (l1.length : Int) := of_decide_eq_true (by first | (with_reducible assumption) | assumption)
                  obtain ⟨ad225, A225_1, c225_1, e225, hx225_0, hx225_1, hx225_2, hl225_1, hi225_1⟩ := at_T43 HR1.out x5_1 p225 q225
                  obtain rfl : ad223 = ad225 := (by injection e225)
                  have HR225_1 := Aside0.mk hi225_1
                  have HC225_1 := Aside0.mk hl225_1
                  clear hi225_1 hl225_1
                  replace p225 := eq_true p225
                  replace q225 := eq_true q225
                  have ea_ := Option.some.inj (hx223_1.symm.trans hx225_1)
                  injection ea_ with ea_ en_ ec_
                  subst ea_
                  subst ec_
                  clear en_
                  have hcv20 := Kd.C_string (P := Try.prog) (A := A223_1) (c := c223_1) Try.underlying22 Try.underlying5 Try.underlying9 HR225_1.out
                  have hcw21 := fun (m_ : Nat) => Kd.C_string (P := Try.prog) (A := A223_1) (c := c223_1) Try.underlying22 Try.underlying5 Try.underlying9 (Kd.C_drewN HR225_1.out m_)
                  go_wp2
                  repeat (go_quiet (fail); try go_wp2)
                  go_ret
                  exact ⟨by first | rfl | (simp; done) | (simp [*]; done), by repeat (first | exact Drawn0.refl _ | apply Drawn0.step)⟩
              · rw [if_neg c7] at H
                have c7b0 : (((rd_T43 l0 x5_1).f0).toList == ((rd_T43 l1 x5_1).f0).toList) = false := beq_eq_false_iff_ne.mpr c7
                have c7b1 : (((rd_T43 l0 x5_1).f0).toList != ((rd_T43 l1 x5_1).f0).toList) = true := bne_iff_ne.mpr c7
                obtain rfl := Option.some.inj H
                have p222 : 0 ≤ (x5_1 : Int) := of_decide_eq_true (by first | (with_reducible assumption) | assumption)
                have q222 : x5_1 < (l0.length : Int) := of_decide_eq_true (by first | (with_reducible assumption) | assumption)
                obtain ⟨ad222, A222_1, c222_1, e222, hx222_0, hx222_1, hx222_2, hl222_1, hi222_1⟩ := at_T43 HR0.out x5_1 p222 q222
                cases e222
                have HR222_1 := Aside0.mk hi222_1
                have HC222_1 := Aside0.mk hl222_1
                clear hi222_1 hl222_1
                replace p222 := eq_true p222
                replace q222 := eq_true q222
                have p223 : 0 ≤ (x5_1 : Int) := of_decide_eq_true (by first | (with_reducible assumption) | assumption)
                have q223 : x5_1 < (l1.length : Int) := of_decide_eq_true (by first | (with_reducible assumption) | assumption)
                obtain ⟨ad223, A223_1, c223_1, e223, hx223_0, hx223_1, hx223_2, hl223_1, hi223_1⟩ := at_T43 HR1.out x5_1 p223 q223
                cases e223
                have HR223_1 := Aside0.mk hi223_1
                have HC223_1 := Aside0.mk hl223_1
                clear hi223_1 hl223_1
                replace p223 := eq_true p223
                replace q223 := eq_true q223
                go_wp2
                repeat (go_quiet (fail); try go_wp2)
                go_ret
                exact ⟨by first | rfl | (simp; done) | (simp [*]; done), by repeat (first | exact Drawn0.refl _ | apply Drawn0.step)⟩
            · rw [if_neg c6] at H
              exact absurd H (by simp)
          · rw [if_neg c5] at H
            exact absurd H (by simp)
        · rw [if_neg c4] at H
          have c4b0 : decide (x5_1 < (l0.length : Int)) = false := decide_eq_false c4
          clear c4
          obtain rfl := Option.some.inj H
          go_wp2
          repeat (go_quiet (fail); try go_wp2)
          go_ret
          exact ⟨by first | rfl | (simp; done) | (simp [*]; done), by repeat (first | exact Drawn0.refl _ | apply Drawn0.step)⟩
  · rw [if_neg c3] at H
    have c3b0 : ((l0.length : Int) == (l1.length : Int)) = false := beq_eq_false_iff_ne.mpr c3
    have c3b1 : ((l0.length : Int) != (l1.length : Int)) = true := bne_iff_ne.mpr c3
    have c3b2 : (l0.length == l1.length) = false := by first | simpa using c3 | (simp at c3 ⊢; omega)
    obtain rfl := Option.some.inj H
    go_enter Try.func21, Try.ntmps21
    go_wp2
    repeat (go_quiet (fail); try go_wp2)
    go_ret
    exact ⟨by first | rfl | (simp; done) | (simp [*]; done), by repeat (first | exact Drawn0.refl _ | apply Drawn0.step)⟩

end Go.Proofs.Ytcejkfjjildngaa.G
end

section
/- small of the laws of the disk, walked -/
set_option linter.unusedVariables false
set_option linter.unusedSimpArgs false
set_option autoImplicit false
namespace Go.Proofs.Ytcejkfjjildngaa
open Go Go.RowKit Go.Proofs.YtcejkfjjildngaaW.PrintWords Go.Proofs.YtcejkfjjildngaaW.PrintLast Go.Proofs.YtcejkfjjildngaaW.PrintMore Go.Proofs.Ytcejkfjjildngaa.G

theorem held_lit {X : Nat → Prop} {w0 w : World} {g : Nat} {D : DD} (h : LS X w0 w g D) (l : List Int) :
    HeldB (w.alloc (.cells (l.map (Value.int .u8)).toArray 5 (l.length, l.length + 1))) (fun k => k ≠ g ∧ k < (w.alloc (.cells (l.map (Value.int .u8)).toArray 5 (l.length, l.length + 1))).heap.size) (some ⟨w.heap.size, 0, none⟩) l := by
  intro h0
  have hg := h.g_lt
  refine ⟨_, rfl, ⟨fun e => by have e : w.heap.size = g := e; omega, by rw [World.size_alloc]; exact Nat.lt_succ_self _⟩, fun j hj => ?_⟩
  have hn := heap_alloc_new w (.cells (l.map (Value.int .u8)).toArray 5 (l.length, l.length + 1))
  have hc := cell_of_row (j := j) _ _ _ _ _ hn
  have ea : (⟨w.heap.size, 0, none⟩ : Addr).add j = ⟨w.heap.size, j, none⟩ := by unfold Addr.add; split <;> simp_all
  rw [ea, hc]
  simp [rd, List.getD_eq_getElem?_getD, hj]
theorem conv_b19 (W : World) (C : Array Value) (n c : Nat) : (convert 22 22 (.slice (some ⟨W.heap.size, 0, none⟩) n c)).run Try.prog (W.alloc (.cells C 5)) = .ok (.slice (some ⟨W.heap.size, 0, none⟩) n c) (W.alloc (.cells C 5 (C.size, C.size + 1))) := Lib.run_convert_bytes_const W 22 5 C n c Try.underlying22 Try.underlying5
theorem row_left {α : Type} {d : Kd α} {e : Nat} {w : World} {X : Nat → Prop} {v : Value} {xs : List α} (h : d.R e w 0 X v xs) (Q : Nat → Prop) : d.R e w 0 (fun k => X k ∨ Q k) v xs := Kd.R_mono h (fun k hk => .inl hk)
theorem file_lit {W : World} {b : Nat} (x : S43) {A1 : Option Addr} {c1 : Nat} (h : W.heap[b]? = some (.cells #[.string x.f0, .slice A1 x.f1.length c1, .int .i64 x.f2] 43 (0, 0))) (hC : (Kd.int .u8).C W A1 x.f1.length x.f1) (hc : x.f1.length ≤ c1) : Kd.C k43 W (some ⟨b, 0, none⟩) 1 [x] := by
  refine ⟨rfl, by decide, fun _ => ⟨_, rfl, fun j p hj => ?_⟩⟩
  cases j with
  | succ j => simp at hj
  | zero =>
    rw [List.getElem?_cons_zero] at hj
    obtain rfl := Option.some.inj hj
    refine ⟨_, rfl, k43_mk W x hc hC, fun i u hu => ?_⟩
    have hl : i < 3 := (List.getElem?_eq_some_iff.1 hu).1
    have ea : (⟨b, 0, none⟩ : Addr).add (0 * Kd.sz k43 + i) = ⟨b, i, none⟩ := by unfold Addr.add; split <;> simp_all
    rw [ea, cell_of_row (j := i) _ _ _ _ _ h]
    simpa using hu
theorem litU {W : World} {b : Nat} {l : List Int} {fr : Nat × Nat} (h : W.heap[b]? = some (.cells (l.map (Value.int .u8)).toArray 5 fr)) (hl : l.length ≤ 100000) : (Kd.int .u8).C W (some ⟨b, 0, none⟩) l.length l := by
  refine HeldB.C (S := fun _ => True) (fun h0 => ⟨_, rfl, trivial, fun j hj => ?_⟩) (by omega)
  have ea : (⟨b, 0, none⟩ : Addr).add j = ⟨b, j, none⟩ := by unfold Addr.add; split <;> simp_all
  rw [ea, cell_of_row (j := j) _ _ _ _ _ h]
  simp [rd, List.getD_eq_getElem?_getD, hj]
theorem same1 : rosetteref19_Same.f 5 [(⟨na, [120], 1⟩ : S43)] [(⟨na, [120], 1⟩ : S43)] = some true := by kernel_rfl
theorem alloc_below (w : World) (o : Obj) : Below w.heap.size w (w.alloc o) := (Below.refl _ _).alloc (Nat.le_refl _) o
set_option maxRecDepth 100000 in
set_option maxHeartbeats 4000000 in
theorem small_any (w : World) : Calls Try.prog 8 #[] w fun e w' => e = .returned (.bool true) ∧ Below w.heap.size w w' := by
  have cvs := conv_b19
  go_enter Try.func8, Try.ntmps8
  go_wp2_with fail
  refine (lnew 9 (by decide) w).mono ?_
  rintro e w1 ⟨g, rfl, h1⟩
  have H1 := Aside0.mk h1
  clear h1
  go_wp2_with fail
  refine (lAppend (H1.out.below (alloc_below _ _)) na (by decide) _ 2 [97, 98] (held_lit H1.out [97, 98]) (by decide) (by unfold u8s; decide) (by decide) sm1).mono ?_
  rintro e w2 ⟨rfl, h2, -⟩
  have H2 := Aside0.mk h2
  clear h2 H1
  go_wp2_with fail
  refine (lSync H2.out na (by decide) sm2).mono ?_
  rintro e w3 ⟨rfl, h3, -⟩
  have H3 := Aside0.mk h3
  clear h3 H2
  go_wp2_with fail
  refine (lAppend (H3.out.below (alloc_below _ _)) na (by decide) _ 2 [99, 100] (held_lit H3.out [99, 100]) (by decide) (by unfold u8s; decide) (by decide) sm3).mono ?_
  rintro e w4 ⟨rfl, h4, -⟩
  have H4 := Aside0.mk h4
  clear h4 H3
  go_wp2_with fail
  refine (lAppend (H4.out.below (alloc_below _ _)) nb (by decide) _ 6 [49, 50, 51, 52, 53, 54] (held_lit H4.out [49, 50, 51, 52, 53, 54]) (by decide) (by unfold u8s; decide) (by decide) sm4).mono ?_
  rintro e w5 ⟨rfl, h5, -⟩
  have H5 := Aside0.mk h5
  clear h5 H4
  go_wp2_with fail
  refine (lCrash H5.out 1 (by decide) sm5).mono ?_
  rintro e w6 ⟨rfl, h6, -⟩
  have H6 := Aside0.mk h6
  clear h6 H5
  go_wp2_with fail
  refine (lRead H6.out na (by decide) (by decide) sm6).mono ?_
  rintro e w7 ⟨Ax, cx, rfl, hcx, hx, h7, -⟩
  have H7 := Aside0.mk h7
  have X7 := Aside0.mk hx
  clear h7 H6 hx
  go_wp2_with fail
  refine (lKill H7.out 2 (by decide) sm7).mono ?_
  rintro e w8 ⟨rfl, h8, k8⟩
  have H8 := Aside0.mk h8
  have X8 := Aside0.mk (k8.row X7.out)
  clear h8 H7 k8 X7
  go_wp2_with fail
  refine (lWrite (H8.out.below (alloc_below _ _)) nb (by decide) _ 2 [120, 121] (held_lit H8.out [120, 121]) (by decide) (by unfold u8s; decide) (by decide) sm8).mono ?_
  rintro e w9 ⟨rfl, h9, k9⟩
  have H9 := Aside0.mk h9
  have X9 := Aside0.mk (k9.row (Kd.R_alloc X8.out _))
  clear h9 H8 k9 X8
  go_wp2_with fail
  refine (lRead H9.out nb (by decide) (by decide) sm9).mono ?_
  rintro e w10 ⟨Ay, cy, rfl, hcy, hy, h10, k10⟩
  have H10 := Aside0.mk h10
  have X10 := Aside0.mk (row_left (k10.row X9.out) (fun k => w9.heap.size ≤ k ∧ k < w10.heap.size))
  have Y10 := Aside0.mk hy
  clear h10 H9 k10 hy X9
  go_wp2_with fail
  refine (lSync H10.out nb (by decide) sm10).mono ?_
  rintro e w11 ⟨rfl, h11, k11⟩
  have H11 := Aside0.mk h11
  have X11 := Aside0.mk (k11.row X10.out)
  have Y11 := Aside0.mk (k11.row Y10.out)
  clear h11 H10 k11 X10 Y10
  go_wp2_with fail
  refine (lCrash H11.out 9 (by decide) sm11).mono ?_
  rintro e w12 ⟨rfl, h12, k12⟩
  have H12 := Aside0.mk h12
  have X12 := Aside0.mk (k12.row X11.out)
  have Y12 := Aside0.mk (k12.row Y11.out)
  clear h12 H11 k12 X11 Y11
  go_wp2_with fail
  refine (lRename H12.out nb na (by decide) sm12).mono ?_
  rintro e w13 ⟨rfl, h13, k13⟩
  have H13 := Aside0.mk h13
  have X13 := Aside0.mk (k13.row X12.out)
  have Y13 := Aside0.mk (k13.row Y12.out)
  clear h13 H12 k13 X12 Y12
  go_wp2_with fail
  refine (lFiles H13.out (by decide) (by decide) sm13).mono ?_
  rintro e w14 ⟨Al, cl, rfl, hcl, hlr, h14, k14⟩
  have H14 := Aside0.mk h14
  have X14 := Aside0.mk (row_left (k14.row X13.out) (fun k => w13.heap.size ≤ k ∧ k < w14.heap.size))
  have Y14 := Aside0.mk (row_left (k14.row Y13.out) (fun k => w13.heap.size ≤ k ∧ k < w14.heap.size))
  have L14 := Aside0.mk hlr
  clear h14 H13 k14 X13 Y13 hlr
  go_wp2_with fail
  refine (lRemove H14.out nb (by decide) sm14).mono ?_
  rintro e w15 ⟨rfl, h15, k15⟩
  have H15 := Aside0.mk h15
  have hX := (Kd.R_reads' (k15.row X14.out)).2.2
  have hY := (Kd.R_reads' (k15.row Y14.out)).2.2
  have hL := (Kd.R_reads' (k15.row L14.out)).2.2
  have HLC := Aside0.mk hL
  have HCL := Aside0.mk hcl
  have cvx : (convert 22 9 (.slice Ax 3 cx)).run Try.prog w15 = .ok (.string ⟨#[97, 98, 99]⟩) w15 := by
    have h_ := Kd.C_string (P := Try.prog) (c := cx) Try.underlying22 Try.underlying5 Try.underlying9 hX
    rw [show strOfNums [97, 98, 99] = ⟨#[97, 98, 99]⟩ by kernel_rfl] at h_
    exact h_
  have cvy : (convert 22 9 (.slice Ay 1 cy)).run Try.prog w15 = .ok (.string ⟨#[120]⟩) w15 := by
    have h_ := Kd.C_string (P := Try.prog) (c := cy) Try.underlying22 Try.underlying5 Try.underlying9 hY
    rw [show strOfNums [120] = ⟨#[120]⟩ by kernel_rfl] at h_
    exact h_
  clear h15 H14 k15 X14 Y14 L14 hX hY hL
  go_wp2_with fail
  have B1 := Aside0.mk (alloc_below w15 (.cells #[.int .u8 120] 5 (1, 2)))
  have B2 := Aside0.mk (B1.out.alloc (by simp) (.cells #[.string na, .slice (some ⟨w15.heap.size, 0, none⟩) 1 1, .int .i64 1] 43 (0, 0)))
  have hc1 : (Kd.int .u8).C (w15.alloc (.cells #[.int .u8 120] 5 (1, 2))) (some ⟨w15.heap.size, 0, none⟩) 1 [120] := litU (l := [120]) (heap_alloc_new w15 _) (by decide)
  have hl2 := file_lit (W := (w15.alloc (.cells #[.int .u8 120] 5 (1, 2))).alloc (.cells #[.string na, .slice (some ⟨w15.heap.size, 0, none⟩) 1 1, .int .i64 1] 43 (0, 0))) ⟨na, [120], 1⟩ (c1 := 1) (heap_alloc_new _ _) (Kd.C_alloc hc1 _) (by decide)
  have hsame := rosetteref19_Same.calls 5 Al cl [⟨na, [120], 1⟩] _ 1 [⟨na, [120], 1⟩] true _ (Kd.C_below HLC.out B2.out) HCL.out hl2 (by decide) same1
  rw [World.size_alloc] at hsame
  refine hsame.mono ?_
  clear hsame
  rintro e w16 ⟨rfl, hd⟩
  have H16 := Aside0.mk (H15.out.below (B2.out.trans ((drawn_below19 hd).mono B2.out.size)))
  clear hd hc1 hl2 B1 B2 H15 HLC HCL
  go_wp2_with fail
  refine (lDead H16.out).mono ?_
  rintro e w17 ⟨rfl, rfl⟩
  go_wp2_with fail
  go_ret
  exact ⟨rfl, H16.out.bel⟩
end Go.Proofs.Ytcejkfjjildngaa
end

section
/- the reference's disk: that its calls end, and what they leave; first ones -/
set_option linter.unusedVariables false
set_option linter.unusedSimpArgs false
set_option autoImplicit false
namespace Go.Proofs.Ytcejkfjjildngaa
open Go Go.RowKit Go.Proofs.YtcejkfjjildngaaW.PrintWords Go.Proofs.YtcejkfjjildngaaW.PrintLast Go.Proofs.YtcejkfjjildngaaW.PrintMore Go.Proofs.Ytcejkfjjildngaa.G

/-- a file as it may be -/
structure FO (M : Nat) (f : S43) : Prop where
  s0 : 0 ≤ f.f2
  s1 : f.f2 ≤ f.f1.length
  m : f.f1.length ≤ M
  nm : f.f0.size ≤ 24
structure XP (S : Nat → Prop) (w : World) (g : Nat) (F : List S43) (A : Option Addr) (c : Nat) (room left : Int) (is : Bool) (M N : Nat) : Prop where
  bound : ∀ k, S k → k < w.heap.size
  own : S g
  cells : w.heap[g]? = some (.cells #[.slice A F.length c, .int .i64 room, .int .i64 left, .bool is] 53 (0, 0))
  row : Kd.R k43 43 w 0 S (.slice A F.length c) F
  files : ∀ f ∈ F, FO M f
  cnt : F.length ≤ N
  left0 : -1 ≤ left
  left1 : left ≤ 9223372036854775807
def XR (S : Nat → Prop) (w : World) (g : Nat) (M N : Nat) : Prop := ∃ F A c room left is, XP S w g F A c room left is M N
def XAfter (S : Nat → Prop) (w w' : World) (g : Nat) (M N : Nat) : Prop := ∃ S', XR S' w' g M N ∧ Fr S w w' ∧ ∀ k, S' k → S k ∨ w.heap.size ≤ k
section
variable {S : Nat → Prop} {w w' : World} {g : Nat} {F : List S43} {A : Option Addr} {c : Nat} {room left : Int} {is : Bool} {M N : Nat}
theorem XP.keep (h : XP S w g F A c room left is M N) (hk : ∀ k, S k → w'.heap[k]? = w.heap[k]?) (hs : w.heap.size ≤ w'.heap.size) : XP S w' g F A c room left is M N :=
  ⟨fun k hk => Nat.lt_of_lt_of_le (h.bound k hk) hs, h.own, (hk g h.own).trans h.cells, Kd.R_move h.row hk, h.files, h.cnt, h.left0, h.left1⟩
theorem XP.below (h : XP S w g F A c room left is M N) (hb : Below w.heap.size w w') : XP S w' g F A c room left is M N := h.keep (fun k hk => hb.block k (h.bound k hk)) hb.size
theorem XP.at (h : XP S w g F A c room left is M N) :
    (w.cell? ⟨g, 0, none⟩ = some (.slice A F.length c) ∧ w.cell? ⟨g, 1, none⟩ = some (.int .i64 room) ∧ w.cell? ⟨g, 2, none⟩ = some (.int .i64 left) ∧ w.cell? ⟨g, 3, none⟩ = some (.bool is)) ∧ ∀ j, w.frozen? ⟨g, j, none⟩ = false :=
  ⟨⟨by rw [cell_of_row _ _ _ _ _ _ h.cells]; rfl, by rw [cell_of_row _ _ _ _ _ _ h.cells]; rfl, by rw [cell_of_row _ _ _ _ _ _ h.cells]; rfl, by rw [cell_of_row _ _ _ _ _ _ h.cells]; rfl⟩, fun j => frozen_of_row _ _ _ _ _ h.cells⟩
theorem XP.reads (h : XP S w g F A c room left is M N) : F.length ≤ c ∧ Kd.C k43 w A F.length F := (Kd.R_reads' h.row).2
theorem XP.weak (h : XP S w g F A c room left is M N) {M' N' : Nat} (hM : M ≤ M') (hN : N ≤ N') : XP S w g F A c room left is M' N' :=
  ⟨h.bound, h.own, h.cells, h.row, fun f hf => ⟨(h.files f hf).s0, (h.files f hf).s1, Nat.le_trans (h.files f hf).m hM, (h.files f hf).nm⟩, Nat.le_trans h.cnt hN, h.left0, h.left1⟩
theorem XP.put (h : XP S w g F A c room left is M N) {room' left' : Int} {is' : Bool} (h0 : -1 ≤ left') (h1 : left' ≤ 9223372036854775807) (j : Nat) (v : Value)
    (hc : (#[Value.slice A F.length c, .int .i64 room, .int .i64 left, .bool is].setIfInBounds j v) = #[.slice A F.length c, .int .i64 room', .int .i64 left', .bool is']) : XP S (w.setCell ⟨g, j, none⟩ v) g F A c room' left' is' M N := by
  refine ⟨fun k hk => by simpa [World.setCell] using h.bound k hk, h.own, ?_, Kd.R_set h.row h.cells (by decide) j v, h.files, h.cnt, h0, h1⟩
  rw [heap_setCell_same _ _ _ _ _ _ h.cells, hc]
theorem XP.after (h : XP S w' g F A c room left is M N) (hf : Fr S w w') : XAfter S w w' g M N := ⟨S, ⟨F, A, c, room, left, is, h⟩, hf, fun k hk => .inl hk⟩
theorem XAfter.trans {S1 : Nat → Prop} {a b d : World} (hf : Fr S a b) (hs : ∀ k, S1 k → S k ∨ a.heap.size ≤ k) (h : XAfter S1 b d g M N) : XAfter S a d g M N := by
  obtain ⟨S2, h1, h2, h3⟩ := h
  exact ⟨S2, h1, hf.trans h2 hs, fun k hk => (h3 k hk).elim (hs k) (fun h => .inr (Nat.le_trans hf.size h))⟩
def IsBool (e : Ending) : Prop := ∃ b, e = .returned (.bool b)
def IsInt (e : Ending) : Prop := ∃ i, e = .returned (.int .i64 i)
def Spent (S : Nat → Prop) (w w' : World) (g : Nat) (F : List S43) (A : Option Addr) (c : Nat) (room : Int) (M N : Nat) : Prop := ∃ left' is', XP S w' g F A c room left' is' M N ∧ Fr (fun k => k = g) w w'
theorem xspend (h : XP S w g F A c room left is M N) : Calls Try.prog 32 #[.pointer (some ⟨g, 0, none⟩)] w fun e w' => IsBool e ∧ Spent S w w' g F A c room M N := by
  obtain ⟨⟨c0, c1, c2, c3⟩, hfr⟩ := h.at
  have f2 := hfr 2
  have f3 := hfr 3
  have hl0 := h.left0
  have hl1 := h.left1
  have H := Aside0.mk h
  clear h hfr
  go_enter Try.func32, Try.ntmps32
  by_cases h0 : left = 0
  · subst h0
    have HP := Aside0.mk (H.out.put (room' := room) (left' := 0) (is' := true) (by decide) (by decide) 3 (.bool true) rfl)
    go_wp2_with fail
    go_ret
    exact ⟨⟨_, rfl⟩, 0, true, HP.out, Fr.set (S := fun k => k = g) rfl 3 _⟩
  by_cases h1 : left > 0
  · have HP := Aside0.mk (H.out.put (room' := room) (left' := left - 1) (is' := is) (by omega) (by omega) 2 (.int .i64 (left - 1)) rfl)
    have hw : wrap64 (left - 1) = left - 1 := by unfold wrap64; omega
    go_wp2_with fail
    go_ret
    exact ⟨⟨_, rfl⟩, left - 1, is, HP.out, Fr.set (S := fun k => k = g) rfl 2 _⟩
  · go_wp2_with fail
    go_ret
    exact ⟨⟨_, rfl⟩, left, is, H.out, Fr.refl _ _⟩
theorem xkill (h : XP S w g F A c room left is M N) (a : Int) (ha : a ≤ 9223372036854775807) : Calls Try.prog 36 #[.pointer (some ⟨g, 0, none⟩), .int .i64 a] w fun e w' => e = .returned (.tuple #[]) ∧ XAfter S w w' g M N := by
  obtain ⟨⟨c0, c1, c2, c3⟩, hfr⟩ := h.at
  have f2 := hfr 2
  have fin : ∀ n : Int, n = max a 0 → XAfter S w (w.setCell ⟨g, 2, none⟩ (.int .i64 n)) g M N := by
    rintro n rfl
    exact (h.put (room' := room) (left' := max a 0) (is' := is) (by omega) (by omega) 2 (.int .i64 (max a 0)) rfl).after (Fr.set h.own 2 _)
  have FIN := Aside0.mk fin
  clear h hfr fin
  go_enter Try.func36, Try.ntmps36
  go_wp2_with fail
  all_goals (go_end0; refine ⟨rfl, ?_⟩; refine FIN.out _ ?_; omega)
set_option maxRecDepth 100000 in
set_option maxHeartbeats 2000000 in
theorem xat (h : XP S w g F A c room left is M N) (n : ByteArray) (hN : N ≤ 1000000) : Calls Try.prog 48 #[.pointer (some ⟨g, 0, none⟩), .string n] w fun e w' => ∃ i : Int, e = .returned (.int .i64 i) ∧ (-1 ≤ i ∧ i < F.length) ∧ w' = w := by
  obtain ⟨⟨c0, c1, c2, c3⟩, -⟩ := h.at
  have hcnt := Nat.le_trans h.cnt hN
  have HC := Aside0.mk h.reads.2
  clear h
  go_enter Try.func48, Try.ntmps48
  go_wp2_with fail
  go_loopw [5] (fun i wr => ∃ j : Nat, j ≤ F.length ∧ i = .int .i64 j ∧ wr = w) (fun i _ => F.length - (intOf i).toNat)
  case atStart => exact ⟨0, Nat.zero_le _, rfl, rfl⟩
  case round =>
    obtain ⟨j, hj, rfl, rfl⟩ := hrel
    by_cases hlt : j < F.length
    case neg =>
      obtain rfl : j = F.length := by omega
      go_wp2_with fail
      go_ret
      exact ⟨-1, rfl, ⟨by omega, by omega⟩, rfl⟩
    obtain ⟨ad, A1, c1', hA, z0, z1, z2, z3⟩ := at_T43 HC.out (j : Int) (by omega) (by omega)
    subst hA
    rw [Int.toNat_natCast] at z0 z1 z2
    generalize rd_T43 F (j : Int) = x at z0 z1 z2
    by_cases hn : x.f0.toList = n.toList
    · have hne : (x.f0.toList == n.toList) = true := by simpa using hn
      clear z1 z2 z3
      go_wp2_with fail
      go_ret
      exact ⟨j, rfl, ⟨by omega, by omega⟩, rfl⟩
    · have hne : (x.f0.toList == n.toList) = false := by simpa using hn
      clear z1 z2 z3
      go_wp2_with fail
      exact ⟨⟨j + 1, by omega, by go_num, by first | rfl | trivial⟩, by simp [intOf]; omega⟩
def usedX (n : ByteArray) (F : List S43) : Int := F.foldl (fun T x => if x.f0.toList = n.toList then T else wrap64 (T + x.f1.length)) 0
theorem usedX_succ (n : ByteArray) (F : List S43) (j : Nat) (hj : j < F.length) : usedX n (F.take (j + 1)) = if F[j].f0.toList = n.toList then usedX n (F.take j) else wrap64 (usedX n (F.take j) + F[j].f1.length) := by
  unfold usedX
  rw [List.take_add_one, List.foldl_append, List.getElem?_eq_getElem hj]
  rfl
set_option maxRecDepth 100000 in
set_option maxHeartbeats 2000000 in
theorem xused (h : XP S w g F A c room left is M N) (n : ByteArray) (hN : N ≤ 1000000) : Calls Try.prog 49 #[.pointer (some ⟨g, 0, none⟩), .string n] w fun e w' => e = .returned (.int .i64 (usedX n F)) ∧ w' = w := by
  obtain ⟨⟨c0, c1, c2, c3⟩, -⟩ := h.at
  have hcnt := Nat.le_trans h.cnt hN
  have HC := Aside0.mk h.reads.2
  clear h
  obtain ⟨U, hU0⟩ : ∃ U, usedX n F = U := ⟨_, rfl⟩
  rw [hU0]
  have HU0 := Aside0.mk hU0
  clear hU0
  go_enter Try.func49, Try.ntmps49
  go_wp2_with fail
  go_loopw [5, 6] (fun v i wr => ∃ (T : Int) (j : Nat), v = .int .i64 T ∧ Aside0 (usedX n (F.take j) = T) ∧ j ≤ F.length ∧ i = .int .i64 j ∧ wr = w) (fun _ i _ => F.length - (intOf i).toNat)
  case atStart => exact ⟨0, 0, rfl, ⟨rfl⟩, Nat.zero_le _, rfl, rfl⟩
  case round =>
    obtain ⟨T, j, rfl, HT, hj, rfl, rfl⟩ := hrel
    by_cases hlt : j < F.length
    case neg =>
      obtain rfl : j = F.length := by omega
      obtain rfl : T = U := by rw [← HT.out, List.take_length]; exact HU0.out
      go_wp2_with fail
      go_ret
      exact ⟨rfl, rfl⟩
    have HS := Aside0.mk (usedX_succ n F j hlt)
    obtain ⟨ad, A1, c1', hA, z0, z1, z2, z3⟩ := at_T43 HC.out (j : Int) (by omega) (by omega)
    subst hA
    have hrd : rd_T43 F (j : Int) = F[j] := by
      show F.getD (j : Int).toNat _ = _
      rw [Int.toNat_natCast, List.getD_eq_getElem?_getD, List.getElem?_eq_getElem hlt]
      rfl
    rw [Int.toNat_natCast] at z0 z1 z2
    rw [hrd] at z0 z1 z2
    clear hrd z3
    generalize F[j] = x at z0 z1 z2 HS
    by_cases hn : x.f0.toList = n.toList
    · have hne : (x.f0.toList == n.toList) = true := by simpa using hn
      have hne2 : (x.f0.toList != n.toList) = false := by simpa using hn
      have HS2 := Aside0.mk (HS.out.trans ((if_pos hn).trans HT.out))
      clear z2
      go_wp2_with fail
      exact ⟨⟨T, j + 1, rfl, HS2, by omega, by go_num, by first | rfl | trivial⟩, by simp [intOf]; omega⟩
    · have hne : (x.f0.toList == n.toList) = false := by simpa using hn
      have hne2 : (x.f0.toList != n.toList) = true := by simpa using hn
      have HS2 := Aside0.mk (HS.out.trans ((if_neg hn).trans (by rw [HT.out])))
      clear z2
      go_wp2_with fail
      exact ⟨⟨_, j + 1, rfl, HS2, by omega, by go_num, by first | rfl | trivial⟩, by simp [intOf]; omega⟩
theorem xchange (h : XP S w g F A c room left is M N) (n : ByteArray) (hN : N ≤ 1000000) : Calls Try.prog 31 #[.pointer (some ⟨g, 0, none⟩), .string n] w fun e w' => ∃ i x : Int, e = .returned (.tuple #[.int .i64 i, .int .i64 x]) ∧ (x = 0 → 0 ≤ i ∧ i < F.length) ∧ w' = w := by
  obtain ⟨⟨c0, c1, c2, c3⟩, -⟩ := h.at
  have HA := Aside0.mk (xat h n hN)
  clear h
  go_enter Try.func31, Try.ntmps31
  cases is with
  | true =>
    go_wp2_with fail
    go_ret2
    exact ⟨0, 13, rfl, fun h => absurd h (by decide), rfl⟩
  | false =>
    go_wp2_with fail
    refine HA.out.mono ?_
    clear HA
    rintro e w1 ⟨i, rfl, ⟨h1, h2⟩, rfl⟩
    by_cases hi : i < 0
    · go_wp2_with fail
      go_ret2
      exact ⟨0, 7, rfl, fun h => absurd h (by decide), rfl⟩
    · go_wp2_with fail
      go_ret2
      exact ⟨i, 0, rfl, fun _ => ⟨by omega, h2⟩, rfl⟩
end
end Go.Proofs.Ytcejkfjjildngaa
end

section
-- Written by a program of this session (wip/tools/myprint.py), over the kit's print.
namespace Go.Proofs.Ytcejkfjjildngaa.G
open Go.RowKit Go.Proofs.YtcejkfjjildngaaW.PrintWords Go.Proofs.YtcejkfjjildngaaW.PrintLast Go.Proofs.YtcejkfjjildngaaW.PrintMore
attribute [local go_sem] max2_int min2_int max_two min_two max_three min_three max_four min_four   -- for this text's walks alone
set_option linter.unusedVariables false
set_option linter.unusedSimpArgs false

/-! ### rosetteref04_less: function 61 -/
mutual
def rosetteref04_less.l0 : Nat → ByteArray → ByteArray → Int → Option (Bool)
  | 0, _, _, _ => none
  | k + 1, x0, x1, x5 => if x5 < (x0.size : Int) then (rosetteref04_less.j1 k x0 x1 x5 (decide (x5 < (x1.size : Int)))) else (rosetteref04_less.j1 k x0 x1 x5 false)
def rosetteref04_less.j1 : Nat → ByteArray → ByteArray → Int → Bool → Option (Bool)
  | 0, _, _, _, _ => none
  | k + 1, x0, x1, x5, x15 => if x15 = true then (if 0 ≤ x5 then (if x5 < (x0.size : Int) then (if x5 < (x1.size : Int) then (if (bt x0 x5) = (bt x1 x5) then (rosetteref04_less.l0 k x0 x1 (wrap64 (x5 + 1))) else (some (decide ((bt x0 x5) < (bt x1 x5))))) else (none)) else (none)) else (none)) else (some (decide ((x0.size : Int) < (x1.size : Int))))
end
def rosetteref04_less.f (k : Nat) (a0 : ByteArray) (a1 : ByteArray) : Option (Bool) := rosetteref04_less.l0 k a0 a1 0
theorem rosetteref04_less.mono_l : ∀ k, (∀ y0 y1 y2, LeO (rosetteref04_less.l0 k y0 y1 y2) (rosetteref04_less.l0 (k + 1) y0 y1 y2)) ∧ (∀ y0 y1 y2 y3, LeO (rosetteref04_less.j1 k y0 y1 y2 y3) (rosetteref04_less.j1 (k + 1) y0 y1 y2 y3))
  | 0 => ⟨fun _ _ _ r h => by simp [rosetteref04_less.l0] at h, fun _ _ _ _ r h => by simp [rosetteref04_less.j1] at h⟩
  | k + 1 => by
    obtain ⟨ih0, ih1⟩ := rosetteref04_less.mono_l k
    refine ⟨?_, ?_⟩
    · intro y0 y1 y2
      unfold rosetteref04_less.l0
      repeat' first
      | (with_reducible exact ih0 _ _ _)
      | (with_reducible exact ih1 _ _ _ _)
      | (with_reducible exact LeO.refl _)
      | (with_reducible exact LeO.none _)
      | (with_reducible refine LeO.ite ?_ ?_)
      | (with_reducible refine LeO.bind ?_ (fun _ => ?_))
      | exact ih0 _ _ _
      | exact ih1 _ _ _ _
      | exact LeO.none _
      | refine LeO.ite ?_ ?_
      | refine LeO.bind ?_ (fun _ => ?_)
    · intro y0 y1 y2 y3
      unfold rosetteref04_less.j1
      repeat' first
      | (with_reducible exact ih0 _ _ _)
      | (with_reducible exact ih1 _ _ _ _)
      | (with_reducible exact LeO.refl _)
      | (with_reducible exact LeO.none _)
      | (with_reducible refine LeO.ite ?_ ?_)
      | (with_reducible refine LeO.bind ?_ (fun _ => ?_))
      | exact ih0 _ _ _
      | exact ih1 _ _ _ _
      | exact LeO.none _
      | refine LeO.ite ?_ ?_
      | refine LeO.bind ?_ (fun _ => ?_)
theorem rosetteref04_less.mono : ∀ a0 a1 k, LeO (rosetteref04_less.f k a0 a1) (rosetteref04_less.f (k + 1) a0 a1) := by
  intro a0 a1 k
  obtain ⟨ih0, ih1⟩ := rosetteref04_less.mono_l k
  unfold rosetteref04_less.f
  repeat' first
      | (with_reducible exact ih0 _ _ _)
      | (with_reducible exact ih1 _ _ _ _)
      | (with_reducible exact LeO.refl _)
      | (with_reducible exact LeO.none _)
      | (with_reducible refine LeO.ite ?_ ?_)
      | (with_reducible refine LeO.bind ?_ (fun _ => ?_))
      | exact ih0 _ _ _
      | exact ih1 _ _ _ _
      | exact LeO.none _
      | refine LeO.ite ?_ ?_
      | refine LeO.bind ?_ (fun _ => ?_)
set_option maxHeartbeats 8000000 in
set_option maxRecDepth 100000 in
theorem rosetteref04_less.calls (k : Nat) (a0 : ByteArray) (a1 : ByteArray) (r : Bool) (w : World) (h : rosetteref04_less.f k a0 a1 = some r) :
    Calls Try.prog 61 #[.string a0, .string a1] w fun e w' => e = .returned (.bool r) ∧ Drawn0 w w' := by
  have H : (rosetteref04_less.l0 k a0 a1 0) = some r := h
  clear h
  have H' := Aside0.mk H
  clear H
  go_enter Try.func61, Try.ntmps61
  go_wp2
  repeat (go_quiet (fail); try go_wp2)
  go_loopg [5] k (fun kq v5 w' => ∃ (x5_1 : Int), v5 = .int .i64 x5_1 ∧ Aside0 (rosetteref04_less.l0 kq a0 a1 x5_1 = some r) ∧ Aside0 (kq ≤ k) ∧ Drawn0 w w')
  case atStart => exact ⟨(0), (by first | rfl | (simp; done) | (simp [*]; done)), H', ⟨Nat.le_refl _⟩, by repeat (first | exact Drawn0.refl _ | apply Drawn0.step)⟩
  case round =>
    clear H'
    try clear p2
    obtain ⟨x5_1, rfl, HA, HK1, ⟨m1, rfl⟩⟩ := hrel
    cases gk with
    | zero => exact absurd HA.out (by simp [rosetteref04_less.l0])
    | succ k1 =>
      have H := HA.out
      clear HA
      simp only [rosetteref04_less.l0] at H
      have HC3 := Aside0.mk H
      clear H
      go_upto_region 2 with (fail)
      repeat (go_quiet (fail); go_upto_region 2 with (fail))
      go_cut [15] (fun v15 wc => ∃ (kq : Nat) (x15_2 : Bool), v15 = .bool x15_2 ∧ Aside0 (rosetteref04_less.j1 kq a0 a1 x5_1 x15_2 = some r) ∧ Aside0 (kq ≤ k1) ∧ Drawn0 w wc)
      case first =>
        have H := HC3.out
        clear HC3
        by_cases c4 : x5_1 < (a0.size : Int)
        · rw [if_pos c4] at H
          have c4b0 : decide (x5_1 < (a0.size : Int)) = true := decide_eq_true c4
          clear c4
          (first | rw [c4b0] | (simp only [i64_w, i32_w]; rw [c4b0]) | skip)
          have H' := Aside0.mk H
          clear H
          go_wp2
          repeat (go_quiet (fail); try go_wp2)
          go_meet
          case rel => exact ⟨_, (decide (x5_1 < (a1.size : Int))), (by first | rfl | (simp; done) | (simp [*]; done)), H', ⟨by have := HK1.out; first | omega | exact Nat.le_refl _⟩, by repeat (first | exact Drawn0.refl _ | apply Drawn0.step)⟩
        · rw [if_neg c4] at H
          have c4b0 : decide (x5_1 < (a0.size : Int)) = false := decide_eq_false c4
          clear c4
          (first | rw [c4b0] | (simp only [i64_w, i32_w]; rw [c4b0]) | skip)
          have H' := Aside0.mk H
          clear H
          go_wp2
          repeat (go_quiet (fail); try go_wp2)
          go_meet
          case rel => exact ⟨_, (false), (by first | rfl | (simp; done) | (simp [*]; done)), H', ⟨by have := HK1.out; first | omega | exact Nat.le_refl _⟩, by repeat (first | exact Drawn0.refl _ | apply Drawn0.step)⟩
      case rest =>
        clear HC3
        try clear p2
        try clear c4
        try clear c4b0
        try clear p2
        obtain ⟨kq, x15_2, rfl, HA, HJ2, ⟨mc2, rfl⟩⟩ := hcut
        cases kq with
        | zero => exact absurd HA.out (by simp [rosetteref04_less.j1])
        | succ kj2 =>
          have H := HA.out
          clear HA
          simp only [rosetteref04_less.j1] at H
          by_cases c5 : x15_2 = true
          · subst c5
            have H1 : (if 0 ≤ x5_1 then (if x5_1 < (a0.size : Int) then (if x5_1 < (a1.size : Int) then (if (bt a0 x5_1) = (bt a1 x5_1) then (rosetteref04_less.l0 kj2 a0 a1 (wrap64 (x5_1 + 1))) else (some (decide ((bt a0 x5_1) < (bt a1 x5_1))))) else (none)) else (none)) else (none)) = some r := by rw [if_pos rfl] at H; exact H
            clear H
            have H := H1
            clear H1
            by_cases c6 : 0 ≤ x5_1
            · rw [if_pos c6] at H
              have c6b0 : decide (0 ≤ x5_1) = true := decide_eq_true c6
              clear c6
              by_cases c7 : x5_1 < (a0.size : Int)
              · rw [if_pos c7] at H
                have c7b0 : decide (x5_1 < (a0.size : Int)) = true := decide_eq_true c7
                clear c7
                by_cases c9 : x5_1 < (a1.size : Int)
                · rw [if_pos c9] at H
                  have c9b0 : decide (x5_1 < (a1.size : Int)) = true := decide_eq_true c9
                  clear c9
                  by_cases c11 : (bt a0 x5_1) = (bt a1 x5_1)
                  · rw [if_pos c11] at H
                    have c11b0 : ((bt a0 x5_1) == (bt a1 x5_1)) = true := beq_iff_eq.mpr c11
                    have c11b1 : ((bt a0 x5_1) != (bt a1 x5_1)) = false := bne_eq_false_iff_eq.mpr c11
                    clear c11
                    have H' := Aside0.mk H
                    clear H
                    have p8 : 0 ≤ (x5_1 : Int) := of_decide_eq_true (by first | (with_reducible assumption) | assumption)
                    have q8 : x5_1 < (a0.size : Int) := of_decide_eq_true (by first | (with_reducible assumption) | assumption)
                    have hx8 := bt_at a0 x5_1
                    replace p8 := eq_true p8
                    replace q8 := eq_true q8
                    have p10 : 0 ≤ (x5_1 : Int) := of_decide_eq_true (by first | (with_reducible assumption) | assumption)
                    have q10 : x5_1 < (a1.size : Int) := of_decide_eq_true (by first | (with_reducible assumption) | assumption)
                    have hx10 := bt_at a1 x5_1
                    replace p10 := eq_true p10
                    replace q10 := eq_true q10
                    go_wp2
                    repeat (go_quiet (fail); try go_wp2)
                    go_roundg kj2
                    case measure => have := HK1.out; have := HJ2.out; omega
                    case rel => exact ⟨(wrap64 (x5_1 + 1)), (by first | rfl | (simp; done) | (simp [*]; done)), H', ⟨by have := HK1.out; have := HJ2.out; omega⟩, by repeat (first | exact Drawn0.refl _ | apply Drawn0.step)⟩
                  · rw [if_neg c11] at H
                    have c11b0 : ((bt a0 x5_1) == (bt a1 x5_1)) = false := beq_eq_false_iff_ne.mpr c11
                    have c11b1 : ((bt a0 x5_1) != (bt a1 x5_1)) = true := bne_iff_ne.mpr c11
                    obtain rfl := Option.some.inj H
                    have p8 : 0 ≤ (x5_1 : Int) := of_decide_eq_true (by first | (with_reducible assumption) | assumption)
                    have q8 : x5_1 < (a0.size : Int) := of_decide_eq_true (by first | (with_reducible assumption) | assumption)
                    have hx8 := bt_at a0 x5_1
                    replace p8 := eq_true p8
                    replace q8 := eq_true q8
                    have p10 : 0 ≤ (x5_1 : Int) := of_decide_eq_true (by first | (with_reducible assumption) | assumption)
                    have q10 : x5_1 < (a1.size : Int) := of_decide_eq_true (by first | (with_reducible assumption) | assumption)
                    have hx10 := bt_at a1 x5_1
                    replace p10 := eq_true p10
                    replace q10 := eq_true q10
                    have p12 : 0 ≤ (x5_1 : Int) := of_decide_eq_true (by first | (with_reducible assumption) | assumption)
                    have q12 : x5_1 < (a0.size : Int) := of_decide_eq_true (by first | (with_reducible assumption) | assumption)
                    have hx12 := bt_at a0 x5_1
                    replace p12 := eq_true p12
                    replace q12 := eq_true q12
                    have p13 : 0 ≤ (x5_1 : Int) := of_decide_eq_true (by first | (with_reducible assumption) | assumption)
                    have q13 : x5_1 < (a1.size : Int) := of_decide_eq_true (by first | (with_reducible assumption) | assumption)
                    have hx13 := bt_at a1 x5_1
                    replace p13 := eq_true p13
                    replace q13 := eq_true q13
                    go_wp2
                    repeat (go_quiet (fail); try go_wp2)
                    go_ret
                    exact ⟨by first | rfl | (simp; done) | (simp [*]; done), by repeat (first | exact Drawn0.refl _ | apply Drawn0.step)⟩
                · rw [if_neg c9] at H
                  exact absurd H (by simp)
              · rw [if_neg c7] at H
                exact absurd H (by simp)
            · rw [if_neg c6] at H
              exact absurd H (by simp)
          · replace c5 := Bool.eq_false_iff.mpr c5
            subst c5
            have H1 : (some (decide ((a0.size : Int) < (a1.size : Int)))) = some r := by rw [if_neg (show ¬ (false = true) by decide)] at H; exact H
            clear H
            have H := H1
            clear H1
            obtain rfl := Option.some.inj H
            go_wp2
            repeat (go_quiet (fail); try go_wp2)
            go_ret
            exact ⟨by first | rfl | (simp; done) | (simp [*]; done), by repeat (first | exact Drawn0.refl _ | apply Drawn0.step)⟩

end Go.Proofs.Ytcejkfjjildngaa.G
end

section
-- Written by a program of this session (wip/tools/myprint.py), over the kit's print.
namespace Go.Proofs.Ytcejkfjjildngaa.G
open Go.RowKit Go.Proofs.YtcejkfjjildngaaW.PrintWords Go.Proofs.YtcejkfjjildngaaW.PrintLast Go.Proofs.YtcejkfjjildngaaW.PrintMore
attribute [local go_sem] max2_int min2_int max_two min_two max_three min_three max_four min_four   -- for this text's walks alone
set_option linter.unusedVariables false
set_option linter.unusedSimpArgs false

/-! ### rosetteref04_Text: function 56 -/
def rosetteref04_Text.f (k : Nat) (a0 : ByteArray) (a1 : ByteArray) : Option (Int) := if a0.toList = a1.toList then (some 0) else ((rosetteref04_less.f k a0 a1).bind fun t237 => (if t237 = true then (some (-1)) else (some 1)))
theorem rosetteref04_Text.mono : ∀ a0 a1 k, LeO (rosetteref04_Text.f k a0 a1) (rosetteref04_Text.f (k + 1) a0 a1) := by
  intro a0 a1 k
  unfold rosetteref04_Text.f
  repeat' first
      | (with_reducible exact rosetteref04_less.mono _ _ _)
      | (with_reducible exact LeO.refl _)
      | (with_reducible exact LeO.none _)
      | (with_reducible refine LeO.ite ?_ ?_)
      | (with_reducible refine LeO.bind ?_ (fun _ => ?_))
      | exact rosetteref04_less.mono _ _ _
      | exact LeO.none _
      | refine LeO.ite ?_ ?_
      | refine LeO.bind ?_ (fun _ => ?_)
set_option maxHeartbeats 8000000 in
set_option maxRecDepth 100000 in
theorem rosetteref04_Text.calls (k : Nat) (a0 : ByteArray) (a1 : ByteArray) (r : Int) (w : World) (h : rosetteref04_Text.f k a0 a1 = some r) :
    Calls Try.prog 56 #[.string a0, .string a1] w fun e w' => e = .returned (.int .i64 r) ∧ Drawn0 w w' := by
  have H : (if a0.toList = a1.toList then (some 0) else ((rosetteref04_less.f k a0 a1).bind fun t237 => (if t237 = true then (some (-1)) else (some 1)))) = some r := h
  clear h
  by_cases c3 : a0.toList = a1.toList
  · rw [if_pos c3] at H
    have c3b0 : (a0.toList == a1.toList) = true := beq_iff_eq.mpr c3
    have c3b1 : (a0.toList != a1.toList) = false := bne_eq_false_iff_eq.mpr c3
    clear c3
    obtain rfl := Option.some.inj H
    go_enter Try.func56, Try.ntmps56
    go_wp2
    go_ret
    exact ⟨by first | rfl | (simp; done) | (simp [*]; done), by repeat (first | exact Drawn0.refl _ | apply Drawn0.step)⟩
  · rw [if_neg c3] at H
    have c3b0 : (a0.toList == a1.toList) = false := beq_eq_false_iff_ne.mpr c3
    have c3b1 : (a0.toList != a1.toList) = true := bne_iff_ne.mpr c3
    replace H := Option.bind_eq_some_iff.mp H
    obtain ⟨t237, A40, H⟩ := H
    replace H : (if t237 = true then (some (-1)) else (some 1)) = some r := H
    have A4 := Aside0.mk A40
    clear A40
    by_cases c5 : t237 = true
    · subst c5
      have H1 : (some (-1)) = some r := by rw [if_pos rfl] at H; exact H
      clear H
      have H := H1
      clear H1
      obtain rfl := Option.some.inj H
      go_enter Try.func56, Try.ntmps56
      go_wp2_with (first | ((with_reducible refine gate_callee (f := 61) rfl ?_); refine goesL_ (some 10) rfl rfl Try.func61 (by kernel_rfl) rfl #[.string a0, .string a1] rfl (by (try simp only [List.map_toArray, List.map_cons, List.map_nil]); first | done | rfl | (simp only [List.length_drop, List.length_take]; rfl)) ?_; (with_reducible refine (rosetteref04_less.calls k a0 a1 true _ A4.out).mono ?_); rintro e w' ⟨rfl, ⟨nd, rfl⟩⟩; refine ⟨_, rfl, ?_⟩))
      go_ret
      exact ⟨by first | rfl | (simp; done) | (simp [*]; done), by repeat (first | exact Drawn0.refl _ | apply Drawn0.step)⟩
    · replace c5 := Bool.eq_false_iff.mpr c5
      subst c5
      have H1 : (some 1) = some r := by rw [if_neg (show ¬ (false = true) by decide)] at H; exact H
      clear H
      have H := H1
      clear H1
      obtain rfl := Option.some.inj H
      go_enter Try.func56, Try.ntmps56
      go_wp2_with (first | ((with_reducible refine gate_callee (f := 61) rfl ?_); refine goesL_ (some 10) rfl rfl Try.func61 (by kernel_rfl) rfl #[.string a0, .string a1] rfl (by (try simp only [List.map_toArray, List.map_cons, List.map_nil]); first | done | rfl | (simp only [List.length_drop, List.length_take]; rfl)) ?_; (with_reducible refine (rosetteref04_less.calls k a0 a1 false _ A4.out).mono ?_); rintro e w' ⟨rfl, ⟨nd, rfl⟩⟩; refine ⟨_, rfl, ?_⟩))
      go_ret
      exact ⟨by first | rfl | (simp; done) | (simp [*]; done), by repeat (first | exact Drawn0.refl _ | apply Drawn0.step)⟩

end Go.Proofs.Ytcejkfjjildngaa.G
end

section
/- the reference's disk: drop, put; that they end, and what they leave -/
set_option linter.unusedVariables false
set_option linter.unusedSimpArgs false
set_option autoImplicit false
namespace Go.Proofs.Ytcejkfjjildngaa
open Go Go.RowKit Go.Proofs.YtcejkfjjildngaaW.PrintWords Go.Proofs.YtcejkfjjildngaaW.PrintLast Go.Proofs.YtcejkfjjildngaaW.PrintMore Go.Proofs.Ytcejkfjjildngaa.G

/-- a row of files that is being made: its own block is new, its elements lie in S, or are new -/
structure Mk (S : Nat → Prop) (w W : World) (v : Value) (F : List S43) : Prop where
  row : Kd.R k43 43 W 0 (fun k => S k ∨ w.heap.size ≤ k) v F
  own : ∀ k, v.ownBlock = some k → w.heap.size ≤ k
  bel : Below w.heap.size w W
theorem Mk.nil {S : Nat → Prop} {w W : World} (hb : Below w.heap.size w W) : Mk S w W (.slice none 0 0) [] := ⟨Kd.R_nil _ _ _ _ _, fun k hk => by simp [Value.ownBlock] at hk, hb⟩
theorem Mk.below {S : Nat → Prop} {w W W' : World} {v : Value} {F : List S43} (h : Mk S w W v F) (hb : Below W.heap.size W W') : Mk S w W' v F := ⟨Kd.R_below h.row hb, h.own, h.bel.trans (hb.mono h.bel.size)⟩
/-- the element at place j of a row, as it lies -/
theorem row_elem {S : Nat → Prop} {w : World} {v : Value} {F : List S43} (h : Kd.R k43 43 w 0 S v F) (j : Nat) (hj : j < F.length) :
    ∃ ad c vd, v = .slice (some ad) F.length c ∧ w.cell? (ad.add (j * 3)) = some (.string F[j].f0) ∧ w.cell? ⟨(ad.add (j * 3)).block, (ad.add (j * 3)).off + 1, none⟩ = some vd ∧ w.cell? ⟨(ad.add (j * 3)).block, (ad.add (j * 3)).off + 2, none⟩ = some (.int .i64 F[j].f2) ∧
      (Kd.int .u8).R 5 w 0 S vd F[j].f1 := by
  obtain ⟨h0, inner, hown, hr⟩ := h
  have hx : F[j]? = some F[j] := List.getElem?_eq_getElem hj
  have hM := hr.2 j _ hx
  obtain ⟨vd, hcs, hR⟩ := k43_openM hM
  rcases hown.2 with ⟨_, hn⟩ | ⟨b, cap, cur, rfl, _, hb, hnc, hmax, hsz, htk⟩
  · omega
  · have key : ∀ i u, [Value.string F[j].f0, vd, .int .i64 F[j].f2][i]? = some u → w.cell? ⟨b, j * 3 + i, none⟩ = some u := by
      intro i u hu
      have hi : i < 3 := (List.getElem?_eq_some_iff.1 hu).1
      have hcs' : (inner.drop (j * 3)).take 3 = [Value.string F[j].f0, vd, .int .i64 F[j].f2] := hcs
      rw [cell_of_row (j := j * 3 + i) _ _ _ _ _ hb]
      have h1 : cur.toList[j * 3 + i]? = some u := by
        have h2 : (cur.toList.take (F.length * 3))[j * 3 + i]? = cur.toList[j * 3 + i]? := List.getElem?_take_of_lt (by omega)
        have htk' : cur.toList.take (F.length * 3) = inner := htk
        rw [← h2, htk', ← hu, ← hcs', List.getElem?_take_of_lt hi, List.getElem?_drop]
      rw [← h1]
      simp
    have ea : (⟨b, 0, none⟩ : Addr).add (j * 3) = ⟨b, j * 3, none⟩ := by unfold Addr.add; split <;> simp_all
    refine ⟨_, cap, vd, rfl, ?_, ?_, ?_, Kd.R_mono hR (fun k hk => hk.1)⟩
    · rw [ea]; exact key 0 _ rfl
    · rw [ea]; exact key 1 _ rfl
    · rw [ea]; exact key 2 _ rfl
theorem Mk.fresh {S : Nat → Prop} {w W : World} {v : Value} {F : List S43} (h : Mk S w W v F) (hS : ∀ k, S k → k < w.heap.size) : ∀ k, S k → some k ≠ v.ownBlock := fun k hk e => by have := h.own k e.symm; have := hS k hk; omega
theorem Mk.grow {S : Nat → Prop} {w W w1 : World} {v v1 : Value} {F F1 : List S43} (h : Mk S w W v F) (hR : Kd.R k43 43 w1 0 (fun k => S k ∨ w.heap.size ≤ k) v1 F1) (hg : W.grownBy w1 v.ownBlock) (hat : v1.ownBlock = v.ownBlock ∨ ∃ b, v1.ownBlock = some b ∧ W.heap.size ≤ b) : Mk S w w1 v1 F1 := by
  refine ⟨hR, fun k hk => ?_, h.bel.grown hg h.bel.size h.own⟩
  rcases hat with e | ⟨b, e, hb⟩
  · exact h.own k (by rw [← e]; exact hk)
  · rw [e] at hk
    have := h.bel.size
    have hkb := Option.some.inj hk
    omega
theorem below0 {w W : World} (h : Below w.heap.size w W) : Below 0 w W := h.mono (Nat.zero_le _)
/-- what is left, where only the disk's own block is written: what lay in the footprint lies there still -/
def XGrow (S : Nat → Prop) (w w' : World) (g : Nat) (M N : Nat) : Prop := ∃ S', XR S' w' g M N ∧ Fr (fun k => k = g) w w' ∧ (∀ k, S k → S' k) ∧ ∀ k, S' k → S k ∨ w.heap.size ≤ k
theorem XGrow.after {S : Nat → Prop} {w w' : World} {g M N : Nat} (h : XGrow S w w' g M N) (hg : S g) : XAfter S w w' g M N := by
  obtain ⟨S', h1, h2, -, h4⟩ := h
  exact ⟨S', h1, h2.mono (fun k hk => by subst hk; exact hg), h4⟩
/-- the row that was made takes the old one's place -/
theorem XP.turn {S : Nat → Prop} {w W : World} {g : Nat} {F : List S43} {A : Option Addr} {c : Nat} {room left : Int} {is : Bool} {M N : Nat} (h : XP S w g F A c room left is M N) {A1 : Option Addr} {c1 : Nat} {F1 : List S43} (hm : Mk S w W (.slice A1 F1.length c1) F1) (hf : ∀ f ∈ F1, FO M f) {N1 : Nat} (hn : F1.length ≤ N1) :
    XGrow S w (W.setCell ⟨g, 0, none⟩ (.slice A1 F1.length c1)) g M N1 := by
  have hB := h.below hm.bel
  refine ⟨fun k => S k ∨ (w.heap.size ≤ k ∧ k < W.heap.size), ⟨F1, A1, c1, room, left, is, ⟨fun k hk => ?_, .inl h.own, ?_, ?_, hf, hn, h.left0, h.left1⟩⟩, (Fr.of_below hm.bel).trans (Fr.set (S := fun k => k = g) rfl 0 _) (fun k hk => .inl hk), fun k hk => .inl hk, fun k hk => hk.imp id (fun hk => hk.1)⟩
  · have : k < W.heap.size := by
      rcases hk with hk | hk
      · exact hB.bound k hk
      · exact hk.2
    simpa [World.setCell] using this
  · rw [heap_setCell_same _ _ _ _ _ _ hB.cells]; rfl
  · refine Kd.R_set ?_ hB.cells (by decide) 0 _
    refine Kd.R_mono (Kd.R_bound hm.row) (fun k hk => ?_)
    rcases hk.1 with h1 | h1
    · exact .inl h1
    · exact .inr ⟨h1, hk.2.2.1⟩
set_option maxRecDepth 100000 in
set_option maxHeartbeats 4000000 in
theorem xdrop {S : Nat → Prop} {w : World} {g : Nat} {F : List S43} {A : Option Addr} {c : Nat} {room left : Int} {is : Bool} {M N : Nat} (h : XP S w g F A c room left is M N) (n : ByteArray) (hN : N ≤ 1000000) :
    Calls Try.prog 51 #[.pointer (some ⟨g, 0, none⟩), .string n] w fun e w' => e = .returned (.tuple #[]) ∧ XGrow S w w' g M N := by
  have HP := Aside0.mk h
  have hcnt := Nat.le_trans h.cnt hN
  have HM0 := Aside0.mk (Mk.nil (S := S) (Below.refl w.heap.size w))
  clear h
  go_enter Try.func51, Try.ntmps51
  go_wp2_with fail
  go_loopw [4, 5] (fun v i wr => ∃ (j : Nat) (xs : List S43) (Ao : Option Addr) (co : Nat), v = .slice Ao xs.length co ∧ j ≤ F.length ∧ i = .int .i64 j ∧ Aside0 (Mk S w wr (.slice Ao xs.length co) xs) ∧ Aside0 ((∀ x ∈ xs, FO M x) ∧ xs.length ≤ j)) (fun _ i _ => F.length - (intOf i).toNat)
  case atStart => exact ⟨0, [], none, 0, rfl, Nat.zero_le _, rfl, HM0, ⟨fun x hx => (by cases hx), Nat.le_refl _⟩⟩
  case round =>
    obtain ⟨j, xs, Ao, co, rfl, hj, rfl, HM, HX⟩ := hrel
    clear HM0
    have hB := HP.out.below HM.out.bel
    obtain ⟨⟨c0, -, -, -⟩, hfr⟩ := hB.at
    by_cases hlt : j < F.length
    case neg =>
      obtain rfl : j = F.length := by omega
      have f0 := hfr 0
      have HT := Aside0.mk (HP.out.turn HM.out HX.out.1 (Nat.le_trans HX.out.2 HP.out.cnt))
      clear hB hfr HM HX HP
      go_wp2_with fail
      go_end0
      exact ⟨rfl, HT.out⟩
    obtain ⟨ad, c', vd, hv, z0, z1, z2, hR⟩ := row_elem hB.row j hlt
    injection hv with hA _ hc'
    subst hA
    obtain ⟨Ad, cd, rfl⟩ := Kd.R_slice hR
    have hFO := HP.out.files F[j] (List.getElem_mem hlt)
    have HR := Aside0.mk hR
    have HFO := Aside0.mk hFO
    clear hc' hfr hB hR hFO
    generalize F[j] = x at z0 z1 z2 HR HFO
    by_cases hn : x.f0.toList = n.toList
    · have hne : (x.f0.toList == n.toList) = true := by simpa using hn
      have hne2 : (x.f0.toList != n.toList) = false := by simpa using hn
      clear z1 z2
      go_wp2_with fail
      exact ⟨⟨j + 1, xs, Ao, co, rfl, by omega, by go_num, HM, ⟨HX.out.1, by have := HX.out.2; omega⟩⟩, by simp [intOf]; omega⟩
    · have hne : (x.f0.toList == n.toList) = false := by simpa using hn
      have hne2 : (x.f0.toList != n.toList) = true := by simpa using hn
      have HXL := HX.out.2
      go_wp2_with (at_builtin; refine Kd.R_append k43 (w0 := w) 0 rfl (.tmp 25) (.tmp 33) 39 43 _ 48 rfl Try.underlying39 info_f43 rfl (by decide) (by decide) _ xs x [.string x.f0, .slice Ad x.f1.length cd, .int .i64 x.f2] (fun k => S k ∨ w.heap.size ≤ k) S rfl rfl (k43_mkM _ _ _ _ HR.out) (fun k hk => ⟨.inl hk, HM.out.fresh HP.out.bound k hk⟩) (fun k hk => .inr (Nat.le_trans HM.out.bel.size hk)) HM.out.row (below0 HM.out.bel) (Nat.zero_le _) (by omega) ?_; intro v1 w1 hR1 hB1 hG1 hat1; obtain ⟨A1, c1, rfl⟩ := Kd.R_slice hR1; have HM1 := Aside0.mk (HM.out.grow hR1 hG1 hat1); clear hR1 hB1 hG1 hat1)
      exact ⟨⟨j + 1, xs ++ [x], A1, c1, by rw [List.length_append]; rfl, by omega, by go_num, HM1, ⟨fun y hy => (List.mem_append.1 hy).elim (HX.out.1 y) (fun hy => by rw [List.mem_singleton] at hy; rw [hy]; exact HFO.out), by rw [List.length_append, List.length_singleton]; omega⟩⟩, by simp [intOf]; omega⟩
end Go.Proofs.Ytcejkfjjildngaa
end

section
/- the reference's order of names: that it ends -/
set_option linter.unusedVariables false
set_option linter.unusedSimpArgs false
set_option autoImplicit false
namespace Go.Proofs.Ytcejkfjjildngaa
open Go Go.RowKit Go.Proofs.YtcejkfjjildngaaW.PrintWords Go.Proofs.YtcejkfjjildngaaW.PrintLast Go.Proofs.Ytcejkfjjildngaa.G

theorem less_some (a b : ByteArray) (ha : a.size < 9223372036854775807) : ∀ (f i : Nat), i ≤ a.size → i ≤ b.size → i + f = a.size → ∃ r, rosetteref04_less.l0 (2 * f + 2) a b (i : Int) = some r := by
  intro f
  induction f with
  | zero =>
    intro i hi hj h
    rw [show 2 * 0 + 2 = (0 + 1) + 1 by omega, rosetteref04_less.l0, if_neg (by omega), rosetteref04_less.j1, if_neg (by decide)]
    exact ⟨_, rfl⟩
  | succ f ih =>
    intro i hi hj h
    have hw : wrap64 ((i : Int) + 1) = ((i + 1 : Nat) : Int) := by unfold wrap64; omega
    rw [show 2 * (f + 1) + 2 = (2 * f + 2 + 1) + 1 by omega, rosetteref04_less.l0, if_pos (by omega), rosetteref04_less.j1]
    by_cases hb : i < b.size
    · rw [if_pos (by simpa using hb), if_pos (by omega), if_pos (by omega), if_pos (by omega), hw]
      by_cases hxy : bt a i = bt b i
      · rw [if_pos hxy]
        exact ih (i + 1) (by omega) (by omega) (by omega)
      · rw [if_neg hxy]
        exact ⟨_, rfl⟩
    · rw [if_neg (by simpa using hb)]
      exact ⟨_, rfl⟩
theorem text_some (a b : ByteArray) (ha : a.size < 9223372036854775807) : ∃ k r, rosetteref04_Text.f k a b = some r := by
  obtain ⟨r, hr⟩ := less_some a b ha a.size 0 (Nat.zero_le _) (Nat.zero_le _) (by omega)
  refine ⟨2 * a.size + 2, ?_⟩
  unfold rosetteref04_Text.f
  have e : rosetteref04_less.f (2 * a.size + 2) a b = some r := hr
  rw [e]
  simp only [Option.bind_some]
  split
  · exact ⟨_, rfl⟩
  · split
    · exact ⟨_, rfl⟩
    · exact ⟨_, rfl⟩
end Go.Proofs.Ytcejkfjjildngaa
end

section
/- the reference's disk: put; that it ends, and what it leaves -/
set_option linter.unusedVariables false
set_option linter.unusedSimpArgs false
set_option autoImplicit false
namespace Go.Proofs.Ytcejkfjjildngaa
open Go Go.RowKit Go.Proofs.YtcejkfjjildngaaW.PrintWords Go.Proofs.YtcejkfjjildngaaW.PrintLast Go.Proofs.YtcejkfjjildngaaW.PrintMore Go.Proofs.Ytcejkfjjildngaa.G

theorem rr_take {α : Type} {Rr : α → List Value → Prop} {sz : Nat} {w : World} {A : Option Addr} {xs : List α} (h : ReadsRow Rr sz w A xs.length xs) (m : Nat) (hm : m ≤ xs.length) : ReadsRow Rr sz w A m (xs.take m) := by
  refine ⟨by rw [List.length_take]; omega, by have := h.2.1; omega, fun hp => ?_⟩
  obtain ⟨ad, e, hc⟩ := h.2.2 (by omega)
  refine ⟨ad, e, fun j p hj => hc j p ?_⟩
  rw [List.getElem?_take] at hj
  split at hj
  · exact hj
  · cases hj
theorem rr_drop {α : Type} {Rr : α → List Value → Prop} {sz : Nat} {w : World} {A : Option Addr} {xs : List α} {c : Nat} (h : ReadsRow Rr sz w A xs.length xs) (m : Nat) (hm : m ≤ xs.length) (hc : xs.length ≤ c) : ReadsRow Rr sz w (if c = m then A else A.map (·.add (m * sz))) (xs.length - m) (xs.drop m) := by
  refine ⟨List.length_drop, by have := h.2.1; omega, fun hp => ?_⟩
  obtain ⟨ad, rfl, hcell⟩ := h.2.2 (by omega)
  rw [if_neg (by omega)]
  refine ⟨ad.add (m * sz), rfl, fun j p hj => ?_⟩
  rw [List.getElem?_drop] at hj
  obtain ⟨cs, h1, h2, h3⟩ := hcell (m + j) p hj
  refine ⟨cs, h1, h2, fun i u hu => ?_⟩
  rw [add_add, show m * sz + (j * sz + i) = (m + j) * sz + i by rw [Nat.add_mul]; omega]
  exact h3 i u hu
theorem XP.rows {S : Nat → Prop} {w : World} {g : Nat} {F : List S43} {A : Option Addr} {c : Nat} {room left : Int} {is : Bool} {M N : Nat} (h : XP S w g F A c room left is M N) : F.length ≤ c ∧ ReadsRow (k43.M w 0 S) k43.sz w A F.length F := by
  obtain ⟨A', c', e, hl, hr⟩ := OwnRow.reads h.row.2
  injection e with e1 _ e3
  subst e1 e3
  exact ⟨hl, ⟨hr.1, hr.2.1, fun hp => by obtain ⟨ad, h1, h2⟩ := hr.2.2 hp; exact ⟨ad, h1, fun j p hj => by obtain ⟨cs, a1, a2, a3⟩ := h2 j p hj; exact ⟨cs, a1, k43.M_mono (fun k hk => hk.1) a2, a3⟩⟩⟩⟩
theorem Mk.new {S : Nat → Prop} {w W : World} (hb : Below w.heap.size w W) : Mk S w (W.alloc (.cells #[] 43 (0, 0))) (.slice (some ⟨W.heap.size, 0, none⟩) 0 0) [] := by
  refine ⟨⟨fun k hk => ?_, [], ?_, ?_⟩, fun k hk => ?_, hb.alloc hb.size _⟩
  · simp [Value.ownBlock] at hk; have := hb.size; exact .inr (by omega)
  · have h2 := World.ownsRow_lit (base := 0) (e := 43) (size := k43.sz) W #[] 0 (Nat.zero_le _) (by decide) (by simp)
    simpa using h2
  · exact ⟨rfl, fun j y hj => by simp at hj⟩
  · simp [Value.ownBlock] at hk; have := hb.size; omega
/-- a row of bytes in the footprint stays where only the disk's own block is written -/
theorem XP.data {S : Nat → Prop} {w w' : World} {g : Nat} {F : List S43} {A : Option Addr} {c : Nat} {room left : Int} {is : Bool} {M N : Nat} (h : XP S w g F A c room left is M N) {v : Value} {l : List Int} (hR : (Kd.int .u8).R 5 w 0 S v l) (hf : Fr (fun k => k = g) w w') : (Kd.int .u8).R 5 w' 0 S v l :=
  Kd.R_mono (Kd.R_move (Kd.R_types hR h.cells (by decide)) (fun k hk => hf.block k (h.bound k hk.1) hk.2)) (fun k hk => hk.1)
theorem XGrow.trans {S S1 : Nat → Prop} {a b d : World} {g M N : Nat} (hf : Fr (fun k => k = g) a b) (hs : ∀ k, S k → S1 k) (hs1 : ∀ k, S1 k → S k ∨ a.heap.size ≤ k) (h : XGrow S1 b d g M N) : XGrow S a d g M N := by
  obtain ⟨S2, h1, h2, h3, h4⟩ := h
  exact ⟨S2, h1, hf.trans h2 (fun k hk => .inl hk), fun k hk => h3 k (hs k hk), fun k hk => (h4 k hk).elim (hs1 k) (fun h => .inr (Nat.le_trans hf.size h))⟩
set_option maxRecDepth 100000 in
set_option maxHeartbeats 4000000 in
theorem xput {S : Nat → Prop} {w : World} {g : Nat} {F : List S43} {A : Option Addr} {c : Nat} {room left : Int} {is : Bool} {M N : Nat} (h : XP S w g F A c room left is M N) (x : S43) (vd : Value) (hR : (Kd.int .u8).R 5 w 0 S vd x.f1) (hx : FO M x) (hN : N ≤ 1000000) :
    Calls Try.prog 50 #[.pointer (some ⟨g, 0, none⟩), .agg #[.string x.f0, vd, .int .i64 x.f2]] w fun e w' => e = .returned (.tuple #[]) ∧ XGrow S w w' g M (N + 1) := by
  obtain ⟨Ad, cd, rfl⟩ := Kd.R_slice hR
  have hB0 : Below w.heap.size w (w.alloc (.cells #[.string x.f0, .slice Ad x.f1.length cd, .int .i64 x.f2] 43 (0, 0))) := (Below.refl w.heap.size w).alloc (Nat.le_refl _) _
  have h1 := h.below hB0
  have hR1 := Kd.R_below hR hB0
  have hx0 := heap_alloc_new w (.cells #[.string x.f0, .slice Ad x.f1.length cd, .int .i64 x.f2] 43 (0, 0))
  have HD := Aside0.mk (xdrop h1 x.f0 hN)
  have H1 := Aside0.mk (And.intro h1 (And.intro hR1 (And.intro hB0 (And.intro hx h.bound))))
  clear h hR h1 hR1 hB0
  have k0 := cell_of_row (j := 0) _ _ _ _ _ hx0
  clear k0
  go_enter Try.func50, Try.ntmps50
  go_wp2_with fail
  refine HD.out.mono ?_
  clear HD
  rintro e w2 ⟨rfl, S1, ⟨F1, A1, c1, room1, left1, is1, h2⟩, hf2, hs2, hs2'⟩
  obtain ⟨h1, hR1, hB1, hxx, hbd⟩ := H1.out
  clear H1
  have hx2 := (hf2.block w.heap.size (blk_lt hx0) (fun e => by have := hbd g h1.own; omega)).trans hx0
  have HX := Aside0.mk (And.intro (Kd.R_mono (h1.data hR1 hf2) hs2) (And.intro hxx (And.intro (Fr.trans (Fr.of_below hB1) hf2 (fun k hk => .inl hk)) (And.intro hs2 (fun k hk => (hs2' k hk).imp id (fun hh => (Nat.le_trans hB1.size hh : w.heap.size ≤ k)))))))
  have H2 := Aside0.mk h2
  have k0 := cell_of_row (j := 0) _ _ _ _ _ hx2
  have hcnt := Nat.le_trans h2.cnt hN
  clear h1 hR1 hB1 hxx hbd h2 hf2 hs2 hs2' hx0 hx
  go_wp2_with fail
  go_loopw [4] (fun i wr => ∃ j : Nat, j ≤ F1.length ∧ i = .int .i64 j ∧ Aside0 (Below w2.heap.size w2 wr)) (fun i _ => F1.length - (intOf i).toNat)
  case atStart => exact ⟨0, Nat.zero_le _, rfl, ⟨Below.refl _ _⟩⟩
  case round =>
    obtain ⟨j, hj, rfl, HB⟩ := hrel
    have hB := H2.out.below HB.out
    obtain ⟨⟨c0, -, -, -⟩, hfr⟩ := hB.at
    have hxw := (HB.out.block w.heap.size (blk_lt hx2)).trans hx2
    have kx := cell_of_row (j := 0) _ _ _ _ _ hxw
    by_cases hlt : j < F1.length
    case neg =>
      have hdl : decide ((j : Int) < (F1.length : Int)) = false := by simp; omega
      clear kx
      go_upto_region 3 with fail
      go_quiet (first | fail)
      go_upto_region 5 with fail
      have HBW := Aside0.mk (HB.out.trans (pw_below_drewN (Below.refl w2.heap.size wr) nq))
      clear c0 hfr hB hdl
      generalize wr.drewN nq = W at HBW ⊢

      have HM0 := Aside0.mk (Mk.new (S := S1) HBW.out)
      have hB0 := H2.out.below HM0.out.bel
      obtain ⟨⟨c0, -, -, -⟩, -⟩ := hB0.at
      have HRW := Aside0.mk hB0.rows
      have hjc : j ≤ c1 := Nat.le_trans hj HRW.out.1
      have hjn : ¬ (j : Int) < 0 := by omega
      have hjb : ¬ (j : Int) > (c1 : Int) := by omega
      clear hB0
      go_upto_region 6 with (at_builtin; refine Kd.R_append_rows k43 (w0 := w2) 0 rfl (.tmp 33) (.tmp 39) 39 43 _ 48 rfl Try.underlying39 info_f43 rfl (by decide) (by decide) _ [] (F1.take j) A1 j c1 (fun k => S1 k ∨ w2.heap.size ≤ k) S1 rfl rfl HM0.out.row (rr_take HRW.out.2 j hj) (fun _ _ h => h) (fun k hk => ⟨.inl hk, HM0.out.fresh H2.out.bound k hk⟩) (fun k hk => .inr (Nat.le_trans HM0.out.bel.size hk)) (below0 HM0.out.bel) (Nat.zero_le _) (by simp only [List.length_nil]; omega) ?_; intro v3 w3 hR3 hB3 hG3 hat3; rw [List.nil_append] at hR3; obtain ⟨X3, hX3⟩ : ∃ X, F1.take j = X := ⟨_, rfl⟩; rw [hX3] at hR3; have HX3 := Aside0.mk hX3; clear hX3; obtain ⟨A3, c3, rfl⟩ := Kd.R_slice hR3; have HM3 := Aside0.mk (HM0.out.grow hR3 hG3 hat3); clear hR3 hB3 hG3 hat3)
      have hx3 := (HM3.out.bel.block _ (blk_lt hx2)).trans hx2
      have k0 := cell_of_row (j := 0) _ _ _ _ _ hx3
      have k1 := cell_of_row (j := 1) _ _ _ _ _ hx3
      have k2 := cell_of_row (j := 2) _ _ _ _ _ hx3
      have HRx := Aside0.mk (Kd.R_below HX.out.1 HM3.out.bel)
      clear hx3 c0 HRW HM0
      go_upto_region 7 with (at_builtin; refine Kd.R_append k43 (w0 := w2) 0 rfl (.tmp 41) (.tmp 43) 39 43 _ 48 rfl Try.underlying39 info_f43 rfl (by decide) (by decide) _ X3 x [.string x.f0, .slice Ad x.f1.length cd, .int .i64 x.f2] (fun k => S1 k ∨ w2.heap.size ≤ k) S1 rfl rfl (k43_mkM _ _ _ _ HRx.out) (fun k hk => ⟨.inl hk, HM3.out.fresh H2.out.bound k hk⟩) (fun k hk => .inr (Nat.le_trans HM3.out.bel.size hk)) HM3.out.row (below0 HM3.out.bel) (Nat.zero_le _) (by rw [← HX3.out, List.length_take]; omega) ?_; intro v4 w4 hR4 hB4 hG4 hat4; obtain ⟨X4, hX4⟩ : ∃ X, X3 ++ [x] = X := ⟨_, rfl⟩; rw [hX4] at hR4; have HX4 := Aside0.mk hX4; clear hX4; obtain ⟨A4, c4, rfl⟩ := Kd.R_slice hR4; have HM4 := Aside0.mk (HM3.out.grow hR4 hG4 hat4); clear hR4 hB4 hG4 hat4)
      have hB4 := H2.out.below HM4.out.bel
      obtain ⟨⟨c0, -, -, -⟩, hfr⟩ := hB4.at
      have HRW := Aside0.mk hB4.rows
      have hjl : ¬ (j : Int) > (F1.length : Int) := by omega
      have hjm : j ≤ F1.length := hj
      clear hB4 hfr k0 k1 k2 HRx HM3
      have HFX := Aside0.mk (show X4.length ≤ j + 1 ∧ ∀ X5, X4 ++ F1.drop j = X5 → (∀ f ∈ X5, FO M f) ∧ X5.length ≤ N + 1 by
        have hlen : X4.length = j + 1 := by rw [← HX4.out, ← HX3.out, List.length_append, List.length_take, List.length_singleton]; omega
        refine ⟨by omega, fun X5 h5 => ⟨fun f hf => ?_, by rw [← h5, List.length_append, List.length_drop, hlen]; have := H2.out.cnt; omega⟩⟩
        rw [← h5, ← HX4.out, ← HX3.out] at hf
        rcases List.mem_append.1 hf with hf | hf
        · rcases List.mem_append.1 hf with hf | hf
          · exact H2.out.files f (List.mem_of_mem_take hf)
          · rw [List.mem_singleton] at hf
            rw [hf]
            exact HX.out.2.1
        · exact H2.out.files f (List.mem_of_mem_drop hf))
      go_wp2_with (at_builtin; refine Kd.R_append_rows k43 (w0 := w2) 0 rfl (.tmp 46) (.tmp 52) 39 43 _ 48 rfl Try.underlying39 info_f43 rfl (by decide) (by decide) _ X4 (F1.drop j) _ (F1.length - j) (c1 - j) (fun k => S1 k ∨ w2.heap.size ≤ k) S1 rfl rfl HM4.out.row (rr_drop HRW.out.2 j hjm HRW.out.1) (fun _ _ h => h) (fun k hk => ⟨.inl hk, HM4.out.fresh H2.out.bound k hk⟩) (fun k hk => .inr (Nat.le_trans HM4.out.bel.size hk)) (below0 HM4.out.bel) (Nat.zero_le _) (by have := HFX.out.1; omega) ?_; intro v5 w5 hR5 hB5 hG5 hat5; obtain ⟨X5, hX5⟩ : ∃ X, X4 ++ F1.drop j = X := ⟨_, rfl⟩; rw [hX5] at hR5; have HX5 := Aside0.mk hX5; clear hX5; obtain ⟨A5, c5, rfl⟩ := Kd.R_slice hR5; have HM5 := Aside0.mk (HM4.out.grow hR5 hG5 hat5); clear hR5 hB5 hG5 hat5; obtain ⟨⟨c5_, -, -, -⟩, hfr5⟩ := (H2.out.below HM5.out.bel).at; have f5 := hfr5 0; clear hfr5 c0; have HT := Aside0.mk (H2.out.turn HM5.out (HFX.out.2 X5 HX5.out).1 (HFX.out.2 X5 HX5.out).2))
      all_goals (go_end0; exact ⟨rfl, XGrow.trans HX.out.2.2.1 HX.out.2.2.2.1 HX.out.2.2.2.2 HT.out⟩)
    have hdl : decide ((j : Int) < (F1.length : Int)) = true := by simp; omega
    obtain ⟨ad, c', vd', hv, z0, z1, z2, hRj⟩ := row_elem hB.row j hlt
    injection hv with hA _ hc'
    subst hA
    have hnm := (H2.out.files F1[j] (List.getElem_mem hlt)).nm
    obtain ⟨kt, rt, ht⟩ := text_some F1[j].f0 x.f0 (by omega)
    have hT : ∀ n, Calls Try.prog 56 #[.string F1[j].f0, .string x.f0] (wr.drewN n) fun e w'' => e = .returned (.int .i64 rt) ∧ ∃ m, w'' = wr.drewN m := fun n => Calls.quiet_of ((rosetteref04_Text.calls kt _ _ rt _ ht).mono fun e w' h => ⟨h.1, h.2.out⟩)
    generalize F1[j] = y at z0 z1 z2 hRj hnm ht hT
    clear hRj hc' hnm ht hfr hB z1 z2
    go_upto_region 3 with fail
    go_quiet (first | (go_at_call 56; exact hT _))
    have HBW := Aside0.mk (HB.out.trans (pw_below_drewN (Below.refl w2.heap.size wr) nq))
    by_cases hr0 : rt < 0
    case pos =>
      have hr1 : decide (rt < 0) = true := by simpa using hr0
      clear c0 z0 hT
      go_wp2_with fail
      exact ⟨⟨j + 1, by omega, by go_num, HBW⟩, by simp [intOf]; omega⟩
    case neg =>
      have hr1 : decide (rt < 0) = false := by simpa using hr0
      clear z0 hT c0
      go_upto_region 5 with fail
      clear hdl
      generalize wr.drewN nq = W at HBW ⊢

      have HM0 := Aside0.mk (Mk.new (S := S1) HBW.out)
      have hB0 := H2.out.below HM0.out.bel
      obtain ⟨⟨c0, -, -, -⟩, -⟩ := hB0.at
      have HRW := Aside0.mk hB0.rows
      have hjc : j ≤ c1 := Nat.le_trans hj HRW.out.1
      have hjn : ¬ (j : Int) < 0 := by omega
      have hjb : ¬ (j : Int) > (c1 : Int) := by omega
      clear hB0
      go_upto_region 6 with (at_builtin; refine Kd.R_append_rows k43 (w0 := w2) 0 rfl (.tmp 33) (.tmp 39) 39 43 _ 48 rfl Try.underlying39 info_f43 rfl (by decide) (by decide) _ [] (F1.take j) (some ad) j c1 (fun k => S1 k ∨ w2.heap.size ≤ k) S1 rfl rfl HM0.out.row (rr_take HRW.out.2 j hj) (fun _ _ h => h) (fun k hk => ⟨.inl hk, HM0.out.fresh H2.out.bound k hk⟩) (fun k hk => .inr (Nat.le_trans HM0.out.bel.size hk)) (below0 HM0.out.bel) (Nat.zero_le _) (by simp only [List.length_nil]; omega) ?_; intro v3 w3 hR3 hB3 hG3 hat3; rw [List.nil_append] at hR3; obtain ⟨X3, hX3⟩ : ∃ X, F1.take j = X := ⟨_, rfl⟩; rw [hX3] at hR3; have HX3 := Aside0.mk hX3; clear hX3; obtain ⟨A3, c3, rfl⟩ := Kd.R_slice hR3; have HM3 := Aside0.mk (HM0.out.grow hR3 hG3 hat3); clear hR3 hB3 hG3 hat3)
      have hx3 := (HM3.out.bel.block _ (blk_lt hx2)).trans hx2
      have k0 := cell_of_row (j := 0) _ _ _ _ _ hx3
      have k1 := cell_of_row (j := 1) _ _ _ _ _ hx3
      have k2 := cell_of_row (j := 2) _ _ _ _ _ hx3
      have HRx := Aside0.mk (Kd.R_below HX.out.1 HM3.out.bel)
      clear hx3 c0 HRW HM0
      go_upto_region 7 with (at_builtin; refine Kd.R_append k43 (w0 := w2) 0 rfl (.tmp 41) (.tmp 43) 39 43 _ 48 rfl Try.underlying39 info_f43 rfl (by decide) (by decide) _ X3 x [.string x.f0, .slice Ad x.f1.length cd, .int .i64 x.f2] (fun k => S1 k ∨ w2.heap.size ≤ k) S1 rfl rfl (k43_mkM _ _ _ _ HRx.out) (fun k hk => ⟨.inl hk, HM3.out.fresh H2.out.bound k hk⟩) (fun k hk => .inr (Nat.le_trans HM3.out.bel.size hk)) HM3.out.row (below0 HM3.out.bel) (Nat.zero_le _) (by rw [← HX3.out, List.length_take]; omega) ?_; intro v4 w4 hR4 hB4 hG4 hat4; obtain ⟨X4, hX4⟩ : ∃ X, X3 ++ [x] = X := ⟨_, rfl⟩; rw [hX4] at hR4; have HX4 := Aside0.mk hX4; clear hX4; obtain ⟨A4, c4, rfl⟩ := Kd.R_slice hR4; have HM4 := Aside0.mk (HM3.out.grow hR4 hG4 hat4); clear hR4 hB4 hG4 hat4)
      have hB4 := H2.out.below HM4.out.bel
      obtain ⟨⟨c0, -, -, -⟩, hfr⟩ := hB4.at
      have HRW := Aside0.mk hB4.rows
      have hjl : ¬ (j : Int) > (F1.length : Int) := by omega
      have hjm : j ≤ F1.length := hj
      clear hB4 hfr k0 k1 k2 HRx HM3
      have HFX := Aside0.mk (show X4.length ≤ j + 1 ∧ ∀ X5, X4 ++ F1.drop j = X5 → (∀ f ∈ X5, FO M f) ∧ X5.length ≤ N + 1 by
        have hlen : X4.length = j + 1 := by rw [← HX4.out, ← HX3.out, List.length_append, List.length_take, List.length_singleton]; omega
        refine ⟨by omega, fun X5 h5 => ⟨fun f hf => ?_, by rw [← h5, List.length_append, List.length_drop, hlen]; have := H2.out.cnt; omega⟩⟩
        rw [← h5, ← HX4.out, ← HX3.out] at hf
        rcases List.mem_append.1 hf with hf | hf
        · rcases List.mem_append.1 hf with hf | hf
          · exact H2.out.files f (List.mem_of_mem_take hf)
          · rw [List.mem_singleton] at hf
            rw [hf]
            exact HX.out.2.1
        · exact H2.out.files f (List.mem_of_mem_drop hf))
      go_wp2_with (at_builtin; refine Kd.R_append_rows k43 (w0 := w2) 0 rfl (.tmp 46) (.tmp 52) 39 43 _ 48 rfl Try.underlying39 info_f43 rfl (by decide) (by decide) _ X4 (F1.drop j) _ (F1.length - j) (c1 - j) (fun k => S1 k ∨ w2.heap.size ≤ k) S1 rfl rfl HM4.out.row (rr_drop HRW.out.2 j hjm HRW.out.1) (fun _ _ h => h) (fun k hk => ⟨.inl hk, HM4.out.fresh H2.out.bound k hk⟩) (fun k hk => .inr (Nat.le_trans HM4.out.bel.size hk)) (below0 HM4.out.bel) (Nat.zero_le _) (by have := HFX.out.1; omega) ?_; intro v5 w5 hR5 hB5 hG5 hat5; obtain ⟨X5, hX5⟩ : ∃ X, X4 ++ F1.drop j = X := ⟨_, rfl⟩; rw [hX5] at hR5; have HX5 := Aside0.mk hX5; clear hX5; obtain ⟨A5, c5, rfl⟩ := Kd.R_slice hR5; have HM5 := Aside0.mk (HM4.out.grow hR5 hG5 hat5); clear hR5 hB5 hG5 hat5; obtain ⟨⟨c5_, -, -, -⟩, hfr5⟩ := (H2.out.below HM5.out.bel).at; have f5 := hfr5 0; clear hfr5 c0; have HT := Aside0.mk (H2.out.turn HM5.out (HFX.out.2 X5 HX5.out).1 (HFX.out.2 X5 HX5.out).2))
      all_goals (go_end0; exact ⟨rfl, XGrow.trans HX.out.2.2.1 HX.out.2.2.2.1 HX.out.2.2.2.2 HT.out⟩)
end Go.Proofs.Ytcejkfjjildngaa
end

section
/- the reference's disk: Remove, Rename -/
set_option linter.unusedVariables false
set_option linter.unusedSimpArgs false
set_option autoImplicit false
namespace Go.Proofs.Ytcejkfjjildngaa
open Go Go.RowKit Go.Proofs.YtcejkfjjildngaaW.PrintWords Go.Proofs.YtcejkfjjildngaaW.PrintLast Go.Proofs.YtcejkfjjildngaaW.PrintMore Go.Proofs.Ytcejkfjjildngaa.G

theorem XGrow.behind {S : Nat → Prop} {a b d : World} {g M N : Nat} (hf : Fr (fun k => k = g) a b) (h : XGrow S b d g M N) : XGrow S a d g M N := XGrow.trans hf (fun _ h => h) (fun _ h => .inl h) h
theorem XP.grow0 {S : Nat → Prop} {w w' : World} {g : Nat} {F : List S43} {A : Option Addr} {c : Nat} {room left : Int} {is : Bool} {M N : Nat} (h : XP S w' g F A c room left is M N) (hf : Fr (fun k => k = g) w w') : XGrow S w w' g M N := ⟨S, ⟨F, A, c, room, left, is, h⟩, hf, fun _ h => h, fun _ h => .inl h⟩
set_option maxRecDepth 100000 in
set_option maxHeartbeats 2000000 in
theorem xremove {S : Nat → Prop} {w : World} {g : Nat} {F : List S43} {A : Option Addr} {c : Nat} {room left : Int} {is : Bool} {M N : Nat} (h : XP S w g F A c room left is M N) (n : ByteArray) (hN : N ≤ 1000000) :
    Calls Try.prog 34 #[.pointer (some ⟨g, 0, none⟩), .string n] w fun e w' => IsInt e ∧ XGrow S w w' g M N := by
  have HC := Aside0.mk (xchange h n hN)
  have H := Aside0.mk h
  clear h
  go_enter Try.func34, Try.ntmps34
  go_wp2_with fail
  refine HC.out.mono ?_
  clear HC
  rintro e w1 ⟨i, y, rfl, -, rfl⟩
  by_cases hy : y = 0
  case neg =>
    have hy1 : (y == 0) = false := by simpa using hy
    have hy2 : (y != 0) = true := by simpa using hy
    go_wp2_with fail
    go_ret
    exact ⟨⟨_, rfl⟩, H.out.grow0 (Fr.refl _ _)⟩
  subst hy
  go_wp2_with fail
  refine (xspend H.out).mono ?_
  rintro e w2 ⟨⟨b, rfl⟩, left1, is1, h1, hf1⟩
  have H1 := Aside0.mk (And.intro h1 hf1)
  clear h1 hf1
  cases b with
  | false =>
    go_wp2_with fail
    go_ret
    exact ⟨⟨_, rfl⟩, H1.out.1.grow0 H1.out.2⟩
  | true =>
    go_wp2_with fail
    refine (xdrop H1.out.1 n hN).mono ?_
    rintro e w3 ⟨rfl, h2⟩
    have H2 := Aside0.mk (XGrow.behind H1.out.2 h2)
    clear h2
    go_wp2_with fail
    go_ret
    exact ⟨⟨_, rfl⟩, H2.out⟩
theorem XGrow.weak {S : Nat → Prop} {a d : World} {g M N M' N' : Nat} (h : XGrow S a d g M N) (hM : M ≤ M') (hN : N ≤ N') : XGrow S a d g M' N' := by
  obtain ⟨S', ⟨F, A, c, room, left, is, h1⟩, h2⟩ := h
  exact ⟨S', ⟨F, A, c, room, left, is, h1.weak hM hN⟩, h2⟩
set_option maxRecDepth 100000 in
set_option maxHeartbeats 4000000 in
theorem xrename {S : Nat → Prop} {w : World} {g : Nat} {F : List S43} {A : Option Addr} {c : Nat} {room left : Int} {is : Bool} {M N : Nat} (h : XP S w g F A c room left is M N) (n m : ByteArray) (hN : N ≤ 1000000) :
    Calls Try.prog 35 #[.pointer (some ⟨g, 0, none⟩), .string n, .string m] w fun e w' => IsInt e ∧ XGrow S w w' g M (N + 1) := by
  have HC := Aside0.mk (xchange h n hN)
  have H := Aside0.mk h
  clear h
  go_enter Try.func35, Try.ntmps35
  go_wp2_with fail
  refine HC.out.mono ?_
  clear HC
  rintro e w1 ⟨i, y, rfl, hi, rfl⟩
  have HI := Aside0.mk hi
  clear hi
  by_cases hy : y = 0
  case neg =>
    have hy1 : (y == 0) = false := by simpa using hy
    have hy2 : (y != 0) = true := by simpa using hy
    go_wp2_with fail
    go_ret
    exact ⟨⟨_, rfl⟩, (H.out.grow0 (Fr.refl _ _)).weak (Nat.le_refl _) (Nat.le_succ _)⟩
  subst hy
  obtain ⟨hi0, hi1⟩ := HI.out rfl
  clear HI
  obtain ⟨j, rfl⟩ : ∃ j : Nat, i = (j : Int) := ⟨i.toNat, by omega⟩
  have hj : j < F.length := by omega
  clear hi0 hi1
  by_cases hs1 : (m.size : Int) < 1
  case pos =>
    go_wp2_with fail
    go_ret
    exact ⟨⟨_, rfl⟩, (H.out.grow0 (Fr.refl _ _)).weak (Nat.le_refl _) (Nat.le_succ _)⟩
  by_cases hs2 : (m.size : Int) > 24
  case pos =>
    go_wp2_with fail
    go_ret
    exact ⟨⟨_, rfl⟩, (H.out.grow0 (Fr.refl _ _)).weak (Nat.le_refl _) (Nat.le_succ _)⟩
  go_wp2_with fail
  refine (xspend H.out).mono ?_
  rintro e w2 ⟨⟨b, rfl⟩, left1, is1, h1, hf1⟩
  have H1 := Aside0.mk (And.intro h1 hf1)
  cases b with
  | false =>
    clear h1 hf1
    go_wp2_with fail
    go_ret
    exact ⟨⟨_, rfl⟩, (H1.out.1.grow0 H1.out.2).weak (Nat.le_refl _) (Nat.le_succ _)⟩
  | true =>
    obtain ⟨ad, c', vd, hv, z0, z1, z2, hR⟩ := row_elem h1.row j hj
    injection hv with hA _ hc'
    subst hA
    obtain ⟨⟨c0, -, -, -⟩, -⟩ := h1.at
    have hFO := H1.out.1.files F[j] (List.getElem_mem hj)
    obtain ⟨Ad, cd, rfl⟩ := Kd.R_slice hR
    have HX := Aside0.mk (And.intro hR hFO)
    clear hR hFO hc' h1 hf1
    generalize F[j] = x at z0 z1 z2 HX
    go_upto_region 9 with fail
    have hB3 : Below w2.heap.size w2 (w2.alloc (.cells #[.string x.f0, .slice Ad x.f1.length cd, .int .i64 x.f2] 43 (0, 0))) := (Below.refl w2.heap.size w2).alloc (Nat.le_refl _) _
    have hx0 := heap_alloc_new w2 (.cells #[.string x.f0, .slice Ad x.f1.length cd, .int .i64 x.f2] 43 (0, 0))
    have H3 := Aside0.mk (And.intro (H1.out.1.below hB3) (And.intro (H1.out.2.trans (Fr.of_below hB3) (fun k hk => .inl hk)) (Kd.R_below HX.out.1 hB3)))
    have HGL := Aside0.mk (H1.out.1.bound g H1.out.1.own)
    clear hB3 z0 z1 z2 c0
    generalize (w2.alloc (.cells #[.string x.f0, .slice Ad x.f1.length cd, .int .i64 x.f2] 43 (0, 0))) = w3 at H3 hx0 ⊢
    by_cases hn : n.toList = m.toList
    case pos =>
      have hne : (n.toList == m.toList) = true := by simpa using hn
      have hne2 : (n.toList != m.toList) = false := by simpa using hn
      clear hx0
      go_wp2_with fail
      go_ret
      exact ⟨⟨_, rfl⟩, (H3.out.1.grow0 H3.out.2.1).weak (Nat.le_refl _) (Nat.le_succ _)⟩
    have hne : (n.toList == m.toList) = false := by simpa using hn
    have hne2 : (n.toList != m.toList) = true := by simpa using hn
    go_wp2_with fail
    refine (xdrop H3.out.1 n hN).mono ?_
    rintro e w4 ⟨rfl, S2, ⟨F2, A2, c2, room2, left2, is2, h4⟩, hf4, hs4, hs4'⟩
    have hx4 := (hf4.block w2.heap.size (blk_lt hx0) (fun e => by have := HGL.out; omega)).trans hx0
    have k1 := cell_of_row (j := 1) _ _ _ _ _ hx4
    have k2 := cell_of_row (j := 2) _ _ _ _ _ hx4
    have H4 := Aside0.mk (And.intro h4 (And.intro (Kd.R_mono (H3.out.1.data H3.out.2.2 hf4) hs4) (And.intro (H3.out.2.1.trans hf4 (fun k hk => .inl hk)) (And.intro hs4 (fun k hk => (hs4' k hk).imp id (fun hh => (Nat.le_trans H3.out.2.1.size hh : w1.heap.size ≤ k)))))))
    have HFO := Aside0.mk (show FO M (⟨m, x.f1, x.f2⟩ : S43) from ⟨HX.out.2.s0, HX.out.2.s1, HX.out.2.m, by show m.size ≤ 24; omega⟩)
    clear h4 hf4 hs4 hs4' hx4 hx0
    go_wp2_with fail
    refine (xput H4.out.1 ⟨m, x.f1, x.f2⟩ (.slice Ad x.f1.length cd) H4.out.2.1 HFO.out hN).mono ?_
    rintro e w5 ⟨rfl, h5⟩
    have H5 := Aside0.mk (XGrow.trans H4.out.2.2.1 H4.out.2.2.2.1 H4.out.2.2.2.2 h5)
    clear h5
    go_wp2_with fail
    go_ret
    exact ⟨⟨_, rfl⟩, H5.out⟩
end Go.Proofs.Ytcejkfjjildngaa
end

section
/- the reference's disk: New -/
set_option linter.unusedVariables false
set_option linter.unusedSimpArgs false
set_option autoImplicit false
namespace Go.Proofs.Ytcejkfjjildngaa
open Go Go.RowKit Go.Proofs.YtcejkfjjildngaaW.PrintWords Go.Proofs.YtcejkfjjildngaaW.PrintLast Go.Proofs.YtcejkfjjildngaaW.PrintMore Go.Proofs.Ytcejkfjjildngaa.G

theorem xnew_at (w : World) (r : Int) : XP (fun k => k = w.heap.size) (w.alloc (.cells #[.slice none 0 0, .int .i64 r, .int .i64 (-1), .bool false] 53 (0, 0))) w.heap.size [] none 0 r (-1) false 0 0 :=
  { bound := fun k hk => by subst hk; exact blk_lt (heap_alloc_new w _), own := rfl, cells := heap_alloc_new w _, row := Kd.R_nil _ _ _ _ _, files := fun f hf => absurd hf (by simp), cnt := Nat.le_refl _, left0 := by omega, left1 := by omega }
set_option maxRecDepth 100000 in
set_option maxHeartbeats 2000000 in
theorem xnew (r : Int) (w : World) : Calls Try.prog 11 #[.int .i64 r] w fun e w' => ∃ g, e = .returned (.pointer (some ⟨g, 0, none⟩)) ∧ XR (fun k => k = g) w' g 0 0 ∧ Below w.heap.size w w' ∧ w.heap.size ≤ g := by
  have fin : ∀ n : Int, XR (fun k => k = w.heap.size) (w.alloc (.cells #[.slice none 0 0, .int .i64 n, .int .i64 (-1), .bool false] 53 (0, 0))) w.heap.size 0 0 := fun n => ⟨[], none, 0, n, -1, false, xnew_at w n⟩
  have FIN := Aside0.mk fin
  clear fin
  go_enter Try.func11, Try.ntmps11
  go_wp2_with fail
  all_goals (go_ret; exact ⟨_, rfl, FIN.out _, (Below.refl w.heap.size w).alloc (Nat.le_refl _) _, Nat.le_refl _⟩)
end Go.Proofs.Ytcejkfjjildngaa
end
