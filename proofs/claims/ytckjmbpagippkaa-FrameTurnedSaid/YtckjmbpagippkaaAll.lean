/- frame.All: all that is framed, walked: a range over frame.frames. -/
import Derived.Test.YtckjmbpagippkaaRange
import Derived.Test.YtckjmbpagippkaaConcat
import Derived.Deep.RegionWith
import Derived.Test.YtckjmbpagippkaaG11
set_option linter.unusedVariables false
set_option linter.unusedSimpArgs false
set_option autoImplicit false
namespace Go.Proofs.Ytckjmbpagippkaa
open Go.RowKit Go.Shelf Go.Proofs.YtckjmbpagippkaaW.PrintWords Go.Proofs.YtckjmbpagippkaaW.PrintLast Go.Proofs.YtckjmbpagippkaaW.PrintMore Go.Proofs.Ytckjmbpagippkaa.G
attribute [local go_sem] Oper.semAt_some

/-- what a round is handed: where it ends; the slice; its bytes -/
structure It where
  e : Int
  v : Value
  b : List Int
inductive Walked (l : List Int) : List It → Nat → Prop
  | start : Walked l [] 0
  | more {pre : List It} {at_ : Nat} {v : Value} {x : List Int} {n : Int} : Walked l pre at_ → at_ < l.length → frame_Next.f (l.drop at_) = some (x, n, 0) → 0 < n → (at_ : Int) + n ≤ l.length → Walked l (pre ++ [⟨(at_ : Int) + n, v, x⟩]) (at_ + n.toNat)
theorem Walked.count {l : List Int} {pre : List It} {k : Nat} (h : Walked l pre k) : pre.length ≤ k := by
  induction h with
  | start => simp
  | more h1 h2 h3 h4 h5 ih => simp; omega
def Ended (l : List Int) (xs : List It) (er : Int) : Prop :=
  ∃ at_, Walked l xs at_ ∧ ((l.length ≤ at_ ∧ er = 0) ∨ (at_ < l.length ∧ er ≠ 0 ∧ ∃ x n, frame_Next.f (l.drop at_) = some (x, n, er)))
/-- the boxes of the caller and of the iterator, in their order behind n0 -/
structure Bx (n0 : Nat) (A0 : Option Addr) (c0 : Nat) (l : List Int) (w : World) (pre : List It) (er : Int) (W : World) : Prop where
  out : ∃ vo, W.heap[n0]? = some (.cells #[vo] 29 (0, 0)) ∧ W.ownsRow (n0 + 5) 22 1 vo pre.length (pre.map It.v)
  fin : W.heap[n0 + 1]? = some (.cells #[.int .i64 ((pre.getLast?.map It.e).getD 0)] 3 (0, 0))
  err : W.heap[n0 + 2]? = some (.cells #[.int .i64 er] 24 (0, 0))
  box : W.heap[n0 + 3]? = some (.cells #[.slice A0 l.length c0] 22 (0, 0))
  ptr : W.heap[n0 + 4]? = some (.cells #[.pointer (some ⟨n0 + 2, 0, none⟩)] 49 (0, 0))
  rows : ∀ y ∈ pre, W.ownsRow n0 5 1 y.v y.b.length (nums .u8 y.b)
  held : HeldB W (fun k => k < n0) A0 l
  below : Below n0 w W
  apart : pre.Pairwise (fun a b : It => a.v.ownBlock = none ∨ b.v.ownBlock ≠ a.v.ownBlock)

theorem one_cell {W : World} {b T : Nat} {x : Value} (h : W.heap[b]? = some (.cells #[x] T (0, 0))) : W.cell? ⟨b, 0, none⟩ = some x ∧ W.frozen? ⟨b, 0, none⟩ = false :=
  ⟨by rw [cell_of_row _ _ _ _ _ _ h]; rfl, frozen_of_row _ _ _ _ _ h⟩

theorem held_add {w : World} {S : Nat → Prop} {ad : Addr} {l : List Int} (h : HeldB w S (some ad) l) (k : Nat) : HeldB w S (some (ad.add k)) (l.drop k) := by
  intro h0
  rw [List.length_drop] at h0
  obtain ⟨ad', e1, e2, e3⟩ := h (by omega)
  cases e1
  refine ⟨_, rfl, by rw [add_block]; exact e2, fun j hj => ?_⟩
  rw [List.length_drop] at hj
  have e4 := e3 (k + j) (by omega)
  rw [add_add, e4]
  congr 2
  have e6 : ((k + j : Nat) : Int).toNat = k + j := by omega
  have e7 : ((j : Nat) : Int).toNat = j := by omega
  simp only [rd, List.getD_eq_getElem?_getD, e6, e7, List.getElem?_drop]
theorem setCell_self1 {W : World} {b T : Nat} {x : Value} (h : W.heap[b]? = some (.cells #[x] T (0, 0))) : W.setCell ⟨b, 0, none⟩ x = W := by
  rw [setCell_eq_setRow W b 0 #[x] T (0, 0) x h]
  exact setRow_self W b _ _ _ h
set_option maxRecDepth 100000 in
set_option maxHeartbeats 2000000 in
theorem frames_in (n0 : Nat) (A0 : Option Addr) (c0 : Nat) (l : List Int) (w : World) (hc0 : l.length ≤ c0) (hl : l.length ≤ 1000000) (hnext : ∀ k, ∃ x n er, frame_Next.f (l.drop k) = some (x, n, er) ∧ (er = 0 → 0 < n ∧ (k : Int) + n ≤ l.length))
    (yl : Nat) (J : List It → World → Prop) (W : World) (m : Nat) (hm : 3 ≤ m)
    (hJI : ∀ pre W1, J pre W1 → Bx n0 A0 c0 l w pre 0 W1) (hJg : ∀ pre W1 W2, J pre W1 → W1.grownBy W2 none → J pre W2)
    (hY : ∀ pre x W1, J pre W1 → (W1.ownsRow n0 5 1 x.v x.b.length (nums .u8 x.b) ∧ ∀ y ∈ pre, y.v.ownBlock = none ∨ x.v.ownBlock ≠ y.v.ownBlock) → pre.length < l.length → YieldAt Fence.wide (m - 1) Try.prog yl #[.int .i64 x.e, x.v] W1 fun e W' => e = .returned (.bool true) ∧ J (pre ++ [x]) W') (h0 : J [] W) :
    CallsIn Fence.wide m Try.prog 29 #[.func (.yield yl) #[] #[], .pointer (some ⟨n0 + 3, 0, none⟩), .pointer (some ⟨n0 + 4, 0, none⟩)] W fun e W' => (∃ v, e = .returned v) ∧ ∃ xs er W0, Ended l xs er ∧ J xs W0 ∧ W' = W0.setCell ⟨n0 + 2, 0, none⟩ (.int .i64 er) := by
  refine callsIn_of_wp Try.func29 rfl trivial ?_ rfl
  simp only [Try.ntmps29, List.size_toArray, List.length_cons, List.length_nil, Nat.reduceAdd, Nat.reduceSub, Array.replicate_succ, Array.replicate_zero, List.push_toArray, List.append_toArray, List.nil_append, List.cons_append]
  gi_wp2
  gi_loopw [4] (fun p wr => ∃ (pre : List It) (k : Nat), p = .int .i64 k ∧ k ≤ l.length ∧ Walked l pre k ∧ J pre wr) (fun p wr => l.length - (intOf p).toNat)
  case atStart => exact ⟨[], 0, rfl, Nat.zero_le _, .start, h0⟩
  case round =>
    obtain ⟨pre, k, rfl, hk, hW, hJ⟩ := hrel
    have hB := hJI _ _ hJ
    obtain ⟨b0, _⟩ := one_cell hB.box
    by_cases hlt : k < l.length
    · obtain ⟨ad, rfl⟩ : ∃ ad, A0 = some ad := by
        obtain ⟨ad, e, _, _⟩ := hB.held (by omega)
        exact ⟨ad, e⟩
      have f1 : (0 : Int) ≤ (k : Int) := by omega
      have f2 : (k : Int) ≤ (l.length : Int) := by omega
      have f3 : (k : Int) < (l.length : Int) := by omega
      have f4 : decide ((k : Int) < (l.length : Int)) = true := decide_eq_true f3
      obtain ⟨x, n, er, hnx, hpos⟩ := hnext k
      have hld : (l.drop k).length = l.length - k := by rw [List.length_drop]
      have hop := frame_Next.calls (some (ad.add k)) (c0 - k) (l.drop k) x n er wr ((held_add hB.held k).C (by rw [hld]; omega)) (by rw [hld]; omega) hnx
      rw [hld] at hop
      have HOP := Aside0.mk hop
      have HNX := Aside0.mk hnx
      have HPOS := Aside0.mk hpos
      have HJ := Aside0.mk hJ
      have HB := Aside0.mk hB
      have HWk := Aside0.mk hW
      clear hop hnx hpos hJ hB hW hld
      gi_wp2
      refine ⟨trivial, fun _ => by omega, ?_⟩
      refine (callsIn_wide.2 HOP.out).mono ?_
      rintro e W3 ⟨v3, rfl, hR, hBl⟩
      have hJ3 : J pre W3 := hJg pre wr W3 HJ.out ⟨hBl.os, hBl.tape, hBl.output, hBl.size, fun j hj _ => hBl.block j hj⟩
      have hB3 := hJI _ _ hJ3
      obtain ⟨b0, _⟩ := one_cell hB3.box
      obtain ⟨b1, _⟩ := one_cell hB3.ptr
      obtain ⟨b2, b3⟩ := one_cell hB3.err
      by_cases h0e : er = 0
      · subst h0e
        obtain ⟨hn, hkn⟩ := HPOS.out rfl
        have e3 := setCell_self1 hB3.err
        have hrow : W3.ownsRow n0 5 1 v3 x.length (nums .u8 x) := kd_own (Kd.R_lower hR (by have := lt_of_heap HB.out.ptr; omega))
        have hap : ∀ y ∈ pre, y.v.ownBlock = none ∨ v3.ownBlock ≠ y.v.ownBlock := fun y hy => by
          cases hk : y.v.ownBlock with
          | none => exact .inl rfl
          | some k =>
            refine .inr fun e => ?_
            have h1 := own_lt (HB.out.rows y hy) k hk
            have h2 := own_base (kd_own hR) k e
            omega
        obtain ⟨fn, tmps, assign, body, hy, hRd⟩ := hY pre ⟨(k : Int) + n, v3, x⟩ W3 hJ3 ⟨hrow, hap⟩ (by have := HWk.out.count; omega)
        have hw : IntKind.i64.wrap ((k : Int) + n) = (k : Int) + n := by rw [IntKind.wrap_i64]; omega
        dsimp only at hy
        gi_wp2
        refine ⟨fun _ => by omega, ?_⟩
        refine hRd.mono ?_
        rintro e W4 ⟨rfl, hJ4⟩
        gi_wp2
        exact ⟨⟨pre ++ [⟨(k : Int) + n, v3, x⟩], k + n.toNat, by congr 1; omega, by omega, .more HWk.out hlt HNX.out hn hkn, hJ4⟩, by simp [intOf]; omega⟩
      · have b4 : (er != 0) = true := by simp [h0e]
        have g := Aside0.mk h0e
        clear h0e
        gi_wp2
        refine bodyPost_ret (results_none rfl _ _ _) rfl ?_
        exact ⟨⟨_, rfl⟩, pre, er, W3, ⟨k, HWk.out, .inr ⟨hlt, g.out, x, n, HNX.out⟩⟩, hJ3, rfl⟩
    · obtain rfl : k = l.length := by omega
      gi_wp2
      go_end0
      exact ⟨⟨_, rfl⟩, pre, 0, wr, ⟨_, hW, .inl ⟨Nat.le_refl _, rfl⟩⟩, hJ, (setCell_self1 hB.err).symm⟩
theorem ownsRow_low {W : World} {b b' e s : Nat} {v : Value} {k : Nat} {xs : List Value} (h : W.ownsRow b e s v k xs) (hb : b' ≤ b) : W.ownsRow b' e s v k xs := by
  obtain ⟨h1, h2 | ⟨g, cap, cur, e1, e2, e3⟩⟩ := h
  · exact ⟨h1, .inl h2⟩
  · exact ⟨h1, .inr ⟨g, cap, cur, e1, Nat.le_trans hb e2, e3⟩⟩
theorem Bx.keep {n0 : Nat} {A0 : Option Addr} {c0 : Nat} {l : List Int} {w : World} {pre : List It} {er er' : Int} {W W' : World} (h : Bx n0 A0 c0 l w pre er W)
    (hk : ∀ j, j ≠ n0 + 2 → (∃ c T, W.heap[j]? = some (.cells c T (0, 0))) → W'.heap[j]? = W.heap[j]?) (he : W'.heap[n0 + 2]? = some (.cells #[.int .i64 er'] 24 (0, 0))) (hb : Below n0 w W') : Bx n0 A0 c0 l w pre er' W' := by
  have hrow : ∀ (b e : Nat) (v : Value) (k : Nat) (xs : List Value), e ≠ 24 → W.ownsRow b e 1 v k xs → W'.ownsRow b e 1 v k xs := by
    rintro b e v k xs hne ⟨h1, h2 | ⟨g, cap, cur, e1, e2, e3, e4, e5, e6, e7⟩⟩
    · exact ⟨h1, .inl h2⟩
    · refine ⟨h1, .inr ⟨g, cap, cur, e1, e2, ?_, e4, e5, e6, e7⟩⟩
      rw [hk g (fun hg => ?_) ⟨_, _, e3⟩]
      · exact e3
      · rw [hg, h.err] at e3
        cases e3
        exact hne rfl
  obtain ⟨vo, ho1, ho2⟩ := h.out
  refine ⟨⟨vo, by rw [hk _ (by omega) ⟨_, _, ho1⟩]; exact ho1, hrow _ _ _ _ _ (by decide) ho2⟩, by rw [hk _ (by omega) ⟨_, _, h.fin⟩]; exact h.fin, he, by rw [hk _ (by omega) ⟨_, _, h.box⟩]; exact h.box, by rw [hk _ (by omega) ⟨_, _, h.ptr⟩]; exact h.ptr, fun y hy => hrow _ _ _ _ _ (by decide) (h.rows y hy), ?_, hb, h.apart⟩
  exact h.held.keep fun k hk1 hk2 => by rw [hb.block k hk2, h.below.block k hk2]
theorem frames_mk (A0 : Option Addr) (n c0 : Nat) (p : Addr) (w : World) :
    CallsIn Fence.wide 7 Try.prog 23 #[.slice A0 n c0, .pointer (some p)] w fun e w' => e = .returned (.func (.func 29) #[] #[.pointer (some ⟨w.heap.size, 0, none⟩), .pointer (some ⟨w.heap.size + 1, 0, none⟩)]) ∧ w' = (w.alloc (.cells #[.slice A0 n c0] 22)).alloc (.cells #[.pointer (some p)] 49) := by
  refine callsIn_of_wp Try.func23 rfl trivial ?_ rfl
  simp only [Try.ntmps23, List.size_toArray, List.length_cons, List.length_nil, Nat.reduceAdd, Nat.reduceSub, Array.replicate_succ, Array.replicate_zero, List.push_toArray, List.append_toArray, List.nil_append, List.cons_append]
  gi_wp2
  go_ret
  exact ⟨rfl, rfl⟩
theorem alloc5 (w : World) (A B C D E : Obj) : (((((w.alloc A).alloc B).alloc C).alloc D).alloc E).heap[w.heap.size]? = some A ∧ (((((w.alloc A).alloc B).alloc C).alloc D).alloc E).heap[w.heap.size + 1]? = some B ∧ (((((w.alloc A).alloc B).alloc C).alloc D).alloc E).heap[w.heap.size + 2]? = some C ∧ (((((w.alloc A).alloc B).alloc C).alloc D).alloc E).heap[w.heap.size + 3]? = some D ∧ (((((w.alloc A).alloc B).alloc C).alloc D).alloc E).heap[w.heap.size + 4]? = some E ∧ Below w.heap.size w (((((w.alloc A).alloc B).alloc C).alloc D).alloc E) ∧ (((((w.alloc A).alloc B).alloc C).alloc D).alloc E).heap.size = w.heap.size + 5 := by
  have h : (((((w.alloc A).alloc B).alloc C).alloc D).alloc E).heap = ((((w.heap.push A).push B).push C).push D).push E := rfl
  have b1 := (Below.refl w.heap.size w).alloc (Nat.le_refl _) A
  have b2 := b1.alloc b1.size B
  have b3 := b2.alloc b2.size C
  have b4 := b3.alloc b3.size D
  rw [h]
  refine ⟨?_, ?_, ?_, ?_, ?_, b4.alloc b4.size E, by simp⟩
  · rw [Array.getElem?_push, if_neg (by simp; omega), Array.getElem?_push, if_neg (by simp; omega), Array.getElem?_push, if_neg (by simp; omega), Array.getElem?_push, if_neg (by simp), Array.getElem?_push, if_pos rfl]
  · rw [Array.getElem?_push, if_neg (by simp), Array.getElem?_push, if_neg (by simp), Array.getElem?_push, if_neg (by simp), Array.getElem?_push, if_pos (by simp)]
  · rw [Array.getElem?_push, if_neg (by simp), Array.getElem?_push, if_neg (by simp), Array.getElem?_push, if_pos (by simp)]
  · rw [Array.getElem?_push, if_neg (by simp), Array.getElem?_push, if_pos (by simp)]
  · rw [Array.getElem?_push, if_pos (by simp)]
theorem append_same {W w1 : World} {n0 : Nat} {vo : Value} {k : Nat} {xs : List Value} {tmp : Obj} (ho2 : W.ownsRow n0 22 1 vo k xs) (hgrow : (W.alloc tmp).grownBy w1 vo.ownBlock) (j : Nat) (c : Array Value) (T : TypeId) (hT : T ≠ 22) (hj : W.heap[j]? = some (.cells c T (0, 0))) :
    w1.heap[j]? = some (.cells c T (0, 0)) := by
  have hlt := lt_of_heap hj
  have hne : some j ≠ vo.ownBlock := by
    rcases ho2.2 with ⟨rfl, _⟩ | ⟨g, cap, cur, rfl, _, hgb, _⟩
    · simp [Value.ownBlock]
    · intro e
      have e2 : j = g := by simpa [Value.ownBlock] using e
      rw [e2, hgb] at hj
      cases hj
      exact hT rfl
  rw [hgrow.block j (by rw [World.size_alloc]; omega) hne, Below.heap_alloc _ _ _ hlt]
  exact hj
theorem load_slice (W : World) (b : Nat) (x : Value) (hc : W.cell? ⟨b, 0, none⟩ = some x) : (loadVar 29 ⟨b, 0, none⟩).run Try.prog W = .ok x W := by
  simp [loadVar, isAgg, run_underlying Try.underlying29, hc, go_sem]
theorem load_int (W : World) (b : Nat) (x : Value) (hc : W.cell? ⟨b, 0, none⟩ = some x) : (loadVar 3 ⟨b, 0, none⟩).run Try.prog W = .ok x W := by
  simp [loadVar, isAgg, run_underlying Try.underlying3, hc, go_sem]
theorem load_errno (W : World) (b : Nat) (x : Value) (hc : W.cell? ⟨b, 0, none⟩ = some x) : (loadVar 24 ⟨b, 0, none⟩).run Try.prog W = .ok x W := by
  simp [loadVar, isAgg, run_underlying Try.underlying24, hc, go_sem]
theorem results_ccc {fn : Func} {p q r : Tmp} {t u s : TypeId} (h : fn.results = #[.cell p t, .cell q u, .cell r s]) (tmps : Array Value) (P : Program) (w : World) (a b c : Addr) (x y z : Value)
    (ha : tmps.getD p undef = .pointer (some a)) (hb : tmps.getD q undef = .pointer (some b)) (hc : tmps.getD r undef = .pointer (some c)) (hx : (loadVar t a).run P w = .ok x w) (hy : (loadVar u b).run P w = .ok y w) (hz : (loadVar s c).run P w = .ok z w) :
    (results fn tmps).run P w = .ok (.tuple #[x, y, z]) w := by
  simp only [results, h]
  simp only [Array.getD_eq_getD_getElem?] at ha hb hc
  simp [Sem.run_bind, Result.andThen, ha, hb, hc, asAddr, hx, hy, hz]
theorem info22 : (Try.prog.info? 22).map (fun i => (i.zero, i.size, i.bytes)) = some (some (.slice none 0 0), 1, 24) := by kernel_rfl
set_option maxRecDepth 100000 in
set_option maxHeartbeats 2000000 in
theorem all_any (A0 : Option Addr) (c0 : Nat) (l : List Int) (w : World) (hr : (Kd.int .u8).C w A0 l.length l) (hc0 : l.length ≤ c0) (hl : l.length ≤ 1000000) (hnext : ∀ k, ∃ x n er, frame_Next.f (l.drop k) = some (x, n, er) ∧ (er = 0 → 0 < n ∧ (k : Int) + n ≤ l.length)) :
    Calls Try.prog 13 #[.slice A0 l.length c0] w fun e w' => ∃ xs er vo, e = .returned (.tuple #[vo, .int .i64 ((xs.getLast?.map It.e).getD 0), .int .i64 er]) ∧ Ended l xs er ∧ w'.ownsRow w.heap.size 22 1 vo xs.length (xs.map It.v) ∧ (∀ y ∈ xs, w'.ownsRow w.heap.size 5 1 y.v y.b.length (nums .u8 y.b)) ∧ xs.Pairwise (fun a b : It => a.v.ownBlock = none ∨ b.v.ownBlock ≠ a.v.ownBlock) ∧ Below w.heap.size w w' := by
  obtain ⟨i0, hi, hz0, hz1, hz2⟩ := info_parts info22
  refine (callsIn_wide (n := 8)).1 ?_
  refine callsIn_of_wp_marks Try.func13 rfl trivial ?_ rfl
  simp only [Try.ntmps13, List.size_toArray, List.length_cons, List.length_nil, Nat.reduceAdd, Nat.reduceSub, Array.replicate_succ, Array.replicate_zero, List.push_toArray, List.append_toArray, List.nil_append, List.cons_append]
  gi_wp2
  refine ⟨trivial, ?_⟩
  refine (frames_mk _ _ _ _ _).mono ?_
  rintro e w' ⟨rfl, rfl⟩
  obtain ⟨a1, a2, a3, a4, a5, hB5, hs5⟩ := alloc5 w (.cells #[.slice none 0 0] 29) (.cells #[.int .i64 0] 3) (.cells #[.int .i64 0] 24) (.cells #[.slice A0 l.length c0] 22) (.cells #[.pointer (some ⟨w.heap.size + 2, 0, none⟩)] 49)
  have hs3 : (((w.alloc (.cells #[.slice none 0 0] 29)).alloc (.cells #[.int .i64 0] 3)).alloc (.cells #[.int .i64 0] 24)).heap.size = w.heap.size + 3 := by simp
  rw [hs3]
  have h0 : Bx w.heap.size A0 c0 l w [] 0 (((((w.alloc (.cells #[.slice none 0 0] 29)).alloc (.cells #[.int .i64 0] 3)).alloc (.cells #[.int .i64 0] 24)).alloc (.cells #[.slice A0 l.length c0] 22)).alloc (.cells #[.pointer (some ⟨w.heap.size + 2, 0, none⟩)] 49)) :=
    ⟨⟨_, a1, World.ownsRow_nil _ _ _ _⟩, a2, a3, a4, a5, (fun y hy => by cases hy), ((HeldB.low hr).below hB5), hB5, List.Pairwise.nil⟩
  clear a1 a2 a3 a4 a5 hB5
  generalize hw5 : (((((w.alloc (.cells #[.slice none 0 0] 29)).alloc (.cells #[.int .i64 0] 3)).alloc (.cells #[.int .i64 0] 24)).alloc (.cells #[.slice A0 l.length c0] 22)).alloc (.cells #[.pointer (some ⟨w.heap.size + 2, 0, none⟩)] 49)) = w5 at h0 hs5 ⊢
  clear hw5
  gi_wp2
  have hlow : ∀ {X : World} {row : Option Nat} {Y : World}, X.grownBy Y row → (∀ r, row = some r → w5.heap.size ≤ r ∧ ∃ o : Obj, X.heap[r]? = some o ∧ o.isCells = false) → ∀ j : Nat, (∃ (c : Array Value) (T : TypeId), X.heap[j]? = some (Obj.cells c T (0, 0))) → Y.heap[j]? = X.heap[j]? := by
    rintro X row Y hg hrow j ⟨c, T, hj⟩
    refine hg.block j (lt_of_heap hj) (fun e => ?_)
    obtain ⟨_, o, ho, hc⟩ := hrow j e.symm
    rw [hj] at ho
    cases ho
    cases hc
  refine range_err rfl (by omega) (gf := 29) (lb := #[.pointer (some ⟨w.heap.size + 3, 0, none⟩), .pointer (some ⟨w.heap.size + 4, 0, none⟩)]) ?hg trivial (enters_of Try.func29 (by kernel_rfl) rfl)
    (encs := fun x : It => #[.int .i64 x.e, x.v]) (fun _ => rfl) (w.heap.size + 2) (by omega) (Ended l) (fun pre er W => Bx w.heap.size A0 c0 l w pre er W) ?own l.length (fun pre x W => W.ownsRow w.heap.size 5 1 x.v x.b.length (nums .u8 x.b) ∧ ∀ y ∈ pre, y.v.ownBlock = none ∨ x.v.ownBlock ≠ y.v.ownBlock) ?ownx ?err h0
    (fun yl J W hJI hJg hY hJ0 => frames_in w.heap.size A0 c0 l w hc0 hl hnext yl J W (8 - 1) (by omega) hJI hJg hY hJ0) ?a1 ?assign ?body ?done
  case hg => rfl
  case assign =>
    intro l1 x W K hK
    gi_wp2
    exact hK
  case own =>
    rintro ⟨pre, er⟩ X Y row h hg hrow
    refine Bx.keep h (fun j _ hj => hlow hg hrow j hj) ?_ (h.below.grown hg h.below.size (fun k e => by have := (hrow k e).1; omega))
    rw [hlow hg hrow _ ⟨_, _, h.err⟩]
    exact h.err
  case ownx =>
    rintro ⟨pre, x⟩ X Y row ⟨⟨h1, h2 | ⟨g, cap, cur, e1, e2, e3, e4, e5, e6, e7⟩⟩, hap⟩ hg hrow
    · exact ⟨⟨h1, .inl h2⟩, hap⟩
    · refine ⟨⟨h1, .inr ⟨g, cap, cur, e1, e2, ?_, e4, e5, e6, e7⟩⟩, hap⟩
      rw [hlow hg hrow _ ⟨_, _, e3⟩]
      exact e3
  case err =>
    intro pre er W h
    refine Bx.keep h (fun j hj _ => heap_setCell_other _ _ _ _ (by simpa using hj)) ?_ (h.below.setCell (p := ⟨w.heap.size + 2, 0, none⟩) (by simp) _)
    rw [heap_setCell_same _ _ _ _ _ _ h.err]
    rfl
  case body =>
    rintro l1 pre ⟨xe, xv, xb⟩ W h ⟨hx, hap⟩ hN
    simp only at hx hap
    have HAP := Aside0.mk hap
    clear hap
    obtain ⟨Ax, nx, cx, rfl⟩ : ∃ A n c, xv = .slice A n c := by rcases hx.2 with ⟨h, _⟩ | ⟨_, _, _, h, _⟩ <;> exact ⟨_, _, _, h⟩
    obtain ⟨vo, ho1, ho5⟩ := h.out
    have ho2 := ownsRow_low ho5 (b' := w.heap.size) (by omega)
    have hsz5 := lt_of_heap h.ptr
    have hv : Boxed W w.heap.size 29 vo := ho1
    have hc := hv.cell
    have hszW := h.below.size
    have HH := Aside0.mk h
    have HX := Aside0.mk hx
    clear h hx
    gi_wp2_with (gi_at_builtin; refine wpListIn_append_own _ rfl _ _ 29 rfl (w.heap.size + 5) 22 i0 (.slice none 0 0) 1 24 Try.underlying29 hi hz0 hz1 hz2 rfl (by decide) _ _ _ rfl (ho5.alloc _) ⟨W.heap.size, 0, none⟩ 1 1 [.slice Ax nx cx] rfl rfl (cell_one_new _ _ _) (by simp [Value.oneCell']) (by unfold maxLen; omega) (by omega) (by simp; omega) ?_; intro v' w1 hown' hgrow _; obtain ⟨g', cap', rfl⟩ := ownsRow_succ hown'; have hown5 := hown'; replace hown' := ownsRow_low hown' (b' := w.heap.size) (by omega); obtain ⟨hv1, hv2, hr2, hk2, hb2⟩ := hv.appended (by decide) ho2 hszW (Nat.le_refl _) hown' hgrow; have hc1 := hv1.cell; have hf1 := hv1.frozen; have hs1 := append_same ho2 hgrow; obtain ⟨hc2, hf2⟩ := one_cell (hs1 _ _ _ (by decide) HH.out.fin))
    have h := HH.out
    have hx := HX.out
    have hvb := hv2
    have hsame : ∀ (j : Nat) (c : Array Value) (T : TypeId), j ≠ w.heap.size → j ≠ w.heap.size + 1 → T ≠ 22 → W.heap[j]? = some (Obj.cells c T (0, 0)) → ((w1.setCell ⟨w.heap.size, 0, none⟩ (.slice (some ⟨g', 0, none⟩) (pre.length + 1) cap')).setCell ⟨w.heap.size + 1, 0, none⟩ (.int .i64 xe)).heap[j]? = some (Obj.cells c T (0, 0)) := fun j c T h1 h2 h3 h4 => by
      rw [heap_setCell_other _ _ _ _ (by simpa using h2), heap_setCell_other _ _ _ _ (by simpa using h1)]
      exact hs1 j c T h3 h4
    have hbelow : Below w.heap.size w ((w1.setCell ⟨w.heap.size, 0, none⟩ (.slice (some ⟨g', 0, none⟩) (pre.length + 1) cap')).setCell ⟨w.heap.size + 1, 0, none⟩ (.int .i64 xe)) := (h.below.trans hb2).setCell (p := ⟨w.heap.size + 1, 0, none⟩) (by simp) _
    have hrow5 : ∀ (y : It), W.ownsRow w.heap.size 5 1 y.v y.b.length (nums .u8 y.b) → ((w1.setCell ⟨w.heap.size, 0, none⟩ (.slice (some ⟨g', 0, none⟩) (pre.length + 1) cap')).setCell ⟨w.heap.size + 1, 0, none⟩ (.int .i64 xe)).ownsRow w.heap.size 5 1 y.v y.b.length (nums .u8 y.b) := by
      rintro y ⟨h1, h2 | ⟨g, cap, cur, e1, e2, e3, e4, e5, e6, e7⟩⟩
      · exact ⟨h1, .inl h2⟩
      · refine ⟨h1, .inr ⟨g, cap, cur, e1, e2, hsame g _ _ ?_ ?_ (by decide) e3, e4, e5, e6, e7⟩⟩
        · intro e; rw [e, ho1] at e3; cases e3
        · intro e; rw [e, h.fin] at e3; cases e3
    have hfinB : Boxed (w1.setCell ⟨w.heap.size, 0, none⟩ (.slice (some ⟨g', 0, none⟩) (pre.length + 1) cap')) (w.heap.size + 1) 3 (.int .i64 ((pre.getLast?.map It.e).getD 0)) := by
      show (w1.setCell _ _).heap[w.heap.size + 1]? = _
      rw [heap_setCell_other _ _ _ _ (by simp)]
      exact hs1 _ _ _ (by decide) h.fin
    refine ⟨(hk2.trans (KeepsOthers.setCell _ _ _)).from _, ⟨⟨.slice (some ⟨g', 0, none⟩) (pre.length + 1) cap', ?_, ?_⟩, ?_, hsame _ _ _ (by omega) (by omega) (by decide) h.err, ?_, hsame _ _ _ (by omega) (by omega) (by decide) h.ptr, ?_, ?_, hbelow, ?_⟩⟩
    · rw [heap_setCell_other _ _ _ _ (by simp)]
      exact hv2
    · have k1 := hown5.kept (grownBy_setCell' w1 w.heap.size (.slice (some ⟨g', 0, none⟩) (pre.length + 1) cap')) (.inr (hv1.not_row (by decide) hown').symm)
      have := k1.kept (grownBy_setCell' _ (w.heap.size + 1) (.int .i64 xe)) (.inr (hfinB.not_row (by decide) hr2).symm)
      simpa using this
    · have := hfinB.set (.int .i64 xe)
      simpa [Boxed] using this
    · rw [heap_setCell_other _ _ _ _ (by simp), heap_setCell_other _ _ _ _ (by simp)]
      have hne : some (w.heap.size + 3) ≠ vo.ownBlock := by
        rcases ho5.2 with ⟨rfl, _⟩ | ⟨g, cap, cur, rfl, hge, hgb, _⟩
        · simp [Value.ownBlock]
        · intro e
          have e2 : w.heap.size + 3 = g := by simpa [Value.ownBlock] using e
          omega
      have hlt3 := lt_of_heap h.box
      rw [hgrow.block _ (by rw [World.size_alloc]; omega) hne, Below.heap_alloc _ _ _ hlt3]
      exact h.box
    · intro y hy
      rcases List.mem_append.1 hy with hy | hy
      · exact hrow5 y (h.rows y hy)
      · simp only [List.mem_singleton] at hy
        rw [hy]
        exact hrow5 _ hx
    · exact h.held.keep fun k hk1 hk2 => by rw [hbelow.block k hk2, h.below.block k hk2]
    · refine List.pairwise_append.2 ⟨h.apart, List.pairwise_singleton _ _, fun a ha b hb => ?_⟩
      simp only [List.mem_singleton] at hb
      rw [hb]
      exact HAP.out a ha
  case done =>
    rintro D xs er W hD hE h hK
    obtain ⟨vo, ho1, ho5⟩ := h.out
    have ho2 := ownsRow_low ho5 (b' := w.heap.size) (by omega)
    obtain ⟨c1, d1⟩ := one_cell ho1
    obtain ⟨c2, d2⟩ := one_cell h.fin
    obtain ⟨c3, d3⟩ := one_cell h.err
    obtain ⟨Ao, no, co, rfl⟩ : ∃ A n c, vo = .slice A n c := by rcases ho2.2 with ⟨h, _⟩ | ⟨_, _, _, h, _⟩ <;> exact ⟨_, _, _, h⟩
    gi_wp2
    refine wpIn_wide.2 ?_
    have hd1 := setCell_self1 (W := W.drew) ho1
    have hd2 := setCell_self1 (W := W.drew) h.fin
    have hd3 := setCell_self1 (W := W.drew) h.err
    go_region_with (fail)
    all_goals gi_wp2
    all_goals refine ⟨by simp, .inl ⟨_, _, rfl, run_takeDeferred (show W.drew.heap[D]? = _ from hK), ?_⟩⟩
    all_goals refine ⟨_, results_ccc (P := Try.prog) (w := W.drew.putObj D (.deferred none)) rfl _ ⟨w.heap.size, 0, none⟩ ⟨w.heap.size + 1, 0, none⟩ ⟨w.heap.size + 1 + 1, 0, none⟩ (.slice Ao no co) (.int .i64 ((xs.getLast?.map It.e).getD 0)) (.int .i64 er) rfl rfl rfl (load_slice _ _ _ ?_) (load_int _ _ _ ?_) (load_errno _ _ _ ?_), xs, er, .slice Ao no co, rfl, hE, ?_, ?_, h.apart, ?_⟩
    all_goals first
      | exact (one_cell ((World.putObj_heap_other (w := W.drew) (by omega)).trans ho1)).1
      | exact (one_cell ((World.putObj_heap_other (w := W.drew) (by omega)).trans h.fin)).1
      | exact (one_cell ((World.putObj_heap_other (w := W.drew) (by omega)).trans h.err)).1
      | exact ownsRow_putObj (W := W.drew) ho2 _ hK rfl
      | exact fun y hy => ownsRow_putObj (W := W.drew) (h.rows y hy) _ hK rfl
      | exact (below_drew h.below).trans (belowK_b (w := w) (Nat.le_refl _) W.drew D _ _ (by omega) hK rfl rfl)
end Go.Proofs.Ytckjmbpagippkaa
