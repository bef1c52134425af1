/- The statement EventLess over numbers and lists: a part of a right event is right, in its order. -/
import Derived.Test.YtmbpgebboppkmaaZEventLess0
import Derived.Deep.Slices
import Derived.DataReads
import Derived.ChangeShapes
import Derived.WideLaws
import Derived.SizedLaws
import Derived.Test.YtmbpgebboppkmaaProg
import Derived.Test.YtmbpgebboppkmaaRows
import Derived.WalkKit
import Derived.ProofKit
import Derived.OpenShut
import Derived.ShutString
import Derived.ChangeOld
import Derived.Below
import Derived.Lib.SmallJoins
section
/- which events are right; plain laws -/
set_option linter.unusedVariables false
set_option linter.unusedSimpArgs false
set_option autoImplicit false
namespace Go.Proofs.Ytmbpgebboppkmaa
open Go Go.RowKit Go.Shelf Go.Sort Go.Proofs.YtmbpgebboppkmaaW.PrintWords Go.Proofs.YtmbpgebboppkmaaW.PrintLast Go.Proofs.Ytmbpgebboppkmaa.G

theorem rdA (l : List S32) (i : Nat) (hi : i < l.length) : rd_T32 l (i : Int) = l[i] := by simp [rd_T32, List.getD_eq_getElem?_getD, hi]
theorem sortedTo_iff (l : List S32) : ∀ n, n < l.length ∨ n = 0 → (sortedTo l n = true ↔ ∀ i, i < n → ltOf cmpN (rd_T32 l ((i + 1 : Nat) : Int)) (rd_T32 l (i : Int)) = false) := by
  intro n
  induction n with
  | zero => intro _; exact ⟨fun _ i hi => by omega, fun _ => rfl⟩
  | succ n ih =>
    intro hn
    rw [sortedTo]
    have e : nameLt (rd_T32 l ((n + 1 : Nat) : Int)) (rd_T32 l (n : Int)) = ltOf cmpN (rd_T32 l ((n + 1 : Nat) : Int)) (rd_T32 l (n : Int)) := rfl
    rw [e]
    by_cases h : ltOf cmpN (rd_T32 l ((n + 1 : Nat) : Int)) (rd_T32 l (n : Int)) = true
    · rw [if_pos h]
      exact ⟨fun hh => absurd hh (by decide), fun hh => absurd (hh n (by omega)) (by rw [h]; decide)⟩
    · rw [if_neg h, ih (by omega)]
      refine ⟨fun hh i hi => ?_, fun hh i hi => hh i (by omega)⟩
      by_cases hin : i = n
      · subst hin; simpa using h
      · exact hh i (by omega)
theorem sorted_ord (l : List S32) : sortedE l = true ↔ OrdN l := by
  unfold sortedE
  rw [sortedTo_iff l (l.length - 1) (by omega)]
  unfold OrdN
  rw [List.pairwise_iff_getElem]
  constructor
  · intro h i j hi hj hij
    have hg : ∀ d, ∀ j (hj : j < l.length), j = i + 1 + d → ltOf cmpN l[j] l[i] = false := by
      intro d
      induction d with
      | zero =>
        intro j hj e
        subst e
        have := h i (by omega)
        rw [rdA l i hi, rdA l (i + 1) hj] at this
        exact this
      | succ d ih =>
        intro j hj e
        subst e
        have h1 := ih (i + 1 + d) (by omega) rfl
        have h2 := h (i + 1 + d) (by omega)
        rw [rdA l (i + 1 + d) (by omega), rdA l (i + 1 + d + 1) (by omega)] at h2
        exact swoN.ntrans _ _ _ h2 h1
    exact hg (j - (i + 1)) j hj (by omega)
  · intro h i hi
    have := h i (i + 1) (by omega) (by omega) (by omega)
    rw [rdA l i (by omega), rdA l (i + 1) (by omega)]
    exact this
theorem addG_full : ∀ (l : List S32) (ns : List ByteArray), (l.map (·.f0)).Nodup → (∀ x ∈ l, x.f0 ∉ ns) → (l.foldl (fun ns x => addG ns x.f0) ns).length = ns.length + l.length := by
  intro l
  induction l with
  | nil => intro ns _ _; simp
  | cons x l ih =>
    intro ns hn hd
    rw [List.map_cons, List.nodup_cons] at hn
    have hg : addG ns x.f0 = ns ++ [x.f0] := by unfold addG; rw [if_neg (hd x (by simp))]
    rw [List.foldl_cons, hg, ih (ns ++ [x.f0]) hn.2 (fun y hy hm => ?_)]
    · simp; omega
    · rcases List.mem_append.1 hm with h | h
      · exact hd y (by simp [hy]) h
      · rw [List.mem_singleton] at h
        exact hn.1 (List.mem_map.2 ⟨y, hy, h⟩)
theorem nodup_twice {l : List S32} (h : (l.map (·.f0)).Nodup) : twiceE l = false := by
  unfold twiceE namesD
  rw [addG_full l [] h (fun x _ => by simp)]
  simp
theorem right_iff (l : List S32) : rightE l = true ↔ l.length ≤ 24 ∧ l.any wrongA = false ∧ OrdN l ∧ (l.map (·.f0)).Nodup := by
  unfold rightE
  simp only [Bool.and_eq_true, Bool.not_eq_true', decide_eq_true_eq]
  rw [sorted_ord]
  exact ⟨fun ⟨a, b, c, d⟩ => ⟨a, b, c, twice_nodup d⟩, fun ⟨a, b, c, d⟩ => ⟨a, b, c, nodup_twice d⟩⟩
theorem right_sub {l m : List S32} (h : rightE l = true) (hs : m.Sublist l) : rightE m = true := by
  obtain ⟨a, b, c, d⟩ := (right_iff l).1 h
  refine (right_iff m).2 ⟨Nat.le_trans hs.length_le a, ?_, List.Pairwise.sublist hs c, (hs.map _).nodup d⟩
  rw [List.any_eq_false] at b ⊢
  exact fun x hx => b x (hs.subset hx)
theorem toL_inj {a b : ByteArray} (e : a.toList = b.toList) : a = b := by
  rw [ByteArray.toList_eq, ByteArray.toList_eq] at e
  have h := Array.toList_inj.1 e
  cases a; cases b; simp at h; rw [h]
theorem get_none {l : List S32} {n : ByteArray} (h : n ∉ l.map (·.f0)) : event_Get.f l n = some (0, 0, ⟨#[]⟩, false) := by
  have : l.find? (fun a => a.f0.toList == n.toList) = none := by
    rw [List.find?_eq_none]
    intro x hx hh
    exact h (List.mem_map.2 ⟨x, hx, toL_inj (by simpa using hh)⟩)
  unfold event_Get.f
  rw [this]
theorem get_mem {l : List S32} (hn : (l.map (·.f0)).Nodup) {x : S32} (hx : x ∈ l) : event_Get.f l x.f0 = some (x.f1.f0, x.f1.f1, x.f1.f2, true) := by
  unfold event_Get.f
  cases hf : l.find? (fun a => a.f0.toList == x.f0.toList) with
  | none =>
    rw [List.find?_eq_none] at hf
    exact absurd (by simp) (hf x hx)
  | some a =>
    have h1 := List.mem_of_find?_eq_some hf
    have h2 := List.find?_some hf
    obtain rfl := name_inj hn h1 hx (toL_inj (by simpa using h2))
    rfl
end Go.Proofs.Ytmbpgebboppkmaa
end

section
/- The statement EventLess over numbers and lists: a part of a right event is right, in its order. -/
namespace Go.Proofs.Ytmbpgebboppkmaa.Pure
open Go.RowKit Go.Proofs.Ytmbpgebboppkmaa Go.Proofs.Ytmbpgebboppkmaa.G Go.Proofs.YtmbpgebboppkmaaW.PrintWords Go.Proofs.YtmbpgebboppkmaaW.PrintLast

theorem EventLess : rosettelaw05_EventLess.Pure := by
  intro l0 a1 he _
  unfold rosettelaw05_EventLess.f
  refine lawF_some (e := l0) he (fun _ => lessOK l0 a1) _ (fun _ => ⟨0, fun k _ => ?_⟩)
  intro hr h0 h1
  obtain ⟨n, rfl⟩ : ∃ n : Nat, a1 = (n : Int) := ⟨a1.toNat, by omega⟩
  have hn : n < l0.length := by omega
  rw [Int.toNat_natCast, rdA l0 n hn]
  obtain ⟨_, _, _, hd⟩ := (right_iff l0).1 hr
  refine ⟨right_sub hr (less_sub l0 n), get_none ?_, get_mem hd (List.getElem_mem hn)⟩
  have hp : (l0.map (·.f0)).Perm (l0[n].f0 :: (lessE l0 n).map (·.f0)) := by
    have e : l0 = l0.take n ++ l0[n] :: l0.drop (n + 1) := by rw [← List.drop_eq_getElem_cons hn, List.take_append_drop]
    have h2 : l0.Perm (l0[n] :: lessE l0 n) := by
      conv => lhs; rw [e]
      exact List.perm_middle
    exact h2.map _
  exact (List.nodup_cons.1 (hp.nodup_iff.1 hd)).1
end Go.Proofs.Ytmbpgebboppkmaa.Pure
end

section
/- What comes in, opened kind by kind: a datum that is read whole reads as a list, a structure, a number; and no slice and no text of it is longer than the form's reach. -/
set_option linter.unusedVariables false
set_option linter.unusedSimpArgs false
set_option autoImplicit false
namespace Go.Proofs.Ytmbpgebboppkmaa.Op
open Go.RowKit Go.Deep Go.ChangeShapes Go.WideShapes Go.Proofs.YtmbpgebboppkmaaW.PrintWords

section
variable {H α β : Type} (enc : TypeId × Value → H) (P : Program) (W : World)
/-- no part of a datum is longer than the reach -/
def Lite (P : Program) (t : TypeId) (d : DataW H) : Prop := ∀ n ∈ d.weights P t, n ≤ 140737488351232
/-- whatever is read at type t, and is no longer than the reach, is of the kind d, and good -/
def Opens (t : TypeId) (d : Kd α) (good : α → Prop) : Prop :=
  ∀ fuel (cs : List Value) x, DataW.trod enc P W 0 (fun _ => true) true fuel t cs = some x → Lite P t x.1 → ∃ a, d.K W a cs ∧ good a
def OpensF (fs : List Field) (o : Nat) (d : Kd α) (good : α → Prop) : Prop :=
  ∀ fuel (cs : List Value) xs, (fs.mapM fun f => DataW.trod enc P W 0 (fun _ => true) true fuel f.type ((cs.drop f.offset).take (P.cellsOf f.type))) = some xs → (∀ n ∈ DataW.weightsEach P (fs.map (·.type)) (xs.map (·.1)), n ≤ 140737488351232) → cs.length = o + d.sz → ∃ a, d.K W a (cs.drop o) ∧ good a
variable {enc P W}
theorem opens_int {t : TypeId} {k : IntKind} (ht : P.underlying t = some (.int k)) : Opens enc P W t (Kd.int k) (fun n => (Lit.int k n).wf = true) := by
  intro fuel cs x h _
  obtain ⟨n, h1, _, h2⟩ := DataW.trod_int ht h
  exact ⟨n, h1, h2⟩
theorem opens_bool {t : TypeId} (ht : P.underlying t = some .bool) : Opens enc P W t Kd.bool (fun _ => True) := by
  intro fuel cs x h _
  obtain ⟨n, h1, _⟩ := DataW.trod_bool ht h
  exact ⟨n, h1, trivial⟩
theorem opens_str {t : TypeId} (ht : P.underlying t = some .string) : Opens enc P W t Kd.string (fun s => s.size ≤ 140737488351232) := by
  intro fuel cs x h hl
  obtain ⟨s, h1, h2, _⟩ := DataW.trod_string ht h
  refine ⟨s, h1, ?_⟩
  rw [h2] at hl
  have := hl s.data.toList.length (by simp [DataW.weights])
  rw [Array.length_toList] at this
  exact this
theorem weightsAll_mem {e : TypeId} : ∀ {ds : List (DataW H)} {d : DataW H}, d ∈ ds → ∀ n ∈ d.weights P e, n ∈ DataW.weightsAll P e ds := by
  intro ds
  induction ds with
  | nil => intro d h; cases h
  | cons y ys ih =>
    intro d h n hn
    rw [DataW.weightsAll]
    rcases List.mem_cons.1 h with rfl | h
    · exact List.mem_append_left _ hn
    · exact List.mem_append_right _ (ih h n hn)
theorem opens_slice {t e : TypeId} {d : Kd α} {good : α → Prop} {B : Nat} (ht : P.underlying t = some (.slice e)) (hs : P.cellsOf e = d.sz) (hB : P.bytesOf e = B) (h : Opens enc P W e d good) :
    Opens enc P W t (Kd.slice e d) (fun xs => (xs.length ≤ maxLen ∧ xs.length * B ≤ 140737488351232) ∧ ∀ x ∈ xs, good x) := by
  intro fuel cs x hx hw
  rcases open_slice ht hx with ⟨rfl, _⟩ | ⟨a, len, cap, m, n, D, Pl, rfl, hb, hl, hm, hmm, rfl, hel⟩
  · exact ⟨[], ⟨none, 0, rfl, Nat.le_refl _, Kd.C_nil _ _⟩, ⟨Nat.zero_le _, by simp⟩, fun _ h => by cases h⟩
  · simp only [if_true] at hmm
    have hwt : ∀ n ∈ (len + (m - len)) * P.bytesOf e :: (DataW.weightsAll P e ((List.range len).map D) ++ DataW.weightsAll P e ((List.range (m - len)).map fun j => D (len + j))), n ≤ 140737488351232 := by
      have h1 := hw
      unfold Lite at h1
      rw [DataW.weights] at h1
      simp only [ht, List.length_map, List.length_range] at h1
      exact h1
    have hlenB : len * B ≤ 140737488351232 := by
      have h1 := hwt _ List.mem_cons_self
      rw [hB] at h1
      exact Nat.le_trans (Nat.mul_le_mul_right _ (by omega)) h1
    have hlite : ∀ i, i < len → Lite P e (D i) := fun i hi n hn => hwt n (List.mem_cons_of_mem _ (List.mem_append_left _ (weightsAll_mem (List.mem_map.2 ⟨i, List.mem_range.2 hi, rfl⟩) n hn)))
    have each : ∀ i, i < len → ∃ y : α, ∃ c, W.cells? 0 (a.add (i * P.cellsOf e)) (P.cellsOf e) = some c ∧ d.K W y c ∧ good y := by
      intro i hi
      obtain ⟨c, h1, h2⟩ := hel i (by omega)
      obtain ⟨y, h3, h4⟩ := h _ _ _ h2 (hlite i hi)
      exact ⟨y, c, h1, h3, h4⟩
    have build : ∃ xs : List α, xs.length = len ∧ ∀ i y, xs[i]? = some y → ∃ c, W.cells? 0 (a.add (i * P.cellsOf e)) (P.cellsOf e) = some c ∧ d.K W y c ∧ good y := by
      clear hx hel hm hl hb hmm hw hwt hlenB hlite
      induction len with
      | zero => exact ⟨[], rfl, fun i y h => by simp at h⟩
      | succ len ih =>
        obtain ⟨xs, h1, h2⟩ := ih (fun i hi => each i (by omega))
        obtain ⟨y, c, h3, h4, h5⟩ := each len (by omega)
        refine ⟨xs ++ [y], by simp [h1], fun i z hz => ?_⟩
        by_cases hi : i < len
        · exact h2 i z (by rw [List.getElem?_append_left (by omega)] at hz; exact hz)
        · have hi2 : i < (xs ++ [y]).length := (List.getElem?_eq_some_iff.1 hz).1
          have : i = len := by rw [List.length_append, List.length_singleton] at hi2; omega
          subst this
          rw [List.getElem?_append_right (by omega), h1, Nat.sub_self] at hz
          simp only [List.getElem?_cons_zero, Option.some.injEq] at hz
          subst hz
          exact ⟨c, h3, h4, h5⟩
    obtain ⟨xs, h1, h2⟩ := build
    refine ⟨xs, ⟨some a, cap, by rw [h1], by omega, rfl, by rw [h1]; simp only [maxLen] at hm; omega, fun h0 => ⟨a, rfl, fun j p hj => ?_⟩⟩, ⟨by omega, by rw [h1]; exact hlenB⟩, fun y hy => ?_⟩
    · obtain ⟨c, h3, h4, h5⟩ := h2 j p hj
      obtain ⟨_, hlen, hcell⟩ := World.cells?_some h3
      refine ⟨c, by rw [hlen, hs], h4, fun i u hu => ?_⟩
      have hi : i < P.cellsOf e := by rw [← hlen]; exact (List.getElem?_eq_some_iff.1 hu).1
      have := hcell i hi
      rw [hu, Go.Proofs.YtmbpgebboppkmaaW.PrintWords.add_add, hs] at this
      exact this
    · obtain ⟨i, hi⟩ := List.getElem?_of_mem hy
      obtain ⟨c, _, _, h5⟩ := h2 i y hi
      exact h5
theorem opensF_one {f : Field} {o : Nat} {d : Kd α} {good : α → Prop} (ho : f.offset = o) (hc : P.cellsOf f.type = d.sz) (h : Opens enc P W f.type d good) : OpensF enc P W [f] o d good := by
  intro fuel cs xs hx hw hl
  simp only [List.mapM_cons, List.mapM_nil, Option.pure_def, Option.bind_eq_bind, Option.bind_eq_some_iff] at hx
  obtain ⟨y, h1, z, hz, hxs⟩ := hx
  simp only [Option.some.injEq] at hz hxs
  subst hz
  subst hxs
  obtain ⟨a, h2, h3⟩ := h _ _ _ h1 (fun n hn => hw n (by simp [DataW.weightsEach, hn]))
  rw [ho, hc, List.take_of_length_le (by rw [List.length_drop]; omega)] at h2
  exact ⟨a, h2, h3⟩
theorem opensF_cons {f : Field} {fs : List Field} {o : Nat} {d : Kd α} {e : Kd β} {g1 : α → Prop} {g2 : β → Prop} (ho : f.offset = o) (hc : P.cellsOf f.type = d.sz) (h : Opens enc P W f.type d g1) (hr : OpensF enc P W fs (o + d.sz) e g2) :
    OpensF enc P W (f :: fs) o (Kd.pair d e) (fun p => g1 p.1 ∧ g2 p.2) := by
  intro fuel cs xs hx hw hl
  simp only [List.mapM_cons, Option.pure_def, Option.bind_eq_bind, Option.bind_eq_some_iff] at hx
  obtain ⟨y, h1, ys, h2, hxs⟩ := hx
  simp only [Option.some.injEq] at hxs
  subst hxs
  have hsz : (Kd.pair d e).sz = d.sz + e.sz := rfl
  obtain ⟨a, h3, h4⟩ := h _ _ _ h1 (fun n hn => hw n (by simp [DataW.weightsEach, hn]))
  obtain ⟨b, h5, h6⟩ := hr _ _ _ h2 (fun n hn => hw n (by rw [List.map_cons, List.map_cons, DataW.weightsEach]; exact List.mem_append_right _ hn)) (by omega)
  rw [ho, hc] at h3
  refine ⟨(a, b), ⟨_, _, ?_, h3, h5⟩, h4, h6⟩
  rw [← List.drop_drop, List.take_append_drop]
theorem opens_struct {t : TypeId} {fs : Array Field} {d : Kd α} {good : α → Prop} (ht : P.underlying t = some (.struct fs)) (hc : P.cellsOf t = d.sz) (h : OpensF enc P W fs.toList 0 d good) : Opens enc P W t d good := by
  intro fuel cs x hx hw
  cases fuel with
  | zero => simp [DataW.trod] at hx
  | succ fuel =>
    have key : cs.length = P.cellsOf t ∧ ∃ xs, (fs.toList.mapM fun f => DataW.trod enc P W 0 (fun _ => true) true fuel f.type ((cs.drop f.offset).take (P.cellsOf f.type))) = some xs ∧ x.1 = .agg (xs.map (·.1)) := by
      unfold DataW.trod at hx
      rw [ht] at hx
      simp only at hx
      split at hx
      · rename_i hl
        rw [Option.map_eq_some_iff] at hx
        obtain ⟨xs, h1, h2⟩ := hx
        exact ⟨hl, xs, h1, by rw [← h2]⟩
      · cases hx
    obtain ⟨h1, xs, h2, h3⟩ := key
    have hw2 : ∀ n ∈ DataW.weightsEach P (fs.toList.map (·.type)) (xs.map (·.1)), n ≤ 140737488351232 := by
      unfold Lite at hw
      rw [h3, DataW.weights] at hw
      simp only [ht] at hw
      exact hw
    obtain ⟨a, h4, h5⟩ := h _ _ _ h2 hw2 (by omega)
    exact ⟨a, by simpa using h4, h5⟩
theorem opens_iso {t : TypeId} {d : Kd α} {good : α → Prop} (f : β → α) (g : α → β) (hfg : ∀ a, f (g a) = a) (h : Opens enc P W t d good) : Opens enc P W t (Kd.iso d f) (fun x => good (f x)) := by
  intro fuel cs x hx hw
  obtain ⟨a, h1, h2⟩ := h _ _ _ hx hw
  refine ⟨g a, ?_, by show good (f (g a)); rw [hfg]; exact h2⟩
  show d.K W (f (g a)) cs
  rw [hfg]
  exact h1
/-- the weight of an argument -/
theorem lite_arg {ts : List TypeId} {ds : List (DataW H)} (hsz : (DataW.weightsEach P ts ds).all (· ≤ reachBytes) = true) {j : Nat} {t : TypeId} {d : DataW H} (ht : ts[j]? = some t) (hd : ds[j]? = some d) : Lite P t d := by
  intro n hn
  have := List.all_eq_true.1 hsz n (DataW.weights_mem_each ht hd n hn)
  have h2 : n ≤ reachBytes := by simpa using this
  exact Nat.le_trans h2 (by decide)
/-- a slice that is handed in -/
theorem open_arg {t e : TypeId} {d : Kd α} {good : α → Prop} {B : Nat} (ht : P.underlying t = some (.slice e)) (hs : P.cellsOf e = d.sz) (hB : P.bytesOf e = B) (h : Opens enc P W e d good) {A : Option Addr} {n c : Nat} {y : DataW H} {p : List MemPlace}
    (hl : Lite P t y) (hx : DataW.Trod enc P W 0 (fun _ => true) true t (.slice A n c) y p) : ∃ xs : List α, n = xs.length ∧ xs.length ≤ c ∧ c ≤ maxLen ∧ d.C W A xs.length xs ∧ (xs.length ≤ maxLen ∧ xs.length * B ≤ 140737488351232) ∧ ∀ x ∈ xs, good x := by
  obtain ⟨fuel, hf⟩ := hx
  have hcap : c ≤ maxLen := by
    rcases open_slice ht hf with ⟨hcs, _⟩ | ⟨a, len, cap, m, n, D, Pl, hcs, hb, hl, hm, hmm, _, hel⟩
    · simp only [Value.cells, List.cons.injEq, Value.slice.injEq, and_true] at hcs
      omega
    · simp only [Value.cells, List.cons.injEq, Value.slice.injEq, and_true] at hcs
      omega
  obtain ⟨xs, ⟨A', c', h1, h2, h3⟩, h4, h5⟩ := opens_slice ht hs hB h _ _ _ hf hl
  simp only [Value.cells, List.cons.injEq, Value.slice.injEq, and_true] at h1
  obtain ⟨rfl, rfl, rfl⟩ := h1
  exact ⟨xs, rfl, h2, hcap, h3, h4, h5⟩
/-- a text that is handed in -/
theorem lite_str {t : TypeId} {s : ByteArray} (hl : Lite (H := H) P t (.lit (.string s.data.toList))) : s.size ≤ 140737488351232 := by
  have := hl s.data.toList.length (by simp [DataW.weights])
  rw [Array.length_toList] at this
  exact this
end
end Go.Proofs.Ytmbpgebboppkmaa.Op
end

section
namespace Go.Proofs.Ytmbpgebboppkmaa.eventLess
open Go.ChangeShapes Go.WideShapes Go.ChangeAt Go.RowKit Go.Proofs.Ytmbpgebboppkmaa Go.Proofs.Ytmbpgebboppkmaa.G Go.Proofs.YtmbpgebboppkmaaW.PrintWords Go.Proofs.YtmbpgebboppkmaaW.PrintLast Go.Proofs.YtmbpgebboppkmaaW.PrintMore
open Go.ChangeMaps (open_string shut_string)
set_option linter.unusedVariables false
set_option linter.unusedSimpArgs false
theorem own : ownKnob Try.prog.godebug = none := by kernel_rfl
theorem laidOut : laidOutB Try.prog = true := by kernel_rfl
set_option maxRecDepth 100000 in
theorem lifted (os : Os) (started : os.Started) (H : Type) (enc : TypeId × Value → H) :
    ReturnsInHanded {} Try.checked os 6 .any (Rows.eventLessSpec.pre6 enc Try.prog Try.f6 Rows.eventLessRow.domain false) (Rows.eventLessSpec.post enc Try.prog Try.f6 false true false false) := by
  refine returnsInHanded_of_change_sized (C := Try.checked) own started (by kernel_rfl) Try.func6
    (ChangeSpec.witness6 (enc := enc) (C := Try.checked) false ⟨#[], #[.slice none 0 0, .int .i64 0], []⟩ 8 (by kernel_rfl) (by kernel_rfl) (by kernel_rfl) (by kernel_rfl)) ?_
  intro W base args ds gs before hval0 hW hcnd hsz0 _
  have hsz : (DataW.weightsEach Try.prog (Try.f6.params.toList ++ Rows.eventLessSpec.plain.varTypes Try.prog) (ds ++ gs)).all (· ≤ reachBytes) = true := hsz0
  have hval : ∀ (j : Nat) t v, Try.f6.params[j]? = some t → args[j]? = some v → Value.okWide Try.prog W .any base t v := hval0
  have hW' := hW
  obtain ⟨p, q, hA0, hV, rfl, hfz, hnd⟩ := hW
  have hA : DataW.TrodAll enc Try.prog W 0 (fun _ => true) true Try.f6.params.toList args.toList ds p := hA0
  rw [Try.params6] at hA hval hsz
  obtain ⟨v0, vs0, d0, ds0, p0, q0, hargs, rfl, rfl, h0, r0⟩ := trodAll_cons hA
  obtain ⟨v1, vs1, d1, ds1, p1, q1, rfl, rfl, rfl, h1, r1⟩ := trodAll_cons r0
  obtain ⟨rfl, rfl, rfl⟩ := trodAll_nil r1
  obtain rfl : args = #[v0, v1] := by cases args; simp_all
  obtain ⟨rfl, rfl⟩ := trodVars_none hV
  have k0 := h0
  have lt0 : ∀ x ∈ p0, x.block < W.heap.size := by obtain ⟨m, hm⟩ := k0; exact DataW.trod_lt m _ _ _ hm
  obtain ⟨A0, len0, cap0, rfl⟩ := okWide_slice Try.underlying22 (hval 0 22 v0 rfl rfl)
  have q0 := Op.lite_arg hsz (j := 0) (t := 22) rfl rfl
  obtain ⟨l0, rfl, hc0, hk0, hr0, hg0⟩ := Op.open_arg Try.underlying22 (by kernel_rfl) (by kernel_rfl : _ = 48) (Op.opens_iso (fun x : S32 => (x.f0, x.f1)) (fun p => (⟨p.1, p.2⟩ : S32)) (fun _ => rfl) (Op.opens_struct Try.underlying32 (by kernel_rfl) (Op.opensF_cons rfl (by kernel_rfl) (Op.opens_str Try.underlying9) (Op.opensF_one rfl (by kernel_rfl) (Op.opens_iso (fun x : S30 => (x.f0, x.f1, x.f2)) (fun p => (⟨p.1, p.2.1, p.2.2⟩ : S30)) (fun _ => rfl) (Op.opens_struct Try.underlying30 (by kernel_rfl) (Op.opensF_cons rfl (by kernel_rfl) (Op.opens_int Try.underlying3) (Op.opensF_cons rfl (by kernel_rfl) (Op.opens_int Try.underlying3) (Op.opensF_one rfl (by kernel_rfl) (Op.opens_str Try.underlying9)))))))))) q0 h0
  obtain ⟨a1, rfl, rfl, rfl, hg1⟩ := open_int Try.underlying3 (hval 1 3 v1 rfl rfl) h1
  clear hA0 hval0 hsz0 hsz
  obtain ⟨k, h⟩ := Pure.EventLess l0 a1 hg0 hg1
  refine (rosettelaw05_EventLess.calls k A0 cap0 l0 a1 true W hr0 hc0 h).mono fun e W' ⟨he, bel⟩ => ?_
  subst he
  exact ⟨_, rfl, _, _, _, [], _, [], hW', trodAll_mk1 (shut_bool Try.underlying4 _), (trodAll_cons_mk (Below.trod laidOut (by kernel_rfl) (of_decide_eq_true (by kernel_rfl)) k0 bel lt0) (trodAll_cons_mk (shut_int Try.underlying3 hg1) trodAll_mk0)), rfl, bel.frame _, fun h => by cases h⟩
theorem over : Rows.eventLessRow.holds Try.pinned (OpenSpec.ofChange Rows.eventLessSpec) :=
  OpenClaim.holds_of_wide 6 Try.f6 rfl rfl rfl rfl rfl rfl rfl ⟨rfl, rfl, rfl, rfl, rfl⟩ rfl rfl rfl rfl rfl (by kernel_rfl) Try.func6 (by kernel_rfl)
    (of_decide_eq_true (by kernel_rfl)) (by unfold Func.isWrapper; first | (rw [if_pos (by decide +kernel)]; kernel_rfl) | (rw [if_neg (by decide +kernel)]; exact ⟨rfl, rfl⟩))
    (fun os started H enc _ => lifted os started H enc)
theorem proved : Rows.EventLessSaid := over
#print axioms proved
end Go.Proofs.Ytmbpgebboppkmaa.eventLess
namespace Go.Proofs.Ytmbpgebboppkmaa
/-- The row, under a short name, for the claim. -/
theorem eventLess_holds : Rows.EventLessSaid := eventLess.proved
end Go.Proofs.Ytmbpgebboppkmaa
end
