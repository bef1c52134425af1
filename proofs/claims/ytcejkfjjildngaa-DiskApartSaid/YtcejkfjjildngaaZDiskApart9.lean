import Derived.Test.YtcejkfjjildngaaWMore
import Derived.Deep.Slices
import Derived.DataReads
import Derived.ChangeShapes
import Derived.WideLaws
import Derived.SizedLaws
import Derived.Test.YtcejkfjjildngaaProg
section
/- What comes in, opened kind by kind: a datum that is read whole reads as a list, a structure, a number; and no slice and no text of it is longer than the form's reach. -/
set_option linter.unusedVariables false
set_option linter.unusedSimpArgs false
set_option autoImplicit false
namespace Go.Proofs.Ytcejkfjjildngaa.Op
open Go.RowKit Go.Deep Go.ChangeShapes Go.WideShapes Go.Proofs.YtcejkfjjildngaaW.PrintWords

section
variable {H α β : Type} (enc : TypeId × Value → H) (P : Program) (W : World)
/-- no part of a datum is longer than the reach -/
def Lite (P : Program) (t : TypeId) (d : DataW H) : Prop := ∀ n ∈ d.weights P t, n ≤ 140737488351232
/-- whatever is read at type t, and is no longer than the reach, is of the kind d, and good -/
def Opens (t : TypeId) (d : Kd α) (good : α → Prop) : Prop :=
  ∀ fuel (cs : List Value) x, DataW.trod enc P W 0 (fun _ => true) true fuel t cs = some x → Lite P t x.1 → ∃ a, d.K W a cs ∧ good a
def OpensF (fs : List Field) (o : Nat) (d : Kd α) (good : α → Prop) : Prop :=
  ∀ fuel (cs : List Value) xs, (fs.mapM fun f => DataW.trod enc P W 0 (fun _ => true) true fuel f.type ((cs.drop f.offset).take (P.cellsOf f.type))) = some xs → (∀ n ∈ DataW.weightsEach P (fs.map (·.type)) (xs.map (·.1)), n ≤ 140737488351232) → cs.length = o + d.sz → ∃ a, d.K W a (cs.drop o) ∧ good a
variable {enc P W}
theorem opens_int {t : TypeId} {k : IntKind} (ht : P.underlying t = some (.int k)) : Opens enc P W t (Kd.int k) (fun n => (Lit.int k n).wf = true) := by
  intro fuel cs x h _
  obtain ⟨n, h1, _, h2⟩ := DataW.trod_int ht h
  exact ⟨n, h1, h2⟩
theorem opens_bool {t : TypeId} (ht : P.underlying t = some .bool) : Opens enc P W t Kd.bool (fun _ => True) := by
  intro fuel cs x h _
  obtain ⟨n, h1, _⟩ := DataW.trod_bool ht h
  exact ⟨n, h1, trivial⟩
theorem opens_str {t : TypeId} (ht : P.underlying t = some .string) : Opens enc P W t Kd.string (fun s => s.size ≤ 140737488351232) := by
  intro fuel cs x h hl
  obtain ⟨s, h1, h2, _⟩ := DataW.trod_string ht h
  refine ⟨s, h1, ?_⟩
  rw [h2] at hl
  have := hl s.data.toList.length (by simp [DataW.weights])
  rw [Array.length_toList] at this
  exact this
theorem weightsAll_mem {e : TypeId} : ∀ {ds : List (DataW H)} {d : DataW H}, d ∈ ds → ∀ n ∈ d.weights P e, n ∈ DataW.weightsAll P e ds := by
  intro ds
  induction ds with
  | nil => intro d h; cases h
  | cons y ys ih =>
    intro d h n hn
    rw [DataW.weightsAll]
    rcases List.mem_cons.1 h with rfl | h
    · exact List.mem_append_left _ hn
    · exact List.mem_append_right _ (ih h n hn)
theorem opens_slice {t e : TypeId} {d : Kd α} {good : α → Prop} {B : Nat} (ht : P.underlying t = some (.slice e)) (hs : P.cellsOf e = d.sz) (hB : P.bytesOf e = B) (h : Opens enc P W e d good) :
    Opens enc P W t (Kd.slice e d) (fun xs => (xs.length ≤ maxLen ∧ xs.length * B ≤ 140737488351232) ∧ ∀ x ∈ xs, good x) := by
  intro fuel cs x hx hw
  rcases open_slice ht hx with ⟨rfl, _⟩ | ⟨a, len, cap, m, n, D, Pl, rfl, hb, hl, hm, hmm, rfl, hel⟩
  · exact ⟨[], ⟨none, 0, rfl, Nat.le_refl _, Kd.C_nil _ _⟩, ⟨Nat.zero_le _, by simp⟩, fun _ h => by cases h⟩
  · simp only [if_true] at hmm
    have hwt : ∀ n ∈ (len + (m - len)) * P.bytesOf e :: (DataW.weightsAll P e ((List.range len).map D) ++ DataW.weightsAll P e ((List.range (m - len)).map fun j => D (len + j))), n ≤ 140737488351232 := by
      have h1 := hw
      unfold Lite at h1
      rw [DataW.weights] at h1
      simp only [ht, List.length_map, List.length_range] at h1
      exact h1
    have hlenB : len * B ≤ 140737488351232 := by
      have h1 := hwt _ List.mem_cons_self
      rw [hB] at h1
      exact Nat.le_trans (Nat.mul_le_mul_right _ (by omega)) h1
    have hlite : ∀ i, i < len → Lite P e (D i) := fun i hi n hn => hwt n (List.mem_cons_of_mem _ (List.mem_append_left _ (weightsAll_mem (List.mem_map.2 ⟨i, List.mem_range.2 hi, rfl⟩) n hn)))
    have each : ∀ i, i < len → ∃ y : α, ∃ c, W.cells? 0 (a.add (i * P.cellsOf e)) (P.cellsOf e) = some c ∧ d.K W y c ∧ good y := by
      intro i hi
      obtain ⟨c, h1, h2⟩ := hel i (by omega)
      obtain ⟨y, h3, h4⟩ := h _ _ _ h2 (hlite i hi)
      exact ⟨y, c, h1, h3, h4⟩
    have build : ∃ xs : List α, xs.length = len ∧ ∀ i y, xs[i]? = some y → ∃ c, W.cells? 0 (a.add (i * P.cellsOf e)) (P.cellsOf e) = some c ∧ d.K W y c ∧ good y := by
      clear hx hel hm hl hb hmm hw hwt hlenB hlite
      induction len with
      | zero => exact ⟨[], rfl, fun i y h => by simp at h⟩
      | succ len ih =>
        obtain ⟨xs, h1, h2⟩ := ih (fun i hi => each i (by omega))
        obtain ⟨y, c, h3, h4, h5⟩ := each len (by omega)
        refine ⟨xs ++ [y], by simp [h1], fun i z hz => ?_⟩
        by_cases hi : i < len
        · exact h2 i z (by rw [List.getElem?_append_left (by omega)] at hz; exact hz)
        · have hi2 : i < (xs ++ [y]).length := (List.getElem?_eq_some_iff.1 hz).1
          have : i = len := by rw [List.length_append, List.length_singleton] at hi2; omega
          subst this
          rw [List.getElem?_append_right (by omega), h1, Nat.sub_self] at hz
          simp only [List.getElem?_cons_zero, Option.some.injEq] at hz
          subst hz
          exact ⟨c, h3, h4, h5⟩
    obtain ⟨xs, h1, h2⟩ := build
    refine ⟨xs, ⟨some a, cap, by rw [h1], by omega, rfl, by rw [h1]; simp only [maxLen] at hm; omega, fun h0 => ⟨a, rfl, fun j p hj => ?_⟩⟩, ⟨by omega, by rw [h1]; exact hlenB⟩, fun y hy => ?_⟩
    · obtain ⟨c, h3, h4, h5⟩ := h2 j p hj
      obtain ⟨_, hlen, hcell⟩ := World.cells?_some h3
      refine ⟨c, by rw [hlen, hs], h4, fun i u hu => ?_⟩
      have hi : i < P.cellsOf e := by rw [← hlen]; exact (List.getElem?_eq_some_iff.1 hu).1
      have := hcell i hi
      rw [hu, Go.Proofs.YtcejkfjjildngaaW.PrintWords.add_add, hs] at this
      exact this
    · obtain ⟨i, hi⟩ := List.getElem?_of_mem hy
      obtain ⟨c, _, _, h5⟩ := h2 i y hi
      exact h5
theorem opensF_one {f : Field} {o : Nat} {d : Kd α} {good : α → Prop} (ho : f.offset = o) (hc : P.cellsOf f.type = d.sz) (h : Opens enc P W f.type d good) : OpensF enc P W [f] o d good := by
  intro fuel cs xs hx hw hl
  simp only [List.mapM_cons, List.mapM_nil, Option.pure_def, Option.bind_eq_bind, Option.bind_eq_some_iff] at hx
  obtain ⟨y, h1, z, hz, hxs⟩ := hx
  simp only [Option.some.injEq] at hz hxs
  subst hz
  subst hxs
  obtain ⟨a, h2, h3⟩ := h _ _ _ h1 (fun n hn => hw n (by simp [DataW.weightsEach, hn]))
  rw [ho, hc, List.take_of_length_le (by rw [List.length_drop]; omega)] at h2
  exact ⟨a, h2, h3⟩
theorem opensF_cons {f : Field} {fs : List Field} {o : Nat} {d : Kd α} {e : Kd β} {g1 : α → Prop} {g2 : β → Prop} (ho : f.offset = o) (hc : P.cellsOf f.type = d.sz) (h : Opens enc P W f.type d g1) (hr : OpensF enc P W fs (o + d.sz) e g2) :
    OpensF enc P W (f :: fs) o (Kd.pair d e) (fun p => g1 p.1 ∧ g2 p.2) := by
  intro fuel cs xs hx hw hl
  simp only [List.mapM_cons, Option.pure_def, Option.bind_eq_bind, Option.bind_eq_some_iff] at hx
  obtain ⟨y, h1, ys, h2, hxs⟩ := hx
  simp only [Option.some.injEq] at hxs
  subst hxs
  have hsz : (Kd.pair d e).sz = d.sz + e.sz := rfl
  obtain ⟨a, h3, h4⟩ := h _ _ _ h1 (fun n hn => hw n (by simp [DataW.weightsEach, hn]))
  obtain ⟨b, h5, h6⟩ := hr _ _ _ h2 (fun n hn => hw n (by rw [List.map_cons, List.map_cons, DataW.weightsEach]; exact List.mem_append_right _ hn)) (by omega)
  rw [ho, hc] at h3
  refine ⟨(a, b), ⟨_, _, ?_, h3, h5⟩, h4, h6⟩
  rw [← List.drop_drop, List.take_append_drop]
theorem opens_struct {t : TypeId} {fs : Array Field} {d : Kd α} {good : α → Prop} (ht : P.underlying t = some (.struct fs)) (hc : P.cellsOf t = d.sz) (h : OpensF enc P W fs.toList 0 d good) : Opens enc P W t d good := by
  intro fuel cs x hx hw
  cases fuel with
  | zero => simp [DataW.trod] at hx
  | succ fuel =>
    have key : cs.length = P.cellsOf t ∧ ∃ xs, (fs.toList.mapM fun f => DataW.trod enc P W 0 (fun _ => true) true fuel f.type ((cs.drop f.offset).take (P.cellsOf f.type))) = some xs ∧ x.1 = .agg (xs.map (·.1)) := by
      unfold DataW.trod at hx
      rw [ht] at hx
      simp only at hx
      split at hx
      · rename_i hl
        rw [Option.map_eq_some_iff] at hx
        obtain ⟨xs, h1, h2⟩ := hx
        exact ⟨hl, xs, h1, by rw [← h2]⟩
      · cases hx
    obtain ⟨h1, xs, h2, h3⟩ := key
    have hw2 : ∀ n ∈ DataW.weightsEach P (fs.toList.map (·.type)) (xs.map (·.1)), n ≤ 140737488351232 := by
      unfold Lite at hw
      rw [h3, DataW.weights] at hw
      simp only [ht] at hw
      exact hw
    obtain ⟨a, h4, h5⟩ := h _ _ _ h2 hw2 (by omega)
    exact ⟨a, by simpa using h4, h5⟩
theorem opens_iso {t : TypeId} {d : Kd α} {good : α → Prop} (f : β → α) (g : α → β) (hfg : ∀ a, f (g a) = a) (h : Opens enc P W t d good) : Opens enc P W t (Kd.iso d f) (fun x => good (f x)) := by
  intro fuel cs x hx hw
  obtain ⟨a, h1, h2⟩ := h _ _ _ hx hw
  refine ⟨g a, ?_, by show good (f (g a)); rw [hfg]; exact h2⟩
  show d.K W (f (g a)) cs
  rw [hfg]
  exact h1
/-- the weight of an argument -/
theorem lite_arg {ts : List TypeId} {ds : List (DataW H)} (hsz : (DataW.weightsEach P ts ds).all (· ≤ reachBytes) = true) {j : Nat} {t : TypeId} {d : DataW H} (ht : ts[j]? = some t) (hd : ds[j]? = some d) : Lite P t d := by
  intro n hn
  have := List.all_eq_true.1 hsz n (DataW.weights_mem_each ht hd n hn)
  have h2 : n ≤ reachBytes := by simpa using this
  exact Nat.le_trans h2 (by decide)
/-- a slice that is handed in -/
theorem open_arg {t e : TypeId} {d : Kd α} {good : α → Prop} {B : Nat} (ht : P.underlying t = some (.slice e)) (hs : P.cellsOf e = d.sz) (hB : P.bytesOf e = B) (h : Opens enc P W e d good) {A : Option Addr} {n c : Nat} {y : DataW H} {p : List MemPlace}
    (hl : Lite P t y) (hx : DataW.Trod enc P W 0 (fun _ => true) true t (.slice A n c) y p) : ∃ xs : List α, n = xs.length ∧ xs.length ≤ c ∧ c ≤ maxLen ∧ d.C W A xs.length xs ∧ (xs.length ≤ maxLen ∧ xs.length * B ≤ 140737488351232) ∧ ∀ x ∈ xs, good x := by
  obtain ⟨fuel, hf⟩ := hx
  have hcap : c ≤ maxLen := by
    rcases open_slice ht hf with ⟨hcs, _⟩ | ⟨a, len, cap, m, n, D, Pl, hcs, hb, hl, hm, hmm, _, hel⟩
    · simp only [Value.cells, List.cons.injEq, Value.slice.injEq, and_true] at hcs
      omega
    · simp only [Value.cells, List.cons.injEq, Value.slice.injEq, and_true] at hcs
      omega
  obtain ⟨xs, ⟨A', c', h1, h2, h3⟩, h4, h5⟩ := opens_slice ht hs hB h _ _ _ hf hl
  simp only [Value.cells, List.cons.injEq, Value.slice.injEq, and_true] at h1
  obtain ⟨rfl, rfl, rfl⟩ := h1
  exact ⟨xs, rfl, h2, hcap, h3, h4, h5⟩
/-- a text that is handed in -/
theorem lite_str {t : TypeId} {s : ByteArray} (hl : Lite (H := H) P t (.lit (.string s.data.toList))) : s.size ≤ 140737488351232 := by
  have := hl s.data.toList.length (by simp [DataW.weights])
  rw [Array.length_toList] at this
  exact this
end
end Go.Proofs.Ytcejkfjjildngaa.Op
end
