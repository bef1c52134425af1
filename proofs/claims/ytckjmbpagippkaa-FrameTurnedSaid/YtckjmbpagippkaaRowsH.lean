/- rows of rows of bytes: what frame.All hands back, held over the walk -/
import Derived.Test.YtckjmbpagippkaaFramePure
import Derived.Test.YtckjmbpagippkaaSame
set_option linter.unusedVariables false
set_option linter.unusedSimpArgs false
set_option autoImplicit false
namespace Go.Proofs.Ytckjmbpagippkaa
open Go.RowKit Go.Proofs.YtckjmbpagippkaaW.PrintWords Go.Proofs.YtckjmbpagippkaaW.PrintLast Go.Proofs.YtckjmbpagippkaaW.PrintMore Go.Proofs.Ytckjmbpagippkaa.G

def RowsH (w : World) (S : Nat → Prop) (A : Option Addr) (L : List (List Int)) : Prop :=
  ∀ i, i < L.length → ∃ (a : Addr) (P : Option Addr) (c : Nat), A = some a ∧ a.block < w.heap.size ∧ S a.block ∧ w.cell? (a.add i) = some (.slice P (L.getD i []).length c) ∧ (L.getD i []).length ≤ c ∧ (L.getD i []).length ≤ 9223372036854775807 ∧ HeldB w S P (L.getD i [])
theorem RowsH.keep {w w' : World} {S : Nat → Prop} {A : Option Addr} {L : List (List Int)} (h : RowsH w S A L) (hk : ∀ k, k < w.heap.size → S k → w'.heap[k]? = w.heap[k]?) (hs : w.heap.size ≤ w'.heap.size) : RowsH w' S A L := by
  intro i hi
  obtain ⟨a, P, c, h1, h2, h2', h3, h4, h5, h6⟩ := h i hi
  refine ⟨a, P, c, h1, by omega, h2', ?_, h4, h5, h6.keep hk⟩
  rw [← h3]
  unfold World.cell?
  rw [add_block, hk _ h2 h2']
theorem RowsH.below {w w' : World} {S : Nat → Prop} {A : Option Addr} {L : List (List Int)} (h : RowsH w S A L) (hb : Below w.heap.size w w') : RowsH w' S A L := h.keep (fun k hk _ => hb.block k hk) hb.size
theorem RowsH.grown {w w' : World} {S : Nat → Prop} {A : Option Addr} {L : List (List Int)} {r : Nat} (h : RowsH w S A L) (hb : w.grownBy w' (some r)) (h2 : ¬ S r) : RowsH w' S A L :=
  h.keep (fun k hk hs => hb.block k hk (fun e => by cases e; exact h2 hs)) hb.size
theorem RowsH.mono {w : World} {S S' : Nat → Prop} {A : Option Addr} {L : List (List Int)} (h : RowsH w S A L) (hS : ∀ k, S k → S' k) : RowsH w S' A L := by
  intro i hi
  obtain ⟨a, P, c, h1, h2, h2', h3, h4, h5, h6⟩ := h i hi
  exact ⟨a, P, c, h1, h2, hS _ h2', h3, h4, h5, h6.mono hS⟩
theorem RowsH.rowS {w : World} {S : Nat → Prop} {A : Option Addr} {L : List (List Int)} (h : RowsH w S A L) : RowS w A L.length (fun i => L.getD i []) := by
  intro i hi
  obtain ⟨a, P, c, h1, h2, h2', h3, h4, h5, h6⟩ := h i hi
  exact ⟨a, P, c, h1, h3, h6.C h5⟩
theorem RowsH.of_own {w : World} {base t : Nat} {vo : Value} {vs : List Value} {L : List (List Int)} (hl : vs.length = L.length) (h : w.ownsRow base t 1 vo vs.length vs)
    (hr : ∀ i, i < L.length → w.ownsRow base 5 1 (vs.getD i undef) (L.getD i []).length (nums .u8 (L.getD i []))) :
    ∃ A c, vo = .slice A L.length c ∧ L.length ≤ c ∧ c ≤ 9223372036854775807 ∧ RowsH w (fun k => base ≤ k ∧ k < w.heap.size) A L := by
  obtain ⟨h0, h⟩ := h
  rcases h with ⟨rfl, hn⟩ | ⟨g, cap, cur, rfl, hg, hc, hcap, hcm, hcs, htk⟩
  · refine ⟨none, 0, by rw [← hl, hn], by omega, by omega, fun i hi => by omega⟩
  · refine ⟨_, cap, by rw [hl], by omega, by simp only [maxLen] at hcm; omega, fun i hi => ?_⟩
    obtain ⟨P, c, e1, e2, e3, e4, e5⟩ := held_own (kd_R (hr i hi))
    refine ⟨_, P, c, rfl, lt_of_heap hc, ⟨hg, lt_of_heap hc⟩, ?_, e2, by omega, e4⟩
    have hadd : (⟨g, 0, none⟩ : Addr).add i = ⟨g, i, none⟩ := add_plain _ _
    rw [hadd, cell_of_row _ _ _ _ _ _ hc, ← e1, ← htk, Nat.mul_one]
    have hi' : i < vs.length := by omega
    have hcs' : i < cur.size := by omega
    simp [List.getD_eq_getElem?_getD, List.getElem?_take, hi', hcs']
theorem RowsH.of_all {w : World} {base t : Nat} {vo : Value} {xs : List It} (h : w.ownsRow base t 1 vo xs.length (xs.map It.v)) (hr : ∀ y ∈ xs, w.ownsRow base 5 1 y.v y.b.length (nums .u8 y.b)) :
    ∃ A c, vo = .slice A xs.length c ∧ xs.length ≤ c ∧ c ≤ 9223372036854775807 ∧ RowsH w (fun k => base ≤ k ∧ k < w.heap.size) A (xs.map It.b) := by
  have := RowsH.of_own (w := w) (base := base) (t := t) (vo := vo) (vs := xs.map It.v) (L := xs.map It.b) (by simp) (by simpa using h) (fun i hi => ?_)
  · simpa using this
  · have hi' : i < xs.length := by simpa using hi
    have := hr xs[i] (List.getElem_mem hi')
    simpa [List.getD_eq_getElem?_getD, hi'] using this
theorem next_n (A0 : Option Addr) (n c0 : Nat) (l0 : List Int) (r1 : List Int) (r2 r3 : Int) (w : World) (hn : n = l0.length) (hr0 : HeldB w (fun _ => True) A0 l0) (hl : l0.length ≤ 9223372036854775807) (hc0 : l0.length ≤ c0) (h : frame_Next.f l0 = some (r1, r2, r3)) :
    Calls Try.prog 11 #[.slice A0 n c0] w fun e w' => ∃ (P : Option Addr) (c : Nat), e = .returned (.tuple #[.slice P r1.length c, .int .i64 r2, .int .i64 r3]) ∧ r1.length ≤ c ∧ c ≤ 9223372036854775807 ∧ HeldB w' (fun k => w.heap.size ≤ k ∧ k < w'.heap.size) P r1 ∧ Below w.heap.size w w' := by
  subst hn
  refine (frame_Next.calls A0 c0 l0 r1 r2 r3 w (hr0.C hl) hc0 h).mono ?_
  rintro e w1 ⟨v, rfl, hR, hB⟩
  obtain ⟨P, c, rfl, h1, h2, h3, h4⟩ := held_own hR
  exact ⟨P, c, rfl, h1, h2, h3, hB⟩
theorem all_n (A0 : Option Addr) (n c0 : Nat) (l : List Int) (w : World) (hn : n = l.length) (hu : u8s l) (hr : HeldB w (fun _ => True) A0 l) (hc0 : l.length ≤ c0) (hl : l.length ≤ 1000000) :
    Calls Try.prog 13 #[.slice A0 n c0] w fun e w' => ∃ (xs : List It) (er : Int) (A : Option Addr) (c : Nat), e = .returned (.tuple #[.slice A xs.length c, .int .i64 ((xs.getLast?.map It.e).getD 0), .int .i64 er]) ∧ Runs l 0 xs er ∧ xs.length ≤ c ∧ c ≤ 9223372036854775807 ∧ RowsH w' (fun k => w.heap.size ≤ k ∧ k < w'.heap.size) A (xs.map It.b) ∧ Below w.heap.size w w' := by
  subst hn
  refine (all_any A0 c0 l w (hr.C (by omega)) hc0 hl (next_from l hu hl)).mono ?_
  rintro e w1 ⟨xs, er, vo, rfl, hE, hO, hr, _, hB⟩
  obtain ⟨A, c, rfl, h1, h2, h3⟩ := RowsH.of_all hO hr
  exact ⟨xs, er, A, c, rfl, hE.runs, h1, h2, h3, hB⟩
end Go.Proofs.Ytckjmbpagippkaa
