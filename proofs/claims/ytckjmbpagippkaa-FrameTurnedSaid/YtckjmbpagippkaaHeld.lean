import Derived.Test.YtckjmbpagippkaaKit
import Derived.Test.YtckjmbpagippkaaProg
set_option linter.unusedVariables false
set_option linter.unusedSimpArgs false
set_option autoImplicit false
namespace Go.Proofs.Ytckjmbpagippkaa
open Go.RowKit Go.Proofs.YtckjmbpagippkaaW.PrintWords Go.Proofs.YtckjmbpagippkaaW.PrintLast Go.Proofs.YtckjmbpagippkaaW.PrintMore

/-- the bytes that a slice tells, in blocks of which S tells -/
def HeldB (w : World) (S : Nat → Prop) (A : Option Addr) (l : List Int) : Prop :=
  0 < l.length → ∃ ad, A = some ad ∧ S ad.block ∧ ∀ j, j < l.length → w.cell? (ad.add j) = some (.int .u8 (rd l j))
theorem lt_of_heap {w : World} {g : Nat} {o : Obj} (h : w.heap[g]? = some o) : g < w.heap.size := (Array.getElem?_eq_some_iff.1 h).1
theorem HeldB.keep {w w' : World} {S : Nat → Prop} {A : Option Addr} {l : List Int} (h : HeldB w S A l) (hk : ∀ k, k < w.heap.size → S k → w'.heap[k]? = w.heap[k]?) : HeldB w' S A l := by
  intro hl
  obtain ⟨ad, rfl, hS, hc⟩ := h hl
  refine ⟨ad, rfl, hS, fun j hj => ?_⟩
  have h1 := hc j hj
  have hlt := World.block_lt_of_cell? w _ h1
  have hb : (ad.add j).block = ad.block := add_block _ _
  rw [World.cell?_of_block (w := w) (by rw [hb]; exact hk _ (by rwa [hb] at hlt) hS)]
  exact h1
theorem HeldB.C {w : World} {S : Nat → Prop} {A : Option Addr} {l : List Int} (h : HeldB w S A l) (hl : l.length ≤ 9223372036854775807) : (Kd.int .u8).C w A l.length l :=
  Kd.C_of_reads (d := (0 : Int)) ⟨rfl, hl, fun h0 => by obtain ⟨ad, rfl, _, hc⟩ := h h0; exact ⟨ad, rfl, fun j hj => by have := hc j hj; simpa [rd] using this⟩⟩
theorem HeldB.of_C {w : World} {S : Nat → Prop} {A : Option Addr} {l : List Int} (h : (Kd.int .u8).C w A l.length l) (hS : ∀ ad, A = some ad → 0 < l.length → S ad.block) : HeldB w S A l := by
  intro h0
  obtain ⟨_, _, hr⟩ := Kd.reads_of_C (d := (0 : Int)) h
  obtain ⟨ad, rfl, hc⟩ := hr h0
  exact ⟨ad, rfl, hS ad rfl h0, fun j hj => by have := hc j hj; simpa [rd] using this⟩

theorem held_own {W : World} {base e : Nat} {ok : Nat → Prop} {v : Value} {xs : List Int} (h : (Kd.int .u8).R e W base ok v xs) :
    ∃ A c, v = .slice A xs.length c ∧ xs.length ≤ c ∧ c ≤ 9223372036854775807 ∧ HeldB W (fun k => base ≤ k ∧ k < W.heap.size) A xs ∧ (Kd.int .u8).C W A xs.length xs := by
  obtain ⟨A, c, rfl, hc, hC⟩ := own_C h
  obtain ⟨_, ho⟩ := kd_own h
  rcases ho with ⟨h1, h2⟩ | ⟨g, cap, cur, h1, h2, h3, h4, h5, h6, h7⟩
  · simp only [Value.slice.injEq] at h1
    obtain ⟨rfl, _, rfl⟩ := h1
    exact ⟨none, 0, rfl, by omega, by omega, fun h0 => absurd h0 (by omega), hC⟩
  · cases h1
    refine ⟨_, _, rfl, hc, by simpa [maxLen] using h5, HeldB.of_C hC ?_, hC⟩
    rintro ad hA _
    cases hA
    exact ⟨h2, lt_of_heap h3⟩
theorem HeldB.below {w w' : World} {S : Nat → Prop} {A : Option Addr} {l : List Int} (h : HeldB w S A l) (hb : Below w.heap.size w w') : HeldB w' S A l := h.keep fun k hk _ => hb.block k hk
theorem HeldB.grown {w w' : World} {S : Nat → Prop} {A : Option Addr} {l : List Int} {r : Nat} (h : HeldB w S A l) (hb : w.grownBy w' (some r)) (h2 : ¬ S r) : HeldB w' S A l :=
  h.keep fun k hk hs => hb.block k hk (fun e => by cases e; exact h2 hs)
theorem HeldB.low {w : World} {A : Option Addr} {l : List Int} (h : (Kd.int .u8).C w A l.length l) : HeldB w (fun k => k < w.heap.size) A l := by
  refine HeldB.of_C h ?_
  rintro ad rfl h0
  obtain ⟨_, _, hr⟩ := Kd.reads_of_C (d := (0 : Int)) h
  obtain ⟨ad', e, hc⟩ := hr h0
  cases e
  have := World.block_lt_of_cell? _ _ (hc 0 h0)
  rwa [add_block] at this
theorem strA {w : World} {A : Option Addr} {l : List Int} (h : (Kd.int .u8).C w A l.length l) (c : Nat) : (convert 22 9 (.slice A l.length c)).run Try.prog w = .ok (.string (strOfNums l)) w :=
  Kd.C_string (P := Try.prog) (A := A) (c := c) Try.underlying22 Try.underlying5 Try.underlying9 h
theorem below_of_grown {w0 a b : World} {g : Nat} (h : Below w0.heap.size w0 a) (k : a.grownBy b (some g)) (hg : w0.heap.size ≤ g) : Below w0.heap.size w0 b :=
  h.grown k h.size (fun k hk => by cases hk; exact hg)
theorem below_via {w W W' : World} (h : Below W.heap.size W W') (h0 : Below w.heap.size w W) : Below w.heap.size w W' := h0.trans (h.mono h0.size)
end Go.Proofs.Ytckjmbpagippkaa
