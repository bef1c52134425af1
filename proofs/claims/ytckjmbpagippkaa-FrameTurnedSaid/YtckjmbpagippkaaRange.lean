import Derived.RangeFuncNested
import Derived.RangeFuncBound
import Derived.RangeFuncCalls
import Derived.RangeFuncLeaves
import Derived.RangeFuncBox
import Derived.Shelf.Abstract
import Derived.Shelf.RegionOpen
import Derived.WalkKit
import Derived.OwnWalkIn
import Derived.TacticsInMore
import Derived.LoopNIn
import Derived.LoopIn
import Derived.Maps.AppendAt
import Derived.Test.YtckjmbpagippkaaProg
set_option linter.unusedVariables false
set_option autoImplicit false
namespace Go.Proofs.Ytckjmbpagippkaa
open Go.RowKit

/-- a round ends by going on -/
def rpost {α : Type} (B : Nat) (I : List α → Int → World → Prop) (xs : List α) (W : World) : Exit → Act → World → Prop
  | .normal, _, W' => KeepsFrom B W W' ∧ I xs 0 W'
  | _, _, _ => False

/-- A range over a function whose iterator stores an error into one cell, which is zero at each round. No round leaves the loop. (Turned from the library's laws of Derived/RangeFunc*.) -/
theorem range_err {α : Type} {F : Fence} {n : Nat} {P : Program} {g : Operand} {ps : Array Tmp} {assign body : Code} {Q : Exit → Act → World → Prop} {a : Act} {w : World}
    (hro : F.round = none) (h1 : 1 ≤ n) {gf : Nat} {lb : Array Value} (hg : a.eval g = .func (.func gf) #[] lb) (hFg : F.fn gf) (eg : ∀ args w, (callFunc gf args).run P w = .ok (.enter gf args) w)
    {encs : α → Array Value} (hps : ∀ x, (encs x).size = ps.size) (eb : Nat) (heb : eb < w.heap.size) (S : List α → Int → Prop) (I : List α → Int → World → Prop)
    (hI : OwnFrom w.heap.size (fun (s : List α × Int) W => I s.1 s.2 W))
    (N : Nat) (Px : List α → α → World → Prop) (hPx : OwnFrom w.heap.size (fun (s : List α × α) W => Px s.1 s.2 W))
    (hIe : ∀ pre er W, I pre 0 W → I pre er (W.setCell ⟨eb, 0, none⟩ (.int .i64 er))) (h0 : I [] 0 w)
    (hseq : ∀ (l : Nat) (J : List α → World → Prop) (W : World), (∀ pre W1, J pre W1 → I pre 0 W1) → (∀ pre W1 W2, J pre W1 → W1.grownBy W2 none → J pre W2) →
      (∀ pre x W1, J pre W1 → Px pre x W1 → pre.length < N → YieldAt F (n - 1 - 1) P l (encs x) W1 fun e W' => e = .returned (.bool true) ∧ J (pre ++ [x]) W') → J [] W →
      CallsIn F (n - 1) P gf (#[.func (.yield l) #[] #[]] ++ lb) W fun e W' => (∃ v, e = .returned v) ∧ ∃ xs er W0, S xs er ∧ J xs W0 ∧ W' = W0.setCell ⟨eb, 0, none⟩ (.int .i64 er))
    (a₁ : α → Act)
    (hassign : ∀ (l : Nat) (x : α) (W : World) (K : Act → World → Prop), K (a₁ x) W → assign.wpIn (F.inRound l) (n - 1 - 1) P (Exit.then K (fun _ _ _ => False)) { tmps := (ps.zip (encs x)).foldl (fun t (p, v) => t.setIfInBounds p v) a.tmps, defers := [] } W)
    (hbody : ∀ (l : Nat) (pre : List α) (x : α) (W : World), I pre 0 W → Px pre x W → pre.length < N → body.wpIn (F.inRound l) (n - 1 - 1) P (rpost w.heap.size I (pre ++ [x]) W) (a₁ x) W)
    (hdone : ∀ (D : Nat) (xs : List α) (er : Int) (W : World), w.heap.size ≤ D → S xs er → I xs er W → W.heap[D]? = some (.deferred (some [])) → Q .normal { a with defers := { target := .collected D, args := #[] } :: a.defers } W) :
    (Code.rangeFunc g ps assign body).wpIn F n P Q a w := by
  have hIp : ∀ (xs : List α) (er : Int) {W : World} {l : Nat} {o : Obj} (o' : Obj), I xs er W → w.heap.size ≤ l → W.heap[l]? = some o → o.isCells = false → I xs er (W.putObj l o') :=
    fun xs er W l o o' h hB hl ho => OwnFrom.putObj (s := (xs, er)) hI o' h hB hl ho
  have hIa : ∀ (xs : List α) (er : Int) {W : World} (o : Obj), I xs er W → I xs er (W.alloc o) := fun xs er W o h => OwnFrom.alloc (s := (xs, er)) hI o h
  refine wpIn_rangeFunc ?_
  intro fn hfn
  rw [hro]
  obtain ⟨rec, hrec⟩ : ∃ rec : LoopState → Option Code → Loop, rec = fun st pe => { state := st, pending := pe, fn, tmps := a.tmps, params := ps, assign, body, defers := w.heap.size } := ⟨_, rfl⟩
  obtain ⟨W1, hW1⟩ : ∃ W1, (w.alloc (.deferred (some []))).alloc (.loop (rec .ready none)) = W1 := ⟨_, rfl⟩
  have hL1 : W1.heap[w.heap.size + 1]? = some (.loop (rec .ready none)) := by
    rw [← hW1]; have := World.alloc_heap_new (w.alloc (.deferred (some []))) (.loop (rec .ready none)); rwa [World.size_alloc] at this
  have hK1 : W1.heap[w.heap.size]? = some (.deferred (some [])) := by
    rw [← hW1]; exact (Below.heap_alloc _ _ _ (by simp)).trans (World.alloc_heap_new w _)
  have hI1 : I [] 0 W1 := by rw [← hW1]; exact hIa _ _ _ (hIa _ _ _ h0)
  refine ⟨w.heap.size + 1, [{ target := .collected w.heap.size, args := #[] }], W1, { target := .fn (.func gf) lb, args := #[.func (.yield (w.heap.size + 1)) #[] #[]] }, W1, gf,
    #[.func (.yield (w.heap.size + 1)) #[] #[]] ++ lb, W1, ?_, ?_, ?_, ?_, fun _ => h1, ?_⟩
  · rw [← hW1, hrec]; exact run_enterLoop_outer _ _ _ _ _
  · simp only [resolve, hg]
    simp [go_sem]
  · intro f' hf'; simp [Target.leads] at hf'; subst hf'; exact hFg
  · simp [invoke, go_sem, eg]
  · refine (hseq (w.heap.size + 1) (fun pre W => I pre 0 W ∧ W.heap[w.heap.size + 1]? = some (.loop (rec .ready none)) ∧ W.heap[w.heap.size]? = some (.deferred (some []))) W1
      (fun pre W h => h.1)
      (fun pre A B h hg' => ⟨hI (pre, 0) A B none h.1 hg' (fun r e => by cases e), (hg'.block _ (Array.getElem?_eq_some_iff.1 h.2.1).1 (by simp)).trans h.2.1, (hg'.block _ (Array.getElem?_eq_some_iff.1 h.2.2).1 (by simp)).trans h.2.2⟩)
      ?_ ⟨hI1, hL1, hK1⟩).mono ?_
    · rintro pre x W ⟨hi, hl, hk⟩ hx hN
      have hlt : w.heap.size + 1 < W.heap.size := (Array.getElem?_eq_some_iff.1 hl).1
      have hy := run_yield (P := P) (args := encs x) hl (by rw [hrec]; exact hps x)
      rw [hrec] at hy
      refine ⟨fn, _, assign, body, hy, roundIn_of_wpIn hfn (hassign _ x W _ ?_)⟩
      refine ⟨_, run_beginRound hl (by rw [hrec]), ?_⟩
      have hl2 : (W.putObj (w.heap.size + 1) (.loop { rec .ready none with state := .busy })).heap[w.heap.size + 1]? = some (.loop { rec .ready none with state := .busy }) := World.putObj_heap_same hlt
      have hk2 : (W.putObj (w.heap.size + 1) (.loop { rec .ready none with state := .busy })).heap[w.heap.size]? = some (.deferred (some [])) := (World.putObj_heap_other (by omega)).trans hk
      refine wpIn_mono (hbody _ pre x _ (hIp _ _ _ hi (by omega) hl rfl) (OwnFrom.putObj (s := (pre, x)) hPx _ hx (by omega) hl rfl) hN) ?_
      rintro e a3 W3 hp
      cases e with
      | normal =>
        obtain ⟨hk3, hi3⟩ := hp
        have hl3 := hk3.same _ _ (by omega) hl2 rfl
        have hr := run_endRound (P := P) none hl3
        refine ⟨_, _, hr, rfl, hIp _ _ _ hi3 (by omega) hl3 rfl, ?_, (World.putObj_heap_other (by omega)).trans (hk3.same _ _ (Nat.le_refl _) hk2 rfl)⟩
        rw [hrec] at hl3 ⊢
        exact World.putObj_heap_same (Array.getElem?_eq_some_iff.1 hl3).1
      | ret => exact hp.elim
      | exit id => exact hp.elim
      | goto t => exact hp.elim
      | panic ch => exact hp.elim
      | outgrown => exact hp.elim
    · rintro e W2 ⟨⟨v, rfl⟩, xs, er, W0, hS, ⟨hi, hl, hk⟩, rfl⟩
      have hl' : (W0.setCell ⟨eb, 0, none⟩ (.int .i64 er)).heap[w.heap.size + 1]? = some (.loop (rec .ready none)) := by rw [heap_setCell_other _ _ _ _ (by simp; omega)]; exact hl
      have hk' : (W0.setCell ⟨eb, 0, none⟩ (.int .i64 er)).heap[w.heap.size]? = some (.deferred (some [])) := by rw [heap_setCell_other _ _ _ _ (by simp; omega)]; exact hk
      exact ⟨none, _, by have := run_endLoop (P := P) hl' (by rw [hrec]; simp); rw [hrec] at this; exact this, hdone _ xs er _ (Nat.le_refl _) hS (hIp _ _ _ (hIe _ _ _ hi) (by omega) hl' rfl) ((World.putObj_heap_other (by omega)).trans hk')⟩
end Go.Proofs.Ytckjmbpagippkaa
