import Derived.Test.YtiodpbenjbdcfaaValueGetsW
import Derived.WalkKit
namespace Go.Proofs.Ytiodpbenjbdcfaa.G
open Go.RowKit Go.Proofs.YtiodpbenjbdcfaaW.PrintWords Go.Proofs.YtiodpbenjbdcfaaW.PrintLast
def rosettelaw04_ValueGets.Pure : Prop := ∀ (l0 : List Int) (a1 : Int), l0.length ≤ maxLen → l0.length * 1 ≤ 140737488351232 → (∀ x ∈ l0, (Lit.int .u8 x).wf = true) → (Lit.int .i64 a1).wf = true → rosettelaw04_ValueGets.f l0 a1 = some true
theorem rosettelaw04_ValueGets.walk (P : rosettelaw04_ValueGets.Pure) (a0 : Option Addr) (len0 cap0 : Nat) (z0 : List Int) (a1 : Int) (w : World) (w0 : (a0 = none ∧ len0 = 0 ∧ cap0 = 0 ∧ z0 = []) ∨ ∃ x, a0 = some x ∧ len0 ≤ cap0 ∧ cap0 ≤ maxLen ∧ z0.length = cap0 ∧ (∀ i, i < z0.length → w.cell? (x.add i) = some (.int .u8 (z0.getD i 0))) ∧ ∀ n ∈ z0, (Lit.int .u8 n).wf = true) (y0 : len0 * 1 ≤ 140737488351232) (wa1 : (Lit.int .i64 a1).wf = true) :
    Calls Try.prog 6 #[.slice a0 len0 cap0, .int .i64 a1] w fun e w' => e = .returned (.bool true) ∧ Below w.heap.size w w' := by
  have hk0 : cap0 ≤ 9223372036854775807 := by
    rcases w0 with ⟨_, _, h, _⟩ | ⟨_, _, _, h, _⟩
    · rw [h]; decide
    · simpa [maxLen] using h
  obtain ⟨l0, rfl, hr0, hm0, hw0, hc0⟩ := ReadsInt.ofRowC w0
  have h := P l0 a1 hm0 y0 hw0 wa1
  refine (rosettelaw04_ValueGets.calls _ _ l0 a1 true w (Kd.C_of_reads (d := (0 : Int)) (h1 := fun _ => rfl) hr0) hc0 hk0 h).mono ?_
  rintro e w' ⟨rfl, hd⟩
  exact ⟨rfl, hd⟩
end Go.Proofs.Ytiodpbenjbdcfaa.G
