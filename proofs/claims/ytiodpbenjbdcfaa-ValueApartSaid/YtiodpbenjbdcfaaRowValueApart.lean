import Derived.Test.YtiodpbenjbdcfaaG38
import Derived.WalkKit
namespace Go.Proofs.Ytiodpbenjbdcfaa.G
open Go.RowKit Go.Proofs.YtiodpbenjbdcfaaW.PrintWords Go.Proofs.YtiodpbenjbdcfaaW.PrintLast
def rosettelaw04_ValueApart.Pure : Prop := ∀ (a0_0 : Int) (a0_1 : Int) (a0_2 : ByteArray) (a1_0 : Int) (a1_1 : Int) (a1_2 : ByteArray), (Lit.int .i64 a0_0).wf = true → (Lit.int .i64 a0_1).wf = true → a0_2.size ≤ maxLen → (Lit.int .i64 a1_0).wf = true → (Lit.int .i64 a1_1).wf = true → a1_2.size ≤ maxLen → ∃ k, rosettelaw04_ValueApart.f k a0_0 a0_1 a0_2 a1_0 a1_1 a1_2 = some true
theorem rosettelaw04_ValueApart.walk (P : rosettelaw04_ValueApart.Pure) (a0_0 : Int) (a0_1 : Int) (a0_2 : ByteArray) (a1_0 : Int) (a1_1 : Int) (a1_2 : ByteArray) (w : World) (wa0_0 : (Lit.int .i64 a0_0).wf = true) (wa0_1 : (Lit.int .i64 a0_1).wf = true) (wa0_2 : a0_2.size ≤ maxLen) (wa1_0 : (Lit.int .i64 a1_0).wf = true) (wa1_1 : (Lit.int .i64 a1_1).wf = true) (wa1_2 : a1_2.size ≤ maxLen) :
    Calls Try.prog 5 #[.agg #[.int .i64 a0_0, .int .i64 a0_1, .string a0_2], .agg #[.int .i64 a1_0, .int .i64 a1_1, .string a1_2]] w fun e w' => e = .returned (.bool true) ∧ Below w.heap.size w w' := by
  obtain ⟨k, h⟩ := P a0_0 a0_1 a0_2 a1_0 a1_1 a1_2 wa0_0 wa0_1 wa0_2 wa1_0 wa1_1 wa1_2
  refine (rosettelaw04_ValueApart.calls k a0_0 a0_1 a0_2 a1_0 a1_1 a1_2 true w h).mono ?_
  rintro e w' ⟨rfl, hd⟩
  exact ⟨rfl, hd⟩
end Go.Proofs.Ytiodpbenjbdcfaa.G
