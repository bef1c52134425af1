/- The statement CrcParts over numbers and lists: a sum that goes on piece by piece is the sum of the whole; any bytes, cut anywhere. -/
import Derived.Test.YtidgehkoigeolaaG17
import Derived.Test.YtidgehkoigeolaaCrcPure
namespace Go.Proofs.Ytidgehkoigeolaa.Pure
open Go.RowKit Go.Proofs.Ytidgehkoigeolaa.G Go.Proofs.YtidgehkoigeolaaW.PrintWords Go.Proofs.YtidgehkoigeolaaW.PrintLast

theorem add_parts (n : Nat) (a b : List Nat) : CrcM.add (CrcM.add n a) b = CrcM.add n (a ++ b) := by
  unfold CrcM.add
  generalize CrcM.M = m
  rw [CrcM.run_append, Nat.xor_assoc, Nat.xor_self, Nat.xor_zero]
theorem add_lt (s : Nat) (l : List Nat) (hl : CrcM.Bytes l) (hs : s < 4294967296) : CrcM.add s l < 4294967296 := by
  unfold CrcM.add
  exact Nat.xor_lt_two_pow (n := 32) (CrcM.run_lt _ hl _ (Nat.xor_lt_two_pow (n := 32) hs CrcM.M_lt)) CrcM.M_lt
theorem bind_of {α β : Type} {o : Option α} {f : α → Option β} {x : α} (h : o = some x) : o.bind f = f x := by rw [h]; rfl
theorem CrcParts : rosettelaw01_CrcParts.Pure := by
  intro a0 l1 a2 h0 _ hl hw _
  have hu := u8s_wf hw
  have hb := Go.bounds_u32 h0
  obtain ⟨s, rfl⟩ := Int.eq_ofNat_of_zero_le hb.1
  have hs : s < 4294967296 := by omega
  have J : rosettelaw01_CrcParts.j0 1 (s : Int) l1 a2 true true = some true := by simp [rosettelaw01_CrcParts.j0]
  refine ⟨1, ?_⟩
  unfold rosettelaw01_CrcParts.f rosettelaw01_small.f
  simp only [Option.bind_some]
  by_cases h1 : (l1.length : Int) > 1000
  · rw [if_pos h1]; exact J
  rw [if_neg h1]
  by_cases h2 : a2 < 0
  · rw [if_pos h2]; exact J
  rw [if_neg h2]
  by_cases h3 : a2 > (l1.length : Int)
  · rw [decide_eq_true h3]; exact J
  rw [decide_eq_false h3]
  simp only [rosettelaw01_CrcParts.j0]
  have h4 := add_lt s _ (u8s_nats (u8s_take hu a2.toNat)) hs
  have hA := add_some (u8s_take hu a2.toNat) s hs
  have hB := add_some (u8s_drop hu a2.toNat) _ h4
  have hC := add_some hu s hs
  have hD := sum_some hu
  have hE := add_some hu 0 (by decide)
  rw [add_parts, ← nats_append, List.take_append_drop] at hB
  rw [show CrcM.add 0 (nats l1) = CrcM.sum (nats l1) from rfl] at hE
  generalize CrcM.add s (nats (l1.take a2.toNat)) = t1 at hA hB
  generalize CrcM.add s (nats l1) = t2 at hB hC
  generalize CrcM.sum (nats l1) = t3 at hD hE
  simp only [Int.natCast_zero] at hE
  rw [if_neg (by decide), if_pos trivial, if_pos (by omega), if_pos (by omega)]
  refine (bind_of hA).trans ?_
  refine (bind_of hB).trans ?_
  refine (bind_of hC).trans ?_
  refine (if_pos rfl).trans ?_
  refine (bind_of hE).trans ?_
  refine (bind_of hD).trans ?_
  exact congrArg some (beq_self_eq_true _)
end Go.Proofs.Ytidgehkoigeolaa.Pure
