/- Two rows of bytes that tell the same: rosetteref03.Same is true. -/
import Derived.Test.YtckjmbpagippkaaConcat
import Derived.BigQuiet
import Derived.Deep.QuietTactic
set_option linter.unusedVariables false
set_option linter.unusedSimpArgs false
set_option autoImplicit false
namespace Go.Proofs.Ytckjmbpagippkaa
open Go.RowKit Go.Proofs.YtckjmbpagippkaaW.PrintWords Go.Proofs.YtckjmbpagippkaaW.PrintLast Go.Proofs.YtckjmbpagippkaaW.PrintMore

def RowS (w : World) (A : Option Addr) (n : Nat) (L : Nat → List Int) : Prop :=
  ∀ i, i < n → ∃ (a : Addr) (P : Option Addr) (c : Nat), A = some a ∧ w.cell? (a.add i) = some (.slice P (L i).length c) ∧ (Kd.int .u8).C w P (L i).length (L i)
set_option maxRecDepth 100000 in
set_option maxHeartbeats 1000000 in
theorem same_true (A : Option Addr) (n c : Nat) (B : Option Addr) (d : Nat) (L : Nat → List Int) (w : World) (hn : n ≤ 9223372036854775807) (h1 : RowS w A n L) (h2 : RowS w B n L) :
    Calls Try.prog 15 #[.slice A n c, .slice B n d] w fun e w' => e = .returned (.bool true) ∧ Below w.heap.size w w' := by
  have H1 := Aside0.mk h1
  have H2 := Aside0.mk h2
  clear h1 h2
  go_enter Try.func15, Try.ntmps15
  go_wp2_with fail
  go_loopw [5] (fun i wr => ∃ k q : Nat, k ≤ n ∧ i = .int .i64 k ∧ wr = w.drewN q) (fun i _ => n - (intOf i).toNat)
  case atStart => exact ⟨0, 0, Nat.zero_le _, rfl, rfl⟩
  case round =>
    obtain ⟨k, q, hk, rfl, rfl⟩ := hrel
    by_cases hlt : k < n
    · obtain ⟨a, P, c1, rfl, e1, hC1⟩ := H1.out k hlt
      obtain ⟨b, R, c2, rfl, e2, hC2⟩ := H2.out k hlt
      have k1 : ∀ m, (w.drewN m).cell? (a.add k) = some (.slice P (L k).length c1) := fun m => e1
      have k2 : ∀ m, (w.drewN m).cell? (b.add k) = some (.slice R (L k).length c2) := fun m => e2
      have s1 : ∀ m, (convert 22 9 (.slice P (L k).length c1)).run Try.prog (w.drewN m) = .ok (.string (strOfNums (L k))) (w.drewN m) := fun m => strA (Kd.C_below hC1 (pw_below_drewN (Below.refl _ _) m)) c1
      have s2 : ∀ m, (convert 22 9 (.slice R (L k).length c2)).run Try.prog (w.drewN m) = .ok (.string (strOfNums (L k))) (w.drewN m) := fun m => strA (Kd.C_below hC2 (pw_below_drewN (Below.refl _ _) m)) c2
      clear hC1 hC2 e1 e2
      go_wp2_with fail
      go_quiet (fail)
      go_wp2
      exact ⟨⟨k + 1, q + nq, by omega, by simp, rfl⟩, by simp [intOf]; omega⟩
    · obtain rfl : k = n := by omega
      go_wp2
      go_ret
      exact ⟨rfl, pw_below_drewN (Below.refl _ _) _⟩
end Go.Proofs.Ytckjmbpagippkaa
