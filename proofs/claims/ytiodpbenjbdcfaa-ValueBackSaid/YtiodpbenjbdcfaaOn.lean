import Derived.Test.YtiodpbenjbdcfaaScanW
import Derived.BigQuiet
import Derived.Deep.QuietTactic
import Derived.Test.YtiodpbenjbdcfaaGM0
set_option linter.unusedVariables false
set_option linter.unusedSimpArgs false
set_option autoImplicit false
namespace Go.Proofs.Ytiodpbenjbdcfaa
open Go.RowKit Go.Proofs.YtiodpbenjbdcfaaW.PrintWords Go.Proofs.YtiodpbenjbdcfaaW.PrintLast Go.Proofs.YtiodpbenjbdcfaaW.PrintMore Go.Proofs.Ytiodpbenjbdcfaa.G

theorem held_own {W : World} {base e : Nat} {ok : Nat → Prop} {v : Value} {xs : List Int} (h : (Kd.int .u8).R e W base ok v xs) :
    ∃ A c, v = .slice A xs.length c ∧ xs.length ≤ c ∧ c ≤ 9223372036854775807 ∧ HeldB W (fun k => base ≤ k ∧ k < W.heap.size) A xs ∧ (Kd.int .u8).C W A xs.length xs := by
  obtain ⟨A, c, rfl, hc, hC⟩ := own_C h
  obtain ⟨_, ho⟩ := kd_own h
  rcases ho with ⟨h1, h2⟩ | ⟨g, cap, cur, h1, h2, h3, h4, h5, h6, h7⟩
  · simp only [Value.slice.injEq] at h1
    obtain ⟨rfl, _, rfl⟩ := h1
    exact ⟨none, 0, rfl, by omega, by omega, fun h0 => absurd h0 (by omega), hC⟩
  · cases h1
    refine ⟨_, _, rfl, hc, by simpa [maxLen] using h5, HeldB.of_C hC ?_, hC⟩
    rintro ad hA _
    cases hA
    exact ⟨h2, lt_of_heap h3⟩
theorem HeldB.below {w w' : World} {S : Nat → Prop} {A : Option Addr} {l : List Int} (h : HeldB w S A l) (hb : Below w.heap.size w w') : HeldB w' S A l := h.keep fun k hk _ => hb.block k hk
theorem HeldB.grown {w w' : World} {S : Nat → Prop} {A : Option Addr} {l : List Int} {r : Nat} (h : HeldB w S A l) (hb : w.grownBy w' (some r)) (h2 : ¬ S r) : HeldB w' S A l :=
  h.keep fun k hk hs => hb.block k hk (fun e => by cases e; exact h2 hs)
theorem HeldB.low {w : World} {A : Option Addr} {l : List Int} (h : (Kd.int .u8).C w A l.length l) : HeldB w (fun k => k < w.heap.size) A l := by
  refine HeldB.of_C h ?_
  rintro ad rfl h0
  obtain ⟨_, _, hr⟩ := Kd.reads_of_C (d := (0 : Int)) h
  obtain ⟨ad', e, hc⟩ := hr h0
  cases e
  have := World.block_lt_of_cell? _ _ (hc 0 h0)
  rwa [add_block] at this
set_option maxRecDepth 100000 in
set_option maxHeartbeats 1000000 in
/-- a scan ahead of bytes: a block of its own, and bytes of its own -/
theorem won (A0 : Option Addr) (c0 : Nat) (l0 : List Int) (w : World) (hr0 : (Kd.int .u8).C w A0 l0.length l0) (hc0 : l0.length ≤ c0) (hu : u8s l0) (hl : l0.length ≤ 140737488355300) :
    Calls Try.prog 15 #[.slice A0 l0.length c0] w fun e w' => ∃ g, e = .returned (.pointer (some ⟨g, 0, none⟩)) ∧ w.heap.size ≤ g ∧ Scn 53 (fun k => w.heap.size ≤ k ∧ k < g) w' g ⟨l0, 0⟩ ∧ Below w.heap.size w w' := by
  have hcl := Aside0.mk (show slices_Clone_byte_byte.f l0 = some l0 by unfold slices_Clone_byte_byte.f; rw [if_pos (by omega)])
  have HU := Aside0.mk hu
  have HL := Aside0.mk hl
  clear hu hl
  go_enter Try.func15, Try.ntmps15
  go_wp2_with fail
  refine (slices_Clone_byte_byte.calls _ _ l0 l0 _ hr0 hc0 hcl.out).mono ?_
  rintro e w1 ⟨v1, rfl, hR1, hB1⟩
  obtain ⟨A1, n1, rfl, hc1, hm1, hH1, hC1⟩ := held_own hR1
  clear hr0 hR1 hC1 hc0
  have HB := Aside0.mk hB1
  have HH := Aside0.mk hH1
  clear hB1 hH1
  go_wp2_with fail
  go_ret
  have hB := HB.out
  have hh := heap_alloc_new w1 (.cells #[.slice A1 l0.length n1, .int .i64 0] 53)
  refine ⟨w1.heap.size, rfl, hB.size, ⟨HU.out, fun h => absurd rfl h, fun h => by omega, by have := HL.out; simp only; omega, by simp, A1, n1, hh, hc1, hm1, ?_⟩, hB.alloc hB.size _⟩
  exact HH.out.keep fun k hk _ => by rw [show (w1.alloc _).heap = w1.heap.push _ from rfl, Array.getElem?_push, if_neg (by omega)]
theorem Scn.drewN {T : Nat} {S : Nat → Prop} {w : World} {g : Nat} {s : Sc} (h : Scn T S w g s) (n : Nat) : Scn T S (w.drewN n) g s := h.below (pw_below_drewN (Below.refl _ _) n)
theorem werrq {S : Nat → Prop} {w : World} {g : Nat} {s : Sc} (h : Scn 53 S w g s) (n : Nat) :
    Calls Try.prog 19 #[.pointer (some ⟨g, 0, none⟩)] (w.drewN n) fun r w' => r = .returned (.int .i64 s.e) ∧ ∃ m, w' = w.drewN m := (werr (h.drewN n)).mono fun _ _ ⟨a, b⟩ => ⟨a, n, b.symm⟩
theorem wleftq {S : Nat → Prop} {w : World} {g : Nat} {s : Sc} (h : Scn 53 S w g s) (n : Nat) :
    Calls Try.prog 18 #[.pointer (some ⟨g, 0, none⟩)] (w.drewN n) fun r w' => r = .returned (.int .i64 s.l.length) ∧ ∃ m, w' = w.drewN m := (wleft (h.drewN n)).mono fun _ _ ⟨a, b⟩ => ⟨a, n, b.symm⟩
theorem wendq {S : Nat → Prop} {w : World} {g : Nat} {s : Sc} (h : Scn 53 S w g s) (n : Nat) :
    Calls Try.prog 20 #[.pointer (some ⟨g, 0, none⟩)] (w.drewN n) fun r w' => r = .returned (.int .i64 s.endE) ∧ ∃ m, w' = w.drewN m := (wend (h.drewN n)).mono fun _ _ ⟨a, b⟩ => ⟨a, n, b.symm⟩
/-- a slice of bytes as a text, in any world that has only drawn -/
theorem strq {w : World} {S : Nat → Prop} {A : Option Addr} {l : List Int} (h : HeldB w S A l) (hl : l.length ≤ 9223372036854775807) (c : Nat) (n : Nat) : (convert 24 9 (.slice A l.length c)).run Try.prog (w.drewN n) = .ok (.string (strOfNums l)) (w.drewN n) :=
  Kd.C_string (P := Try.prog) (A := A) (c := c) Try.underlying24 Try.underlying5 Try.underlying9 ((h.below (pw_below_drewN (Below.refl _ _) n)).C hl)
theorem HeldB.take {w : World} {S : Nat → Prop} {A : Option Addr} {a b : List Int} (h : HeldB w S A (a ++ b)) : HeldB w S A a := by
  intro h0
  obtain ⟨ad, rfl, hS, hc⟩ := h (by simp; omega)
  refine ⟨ad, rfl, hS, fun j hj => ?_⟩
  rw [hc j (by simp; omega)]
  simp [rd, List.getD_eq_getElem?_getD, List.getElem?_append_left hj]
end Go.Proofs.Ytiodpbenjbdcfaa
