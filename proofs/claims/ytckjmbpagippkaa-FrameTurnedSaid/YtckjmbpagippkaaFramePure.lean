/- frames over lists: what is found first, and in all -/
import Derived.Test.YtckjmbpagippkaaAll
import Derived.Test.YtckjmbpagippkaaCrcPure
import Derived.Test.YtckjmbpagippkaaG7
set_option linter.unusedVariables false
set_option linter.unusedSimpArgs false
set_option autoImplicit false
namespace Go.Proofs.Ytckjmbpagippkaa
open Go.RowKit Go.Proofs.YtckjmbpagippkaaW.PrintWords Go.Proofs.YtckjmbpagippkaaW.PrintLast Go.Proofs.YtckjmbpagippkaaW.PrintMore Go.Proofs.Ytckjmbpagippkaa.G Go.Proofs.Ytckjmbpagippkaa.Pure

theorem opened_some {l h : List Int} {ok : Bool} (hu : u8s l) (ho : opened (CrcM.openB (nats l)) = (h, ok)) (hok : ok = true) : h.length + 4 = l.length ∧ u8s h := by
  cases hb : CrcM.openB (nats l) with
  | none => rw [hb] at ho; simp only [opened, Prod.mk.injEq] at ho; rw [← ho.2] at hok; cases hok
  | some y =>
    rw [hb] at ho
    simp only [opened, Prod.mk.injEq] at ho
    have hs := CrcM.open_some _ _ hb
    have hl := congrArg List.length hs
    rw [CrcM.sealB_length, nats_length] at hl
    rw [← ho.1, zof_length]
    refine ⟨hl, u8s_zof fun c hc => u8s_nats hu c ?_⟩
    rw [← hs]
    exact List.mem_append_left _ hc
theorem next_total (l : List Int) (hu : u8s l) (hl : l.length ≤ 1000000) : ∃ x n er, frame_Next.f l = some (x, n, er) ∧ (er = 0 → 0 < n ∧ n ≤ l.length) := by
  unfold frame_Next.f
  by_cases h6 : l.length < 6
  · rw [if_pos h6]; exact ⟨_, _, _, rfl, fun h => by cases h⟩
  rw [if_neg h6, open_some' (u8s_take hu 6) (by simp; omega)]
  obtain ⟨⟨h, ok⟩, ho⟩ : ∃ p, opened (CrcM.openB (nats (l.take 6))) = p := ⟨_, rfl⟩
  rw [ho]
  simp only [Option.bind_some]
  cases ok with
  | false => rw [if_pos rfl]; exact ⟨_, _, _, rfl, fun h => by cases h⟩
  | true =>
    obtain ⟨e1, e2⟩ := opened_some (u8s_take hu 6) ho rfl
    have e3 : h.length = 2 := by rw [List.length_take] at e1; omega
    have u0 := rd_u8 e2 0 (by omega)
    have u1 := rd_u8 e2 1 (by omega)
    rw [show ((0 : Nat) : Int) = 0 from rfl] at u0
    rw [show ((1 : Nat) : Int) = 1 from rfl] at u1
    rw [if_neg (by decide), if_pos ⟨e3, e2⟩]
    by_cases hb : rd h 0 + 256 * rd h 1 > 8192
    · rw [if_pos hb]; exact ⟨_, _, _, rfl, fun h => by cases h⟩
    rw [if_neg hb]
    by_cases hs : (l.length : Int) < rd h 0 + 256 * rd h 1 + 10
    · rw [if_pos hs]; exact ⟨_, _, _, rfl, fun h => by cases h⟩
    rw [if_neg hs, open_some' (u8s_drop (u8s_take hu _) 6) (by simp; omega)]
    obtain ⟨⟨x, ok2⟩, ho2⟩ : ∃ p, opened (CrcM.openB (nats ((l.take (rd h 0 + 256 * rd h 1 + 10).toNat).drop 6))) = p := ⟨_, rfl⟩
    rw [ho2]
    simp only [Option.bind_some]
    cases ok2 with
    | false => rw [if_pos rfl]; exact ⟨_, _, _, rfl, fun h => by cases h⟩
    | true => rw [if_neg (by decide)]; exact ⟨_, _, _, rfl, fun _ => by omega⟩
theorem next_from (l : List Int) (hu : u8s l) (hl : l.length ≤ 1000000) (k : Nat) : ∃ x n er, frame_Next.f (l.drop k) = some (x, n, er) ∧ (er = 0 → 0 < n ∧ (k : Int) + n ≤ l.length) := by
  obtain ⟨x, n, er, h1, h2⟩ := next_total (l.drop k) (u8s_drop hu k) (by rw [List.length_drop]; omega)
  refine ⟨x, n, er, h1, fun h => ?_⟩
  have := h2 h
  rw [List.length_drop] at this
  omega
/-- the run from a place on -/
inductive Runs (l : List Int) : Nat → List It → Int → Prop
  | stop {k : Nat} : l.length ≤ k → Runs l k [] 0
  | fail {k : Nat} {x : List Int} {n er : Int} : k < l.length → frame_Next.f (l.drop k) = some (x, n, er) → er ≠ 0 → Runs l k [] er
  | step {k : Nat} {x : List Int} {n : Int} {v : Value} {xs : List It} {er : Int} : k < l.length → frame_Next.f (l.drop k) = some (x, n, 0) → Runs l (k + n.toNat) xs er → Runs l k (⟨(k : Int) + n, v, x⟩ :: xs) er
theorem runs_of {l : List Int} {pre : List It} {k : Nat} (h : Walked l pre k) : ∀ (ys : List It) (er : Int), Runs l k ys er → Runs l 0 (pre ++ ys) er := by
  induction h with
  | start => intro ys er h; exact h
  | more h1 h2 h3 h4 h5 ih =>
    intro ys er h
    rw [List.append_assoc]
    exact ih _ _ (.step h2 h3 h)
theorem Ended.runs {l : List Int} {xs : List It} {er : Int} (h : Ended l xs er) : Runs l 0 xs er := by
  obtain ⟨k, hw, ⟨h1, rfl⟩ | ⟨h1, h2, x, n, h3⟩⟩ := h
  · simpa using runs_of hw [] 0 (.stop h1)
  · simpa using runs_of hw [] er (.fail h1 h3 h2)
end Go.Proofs.Ytckjmbpagippkaa
