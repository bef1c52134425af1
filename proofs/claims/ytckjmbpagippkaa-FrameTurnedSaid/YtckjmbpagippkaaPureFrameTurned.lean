/- The statement FrameTurned over numbers and lists: a frame of which one, two or three bits are turned tells an error. -/
import Derived.Test.YtckjmbpagippkaaG27
import Derived.Test.YtckjmbpagippkaaCrcFlip
import Derived.Test.YtckjmbpagippkaaFrameFlip
namespace Go.Proofs.Ytckjmbpagippkaa.Pure
open Go.RowKit Go.Proofs.Ytckjmbpagippkaa.G Go.Proofs.YtckjmbpagippkaaW.PrintWords Go.Proofs.YtckjmbpagippkaaW.PrintLast

theorem bind_of2 {α β : Type} {o : Option α} {f : α → Option β} {x : α} (h : o = some x) : o.bind f = f x := by rw [h]; rfl
theorem FrameTurned : rosettelaw03_FrameTurned.Pure := by
  intro l0 a1 a2 a3 _ hl hw _ _ _
  have hu := u8s_wf hw
  refine ⟨2, ?_⟩
  unfold rosettelaw03_FrameTurned.f rosettelaw03_small.f
  by_cases hbig : 8192 < l0.length
  · rw [make_big hbig]
    simp only [Option.bind_some]
    rw [if_neg (by decide)]
    simp only [rosettelaw03_FrameTurned.j0]
    rw [if_neg (by decide), if_pos (by omega)]
    simp only [rosettelaw03_FrameTurned.j1]
    rw [if_pos trivial, if_pos trivial, if_neg (by decide), decide_eq_true (by omega)]
  refine (bind_of2 rfl).trans ?_
  refine (bind_of2 (make_some hu (by omega))).trans ?_
  refine (if_pos rfl).trans ?_
  show rosettelaw03_FrameTurned.j0 2 l0 a1 a2 a3 true (frz l0) 0 (wrap64 (8 * ((frz l0).length : Int))) (((frz l0).length : Int) != wrap64 ((l0.length : Int) + 10)) = some true
  have hs : u8s (frz l0) := frz_u8s hu (by omega)
  have hsl : (frz l0).length = l0.length + 10 := frz_length l0
  have J : ∀ t, rosettelaw03_FrameTurned.j1 1 l0 a1 a2 a3 true t 0 true = some true := fun t => by simp [rosettelaw03_FrameTurned.j1]
  rw [hsl, wrap_small _ (by omega) (by omega), wrap_small _ (by omega) (by omega)]
  rw [show (((l0.length + 10 : Nat) : Int) != ((l0.length : Int) + 10)) = false by simp]
  simp only [rosettelaw03_FrameTurned.j0]
  rw [if_neg (by decide)]
  by_cases h0 : (l0.length : Int) > 1000
  · rw [if_pos h0]; exact J _
  rw [if_neg h0, if_pos trivial]
  by_cases h1 : a1 < 0
  · rw [if_pos h1]; exact J _
  rw [if_neg h1]
  by_cases h2 : a1 ≥ 8 * ((l0.length + 10 : Nat) : Int)
  · rw [if_pos h2]; exact J _
  rw [if_neg h2]
  by_cases h3 : a2 < 0
  · rw [if_pos h3]; exact J _
  rw [if_neg h3]
  by_cases h4 : a2 ≥ 8 * ((l0.length + 10 : Nat) : Int)
  · rw [if_pos h4]; exact J _
  rw [if_neg h4]
  by_cases h5 : a3 < 0
  · rw [if_pos h5]; exact J _
  rw [if_neg h5]
  by_cases h6 : a3 ≥ 8 * ((l0.length + 10 : Nat) : Int)
  · rw [decide_eq_true h6]; exact J _
  rw [decide_eq_false h6]
  obtain ⟨p, rfl⟩ := Int.eq_ofNat_of_zero_le (show 0 ≤ a1 by omega)
  obtain ⟨q, rfl⟩ := Int.eq_ofNat_of_zero_le (show 0 ≤ a2 by omega)
  obtain ⟨r, rfl⟩ := Int.eq_ofNat_of_zero_le (show 0 ≤ a3 by omega)
  have hp : p < 8 * (l0.length + 10) := by omega
  have hq : q < 8 * (l0.length + 10) := by omega
  have hr : r < 8 * (l0.length + 10) := by omega
  have H := next_few hu (by omega) p q r hp hq hr
  have A := fun z (hz : z < 8 * (l0.length + 10)) => flip_at z (l0.length + 10) hz (by omega)
  have B := fun z (hz : z < 8 * (l0.length + 10)) => flip_by z (by omega)
  have F := fun (x : List Int) (hx : u8s x) (hxl : x.length = l0.length + 10) z (hz : z < 8 * (l0.length + 10)) => flip_step hx z (by omega) (by omega)
  have L := fun (x : List Int) (hxl : x.length = l0.length + 10) z => (flip_len x z).trans hxl
  simp only [rosettelaw03_FrameTurned.j1]
  rw [if_neg (by decide), hsl, if_pos (A p hp).1, if_pos (A p hp).2, if_pos (B p hp), F _ hs hsl p hp]
  simp only [Option.bind_some]
  have s1 := flip_u8s hs p
  have l1 := L _ hsl p
  unfold CrcM.places CrcM.flips at H
  by_cases e1 : (q : Int) = (p : Int)
  · have e1' : q = p := by omega
    subst e1'
    rw [if_pos rfl]
    by_cases e2 : (r : Int) = (q : Int)
    · have e2' : r = q := by omega
      subst e2'
      rw [if_pos rfl]
      simp only [ne_eq, not_true_eq_false, if_false, false_and, List.append_nil, List.foldl] at H
      rw [H]; rfl
    · have e2' : r ≠ q := by omega
      rw [if_neg e2, if_neg e2, if_pos (A r hr).1, if_pos (A r hr).2, if_pos (B r hr), F _ s1 l1 r hr, nats_zof]
      simp only [ne_eq, not_true_eq_false, if_false, e2', not_false_eq_true, and_self, if_true, List.nil_append, List.foldl] at H
      rw [H]; rfl
  · have e1' : q ≠ p := by omega
    rw [if_neg e1, if_pos (A q hq).1, if_pos (A q hq).2, if_pos (B q hq), F _ s1 l1 q hq, nats_zof]
    have s2 := flip_u8s s1 q
    have l2 := L _ l1 q
    rw [nats_zof] at s2 l2
    by_cases e2 : (r : Int) = (p : Int)
    · have e2' : r = p := by omega
      subst e2'
      rw [if_pos rfl]
      simp only [ne_eq, e1', not_false_eq_true, if_true, not_true_eq_false, false_and, if_false, List.append_nil, List.foldl] at H
      rw [H]; rfl
    · rw [if_neg e2]
      have e2' : r ≠ p := by omega
      by_cases e3 : (r : Int) = (q : Int)
      · have e3' : r = q := by omega
        subst e3'
        rw [if_pos rfl]
        simp only [ne_eq, e1', not_false_eq_true, if_true, not_true_eq_false, and_false, if_false, List.append_nil, List.foldl] at H
        rw [H]; rfl
      · have e3' : r ≠ q := by omega
        rw [if_neg e3, if_pos (A r hr).1, if_pos (A r hr).2, if_pos (B r hr), F _ s2 l2 r hr, nats_zof]
        simp only [ne_eq, e1', e2', e3', not_false_eq_true, if_true, and_self, List.cons_append, List.nil_append, List.foldl] at H
        rw [H]; rfl
end Go.Proofs.Ytckjmbpagippkaa.Pure
