/- The statement FirstBack over numbers and lists: what was laid is read as it was; what is read is right, and was laid just so. -/
import Derived.Test.YtkdhcmmfklganaaZFirstBack2
import Derived.OpenShut
import Derived.Test.YtkdhcmmfklganaaZFirstBack0
import Derived.Deep.Slices
import Derived.DataReads
import Derived.ChangeShapes
import Derived.WideLaws
import Derived.SizedLaws
import Derived.Test.YtkdhcmmfklganaaProg
import Derived.Test.YtkdhcmmfklganaaRows
import Derived.WalkKit
import Derived.ProofKit
import Derived.ShutString
import Derived.ChangeOld
import Derived.Below
import Derived.Lib.SmallJoins
section
/- states of the first broker as bytes: what is read was laid so; a state is the same as itself; plain laws -/
set_option linter.unusedVariables false
set_option autoImplicit false
namespace Go.Proofs.Ytkdhcmmfklganaa
open Go.RowKit Go.Proofs.YtkdhcmmfklganaaW.PrintWords Go.Proofs.YtkdhcmmfklganaaW.PrintLast Go.Proofs.Ytkdhcmmfklganaa.G

theorem bnd_ok {α β : Type} {P : Sc → α × Sc} {Q : α → Sc → β × Sc} (hQ : ∀ a, Pars.Good (Q a)) {l : List Int} {v : β} {r : List Int} (h : Pars.bnd P Q ⟨l, 0⟩ = (v, ⟨r, 0⟩)) : ∃ a r1, P ⟨l, 0⟩ = (a, ⟨r1, 0⟩) ∧ Q a ⟨r1, 0⟩ = (v, ⟨r, 0⟩) := by
  unfold Pars.bnd at h
  obtain ⟨⟨a, s1⟩, h1⟩ : ∃ p, P ⟨l, 0⟩ = p := ⟨_, rfl⟩
  rw [h1] at h
  simp only at h
  have e1 : s1.e = 0 := Classical.byContradiction fun he => by
    have := (hQ a).err s1 he
    rw [h] at this
    rw [← this] at he
    exact he rfl
  have es := Pars.eta0 s1 e1
  rw [es] at h h1
  exact ⟨a, s1.l, h1, h⟩
theorem take_once {l t r : List Int} {n : Nat} (h : (⟨l, 0⟩ : Sc).take n = (t, ⟨r, 0⟩)) : l = t ++ r ∧ t.length = n := by
  unfold Sc.take at h
  rw [if_pos rfl] at h
  split at h
  · obtain ⟨_, h⟩ := Prod.mk.inj h
    cases h
  · rename_i hlt
    have hlt' : ¬ l.length < n := hlt
    obtain ⟨hv, hr⟩ := Prod.mk.inj h
    have hr := congrArg Sc.l hr
    simp only at hv hr
    subst hv
    subst hr
    exact ⟨(List.take_append_drop n l).symm, by rw [List.length_take]; omega⟩
theorem num_once {l r : List Int} {n : Int} {k : Nat} (h : (⟨l, 0⟩ : Sc).num k = (n, ⟨r, 0⟩)) : ∃ t, l = t ++ r ∧ t.length = k ∧ n = big t 0 := by
  unfold Sc.num at h
  obtain ⟨h1, h2⟩ := Prod.mk.inj h
  obtain ⟨a, b⟩ := take_once (l := l) (t := ((⟨l, 0⟩ : Sc).take k).1) (r := r) (n := k) (by rw [← h2])
  exact ⟨_, a, b, h1.symm⟩
theorem two_once {l r : List Int} {n : Int} (hu : u8s l) (h : (⟨l, 0⟩ : Sc).num 2 = (n, ⟨r, 0⟩)) : l = twoB n ++ r := by
  obtain ⟨t, rfl, ht, hn⟩ := num_once h
  match t, ht with
  | [a, b], _ =>
    have ha := hu a (by simp)
    have hb := hu b (by simp)
    simp only [big] at hn
    unfold twoB
    rw [show n / 256 % 256 = a by omega, show n % 256 = b by omega]
theorem four_once {l r : List Int} {n : Int} (hu : u8s l) (h : (⟨l, 0⟩ : Sc).num 4 = (n, ⟨r, 0⟩)) : l = fourB (sgn n) ++ r := by
  obtain ⟨t, rfl, ht, hn⟩ := num_once h
  match t, ht with
  | [a, b, c, d], _ =>
    have ha := hu a (by simp)
    have hb := hu b (by simp)
    have hc := hu c (by simp)
    have hd := hu d (by simp)
    simp only [big] at hn
    have e : sgn n / 65536 / 256 % 256 = a ∧ sgn n / 65536 % 256 = b ∧ sgn n / 256 % 256 = c ∧ sgn n % 256 = d := by
      unfold sgn
      split <;> omega
    unfold fourB twoB
    rw [e.1, e.2.1, e.2.2.1, e.2.2.2]
    rfl
theorem count_once {l r : List Int} {n m : Int} (hu : u8s l) (h : (⟨l, 0⟩ : Sc).count m = (n, ⟨r, 0⟩)) : l = [n] ++ r ∧ 0 ≤ n := by
  unfold Sc.count at h
  split at h
  · obtain ⟨_, h⟩ := Prod.mk.inj h
    unfold Sc.fail at h
    split at h
    · cases h
    · rename_i he
      rw [h] at he
      exact absurd rfl he
  · obtain ⟨t, rfl, ht, hn⟩ := num_once h
    match t, ht with
    | [a], _ =>
      have ha := hu a (by simp)
      simp only [big] at hn
      obtain rfl : n = a := by omega
      exact ⟨rfl, ha.1⟩
theorem u8s_right {a b : List Int} (h : u8s (a ++ b)) : u8s b := (u8s_append.1 h).2
theorem u8s_left {a b : List Int} (h : u8s (a ++ b)) : u8s a := (u8s_append.1 h).1
theorem bytes_str {t : List Int} (h : u8s t) : bytesOf (strOfNums t) = t := by
  unfold strOfNums bytesOf
  simp only [List.map_map]
  refine (List.map_congr_left (g := fun x => x) fun x hx => ?_).trans (List.map_id'' (fun _ => rfl) t)
  show ((UInt8.ofNat x.toNat).toNat : Int) = x
  have := h x hx
  rw [UInt8.toNat_ofNat']
  omega
theorem rg_once (l : List Int) (x : S46) (r : List Int) (hu : u8s l) (h : rgP ⟨l, 0⟩ = (x, ⟨r, 0⟩)) : l = rgL x ++ r := by
  unfold rgP at h
  obtain ⟨c, r1, h1, h⟩ := bnd_ok (by exact fun c => Pars.Good.bnd (Pars.Good.take c.toNat) fun t => Pars.Good.bnd (Pars.Good.num 4) fun lo => Pars.Good.bnd (Pars.Good.num 4) fun hi => Pars.Good.pure _) h
  obtain ⟨t, r2, h2, h⟩ := bnd_ok (by exact fun t => Pars.Good.bnd (Pars.Good.num 4) fun lo => Pars.Good.bnd (Pars.Good.num 4) fun hi => Pars.Good.pure _) h
  obtain ⟨lo, r3, h3, h⟩ := bnd_ok (by exact fun lo => Pars.Good.bnd (Pars.Good.num 4) fun hi => Pars.Good.pure _) h
  obtain ⟨hi, r4, h4, h⟩ := bnd_ok (by exact fun hi => Pars.Good.pure _) h
  obtain ⟨rfl, h⟩ := Prod.mk.inj h
  cases h
  obtain ⟨rfl, hc⟩ := count_once hu h1
  have hu1 := u8s_right hu
  obtain ⟨rfl, ht⟩ := take_once h2
  have hu2 := u8s_right hu1
  have e3 := four_once hu2 h3
  subst e3
  have e4 := four_once (u8s_right hu2) h4
  subst e4
  have hb := bytes_str (u8s_left hu1)
  have hs : ((strOfNums t).size : Int) = c := by rw [← bytesOf_length, hb, ht]; omega
  unfold rgL
  simp only
  rw [hb, hs]
  simp [List.append_assoc]
theorem sub_once (l : List Int) (x : S40) (r : List Int) (hu : u8s l) (h : subP ⟨l, 0⟩ = (x, ⟨r, 0⟩)) : l = subL x ++ r := by
  unfold subP at h
  obtain ⟨a, r1, h1, h⟩ := bnd_ok (by exact fun a => Pars.Good.bnd (Pars.Good.num 2) fun fr => Pars.Good.bnd (Pars.Good.count 12) fun n => Pars.Good.bnd (Pars.Good.rep good_rg n.toNat) fun rs => Pars.Good.pure _) h
  obtain ⟨b, r2, h2, h⟩ := bnd_ok (by exact fun fr => Pars.Good.bnd (Pars.Good.count 12) fun n => Pars.Good.bnd (Pars.Good.rep good_rg n.toNat) fun rs => Pars.Good.pure _) h
  obtain ⟨n, r3, h3, h⟩ := bnd_ok (by exact fun n => Pars.Good.bnd (Pars.Good.rep good_rg n.toNat) fun rs => Pars.Good.pure _) h
  obtain ⟨rs, r4, h4, h⟩ := bnd_ok (by exact fun rs => Pars.Good.pure _) h
  obtain ⟨rfl, h⟩ := Prod.mk.inj h
  cases h
  have e1 := two_once hu h1
  subst e1
  have hu1 := u8s_right hu
  have e2 := two_once hu1 h2
  subst e2
  have hu2 := u8s_right hu1
  obtain ⟨rfl, hn⟩ := count_once hu2 h3
  have hu3 := u8s_right hu2
  obtain ⟨e4, e5⟩ := Pars.rep_once good_rg rgL u8s (fun _ _ => u8s_right) rg_once n.toNat _ _ _ hu3 h4
  subst e5
  unfold subL
  simp only
  rw [show (rs.length : Int) = n by omega]
  simp [List.append_assoc]
theorem f_once {l r : List Int} {links : List Int} {subs : List S40} (hu : u8s l) (h : fP ⟨l, 0⟩ = ((links, subs), ⟨r, 0⟩)) : l = bodyL links subs ++ r := by
  unfold fP at h
  obtain ⟨n, r1, h1, h⟩ := bnd_ok (by exact fun n => Pars.Good.bnd (Pars.Good.rep (Pars.Good.num 2) n.toNat) fun links => Pars.Good.bnd (Pars.Good.count 64) fun m => Pars.Good.bnd (Pars.Good.rep good_sub m.toNat) fun subs => Pars.Good.pure _) h
  obtain ⟨lk, r2, h2, h⟩ := bnd_ok (by exact fun links => Pars.Good.bnd (Pars.Good.count 64) fun m => Pars.Good.bnd (Pars.Good.rep good_sub m.toNat) fun subs => Pars.Good.pure _) h
  obtain ⟨m, r3, h3, h⟩ := bnd_ok (by exact fun m => Pars.Good.bnd (Pars.Good.rep good_sub m.toNat) fun subs => Pars.Good.pure _) h
  obtain ⟨sb, r4, h4, h⟩ := bnd_ok (by exact fun subs => Pars.Good.pure _) h
  obtain ⟨hh, h⟩ := Prod.mk.inj h
  obtain ⟨rfl, rfl⟩ := Prod.mk.inj hh
  cases h
  obtain ⟨rfl, hn⟩ := count_once hu h1
  have hu1 := u8s_right hu
  obtain ⟨e2, e3⟩ := Pars.rep_once (Pars.Good.num 2) twoB u8s (fun _ _ => u8s_right) (fun l v r hl h => two_once hl h) n.toNat _ _ _ hu1 h2
  subst e3
  have hu2 := u8s_right hu1
  obtain ⟨rfl, hm⟩ := count_once hu2 h3
  have hu3 := u8s_right hu2
  obtain ⟨e4, e5⟩ := Pars.rep_once good_sub subL u8s (fun _ _ => u8s_right) sub_once m.toNat _ _ _ hu3 h4
  subst e5
  unfold bodyL
  rw [show (lk.length : Int) = n by omega, show (sb.length : Int) = m by omega]
  simp [List.append_assoc]
theorem dec_back {links : List Int} {subs : List S40} (hr : rightB links subs = true) : dec15 (encL links subs) = ((links, subs), 0) := by
  have hb := f_back (fit_of hr) []
  rw [List.append_nil] at hb
  rw [enc_body, dec_head, hb]
  have e : (⟨[], 0⟩ : Sc).endE = 0 := rfl
  simp only [e]
  rw [if_neg (by decide), if_pos hr]
theorem dec_bad {l : List Int} (h : (dec15 l).2 ≠ 0) : (dec15 l).1 = ([], []) := by
  unfold dec15 at h ⊢
  repeat' split
  all_goals first | rfl | (simp_all)
theorem dec_once {l : List Int} (hu : u8s l) (h : (dec15 l).2 = 0) : rightB (dec15 l).1.1 (dec15 l).1.2 = true ∧ encL (dec15 l).1.1 (dec15 l).1.2 = l := by
  by_cases h1 : l.length < 4
  · unfold dec15 at h
    rw [if_pos h1] at h
    cases h
  by_cases h2 : l.take 3 ≠ [82, 83, 84]
  · unfold dec15 at h
    rw [if_neg h1, if_pos h2] at h
    cases h
  by_cases h3 : l.take 4 ≠ [82, 83, 84, 1]
  · unfold dec15 at h
    rw [if_neg h1, if_neg h2, if_pos h3] at h
    cases h
  have h3' : l.take 4 = [82, 83, 84, 1] := Classical.byContradiction h3
  have hl : l = [82, 83, 84, 1] ++ l.drop 4 := by rw [← h3', List.take_append_drop]
  have hu' : u8s (l.drop 4) := u8s_drop hu 4
  generalize l.drop 4 = m at hl hu'
  subst hl
  rw [dec_head] at h ⊢
  obtain ⟨⟨⟨lk, sb⟩, s⟩, hf⟩ : ∃ p, fP ⟨m, 0⟩ = p := ⟨_, rfl⟩
  rw [hf] at h ⊢
  simp only at h ⊢
  by_cases he : s.endE ≠ 0
  · rw [if_pos he] at h
    exact absurd h he
  · have he' : s.endE = 0 := Classical.byContradiction he
    rw [if_neg he] at h ⊢
    by_cases hr : rightB lk sb = true
    · rw [if_pos hr]
      refine ⟨hr, ?_⟩
      unfold Sc.endE at he'
      split at he'
      · cases he'
      · rename_i hn
        have hs0 : s.l = [] := by
          cases hsl : s.l with
          | nil => rfl
          | cons a b => exact absurd ⟨he', by rw [hsl]; simp⟩ hn
        have hs : s = ⟨[], 0⟩ := by cases s; simp only at he' hs0; rw [he', hs0]
        rw [hs] at hf
        have := f_once hu' hf
        rw [List.append_nil] at this
        rw [enc_body, ← this]
    · rw [if_neg hr] at h
      cases h
/-- a state is the same as itself -/
theorem ints_self (l : List Int) (hl : l.length ≤ 4611686018427387904) : ∀ (d k i : Nat), i + d = l.length → d < k → rosetteref11_Ints.l0 k l l (i : Int) = some true := by
  intro d
  induction d with
  | zero =>
    intro k i hi hk
    obtain ⟨k, rfl⟩ : ∃ m, k = m + 1 := ⟨k - 1, by omega⟩
    simp only [rosetteref11_Ints.l0]
    rw [if_neg (by omega)]
  | succ d ih =>
    intro k i hi hk
    obtain ⟨k, rfl⟩ : ∃ m, k = m + 1 := ⟨k - 1, by omega⟩
    simp only [rosetteref11_Ints.l0]
    rw [if_pos (by omega), if_pos (by omega), if_pos (by omega), if_pos trivial, show wrap64 ((i : Int) + 1) = ((i + 1 : Nat) : Int) by unfold wrap64; omega]
    exact ih k (i + 1) (by omega) (by omega)
theorem same_in (l : List Int) (s : List S40) (hs : s.length ≤ 4611686018427387904) (i : Nat) (hi : i < s.length) (f0 f1 : Int) (f2 : List S46) (hf : f2.length ≤ 4611686018427387904)
    (h0 : ∃ K, ∀ k, K ≤ k → rosetteref15_Same.l0 k ((i + 1 : Nat) : Int) l s l s = some true) : ∀ (d j : Nat), j + d = f2.length → ∃ K, ∀ k, K ≤ k → rosetteref15_Same.l1 k (i : Int) (j : Int) l s l s f0 f1 f2 f0 f1 f2 = some true := by
  intro d
  induction d with
  | zero =>
    intro j hj
    obtain ⟨K, h⟩ := h0
    refine ⟨K + 1, fun k hk => ?_⟩
    obtain ⟨k, rfl⟩ : ∃ m, k = m + 1 := ⟨k - 1, by omega⟩
    simp only [rosetteref15_Same.l1]
    rw [if_neg (by omega), show wrap64 ((i : Int) + 1) = ((i + 1 : Nat) : Int) by unfold wrap64; omega]
    exact h k (by omega)
  | succ d ih =>
    intro j hj
    obtain ⟨K, h⟩ := ih (j + 1) (by omega)
    refine ⟨K + 1, fun k hk => ?_⟩
    obtain ⟨k, rfl⟩ : ∃ m, k = m + 1 := ⟨k - 1, by omega⟩
    simp only [rosetteref15_Same.l1]
    rw [if_pos (by omega), if_pos (by omega), if_pos (by omega), if_neg (by simp), show wrap64 ((j : Int) + 1) = ((j + 1 : Nat) : Int) by unfold wrap64; omega]
    exact h k (by omega)
theorem same_out (l : List Int) (s : List S40) (hs : s.length ≤ 4611686018427387904) (hr : ∀ x ∈ s, x.f2.length ≤ 4611686018427387904) : ∀ (d i : Nat), i + d = s.length → ∃ K, ∀ k, K ≤ k → rosetteref15_Same.l0 k (i : Int) l s l s = some true := by
  intro d
  induction d with
  | zero =>
    intro i hi
    refine ⟨1, fun k hk => ?_⟩
    obtain ⟨k, rfl⟩ : ∃ m, k = m + 1 := ⟨k - 1, by omega⟩
    simp only [rosetteref15_Same.l0]
    rw [if_neg (by omega)]
  | succ d ih =>
    intro i hi
    have hi' : i < s.length := by omega
    have e : rd_T40 s (i : Int) = s[i] := by simp [rd_T40, List.getD_eq_getElem?_getD, hi']
    obtain ⟨K, h⟩ := same_in l s hs i hi' (rd_T40 s (i : Int)).f0 (rd_T40 s (i : Int)).f1 (rd_T40 s (i : Int)).f2 (by rw [e]; exact hr _ (List.getElem_mem hi')) (ih (i + 1) (by omega)) (rd_T40 s (i : Int)).f2.length 0 (by omega)
    refine ⟨K + 2, fun k hk => ?_⟩
    obtain ⟨k, rfl⟩ : ∃ m, k = m + 2 := ⟨k - 2, by omega⟩
    have c1 : (i : Int) < (s.length : Int) := by omega
    have c2 : (0 : Int) ≤ (i : Int) := by omega
    simp only [rosetteref15_Same.l0, rosetteref15_Same.j2, c1, c2, if_true, bne_self_eq_false, Bool.false_eq_true, if_false]
    exact h k (by omega)
theorem same_self (l : List Int) (s : List S40) (hl : l.length ≤ 4611686018427387904) (hs : s.length ≤ 4611686018427387904) (hr : ∀ x ∈ s, x.f2.length ≤ 4611686018427387904) : ∃ K, ∀ k, K ≤ k → rosetteref15_Same.f k l s l s = some true := by
  obtain ⟨K, h⟩ := same_out l s hs hr s.length 0 (by omega)
  refine ⟨K + l.length + 2, fun k hk => ?_⟩
  have hi : rosetteref11_Ints.f k l l = some true := by
    unfold rosetteref11_Ints.f
    rw [if_pos rfl]
    exact ints_self l hl l.length k 0 (by omega) (by omega)
  unfold rosetteref15_Same.f
  rw [hi, Option.bind_some, if_pos rfl]
  obtain ⟨k, rfl⟩ : ∃ m, k = m + 1 := ⟨k - 1, by omega⟩
  simp only [rosetteref15_Same.j0]
  rw [if_neg (by simp)]
  exact h k (by omega)
theorem fuel_up {α : Type} {f : Nat → Option α} (h : ∀ k, LeO (f k) (f (k + 1))) {k : Nat} {b : α} (hb : f k = some b) : ∀ d, f (k + d) = some b := by
  intro d
  induction d with
  | zero => exact hb
  | succ d ih => exact h _ _ ih
end Go.Proofs.Ytkdhcmmfklganaa
end

section
/- The statement FirstBack over numbers and lists: what was laid is read as it was; what is read is right, and was laid just so. -/
namespace Go.Proofs.Ytkdhcmmfklganaa.Pure
open Go.RowKit Go.Proofs.Ytkdhcmmfklganaa Go.Proofs.Ytkdhcmmfklganaa.G Go.Proofs.YtkdhcmmfklganaaW.PrintWords Go.Proofs.YtkdhcmmfklganaaW.PrintLast

theorem u8s_ofB {l : List Int} (h : ∀ x ∈ l, (Lit.int .u8 x).wf = true) : u8s l := by
  intro x hx
  have := Go.bounds_u8 (h x hx)
  omega
theorem FirstBack : rosettelaw15_FirstBack.Pure := by
  intro a0 l1 hp h1
  have hb1 : a0.f1.length ≤ 4611686018427387904 := by have := hp.2.1.2; omega
  have hb2 : ∀ x ∈ a0.f1, x.f2.length ≤ 4611686018427387904 := fun x hx => by have := (hp.2.2 x hx).2.2.1.2; omega
  obtain ⟨k1, b, hk⟩ := few_some a0.f0 a0.f1 hb1 hb2
  obtain ⟨k2, hs⟩ := same_self a0.f0 a0.f1 (by have := hp.1.1.2; omega) hb1 hb2
  refine ⟨k1 + k2, ?_⟩
  unfold rosettelaw15_FirstBack.f
  rw [fuel_up (f := fun k => rosettelaw15_Few.f k a0.f0 a0.f1) (fun k => rosettelaw15_Few.mono _ _ k) hk k2, Option.bind_some]
  unfold backF
  by_cases c : b = false ∨ l1.length > 2000
  · exact if_pos c
  · refine (if_neg c).trans (if_pos ?_)
    have hu := u8s_ofB h1.2
    exact ⟨fun hr => ⟨enc_len (fit_of hr), enc_u8s (fit_of hr), dec_back hr, hs _ (by omega)⟩, hu, dec_bad, dec_once hu⟩
end Go.Proofs.Ytkdhcmmfklganaa.Pure
end

section
/- What comes in, opened kind by kind: a datum that is read whole reads as a list, a structure, a number; and no slice and no text of it is longer than the form's reach. -/
set_option linter.unusedVariables false
set_option linter.unusedSimpArgs false
set_option autoImplicit false
namespace Go.Proofs.Ytkdhcmmfklganaa.Op
open Go.RowKit Go.Deep Go.ChangeShapes Go.WideShapes Go.Proofs.YtkdhcmmfklganaaW.PrintWords

section
variable {H α β : Type} (enc : TypeId × Value → H) (P : Program) (W : World)
/-- no part of a datum is longer than the reach -/
def Lite (P : Program) (t : TypeId) (d : DataW H) : Prop := ∀ n ∈ d.weights P t, n ≤ 140737488351232
/-- whatever is read at type t, and is no longer than the reach, is of the kind d, and good -/
def Opens (t : TypeId) (d : Kd α) (good : α → Prop) : Prop :=
  ∀ fuel (cs : List Value) x, DataW.trod enc P W 0 (fun _ => true) true fuel t cs = some x → Lite P t x.1 → ∃ a, d.K W a cs ∧ good a
def OpensF (fs : List Field) (o : Nat) (d : Kd α) (good : α → Prop) : Prop :=
  ∀ fuel (cs : List Value) xs, (fs.mapM fun f => DataW.trod enc P W 0 (fun _ => true) true fuel f.type ((cs.drop f.offset).take (P.cellsOf f.type))) = some xs → (∀ n ∈ DataW.weightsEach P (fs.map (·.type)) (xs.map (·.1)), n ≤ 140737488351232) → cs.length = o + d.sz → ∃ a, d.K W a (cs.drop o) ∧ good a
variable {enc P W}
theorem opens_int {t : TypeId} {k : IntKind} (ht : P.underlying t = some (.int k)) : Opens enc P W t (Kd.int k) (fun n => (Lit.int k n).wf = true) := by
  intro fuel cs x h _
  obtain ⟨n, h1, _, h2⟩ := DataW.trod_int ht h
  exact ⟨n, h1, h2⟩
theorem opens_bool {t : TypeId} (ht : P.underlying t = some .bool) : Opens enc P W t Kd.bool (fun _ => True) := by
  intro fuel cs x h _
  obtain ⟨n, h1, _⟩ := DataW.trod_bool ht h
  exact ⟨n, h1, trivial⟩
theorem opens_str {t : TypeId} (ht : P.underlying t = some .string) : Opens enc P W t Kd.string (fun s => s.size ≤ 140737488351232) := by
  intro fuel cs x h hl
  obtain ⟨s, h1, h2, _⟩ := DataW.trod_string ht h
  refine ⟨s, h1, ?_⟩
  rw [h2] at hl
  have := hl s.data.toList.length (by simp [DataW.weights])
  rw [Array.length_toList] at this
  exact this
theorem weightsAll_mem {e : TypeId} : ∀ {ds : List (DataW H)} {d : DataW H}, d ∈ ds → ∀ n ∈ d.weights P e, n ∈ DataW.weightsAll P e ds := by
  intro ds
  induction ds with
  | nil => intro d h; cases h
  | cons y ys ih =>
    intro d h n hn
    rw [DataW.weightsAll]
    rcases List.mem_cons.1 h with rfl | h
    · exact List.mem_append_left _ hn
    · exact List.mem_append_right _ (ih h n hn)
theorem opens_slice {t e : TypeId} {d : Kd α} {good : α → Prop} {B : Nat} (ht : P.underlying t = some (.slice e)) (hs : P.cellsOf e = d.sz) (hB : P.bytesOf e = B) (h : Opens enc P W e d good) :
    Opens enc P W t (Kd.slice e d) (fun xs => (xs.length ≤ maxLen ∧ xs.length * B ≤ 140737488351232) ∧ ∀ x ∈ xs, good x) := by
  intro fuel cs x hx hw
  rcases open_slice ht hx with ⟨rfl, _⟩ | ⟨a, len, cap, m, n, D, Pl, rfl, hb, hl, hm, hmm, rfl, hel⟩
  · exact ⟨[], ⟨none, 0, rfl, Nat.le_refl _, Kd.C_nil _ _⟩, ⟨Nat.zero_le _, by simp⟩, fun _ h => by cases h⟩
  · simp only [if_true] at hmm
    have hwt : ∀ n ∈ (len + (m - len)) * P.bytesOf e :: (DataW.weightsAll P e ((List.range len).map D) ++ DataW.weightsAll P e ((List.range (m - len)).map fun j => D (len + j))), n ≤ 140737488351232 := by
      have h1 := hw
      unfold Lite at h1
      rw [DataW.weights] at h1
      simp only [ht, List.length_map, List.length_range] at h1
      exact h1
    have hlenB : len * B ≤ 140737488351232 := by
      have h1 := hwt _ List.mem_cons_self
      rw [hB] at h1
      exact Nat.le_trans (Nat.mul_le_mul_right _ (by omega)) h1
    have hlite : ∀ i, i < len → Lite P e (D i) := fun i hi n hn => hwt n (List.mem_cons_of_mem _ (List.mem_append_left _ (weightsAll_mem (List.mem_map.2 ⟨i, List.mem_range.2 hi, rfl⟩) n hn)))
    have each : ∀ i, i < len → ∃ y : α, ∃ c, W.cells? 0 (a.add (i * P.cellsOf e)) (P.cellsOf e) = some c ∧ d.K W y c ∧ good y := by
      intro i hi
      obtain ⟨c, h1, h2⟩ := hel i (by omega)
      obtain ⟨y, h3, h4⟩ := h _ _ _ h2 (hlite i hi)
      exact ⟨y, c, h1, h3, h4⟩
    have build : ∃ xs : List α, xs.length = len ∧ ∀ i y, xs[i]? = some y → ∃ c, W.cells? 0 (a.add (i * P.cellsOf e)) (P.cellsOf e) = some c ∧ d.K W y c ∧ good y := by
      clear hx hel hm hl hb hmm hw hwt hlenB hlite
      induction len with
      | zero => exact ⟨[], rfl, fun i y h => by simp at h⟩
      | succ len ih =>
        obtain ⟨xs, h1, h2⟩ := ih (fun i hi => each i (by omega))
        obtain ⟨y, c, h3, h4, h5⟩ := each len (by omega)
        refine ⟨xs ++ [y], by simp [h1], fun i z hz => ?_⟩
        by_cases hi : i < len
        · exact h2 i z (by rw [List.getElem?_append_left (by omega)] at hz; exact hz)
        · have hi2 : i < (xs ++ [y]).length := (List.getElem?_eq_some_iff.1 hz).1
          have : i = len := by rw [List.length_append, List.length_singleton] at hi2; omega
          subst this
          rw [List.getElem?_append_right (by omega), h1, Nat.sub_self] at hz
          simp only [List.getElem?_cons_zero, Option.some.injEq] at hz
          subst hz
          exact ⟨c, h3, h4, h5⟩
    obtain ⟨xs, h1, h2⟩ := build
    refine ⟨xs, ⟨some a, cap, by rw [h1], by omega, rfl, by rw [h1]; simp only [maxLen] at hm; omega, fun h0 => ⟨a, rfl, fun j p hj => ?_⟩⟩, ⟨by omega, by rw [h1]; exact hlenB⟩, fun y hy => ?_⟩
    · obtain ⟨c, h3, h4, h5⟩ := h2 j p hj
      obtain ⟨_, hlen, hcell⟩ := World.cells?_some h3
      refine ⟨c, by rw [hlen, hs], h4, fun i u hu => ?_⟩
      have hi : i < P.cellsOf e := by rw [← hlen]; exact (List.getElem?_eq_some_iff.1 hu).1
      have := hcell i hi
      rw [hu, Go.Proofs.YtkdhcmmfklganaaW.PrintWords.add_add, hs] at this
      exact this
    · obtain ⟨i, hi⟩ := List.getElem?_of_mem hy
      obtain ⟨c, _, _, h5⟩ := h2 i y hi
      exact h5
theorem opensF_one {f : Field} {o : Nat} {d : Kd α} {good : α → Prop} (ho : f.offset = o) (hc : P.cellsOf f.type = d.sz) (h : Opens enc P W f.type d good) : OpensF enc P W [f] o d good := by
  intro fuel cs xs hx hw hl
  simp only [List.mapM_cons, List.mapM_nil, Option.pure_def, Option.bind_eq_bind, Option.bind_eq_some_iff] at hx
  obtain ⟨y, h1, z, hz, hxs⟩ := hx
  simp only [Option.some.injEq] at hz hxs
  subst hz
  subst hxs
  obtain ⟨a, h2, h3⟩ := h _ _ _ h1 (fun n hn => hw n (by simp [DataW.weightsEach, hn]))
  rw [ho, hc, List.take_of_length_le (by rw [List.length_drop]; omega)] at h2
  exact ⟨a, h2, h3⟩
theorem opensF_cons {f : Field} {fs : List Field} {o : Nat} {d : Kd α} {e : Kd β} {g1 : α → Prop} {g2 : β → Prop} (ho : f.offset = o) (hc : P.cellsOf f.type = d.sz) (h : Opens enc P W f.type d g1) (hr : OpensF enc P W fs (o + d.sz) e g2) :
    OpensF enc P W (f :: fs) o (Kd.pair d e) (fun p => g1 p.1 ∧ g2 p.2) := by
  intro fuel cs xs hx hw hl
  simp only [List.mapM_cons, Option.pure_def, Option.bind_eq_bind, Option.bind_eq_some_iff] at hx
  obtain ⟨y, h1, ys, h2, hxs⟩ := hx
  simp only [Option.some.injEq] at hxs
  subst hxs
  have hsz : (Kd.pair d e).sz = d.sz + e.sz := rfl
  obtain ⟨a, h3, h4⟩ := h _ _ _ h1 (fun n hn => hw n (by simp [DataW.weightsEach, hn]))
  obtain ⟨b, h5, h6⟩ := hr _ _ _ h2 (fun n hn => hw n (by rw [List.map_cons, List.map_cons, DataW.weightsEach]; exact List.mem_append_right _ hn)) (by omega)
  rw [ho, hc] at h3
  refine ⟨(a, b), ⟨_, _, ?_, h3, h5⟩, h4, h6⟩
  rw [← List.drop_drop, List.take_append_drop]
theorem opens_struct {t : TypeId} {fs : Array Field} {d : Kd α} {good : α → Prop} (ht : P.underlying t = some (.struct fs)) (hc : P.cellsOf t = d.sz) (h : OpensF enc P W fs.toList 0 d good) : Opens enc P W t d good := by
  intro fuel cs x hx hw
  cases fuel with
  | zero => simp [DataW.trod] at hx
  | succ fuel =>
    have key : cs.length = P.cellsOf t ∧ ∃ xs, (fs.toList.mapM fun f => DataW.trod enc P W 0 (fun _ => true) true fuel f.type ((cs.drop f.offset).take (P.cellsOf f.type))) = some xs ∧ x.1 = .agg (xs.map (·.1)) := by
      unfold DataW.trod at hx
      rw [ht] at hx
      simp only at hx
      split at hx
      · rename_i hl
        rw [Option.map_eq_some_iff] at hx
        obtain ⟨xs, h1, h2⟩ := hx
        exact ⟨hl, xs, h1, by rw [← h2]⟩
      · cases hx
    obtain ⟨h1, xs, h2, h3⟩ := key
    have hw2 : ∀ n ∈ DataW.weightsEach P (fs.toList.map (·.type)) (xs.map (·.1)), n ≤ 140737488351232 := by
      unfold Lite at hw
      rw [h3, DataW.weights] at hw
      simp only [ht] at hw
      exact hw
    obtain ⟨a, h4, h5⟩ := h _ _ _ h2 hw2 (by omega)
    exact ⟨a, by simpa using h4, h5⟩
theorem opens_iso {t : TypeId} {d : Kd α} {good : α → Prop} (f : β → α) (g : α → β) (hfg : ∀ a, f (g a) = a) (h : Opens enc P W t d good) : Opens enc P W t (Kd.iso d f) (fun x => good (f x)) := by
  intro fuel cs x hx hw
  obtain ⟨a, h1, h2⟩ := h _ _ _ hx hw
  refine ⟨g a, ?_, by show good (f (g a)); rw [hfg]; exact h2⟩
  show d.K W (f (g a)) cs
  rw [hfg]
  exact h1
/-- the weight of an argument -/
theorem lite_arg {ts : List TypeId} {ds : List (DataW H)} (hsz : (DataW.weightsEach P ts ds).all (· ≤ reachBytes) = true) {j : Nat} {t : TypeId} {d : DataW H} (ht : ts[j]? = some t) (hd : ds[j]? = some d) : Lite P t d := by
  intro n hn
  have := List.all_eq_true.1 hsz n (DataW.weights_mem_each ht hd n hn)
  have h2 : n ≤ reachBytes := by simpa using this
  exact Nat.le_trans h2 (by decide)
/-- a slice that is handed in -/
theorem open_arg {t e : TypeId} {d : Kd α} {good : α → Prop} {B : Nat} (ht : P.underlying t = some (.slice e)) (hs : P.cellsOf e = d.sz) (hB : P.bytesOf e = B) (h : Opens enc P W e d good) {A : Option Addr} {n c : Nat} {y : DataW H} {p : List MemPlace}
    (hl : Lite P t y) (hx : DataW.Trod enc P W 0 (fun _ => true) true t (.slice A n c) y p) : ∃ xs : List α, n = xs.length ∧ xs.length ≤ c ∧ c ≤ maxLen ∧ d.C W A xs.length xs ∧ (xs.length ≤ maxLen ∧ xs.length * B ≤ 140737488351232) ∧ ∀ x ∈ xs, good x := by
  obtain ⟨fuel, hf⟩ := hx
  have hcap : c ≤ maxLen := by
    rcases open_slice ht hf with ⟨hcs, _⟩ | ⟨a, len, cap, m, n, D, Pl, hcs, hb, hl, hm, hmm, _, hel⟩
    · simp only [Value.cells, List.cons.injEq, Value.slice.injEq, and_true] at hcs
      omega
    · simp only [Value.cells, List.cons.injEq, Value.slice.injEq, and_true] at hcs
      omega
  obtain ⟨xs, ⟨A', c', h1, h2, h3⟩, h4, h5⟩ := opens_slice ht hs hB h _ _ _ hf hl
  simp only [Value.cells, List.cons.injEq, Value.slice.injEq, and_true] at h1
  obtain ⟨rfl, rfl, rfl⟩ := h1
  exact ⟨xs, rfl, h2, hcap, h3, h4, h5⟩
/-- a text that is handed in -/
theorem lite_str {t : TypeId} {s : ByteArray} (hl : Lite (H := H) P t (.lit (.string s.data.toList))) : s.size ≤ 140737488351232 := by
  have := hl s.data.toList.length (by simp [DataW.weights])
  rw [Array.length_toList] at this
  exact this
end
end Go.Proofs.Ytkdhcmmfklganaa.Op
end

section
namespace Go.Proofs.Ytkdhcmmfklganaa.firstBack
open Go.ChangeShapes Go.WideShapes Go.ChangeAt Go.RowKit Go.Proofs.Ytkdhcmmfklganaa Go.Proofs.Ytkdhcmmfklganaa.G Go.Proofs.YtkdhcmmfklganaaW.PrintWords Go.Proofs.YtkdhcmmfklganaaW.PrintLast Go.Proofs.YtkdhcmmfklganaaW.PrintMore
open Go.ChangeMaps (open_string shut_string)
set_option linter.unusedVariables false
set_option linter.unusedSimpArgs false
theorem own : ownKnob Try.prog.godebug = none := by kernel_rfl
theorem laidOut : laidOutB Try.prog = true := by kernel_rfl
set_option maxRecDepth 100000 in
theorem lifted (os : Os) (started : os.Started) (H : Type) (enc : TypeId × Value → H) :
    ReturnsInHanded {} Try.checked os 5 .any (Rows.firstBackSpec.pre6 enc Try.prog Try.f5 Rows.firstBackRow.domain false) (Rows.firstBackSpec.post enc Try.prog Try.f5 false true false false) := by
  refine returnsInHanded_of_change_sized (C := Try.checked) own started (by kernel_rfl) Try.func5
    (ChangeSpec.witness6 (enc := enc) (C := Try.checked) false ⟨#[], #[.agg #[.slice none 0 0, .slice none 0 0], .slice none 0 0], []⟩ 8 (by kernel_rfl) (by kernel_rfl) (by kernel_rfl) (by kernel_rfl)) ?_
  intro W base args ds gs before hval0 hW hcnd hsz0 _
  have hsz : (DataW.weightsEach Try.prog (Try.f5.params.toList ++ Rows.firstBackSpec.plain.varTypes Try.prog) (ds ++ gs)).all (· ≤ reachBytes) = true := hsz0
  have hval : ∀ (j : Nat) t v, Try.f5.params[j]? = some t → args[j]? = some v → Value.okWide Try.prog W .any base t v := hval0
  have hW' := hW
  obtain ⟨p, q, hA0, hV, rfl, hfz, hnd⟩ := hW
  have hA : DataW.TrodAll enc Try.prog W 0 (fun _ => true) true Try.f5.params.toList args.toList ds p := hA0
  rw [Try.params5] at hA hval hsz
  obtain ⟨v0, vs0, d0, ds0, p0, q0, hargs, rfl, rfl, h0, r0⟩ := trodAll_cons hA
  obtain ⟨v1, vs1, d1, ds1, p1, q1, rfl, rfl, rfl, h1, r1⟩ := trodAll_cons r0
  obtain ⟨rfl, rfl, rfl⟩ := trodAll_nil r1
  obtain rfl : args = #[v0, v1] := by cases args; simp_all
  obtain ⟨rfl, rfl⟩ := trodVars_none hV
  have k0 := h0
  have lt0 : ∀ x ∈ p0, x.block < W.heap.size := by obtain ⟨m, hm⟩ := k0; exact DataW.trod_lt m _ _ _ hm
  obtain ⟨cs0, rfl, _⟩ := okWide_struct Try.underlying25 (hval 0 25 v0 rfl rfl)
  have q0 := Op.lite_arg hsz (j := 0) (t := 25) rfl rfl
  obtain ⟨fu0, hf0⟩ := h0
  obtain ⟨a0, hK0, hg0⟩ := (Op.opens_iso (fun x : S25 => (x.f0, x.f1)) (fun p => (⟨p.1, p.2⟩ : S25)) (fun _ => rfl) (Op.opens_struct Try.underlying25 (by kernel_rfl) (Op.opensF_cons rfl (by kernel_rfl) (Op.opens_slice Try.underlying22 (by kernel_rfl) (by kernel_rfl : _ = 8) (Op.opens_int Try.underlying3)) (Op.opensF_one rfl (by kernel_rfl) (Op.opens_slice Try.underlying23 (by kernel_rfl) (by kernel_rfl : _ = 40) (Op.opens_iso (fun x : S40 => (x.f0, x.f1, x.f2)) (fun p => (⟨p.1, p.2.1, p.2.2⟩ : S40)) (fun _ => rfl) (Op.opens_struct Try.underlying40 (by kernel_rfl) (Op.opensF_cons rfl (by kernel_rfl) (Op.opens_int Try.underlying3) (Op.opensF_cons rfl (by kernel_rfl) (Op.opens_int Try.underlying3) (Op.opensF_one rfl (by kernel_rfl) (Op.opens_slice Try.underlying37 (by kernel_rfl) (by kernel_rfl : _ = 32) (Op.opens_iso (fun x : S46 => (x.f0, x.f1, x.f2)) (fun p => (⟨p.1, p.2.1, p.2.2⟩ : S46)) (fun _ => rfl) (Op.opens_struct Try.underlying46 (by kernel_rfl) (Op.opensF_cons rfl (by kernel_rfl) (Op.opens_str Try.underlying9) (Op.opensF_cons rfl (by kernel_rfl) (Op.opens_int Try.underlying3) (Op.opensF_one rfl (by kernel_rfl) (Op.opens_int Try.underlying3))))))))))))))))) _ _ _ hf0 q0
  obtain ⟨A0_0, c0_0, A0_1, c0_1, e0, hc0_0, hr0_0, hc0_1, hr0_1⟩ := k25_open hK0
  obtain rfl : cs0 = #[.slice A0_0 a0.f0.length c0_0, .slice A0_1 a0.f1.length c0_1] := by have h_ : cs0.toList = _ := e0; rw [← Array.toArray_toList (xs := cs0), h_]
  have k1 := h1
  have lt1 : ∀ x ∈ p1, x.block < W.heap.size := by obtain ⟨m, hm⟩ := k1; exact DataW.trod_lt m _ _ _ hm
  obtain ⟨A1, len1, cap1, rfl⟩ := okWide_slice Try.underlying26 (hval 1 26 v1 rfl rfl)
  have q1 := Op.lite_arg hsz (j := 1) (t := 26) rfl rfl
  obtain ⟨l1, rfl, hc1, hk1, hr1, hg1⟩ := Op.open_arg Try.underlying26 (by kernel_rfl) (by kernel_rfl : _ = 1) (Op.opens_int Try.underlying5) q1 h1
  clear hA0 hval0 hsz0 hsz
  obtain ⟨k, h⟩ := Pure.FirstBack a0 l1 hg0 hg1
  refine (rosettelaw15_FirstBack.calls k A0_0 c0_0 a0.f0 A0_1 c0_1 a0.f1 A1 cap1 l1 true W hr0_0 hc0_0 hr0_1 hc0_1 hr1 hc1 (by simpa [maxLen] using hk1) h).mono fun e W' ⟨he, bel⟩ => ?_
  subst he
  exact ⟨_, rfl, _, _, _, [], _, [], hW', trodAll_mk1 (shut_bool Try.underlying4 _), (trodAll_cons_mk (Below.trod laidOut (by kernel_rfl) (of_decide_eq_true (by kernel_rfl)) k0 bel lt0) (trodAll_cons_mk (Below.trod laidOut (by kernel_rfl) (of_decide_eq_true (by kernel_rfl)) k1 bel lt1) trodAll_mk0)), rfl, bel.frame _, fun h => by cases h⟩
theorem over : Rows.firstBackRow.holds Try.pinned (OpenSpec.ofChange Rows.firstBackSpec) :=
  OpenClaim.holds_of_wide 5 Try.f5 rfl rfl rfl rfl rfl rfl rfl ⟨rfl, rfl, rfl, rfl, rfl⟩ rfl rfl rfl rfl rfl (by kernel_rfl) Try.func5 (by kernel_rfl)
    (of_decide_eq_true (by kernel_rfl)) (by unfold Func.isWrapper; first | (rw [if_pos (by decide +kernel)]; kernel_rfl) | (rw [if_neg (by decide +kernel)]; exact ⟨rfl, rfl⟩))
    (fun os started H enc _ => lifted os started H enc)
theorem proved : Rows.FirstBackSaid := over
#print axioms proved
end Go.Proofs.Ytkdhcmmfklganaa.firstBack
namespace Go.Proofs.Ytkdhcmmfklganaa
/-- The row, under a short name, for the claim. -/
theorem firstBack_holds : Rows.FirstBackSaid := firstBack.proved
end Go.Proofs.Ytkdhcmmfklganaa
end
