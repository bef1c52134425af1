/- The statement FirstMeans over numbers and lists: what ranges an event meets, and where it goes. -/
import Derived.Test.YtkdhcmmfklganaaZFirstMeans3
import Derived.Test.YtkdhcmmfklganaaZFirstMeans2
import Derived.Test.YtkdhcmmfklganaaZFirstMeans0
import Derived.Deep.Slices
import Derived.DataReads
import Derived.ChangeShapes
import Derived.WideLaws
import Derived.SizedLaws
import Derived.Test.YtkdhcmmfklganaaProg
import Derived.Test.YtkdhcmmfklganaaRows
import Derived.WalkKit
import Derived.ProofKit
import Derived.OpenShut
import Derived.ShutString
import Derived.ChangeOld
import Derived.Below
import Derived.Lib.SmallJoins
section
/- states of the first broker as bytes: what is laid is read, a part of it is short; plain laws -/
set_option linter.unusedVariables false
set_option autoImplicit false
namespace Go.Proofs.Ytkdhcmmfklganaa
open Go.RowKit Go.Proofs.YtkdhcmmfklganaaW.PrintWords Go.Proofs.YtkdhcmmfklganaaW.PrintLast Go.Proofs.Ytkdhcmmfklganaa.G

theorem good_rg : Pars.Good rgP := Pars.Good.bnd (Pars.Good.count 16) fun c => Pars.Good.bnd (Pars.Good.take c.toNat) fun t => Pars.Good.bnd (Pars.Good.num 4) fun lo => Pars.Good.bnd (Pars.Good.num 4) fun hi => Pars.Good.pure _
theorem good_sub : Pars.Good subP := Pars.Good.bnd (Pars.Good.num 2) fun id => Pars.Good.bnd (Pars.Good.num 2) fun fr => Pars.Good.bnd (Pars.Good.count 12) fun n => Pars.Good.bnd (Pars.Good.rep good_rg n.toNat) fun rs => Pars.Good.pure _
theorem good_f : Pars.Good fP := Pars.Good.bnd (Pars.Good.count 16) fun n => Pars.Good.bnd (Pars.Good.rep (Pars.Good.num 2) n.toNat) fun links => Pars.Good.bnd (Pars.Good.count 64) fun m => Pars.Good.bnd (Pars.Good.rep good_sub m.toNat) fun subs => Pars.Good.pure _
theorem take_len {a : List Int} (n : Nat) (ha : a.length = n) (r : List Int) : (⟨a ++ r, 0⟩ : Sc).take n = (a, ⟨r, 0⟩) := by
  subst ha
  unfold Sc.take
  rw [if_pos rfl, if_neg (by simp), List.take_left, List.drop_left]
theorem num_two (n : Int) (h : 0 ≤ n ∧ n ≤ 65535) (r : List Int) : (⟨twoB n ++ r, 0⟩ : Sc).num 2 = (n, ⟨r, 0⟩) := by
  unfold Sc.num
  rw [take_len 2 rfl]
  unfold twoB
  simp only [big]
  rw [show 256 * (256 * 0 + n / 256 % 256) + n % 256 = n by omega]
theorem num_four (n : Int) (h : -2147483648 ≤ n ∧ n ≤ 2147483647) (r : List Int) : ∃ m, (⟨fourB n ++ r, 0⟩ : Sc).num 4 = (m, ⟨r, 0⟩) ∧ sgn m = n := by
  unfold Sc.num
  rw [take_len 4 rfl]
  refine ⟨_, rfl, ?_⟩
  unfold fourB twoB sgn
  simp only [List.cons_append, List.nil_append, big]
  split
  · omega
  · omega
theorem count_one (n m : Int) (h : n ≤ m) (r : List Int) : (⟨[n] ++ r, 0⟩ : Sc).count m = (n, ⟨r, 0⟩) := by
  have e : (⟨[n] ++ r, 0⟩ : Sc).num 1 = (n, ⟨r, 0⟩) := by
    unfold Sc.num
    rw [take_len 1 rfl]
    simp only [big]
    rw [show 256 * 0 + n = n by omega]
  unfold Sc.count
  rw [e, if_neg (by omega)]
theorem str_bytes (b : ByteArray) : strOfNums (bytesOf b) = b := by
  unfold strOfNums bytesOf
  rw [List.map_map]
  have h : b.data.toList.map ((fun x : Int => UInt8.ofNat x.toNat) ∘ fun c => (c.toNat : Int)) = b.data.toList := by
    refine (List.map_congr_left (g := fun x => x) fun x _ => ?_).trans (List.map_id'' (fun _ => rfl) _)
    show UInt8.ofNat ((x.toNat : Int)).toNat = x
    rw [Int.toNat_natCast, UInt8.ofNat_toNat]
  first
    | (rw [h])
    | (simp only [h])
    | (apply ByteArray.ext; rw [h])
theorem rg_back (x : S46) (h : x.f0.size ≤ 16 ∧ (-2147483648 ≤ x.f1 ∧ x.f1 ≤ 2147483647) ∧ -2147483648 ≤ x.f2 ∧ x.f2 ≤ 2147483647) (r : List Int) : rgP ⟨rgL x ++ r, 0⟩ = (x, ⟨r, 0⟩) := by
  obtain ⟨a, b, c⟩ := x
  simp only at h
  obtain ⟨m1, e1, s1⟩ := num_four b h.2.1 (fourB c ++ r)
  obtain ⟨m2, e2, s2⟩ := num_four c h.2.2 r
  have h0 : rgL ⟨a, b, c⟩ ++ r = [(a.size : Int)] ++ (bytesOf a ++ (fourB b ++ (fourB c ++ r))) := by simp [rgL, List.append_assoc]
  unfold rgP Pars.bnd
  rw [h0]
  simp only
  rw [count_one _ 16 (by omega)]
  simp only
  rw [Int.toNat_natCast, take_len a.size (bytesOf_length a)]
  simp only
  rw [e1]
  simp only
  rw [e2]
  simp only
  rw [s1, s2, str_bytes]
theorem sub_back (x : S40) (h : (0 ≤ x.f0 ∧ x.f0 ≤ 65535) ∧ (0 ≤ x.f1 ∧ x.f1 ≤ 65535) ∧ x.f2.length ≤ 12 ∧ ∀ r ∈ x.f2, r.f0.size ≤ 16 ∧ (-2147483648 ≤ r.f1 ∧ r.f1 ≤ 2147483647) ∧ -2147483648 ≤ r.f2 ∧ r.f2 ≤ 2147483647) (r : List Int) : subP ⟨subL x ++ r, 0⟩ = (x, ⟨r, 0⟩) := by
  obtain ⟨a, b, c⟩ := x
  simp only at h
  have h0 : subL ⟨a, b, c⟩ ++ r = twoB a ++ (twoB b ++ ([(c.length : Int)] ++ (c.flatMap rgL ++ r))) := by simp [subL, List.append_assoc]
  unfold subP Pars.bnd
  rw [h0]
  simp only
  rw [num_two a h.1]
  simp only
  rw [num_two b h.2.1]
  simp only
  rw [count_one _ 12 (by omega)]
  simp only
  rw [Int.toNat_natCast, Pars.rep_back rgL c r (fun x hx r => rg_back x (h.2.2.2 x hx) r)]
def bodyL (links : List Int) (subs : List S40) : List Int := [(links.length : Int)] ++ links.flatMap twoB ++ [(subs.length : Int)] ++ subs.flatMap subL
theorem enc_body (links : List Int) (subs : List S40) : encL links subs = [82, 83, 84, 1] ++ bodyL links subs := by simp [encL, bodyL, List.append_assoc]
theorem f_back {links : List Int} {subs : List S40} (h : Fit links subs) (r : List Int) : fP ⟨bodyL links subs ++ r, 0⟩ = ((links, subs), ⟨r, 0⟩) := by
  have h0 : bodyL links subs ++ r = [(links.length : Int)] ++ (links.flatMap twoB ++ ([(subs.length : Int)] ++ (subs.flatMap subL ++ r))) := by simp [bodyL, List.append_assoc]
  have h1 := h.n1
  have h2 := h.n2
  unfold fP Pars.bnd
  rw [h0]
  simp only
  rw [count_one _ 16 (by omega)]
  simp only
  rw [Int.toNat_natCast, Pars.rep_back twoB links _ (fun x hx r => num_two x (h.lk x hx) r)]
  simp only
  rw [count_one _ 64 (by omega)]
  simp only
  rw [Int.toNat_natCast, Pars.rep_back subL subs r (fun x hx r => sub_back x (h.sb x hx) r)]
theorem dec_head (l : List Int) : dec15 ([82, 83, 84, 1] ++ l) = (if (fP ⟨l, 0⟩).2.endE ≠ 0 then (([], []), (fP ⟨l, 0⟩).2.endE) else if rightB (fP ⟨l, 0⟩).1.1 (fP ⟨l, 0⟩).1.2 = true then ((fP ⟨l, 0⟩).1, 0) else (([], []), 3)) := by
  unfold dec15
  rw [if_neg (by simp), if_neg (by simp), if_neg (by simp)]
  rfl
theorem dec_more {links : List Int} {subs : List S40} (h : Fit links subs) (r : List Int) (hr : 0 < r.length) : dec15 (encL links subs ++ r) = (([], []), 5) := by
  rw [enc_body, List.append_assoc, dec_head, f_back h]
  have e : (⟨r, 0⟩ : Sc).endE = 5 := by unfold Sc.endE; rw [if_pos ⟨rfl, hr⟩]
  simp only [e]
  rw [if_pos (by decide)]
theorem dec_cut {links : List Int} {subs : List S40} (h : Fit links subs) (c : Nat) (hc : c < (encL links subs).length) : dec15 ((encL links subs).take c) = (([], []), 2) := by
  by_cases h4 : c < 4
  · unfold dec15
    rw [if_pos (by rw [List.length_take]; omega)]
  · obtain ⟨d, rfl⟩ : ∃ d, c = 4 + d := ⟨c - 4, by omega⟩
    have hb := f_back h []
    rw [List.append_nil] at hb
    rw [enc_body, List.length_append] at hc
    have hc' : d < (bodyL links subs).length := by simp only [List.length_cons, List.length_nil] at hc; omega
    obtain ⟨c1, e1, _, k1⟩ := good_f.ok _ _ _ hb
    rw [List.append_nil] at e1
    have e2 := k1 ((bodyL links subs).take d) ((bodyL links subs).drop d) (by rw [← e1, List.take_append_drop]) (fun e => by have := congrArg List.length e; rw [List.length_drop] at this; simp at this; omega)
    rw [enc_body, List.take_append, List.take_of_length_le (show ([82, 83, 84, 1] : List Int).length ≤ 4 + d by simp), show 4 + d - ([82, 83, 84, 1] : List Int).length = d by simp, dec_head]
    have e3 : (fP ⟨(bodyL links subs).take d, 0⟩).2.endE = 2 := by
      unfold Sc.endE
      rw [if_neg (fun hh => by omega), e2]
    rw [e3, if_pos (by decide)]
theorem flat_len {α : Type} (f : α → List Int) (m : Nat) : ∀ (l : List α), (∀ x ∈ l, (f x).length ≤ m) → (l.flatMap f).length ≤ m * l.length := by
  intro l
  induction l with
  | nil => intro _; simp
  | cons x l ih =>
    intro h
    rw [List.flatMap_cons, List.length_append, List.length_cons, Nat.mul_add]
    have h1 := h x (by simp)
    have h2 := ih (fun y hy => h y (by simp [hy]))
    omega
theorem flat_u8s {α : Type} (f : α → List Int) (l : List α) (h : ∀ x ∈ l, u8s (f x)) : u8s (l.flatMap f) := by
  intro y hy
  obtain ⟨x, hx, hxy⟩ := List.mem_flatMap.1 hy
  exact h x hx y hxy
theorem u8s_one {n : Int} (h : 0 ≤ n ∧ n < 256) : u8s [n] := by
  intro x hx
  rw [List.mem_singleton] at hx
  subst hx
  exact h
theorem u8s_two (n : Int) : u8s (twoB n) := by
  intro x hx
  unfold twoB at hx
  simp only [List.mem_cons, List.not_mem_nil, or_false] at hx
  rcases hx with rfl | rfl <;> omega
theorem u8s_bytes (b : ByteArray) : u8s (bytesOf b) := by
  intro x hx
  unfold bytesOf at hx
  obtain ⟨c, _, rfl⟩ := List.mem_map.1 hx
  have := c.toNat_lt
  omega
theorem enc_u8s {links : List Int} {subs : List S40} (h : Fit links subs) : u8s (encL links subs) := by
  have h1 := h.n1
  have h2 := h.n2
  unfold encL
  refine u8s_append.2 ⟨u8s_append.2 ⟨u8s_append.2 ⟨u8s_append.2 ⟨by decide, u8s_one (by omega)⟩, flat_u8s _ _ fun x _ => u8s_two x⟩, u8s_one (by omega)⟩, flat_u8s _ _ fun x hx => ?_⟩
  have hs := h.sb x hx
  unfold subL
  refine u8s_append.2 ⟨u8s_append.2 ⟨u8s_append.2 ⟨u8s_two _, u8s_two _⟩, u8s_one (by omega)⟩, flat_u8s _ _ fun r hr => ?_⟩
  have hq := hs.2.2.2 r hr
  unfold rgL fourB
  exact u8s_append.2 ⟨u8s_append.2 ⟨u8s_append.2 ⟨u8s_one (by omega), u8s_bytes _⟩, u8s_append.2 ⟨u8s_two _, u8s_two _⟩⟩, u8s_append.2 ⟨u8s_two _, u8s_two _⟩⟩
theorem enc_len {links : List Int} {subs : List S40} (h : Fit links subs) : (encL links subs).length ≤ 40000 := by
  have h1 := h.n1
  have h2 := h.n2
  have a := flat_len twoB 2 links (fun x _ => by simp [twoB])
  have b := flat_len subL 305 subs (fun x hx => by
    have hs := h.sb x hx
    have c := flat_len rgL 25 x.f2 (fun r hr => by
      have := (hs.2.2.2 r hr).1
      unfold rgL fourB twoB
      simp only [List.length_append, List.length_cons, List.length_nil, bytesOf_length]
      omega)
    unfold subL twoB
    simp only [List.length_append, List.length_cons, List.length_nil]
    omega)
  unfold encL
  simp only [List.length_append, List.length_cons, List.length_nil]
  omega
/-- Few answers -/
theorem few_in (links : List Int) (subs : List S40) (hs : subs.length ≤ 4611686018427387904) (hr : ∀ x ∈ subs, x.f2.length ≤ 4611686018427387904) (i : Nat) (hi : i < subs.length) (x3 : Int)
    (h0 : ∃ k b, rosettelaw15_Few.l0 k x3 ((i + 1 : Nat) : Int) links subs = some b) : ∀ (d j : Nat), j + d = (rd_T40 subs (i : Int)).f2.length → ∃ k b, rosettelaw15_Few.l1 k x3 (i : Int) (j : Int) links subs = some b := by
  have hx : (rd_T40 subs (i : Int)).f2.length ≤ 4611686018427387904 := by
    have e : rd_T40 subs (i : Int) = subs[i] := by simp [rd_T40, List.getD_eq_getElem?_getD, hi]
    rw [e]
    exact hr _ (List.getElem_mem hi)
  intro d
  induction d with
  | zero =>
    intro j hj
    obtain ⟨k, b, h⟩ := h0
    refine ⟨k + 1, b, ?_⟩
    simp only [rosettelaw15_Few.l1]
    rw [if_pos (by omega), if_pos (by omega), if_neg (by omega), show wrap64 ((i : Int) + 1) = ((i + 1 : Nat) : Int) by unfold wrap64; omega]
    exact h
  | succ d ih =>
    intro j hj
    obtain ⟨k, b, h⟩ := ih (j + 1) (by omega)
    by_cases hq : ((rd_T46 ((rd_T40 subs (i : Int)).f2) (j : Int)).f0.size : Int) > 100
    · refine ⟨k + 1, false, ?_⟩
      simp only [rosettelaw15_Few.l1]
      rw [if_pos (by omega), if_pos (by omega), if_pos (by omega), if_pos (by omega), if_pos hq]
    · refine ⟨k + 1, b, ?_⟩
      simp only [rosettelaw15_Few.l1]
      rw [if_pos (by omega), if_pos (by omega), if_pos (by omega), if_pos (by omega), if_neg hq, show wrap64 ((j : Int) + 1) = ((j + 1 : Nat) : Int) by unfold wrap64; omega]
      exact h
theorem few_out (links : List Int) (subs : List S40) (hs : subs.length ≤ 4611686018427387904) (hr : ∀ x ∈ subs, x.f2.length ≤ 4611686018427387904) : ∀ (d i : Nat), i + d = subs.length → ∀ x3 : Int, ∃ k b, rosettelaw15_Few.l0 k x3 (i : Int) links subs = some b := by
  intro d
  induction d with
  | zero =>
    intro i hi x3
    refine ⟨1, decide (x3 ≤ 300), ?_⟩
    simp only [rosettelaw15_Few.l0]
    rw [if_neg (by omega)]
  | succ d ih =>
    intro i hi x3
    obtain ⟨k, b, h⟩ := few_in links subs hs hr i (by omega) (wrap64 (x3 + (((rd_T40 subs (i : Int)).f2).length : Int))) (ih (i + 1) (by omega) _) (rd_T40 subs (i : Int)).f2.length 0 (by omega)
    refine ⟨k + 1, b, ?_⟩
    simp only [rosettelaw15_Few.l0]
    rw [if_pos (by omega), if_pos (by omega)]
    exact h
theorem few_some (links : List Int) (subs : List S40) (hs : subs.length ≤ 4611686018427387904) (hr : ∀ x ∈ subs, x.f2.length ≤ 4611686018427387904) : ∃ k b, rosettelaw15_Few.f k links subs = some b := few_out links subs hs hr subs.length 0 (by omega) _
end Go.Proofs.Ytkdhcmmfklganaa
end

section
/- states of the first broker as bytes: what is read was laid so; a state is the same as itself; plain laws -/
set_option linter.unusedVariables false
set_option autoImplicit false
namespace Go.Proofs.Ytkdhcmmfklganaa
open Go.RowKit Go.Proofs.YtkdhcmmfklganaaW.PrintWords Go.Proofs.YtkdhcmmfklganaaW.PrintLast Go.Proofs.Ytkdhcmmfklganaa.G

theorem bnd_ok {α β : Type} {P : Sc → α × Sc} {Q : α → Sc → β × Sc} (hQ : ∀ a, Pars.Good (Q a)) {l : List Int} {v : β} {r : List Int} (h : Pars.bnd P Q ⟨l, 0⟩ = (v, ⟨r, 0⟩)) : ∃ a r1, P ⟨l, 0⟩ = (a, ⟨r1, 0⟩) ∧ Q a ⟨r1, 0⟩ = (v, ⟨r, 0⟩) := by
  unfold Pars.bnd at h
  obtain ⟨⟨a, s1⟩, h1⟩ : ∃ p, P ⟨l, 0⟩ = p := ⟨_, rfl⟩
  rw [h1] at h
  simp only at h
  have e1 : s1.e = 0 := Classical.byContradiction fun he => by
    have := (hQ a).err s1 he
    rw [h] at this
    rw [← this] at he
    exact he rfl
  have es := Pars.eta0 s1 e1
  rw [es] at h h1
  exact ⟨a, s1.l, h1, h⟩
theorem take_once {l t r : List Int} {n : Nat} (h : (⟨l, 0⟩ : Sc).take n = (t, ⟨r, 0⟩)) : l = t ++ r ∧ t.length = n := by
  unfold Sc.take at h
  rw [if_pos rfl] at h
  split at h
  · obtain ⟨_, h⟩ := Prod.mk.inj h
    cases h
  · rename_i hlt
    have hlt' : ¬ l.length < n := hlt
    obtain ⟨hv, hr⟩ := Prod.mk.inj h
    have hr := congrArg Sc.l hr
    simp only at hv hr
    subst hv
    subst hr
    exact ⟨(List.take_append_drop n l).symm, by rw [List.length_take]; omega⟩
theorem num_once {l r : List Int} {n : Int} {k : Nat} (h : (⟨l, 0⟩ : Sc).num k = (n, ⟨r, 0⟩)) : ∃ t, l = t ++ r ∧ t.length = k ∧ n = big t 0 := by
  unfold Sc.num at h
  obtain ⟨h1, h2⟩ := Prod.mk.inj h
  obtain ⟨a, b⟩ := take_once (l := l) (t := ((⟨l, 0⟩ : Sc).take k).1) (r := r) (n := k) (by rw [← h2])
  exact ⟨_, a, b, h1.symm⟩
theorem two_once {l r : List Int} {n : Int} (hu : u8s l) (h : (⟨l, 0⟩ : Sc).num 2 = (n, ⟨r, 0⟩)) : l = twoB n ++ r := by
  obtain ⟨t, rfl, ht, hn⟩ := num_once h
  match t, ht with
  | [a, b], _ =>
    have ha := hu a (by simp)
    have hb := hu b (by simp)
    simp only [big] at hn
    unfold twoB
    rw [show n / 256 % 256 = a by omega, show n % 256 = b by omega]
theorem four_once {l r : List Int} {n : Int} (hu : u8s l) (h : (⟨l, 0⟩ : Sc).num 4 = (n, ⟨r, 0⟩)) : l = fourB (sgn n) ++ r := by
  obtain ⟨t, rfl, ht, hn⟩ := num_once h
  match t, ht with
  | [a, b, c, d], _ =>
    have ha := hu a (by simp)
    have hb := hu b (by simp)
    have hc := hu c (by simp)
    have hd := hu d (by simp)
    simp only [big] at hn
    have e : sgn n / 65536 / 256 % 256 = a ∧ sgn n / 65536 % 256 = b ∧ sgn n / 256 % 256 = c ∧ sgn n % 256 = d := by
      unfold sgn
      split <;> omega
    unfold fourB twoB
    rw [e.1, e.2.1, e.2.2.1, e.2.2.2]
    rfl
theorem count_once {l r : List Int} {n m : Int} (hu : u8s l) (h : (⟨l, 0⟩ : Sc).count m = (n, ⟨r, 0⟩)) : l = [n] ++ r ∧ 0 ≤ n := by
  unfold Sc.count at h
  split at h
  · obtain ⟨_, h⟩ := Prod.mk.inj h
    unfold Sc.fail at h
    split at h
    · cases h
    · rename_i he
      rw [h] at he
      exact absurd rfl he
  · obtain ⟨t, rfl, ht, hn⟩ := num_once h
    match t, ht with
    | [a], _ =>
      have ha := hu a (by simp)
      simp only [big] at hn
      obtain rfl : n = a := by omega
      exact ⟨rfl, ha.1⟩
theorem u8s_right {a b : List Int} (h : u8s (a ++ b)) : u8s b := (u8s_append.1 h).2
theorem u8s_left {a b : List Int} (h : u8s (a ++ b)) : u8s a := (u8s_append.1 h).1
theorem bytes_str {t : List Int} (h : u8s t) : bytesOf (strOfNums t) = t := by
  unfold strOfNums bytesOf
  simp only [List.map_map]
  refine (List.map_congr_left (g := fun x => x) fun x hx => ?_).trans (List.map_id'' (fun _ => rfl) t)
  show ((UInt8.ofNat x.toNat).toNat : Int) = x
  have := h x hx
  rw [UInt8.toNat_ofNat']
  omega
theorem rg_once (l : List Int) (x : S46) (r : List Int) (hu : u8s l) (h : rgP ⟨l, 0⟩ = (x, ⟨r, 0⟩)) : l = rgL x ++ r := by
  unfold rgP at h
  obtain ⟨c, r1, h1, h⟩ := bnd_ok (by exact fun c => Pars.Good.bnd (Pars.Good.take c.toNat) fun t => Pars.Good.bnd (Pars.Good.num 4) fun lo => Pars.Good.bnd (Pars.Good.num 4) fun hi => Pars.Good.pure _) h
  obtain ⟨t, r2, h2, h⟩ := bnd_ok (by exact fun t => Pars.Good.bnd (Pars.Good.num 4) fun lo => Pars.Good.bnd (Pars.Good.num 4) fun hi => Pars.Good.pure _) h
  obtain ⟨lo, r3, h3, h⟩ := bnd_ok (by exact fun lo => Pars.Good.bnd (Pars.Good.num 4) fun hi => Pars.Good.pure _) h
  obtain ⟨hi, r4, h4, h⟩ := bnd_ok (by exact fun hi => Pars.Good.pure _) h
  obtain ⟨rfl, h⟩ := Prod.mk.inj h
  cases h
  obtain ⟨rfl, hc⟩ := count_once hu h1
  have hu1 := u8s_right hu
  obtain ⟨rfl, ht⟩ := take_once h2
  have hu2 := u8s_right hu1
  have e3 := four_once hu2 h3
  subst e3
  have e4 := four_once (u8s_right hu2) h4
  subst e4
  have hb := bytes_str (u8s_left hu1)
  have hs : ((strOfNums t).size : Int) = c := by rw [← bytesOf_length, hb, ht]; omega
  unfold rgL
  simp only
  rw [hb, hs]
  simp [List.append_assoc]
theorem sub_once (l : List Int) (x : S40) (r : List Int) (hu : u8s l) (h : subP ⟨l, 0⟩ = (x, ⟨r, 0⟩)) : l = subL x ++ r := by
  unfold subP at h
  obtain ⟨a, r1, h1, h⟩ := bnd_ok (by exact fun a => Pars.Good.bnd (Pars.Good.num 2) fun fr => Pars.Good.bnd (Pars.Good.count 12) fun n => Pars.Good.bnd (Pars.Good.rep good_rg n.toNat) fun rs => Pars.Good.pure _) h
  obtain ⟨b, r2, h2, h⟩ := bnd_ok (by exact fun fr => Pars.Good.bnd (Pars.Good.count 12) fun n => Pars.Good.bnd (Pars.Good.rep good_rg n.toNat) fun rs => Pars.Good.pure _) h
  obtain ⟨n, r3, h3, h⟩ := bnd_ok (by exact fun n => Pars.Good.bnd (Pars.Good.rep good_rg n.toNat) fun rs => Pars.Good.pure _) h
  obtain ⟨rs, r4, h4, h⟩ := bnd_ok (by exact fun rs => Pars.Good.pure _) h
  obtain ⟨rfl, h⟩ := Prod.mk.inj h
  cases h
  have e1 := two_once hu h1
  subst e1
  have hu1 := u8s_right hu
  have e2 := two_once hu1 h2
  subst e2
  have hu2 := u8s_right hu1
  obtain ⟨rfl, hn⟩ := count_once hu2 h3
  have hu3 := u8s_right hu2
  obtain ⟨e4, e5⟩ := Pars.rep_once good_rg rgL u8s (fun _ _ => u8s_right) rg_once n.toNat _ _ _ hu3 h4
  subst e5
  unfold subL
  simp only
  rw [show (rs.length : Int) = n by omega]
  simp [List.append_assoc]
theorem f_once {l r : List Int} {links : List Int} {subs : List S40} (hu : u8s l) (h : fP ⟨l, 0⟩ = ((links, subs), ⟨r, 0⟩)) : l = bodyL links subs ++ r := by
  unfold fP at h
  obtain ⟨n, r1, h1, h⟩ := bnd_ok (by exact fun n => Pars.Good.bnd (Pars.Good.rep (Pars.Good.num 2) n.toNat) fun links => Pars.Good.bnd (Pars.Good.count 64) fun m => Pars.Good.bnd (Pars.Good.rep good_sub m.toNat) fun subs => Pars.Good.pure _) h
  obtain ⟨lk, r2, h2, h⟩ := bnd_ok (by exact fun links => Pars.Good.bnd (Pars.Good.count 64) fun m => Pars.Good.bnd (Pars.Good.rep good_sub m.toNat) fun subs => Pars.Good.pure _) h
  obtain ⟨m, r3, h3, h⟩ := bnd_ok (by exact fun m => Pars.Good.bnd (Pars.Good.rep good_sub m.toNat) fun subs => Pars.Good.pure _) h
  obtain ⟨sb, r4, h4, h⟩ := bnd_ok (by exact fun subs => Pars.Good.pure _) h
  obtain ⟨hh, h⟩ := Prod.mk.inj h
  obtain ⟨rfl, rfl⟩ := Prod.mk.inj hh
  cases h
  obtain ⟨rfl, hn⟩ := count_once hu h1
  have hu1 := u8s_right hu
  obtain ⟨e2, e3⟩ := Pars.rep_once (Pars.Good.num 2) twoB u8s (fun _ _ => u8s_right) (fun l v r hl h => two_once hl h) n.toNat _ _ _ hu1 h2
  subst e3
  have hu2 := u8s_right hu1
  obtain ⟨rfl, hm⟩ := count_once hu2 h3
  have hu3 := u8s_right hu2
  obtain ⟨e4, e5⟩ := Pars.rep_once good_sub subL u8s (fun _ _ => u8s_right) sub_once m.toNat _ _ _ hu3 h4
  subst e5
  unfold bodyL
  rw [show (lk.length : Int) = n by omega, show (sb.length : Int) = m by omega]
  simp [List.append_assoc]
theorem dec_back {links : List Int} {subs : List S40} (hr : rightB links subs = true) : dec15 (encL links subs) = ((links, subs), 0) := by
  have hb := f_back (fit_of hr) []
  rw [List.append_nil] at hb
  rw [enc_body, dec_head, hb]
  have e : (⟨[], 0⟩ : Sc).endE = 0 := rfl
  simp only [e]
  rw [if_neg (by decide), if_pos hr]
theorem dec_bad {l : List Int} (h : (dec15 l).2 ≠ 0) : (dec15 l).1 = ([], []) := by
  unfold dec15 at h ⊢
  repeat' split
  all_goals first | rfl | (simp_all)
theorem dec_once {l : List Int} (hu : u8s l) (h : (dec15 l).2 = 0) : rightB (dec15 l).1.1 (dec15 l).1.2 = true ∧ encL (dec15 l).1.1 (dec15 l).1.2 = l := by
  by_cases h1 : l.length < 4
  · unfold dec15 at h
    rw [if_pos h1] at h
    cases h
  by_cases h2 : l.take 3 ≠ [82, 83, 84]
  · unfold dec15 at h
    rw [if_neg h1, if_pos h2] at h
    cases h
  by_cases h3 : l.take 4 ≠ [82, 83, 84, 1]
  · unfold dec15 at h
    rw [if_neg h1, if_neg h2, if_pos h3] at h
    cases h
  have h3' : l.take 4 = [82, 83, 84, 1] := Classical.byContradiction h3
  have hl : l = [82, 83, 84, 1] ++ l.drop 4 := by rw [← h3', List.take_append_drop]
  have hu' : u8s (l.drop 4) := u8s_drop hu 4
  generalize l.drop 4 = m at hl hu'
  subst hl
  rw [dec_head] at h ⊢
  obtain ⟨⟨⟨lk, sb⟩, s⟩, hf⟩ : ∃ p, fP ⟨m, 0⟩ = p := ⟨_, rfl⟩
  rw [hf] at h ⊢
  simp only at h ⊢
  by_cases he : s.endE ≠ 0
  · rw [if_pos he] at h
    exact absurd h he
  · have he' : s.endE = 0 := Classical.byContradiction he
    rw [if_neg he] at h ⊢
    by_cases hr : rightB lk sb = true
    · rw [if_pos hr]
      refine ⟨hr, ?_⟩
      unfold Sc.endE at he'
      split at he'
      · cases he'
      · rename_i hn
        have hs0 : s.l = [] := by
          cases hsl : s.l with
          | nil => rfl
          | cons a b => exact absurd ⟨he', by rw [hsl]; simp⟩ hn
        have hs : s = ⟨[], 0⟩ := by cases s; simp only at he' hs0; rw [he', hs0]
        rw [hs] at hf
        have := f_once hu' hf
        rw [List.append_nil] at this
        rw [enc_body, ← this]
    · rw [if_neg hr] at h
      cases h
/-- a state is the same as itself -/
theorem ints_self (l : List Int) (hl : l.length ≤ 4611686018427387904) : ∀ (d k i : Nat), i + d = l.length → d < k → rosetteref11_Ints.l0 k l l (i : Int) = some true := by
  intro d
  induction d with
  | zero =>
    intro k i hi hk
    obtain ⟨k, rfl⟩ : ∃ m, k = m + 1 := ⟨k - 1, by omega⟩
    simp only [rosetteref11_Ints.l0]
    rw [if_neg (by omega)]
  | succ d ih =>
    intro k i hi hk
    obtain ⟨k, rfl⟩ : ∃ m, k = m + 1 := ⟨k - 1, by omega⟩
    simp only [rosetteref11_Ints.l0]
    rw [if_pos (by omega), if_pos (by omega), if_pos (by omega), if_pos trivial, show wrap64 ((i : Int) + 1) = ((i + 1 : Nat) : Int) by unfold wrap64; omega]
    exact ih k (i + 1) (by omega) (by omega)
theorem same_in (l : List Int) (s : List S40) (hs : s.length ≤ 4611686018427387904) (i : Nat) (hi : i < s.length) (f0 f1 : Int) (f2 : List S46) (hf : f2.length ≤ 4611686018427387904)
    (h0 : ∃ K, ∀ k, K ≤ k → rosetteref15_Same.l0 k ((i + 1 : Nat) : Int) l s l s = some true) : ∀ (d j : Nat), j + d = f2.length → ∃ K, ∀ k, K ≤ k → rosetteref15_Same.l1 k (i : Int) (j : Int) l s l s f0 f1 f2 f0 f1 f2 = some true := by
  intro d
  induction d with
  | zero =>
    intro j hj
    obtain ⟨K, h⟩ := h0
    refine ⟨K + 1, fun k hk => ?_⟩
    obtain ⟨k, rfl⟩ : ∃ m, k = m + 1 := ⟨k - 1, by omega⟩
    simp only [rosetteref15_Same.l1]
    rw [if_neg (by omega), show wrap64 ((i : Int) + 1) = ((i + 1 : Nat) : Int) by unfold wrap64; omega]
    exact h k (by omega)
  | succ d ih =>
    intro j hj
    obtain ⟨K, h⟩ := ih (j + 1) (by omega)
    refine ⟨K + 1, fun k hk => ?_⟩
    obtain ⟨k, rfl⟩ : ∃ m, k = m + 1 := ⟨k - 1, by omega⟩
    simp only [rosetteref15_Same.l1]
    rw [if_pos (by omega), if_pos (by omega), if_pos (by omega), if_neg (by simp), show wrap64 ((j : Int) + 1) = ((j + 1 : Nat) : Int) by unfold wrap64; omega]
    exact h k (by omega)
theorem same_out (l : List Int) (s : List S40) (hs : s.length ≤ 4611686018427387904) (hr : ∀ x ∈ s, x.f2.length ≤ 4611686018427387904) : ∀ (d i : Nat), i + d = s.length → ∃ K, ∀ k, K ≤ k → rosetteref15_Same.l0 k (i : Int) l s l s = some true := by
  intro d
  induction d with
  | zero =>
    intro i hi
    refine ⟨1, fun k hk => ?_⟩
    obtain ⟨k, rfl⟩ : ∃ m, k = m + 1 := ⟨k - 1, by omega⟩
    simp only [rosetteref15_Same.l0]
    rw [if_neg (by omega)]
  | succ d ih =>
    intro i hi
    have hi' : i < s.length := by omega
    have e : rd_T40 s (i : Int) = s[i] := by simp [rd_T40, List.getD_eq_getElem?_getD, hi']
    obtain ⟨K, h⟩ := same_in l s hs i hi' (rd_T40 s (i : Int)).f0 (rd_T40 s (i : Int)).f1 (rd_T40 s (i : Int)).f2 (by rw [e]; exact hr _ (List.getElem_mem hi')) (ih (i + 1) (by omega)) (rd_T40 s (i : Int)).f2.length 0 (by omega)
    refine ⟨K + 2, fun k hk => ?_⟩
    obtain ⟨k, rfl⟩ : ∃ m, k = m + 2 := ⟨k - 2, by omega⟩
    have c1 : (i : Int) < (s.length : Int) := by omega
    have c2 : (0 : Int) ≤ (i : Int) := by omega
    simp only [rosetteref15_Same.l0, rosetteref15_Same.j2, c1, c2, if_true, bne_self_eq_false, Bool.false_eq_true, if_false]
    exact h k (by omega)
theorem same_self (l : List Int) (s : List S40) (hl : l.length ≤ 4611686018427387904) (hs : s.length ≤ 4611686018427387904) (hr : ∀ x ∈ s, x.f2.length ≤ 4611686018427387904) : ∃ K, ∀ k, K ≤ k → rosetteref15_Same.f k l s l s = some true := by
  obtain ⟨K, h⟩ := same_out l s hs hr s.length 0 (by omega)
  refine ⟨K + l.length + 2, fun k hk => ?_⟩
  have hi : rosetteref11_Ints.f k l l = some true := by
    unfold rosetteref11_Ints.f
    rw [if_pos rfl]
    exact ints_self l hl l.length k 0 (by omega) (by omega)
  unfold rosetteref15_Same.f
  rw [hi, Option.bind_some, if_pos rfl]
  obtain ⟨k, rfl⟩ : ∃ m, k = m + 1 := ⟨k - 1, by omega⟩
  simp only [rosetteref15_Same.j0]
  rw [if_neg (by simp)]
  exact h k (by omega)
theorem fuel_up {α : Type} {f : Nat → Option α} (h : ∀ k, LeO (f k) (f (k + 1))) {k : Nat} {b : α} (hb : f k = some b) : ∀ d, f (k + d) = some b := by
  intro d
  induction d with
  | zero => exact hb
  | succ d ih => exact h _ _ ih
end Go.Proofs.Ytkdhcmmfklganaa
end

section
/- what ranges an event meets and where it goes: the document's answers; plain laws -/
set_option linter.unusedVariables false
set_option autoImplicit false
namespace Go.Proofs.Ytkdhcmmfklganaa
open Go.RowKit Go.Proofs.YtkdhcmmfklganaaW.PrintWords Go.Proofs.YtkdhcmmfklganaaW.PrintLast Go.Proofs.Ytkdhcmmfklganaa.G

theorem get_go (e : List S50) (n : ByteArray) (he : e.length ≤ 4611686018427387904) : ∀ (d k i : Nat), i + d = e.length → d < k → rosetteref05_Get.l0 k e n (i : Int) = some (match (e.drop i).find? (fun a => a.f0.toList == n.toList) with | some a => (a.f1.f0, a.f1.f1, a.f1.f2, true) | none => (0, 0, (⟨#[]⟩ : ByteArray), false)) := by
  intro d
  induction d with
  | zero =>
    intro k i hi hk
    obtain ⟨k, rfl⟩ : ∃ m, k = m + 1 := ⟨k - 1, by omega⟩
    simp only [rosetteref05_Get.l0]
    rw [if_neg (by omega), List.drop_of_length_le (by omega)]
    rfl
  | succ d ih =>
    intro k i hi hk
    obtain ⟨k, rfl⟩ : ∃ m, k = m + 1 := ⟨k - 1, by omega⟩
    have hlt : i < e.length := by omega
    have hr : rd_T50 e (i : Int) = e[i] := by simp [rd_T50, List.getD_eq_getElem?_getD, hlt]
    simp only [rosetteref05_Get.l0]
    rw [if_pos (by omega), if_pos (by omega), hr, List.drop_eq_getElem_cons hlt, List.find?_cons]
    by_cases hq : e[i].f0.toList = n.toList
    · rw [if_pos hq, show (e[i].f0.toList == n.toList) = true by simpa using hq]
    · rw [if_neg hq, show (e[i].f0.toList == n.toList) = false by simpa using hq, show wrap64 ((i : Int) + 1) = ((i + 1 : Nat) : Int) by unfold wrap64; omega]
      exact ih k (i + 1) (by omega) (by omega)
theorem get_ref (e : List S50) (n : ByteArray) (he : e.length ≤ 4611686018427387904) (k : Nat) (hk : e.length < k) : rosetteref05_Get.f k e n = some ((gv e n).f0, (gv e n).f1, (gv e n).f2, gis e n) := by
  unfold rosetteref05_Get.f
  rw [show (0 : Int) = ((0 : Nat) : Int) from rfl, get_go e n he e.length k 0 (by omega) hk, List.drop_zero]
  unfold gv gis
  cases e.find? (fun a => a.f0.toList == n.toList) with
  | none => rfl
  | some a => rfl
theorem meets_body (e : List S50) (x : S46) (he : e.length ≤ 4611686018427387904) (k : Nat) (hk : e.length < k) (rest : Option Bool) :
    ((rosetteref05_Get.f k e x.f0).bind fun bt => ((rosetteref04_Right.f bt.1 bt.2.1 bt.2.2.1).bind fun t => (if bt.2.2.2 = true then (if t = true then (if bt.1 = 1 then (if bt.2.1 < x.f1 then (some false) else (if bt.2.1 > x.f2 then (some false) else rest)) else (some false)) else (some false)) else (some false)))) = (if nmet e x = true then some false else rest) := by
  rw [get_ref e x.f0 he k hk]
  simp only [Option.bind_some]
  have hz : gis e x.f0 = false → (gv e x.f0).f0 = 0 := by
    unfold gis gv
    cases e.find? (fun a => a.f0.toList == x.f0.toList) with
    | none => intro _; rfl
    | some a => intro h; cases h
  unfold nmet
  generalize gis e x.f0 = is at hz ⊢
  generalize gv e x.f0 = v at hz ⊢
  obtain ⟨a, b, c⟩ := v
  simp only at hz ⊢
  by_cases h1 : a = 1
  · subst h1
    have hi : is = true := by cases is with | true => rfl | false => exact absurd (hz rfl) (by decide)
    subst hi
    unfold rosetteref04_Right.f inB
    rw [if_pos rfl]
    simp only [Option.bind_some, if_true]
    cases hc : c.toList with
    | nil =>
      by_cases h2 : b < x.f1
      · simp [h2]
      · by_cases h3 : b > x.f2
        · simp [h2, h3] <;> omega
        · simp [h2, h3] <;> omega
    | cons u l => simp
  · have hr : ∃ t, rosetteref04_Right.f a b c = some t := by
      unfold rosetteref04_Right.f
      repeat' split
      all_goals exact ⟨_, rfl⟩
    obtain ⟨t, ht⟩ := hr
    rw [ht]
    simp only [Option.bind_some]
    rw [if_neg h1]
    have hn : (a != 1) = true := by simpa using h1
    rw [hn]
    cases is <;> cases t <;> simp
theorem meets_ref (e : List S50) (l : List S46) (he : e.length ≤ 4611686018427387904) (hl : l.length ≤ 4611686018427387904) : ∀ (d k i : Nat), i + d = l.length → d + e.length < k → rosetteref15_Meets.l0 k l e (i : Int) = some (!((l.drop i).any (nmet e))) := by
  intro d
  induction d with
  | zero =>
    intro k i hi hk
    obtain ⟨k, rfl⟩ : ∃ m, k = m + 1 := ⟨k - 1, by omega⟩
    simp only [rosetteref15_Meets.l0]
    rw [if_neg (by omega), List.drop_of_length_le (by omega)]
    rfl
  | succ d ih =>
    intro k i hi hk
    obtain ⟨k, rfl⟩ : ∃ m, k = m + 1 := ⟨k - 1, by omega⟩
    have hlt : i < l.length := by omega
    have hr : rd_T46 l (i : Int) = l[i] := by simp [rd_T46, List.getD_eq_getElem?_getD, hlt]
    have hb := meets_body e l[i] he k (by omega) (rosetteref15_Meets.l0 k l e (wrap64 ((i : Int) + 1)))
    simp only [rosetteref15_Meets.l0]
    rw [if_pos (by omega), if_pos (by omega), hr]
    refine hb.trans ?_
    rw [show wrap64 ((i : Int) + 1) = ((i + 1 : Nat) : Int) by unfold wrap64; omega, ih k (i + 1) (by omega) (by omega), List.drop_eq_getElem_cons hlt, List.any_cons]
    cases nmet e l[i] <;> simp
theorem meets_f (e : List S50) (l : List S46) (he : e.length ≤ 4611686018427387904) (hl : l.length ≤ 4611686018427387904) (k : Nat) (hk : l.length + e.length < k) : rosetteref15_Meets.f k l e = some (meetsB e l) := by
  have h := meets_ref e l he hl l.length k 0 (by omega) hk
  rw [List.drop_zero] at h
  exact h
theorem next_in (e : List S50) (links : List Int) (subs : List S40) (fr : Int) (he : e.length ≤ 4611686018427387904) (hl : links.length ≤ 1000) (hs : subs.length ≤ 1000) (hx : ∀ x ∈ subs, x.f2.length ≤ 1000) (i : Nat) (hi : i < links.length) (acc : List Int) (ha : acc.length ≤ i)
    (H : ∀ acc' : List Int, acc'.length ≤ i + 1 → ∃ K, ∀ k, K ≤ k → rosetteref15_Next.l0 k e fr acc' ((i + 1 : Nat) : Int) links subs = some (acc' ++ nextL e (links.drop (i + 1)) subs fr)) : ∀ (d j : Nat) (b : Bool), j + d = subs.length →
    ∃ K, ∀ k, K ≤ k → rosetteref15_Next.l1 k e fr acc (i : Int) b (j : Int) links subs = some (acc ++ (if (rd links (i : Int) != fr && (b || (subs.drop j).any (goesB e (rd links (i : Int))))) = true then [rd links (i : Int)] else []) ++ nextL e (links.drop (i + 1)) subs fr) := by
  intro d
  have hw : wrap64 ((i : Int) + 1) = ((i + 1 : Nat) : Int) := by unfold wrap64; omega
  have h2 : (0 : Int) ≤ (i : Int) := by omega
  have h3 : (i : Int) < (links.length : Int) := by omega
  have h4 : acc.length < 17592186044416 := by omega
  induction d with
  | zero =>
    intro j b hj
    have h1 : ¬ ((j : Int) < (subs.length : Int)) := by omega
    rw [List.drop_of_length_le (by omega), List.any_nil, Bool.or_false]
    cases b with
    | false =>
      obtain ⟨K, h⟩ := H acc (by omega)
      refine ⟨K + 1, fun k hk => ?_⟩
      obtain ⟨k, rfl⟩ : ∃ m, k = m + 1 := ⟨k - 1, by omega⟩
      simp only [rosetteref15_Next.l1]
      rw [if_neg h1, if_neg (by decide), hw, h k (by omega)]
      simp
    | true =>
      by_cases hf : rd links (i : Int) = fr
      · obtain ⟨K, h⟩ := H acc (by omega)
        refine ⟨K + 1, fun k hk => ?_⟩
        obtain ⟨k, rfl⟩ : ∃ m, k = m + 1 := ⟨k - 1, by omega⟩
        simp only [rosetteref15_Next.l1]
        rw [if_neg h1, if_pos trivial, if_pos h2, if_pos h3, if_pos hf, hw, h k (by omega)]
        simp [hf]
      · obtain ⟨K, h⟩ := H (acc ++ [rd links (i : Int)]) (by simp; omega)
        refine ⟨K + 1, fun k hk => ?_⟩
        obtain ⟨k, rfl⟩ : ∃ m, k = m + 1 := ⟨k - 1, by omega⟩
        simp only [rosetteref15_Next.l1]
        rw [if_neg h1, if_pos trivial, if_pos h2, if_pos h3, if_neg hf, if_pos h4, hw, h k (by omega)]
        simp [hf]
  | succ d ih =>
    intro j b hj
    have hlt : j < subs.length := by omega
    have h1 : (j : Int) < (subs.length : Int) := by omega
    have h0 : (0 : Int) ≤ (j : Int) := by omega
    have hwj : wrap64 ((j : Int) + 1) = ((j + 1 : Nat) : Int) := by unfold wrap64; omega
    have hr : rd_T40 subs (j : Int) = subs[j] := by simp [rd_T40, List.getD_eq_getElem?_getD, hlt]
    have hx2 := hx subs[j] (List.getElem_mem hlt)
    obtain ⟨K, h⟩ := ih (j + 1) (b || goesB e (rd links (i : Int)) subs[j]) (by omega)
    refine ⟨K + e.length + 1003, fun k hk => ?_⟩
    obtain ⟨k, rfl⟩ : ∃ m, k = m + 1 := ⟨k - 1, by omega⟩
    have hm := meets_f e subs[j].f2 he (by omega) k (by omega)
    have h := h k (by omega)
    rw [List.drop_eq_getElem_cons hlt, List.any_cons, ← Bool.or_assoc]
    rw [← h]
    simp only [rosetteref15_Next.l1]
    rw [if_pos h1, hwj, hr]
    cases b with
    | true => rw [if_pos rfl, Bool.true_or]
    | false =>
      rw [if_neg (by decide), if_pos h0, if_pos h2, if_pos h3, Bool.false_or]
      by_cases hq : subs[j].f1 = rd links (i : Int)
      · rw [if_pos hq, hm, Option.bind_some, show goesB e (rd links (i : Int)) subs[j] = meetsB e subs[j].f2 by unfold goesB; rw [show (subs[j].f1 == rd links (i : Int)) = true by simpa using hq, Bool.true_and]]
      · rw [if_neg hq, show goesB e (rd links (i : Int)) subs[j] = false by unfold goesB; rw [show (subs[j].f1 == rd links (i : Int)) = false by simpa using hq, Bool.false_and]]
theorem next_out (e : List S50) (links : List Int) (subs : List S40) (fr : Int) (he : e.length ≤ 4611686018427387904) (hl : links.length ≤ 1000) (hs : subs.length ≤ 1000) (hx : ∀ x ∈ subs, x.f2.length ≤ 1000) : ∀ (d i : Nat) (acc : List Int), i + d = links.length → acc.length ≤ i →
    ∃ K, ∀ k, K ≤ k → rosetteref15_Next.l0 k e fr acc (i : Int) links subs = some (acc ++ nextL e (links.drop i) subs fr) := by
  intro d
  induction d with
  | zero =>
    intro i acc hi ha
    refine ⟨1, fun k hk => ?_⟩
    obtain ⟨k, rfl⟩ : ∃ m, k = m + 1 := ⟨k - 1, by omega⟩
    simp only [rosetteref15_Next.l0]
    rw [if_neg (by omega), List.drop_of_length_le (by omega)]
    simp [nextL]
  | succ d ih =>
    intro i acc hi ha
    have hlt : i < links.length := by omega
    have hr : rd links (i : Int) = links[i] := by simp [rd, List.getD_eq_getElem?_getD, hlt]
    obtain ⟨K, h⟩ := next_in e links subs fr he hl hs hx i hlt acc ha (fun acc' ha' => ih (i + 1) acc' (by omega) ha') subs.length 0 false (by omega)
    refine ⟨K + 1, fun k hk => ?_⟩
    obtain ⟨k, rfl⟩ : ∃ m, k = m + 1 := ⟨k - 1, by omega⟩
    simp only [rosetteref15_Next.l0]
    rw [if_pos (by omega)]
    refine (h k (by omega)).trans ?_
    rw [List.drop_zero, Bool.false_or, hr, List.drop_eq_getElem_cons hlt, List.append_assoc]
    unfold nextL
    rw [List.filter_cons]
    split <;> simp
theorem next_f (e : List S50) (links : List Int) (subs : List S40) (fr : Int) (he : e.length ≤ 4611686018427387904) (hf : Fit links subs) : ∃ K, ∀ k, K ≤ k → rosetteref15_Next.f k links subs e fr = some (nextL e links subs fr) := by
  obtain ⟨K, h⟩ := next_out e links subs fr he (by have := hf.n1; omega) (by have := hf.n2; omega) (fun x hx => by have := (hf.sb x hx).2.2.1; omega) links.length 0 [] (by omega) (by simp)
  exact ⟨K, fun k hk => by have := h k hk; rwa [List.drop_zero, List.nil_append] at this⟩
theorem few5_go (e : List S50) (he : e.length ≤ 4611686018427387904) : ∀ (d k i : Nat), i + d = e.length → d < k → ∃ b, rosettelaw05_Few.l0 k e (i : Int) = some b := by
  intro d
  induction d with
  | zero =>
    intro k i hi hk
    obtain ⟨k, rfl⟩ : ∃ m, k = m + 1 := ⟨k - 1, by omega⟩
    simp only [rosettelaw05_Few.l0]
    rw [if_neg (by omega)]
    exact ⟨_, rfl⟩
  | succ d ih =>
    intro k i hi hk
    obtain ⟨k, rfl⟩ : ∃ m, k = m + 1 := ⟨k - 1, by omega⟩
    simp only [rosettelaw05_Few.l0]
    rw [if_pos (by omega), if_pos (by omega)]
    split
    · exact ⟨_, rfl⟩
    · split
      · exact ⟨_, rfl⟩
      · rw [show wrap64 ((i : Int) + 1) = ((i + 1 : Nat) : Int) by unfold wrap64; omega]
        exact ih k (i + 1) (by omega) (by omega)
end Go.Proofs.Ytkdhcmmfklganaa
end

section
/- The statement FirstMeans over numbers and lists: what ranges an event meets, and where it goes. -/
namespace Go.Proofs.Ytkdhcmmfklganaa.Pure
open Go.RowKit Go.Proofs.Ytkdhcmmfklganaa Go.Proofs.Ytkdhcmmfklganaa.G Go.Proofs.YtkdhcmmfklganaaW.PrintWords Go.Proofs.YtkdhcmmfklganaaW.PrintLast

theorem ints_f (l : List Int) (hl : l.length ≤ 4611686018427387904) (k : Nat) (hk : l.length < k) : rosetteref11_Ints.f k l l = some true := by
  unfold rosetteref11_Ints.f
  rw [if_pos rfl]
  exact ints_self l hl l.length k 0 (by omega) hk
theorem FirstMeans : rosettelaw15_FirstMeans.Pure := by
  intro a0 l1 a2 l3 hp h1 _ h3
  have hb1 : a0.f1.length ≤ 4611686018427387904 := by have := hp.2.1.2; omega
  have hb2 : ∀ x ∈ a0.f1, x.f2.length ≤ 4611686018427387904 := fun x hx => by have := (hp.2.2 x hx).2.2.1.2; omega
  have he : l1.length ≤ 4611686018427387904 := by have := h1.1.2; omega
  have hl : l3.length ≤ 4611686018427387904 := by have := h3.1.2; omega
  obtain ⟨k1, b1, e1⟩ := few_some a0.f0 a0.f1 hb1 hb2
  obtain ⟨k3, b3, e3⟩ := few_some [] [⟨0, 0, l3⟩] (by simp) (fun x hx => by rw [List.mem_singleton] at hx; subst hx; exact hl)
  obtain ⟨K, hK⟩ : ∃ K, rightB a0.f0 a0.f1 = true → ∀ k, K ≤ k → rosetteref15_Next.f k a0.f0 a0.f1 l1 a2 = some (nextL l1 a0.f0 a0.f1 a2) := by
    cases hr : rightB a0.f0 a0.f1 with
    | false => exact ⟨0, fun h => by cases h⟩
    | true =>
      obtain ⟨K, h⟩ := next_f l1 a0.f0 a0.f1 a2 he (fit_of hr)
      exact ⟨K, fun _ => h⟩
  have hn : (nextL l1 a0.f0 a0.f1 a2).length ≤ a0.f0.length := List.length_filter_le _ _
  have hb0 : a0.f0.length ≤ 4611686018427387904 := by have := hp.1.1.2; omega
  obtain ⟨k, hk⟩ : ∃ k, k = k1 + k3 + K + l1.length + l3.length + a0.f0.length + 2 := ⟨_, rfl⟩
  refine ⟨k, ?_⟩
  have f1 : rosettelaw15_Few.f k a0.f0 a0.f1 = some b1 := by
    have := fuel_up (f := fun k => rosettelaw15_Few.f k a0.f0 a0.f1) (fun k => rosettelaw15_Few.mono _ _ k) e1 (k - k1)
    rwa [show k1 + (k - k1) = k by omega] at this
  have f3 : rosettelaw15_Few.f k [] [⟨0, 0, l3⟩] = some b3 := by
    have := fuel_up (f := fun k => rosettelaw15_Few.f k [] [⟨0, 0, l3⟩]) (fun k => rosettelaw15_Few.mono _ _ k) e3 (k - k3)
    rwa [show k3 + (k - k3) = k by omega] at this
  obtain ⟨b5, f5⟩ := few5_go l1 he l1.length k 0 (by omega) (by omega)
  have f5' : rosettelaw05_Few.f k l1 = some b5 := f5
  unfold rosettelaw15_FirstMeans.f
  rw [f1, Option.bind_some, f5', Option.bind_some, f3, Option.bind_some]
  unfold meansF
  by_cases c : b1 = false ∨ b5 = false ∨ b3 = false
  · exact if_pos c
  · refine (if_neg c).trans (if_pos ⟨meets_f l1 l3 he hl k (by omega), fun hr => ⟨hK hr k (by omega), ints_f _ (by omega) k (by omega)⟩⟩)
end Go.Proofs.Ytkdhcmmfklganaa.Pure
end

section
/- What comes in, opened kind by kind: a datum that is read whole reads as a list, a structure, a number; and no slice and no text of it is longer than the form's reach. -/
set_option linter.unusedVariables false
set_option linter.unusedSimpArgs false
set_option autoImplicit false
namespace Go.Proofs.Ytkdhcmmfklganaa.Op
open Go.RowKit Go.Deep Go.ChangeShapes Go.WideShapes Go.Proofs.YtkdhcmmfklganaaW.PrintWords

section
variable {H α β : Type} (enc : TypeId × Value → H) (P : Program) (W : World)
/-- no part of a datum is longer than the reach -/
def Lite (P : Program) (t : TypeId) (d : DataW H) : Prop := ∀ n ∈ d.weights P t, n ≤ 140737488351232
/-- whatever is read at type t, and is no longer than the reach, is of the kind d, and good -/
def Opens (t : TypeId) (d : Kd α) (good : α → Prop) : Prop :=
  ∀ fuel (cs : List Value) x, DataW.trod enc P W 0 (fun _ => true) true fuel t cs = some x → Lite P t x.1 → ∃ a, d.K W a cs ∧ good a
def OpensF (fs : List Field) (o : Nat) (d : Kd α) (good : α → Prop) : Prop :=
  ∀ fuel (cs : List Value) xs, (fs.mapM fun f => DataW.trod enc P W 0 (fun _ => true) true fuel f.type ((cs.drop f.offset).take (P.cellsOf f.type))) = some xs → (∀ n ∈ DataW.weightsEach P (fs.map (·.type)) (xs.map (·.1)), n ≤ 140737488351232) → cs.length = o + d.sz → ∃ a, d.K W a (cs.drop o) ∧ good a
variable {enc P W}
theorem opens_int {t : TypeId} {k : IntKind} (ht : P.underlying t = some (.int k)) : Opens enc P W t (Kd.int k) (fun n => (Lit.int k n).wf = true) := by
  intro fuel cs x h _
  obtain ⟨n, h1, _, h2⟩ := DataW.trod_int ht h
  exact ⟨n, h1, h2⟩
theorem opens_bool {t : TypeId} (ht : P.underlying t = some .bool) : Opens enc P W t Kd.bool (fun _ => True) := by
  intro fuel cs x h _
  obtain ⟨n, h1, _⟩ := DataW.trod_bool ht h
  exact ⟨n, h1, trivial⟩
theorem opens_str {t : TypeId} (ht : P.underlying t = some .string) : Opens enc P W t Kd.string (fun s => s.size ≤ 140737488351232) := by
  intro fuel cs x h hl
  obtain ⟨s, h1, h2, _⟩ := DataW.trod_string ht h
  refine ⟨s, h1, ?_⟩
  rw [h2] at hl
  have := hl s.data.toList.length (by simp [DataW.weights])
  rw [Array.length_toList] at this
  exact this
theorem weightsAll_mem {e : TypeId} : ∀ {ds : List (DataW H)} {d : DataW H}, d ∈ ds → ∀ n ∈ d.weights P e, n ∈ DataW.weightsAll P e ds := by
  intro ds
  induction ds with
  | nil => intro d h; cases h
  | cons y ys ih =>
    intro d h n hn
    rw [DataW.weightsAll]
    rcases List.mem_cons.1 h with rfl | h
    · exact List.mem_append_left _ hn
    · exact List.mem_append_right _ (ih h n hn)
theorem opens_slice {t e : TypeId} {d : Kd α} {good : α → Prop} {B : Nat} (ht : P.underlying t = some (.slice e)) (hs : P.cellsOf e = d.sz) (hB : P.bytesOf e = B) (h : Opens enc P W e d good) :
    Opens enc P W t (Kd.slice e d) (fun xs => (xs.length ≤ maxLen ∧ xs.length * B ≤ 140737488351232) ∧ ∀ x ∈ xs, good x) := by
  intro fuel cs x hx hw
  rcases open_slice ht hx with ⟨rfl, _⟩ | ⟨a, len, cap, m, n, D, Pl, rfl, hb, hl, hm, hmm, rfl, hel⟩
  · exact ⟨[], ⟨none, 0, rfl, Nat.le_refl _, Kd.C_nil _ _⟩, ⟨Nat.zero_le _, by simp⟩, fun _ h => by cases h⟩
  · simp only [if_true] at hmm
    have hwt : ∀ n ∈ (len + (m - len)) * P.bytesOf e :: (DataW.weightsAll P e ((List.range len).map D) ++ DataW.weightsAll P e ((List.range (m - len)).map fun j => D (len + j))), n ≤ 140737488351232 := by
      have h1 := hw
      unfold Lite at h1
      rw [DataW.weights] at h1
      simp only [ht, List.length_map, List.length_range] at h1
      exact h1
    have hlenB : len * B ≤ 140737488351232 := by
      have h1 := hwt _ List.mem_cons_self
      rw [hB] at h1
      exact Nat.le_trans (Nat.mul_le_mul_right _ (by omega)) h1
    have hlite : ∀ i, i < len → Lite P e (D i) := fun i hi n hn => hwt n (List.mem_cons_of_mem _ (List.mem_append_left _ (weightsAll_mem (List.mem_map.2 ⟨i, List.mem_range.2 hi, rfl⟩) n hn)))
    have each : ∀ i, i < len → ∃ y : α, ∃ c, W.cells? 0 (a.add (i * P.cellsOf e)) (P.cellsOf e) = some c ∧ d.K W y c ∧ good y := by
      intro i hi
      obtain ⟨c, h1, h2⟩ := hel i (by omega)
      obtain ⟨y, h3, h4⟩ := h _ _ _ h2 (hlite i hi)
      exact ⟨y, c, h1, h3, h4⟩
    have build : ∃ xs : List α, xs.length = len ∧ ∀ i y, xs[i]? = some y → ∃ c, W.cells? 0 (a.add (i * P.cellsOf e)) (P.cellsOf e) = some c ∧ d.K W y c ∧ good y := by
      clear hx hel hm hl hb hmm hw hwt hlenB hlite
      induction len with
      | zero => exact ⟨[], rfl, fun i y h => by simp at h⟩
      | succ len ih =>
        obtain ⟨xs, h1, h2⟩ := ih (fun i hi => each i (by omega))
        obtain ⟨y, c, h3, h4, h5⟩ := each len (by omega)
        refine ⟨xs ++ [y], by simp [h1], fun i z hz => ?_⟩
        by_cases hi : i < len
        · exact h2 i z (by rw [List.getElem?_append_left (by omega)] at hz; exact hz)
        · have hi2 : i < (xs ++ [y]).length := (List.getElem?_eq_some_iff.1 hz).1
          have : i = len := by rw [List.length_append, List.length_singleton] at hi2; omega
          subst this
          rw [List.getElem?_append_right (by omega), h1, Nat.sub_self] at hz
          simp only [List.getElem?_cons_zero, Option.some.injEq] at hz
          subst hz
          exact ⟨c, h3, h4, h5⟩
    obtain ⟨xs, h1, h2⟩ := build
    refine ⟨xs, ⟨some a, cap, by rw [h1], by omega, rfl, by rw [h1]; simp only [maxLen] at hm; omega, fun h0 => ⟨a, rfl, fun j p hj => ?_⟩⟩, ⟨by omega, by rw [h1]; exact hlenB⟩, fun y hy => ?_⟩
    · obtain ⟨c, h3, h4, h5⟩ := h2 j p hj
      obtain ⟨_, hlen, hcell⟩ := World.cells?_some h3
      refine ⟨c, by rw [hlen, hs], h4, fun i u hu => ?_⟩
      have hi : i < P.cellsOf e := by rw [← hlen]; exact (List.getElem?_eq_some_iff.1 hu).1
      have := hcell i hi
      rw [hu, Go.Proofs.YtkdhcmmfklganaaW.PrintWords.add_add, hs] at this
      exact this
    · obtain ⟨i, hi⟩ := List.getElem?_of_mem hy
      obtain ⟨c, _, _, h5⟩ := h2 i y hi
      exact h5
theorem opensF_one {f : Field} {o : Nat} {d : Kd α} {good : α → Prop} (ho : f.offset = o) (hc : P.cellsOf f.type = d.sz) (h : Opens enc P W f.type d good) : OpensF enc P W [f] o d good := by
  intro fuel cs xs hx hw hl
  simp only [List.mapM_cons, List.mapM_nil, Option.pure_def, Option.bind_eq_bind, Option.bind_eq_some_iff] at hx
  obtain ⟨y, h1, z, hz, hxs⟩ := hx
  simp only [Option.some.injEq] at hz hxs
  subst hz
  subst hxs
  obtain ⟨a, h2, h3⟩ := h _ _ _ h1 (fun n hn => hw n (by simp [DataW.weightsEach, hn]))
  rw [ho, hc, List.take_of_length_le (by rw [List.length_drop]; omega)] at h2
  exact ⟨a, h2, h3⟩
theorem opensF_cons {f : Field} {fs : List Field} {o : Nat} {d : Kd α} {e : Kd β} {g1 : α → Prop} {g2 : β → Prop} (ho : f.offset = o) (hc : P.cellsOf f.type = d.sz) (h : Opens enc P W f.type d g1) (hr : OpensF enc P W fs (o + d.sz) e g2) :
    OpensF enc P W (f :: fs) o (Kd.pair d e) (fun p => g1 p.1 ∧ g2 p.2) := by
  intro fuel cs xs hx hw hl
  simp only [List.mapM_cons, Option.pure_def, Option.bind_eq_bind, Option.bind_eq_some_iff] at hx
  obtain ⟨y, h1, ys, h2, hxs⟩ := hx
  simp only [Option.some.injEq] at hxs
  subst hxs
  have hsz : (Kd.pair d e).sz = d.sz + e.sz := rfl
  obtain ⟨a, h3, h4⟩ := h _ _ _ h1 (fun n hn => hw n (by simp [DataW.weightsEach, hn]))
  obtain ⟨b, h5, h6⟩ := hr _ _ _ h2 (fun n hn => hw n (by rw [List.map_cons, List.map_cons, DataW.weightsEach]; exact List.mem_append_right _ hn)) (by omega)
  rw [ho, hc] at h3
  refine ⟨(a, b), ⟨_, _, ?_, h3, h5⟩, h4, h6⟩
  rw [← List.drop_drop, List.take_append_drop]
theorem opens_struct {t : TypeId} {fs : Array Field} {d : Kd α} {good : α → Prop} (ht : P.underlying t = some (.struct fs)) (hc : P.cellsOf t = d.sz) (h : OpensF enc P W fs.toList 0 d good) : Opens enc P W t d good := by
  intro fuel cs x hx hw
  cases fuel with
  | zero => simp [DataW.trod] at hx
  | succ fuel =>
    have key : cs.length = P.cellsOf t ∧ ∃ xs, (fs.toList.mapM fun f => DataW.trod enc P W 0 (fun _ => true) true fuel f.type ((cs.drop f.offset).take (P.cellsOf f.type))) = some xs ∧ x.1 = .agg (xs.map (·.1)) := by
      unfold DataW.trod at hx
      rw [ht] at hx
      simp only at hx
      split at hx
      · rename_i hl
        rw [Option.map_eq_some_iff] at hx
        obtain ⟨xs, h1, h2⟩ := hx
        exact ⟨hl, xs, h1, by rw [← h2]⟩
      · cases hx
    obtain ⟨h1, xs, h2, h3⟩ := key
    have hw2 : ∀ n ∈ DataW.weightsEach P (fs.toList.map (·.type)) (xs.map (·.1)), n ≤ 140737488351232 := by
      unfold Lite at hw
      rw [h3, DataW.weights] at hw
      simp only [ht] at hw
      exact hw
    obtain ⟨a, h4, h5⟩ := h _ _ _ h2 hw2 (by omega)
    exact ⟨a, by simpa using h4, h5⟩
theorem opens_iso {t : TypeId} {d : Kd α} {good : α → Prop} (f : β → α) (g : α → β) (hfg : ∀ a, f (g a) = a) (h : Opens enc P W t d good) : Opens enc P W t (Kd.iso d f) (fun x => good (f x)) := by
  intro fuel cs x hx hw
  obtain ⟨a, h1, h2⟩ := h _ _ _ hx hw
  refine ⟨g a, ?_, by show good (f (g a)); rw [hfg]; exact h2⟩
  show d.K W (f (g a)) cs
  rw [hfg]
  exact h1
/-- the weight of an argument -/
theorem lite_arg {ts : List TypeId} {ds : List (DataW H)} (hsz : (DataW.weightsEach P ts ds).all (· ≤ reachBytes) = true) {j : Nat} {t : TypeId} {d : DataW H} (ht : ts[j]? = some t) (hd : ds[j]? = some d) : Lite P t d := by
  intro n hn
  have := List.all_eq_true.1 hsz n (DataW.weights_mem_each ht hd n hn)
  have h2 : n ≤ reachBytes := by simpa using this
  exact Nat.le_trans h2 (by decide)
/-- a slice that is handed in -/
theorem open_arg {t e : TypeId} {d : Kd α} {good : α → Prop} {B : Nat} (ht : P.underlying t = some (.slice e)) (hs : P.cellsOf e = d.sz) (hB : P.bytesOf e = B) (h : Opens enc P W e d good) {A : Option Addr} {n c : Nat} {y : DataW H} {p : List MemPlace}
    (hl : Lite P t y) (hx : DataW.Trod enc P W 0 (fun _ => true) true t (.slice A n c) y p) : ∃ xs : List α, n = xs.length ∧ xs.length ≤ c ∧ c ≤ maxLen ∧ d.C W A xs.length xs ∧ (xs.length ≤ maxLen ∧ xs.length * B ≤ 140737488351232) ∧ ∀ x ∈ xs, good x := by
  obtain ⟨fuel, hf⟩ := hx
  have hcap : c ≤ maxLen := by
    rcases open_slice ht hf with ⟨hcs, _⟩ | ⟨a, len, cap, m, n, D, Pl, hcs, hb, hl, hm, hmm, _, hel⟩
    · simp only [Value.cells, List.cons.injEq, Value.slice.injEq, and_true] at hcs
      omega
    · simp only [Value.cells, List.cons.injEq, Value.slice.injEq, and_true] at hcs
      omega
  obtain ⟨xs, ⟨A', c', h1, h2, h3⟩, h4, h5⟩ := opens_slice ht hs hB h _ _ _ hf hl
  simp only [Value.cells, List.cons.injEq, Value.slice.injEq, and_true] at h1
  obtain ⟨rfl, rfl, rfl⟩ := h1
  exact ⟨xs, rfl, h2, hcap, h3, h4, h5⟩
/-- a text that is handed in -/
theorem lite_str {t : TypeId} {s : ByteArray} (hl : Lite (H := H) P t (.lit (.string s.data.toList))) : s.size ≤ 140737488351232 := by
  have := hl s.data.toList.length (by simp [DataW.weights])
  rw [Array.length_toList] at this
  exact this
end
end Go.Proofs.Ytkdhcmmfklganaa.Op
end

section
namespace Go.Proofs.Ytkdhcmmfklganaa.firstMeans
open Go.ChangeShapes Go.WideShapes Go.ChangeAt Go.RowKit Go.Proofs.Ytkdhcmmfklganaa Go.Proofs.Ytkdhcmmfklganaa.G Go.Proofs.YtkdhcmmfklganaaW.PrintWords Go.Proofs.YtkdhcmmfklganaaW.PrintLast Go.Proofs.YtkdhcmmfklganaaW.PrintMore
open Go.ChangeMaps (open_string shut_string)
set_option linter.unusedVariables false
set_option linter.unusedSimpArgs false
theorem own : ownKnob Try.prog.godebug = none := by kernel_rfl
theorem laidOut : laidOutB Try.prog = true := by kernel_rfl
set_option maxRecDepth 100000 in
theorem lifted (os : Os) (started : os.Started) (H : Type) (enc : TypeId × Value → H) :
    ReturnsInHanded {} Try.checked os 4 .any (Rows.firstMeansSpec.pre6 enc Try.prog Try.f4 Rows.firstMeansRow.domain false) (Rows.firstMeansSpec.post enc Try.prog Try.f4 false true false false) := by
  refine returnsInHanded_of_change_sized (C := Try.checked) own started (by kernel_rfl) Try.func4
    (ChangeSpec.witness6 (enc := enc) (C := Try.checked) false ⟨#[], #[.agg #[.slice none 0 0, .slice none 0 0], .slice none 0 0, .int .i64 0, .slice none 0 0], []⟩ 8 (by kernel_rfl) (by kernel_rfl) (by kernel_rfl) (by kernel_rfl)) ?_
  intro W base args ds gs before hval0 hW hcnd hsz0 _
  have hsz : (DataW.weightsEach Try.prog (Try.f4.params.toList ++ Rows.firstMeansSpec.plain.varTypes Try.prog) (ds ++ gs)).all (· ≤ reachBytes) = true := hsz0
  have hval : ∀ (j : Nat) t v, Try.f4.params[j]? = some t → args[j]? = some v → Value.okWide Try.prog W .any base t v := hval0
  have hW' := hW
  obtain ⟨p, q, hA0, hV, rfl, hfz, hnd⟩ := hW
  have hA : DataW.TrodAll enc Try.prog W 0 (fun _ => true) true Try.f4.params.toList args.toList ds p := hA0
  rw [Try.params4] at hA hval hsz
  obtain ⟨v0, vs0, d0, ds0, p0, q0, hargs, rfl, rfl, h0, r0⟩ := trodAll_cons hA
  obtain ⟨v1, vs1, d1, ds1, p1, q1, rfl, rfl, rfl, h1, r1⟩ := trodAll_cons r0
  obtain ⟨v2, vs2, d2, ds2, p2, q2, rfl, rfl, rfl, h2, r2⟩ := trodAll_cons r1
  obtain ⟨v3, vs3, d3, ds3, p3, q3, rfl, rfl, rfl, h3, r3⟩ := trodAll_cons r2
  obtain ⟨rfl, rfl, rfl⟩ := trodAll_nil r3
  obtain rfl : args = #[v0, v1, v2, v3] := by cases args; simp_all
  obtain ⟨rfl, rfl⟩ := trodVars_none hV
  have k0 := h0
  have lt0 : ∀ x ∈ p0, x.block < W.heap.size := by obtain ⟨m, hm⟩ := k0; exact DataW.trod_lt m _ _ _ hm
  obtain ⟨cs0, rfl, _⟩ := okWide_struct Try.underlying25 (hval 0 25 v0 rfl rfl)
  have q0 := Op.lite_arg hsz (j := 0) (t := 25) rfl rfl
  obtain ⟨fu0, hf0⟩ := h0
  obtain ⟨a0, hK0, hg0⟩ := (Op.opens_iso (fun x : S25 => (x.f0, x.f1)) (fun p => (⟨p.1, p.2⟩ : S25)) (fun _ => rfl) (Op.opens_struct Try.underlying25 (by kernel_rfl) (Op.opensF_cons rfl (by kernel_rfl) (Op.opens_slice Try.underlying22 (by kernel_rfl) (by kernel_rfl : _ = 8) (Op.opens_int Try.underlying3)) (Op.opensF_one rfl (by kernel_rfl) (Op.opens_slice Try.underlying23 (by kernel_rfl) (by kernel_rfl : _ = 40) (Op.opens_iso (fun x : S40 => (x.f0, x.f1, x.f2)) (fun p => (⟨p.1, p.2.1, p.2.2⟩ : S40)) (fun _ => rfl) (Op.opens_struct Try.underlying40 (by kernel_rfl) (Op.opensF_cons rfl (by kernel_rfl) (Op.opens_int Try.underlying3) (Op.opensF_cons rfl (by kernel_rfl) (Op.opens_int Try.underlying3) (Op.opensF_one rfl (by kernel_rfl) (Op.opens_slice Try.underlying37 (by kernel_rfl) (by kernel_rfl : _ = 32) (Op.opens_iso (fun x : S46 => (x.f0, x.f1, x.f2)) (fun p => (⟨p.1, p.2.1, p.2.2⟩ : S46)) (fun _ => rfl) (Op.opens_struct Try.underlying46 (by kernel_rfl) (Op.opensF_cons rfl (by kernel_rfl) (Op.opens_str Try.underlying9) (Op.opensF_cons rfl (by kernel_rfl) (Op.opens_int Try.underlying3) (Op.opensF_one rfl (by kernel_rfl) (Op.opens_int Try.underlying3))))))))))))))))) _ _ _ hf0 q0
  obtain ⟨A0_0, c0_0, A0_1, c0_1, e0, hc0_0, hr0_0, hc0_1, hr0_1⟩ := k25_open hK0
  obtain rfl : cs0 = #[.slice A0_0 a0.f0.length c0_0, .slice A0_1 a0.f1.length c0_1] := by have h_ : cs0.toList = _ := e0; rw [← Array.toArray_toList (xs := cs0), h_]
  have k1 := h1
  have lt1 : ∀ x ∈ p1, x.block < W.heap.size := by obtain ⟨m, hm⟩ := k1; exact DataW.trod_lt m _ _ _ hm
  obtain ⟨A1, len1, cap1, rfl⟩ := okWide_slice Try.underlying36 (hval 1 36 v1 rfl rfl)
  have q1 := Op.lite_arg hsz (j := 1) (t := 36) rfl rfl
  obtain ⟨l1, rfl, hc1, hk1, hr1, hg1⟩ := Op.open_arg Try.underlying36 (by kernel_rfl) (by kernel_rfl : _ = 48) (Op.opens_iso (fun x : S50 => (x.f0, x.f1)) (fun p => (⟨p.1, p.2⟩ : S50)) (fun _ => rfl) (Op.opens_struct Try.underlying50 (by kernel_rfl) (Op.opensF_cons rfl (by kernel_rfl) (Op.opens_str Try.underlying9) (Op.opensF_one rfl (by kernel_rfl) (Op.opens_iso (fun x : S48 => (x.f0, x.f1, x.f2)) (fun p => (⟨p.1, p.2.1, p.2.2⟩ : S48)) (fun _ => rfl) (Op.opens_struct Try.underlying48 (by kernel_rfl) (Op.opensF_cons rfl (by kernel_rfl) (Op.opens_int Try.underlying3) (Op.opensF_cons rfl (by kernel_rfl) (Op.opens_int Try.underlying3) (Op.opensF_one rfl (by kernel_rfl) (Op.opens_str Try.underlying9)))))))))) q1 h1
  obtain ⟨a2, rfl, rfl, rfl, hg2⟩ := open_int Try.underlying3 (hval 2 3 v2 rfl rfl) h2
  have k3 := h3
  have lt3 : ∀ x ∈ p3, x.block < W.heap.size := by obtain ⟨m, hm⟩ := k3; exact DataW.trod_lt m _ _ _ hm
  obtain ⟨A3, len3, cap3, rfl⟩ := okWide_slice Try.underlying37 (hval 3 37 v3 rfl rfl)
  have q3 := Op.lite_arg hsz (j := 3) (t := 37) rfl rfl
  obtain ⟨l3, rfl, hc3, hk3, hr3, hg3⟩ := Op.open_arg Try.underlying37 (by kernel_rfl) (by kernel_rfl : _ = 32) (Op.opens_iso (fun x : S46 => (x.f0, x.f1, x.f2)) (fun p => (⟨p.1, p.2.1, p.2.2⟩ : S46)) (fun _ => rfl) (Op.opens_struct Try.underlying46 (by kernel_rfl) (Op.opensF_cons rfl (by kernel_rfl) (Op.opens_str Try.underlying9) (Op.opensF_cons rfl (by kernel_rfl) (Op.opens_int Try.underlying3) (Op.opensF_one rfl (by kernel_rfl) (Op.opens_int Try.underlying3)))))) q3 h3
  clear hA0 hval0 hsz0 hsz
  obtain ⟨k, h⟩ := Pure.FirstMeans a0 l1 a2 l3 hg0 hg1 hg2 hg3
  refine (rosettelaw15_FirstMeans.calls k A0_0 c0_0 a0.f0 A0_1 c0_1 a0.f1 A1 cap1 l1 a2 A3 cap3 l3 true W hr0_0 hc0_0 hr0_1 hc0_1 hr1 hc1 hr3 hc3 h).mono fun e W' ⟨he, bel⟩ => ?_
  subst he
  exact ⟨_, rfl, _, _, _, [], _, [], hW', trodAll_mk1 (shut_bool Try.underlying4 _), (trodAll_cons_mk (Below.trod laidOut (by kernel_rfl) (of_decide_eq_true (by kernel_rfl)) k0 bel lt0) (trodAll_cons_mk (Below.trod laidOut (by kernel_rfl) (of_decide_eq_true (by kernel_rfl)) k1 bel lt1) (trodAll_cons_mk (shut_int Try.underlying3 hg2) (trodAll_cons_mk (Below.trod laidOut (by kernel_rfl) (of_decide_eq_true (by kernel_rfl)) k3 bel lt3) trodAll_mk0)))), rfl, bel.frame _, fun h => by cases h⟩
theorem over : Rows.firstMeansRow.holds Try.pinned (OpenSpec.ofChange Rows.firstMeansSpec) :=
  OpenClaim.holds_of_wide 4 Try.f4 rfl rfl rfl rfl rfl rfl rfl ⟨rfl, rfl, rfl, rfl, rfl⟩ rfl rfl rfl rfl rfl (by kernel_rfl) Try.func4 (by kernel_rfl)
    (of_decide_eq_true (by kernel_rfl)) (by unfold Func.isWrapper; first | (rw [if_pos (by decide +kernel)]; kernel_rfl) | (rw [if_neg (by decide +kernel)]; exact ⟨rfl, rfl⟩))
    (fun os started H enc _ => lifted os started H enc)
theorem proved : Rows.FirstMeansSaid := over
#print axioms proved
end Go.Proofs.Ytkdhcmmfklganaa.firstMeans
namespace Go.Proofs.Ytkdhcmmfklganaa
/-- The row, under a short name, for the claim. -/
theorem firstMeans_holds : Rows.FirstMeansSaid := firstMeans.proved
end Go.Proofs.Ytkdhcmmfklganaa
end
