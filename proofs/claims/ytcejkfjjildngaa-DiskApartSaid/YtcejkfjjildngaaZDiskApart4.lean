import Derived.Test.YtcejkfjjildngaaProg
import Derived.Below
import Derived.Deep.Draws
import Derived.Deep.AppendLies
import Derived.Maps.AppendAt
import Derived.OwnWalk
import Derived.Laws.BytesArg
import Derived.Laws.MakeOwn
import Derived.Laws.OwnMore
import Derived.Deep.OwnRows
import Derived.Tactics
import Derived.Lib.ConvBytes
import Derived.Laws.Slices
import Derived.WalkKit
import Derived.KernelRfl
import Derived.RowKit3
import Derived.Deep.LoopGhost
import Derived.Deep.QuietTactic
import Derived.BigQuiet
import Derived.WideLaws
import Derived.Deep.DeepCutAuto
import Derived.Deep.CutBlock
import Derived.Deep.RegionHeld3
import Derived.Laws.Rows
import Derived.Lib.AppendStr
import Derived.ArgAppend
import Derived.Laws.IdiomCopy
import Derived.OrdersHeld
import Derived.Laws.BitsLemmas
import Derived.RowKit
import Derived.Test.YtcejkfjjildngaaZDiskApart0
import Derived.Test.YtcejkfjjildngaaZDiskApart2
import Derived.Test.YtcejkfjjildngaaWWords
import Derived.Test.YtcejkfjjildngaaWLast
import Derived.Test.YtcejkfjjildngaaWTab
import Derived.Test.YtcejkfjjildngaaWFour
import Derived.Test.YtcejkfjjildngaaWQPut
import Derived.Test.YtcejkfjjildngaaWApart
import Derived.Test.YtcejkfjjildngaaWArr
import Derived.Test.YtcejkfjjildngaaWZeros
import Derived.Test.YtcejkfjjildngaaWFoot
import Derived.Test.YtcejkfjjildngaaWKept
import Derived.Test.YtcejkfjjildngaaWShare
import Derived.Test.YtcejkfjjildngaaWN
import Derived.Test.YtcejkfjjildngaaWFootNe
import Derived.Test.YtcejkfjjildngaaWAt
import Derived.Test.YtcejkfjjildngaaWEqStruct
import Derived.Test.YtcejkfjjildngaaWRepsOne
import Derived.Test.YtcejkfjjildngaaWInv
import Derived.Test.YtcejkfjjildngaaWInvWords
import Derived.Test.YtcejkfjjildngaaWGuard
import Derived.Test.YtcejkfjjildngaaWNEv
import Derived.Test.YtcejkfjjildngaaWMore
import Derived.Test.YtcejkfjjildngaaZDiskApart3
section
-- Written by a program of this session (wip/tools/myprint.py), over the kit's print.
namespace Go.Proofs.Ytcejkfjjildngaa.G
open Go.RowKit Go.Proofs.YtcejkfjjildngaaW.PrintWords Go.Proofs.YtcejkfjjildngaaW.PrintLast Go.Proofs.YtcejkfjjildngaaW.PrintMore
attribute [local go_sem] max2_int min2_int max_two min_two max_three min_three max_four min_four   -- for this text's walks alone
set_option linter.unusedVariables false
set_option linter.unusedSimpArgs false



def errW : Option Int → Value
  | none => .nilIface
  | some c => .iface 0 (.int .i64 c)
theorem errW_none : errW none = .nilIface := rfl
theorem errW_some (c : Int) : errW (some c) = .iface 0 (.int .i64 c) := rfl

-- the values' own types
def rd_L1 (xs : List (List Int)) (i : Int) : (List Int) := xs.getD i.toNat ([] : List Int)
theorem at_L1 {w : World} {A : Option Addr} {n : Nat} {xs : List (List Int)} (h : Kd.C (Kd.slice 5 (Kd.int .u8)) w A n xs) (i : Int) (h0 : 0 ≤ i) (h1 : i < n) : ∃ ad A0 c0, A = some ad ∧ w.cell? (ad.add i.toNat) = some (.slice A0 (rd_L1 xs i).length c0) ∧ (rd_L1 xs i).length ≤ c0 ∧ (Kd.int .u8).C w A0 (rd_L1 xs i).length (rd_L1 xs i) := by
  obtain ⟨ad, c, e, _, hK, hc0⟩ := Kd.C_get h ([] : List Int) i h0 h1
  have hc : ∀ j u, c[j]? = some u → w.cell? (ad.add (i.toNat * 1 + j)) = some u := hc0
  obtain ⟨A0, c0, rfl, l0, g0⟩ := hK
  exact ⟨ad, A0, c0, e, by have hq := hc 0 _ rfl; rwa [Nat.mul_one, Nat.add_zero] at hq, l0, g0⟩

/-! #### struct type 43 -/
structure S43 where
  f0 : ByteArray
  f1 : (List Int)
  f2 : Int
def z43 : S43 := ⟨(⟨#[]⟩ : ByteArray), ([] : List Int), (0 : Int)⟩
def k43 : Kd S43 := Kd.iso (Kd.pair Kd.string (Kd.pair (Kd.slice 5 (Kd.int .u8)) (Kd.int .i64))) (fun x : S43 => (x.f0, x.f1, x.f2))
theorem k43_open {w : World} {x : S43} {cs : List Value} (h : k43.K w x cs) : ∃ A1 c1, cs = [.string x.f0, .slice A1 x.f1.length c1, .int .i64 x.f2] ∧ x.f1.length ≤ c1 ∧ (Kd.int .u8).C w A1 x.f1.length x.f1 := by
  obtain ⟨_, _, rfl, rfl, ⟨_, _, rfl, ⟨A1, c1, rfl, l1, g1⟩, rfl⟩⟩ := h
  exact ⟨A1, c1, rfl, l1, g1⟩
theorem k43_openM {w : World} {base : Nat} {ok : Nat → Prop} {x : S43} {cs : List Value} (h : k43.M w base ok x cs) : ∃ v1, cs = [.string x.f0, v1, .int .i64 x.f2] ∧ (Kd.int .u8).R 5 w base ok v1 x.f1 := by
  obtain ⟨_, _, rfl, rfl, ⟨_, _, rfl, ⟨v1, rfl, g1⟩, rfl⟩⟩ := h
  exact ⟨v1, rfl, g1⟩
theorem k43_mk (w : World) (x : S43) {A1 : Option Addr} {c1 : Nat} (l1 : x.f1.length ≤ c1) (g1 : (Kd.int .u8).C w A1 x.f1.length x.f1) : k43.K w x [.string x.f0, .slice A1 x.f1.length c1, .int .i64 x.f2] := ⟨[.string x.f0], [.slice A1 x.f1.length c1, .int .i64 x.f2], rfl, rfl, ⟨[.slice A1 x.f1.length c1], [.int .i64 x.f2], rfl, ⟨A1, c1, rfl, l1, g1⟩, rfl⟩⟩
theorem k43_mkM (w : World) (base : Nat) (ok : Nat → Prop) (x : S43) {v1 : Value} (g1 : (Kd.int .u8).R 5 w base ok v1 x.f1) : k43.M w base ok x [.string x.f0, v1, .int .i64 x.f2] := ⟨[.string x.f0], [v1, .int .i64 x.f2], rfl, rfl, ⟨[v1], [.int .i64 x.f2], rfl, ⟨v1, rfl, g1⟩, rfl⟩⟩
theorem k43_openF {W : World} {ok : Nat → Prop} {x : S43} {cs : List Value} (h : Kd.FK k43 W ok x cs) : ∃ A1 c1, cs = [.string x.f0, .slice A1 x.f1.length c1, .int .i64 x.f2] ∧ x.f1.length ≤ c1 ∧ Kd.F (Kd.int .u8) W ok A1 x.f1.length x.f1 := by
  obtain ⟨A1, c1, rfl, l1, _⟩ := k43_open (Kd.FK_now h)
  exact ⟨A1, c1, rfl, l1, (fun W' hW => by obtain ⟨A1_, c1_, he, l1_, g1_⟩ := k43_open (h W' hW); injection (Option.some.inj (show some (Value.slice A1 x.f1.length c1) = some (Value.slice A1_ x.f1.length c1_) from congrArg (fun l => l[1]?) he)) with ha_ _ _; rw [ha_]; exact g1_)⟩
theorem k43_mkF (W : World) (ok : Nat → Prop) (x : S43) {A1 : Option Addr} {c1 : Nat} (l1 : x.f1.length ≤ c1) (g1 : Kd.F (Kd.int .u8) W ok A1 x.f1.length x.f1) : Kd.FK k43 W ok x [.string x.f0, .slice A1 x.f1.length c1, .int .i64 x.f2] := fun W2 hW => k43_mk W2 x l1 (g1 W2 hW)
def rd_T43 (xs : List S43) (i : Int) : S43 := xs.getD i.toNat z43
theorem at_T43 {w : World} {A : Option Addr} {n : Nat} {xs : List S43} (h : Kd.C k43 w A n xs) (i : Int) (h0 : 0 ≤ i) (h1 : i < n) : ∃ ad A1 c1, A = some ad ∧ w.cell? (ad.add (i.toNat * 3)) = some (.string (rd_T43 xs i).f0) ∧ w.cell? ⟨(ad.add (i.toNat * 3)).block, (ad.add (i.toNat * 3)).off + 1, none⟩ = some (.slice A1 (rd_T43 xs i).f1.length c1) ∧ w.cell? ⟨(ad.add (i.toNat * 3)).block, (ad.add (i.toNat * 3)).off + 2, none⟩ = some (.int .i64 (rd_T43 xs i).f2) ∧ (rd_T43 xs i).f1.length ≤ c1 ∧ (Kd.int .u8).C w A1 (rd_T43 xs i).f1.length (rd_T43 xs i).f1 := by
  obtain ⟨ad, c, e, _, hK, hc0⟩ := Kd.C_get h z43 i h0 h1
  have hc : ∀ j u, c[j]? = some u → w.cell? (ad.add (i.toNat * 3 + j)) = some u := hc0
  obtain ⟨A1, c1, rfl, l1, g1⟩ := k43_open hK
  exact ⟨ad, A1, c1, e, hc 0 _ rfl, by rw [← add_field _ _ 1 (by omega)]; exact hc 1 _ rfl, by rw [← add_field _ _ 2 (by omega)]; exact hc 2 _ rfl, l1, g1⟩

/-! #### struct type 34 -/
structure S34 where
  f0 : Int
  f1 : ByteArray
  f2 : ByteArray
  f3 : (List Int)
  f4 : Int
def z34 : S34 := ⟨(0 : Int), (⟨#[]⟩ : ByteArray), (⟨#[]⟩ : ByteArray), ([] : List Int), (0 : Int)⟩
def k34 : Kd S34 := Kd.iso (Kd.pair (Kd.int .i64) (Kd.pair Kd.string (Kd.pair Kd.string (Kd.pair (Kd.slice 5 (Kd.int .u8)) (Kd.int .i64))))) (fun x : S34 => (x.f0, x.f1, x.f2, x.f3, x.f4))
theorem k34_open {w : World} {x : S34} {cs : List Value} (h : k34.K w x cs) : ∃ A3 c3, cs = [.int .i64 x.f0, .string x.f1, .string x.f2, .slice A3 x.f3.length c3, .int .i64 x.f4] ∧ x.f3.length ≤ c3 ∧ (Kd.int .u8).C w A3 x.f3.length x.f3 := by
  obtain ⟨_, _, rfl, rfl, ⟨_, _, rfl, rfl, ⟨_, _, rfl, rfl, ⟨_, _, rfl, ⟨A3, c3, rfl, l3, g3⟩, rfl⟩⟩⟩⟩ := h
  exact ⟨A3, c3, rfl, l3, g3⟩
theorem k34_openM {w : World} {base : Nat} {ok : Nat → Prop} {x : S34} {cs : List Value} (h : k34.M w base ok x cs) : ∃ v3, cs = [.int .i64 x.f0, .string x.f1, .string x.f2, v3, .int .i64 x.f4] ∧ (Kd.int .u8).R 5 w base ok v3 x.f3 := by
  obtain ⟨_, _, rfl, rfl, ⟨_, _, rfl, rfl, ⟨_, _, rfl, rfl, ⟨_, _, rfl, ⟨v3, rfl, g3⟩, rfl⟩⟩⟩⟩ := h
  exact ⟨v3, rfl, g3⟩
theorem k34_mk (w : World) (x : S34) {A3 : Option Addr} {c3 : Nat} (l3 : x.f3.length ≤ c3) (g3 : (Kd.int .u8).C w A3 x.f3.length x.f3) : k34.K w x [.int .i64 x.f0, .string x.f1, .string x.f2, .slice A3 x.f3.length c3, .int .i64 x.f4] := ⟨[.int .i64 x.f0], [.string x.f1, .string x.f2, .slice A3 x.f3.length c3, .int .i64 x.f4], rfl, rfl, ⟨[.string x.f1], [.string x.f2, .slice A3 x.f3.length c3, .int .i64 x.f4], rfl, rfl, ⟨[.string x.f2], [.slice A3 x.f3.length c3, .int .i64 x.f4], rfl, rfl, ⟨[.slice A3 x.f3.length c3], [.int .i64 x.f4], rfl, ⟨A3, c3, rfl, l3, g3⟩, rfl⟩⟩⟩⟩
theorem k34_mkM (w : World) (base : Nat) (ok : Nat → Prop) (x : S34) {v3 : Value} (g3 : (Kd.int .u8).R 5 w base ok v3 x.f3) : k34.M w base ok x [.int .i64 x.f0, .string x.f1, .string x.f2, v3, .int .i64 x.f4] := ⟨[.int .i64 x.f0], [.string x.f1, .string x.f2, v3, .int .i64 x.f4], rfl, rfl, ⟨[.string x.f1], [.string x.f2, v3, .int .i64 x.f4], rfl, rfl, ⟨[.string x.f2], [v3, .int .i64 x.f4], rfl, rfl, ⟨[v3], [.int .i64 x.f4], rfl, ⟨v3, rfl, g3⟩, rfl⟩⟩⟩⟩
theorem k34_openF {W : World} {ok : Nat → Prop} {x : S34} {cs : List Value} (h : Kd.FK k34 W ok x cs) : ∃ A3 c3, cs = [.int .i64 x.f0, .string x.f1, .string x.f2, .slice A3 x.f3.length c3, .int .i64 x.f4] ∧ x.f3.length ≤ c3 ∧ Kd.F (Kd.int .u8) W ok A3 x.f3.length x.f3 := by
  obtain ⟨A3, c3, rfl, l3, _⟩ := k34_open (Kd.FK_now h)
  exact ⟨A3, c3, rfl, l3, (fun W' hW => by obtain ⟨A3_, c3_, he, l3_, g3_⟩ := k34_open (h W' hW); injection (Option.some.inj (show some (Value.slice A3 x.f3.length c3) = some (Value.slice A3_ x.f3.length c3_) from congrArg (fun l => l[3]?) he)) with ha_ _ _; rw [ha_]; exact g3_)⟩
theorem k34_mkF (W : World) (ok : Nat → Prop) (x : S34) {A3 : Option Addr} {c3 : Nat} (l3 : x.f3.length ≤ c3) (g3 : Kd.F (Kd.int .u8) W ok A3 x.f3.length x.f3) : Kd.FK k34 W ok x [.int .i64 x.f0, .string x.f1, .string x.f2, .slice A3 x.f3.length c3, .int .i64 x.f4] := fun W2 hW => k34_mk W2 x l3 (g3 W2 hW)
def rd_T34 (xs : List S34) (i : Int) : S34 := xs.getD i.toNat z34
theorem at_T34 {w : World} {A : Option Addr} {n : Nat} {xs : List S34} (h : Kd.C k34 w A n xs) (i : Int) (h0 : 0 ≤ i) (h1 : i < n) : ∃ ad A3 c3, A = some ad ∧ w.cell? (ad.add (i.toNat * 5)) = some (.int .i64 (rd_T34 xs i).f0) ∧ w.cell? ⟨(ad.add (i.toNat * 5)).block, (ad.add (i.toNat * 5)).off + 1, none⟩ = some (.string (rd_T34 xs i).f1) ∧ w.cell? ⟨(ad.add (i.toNat * 5)).block, (ad.add (i.toNat * 5)).off + 2, none⟩ = some (.string (rd_T34 xs i).f2) ∧ w.cell? ⟨(ad.add (i.toNat * 5)).block, (ad.add (i.toNat * 5)).off + 3, none⟩ = some (.slice A3 (rd_T34 xs i).f3.length c3) ∧ w.cell? ⟨(ad.add (i.toNat * 5)).block, (ad.add (i.toNat * 5)).off + 4, none⟩ = some (.int .i64 (rd_T34 xs i).f4) ∧ (rd_T34 xs i).f3.length ≤ c3 ∧ (Kd.int .u8).C w A3 (rd_T34 xs i).f3.length (rd_T34 xs i).f3 := by
  obtain ⟨ad, c, e, _, hK, hc0⟩ := Kd.C_get h z34 i h0 h1
  have hc : ∀ j u, c[j]? = some u → w.cell? (ad.add (i.toNat * 5 + j)) = some u := hc0
  obtain ⟨A3, c3, rfl, l3, g3⟩ := k34_open hK
  exact ⟨ad, A3, c3, e, hc 0 _ rfl, by rw [← add_field _ _ 1 (by omega)]; exact hc 1 _ rfl, by rw [← add_field _ _ 2 (by omega)]; exact hc 2 _ rfl, by rw [← add_field _ _ 3 (by omega)]; exact hc 3 _ rfl, by rw [← add_field _ _ 4 (by omega)]; exact hc 4 _ rfl, l3, g3⟩

end Go.Proofs.Ytcejkfjjildngaa.G
end

section
-- Written by a program of this session (wip/tools/myprint.py), over the kit's print.
namespace Go.Proofs.Ytcejkfjjildngaa.G
open Go.RowKit Go.Proofs.YtcejkfjjildngaaW.PrintWords Go.Proofs.YtcejkfjjildngaaW.PrintLast Go.Proofs.YtcejkfjjildngaaW.PrintMore
attribute [local go_sem] max2_int min2_int max_two min_two max_three min_three max_four min_four   -- for this text's walks alone
set_option linter.unusedVariables false
set_option linter.unusedSimpArgs false

/-! ### disk_named: function 42 -/
def disk_named.f (a0 : ByteArray) : Option (Bool) := if a0.toList = ([] : List UInt8) then (some false) else (some (decide ((a0.size : Int) ≤ 24)))
set_option maxHeartbeats 8000000 in
set_option maxRecDepth 100000 in
theorem disk_named.calls (a0 : ByteArray) (r : Bool) (w : World) (h : disk_named.f a0 = some r) :
    Calls Try.prog 42 #[.string a0] w fun e w' => e = .returned (.bool r) ∧ Drawn0 w w' := by
  have H : (if a0.toList = ([] : List UInt8) then (some false) else (some (decide ((a0.size : Int) ≤ 24)))) = some r := h
  clear h
  by_cases c2 : a0.toList = ([] : List UInt8)
  · rw [if_pos c2] at H
    have c2b0 : (a0.toList == ([] : List UInt8)) = true := beq_iff_eq.mpr c2
    have c2b1 : (a0.toList != ([] : List UInt8)) = false := bne_eq_false_iff_eq.mpr c2
    clear c2
    obtain rfl := Option.some.inj H
    go_enter Try.func42, Try.ntmps42
    go_wp2
    go_ret
    exact ⟨by first | rfl | (simp; done) | (simp [*]; done), by repeat (first | exact Drawn0.refl _ | apply Drawn0.step)⟩
  · rw [if_neg c2] at H
    have c2b0 : (a0.toList == ([] : List UInt8)) = false := beq_eq_false_iff_ne.mpr c2
    have c2b1 : (a0.toList != ([] : List UInt8)) = true := bne_iff_ne.mpr c2
    obtain rfl := Option.some.inj H
    go_enter Try.func42, Try.ntmps42
    go_wp2
    go_ret
    exact ⟨by first | rfl | (simp; done) | (simp [*]; done), by repeat (first | exact Drawn0.refl _ | apply Drawn0.step)⟩

end Go.Proofs.Ytcejkfjjildngaa.G
end

section
/- the disk: lay, Write, Append, walked -/
set_option linter.unusedVariables false
set_option linter.unusedSimpArgs false
set_option autoImplicit false
namespace Go.Proofs.Ytcejkfjjildngaa
open Go Go.RowKit Go.Proofs.YtcejkfjjildngaaW.PrintWords Go.Proofs.YtcejkfjjildngaaW.PrintLast Go.Proofs.YtcejkfjjildngaaW.PrintMore Go.Proofs.Ytcejkfjjildngaa.G

/-! ### what a file has, and what is laid -/
def wasLen (l : List FileV) (n : ByteArray) : Nat := match l.find? (fun f => decide (f.n = n)) with
  | some f => f.d.length
  | none => 0
theorem sumL_put (f : FileV) : ∀ l : List FileV, sumL (putF l f) + wasLen l f.n = sumL l + f.d.length := by
  intro l
  induction l with
  | nil => simp [putF, sumL, wasLen]
  | cons x l ih =>
    unfold sumL wasLen at *
    rw [putF, List.find?_cons]
    by_cases h : x.n = f.n
    · rw [if_pos h, decide_eq_true h]
      simp only [List.map_cons, List.sum_cons]
      omega
    · rw [if_neg h, decide_eq_false h]
      simp only [List.map_cons, List.sum_cons]
      omega
theorem mem_put {f y : FileV} : ∀ {l : List FileV}, y ∈ putF l f → y = f ∨ (y ∈ l ∧ (y.n = f.n → y = f ∨ True)) := by
  intro l
  induction l with
  | nil => intro h; rw [putF, List.mem_singleton] at h; exact .inl h
  | cons x l ih =>
    intro h
    rw [putF] at h
    split at h
    · rcases List.mem_cons.1 h with h | h
      · exact .inl h
      · exact .inr ⟨List.mem_cons_of_mem _ h, fun _ => .inr trivial⟩
    · rcases List.mem_cons.1 h with h | h
      · exact .inr ⟨by rw [h]; exact List.mem_cons_self .., fun _ => .inr trivial⟩
      · rcases ih h with h | h
        · exact .inl h
        · exact .inr ⟨List.mem_cons_of_mem _ h.1, fun _ => .inr trivial⟩
theorem names_put {f : FileV} : ∀ {l : List FileV}, (l.map FileV.n).Nodup → ((putF l f).map FileV.n).Nodup ∧ ∀ y, y ∈ (putF l f).map FileV.n ↔ y ∈ l.map FileV.n ∨ y = f.n := by
  intro l
  induction l with
  | nil => intro _; exact ⟨by simp [putF], fun y => by simp [putF]⟩
  | cons x l ih =>
    intro h
    rw [List.map_cons, List.nodup_cons] at h
    rw [putF]
    split
    · rename_i hx
      refine ⟨by rw [List.map_cons, List.nodup_cons]; exact ⟨by rw [← hx]; exact h.1, h.2⟩, fun y => ?_⟩
      rw [List.map_cons, List.map_cons, List.mem_cons, List.mem_cons, hx]
      constructor
      · rintro (h1 | h1)
        · exact .inr h1
        · exact .inl (.inr h1)
      · rintro ((h1 | h1) | h1)
        · exact .inl h1
        · exact .inr h1
        · exact .inl h1
    · rename_i hx
      obtain ⟨h1, h2⟩ := ih h.2
      refine ⟨?_, fun y => ?_⟩
      · rw [List.map_cons, List.nodup_cons]
        refine ⟨fun hm => ?_, h1⟩
        rcases (h2 x.n).1 hm with hm | hm
        · exact h.1 hm
        · exact hx hm
      · rw [List.map_cons, List.map_cons, List.mem_cons, List.mem_cons, h2 y]
        constructor
        · rintro (h1 | h1 | h1)
          · exact .inl (.inl h1)
          · exact .inl (.inr h1)
          · exact .inr h1
        · rintro ((h1 | h1) | h1)
          · exact .inl h1
          · exact .inr (.inl h1)
          · exact .inr (.inr h1)
theorem put_ok {D : DD} (h : DDOk D) {f : FileV} (hf : FileOk f) (ht : (sumL D.fs : Int) - wasLen D.fs f.n + f.d.length ≤ D.room) : DDOk { D with fs := putF D.fs f } := by
  refine ⟨fun y hy => ?_, (names_put h.names).1, ?_, h.room, h.left0, h.left1⟩
  · rcases mem_put hy with rfl | hy
    · exact hf
    · exact h.files y hy.1
  · have := sumL_put f D.fs
    show ((sumL (putF D.fs f) : Nat) : Int) ≤ D.room
    omega
def DD.was (D : DD) (n : ByteArray) : List Int × Int := match D.find n with
  | some f => (f.d, f.s)
  | none => ([], 0)
theorem was_len (D : DD) (n : ByteArray) : wasLen D.fs n = (D.was n).1.length := by
  unfold wasLen DD.was DD.find
  cases D.fs.find? (fun f => decide (f.n = n)) <;> rfl
def namedB (n : ByteArray) : Bool := if n.toList = [] then false else decide ((n.size : Int) ≤ 24)
theorem named_f (n : ByteArray) : disk_named.f n = some (namedB n) := by
  unfold disk_named.f namedB
  split <;> rfl
theorem named_size {n : ByteArray} (h : namedB n = true) : n.size ≤ 24 := by
  unfold namedB at h
  split at h
  · cases h
  · have := of_decide_eq_true h; omega
def DD.lay (D : DD) (n : ByteArray) (anew : Bool) (b : List Int) : Int × DD :=
  if D.dead = true then (13, D) else if namedB n = false then (1, D) else
  if (sumL D.fs : Int) - (D.was n).1.length + (if anew = true then 0 else (D.was n).1.length : Nat) + b.length > D.room then (12, D) else
  D.write n (if anew = true then [] else (D.was n).1) (if anew = true then 0 else (D.was n).2) b
theorem was_mem {D : DD} (h : DDOk D) (n : ByteArray) : 0 ≤ (D.was n).2 ∧ (D.was n).2 ≤ (D.was n).1.length ∧ u8s (D.was n).1 ∧ (D.was n).1.length ≤ sumL D.fs := by
  unfold DD.was DD.find
  cases hf : D.fs.find? (fun f => decide (f.n = n)) with
  | none => exact ⟨by simp, by simp, fun x hx => (by cases hx), Nat.zero_le _⟩
  | some f =>
    have hm := List.mem_of_find?_eq_some hf
    have := h.files f hm
    refine ⟨this.s0, this.s1, this.u8, ?_⟩
    clear hf this
    show f.d.length ≤ sumL D.fs
    unfold sumL
    generalize D.fs = l at hm
    induction l with
    | nil => cases hm
    | cons x l ih =>
      rw [List.map_cons, List.sum_cons]
      rcases List.mem_cons.1 hm with rfl | hm
      · omega
      · have := ih hm; omega
theorem lay_put {D : DD} (h : DDOk D) {n : ByteArray} (hn : namedB n = true) {anew : Bool} {b : List Int} (hb : u8s b) (ht : ¬ (sumL D.fs : Int) - (D.was n).1.length + (if anew = true then 0 else (D.was n).1.length : Nat) + b.length > D.room) (i : Nat) :
    DDOk { D with fs := putF D.fs ⟨n, (if anew = true then [] else (D.was n).1) ++ b.take i, if anew = true then 0 else (D.was n).2⟩ } := by
  have hw := was_mem h n
  have htk : (b.take i).length ≤ b.length := by rw [List.length_take]; omega
  refine put_ok h ⟨?_, ?_, ?_, named_size hn⟩ ?_
  · cases anew
    · exact hw.1
    · simp
  · cases anew
    · show (D.was n).2 ≤ ((D.was n).1 ++ b.take i).length
      rw [List.length_append]; omega
    · show (0 : Int) ≤ _
      omega
  · cases anew
    · exact u8s_app hw.2.2.1 (u8s_take hb i)
    · exact u8s_app (fun x hx => by cases hx) (u8s_take hb i)
  · show (sumL D.fs : Int) - wasLen D.fs n + ((if anew = true then [] else (D.was n).1) ++ b.take i).length ≤ D.room
    rw [was_len, List.length_append]
    cases anew
    · simp only [Bool.false_eq_true, if_false] at ht ⊢
      omega
    · simp only [if_true, List.length_nil] at ht ⊢
      omega
theorem file_held {S : Nat → Prop} {w : World} {f : FileV} {p : Nat} (h : FileR S w f p) {g : Nat} {cells : Array Value} (hg : w.heap[g]? = some (.cells cells 51 (0, 0))) :
    ∃ A c, w.heap[p]? = some (.cells #[.slice A f.d.length c, .int .i64 f.s] 56 (0, 0)) ∧ f.d.length ≤ c ∧ HeldB w (fun k => k ≠ g ∧ k < w.heap.size) A f.d ∧ (Kd.int .u8).C w A f.d.length f.d := by
  obtain ⟨_, v, h2, h3⟩ := h
  obtain ⟨A, c, rfl, h4, h5, h6, h7⟩ := held_own h3
  refine ⟨A, c, h2, h4, ?_, h7⟩
  intro h0
  obtain ⟨ad, e1, e2, e3⟩ := h6 h0
  subst e1
  refine ⟨ad, rfl, ⟨fun e => ?_, e2.2⟩, e3⟩
  have h8 := Kd.R_types h3 hg (by decide)
  obtain ⟨g', cap, hv, _, hlt, cells', hc⟩ := Kd.R_form h3 h0
  injection hv with hv _ _
  injection hv with hv
  subst hv
  rw [show (⟨g', 0, none⟩ : Addr).block = g' from rfl] at e
  subst e
  rw [hg] at hc
  injection hc with hc
  injection hc with _ hc
  cases hc
/-! ### the closures -/
theorem wclo27 (x y : Value) (w : World) : Calls Try.prog 27 #[.agg #[x, y]] w fun e w' => e = .returned (.agg #[.slice none 0 0, .int .i64 0]) ∧ Below w.heap.size w w' := by
  go_enter Try.func27, Try.ntmps27
  go_wp2_with fail
  refine bodyPost_ret (by simp [results, Try.results27, go_sem]; try rfl) rfl ?_
  exact ⟨rfl, ((Below.refl _ _).alloc (Nat.le_refl _) _).alloc (by simp) _⟩
theorem wclo41 (A : Option Addr) (n c : Nat) (s : Int) (w : World) : Calls Try.prog 41 #[.agg #[.slice A n c, .int .i64 s]] w fun e w' => e = .returned (.agg #[.slice A n c, .int .i64 s]) ∧ Below w.heap.size w w' := by
  go_enter Try.func41, Try.ntmps41
  go_wp2_with fail
  refine bodyPost_ret (by simp [results, Try.results41, go_sem]; try rfl) rfl ?_
  exact ⟨rfl, ((Below.refl _ _).alloc (Nat.le_refl _) _).alloc (by simp) _⟩
theorem drawn_below19 {w W : World} (h : Drawn0 w W) : Below w.heap.size w W := by
  obtain ⟨n, rfl⟩ := h
  exact pw_below_drewN (Below.refl _ _) n
theorem wsmall (n : Int) (h0 : -1000000 ≤ n) (h1 : n ≤ 1000000) : wrap64 n = n := by unfold wrap64; omega
theorem wsmallk (n : Int) (h0 : -1000000 ≤ n) (h1 : n ≤ 1000000) : IntKind.i64.wrap n = n := by rw [IntKind.wrap_i64]; omega
theorem held_nil (w : World) (g : Nat) : HeldB w (fun k => k ≠ g ∧ k < w.heap.size) none [] := fun h0 => absurd h0 (by simp)
theorem HeldB.below' {w w' : World} {g : Nat} {A : Option Addr} {l : List Int} (h : HeldB w (fun k => k ≠ g ∧ k < w.heap.size) A l) (hb : Below w.heap.size w w') : HeldB w' (fun k => k ≠ g ∧ k < w'.heap.size) A l :=
  (h.below hb).mono (fun k hk => ⟨hk.1, Nat.lt_of_lt_of_le hk.2 hb.size⟩)
set_option maxRecDepth 100000 in
set_option maxHeartbeats 4000000 in
theorem wlayWrite {S : Nat → Prop} {g : Nat} {D : DD} {w : World} (h : DiskR S w g D) (n : ByteArray) (hn : n.size ≤ 1000) (Ab : Option Addr) (cb : Nat) (b : List Int) (hb : HeldB w (fun k => k ≠ g ∧ k < w.heap.size) Ab b) (hcb : b.length ≤ cb) (hu : u8s b) (hlim : sumL D.fs + b.length ≤ 30000) :
    Calls Try.prog 26 #[.pointer (some ⟨g, 0, none⟩), .string n, .slice Ab b.length cb, .func (.func 27) #[] #[]] w fun e w' => e = .returned (.int .i64 (D.lay n true b).1) ∧ After S w w' g (D.lay n true b).2 := by
  obtain ⟨m, ps, hP⟩ := h.parts
  obtain ⟨res, hres⟩ : ∃ r, D.lay n true b = r := ⟨_, rfl⟩
  rw [hres]
  have hput := fun hn2 ht i => lay_put h.ok (n := n) (anew := true) hn2 hu ht i
  have hwm := was_mem h.ok n
  unfold DD.lay at hres
  simp only [if_true, Bool.false_eq_true, if_false] at hres hput
  obtain ⟨re, rD⟩ := res
  have HRES := Aside0.mk hres
  have HPUT := Aside0.mk hput
  have HP := Aside0.mk hP
  have HB := Aside0.mk hb
  have HU := Aside0.mk (And.intro hu (And.intro hcb (And.intro hlim h)))
  have hwasD : D.was n = D.was n := rfl
  clear hres hput hb hu h hcb hlim
  simp only
  have hP1 := hP.below ((Below.refl w.heap.size w).alloc (Nat.le_refl _) (.cells #[.slice none 0 0, .int .i64 0] 56 (0, 0)))
  have hg0 := hP1.at.1.1
  have hlk := look (S := S) hP1.map hP.names n (by simp only [maxLen]; omega) true
  rw [← hP.fs] at hlk
  have hcase : ∃ (A : Option Addr) (c : Nat) (kl : List Int) (ks : Int), D.was n = (kl, ks) ∧ kl.length ≤ c ∧ HeldB w (fun k => k ≠ g ∧ k < w.heap.size) A kl ∧
      (((Instr.lookup 49 (.map (some m)) (.string n) true).run Try.prog (w.alloc (.cells #[.slice none 0 0, .int .i64 0] 56 (0, 0))) = .ok (.tuple #[.pointer none, .bool false]) (w.alloc (.cells #[.slice none 0 0, .int .i64 0] 56 (0, 0))) ∧ A = none ∧ c = 0 ∧ kl = [] ∧ ks = 0) ∨
        ∃ p, (Instr.lookup 49 (.map (some m)) (.string n) true).run Try.prog (w.alloc (.cells #[.slice none 0 0, .int .i64 0] 56 (0, 0))) = .ok (.tuple #[.pointer (some ⟨p, 0, none⟩), .bool true]) (w.alloc (.cells #[.slice none 0 0, .int .i64 0] 56 (0, 0))) ∧
          (w.alloc (.cells #[.slice none 0 0, .int .i64 0] 56 (0, 0))).cell? ⟨p, 0, none⟩ = some (.slice A kl.length c) ∧ (w.alloc (.cells #[.slice none 0 0, .int .i64 0] 56 (0, 0))).cell? ⟨p, 1, none⟩ = some (.int .i64 ks)) := by
    rcases hlk with ⟨h1, h2⟩ | ⟨j, q, h1, h2, h3, h4⟩
    · exact ⟨none, 0, [], 0, by unfold DD.was DD.find; rw [h2], Nat.le_refl _, fun h0 => absurd h0 (by simp), .inl ⟨h1, rfl, rfl, rfl, rfl⟩⟩
    · obtain ⟨A, c, e1, e2, e3, _⟩ := file_held (hP.files q (List.mem_of_getElem? h1)) hP.cells
      have e4 : (w.alloc (.cells #[.slice none 0 0, .int .i64 0] 56 (0, 0))).heap[q.2]? = some (.cells #[.slice A q.1.d.length c, .int .i64 q.1.s] 56 (0, 0)) := (Below.heap_alloc _ _ _ (lt_of_heap e1)).trans e1
      exact ⟨A, c, q.1.d, q.1.s, by unfold DD.was DD.find; rw [h3], e2, e3, .inr ⟨q.2, h4, (two_cells e4).1, (two_cells e4).2⟩⟩
  obtain ⟨A, c, kl, ks, hwas, hkc, hkh, hcase⟩ := hcase
  have HKH := Aside0.mk hkh
  have hres := HRES.out
  have hput := HPUT.out
  rw [hwas] at hres hput hwm
  clear HRES HPUT
  have HRES := Aside0.mk hres
  have HPUT := Aside0.mk hput
  have HWM := Aside0.mk hwm
  have HCELL := Aside0.mk hP.cells
  have HGB := Aside0.mk (hP.bound g hP.own)
  clear hres hput hwm hP hP1 hlk hwas hkh hwasD
  go_enter Try.func26, Try.ntmps26
  rcases hcase with ⟨hlk, rfl, rfl, rfl, rfl⟩ | ⟨p, hlk, hp0, hp1⟩
  · skip
    go_upto_region 5 with fail
    clear hlk hg0 
    have HB9 := Aside0.mk ((Below.refl w.heap.size w).alloc (Nat.le_refl _) (.cells #[.slice none 0 0, .int .i64 0] 56 (0, 0)))
    have HN9 := Aside0.mk (heap_alloc_new w (.cells #[.slice none 0 0, .int .i64 0] 56 (0, 0)))
    generalize w.alloc (.cells #[.slice none 0 0, .int .i64 0] 56 (0, 0)) = wA at HB9 HN9 ⊢
    obtain ⟨x0, x1⟩ := two_cells HN9.out
    go_wp2_with fail
    refine (wclo27 _ _ _).mono ?_
    rintro e wB ⟨rfl, hX⟩
    have HXB := Aside0.mk hX
    clear hX x0 x1
    go_upto_region 6 with fail
    have HBC := Aside0.mk ((HB9.out.trans (HXB.out.mono HB9.out.size)).alloc (Nat.le_trans HB9.out.size HXB.out.size) (.cells #[.slice none 0 0, .int .i64 0] 56 (0, 0)))
    have HN12 := Aside0.mk (heap_alloc_new wB (.cells #[.slice none 0 0, .int .i64 0] 56 (0, 0)))
    have HN9c := Aside0.mk (show (wB.alloc (.cells #[.slice none 0 0, .int .i64 0] 56 (0, 0))).heap[w.heap.size]? = some (.cells #[.slice none 0 0, .int .i64 0] 56 (0, 0)) from (Below.heap_alloc _ _ _ (Nat.lt_of_lt_of_le (lt_of_heap HN9.out) HXB.out.size)).trans ((HXB.out.block _ (lt_of_heap HN9.out)).trans HN9.out))
    obtain ⟨b2, hb2⟩ : ∃ x, wB.heap.size = x := ⟨_, rfl⟩
    rw [hb2] at HN12 ⊢
    generalize wB.alloc (.cells #[.slice none 0 0, .int .i64 0] 56 (0, 0)) = wC at HBC HN12 HN9c ⊢
    clear hb2 HXB HN9 HB9
    have HPC := Aside0.mk (HP.out.below HBC.out)
    obtain ⟨⟨c0, c1, c2, c3, c4⟩, -⟩ := HPC.out.at
    by_cases hd : D.dead = true
    · rw [hd] at c4
      have hres := HRES.out
      rw [if_pos hd] at hres
      obtain ⟨rfl, rfl⟩ := Prod.mk.inj hres
      clear hres HRES
      go_wp2_with fail
      go_ret
      exact ⟨rfl, After.of_below HU.out.2.2.2 HBC.out⟩
    have hres := HRES.out
    rw [if_neg hd] at hres
    have hd' : D.dead = false := by simpa using hd
    rw [hd'] at c4
    clear HRES hd hd'
    have HRES := Aside0.mk hres
    clear hres
    go_wp2_with fail
    refine (disk_named.calls n (namedB n) wC (named_f n)).mono ?_
    rintro e wD ⟨rfl, hX⟩
    have hX := drawn_below19 hX
    have HBD := Aside0.mk (HBC.out.trans (hX.mono HBC.out.size))
    have HN9d := Aside0.mk ((hX.block _ (lt_of_heap HN9c.out)).trans HN9c.out)
    have HN12d := Aside0.mk ((hX.block _ (lt_of_heap HN12.out)).trans HN12.out)
    clear hX c0 c1 c2 c3 c4 HPC HN9c HN12 HBC
    obtain ⟨nb, hnb⟩ : ∃ x, namedB n = x := ⟨_, rfl⟩
    have HNB := Aside0.mk hnb
    rw [hnb]
    clear hnb
    cases nb with
    | false =>
      have hres := HRES.out
      rw [if_pos HNB.out] at hres
      obtain ⟨rfl, rfl⟩ := Prod.mk.inj hres
      clear hres HRES
      go_wp2_with fail
      go_ret
      exact ⟨rfl, After.of_below HU.out.2.2.2 HBD.out⟩
    | true =>
      have hres := HRES.out
      rw [if_neg (by rw [HNB.out]; decide)] at hres
      clear HRES
      have HRES := Aside0.mk hres
      clear hres
      have HPD := Aside0.mk (HP.out.below HBD.out)
      have hrm := HP.out.ok.room
      obtain ⟨⟨-, c1, -, -, -⟩, -⟩ := HPD.out.at
      obtain ⟨x0, -⟩ := two_cells HN9d.out
      obtain ⟨y0, -⟩ := two_cells HN12d.out
      have HT0 := Aside0.mk HU.out.2.2.1
      have hwl := HWM.out.2.2.2
      try simp only [List.length_nil] at hwl
      obtain ⟨T, hT⟩ : ∃ x, sumL D.fs = x := ⟨_, rfl⟩
      have HUSED := Aside0.mk (fun W (hW : Below w.heap.size w W) => wused (HP.out.below hW).disk)
      have HTE := Aside0.mk hT
      have hres := HRES.out
      have hput := HPUT.out
      have hT0 := HT0.out
      rw [hT] at hres hput hwl hT0 HUSED
      clear HRES HPUT
      have HRES := Aside0.mk hres
      have HPUT := Aside0.mk (hput HNB.out)
      clear hres hput hT HT0
      have bhw0 : -1000000 ≤ (((T : Nat) : Int) - (0 : Int) : Int) ∧ (((T : Nat) : Int) - (0 : Int) : Int) ≤ 1000000 ∧ (((T : Nat) : Int) - (0 : Int) : Int) = ((T : Nat) : Int) := by omega
      have bhv0 : -1000000 ≤ (((T : Nat) : Int) : Int) ∧ (((T : Nat) : Int) : Int) ≤ 1000000 ∧ (((T : Nat) : Int) : Int) = ((T : Nat) : Int) := by omega
      have bhw1 : -1000000 ≤ (((T : Nat) : Int) + (0 : Int) : Int) ∧ (((T : Nat) : Int) + (0 : Int) : Int) ≤ 1000000 ∧ (((T : Nat) : Int) + (0 : Int) : Int) = ((T : Nat) : Int) := by omega
      have bhv1 : -1000000 ≤ (((T : Nat) : Int) : Int) ∧ (((T : Nat) : Int) : Int) ≤ 1000000 ∧ (((T : Nat) : Int) : Int) = ((T : Nat) : Int) := by omega
      have bhw2 : -1000000 ≤ (((T : Nat) : Int) + ((b.length : Nat) : Int) : Int) ∧ (((T : Nat) : Int) + ((b.length : Nat) : Int) : Int) ≤ 1000000 ∧ (((T : Nat) : Int) + ((b.length : Nat) : Int) : Int) = ((T : Nat) : Int) + ((b.length : Nat) : Int) := by omega
      have hw0 := (wsmall _ bhw0.1 bhw0.2.1).trans bhw0.2.2
      have hwk0 := (wsmallk _ bhw0.1 bhw0.2.1).trans bhw0.2.2
      have hv0 := (wsmall _ bhv0.1 bhv0.2.1).trans bhv0.2.2
      have hvk0 := (wsmallk _ bhv0.1 bhv0.2.1).trans bhv0.2.2
      have hw1 := (wsmall _ bhw1.1 bhw1.2.1).trans bhw1.2.2
      have hwk1 := (wsmallk _ bhw1.1 bhw1.2.1).trans bhw1.2.2
      have hv1 := (wsmall _ bhv1.1 bhv1.2.1).trans bhv1.2.2
      have hvk1 := (wsmallk _ bhv1.1 bhv1.2.1).trans bhv1.2.2
      have hw2 := (wsmall _ bhw2.1 bhw2.2.1).trans bhw2.2.2
      have hwk2 := (wsmallk _ bhw2.1 bhw2.2.1).trans bhw2.2.2
      go_upto_region 10 with fail
      have HBDd := Aside0.mk (below_drew HBD.out)
      have HSc := Aside0.mk (show (wD.drew.cell? ⟨w.heap.size, 0, none⟩ = some (.slice none 0 0) ∧ wD.drew.cell? ⟨b2, 0, none⟩ = some (.slice none 0 0) ∧ wD.drew.cell? ⟨g, 1, none⟩ = some (.int .i64 D.room)) from ⟨x0, y0, c1⟩)
      have HLT := Aside0.mk (show w.heap.size < wD.drew.heap.size ∧ b2 < wD.drew.heap.size ∧ g < wD.drew.heap.size from ⟨lt_of_heap HN9d.out, lt_of_heap HN12d.out, HPD.out.bound g HPD.out.own⟩)
      have HN12e := Aside0.mk (show wD.drew.heap[b2]? = _ from HN12d.out)
      clear x0 y0 c1 HN9d HN12d HPD HBD
      refine wp_region_held_drew (S := (fun W => W.cell? ⟨w.heap.size, 0, none⟩ = some (.slice none 0 0) ∧ W.cell? ⟨b2, 0, none⟩ = some (.slice none 0 0) ∧ W.cell? ⟨g, 1, none⟩ = some (.int .i64 D.room))) (by kernel_rfl) HSc.out (fun hHeld => ?_)
      generalize wD.drew = wz at HBDd HSc HLT HN12e hHeld ⊢
      refine wpAnyH_take (i := 0) (oi := { dst := some 39, op := Op.move (Operand.tmp 0), type := 26, pos := "disk.go:91", after := #[], guard := none }) (v := ?_) rfl (by kernel_rfl) (by kernel_rfl) (by kernel_rfl) (fun _ _ _ h => h) (Or.inl ⟨by rfl, ?_⟩) (by assumption) ?_
      rotate_left
      · intro w hSw
        try dsimp only at hSw
        go_simp
        all_goals with_reducible rfl
      try simp only [Act.put, List.setIfInBounds_toArray, List.set_cons_zero, List.set_cons_succ]
      refine wpAnyH_take (i := 2) (oi := { dst := some 41, op := Op.fieldAddr 56 (Operand.tmp 9) 0, type := 0, pos := "disk.go:91", after := #[], guard := none }) (v := ?_) rfl (by kernel_rfl) (by kernel_rfl) (by kernel_rfl) (fun _ _ _ h => h) (Or.inl ⟨by rfl, ?_⟩) (by assumption) ?_
      rotate_left
      · intro w hSw
        try dsimp only at hSw
        go_simp
        all_goals with_reducible rfl
      try simp only [Act.put, List.setIfInBounds_toArray, List.set_cons_zero, List.set_cons_succ]
      refine wpAnyH_take (i := 3) (oi := { dst := some 42, op := Op.load 22 (Operand.tmp 41), type := 22, pos := "disk.go:91", after := #[{ on := 2, ground := Ground.data }], guard := none }) (v := ?_) rfl (by kernel_rfl) (by kernel_rfl) (by kernel_rfl) (fun _ _ _ h => h) (Or.inl ⟨by rfl, ?_⟩) (by assumption) ?_
      rotate_left
      · intro w hSw
        try dsimp only at hSw
        go_simp
        all_goals with_reducible rfl
      try simp only [Act.put, List.setIfInBounds_toArray, List.set_cons_zero, List.set_cons_succ]
      refine wpAnyH_take (i := 4) (oi := { dst := some 43, op := Op.call { callee := Callee.builtin Builtin.len, args := #[Operand.tmp 42], argTypes := #[22] }, type := 3, pos := "disk.go:91", after := #[{ on := 3, ground := Ground.data }], guard := none }) (v := ?_) rfl (by kernel_rfl) (by kernel_rfl) (by kernel_rfl) (fun _ _ _ h => h) (Or.inl ⟨by rfl, ?_⟩) (by assumption) ?_
      rotate_left
      · intro w hSw
        try dsimp only at hSw
        go_simp
        all_goals with_reducible rfl
      try simp only [Act.put, List.setIfInBounds_toArray, List.set_cons_zero, List.set_cons_succ]
      refine wpAnyH_take (i := 6) (oi := { dst := some 45, op := Op.fieldAddr 56 (Operand.tmp 12) 0, type := 0, pos := "disk.go:91", after := #[], guard := none }) (v := ?_) rfl (by kernel_rfl) (by kernel_rfl) (by kernel_rfl) (fun _ _ _ h => h) (Or.inl ⟨by rfl, ?_⟩) (by assumption) ?_
      rotate_left
      · intro w hSw
        try dsimp only at hSw
        go_simp
        all_goals with_reducible rfl
      try simp only [Act.put, List.setIfInBounds_toArray, List.set_cons_zero, List.set_cons_succ]
      refine wpAnyH_take (i := 7) (oi := { dst := some 46, op := Op.load 22 (Operand.tmp 45), type := 22, pos := "disk.go:91", after := #[{ on := 6, ground := Ground.data }], guard := none }) (v := ?_) rfl (by kernel_rfl) (by kernel_rfl) (by kernel_rfl) (fun _ _ _ h => h) (Or.inl ⟨by rfl, ?_⟩) (by assumption) ?_
      rotate_left
      · intro w hSw
        try dsimp only at hSw
        go_simp
        all_goals with_reducible rfl
      try simp only [Act.put, List.setIfInBounds_toArray, List.set_cons_zero, List.set_cons_succ]
      refine wpAnyH_take (i := 8) (oi := { dst := some 47, op := Op.call { callee := Callee.builtin Builtin.len, args := #[Operand.tmp 46], argTypes := #[22] }, type := 3, pos := "disk.go:91", after := #[{ on := 7, ground := Ground.data }], guard := none }) (v := ?_) rfl (by kernel_rfl) (by kernel_rfl) (by kernel_rfl) (fun _ _ _ h => h) (Or.inl ⟨by rfl, ?_⟩) (by assumption) ?_
      rotate_left
      · intro w hSw
        try dsimp only at hSw
        go_simp
        all_goals with_reducible rfl
      try simp only [Act.put, List.setIfInBounds_toArray, List.set_cons_zero, List.set_cons_succ]
      refine wpAnyH_take (i := 10) (oi := { dst := some 49, op := Op.move (Operand.tmp 2), type := 22, pos := "disk.go:91", after := #[], guard := none }) (v := ?_) rfl (by kernel_rfl) (by kernel_rfl) (by kernel_rfl) (fun _ _ _ h => h) (Or.inl ⟨by rfl, ?_⟩) (by assumption) ?_
      rotate_left
      · intro w hSw
        try dsimp only at hSw
        go_simp
        all_goals with_reducible rfl
      try simp only [Act.put, List.setIfInBounds_toArray, List.set_cons_zero, List.set_cons_succ]
      refine wpAnyH_take (i := 11) (oi := { dst := some 50, op := Op.call { callee := Callee.builtin Builtin.len, args := #[Operand.tmp 49], argTypes := #[22] }, type := 3, pos := "disk.go:91", after := #[{ on := 10, ground := Ground.data }], guard := none }) (v := ?_) rfl (by kernel_rfl) (by kernel_rfl) (by kernel_rfl) (fun _ _ _ h => h) (Or.inl ⟨by rfl, ?_⟩) (by assumption) ?_
      rotate_left
      · intro w hSw
        try dsimp only at hSw
        go_simp
        all_goals with_reducible rfl
      try simp only [Act.put, List.setIfInBounds_toArray, List.set_cons_zero, List.set_cons_succ]
      refine wpAnyH_take (i := 13) (oi := { dst := some 52, op := Op.move (Operand.tmp 0), type := 26, pos := "disk.go:91", after := #[], guard := none }) (v := ?_) rfl (by kernel_rfl) (by kernel_rfl) (by kernel_rfl) (fun _ _ _ h => h) (Or.inl ⟨by rfl, ?_⟩) (by assumption) ?_
      rotate_left
      · intro w hSw
        try dsimp only at hSw
        go_simp
        all_goals with_reducible rfl
      try simp only [Act.put, List.setIfInBounds_toArray, List.set_cons_zero, List.set_cons_succ]
      refine wpAnyH_take (i := 14) (oi := { dst := some 53, op := Op.nilCheck (Operand.tmp 52), type := 0, pos := "disk.go:91", after := #[{ on := 13, ground := Ground.data }], guard := none }) (v := ?_) rfl (by kernel_rfl) (by kernel_rfl) (by kernel_rfl) (fun _ _ _ h => h) (Or.inl ⟨by rfl, ?_⟩) (by assumption) ?_
      rotate_left
      · intro w hSw
        try dsimp only at hSw
        go_simp
        all_goals with_reducible rfl
      try simp only [Act.put, List.setIfInBounds_toArray, List.set_cons_zero, List.set_cons_succ]
      refine wpAnyH_take (i := 15) (oi := { dst := some 54, op := Op.fieldAddr 51 (Operand.tmp 53) 1, type := 0, pos := "disk.go:91", after := #[{ on := 14, ground := Ground.data }], guard := none }) (v := ?_) rfl (by kernel_rfl) (by kernel_rfl) (by kernel_rfl) (fun _ _ _ h => h) (Or.inl ⟨by rfl, ?_⟩) (by assumption) ?_
      rotate_left
      · intro w hSw
        try dsimp only at hSw
        go_simp
        all_goals with_reducible rfl
      try simp only [Act.put, List.setIfInBounds_toArray, List.set_cons_zero, List.set_cons_succ]
      refine wpAnyH_take (i := 16) (oi := { dst := some 55, op := Op.load 3 (Operand.tmp 54), type := 3, pos := "disk.go:91", after := #[{ on := 15, ground := Ground.data }], guard := none }) (v := ?_) rfl (by kernel_rfl) (by kernel_rfl) (by kernel_rfl) (fun _ _ _ h => h) (Or.inl ⟨by rfl, ?_⟩) (by assumption) ?_
      rotate_left
      · intro w hSw
        try dsimp only at hSw
        go_simp
        all_goals with_reducible rfl
      try simp only [Act.put, List.setIfInBounds_toArray, List.set_cons_zero, List.set_cons_succ]
      refine wpAnyH_ready (rs := [1]) (by kernel_rfl) (by simp) ?_
      refine AllReadyH.cons (o := { dst := some 40, op := Op.call { callee := Callee.value (Operand.func 45), args := #[Operand.tmp 39], argTypes := #[26] }, type := 3, pos := "disk.go:91", after := #[{ on := 0, ground := Ground.data }], guard := none }) rfl (fun K hK => ?_) AllReadyH.nil
      (go_simp; refine (HUSED.out wz HBDd.out).mono ?_; rintro e wx ⟨rfl, hX⟩; have HBX := Aside0.mk (HBDd.out.trans (hX.mono HBDd.out.size)); have HSd := HSc; clear HSc; have HSc := Aside0.mk (keep3 HSd.out (hX.cell HLT.out.1) (hX.cell HLT.out.2.1) (hX.cell HLT.out.2.2)); have HN12x := Aside0.mk ((hX.block _ (lt_of_heap HN12e.out)).trans HN12e.out); clear HSd hX HN12e; go_wp2_with fail)
      refine hK.out _ _ HSc.out (fun hHeld => ?_)
      clear hK K
      try simp only [Act.put, List.setIfInBounds_toArray, List.set_cons_zero, List.set_cons_succ]
      refine wpAnyH_take (i := 5) (oi := { dst := some 44, op := Op.binOp BinOp.sub 3 (Operand.tmp 40) (Operand.tmp 43) 3, type := 3, pos := "disk.go:91", after := #[{ on := 1, ground := Ground.data }, { on := 4, ground := Ground.data }], guard := none }) (v := ?_) rfl (by kernel_rfl) (by kernel_rfl) (by kernel_rfl) (fun _ _ _ h => h) (Or.inl ⟨by rfl, ?_⟩) (by assumption) ?_
      rotate_left
      · intro w hSw
        try dsimp only at hSw
        go_simp
        all_goals with_reducible rfl
      try simp only [Act.put, List.setIfInBounds_toArray, List.set_cons_zero, List.set_cons_succ]
      refine wpAnyH_take (i := 9) (oi := { dst := some 48, op := Op.binOp BinOp.add 3 (Operand.tmp 44) (Operand.tmp 47) 3, type := 3, pos := "disk.go:91", after := #[{ on := 5, ground := Ground.data }, { on := 8, ground := Ground.data }], guard := none }) (v := ?_) rfl (by kernel_rfl) (by kernel_rfl) (by kernel_rfl) (fun _ _ _ h => h) (Or.inl ⟨by rfl, ?_⟩) (by assumption) ?_
      rotate_left
      · intro w hSw
        try dsimp only at hSw
        go_simp
        all_goals with_reducible rfl
      try simp only [Act.put, List.setIfInBounds_toArray, List.set_cons_zero, List.set_cons_succ]
      refine wpAnyH_take (i := 12) (oi := { dst := some 51, op := Op.binOp BinOp.add 3 (Operand.tmp 48) (Operand.tmp 50) 3, type := 3, pos := "disk.go:91", after := #[{ on := 9, ground := Ground.data }, { on := 11, ground := Ground.data }], guard := none }) (v := ?_) rfl (by kernel_rfl) (by kernel_rfl) (by kernel_rfl) (fun _ _ _ h => h) (Or.inl ⟨by rfl, ?_⟩) (by assumption) ?_
      rotate_left
      · intro w hSw
        try dsimp only at hSw
        go_simp
        all_goals with_reducible rfl
      try simp only [Act.put, List.setIfInBounds_toArray, List.set_cons_zero, List.set_cons_succ]
      refine wpAnyH_take (i := 17) (oi := { dst := some 56, op := Op.binOp BinOp.gtr 3 (Operand.tmp 51) (Operand.tmp 55) 3, type := 4, pos := "disk.go:91", after := #[{ on := 12, ground := Ground.data }, { on := 16, ground := Ground.data }], guard := none }) (v := ?_) rfl (by kernel_rfl) (by kernel_rfl) (by kernel_rfl) (fun _ _ _ h => h) (Or.inl ⟨by rfl, ?_⟩) (by assumption) ?_
      rotate_left
      · intro w hSw
        try dsimp only at hSw
        go_simp
        all_goals with_reducible rfl
      try simp only [Act.put, List.setIfInBounds_toArray, List.set_cons_zero, List.set_cons_succ]
      refine wpAnyH_take (i := 18) (oi := { dst := some 38, op := Op.assign (Operand.tmp 56), type := 4, pos := "disk.go:91", after := #[{ on := 17, ground := Ground.data }, { on := 1, ground := Ground.chain }], guard := none }) (v := ?_) rfl (by kernel_rfl) (by kernel_rfl) (by kernel_rfl) (fun _ _ _ h => h) (Or.inl ⟨by rfl, ?_⟩) (by assumption) ?_
      rotate_left
      · intro w hSw
        try dsimp only at hSw
        go_simp
        all_goals with_reducible rfl
      try simp only [Act.put, List.setIfInBounds_toArray, List.set_cons_zero, List.set_cons_succ]
      refine wpAnyH_done (by kernel_rfl) ?_ _
      clear hw0 hwk0 bhw0 hv0 hvk0 bhv0 hw1 hwk1 bhw1 hv1 hvk1 bhv1 hw2 hwk2 bhw2
      by_cases hgt : D.room < ((T : Nat) : Int) + ((b.length : Nat) : Int)
      · have hres := HRES.out
        rw [if_pos (by (try simp only [List.length_nil, Int.ofNat_zero]); omega)] at hres
        obtain ⟨rfl, rfl⟩ := Prod.mk.inj hres
        clear hres HRES
        go_wp2_with fail
        go_ret
        exact ⟨rfl, After.of_below HU.out.2.2.2 HBX.out⟩
      · have hres := HRES.out
        rw [if_neg (by (try simp only [List.length_nil, Int.ofNat_zero]); omega)] at hres
        have hput := HPUT.out (by (try simp only [List.length_nil, Int.ofNat_zero]); omega)
        have HPW := Aside0.mk ((HP.out.below HBX.out).disk)
        have HWR := Aside0.mk (wwrite (n := n) HPW.out (named_size HNB.out) none 0 [] 0 Ab cb b ((((held_nil w g)).below' HBX.out)) ((HB.out.below' HBX.out)) HU.out.2.1 (by (try simp only [List.length_nil] at hwl ⊢); omega) (by omega) hput)
        rw [hres] at HWR
        clear hres HRES hput
        obtain ⟨y0, y1⟩ := two_cells HN12x.out
        go_wp2_with fail
        refine HWR.out.mono ?_
        rintro e wE ⟨rfl, hA⟩
        have HA := Aside0.mk hA
        clear hA y0 y1
        go_wp2_with fail
        go_ret
        exact ⟨rfl, After.behind HBX.out HA.out⟩
  · skip
    go_upto_region 5 with fail
    clear hlk hg0 hp0 hp1
    have HB9 := Aside0.mk ((Below.refl w.heap.size w).alloc (Nat.le_refl _) (.cells #[.slice A kl.length c, .int .i64 ks] 56 (0, 0)))
    have HN9 := Aside0.mk (heap_alloc_new w (.cells #[.slice A kl.length c, .int .i64 ks] 56 (0, 0)))
    generalize w.alloc (.cells #[.slice A kl.length c, .int .i64 ks] 56 (0, 0)) = wA at HB9 HN9 ⊢
    obtain ⟨x0, x1⟩ := two_cells HN9.out
    go_wp2_with fail
    refine (wclo27 _ _ _).mono ?_
    rintro e wB ⟨rfl, hX⟩
    have HXB := Aside0.mk hX
    clear hX x0 x1
    go_upto_region 6 with fail
    have HBC := Aside0.mk ((HB9.out.trans (HXB.out.mono HB9.out.size)).alloc (Nat.le_trans HB9.out.size HXB.out.size) (.cells #[.slice none 0 0, .int .i64 0] 56 (0, 0)))
    have HN12 := Aside0.mk (heap_alloc_new wB (.cells #[.slice none 0 0, .int .i64 0] 56 (0, 0)))
    have HN9c := Aside0.mk (show (wB.alloc (.cells #[.slice none 0 0, .int .i64 0] 56 (0, 0))).heap[w.heap.size]? = some (.cells #[.slice A kl.length c, .int .i64 ks] 56 (0, 0)) from (Below.heap_alloc _ _ _ (Nat.lt_of_lt_of_le (lt_of_heap HN9.out) HXB.out.size)).trans ((HXB.out.block _ (lt_of_heap HN9.out)).trans HN9.out))
    obtain ⟨b2, hb2⟩ : ∃ x, wB.heap.size = x := ⟨_, rfl⟩
    rw [hb2] at HN12 ⊢
    generalize wB.alloc (.cells #[.slice none 0 0, .int .i64 0] 56 (0, 0)) = wC at HBC HN12 HN9c ⊢
    clear hb2 HXB HN9 HB9
    have HPC := Aside0.mk (HP.out.below HBC.out)
    obtain ⟨⟨c0, c1, c2, c3, c4⟩, -⟩ := HPC.out.at
    by_cases hd : D.dead = true
    · rw [hd] at c4
      have hres := HRES.out
      rw [if_pos hd] at hres
      obtain ⟨rfl, rfl⟩ := Prod.mk.inj hres
      clear hres HRES
      go_wp2_with fail
      go_ret
      exact ⟨rfl, After.of_below HU.out.2.2.2 HBC.out⟩
    have hres := HRES.out
    rw [if_neg hd] at hres
    have hd' : D.dead = false := by simpa using hd
    rw [hd'] at c4
    clear HRES hd hd'
    have HRES := Aside0.mk hres
    clear hres
    go_wp2_with fail
    refine (disk_named.calls n (namedB n) wC (named_f n)).mono ?_
    rintro e wD ⟨rfl, hX⟩
    have hX := drawn_below19 hX
    have HBD := Aside0.mk (HBC.out.trans (hX.mono HBC.out.size))
    have HN9d := Aside0.mk ((hX.block _ (lt_of_heap HN9c.out)).trans HN9c.out)
    have HN12d := Aside0.mk ((hX.block _ (lt_of_heap HN12.out)).trans HN12.out)
    clear hX c0 c1 c2 c3 c4 HPC HN9c HN12 HBC
    obtain ⟨nb, hnb⟩ : ∃ x, namedB n = x := ⟨_, rfl⟩
    have HNB := Aside0.mk hnb
    rw [hnb]
    clear hnb
    cases nb with
    | false =>
      have hres := HRES.out
      rw [if_pos HNB.out] at hres
      obtain ⟨rfl, rfl⟩ := Prod.mk.inj hres
      clear hres HRES
      go_wp2_with fail
      go_ret
      exact ⟨rfl, After.of_below HU.out.2.2.2 HBD.out⟩
    | true =>
      have hres := HRES.out
      rw [if_neg (by rw [HNB.out]; decide)] at hres
      clear HRES
      have HRES := Aside0.mk hres
      clear hres
      have HPD := Aside0.mk (HP.out.below HBD.out)
      have hrm := HP.out.ok.room
      obtain ⟨⟨-, c1, -, -, -⟩, -⟩ := HPD.out.at
      obtain ⟨x0, -⟩ := two_cells HN9d.out
      obtain ⟨y0, -⟩ := two_cells HN12d.out
      have HT0 := Aside0.mk HU.out.2.2.1
      have hwl := HWM.out.2.2.2
      try simp only [List.length_nil] at hwl
      obtain ⟨T, hT⟩ : ∃ x, sumL D.fs = x := ⟨_, rfl⟩
      have HUSED := Aside0.mk (fun W (hW : Below w.heap.size w W) => wused (HP.out.below hW).disk)
      have HTE := Aside0.mk hT
      have hres := HRES.out
      have hput := HPUT.out
      have hT0 := HT0.out
      rw [hT] at hres hput hwl hT0 HUSED
      clear HRES HPUT
      have HRES := Aside0.mk hres
      have HPUT := Aside0.mk (hput HNB.out)
      clear hres hput hT HT0
      have bhw0 : -1000000 ≤ (((T : Nat) : Int) - ((kl.length : Nat) : Int) : Int) ∧ (((T : Nat) : Int) - ((kl.length : Nat) : Int) : Int) ≤ 1000000 ∧ (((T : Nat) : Int) - ((kl.length : Nat) : Int) : Int) = ((T : Nat) : Int) - ((kl.length : Nat) : Int) := by omega
      have bhw1 : -1000000 ≤ (((T : Nat) : Int) - ((kl.length : Nat) : Int) + (0 : Int) : Int) ∧ (((T : Nat) : Int) - ((kl.length : Nat) : Int) + (0 : Int) : Int) ≤ 1000000 ∧ (((T : Nat) : Int) - ((kl.length : Nat) : Int) + (0 : Int) : Int) = ((T : Nat) : Int) - ((kl.length : Nat) : Int) := by omega
      have bhv1 : -1000000 ≤ (((T : Nat) : Int) - ((kl.length : Nat) : Int) : Int) ∧ (((T : Nat) : Int) - ((kl.length : Nat) : Int) : Int) ≤ 1000000 ∧ (((T : Nat) : Int) - ((kl.length : Nat) : Int) : Int) = ((T : Nat) : Int) - ((kl.length : Nat) : Int) := by omega
      have bhw2 : -1000000 ≤ (((T : Nat) : Int) - ((kl.length : Nat) : Int) + ((b.length : Nat) : Int) : Int) ∧ (((T : Nat) : Int) - ((kl.length : Nat) : Int) + ((b.length : Nat) : Int) : Int) ≤ 1000000 ∧ (((T : Nat) : Int) - ((kl.length : Nat) : Int) + ((b.length : Nat) : Int) : Int) = ((T : Nat) : Int) - ((kl.length : Nat) : Int) + ((b.length : Nat) : Int) := by omega
      have hw0 := (wsmall _ bhw0.1 bhw0.2.1).trans bhw0.2.2
      have hwk0 := (wsmallk _ bhw0.1 bhw0.2.1).trans bhw0.2.2
      have hw1 := (wsmall _ bhw1.1 bhw1.2.1).trans bhw1.2.2
      have hwk1 := (wsmallk _ bhw1.1 bhw1.2.1).trans bhw1.2.2
      have hv1 := (wsmall _ bhv1.1 bhv1.2.1).trans bhv1.2.2
      have hvk1 := (wsmallk _ bhv1.1 bhv1.2.1).trans bhv1.2.2
      have hw2 := (wsmall _ bhw2.1 bhw2.2.1).trans bhw2.2.2
      have hwk2 := (wsmallk _ bhw2.1 bhw2.2.1).trans bhw2.2.2
      go_upto_region 10 with fail
      have HBDd := Aside0.mk (below_drew HBD.out)
      have HSc := Aside0.mk (show (wD.drew.cell? ⟨w.heap.size, 0, none⟩ = some (.slice A kl.length c) ∧ wD.drew.cell? ⟨b2, 0, none⟩ = some (.slice none 0 0) ∧ wD.drew.cell? ⟨g, 1, none⟩ = some (.int .i64 D.room)) from ⟨x0, y0, c1⟩)
      have HLT := Aside0.mk (show w.heap.size < wD.drew.heap.size ∧ b2 < wD.drew.heap.size ∧ g < wD.drew.heap.size from ⟨lt_of_heap HN9d.out, lt_of_heap HN12d.out, HPD.out.bound g HPD.out.own⟩)
      have HN12e := Aside0.mk (show wD.drew.heap[b2]? = _ from HN12d.out)
      clear x0 y0 c1 HN9d HN12d HPD HBD
      refine wp_region_held_drew (S := (fun W => W.cell? ⟨w.heap.size, 0, none⟩ = some (.slice A kl.length c) ∧ W.cell? ⟨b2, 0, none⟩ = some (.slice none 0 0) ∧ W.cell? ⟨g, 1, none⟩ = some (.int .i64 D.room))) (by kernel_rfl) HSc.out (fun hHeld => ?_)
      generalize wD.drew = wz at HBDd HSc HLT HN12e hHeld ⊢
      refine wpAnyH_take (i := 0) (oi := { dst := some 39, op := Op.move (Operand.tmp 0), type := 26, pos := "disk.go:91", after := #[], guard := none }) (v := ?_) rfl (by kernel_rfl) (by kernel_rfl) (by kernel_rfl) (fun _ _ _ h => h) (Or.inl ⟨by rfl, ?_⟩) (by assumption) ?_
      rotate_left
      · intro w hSw
        try dsimp only at hSw
        go_simp
        all_goals with_reducible rfl
      try simp only [Act.put, List.setIfInBounds_toArray, List.set_cons_zero, List.set_cons_succ]
      refine wpAnyH_take (i := 2) (oi := { dst := some 41, op := Op.fieldAddr 56 (Operand.tmp 9) 0, type := 0, pos := "disk.go:91", after := #[], guard := none }) (v := ?_) rfl (by kernel_rfl) (by kernel_rfl) (by kernel_rfl) (fun _ _ _ h => h) (Or.inl ⟨by rfl, ?_⟩) (by assumption) ?_
      rotate_left
      · intro w hSw
        try dsimp only at hSw
        go_simp
        all_goals with_reducible rfl
      try simp only [Act.put, List.setIfInBounds_toArray, List.set_cons_zero, List.set_cons_succ]
      refine wpAnyH_take (i := 3) (oi := { dst := some 42, op := Op.load 22 (Operand.tmp 41), type := 22, pos := "disk.go:91", after := #[{ on := 2, ground := Ground.data }], guard := none }) (v := ?_) rfl (by kernel_rfl) (by kernel_rfl) (by kernel_rfl) (fun _ _ _ h => h) (Or.inl ⟨by rfl, ?_⟩) (by assumption) ?_
      rotate_left
      · intro w hSw
        try dsimp only at hSw
        go_simp
        all_goals with_reducible rfl
      try simp only [Act.put, List.setIfInBounds_toArray, List.set_cons_zero, List.set_cons_succ]
      refine wpAnyH_take (i := 4) (oi := { dst := some 43, op := Op.call { callee := Callee.builtin Builtin.len, args := #[Operand.tmp 42], argTypes := #[22] }, type := 3, pos := "disk.go:91", after := #[{ on := 3, ground := Ground.data }], guard := none }) (v := ?_) rfl (by kernel_rfl) (by kernel_rfl) (by kernel_rfl) (fun _ _ _ h => h) (Or.inl ⟨by rfl, ?_⟩) (by assumption) ?_
      rotate_left
      · intro w hSw
        try dsimp only at hSw
        go_simp
        all_goals with_reducible rfl
      try simp only [Act.put, List.setIfInBounds_toArray, List.set_cons_zero, List.set_cons_succ]
      refine wpAnyH_take (i := 6) (oi := { dst := some 45, op := Op.fieldAddr 56 (Operand.tmp 12) 0, type := 0, pos := "disk.go:91", after := #[], guard := none }) (v := ?_) rfl (by kernel_rfl) (by kernel_rfl) (by kernel_rfl) (fun _ _ _ h => h) (Or.inl ⟨by rfl, ?_⟩) (by assumption) ?_
      rotate_left
      · intro w hSw
        try dsimp only at hSw
        go_simp
        all_goals with_reducible rfl
      try simp only [Act.put, List.setIfInBounds_toArray, List.set_cons_zero, List.set_cons_succ]
      refine wpAnyH_take (i := 7) (oi := { dst := some 46, op := Op.load 22 (Operand.tmp 45), type := 22, pos := "disk.go:91", after := #[{ on := 6, ground := Ground.data }], guard := none }) (v := ?_) rfl (by kernel_rfl) (by kernel_rfl) (by kernel_rfl) (fun _ _ _ h => h) (Or.inl ⟨by rfl, ?_⟩) (by assumption) ?_
      rotate_left
      · intro w hSw
        try dsimp only at hSw
        go_simp
        all_goals with_reducible rfl
      try simp only [Act.put, List.setIfInBounds_toArray, List.set_cons_zero, List.set_cons_succ]
      refine wpAnyH_take (i := 8) (oi := { dst := some 47, op := Op.call { callee := Callee.builtin Builtin.len, args := #[Operand.tmp 46], argTypes := #[22] }, type := 3, pos := "disk.go:91", after := #[{ on := 7, ground := Ground.data }], guard := none }) (v := ?_) rfl (by kernel_rfl) (by kernel_rfl) (by kernel_rfl) (fun _ _ _ h => h) (Or.inl ⟨by rfl, ?_⟩) (by assumption) ?_
      rotate_left
      · intro w hSw
        try dsimp only at hSw
        go_simp
        all_goals with_reducible rfl
      try simp only [Act.put, List.setIfInBounds_toArray, List.set_cons_zero, List.set_cons_succ]
      refine wpAnyH_take (i := 10) (oi := { dst := some 49, op := Op.move (Operand.tmp 2), type := 22, pos := "disk.go:91", after := #[], guard := none }) (v := ?_) rfl (by kernel_rfl) (by kernel_rfl) (by kernel_rfl) (fun _ _ _ h => h) (Or.inl ⟨by rfl, ?_⟩) (by assumption) ?_
      rotate_left
      · intro w hSw
        try dsimp only at hSw
        go_simp
        all_goals with_reducible rfl
      try simp only [Act.put, List.setIfInBounds_toArray, List.set_cons_zero, List.set_cons_succ]
      refine wpAnyH_take (i := 11) (oi := { dst := some 50, op := Op.call { callee := Callee.builtin Builtin.len, args := #[Operand.tmp 49], argTypes := #[22] }, type := 3, pos := "disk.go:91", after := #[{ on := 10, ground := Ground.data }], guard := none }) (v := ?_) rfl (by kernel_rfl) (by kernel_rfl) (by kernel_rfl) (fun _ _ _ h => h) (Or.inl ⟨by rfl, ?_⟩) (by assumption) ?_
      rotate_left
      · intro w hSw
        try dsimp only at hSw
        go_simp
        all_goals with_reducible rfl
      try simp only [Act.put, List.setIfInBounds_toArray, List.set_cons_zero, List.set_cons_succ]
      refine wpAnyH_take (i := 13) (oi := { dst := some 52, op := Op.move (Operand.tmp 0), type := 26, pos := "disk.go:91", after := #[], guard := none }) (v := ?_) rfl (by kernel_rfl) (by kernel_rfl) (by kernel_rfl) (fun _ _ _ h => h) (Or.inl ⟨by rfl, ?_⟩) (by assumption) ?_
      rotate_left
      · intro w hSw
        try dsimp only at hSw
        go_simp
        all_goals with_reducible rfl
      try simp only [Act.put, List.setIfInBounds_toArray, List.set_cons_zero, List.set_cons_succ]
      refine wpAnyH_take (i := 14) (oi := { dst := some 53, op := Op.nilCheck (Operand.tmp 52), type := 0, pos := "disk.go:91", after := #[{ on := 13, ground := Ground.data }], guard := none }) (v := ?_) rfl (by kernel_rfl) (by kernel_rfl) (by kernel_rfl) (fun _ _ _ h => h) (Or.inl ⟨by rfl, ?_⟩) (by assumption) ?_
      rotate_left
      · intro w hSw
        try dsimp only at hSw
        go_simp
        all_goals with_reducible rfl
      try simp only [Act.put, List.setIfInBounds_toArray, List.set_cons_zero, List.set_cons_succ]
      refine wpAnyH_take (i := 15) (oi := { dst := some 54, op := Op.fieldAddr 51 (Operand.tmp 53) 1, type := 0, pos := "disk.go:91", after := #[{ on := 14, ground := Ground.data }], guard := none }) (v := ?_) rfl (by kernel_rfl) (by kernel_rfl) (by kernel_rfl) (fun _ _ _ h => h) (Or.inl ⟨by rfl, ?_⟩) (by assumption) ?_
      rotate_left
      · intro w hSw
        try dsimp only at hSw
        go_simp
        all_goals with_reducible rfl
      try simp only [Act.put, List.setIfInBounds_toArray, List.set_cons_zero, List.set_cons_succ]
      refine wpAnyH_take (i := 16) (oi := { dst := some 55, op := Op.load 3 (Operand.tmp 54), type := 3, pos := "disk.go:91", after := #[{ on := 15, ground := Ground.data }], guard := none }) (v := ?_) rfl (by kernel_rfl) (by kernel_rfl) (by kernel_rfl) (fun _ _ _ h => h) (Or.inl ⟨by rfl, ?_⟩) (by assumption) ?_
      rotate_left
      · intro w hSw
        try dsimp only at hSw
        go_simp
        all_goals with_reducible rfl
      try simp only [Act.put, List.setIfInBounds_toArray, List.set_cons_zero, List.set_cons_succ]
      refine wpAnyH_ready (rs := [1]) (by kernel_rfl) (by simp) ?_
      refine AllReadyH.cons (o := { dst := some 40, op := Op.call { callee := Callee.value (Operand.func 45), args := #[Operand.tmp 39], argTypes := #[26] }, type := 3, pos := "disk.go:91", after := #[{ on := 0, ground := Ground.data }], guard := none }) rfl (fun K hK => ?_) AllReadyH.nil
      (go_simp; refine (HUSED.out wz HBDd.out).mono ?_; rintro e wx ⟨rfl, hX⟩; have HBX := Aside0.mk (HBDd.out.trans (hX.mono HBDd.out.size)); have HSd := HSc; clear HSc; have HSc := Aside0.mk (keep3 HSd.out (hX.cell HLT.out.1) (hX.cell HLT.out.2.1) (hX.cell HLT.out.2.2)); have HN12x := Aside0.mk ((hX.block _ (lt_of_heap HN12e.out)).trans HN12e.out); clear HSd hX HN12e; go_wp2_with fail)
      refine hK.out _ _ HSc.out (fun hHeld => ?_)
      clear hK K
      try simp only [Act.put, List.setIfInBounds_toArray, List.set_cons_zero, List.set_cons_succ]
      refine wpAnyH_take (i := 5) (oi := { dst := some 44, op := Op.binOp BinOp.sub 3 (Operand.tmp 40) (Operand.tmp 43) 3, type := 3, pos := "disk.go:91", after := #[{ on := 1, ground := Ground.data }, { on := 4, ground := Ground.data }], guard := none }) (v := ?_) rfl (by kernel_rfl) (by kernel_rfl) (by kernel_rfl) (fun _ _ _ h => h) (Or.inl ⟨by rfl, ?_⟩) (by assumption) ?_
      rotate_left
      · intro w hSw
        try dsimp only at hSw
        go_simp
        all_goals with_reducible rfl
      try simp only [Act.put, List.setIfInBounds_toArray, List.set_cons_zero, List.set_cons_succ]
      refine wpAnyH_take (i := 9) (oi := { dst := some 48, op := Op.binOp BinOp.add 3 (Operand.tmp 44) (Operand.tmp 47) 3, type := 3, pos := "disk.go:91", after := #[{ on := 5, ground := Ground.data }, { on := 8, ground := Ground.data }], guard := none }) (v := ?_) rfl (by kernel_rfl) (by kernel_rfl) (by kernel_rfl) (fun _ _ _ h => h) (Or.inl ⟨by rfl, ?_⟩) (by assumption) ?_
      rotate_left
      · intro w hSw
        try dsimp only at hSw
        go_simp
        all_goals with_reducible rfl
      try simp only [Act.put, List.setIfInBounds_toArray, List.set_cons_zero, List.set_cons_succ]
      refine wpAnyH_take (i := 12) (oi := { dst := some 51, op := Op.binOp BinOp.add 3 (Operand.tmp 48) (Operand.tmp 50) 3, type := 3, pos := "disk.go:91", after := #[{ on := 9, ground := Ground.data }, { on := 11, ground := Ground.data }], guard := none }) (v := ?_) rfl (by kernel_rfl) (by kernel_rfl) (by kernel_rfl) (fun _ _ _ h => h) (Or.inl ⟨by rfl, ?_⟩) (by assumption) ?_
      rotate_left
      · intro w hSw
        try dsimp only at hSw
        go_simp
        all_goals with_reducible rfl
      try simp only [Act.put, List.setIfInBounds_toArray, List.set_cons_zero, List.set_cons_succ]
      refine wpAnyH_take (i := 17) (oi := { dst := some 56, op := Op.binOp BinOp.gtr 3 (Operand.tmp 51) (Operand.tmp 55) 3, type := 4, pos := "disk.go:91", after := #[{ on := 12, ground := Ground.data }, { on := 16, ground := Ground.data }], guard := none }) (v := ?_) rfl (by kernel_rfl) (by kernel_rfl) (by kernel_rfl) (fun _ _ _ h => h) (Or.inl ⟨by rfl, ?_⟩) (by assumption) ?_
      rotate_left
      · intro w hSw
        try dsimp only at hSw
        go_simp
        all_goals with_reducible rfl
      try simp only [Act.put, List.setIfInBounds_toArray, List.set_cons_zero, List.set_cons_succ]
      refine wpAnyH_take (i := 18) (oi := { dst := some 38, op := Op.assign (Operand.tmp 56), type := 4, pos := "disk.go:91", after := #[{ on := 17, ground := Ground.data }, { on := 1, ground := Ground.chain }], guard := none }) (v := ?_) rfl (by kernel_rfl) (by kernel_rfl) (by kernel_rfl) (fun _ _ _ h => h) (Or.inl ⟨by rfl, ?_⟩) (by assumption) ?_
      rotate_left
      · intro w hSw
        try dsimp only at hSw
        go_simp
        all_goals with_reducible rfl
      try simp only [Act.put, List.setIfInBounds_toArray, List.set_cons_zero, List.set_cons_succ]
      refine wpAnyH_done (by kernel_rfl) ?_ _
      clear hw0 hwk0 bhw0 hw1 hwk1 bhw1 hv1 hvk1 bhv1 hw2 hwk2 bhw2
      by_cases hgt : D.room < ((T : Nat) : Int) - ((kl.length : Nat) : Int) + ((b.length : Nat) : Int)
      · have hres := HRES.out
        rw [if_pos (by (try simp only [List.length_nil, Int.ofNat_zero]); omega)] at hres
        obtain ⟨rfl, rfl⟩ := Prod.mk.inj hres
        clear hres HRES
        go_wp2_with fail
        go_ret
        exact ⟨rfl, After.of_below HU.out.2.2.2 HBX.out⟩
      · have hres := HRES.out
        rw [if_neg (by (try simp only [List.length_nil, Int.ofNat_zero]); omega)] at hres
        have hput := HPUT.out (by (try simp only [List.length_nil, Int.ofNat_zero]); omega)
        have HPW := Aside0.mk ((HP.out.below HBX.out).disk)
        have HWR := Aside0.mk (wwrite (n := n) HPW.out (named_size HNB.out) none 0 [] 0 Ab cb b ((((held_nil w g)).below' HBX.out)) ((HB.out.below' HBX.out)) HU.out.2.1 (by (try simp only [List.length_nil] at hwl ⊢); omega) (by omega) hput)
        rw [hres] at HWR
        clear hres HRES hput
        obtain ⟨y0, y1⟩ := two_cells HN12x.out
        go_wp2_with fail
        refine HWR.out.mono ?_
        rintro e wE ⟨rfl, hA⟩
        have HA := Aside0.mk hA
        clear hA y0 y1
        go_wp2_with fail
        go_ret
        exact ⟨rfl, After.behind HBX.out HA.out⟩
set_option maxRecDepth 100000 in
set_option maxHeartbeats 4000000 in
theorem wlayAppend {S : Nat → Prop} {g : Nat} {D : DD} {w : World} (h : DiskR S w g D) (n : ByteArray) (hn : n.size ≤ 1000) (Ab : Option Addr) (cb : Nat) (b : List Int) (hb : HeldB w (fun k => k ≠ g ∧ k < w.heap.size) Ab b) (hcb : b.length ≤ cb) (hu : u8s b) (hlim : sumL D.fs + b.length ≤ 30000) :
    Calls Try.prog 26 #[.pointer (some ⟨g, 0, none⟩), .string n, .slice Ab b.length cb, .func (.func 41) #[] #[]] w fun e w' => e = .returned (.int .i64 (D.lay n false b).1) ∧ After S w w' g (D.lay n false b).2 := by
  obtain ⟨m, ps, hP⟩ := h.parts
  obtain ⟨res, hres⟩ : ∃ r, D.lay n false b = r := ⟨_, rfl⟩
  rw [hres]
  have hput := fun hn2 ht i => lay_put h.ok (n := n) (anew := false) hn2 hu ht i
  have hwm := was_mem h.ok n
  unfold DD.lay at hres
  simp only [if_true, Bool.false_eq_true, if_false] at hres hput
  obtain ⟨re, rD⟩ := res
  have HRES := Aside0.mk hres
  have HPUT := Aside0.mk hput
  have HP := Aside0.mk hP
  have HB := Aside0.mk hb
  have HU := Aside0.mk (And.intro hu (And.intro hcb (And.intro hlim h)))
  have hwasD : D.was n = D.was n := rfl
  clear hres hput hb hu h hcb hlim
  simp only
  have hP1 := hP.below ((Below.refl w.heap.size w).alloc (Nat.le_refl _) (.cells #[.slice none 0 0, .int .i64 0] 56 (0, 0)))
  have hg0 := hP1.at.1.1
  have hlk := look (S := S) hP1.map hP.names n (by simp only [maxLen]; omega) true
  rw [← hP.fs] at hlk
  have hcase : ∃ (A : Option Addr) (c : Nat) (kl : List Int) (ks : Int), D.was n = (kl, ks) ∧ kl.length ≤ c ∧ HeldB w (fun k => k ≠ g ∧ k < w.heap.size) A kl ∧
      (((Instr.lookup 49 (.map (some m)) (.string n) true).run Try.prog (w.alloc (.cells #[.slice none 0 0, .int .i64 0] 56 (0, 0))) = .ok (.tuple #[.pointer none, .bool false]) (w.alloc (.cells #[.slice none 0 0, .int .i64 0] 56 (0, 0))) ∧ A = none ∧ c = 0 ∧ kl = [] ∧ ks = 0) ∨
        ∃ p, (Instr.lookup 49 (.map (some m)) (.string n) true).run Try.prog (w.alloc (.cells #[.slice none 0 0, .int .i64 0] 56 (0, 0))) = .ok (.tuple #[.pointer (some ⟨p, 0, none⟩), .bool true]) (w.alloc (.cells #[.slice none 0 0, .int .i64 0] 56 (0, 0))) ∧
          (w.alloc (.cells #[.slice none 0 0, .int .i64 0] 56 (0, 0))).cell? ⟨p, 0, none⟩ = some (.slice A kl.length c) ∧ (w.alloc (.cells #[.slice none 0 0, .int .i64 0] 56 (0, 0))).cell? ⟨p, 1, none⟩ = some (.int .i64 ks)) := by
    rcases hlk with ⟨h1, h2⟩ | ⟨j, q, h1, h2, h3, h4⟩
    · exact ⟨none, 0, [], 0, by unfold DD.was DD.find; rw [h2], Nat.le_refl _, fun h0 => absurd h0 (by simp), .inl ⟨h1, rfl, rfl, rfl, rfl⟩⟩
    · obtain ⟨A, c, e1, e2, e3, _⟩ := file_held (hP.files q (List.mem_of_getElem? h1)) hP.cells
      have e4 : (w.alloc (.cells #[.slice none 0 0, .int .i64 0] 56 (0, 0))).heap[q.2]? = some (.cells #[.slice A q.1.d.length c, .int .i64 q.1.s] 56 (0, 0)) := (Below.heap_alloc _ _ _ (lt_of_heap e1)).trans e1
      exact ⟨A, c, q.1.d, q.1.s, by unfold DD.was DD.find; rw [h3], e2, e3, .inr ⟨q.2, h4, (two_cells e4).1, (two_cells e4).2⟩⟩
  obtain ⟨A, c, kl, ks, hwas, hkc, hkh, hcase⟩ := hcase
  have HKH := Aside0.mk hkh
  have hres := HRES.out
  have hput := HPUT.out
  rw [hwas] at hres hput hwm
  clear HRES HPUT
  have HRES := Aside0.mk hres
  have HPUT := Aside0.mk hput
  have HWM := Aside0.mk hwm
  have HCELL := Aside0.mk hP.cells
  have HGB := Aside0.mk (hP.bound g hP.own)
  clear hres hput hwm hP hP1 hlk hwas hkh hwasD
  go_enter Try.func26, Try.ntmps26
  rcases hcase with ⟨hlk, rfl, rfl, rfl, rfl⟩ | ⟨p, hlk, hp0, hp1⟩
  · skip
    go_upto_region 5 with fail
    clear hlk hg0 
    have HB9 := Aside0.mk ((Below.refl w.heap.size w).alloc (Nat.le_refl _) (.cells #[.slice none 0 0, .int .i64 0] 56 (0, 0)))
    have HN9 := Aside0.mk (heap_alloc_new w (.cells #[.slice none 0 0, .int .i64 0] 56 (0, 0)))
    generalize w.alloc (.cells #[.slice none 0 0, .int .i64 0] 56 (0, 0)) = wA at HB9 HN9 ⊢
    obtain ⟨x0, x1⟩ := two_cells HN9.out
    go_wp2_with fail
    refine (wclo41 _ _ _ _ _).mono ?_
    rintro e wB ⟨rfl, hX⟩
    have HXB := Aside0.mk hX
    clear hX x0 x1
    go_upto_region 6 with fail
    have HBC := Aside0.mk ((HB9.out.trans (HXB.out.mono HB9.out.size)).alloc (Nat.le_trans HB9.out.size HXB.out.size) (.cells #[.slice none 0 0, .int .i64 0] 56 (0, 0)))
    have HN12 := Aside0.mk (heap_alloc_new wB (.cells #[.slice none 0 0, .int .i64 0] 56 (0, 0)))
    have HN9c := Aside0.mk (show (wB.alloc (.cells #[.slice none 0 0, .int .i64 0] 56 (0, 0))).heap[w.heap.size]? = some (.cells #[.slice none 0 0, .int .i64 0] 56 (0, 0)) from (Below.heap_alloc _ _ _ (Nat.lt_of_lt_of_le (lt_of_heap HN9.out) HXB.out.size)).trans ((HXB.out.block _ (lt_of_heap HN9.out)).trans HN9.out))
    obtain ⟨b2, hb2⟩ : ∃ x, wB.heap.size = x := ⟨_, rfl⟩
    rw [hb2] at HN12 ⊢
    generalize wB.alloc (.cells #[.slice none 0 0, .int .i64 0] 56 (0, 0)) = wC at HBC HN12 HN9c ⊢
    clear hb2 HXB HN9 HB9
    have HPC := Aside0.mk (HP.out.below HBC.out)
    obtain ⟨⟨c0, c1, c2, c3, c4⟩, -⟩ := HPC.out.at
    by_cases hd : D.dead = true
    · rw [hd] at c4
      have hres := HRES.out
      rw [if_pos hd] at hres
      obtain ⟨rfl, rfl⟩ := Prod.mk.inj hres
      clear hres HRES
      go_wp2_with fail
      go_ret
      exact ⟨rfl, After.of_below HU.out.2.2.2 HBC.out⟩
    have hres := HRES.out
    rw [if_neg hd] at hres
    have hd' : D.dead = false := by simpa using hd
    rw [hd'] at c4
    clear HRES hd hd'
    have HRES := Aside0.mk hres
    clear hres
    go_wp2_with fail
    refine (disk_named.calls n (namedB n) wC (named_f n)).mono ?_
    rintro e wD ⟨rfl, hX⟩
    have hX := drawn_below19 hX
    have HBD := Aside0.mk (HBC.out.trans (hX.mono HBC.out.size))
    have HN9d := Aside0.mk ((hX.block _ (lt_of_heap HN9c.out)).trans HN9c.out)
    have HN12d := Aside0.mk ((hX.block _ (lt_of_heap HN12.out)).trans HN12.out)
    clear hX c0 c1 c2 c3 c4 HPC HN9c HN12 HBC
    obtain ⟨nb, hnb⟩ : ∃ x, namedB n = x := ⟨_, rfl⟩
    have HNB := Aside0.mk hnb
    rw [hnb]
    clear hnb
    cases nb with
    | false =>
      have hres := HRES.out
      rw [if_pos HNB.out] at hres
      obtain ⟨rfl, rfl⟩ := Prod.mk.inj hres
      clear hres HRES
      go_wp2_with fail
      go_ret
      exact ⟨rfl, After.of_below HU.out.2.2.2 HBD.out⟩
    | true =>
      have hres := HRES.out
      rw [if_neg (by rw [HNB.out]; decide)] at hres
      clear HRES
      have HRES := Aside0.mk hres
      clear hres
      have HPD := Aside0.mk (HP.out.below HBD.out)
      have hrm := HP.out.ok.room
      obtain ⟨⟨-, c1, -, -, -⟩, -⟩ := HPD.out.at
      obtain ⟨x0, -⟩ := two_cells HN9d.out
      obtain ⟨y0, -⟩ := two_cells HN12d.out
      have HT0 := Aside0.mk HU.out.2.2.1
      have hwl := HWM.out.2.2.2
      try simp only [List.length_nil] at hwl
      obtain ⟨T, hT⟩ : ∃ x, sumL D.fs = x := ⟨_, rfl⟩
      have HUSED := Aside0.mk (fun W (hW : Below w.heap.size w W) => wused (HP.out.below hW).disk)
      have HTE := Aside0.mk hT
      have hres := HRES.out
      have hput := HPUT.out
      have hT0 := HT0.out
      rw [hT] at hres hput hwl hT0 HUSED
      clear HRES HPUT
      have HRES := Aside0.mk hres
      have HPUT := Aside0.mk (hput HNB.out)
      clear hres hput hT HT0
      have bhw0 : -1000000 ≤ (((T : Nat) : Int) - (0 : Int) : Int) ∧ (((T : Nat) : Int) - (0 : Int) : Int) ≤ 1000000 ∧ (((T : Nat) : Int) - (0 : Int) : Int) = ((T : Nat) : Int) := by omega
      have bhv0 : -1000000 ≤ (((T : Nat) : Int) : Int) ∧ (((T : Nat) : Int) : Int) ≤ 1000000 ∧ (((T : Nat) : Int) : Int) = ((T : Nat) : Int) := by omega
      have bhw1 : -1000000 ≤ (((T : Nat) : Int) + (0 : Int) : Int) ∧ (((T : Nat) : Int) + (0 : Int) : Int) ≤ 1000000 ∧ (((T : Nat) : Int) + (0 : Int) : Int) = ((T : Nat) : Int) := by omega
      have bhv1 : -1000000 ≤ (((T : Nat) : Int) : Int) ∧ (((T : Nat) : Int) : Int) ≤ 1000000 ∧ (((T : Nat) : Int) : Int) = ((T : Nat) : Int) := by omega
      have bhw2 : -1000000 ≤ (((T : Nat) : Int) + ((b.length : Nat) : Int) : Int) ∧ (((T : Nat) : Int) + ((b.length : Nat) : Int) : Int) ≤ 1000000 ∧ (((T : Nat) : Int) + ((b.length : Nat) : Int) : Int) = ((T : Nat) : Int) + ((b.length : Nat) : Int) := by omega
      have hw0 := (wsmall _ bhw0.1 bhw0.2.1).trans bhw0.2.2
      have hwk0 := (wsmallk _ bhw0.1 bhw0.2.1).trans bhw0.2.2
      have hv0 := (wsmall _ bhv0.1 bhv0.2.1).trans bhv0.2.2
      have hvk0 := (wsmallk _ bhv0.1 bhv0.2.1).trans bhv0.2.2
      have hw1 := (wsmall _ bhw1.1 bhw1.2.1).trans bhw1.2.2
      have hwk1 := (wsmallk _ bhw1.1 bhw1.2.1).trans bhw1.2.2
      have hv1 := (wsmall _ bhv1.1 bhv1.2.1).trans bhv1.2.2
      have hvk1 := (wsmallk _ bhv1.1 bhv1.2.1).trans bhv1.2.2
      have hw2 := (wsmall _ bhw2.1 bhw2.2.1).trans bhw2.2.2
      have hwk2 := (wsmallk _ bhw2.1 bhw2.2.1).trans bhw2.2.2
      go_upto_region 10 with fail
      have HBDd := Aside0.mk (below_drew HBD.out)
      have HSc := Aside0.mk (show (wD.drew.cell? ⟨w.heap.size, 0, none⟩ = some (.slice none 0 0) ∧ wD.drew.cell? ⟨b2, 0, none⟩ = some (.slice none 0 0) ∧ wD.drew.cell? ⟨g, 1, none⟩ = some (.int .i64 D.room)) from ⟨x0, y0, c1⟩)
      have HLT := Aside0.mk (show w.heap.size < wD.drew.heap.size ∧ b2 < wD.drew.heap.size ∧ g < wD.drew.heap.size from ⟨lt_of_heap HN9d.out, lt_of_heap HN12d.out, HPD.out.bound g HPD.out.own⟩)
      have HN12e := Aside0.mk (show wD.drew.heap[b2]? = _ from HN12d.out)
      clear x0 y0 c1 HN9d HN12d HPD HBD
      refine wp_region_held_drew (S := (fun W => W.cell? ⟨w.heap.size, 0, none⟩ = some (.slice none 0 0) ∧ W.cell? ⟨b2, 0, none⟩ = some (.slice none 0 0) ∧ W.cell? ⟨g, 1, none⟩ = some (.int .i64 D.room))) (by kernel_rfl) HSc.out (fun hHeld => ?_)
      generalize wD.drew = wz at HBDd HSc HLT HN12e hHeld ⊢
      refine wpAnyH_take (i := 0) (oi := { dst := some 39, op := Op.move (Operand.tmp 0), type := 26, pos := "disk.go:91", after := #[], guard := none }) (v := ?_) rfl (by kernel_rfl) (by kernel_rfl) (by kernel_rfl) (fun _ _ _ h => h) (Or.inl ⟨by rfl, ?_⟩) (by assumption) ?_
      rotate_left
      · intro w hSw
        try dsimp only at hSw
        go_simp
        all_goals with_reducible rfl
      try simp only [Act.put, List.setIfInBounds_toArray, List.set_cons_zero, List.set_cons_succ]
      refine wpAnyH_take (i := 2) (oi := { dst := some 41, op := Op.fieldAddr 56 (Operand.tmp 9) 0, type := 0, pos := "disk.go:91", after := #[], guard := none }) (v := ?_) rfl (by kernel_rfl) (by kernel_rfl) (by kernel_rfl) (fun _ _ _ h => h) (Or.inl ⟨by rfl, ?_⟩) (by assumption) ?_
      rotate_left
      · intro w hSw
        try dsimp only at hSw
        go_simp
        all_goals with_reducible rfl
      try simp only [Act.put, List.setIfInBounds_toArray, List.set_cons_zero, List.set_cons_succ]
      refine wpAnyH_take (i := 3) (oi := { dst := some 42, op := Op.load 22 (Operand.tmp 41), type := 22, pos := "disk.go:91", after := #[{ on := 2, ground := Ground.data }], guard := none }) (v := ?_) rfl (by kernel_rfl) (by kernel_rfl) (by kernel_rfl) (fun _ _ _ h => h) (Or.inl ⟨by rfl, ?_⟩) (by assumption) ?_
      rotate_left
      · intro w hSw
        try dsimp only at hSw
        go_simp
        all_goals with_reducible rfl
      try simp only [Act.put, List.setIfInBounds_toArray, List.set_cons_zero, List.set_cons_succ]
      refine wpAnyH_take (i := 4) (oi := { dst := some 43, op := Op.call { callee := Callee.builtin Builtin.len, args := #[Operand.tmp 42], argTypes := #[22] }, type := 3, pos := "disk.go:91", after := #[{ on := 3, ground := Ground.data }], guard := none }) (v := ?_) rfl (by kernel_rfl) (by kernel_rfl) (by kernel_rfl) (fun _ _ _ h => h) (Or.inl ⟨by rfl, ?_⟩) (by assumption) ?_
      rotate_left
      · intro w hSw
        try dsimp only at hSw
        go_simp
        all_goals with_reducible rfl
      try simp only [Act.put, List.setIfInBounds_toArray, List.set_cons_zero, List.set_cons_succ]
      refine wpAnyH_take (i := 6) (oi := { dst := some 45, op := Op.fieldAddr 56 (Operand.tmp 12) 0, type := 0, pos := "disk.go:91", after := #[], guard := none }) (v := ?_) rfl (by kernel_rfl) (by kernel_rfl) (by kernel_rfl) (fun _ _ _ h => h) (Or.inl ⟨by rfl, ?_⟩) (by assumption) ?_
      rotate_left
      · intro w hSw
        try dsimp only at hSw
        go_simp
        all_goals with_reducible rfl
      try simp only [Act.put, List.setIfInBounds_toArray, List.set_cons_zero, List.set_cons_succ]
      refine wpAnyH_take (i := 7) (oi := { dst := some 46, op := Op.load 22 (Operand.tmp 45), type := 22, pos := "disk.go:91", after := #[{ on := 6, ground := Ground.data }], guard := none }) (v := ?_) rfl (by kernel_rfl) (by kernel_rfl) (by kernel_rfl) (fun _ _ _ h => h) (Or.inl ⟨by rfl, ?_⟩) (by assumption) ?_
      rotate_left
      · intro w hSw
        try dsimp only at hSw
        go_simp
        all_goals with_reducible rfl
      try simp only [Act.put, List.setIfInBounds_toArray, List.set_cons_zero, List.set_cons_succ]
      refine wpAnyH_take (i := 8) (oi := { dst := some 47, op := Op.call { callee := Callee.builtin Builtin.len, args := #[Operand.tmp 46], argTypes := #[22] }, type := 3, pos := "disk.go:91", after := #[{ on := 7, ground := Ground.data }], guard := none }) (v := ?_) rfl (by kernel_rfl) (by kernel_rfl) (by kernel_rfl) (fun _ _ _ h => h) (Or.inl ⟨by rfl, ?_⟩) (by assumption) ?_
      rotate_left
      · intro w hSw
        try dsimp only at hSw
        go_simp
        all_goals with_reducible rfl
      try simp only [Act.put, List.setIfInBounds_toArray, List.set_cons_zero, List.set_cons_succ]
      refine wpAnyH_take (i := 10) (oi := { dst := some 49, op := Op.move (Operand.tmp 2), type := 22, pos := "disk.go:91", after := #[], guard := none }) (v := ?_) rfl (by kernel_rfl) (by kernel_rfl) (by kernel_rfl) (fun _ _ _ h => h) (Or.inl ⟨by rfl, ?_⟩) (by assumption) ?_
      rotate_left
      · intro w hSw
        try dsimp only at hSw
        go_simp
        all_goals with_reducible rfl
      try simp only [Act.put, List.setIfInBounds_toArray, List.set_cons_zero, List.set_cons_succ]
      refine wpAnyH_take (i := 11) (oi := { dst := some 50, op := Op.call { callee := Callee.builtin Builtin.len, args := #[Operand.tmp 49], argTypes := #[22] }, type := 3, pos := "disk.go:91", after := #[{ on := 10, ground := Ground.data }], guard := none }) (v := ?_) rfl (by kernel_rfl) (by kernel_rfl) (by kernel_rfl) (fun _ _ _ h => h) (Or.inl ⟨by rfl, ?_⟩) (by assumption) ?_
      rotate_left
      · intro w hSw
        try dsimp only at hSw
        go_simp
        all_goals with_reducible rfl
      try simp only [Act.put, List.setIfInBounds_toArray, List.set_cons_zero, List.set_cons_succ]
      refine wpAnyH_take (i := 13) (oi := { dst := some 52, op := Op.move (Operand.tmp 0), type := 26, pos := "disk.go:91", after := #[], guard := none }) (v := ?_) rfl (by kernel_rfl) (by kernel_rfl) (by kernel_rfl) (fun _ _ _ h => h) (Or.inl ⟨by rfl, ?_⟩) (by assumption) ?_
      rotate_left
      · intro w hSw
        try dsimp only at hSw
        go_simp
        all_goals with_reducible rfl
      try simp only [Act.put, List.setIfInBounds_toArray, List.set_cons_zero, List.set_cons_succ]
      refine wpAnyH_take (i := 14) (oi := { dst := some 53, op := Op.nilCheck (Operand.tmp 52), type := 0, pos := "disk.go:91", after := #[{ on := 13, ground := Ground.data }], guard := none }) (v := ?_) rfl (by kernel_rfl) (by kernel_rfl) (by kernel_rfl) (fun _ _ _ h => h) (Or.inl ⟨by rfl, ?_⟩) (by assumption) ?_
      rotate_left
      · intro w hSw
        try dsimp only at hSw
        go_simp
        all_goals with_reducible rfl
      try simp only [Act.put, List.setIfInBounds_toArray, List.set_cons_zero, List.set_cons_succ]
      refine wpAnyH_take (i := 15) (oi := { dst := some 54, op := Op.fieldAddr 51 (Operand.tmp 53) 1, type := 0, pos := "disk.go:91", after := #[{ on := 14, ground := Ground.data }], guard := none }) (v := ?_) rfl (by kernel_rfl) (by kernel_rfl) (by kernel_rfl) (fun _ _ _ h => h) (Or.inl ⟨by rfl, ?_⟩) (by assumption) ?_
      rotate_left
      · intro w hSw
        try dsimp only at hSw
        go_simp
        all_goals with_reducible rfl
      try simp only [Act.put, List.setIfInBounds_toArray, List.set_cons_zero, List.set_cons_succ]
      refine wpAnyH_take (i := 16) (oi := { dst := some 55, op := Op.load 3 (Operand.tmp 54), type := 3, pos := "disk.go:91", after := #[{ on := 15, ground := Ground.data }], guard := none }) (v := ?_) rfl (by kernel_rfl) (by kernel_rfl) (by kernel_rfl) (fun _ _ _ h => h) (Or.inl ⟨by rfl, ?_⟩) (by assumption) ?_
      rotate_left
      · intro w hSw
        try dsimp only at hSw
        go_simp
        all_goals with_reducible rfl
      try simp only [Act.put, List.setIfInBounds_toArray, List.set_cons_zero, List.set_cons_succ]
      refine wpAnyH_ready (rs := [1]) (by kernel_rfl) (by simp) ?_
      refine AllReadyH.cons (o := { dst := some 40, op := Op.call { callee := Callee.value (Operand.func 45), args := #[Operand.tmp 39], argTypes := #[26] }, type := 3, pos := "disk.go:91", after := #[{ on := 0, ground := Ground.data }], guard := none }) rfl (fun K hK => ?_) AllReadyH.nil
      (go_simp; refine (HUSED.out wz HBDd.out).mono ?_; rintro e wx ⟨rfl, hX⟩; have HBX := Aside0.mk (HBDd.out.trans (hX.mono HBDd.out.size)); have HSd := HSc; clear HSc; have HSc := Aside0.mk (keep3 HSd.out (hX.cell HLT.out.1) (hX.cell HLT.out.2.1) (hX.cell HLT.out.2.2)); have HN12x := Aside0.mk ((hX.block _ (lt_of_heap HN12e.out)).trans HN12e.out); clear HSd hX HN12e; go_wp2_with fail)
      refine hK.out _ _ HSc.out (fun hHeld => ?_)
      clear hK K
      try simp only [Act.put, List.setIfInBounds_toArray, List.set_cons_zero, List.set_cons_succ]
      refine wpAnyH_take (i := 5) (oi := { dst := some 44, op := Op.binOp BinOp.sub 3 (Operand.tmp 40) (Operand.tmp 43) 3, type := 3, pos := "disk.go:91", after := #[{ on := 1, ground := Ground.data }, { on := 4, ground := Ground.data }], guard := none }) (v := ?_) rfl (by kernel_rfl) (by kernel_rfl) (by kernel_rfl) (fun _ _ _ h => h) (Or.inl ⟨by rfl, ?_⟩) (by assumption) ?_
      rotate_left
      · intro w hSw
        try dsimp only at hSw
        go_simp
        all_goals with_reducible rfl
      try simp only [Act.put, List.setIfInBounds_toArray, List.set_cons_zero, List.set_cons_succ]
      refine wpAnyH_take (i := 9) (oi := { dst := some 48, op := Op.binOp BinOp.add 3 (Operand.tmp 44) (Operand.tmp 47) 3, type := 3, pos := "disk.go:91", after := #[{ on := 5, ground := Ground.data }, { on := 8, ground := Ground.data }], guard := none }) (v := ?_) rfl (by kernel_rfl) (by kernel_rfl) (by kernel_rfl) (fun _ _ _ h => h) (Or.inl ⟨by rfl, ?_⟩) (by assumption) ?_
      rotate_left
      · intro w hSw
        try dsimp only at hSw
        go_simp
        all_goals with_reducible rfl
      try simp only [Act.put, List.setIfInBounds_toArray, List.set_cons_zero, List.set_cons_succ]
      refine wpAnyH_take (i := 12) (oi := { dst := some 51, op := Op.binOp BinOp.add 3 (Operand.tmp 48) (Operand.tmp 50) 3, type := 3, pos := "disk.go:91", after := #[{ on := 9, ground := Ground.data }, { on := 11, ground := Ground.data }], guard := none }) (v := ?_) rfl (by kernel_rfl) (by kernel_rfl) (by kernel_rfl) (fun _ _ _ h => h) (Or.inl ⟨by rfl, ?_⟩) (by assumption) ?_
      rotate_left
      · intro w hSw
        try dsimp only at hSw
        go_simp
        all_goals with_reducible rfl
      try simp only [Act.put, List.setIfInBounds_toArray, List.set_cons_zero, List.set_cons_succ]
      refine wpAnyH_take (i := 17) (oi := { dst := some 56, op := Op.binOp BinOp.gtr 3 (Operand.tmp 51) (Operand.tmp 55) 3, type := 4, pos := "disk.go:91", after := #[{ on := 12, ground := Ground.data }, { on := 16, ground := Ground.data }], guard := none }) (v := ?_) rfl (by kernel_rfl) (by kernel_rfl) (by kernel_rfl) (fun _ _ _ h => h) (Or.inl ⟨by rfl, ?_⟩) (by assumption) ?_
      rotate_left
      · intro w hSw
        try dsimp only at hSw
        go_simp
        all_goals with_reducible rfl
      try simp only [Act.put, List.setIfInBounds_toArray, List.set_cons_zero, List.set_cons_succ]
      refine wpAnyH_take (i := 18) (oi := { dst := some 38, op := Op.assign (Operand.tmp 56), type := 4, pos := "disk.go:91", after := #[{ on := 17, ground := Ground.data }, { on := 1, ground := Ground.chain }], guard := none }) (v := ?_) rfl (by kernel_rfl) (by kernel_rfl) (by kernel_rfl) (fun _ _ _ h => h) (Or.inl ⟨by rfl, ?_⟩) (by assumption) ?_
      rotate_left
      · intro w hSw
        try dsimp only at hSw
        go_simp
        all_goals with_reducible rfl
      try simp only [Act.put, List.setIfInBounds_toArray, List.set_cons_zero, List.set_cons_succ]
      refine wpAnyH_done (by kernel_rfl) ?_ _
      clear hw0 hwk0 bhw0 hv0 hvk0 bhv0 hw1 hwk1 bhw1 hv1 hvk1 bhv1 hw2 hwk2 bhw2
      by_cases hgt : D.room < ((T : Nat) : Int) + ((b.length : Nat) : Int)
      · have hres := HRES.out
        rw [if_pos (by (try simp only [List.length_nil, Int.ofNat_zero]); omega)] at hres
        obtain ⟨rfl, rfl⟩ := Prod.mk.inj hres
        clear hres HRES
        go_wp2_with fail
        go_ret
        exact ⟨rfl, After.of_below HU.out.2.2.2 HBX.out⟩
      · have hres := HRES.out
        rw [if_neg (by (try simp only [List.length_nil, Int.ofNat_zero]); omega)] at hres
        have hput := HPUT.out (by (try simp only [List.length_nil, Int.ofNat_zero]); omega)
        have HPW := Aside0.mk ((HP.out.below HBX.out).disk)
        have HWR := Aside0.mk (wwrite (n := n) HPW.out (named_size HNB.out) none 0 [] 0 Ab cb b (((HKH.out).below' HBX.out)) ((HB.out.below' HBX.out)) HU.out.2.1 (by (try simp only [List.length_nil] at hwl ⊢); omega) (by omega) hput)
        rw [hres] at HWR
        clear hres HRES hput
        obtain ⟨y0, y1⟩ := two_cells HN12x.out
        go_wp2_with fail
        refine HWR.out.mono ?_
        rintro e wE ⟨rfl, hA⟩
        have HA := Aside0.mk hA
        clear hA y0 y1
        go_wp2_with fail
        go_ret
        exact ⟨rfl, After.behind HBX.out HA.out⟩
  · skip
    go_upto_region 5 with fail
    clear hlk hg0 hp0 hp1
    have HB9 := Aside0.mk ((Below.refl w.heap.size w).alloc (Nat.le_refl _) (.cells #[.slice A kl.length c, .int .i64 ks] 56 (0, 0)))
    have HN9 := Aside0.mk (heap_alloc_new w (.cells #[.slice A kl.length c, .int .i64 ks] 56 (0, 0)))
    generalize w.alloc (.cells #[.slice A kl.length c, .int .i64 ks] 56 (0, 0)) = wA at HB9 HN9 ⊢
    obtain ⟨x0, x1⟩ := two_cells HN9.out
    go_wp2_with fail
    refine (wclo41 _ _ _ _ _).mono ?_
    rintro e wB ⟨rfl, hX⟩
    have HXB := Aside0.mk hX
    clear hX x0 x1
    go_upto_region 6 with fail
    have HBC := Aside0.mk ((HB9.out.trans (HXB.out.mono HB9.out.size)).alloc (Nat.le_trans HB9.out.size HXB.out.size) (.cells #[.slice A kl.length c, .int .i64 ks] 56 (0, 0)))
    have HN12 := Aside0.mk (heap_alloc_new wB (.cells #[.slice A kl.length c, .int .i64 ks] 56 (0, 0)))
    have HN9c := Aside0.mk (show (wB.alloc (.cells #[.slice A kl.length c, .int .i64 ks] 56 (0, 0))).heap[w.heap.size]? = some (.cells #[.slice A kl.length c, .int .i64 ks] 56 (0, 0)) from (Below.heap_alloc _ _ _ (Nat.lt_of_lt_of_le (lt_of_heap HN9.out) HXB.out.size)).trans ((HXB.out.block _ (lt_of_heap HN9.out)).trans HN9.out))
    obtain ⟨b2, hb2⟩ : ∃ x, wB.heap.size = x := ⟨_, rfl⟩
    rw [hb2] at HN12 ⊢
    generalize wB.alloc (.cells #[.slice A kl.length c, .int .i64 ks] 56 (0, 0)) = wC at HBC HN12 HN9c ⊢
    clear hb2 HXB HN9 HB9
    have HPC := Aside0.mk (HP.out.below HBC.out)
    obtain ⟨⟨c0, c1, c2, c3, c4⟩, -⟩ := HPC.out.at
    by_cases hd : D.dead = true
    · rw [hd] at c4
      have hres := HRES.out
      rw [if_pos hd] at hres
      obtain ⟨rfl, rfl⟩ := Prod.mk.inj hres
      clear hres HRES
      go_wp2_with fail
      go_ret
      exact ⟨rfl, After.of_below HU.out.2.2.2 HBC.out⟩
    have hres := HRES.out
    rw [if_neg hd] at hres
    have hd' : D.dead = false := by simpa using hd
    rw [hd'] at c4
    clear HRES hd hd'
    have HRES := Aside0.mk hres
    clear hres
    go_wp2_with fail
    refine (disk_named.calls n (namedB n) wC (named_f n)).mono ?_
    rintro e wD ⟨rfl, hX⟩
    have hX := drawn_below19 hX
    have HBD := Aside0.mk (HBC.out.trans (hX.mono HBC.out.size))
    have HN9d := Aside0.mk ((hX.block _ (lt_of_heap HN9c.out)).trans HN9c.out)
    have HN12d := Aside0.mk ((hX.block _ (lt_of_heap HN12.out)).trans HN12.out)
    clear hX c0 c1 c2 c3 c4 HPC HN9c HN12 HBC
    obtain ⟨nb, hnb⟩ : ∃ x, namedB n = x := ⟨_, rfl⟩
    have HNB := Aside0.mk hnb
    rw [hnb]
    clear hnb
    cases nb with
    | false =>
      have hres := HRES.out
      rw [if_pos HNB.out] at hres
      obtain ⟨rfl, rfl⟩ := Prod.mk.inj hres
      clear hres HRES
      go_wp2_with fail
      go_ret
      exact ⟨rfl, After.of_below HU.out.2.2.2 HBD.out⟩
    | true =>
      have hres := HRES.out
      rw [if_neg (by rw [HNB.out]; decide)] at hres
      clear HRES
      have HRES := Aside0.mk hres
      clear hres
      have HPD := Aside0.mk (HP.out.below HBD.out)
      have hrm := HP.out.ok.room
      obtain ⟨⟨-, c1, -, -, -⟩, -⟩ := HPD.out.at
      obtain ⟨x0, -⟩ := two_cells HN9d.out
      obtain ⟨y0, -⟩ := two_cells HN12d.out
      have HT0 := Aside0.mk HU.out.2.2.1
      have hwl := HWM.out.2.2.2
      try simp only [List.length_nil] at hwl
      obtain ⟨T, hT⟩ : ∃ x, sumL D.fs = x := ⟨_, rfl⟩
      have HUSED := Aside0.mk (fun W (hW : Below w.heap.size w W) => wused (HP.out.below hW).disk)
      have HTE := Aside0.mk hT
      have hres := HRES.out
      have hput := HPUT.out
      have hT0 := HT0.out
      rw [hT] at hres hput hwl hT0 HUSED
      clear HRES HPUT
      have HRES := Aside0.mk hres
      have HPUT := Aside0.mk (hput HNB.out)
      clear hres hput hT HT0
      have bhw0 : -1000000 ≤ (((T : Nat) : Int) - ((kl.length : Nat) : Int) : Int) ∧ (((T : Nat) : Int) - ((kl.length : Nat) : Int) : Int) ≤ 1000000 ∧ (((T : Nat) : Int) - ((kl.length : Nat) : Int) : Int) = ((T : Nat) : Int) - ((kl.length : Nat) : Int) := by omega
      have bhw1 : -1000000 ≤ (((T : Nat) : Int) - ((kl.length : Nat) : Int) + ((kl.length : Nat) : Int) : Int) ∧ (((T : Nat) : Int) - ((kl.length : Nat) : Int) + ((kl.length : Nat) : Int) : Int) ≤ 1000000 ∧ (((T : Nat) : Int) - ((kl.length : Nat) : Int) + ((kl.length : Nat) : Int) : Int) = ((T : Nat) : Int) := by omega
      have bhv1 : -1000000 ≤ (((T : Nat) : Int) : Int) ∧ (((T : Nat) : Int) : Int) ≤ 1000000 ∧ (((T : Nat) : Int) : Int) = ((T : Nat) : Int) := by omega
      have bhw2 : -1000000 ≤ (((T : Nat) : Int) + ((b.length : Nat) : Int) : Int) ∧ (((T : Nat) : Int) + ((b.length : Nat) : Int) : Int) ≤ 1000000 ∧ (((T : Nat) : Int) + ((b.length : Nat) : Int) : Int) = ((T : Nat) : Int) + ((b.length : Nat) : Int) := by omega
      have hw0 := (wsmall _ bhw0.1 bhw0.2.1).trans bhw0.2.2
      have hwk0 := (wsmallk _ bhw0.1 bhw0.2.1).trans bhw0.2.2
      have hw1 := (wsmall _ bhw1.1 bhw1.2.1).trans bhw1.2.2
      have hwk1 := (wsmallk _ bhw1.1 bhw1.2.1).trans bhw1.2.2
      have hv1 := (wsmall _ bhv1.1 bhv1.2.1).trans bhv1.2.2
      have hvk1 := (wsmallk _ bhv1.1 bhv1.2.1).trans bhv1.2.2
      have hw2 := (wsmall _ bhw2.1 bhw2.2.1).trans bhw2.2.2
      have hwk2 := (wsmallk _ bhw2.1 bhw2.2.1).trans bhw2.2.2
      go_upto_region 10 with fail
      have HBDd := Aside0.mk (below_drew HBD.out)
      have HSc := Aside0.mk (show (wD.drew.cell? ⟨w.heap.size, 0, none⟩ = some (.slice A kl.length c) ∧ wD.drew.cell? ⟨b2, 0, none⟩ = some (.slice A kl.length c) ∧ wD.drew.cell? ⟨g, 1, none⟩ = some (.int .i64 D.room)) from ⟨x0, y0, c1⟩)
      have HLT := Aside0.mk (show w.heap.size < wD.drew.heap.size ∧ b2 < wD.drew.heap.size ∧ g < wD.drew.heap.size from ⟨lt_of_heap HN9d.out, lt_of_heap HN12d.out, HPD.out.bound g HPD.out.own⟩)
      have HN12e := Aside0.mk (show wD.drew.heap[b2]? = _ from HN12d.out)
      clear x0 y0 c1 HN9d HN12d HPD HBD
      refine wp_region_held_drew (S := (fun W => W.cell? ⟨w.heap.size, 0, none⟩ = some (.slice A kl.length c) ∧ W.cell? ⟨b2, 0, none⟩ = some (.slice A kl.length c) ∧ W.cell? ⟨g, 1, none⟩ = some (.int .i64 D.room))) (by kernel_rfl) HSc.out (fun hHeld => ?_)
      generalize wD.drew = wz at HBDd HSc HLT HN12e hHeld ⊢
      refine wpAnyH_take (i := 0) (oi := { dst := some 39, op := Op.move (Operand.tmp 0), type := 26, pos := "disk.go:91", after := #[], guard := none }) (v := ?_) rfl (by kernel_rfl) (by kernel_rfl) (by kernel_rfl) (fun _ _ _ h => h) (Or.inl ⟨by rfl, ?_⟩) (by assumption) ?_
      rotate_left
      · intro w hSw
        try dsimp only at hSw
        go_simp
        all_goals with_reducible rfl
      try simp only [Act.put, List.setIfInBounds_toArray, List.set_cons_zero, List.set_cons_succ]
      refine wpAnyH_take (i := 2) (oi := { dst := some 41, op := Op.fieldAddr 56 (Operand.tmp 9) 0, type := 0, pos := "disk.go:91", after := #[], guard := none }) (v := ?_) rfl (by kernel_rfl) (by kernel_rfl) (by kernel_rfl) (fun _ _ _ h => h) (Or.inl ⟨by rfl, ?_⟩) (by assumption) ?_
      rotate_left
      · intro w hSw
        try dsimp only at hSw
        go_simp
        all_goals with_reducible rfl
      try simp only [Act.put, List.setIfInBounds_toArray, List.set_cons_zero, List.set_cons_succ]
      refine wpAnyH_take (i := 3) (oi := { dst := some 42, op := Op.load 22 (Operand.tmp 41), type := 22, pos := "disk.go:91", after := #[{ on := 2, ground := Ground.data }], guard := none }) (v := ?_) rfl (by kernel_rfl) (by kernel_rfl) (by kernel_rfl) (fun _ _ _ h => h) (Or.inl ⟨by rfl, ?_⟩) (by assumption) ?_
      rotate_left
      · intro w hSw
        try dsimp only at hSw
        go_simp
        all_goals with_reducible rfl
      try simp only [Act.put, List.setIfInBounds_toArray, List.set_cons_zero, List.set_cons_succ]
      refine wpAnyH_take (i := 4) (oi := { dst := some 43, op := Op.call { callee := Callee.builtin Builtin.len, args := #[Operand.tmp 42], argTypes := #[22] }, type := 3, pos := "disk.go:91", after := #[{ on := 3, ground := Ground.data }], guard := none }) (v := ?_) rfl (by kernel_rfl) (by kernel_rfl) (by kernel_rfl) (fun _ _ _ h => h) (Or.inl ⟨by rfl, ?_⟩) (by assumption) ?_
      rotate_left
      · intro w hSw
        try dsimp only at hSw
        go_simp
        all_goals with_reducible rfl
      try simp only [Act.put, List.setIfInBounds_toArray, List.set_cons_zero, List.set_cons_succ]
      refine wpAnyH_take (i := 6) (oi := { dst := some 45, op := Op.fieldAddr 56 (Operand.tmp 12) 0, type := 0, pos := "disk.go:91", after := #[], guard := none }) (v := ?_) rfl (by kernel_rfl) (by kernel_rfl) (by kernel_rfl) (fun _ _ _ h => h) (Or.inl ⟨by rfl, ?_⟩) (by assumption) ?_
      rotate_left
      · intro w hSw
        try dsimp only at hSw
        go_simp
        all_goals with_reducible rfl
      try simp only [Act.put, List.setIfInBounds_toArray, List.set_cons_zero, List.set_cons_succ]
      refine wpAnyH_take (i := 7) (oi := { dst := some 46, op := Op.load 22 (Operand.tmp 45), type := 22, pos := "disk.go:91", after := #[{ on := 6, ground := Ground.data }], guard := none }) (v := ?_) rfl (by kernel_rfl) (by kernel_rfl) (by kernel_rfl) (fun _ _ _ h => h) (Or.inl ⟨by rfl, ?_⟩) (by assumption) ?_
      rotate_left
      · intro w hSw
        try dsimp only at hSw
        go_simp
        all_goals with_reducible rfl
      try simp only [Act.put, List.setIfInBounds_toArray, List.set_cons_zero, List.set_cons_succ]
      refine wpAnyH_take (i := 8) (oi := { dst := some 47, op := Op.call { callee := Callee.builtin Builtin.len, args := #[Operand.tmp 46], argTypes := #[22] }, type := 3, pos := "disk.go:91", after := #[{ on := 7, ground := Ground.data }], guard := none }) (v := ?_) rfl (by kernel_rfl) (by kernel_rfl) (by kernel_rfl) (fun _ _ _ h => h) (Or.inl ⟨by rfl, ?_⟩) (by assumption) ?_
      rotate_left
      · intro w hSw
        try dsimp only at hSw
        go_simp
        all_goals with_reducible rfl
      try simp only [Act.put, List.setIfInBounds_toArray, List.set_cons_zero, List.set_cons_succ]
      refine wpAnyH_take (i := 10) (oi := { dst := some 49, op := Op.move (Operand.tmp 2), type := 22, pos := "disk.go:91", after := #[], guard := none }) (v := ?_) rfl (by kernel_rfl) (by kernel_rfl) (by kernel_rfl) (fun _ _ _ h => h) (Or.inl ⟨by rfl, ?_⟩) (by assumption) ?_
      rotate_left
      · intro w hSw
        try dsimp only at hSw
        go_simp
        all_goals with_reducible rfl
      try simp only [Act.put, List.setIfInBounds_toArray, List.set_cons_zero, List.set_cons_succ]
      refine wpAnyH_take (i := 11) (oi := { dst := some 50, op := Op.call { callee := Callee.builtin Builtin.len, args := #[Operand.tmp 49], argTypes := #[22] }, type := 3, pos := "disk.go:91", after := #[{ on := 10, ground := Ground.data }], guard := none }) (v := ?_) rfl (by kernel_rfl) (by kernel_rfl) (by kernel_rfl) (fun _ _ _ h => h) (Or.inl ⟨by rfl, ?_⟩) (by assumption) ?_
      rotate_left
      · intro w hSw
        try dsimp only at hSw
        go_simp
        all_goals with_reducible rfl
      try simp only [Act.put, List.setIfInBounds_toArray, List.set_cons_zero, List.set_cons_succ]
      refine wpAnyH_take (i := 13) (oi := { dst := some 52, op := Op.move (Operand.tmp 0), type := 26, pos := "disk.go:91", after := #[], guard := none }) (v := ?_) rfl (by kernel_rfl) (by kernel_rfl) (by kernel_rfl) (fun _ _ _ h => h) (Or.inl ⟨by rfl, ?_⟩) (by assumption) ?_
      rotate_left
      · intro w hSw
        try dsimp only at hSw
        go_simp
        all_goals with_reducible rfl
      try simp only [Act.put, List.setIfInBounds_toArray, List.set_cons_zero, List.set_cons_succ]
      refine wpAnyH_take (i := 14) (oi := { dst := some 53, op := Op.nilCheck (Operand.tmp 52), type := 0, pos := "disk.go:91", after := #[{ on := 13, ground := Ground.data }], guard := none }) (v := ?_) rfl (by kernel_rfl) (by kernel_rfl) (by kernel_rfl) (fun _ _ _ h => h) (Or.inl ⟨by rfl, ?_⟩) (by assumption) ?_
      rotate_left
      · intro w hSw
        try dsimp only at hSw
        go_simp
        all_goals with_reducible rfl
      try simp only [Act.put, List.setIfInBounds_toArray, List.set_cons_zero, List.set_cons_succ]
      refine wpAnyH_take (i := 15) (oi := { dst := some 54, op := Op.fieldAddr 51 (Operand.tmp 53) 1, type := 0, pos := "disk.go:91", after := #[{ on := 14, ground := Ground.data }], guard := none }) (v := ?_) rfl (by kernel_rfl) (by kernel_rfl) (by kernel_rfl) (fun _ _ _ h => h) (Or.inl ⟨by rfl, ?_⟩) (by assumption) ?_
      rotate_left
      · intro w hSw
        try dsimp only at hSw
        go_simp
        all_goals with_reducible rfl
      try simp only [Act.put, List.setIfInBounds_toArray, List.set_cons_zero, List.set_cons_succ]
      refine wpAnyH_take (i := 16) (oi := { dst := some 55, op := Op.load 3 (Operand.tmp 54), type := 3, pos := "disk.go:91", after := #[{ on := 15, ground := Ground.data }], guard := none }) (v := ?_) rfl (by kernel_rfl) (by kernel_rfl) (by kernel_rfl) (fun _ _ _ h => h) (Or.inl ⟨by rfl, ?_⟩) (by assumption) ?_
      rotate_left
      · intro w hSw
        try dsimp only at hSw
        go_simp
        all_goals with_reducible rfl
      try simp only [Act.put, List.setIfInBounds_toArray, List.set_cons_zero, List.set_cons_succ]
      refine wpAnyH_ready (rs := [1]) (by kernel_rfl) (by simp) ?_
      refine AllReadyH.cons (o := { dst := some 40, op := Op.call { callee := Callee.value (Operand.func 45), args := #[Operand.tmp 39], argTypes := #[26] }, type := 3, pos := "disk.go:91", after := #[{ on := 0, ground := Ground.data }], guard := none }) rfl (fun K hK => ?_) AllReadyH.nil
      (go_simp; refine (HUSED.out wz HBDd.out).mono ?_; rintro e wx ⟨rfl, hX⟩; have HBX := Aside0.mk (HBDd.out.trans (hX.mono HBDd.out.size)); have HSd := HSc; clear HSc; have HSc := Aside0.mk (keep3 HSd.out (hX.cell HLT.out.1) (hX.cell HLT.out.2.1) (hX.cell HLT.out.2.2)); have HN12x := Aside0.mk ((hX.block _ (lt_of_heap HN12e.out)).trans HN12e.out); clear HSd hX HN12e; go_wp2_with fail)
      refine hK.out _ _ HSc.out (fun hHeld => ?_)
      clear hK K
      try simp only [Act.put, List.setIfInBounds_toArray, List.set_cons_zero, List.set_cons_succ]
      refine wpAnyH_take (i := 5) (oi := { dst := some 44, op := Op.binOp BinOp.sub 3 (Operand.tmp 40) (Operand.tmp 43) 3, type := 3, pos := "disk.go:91", after := #[{ on := 1, ground := Ground.data }, { on := 4, ground := Ground.data }], guard := none }) (v := ?_) rfl (by kernel_rfl) (by kernel_rfl) (by kernel_rfl) (fun _ _ _ h => h) (Or.inl ⟨by rfl, ?_⟩) (by assumption) ?_
      rotate_left
      · intro w hSw
        try dsimp only at hSw
        go_simp
        all_goals with_reducible rfl
      try simp only [Act.put, List.setIfInBounds_toArray, List.set_cons_zero, List.set_cons_succ]
      refine wpAnyH_take (i := 9) (oi := { dst := some 48, op := Op.binOp BinOp.add 3 (Operand.tmp 44) (Operand.tmp 47) 3, type := 3, pos := "disk.go:91", after := #[{ on := 5, ground := Ground.data }, { on := 8, ground := Ground.data }], guard := none }) (v := ?_) rfl (by kernel_rfl) (by kernel_rfl) (by kernel_rfl) (fun _ _ _ h => h) (Or.inl ⟨by rfl, ?_⟩) (by assumption) ?_
      rotate_left
      · intro w hSw
        try dsimp only at hSw
        go_simp
        all_goals with_reducible rfl
      try simp only [Act.put, List.setIfInBounds_toArray, List.set_cons_zero, List.set_cons_succ]
      refine wpAnyH_take (i := 12) (oi := { dst := some 51, op := Op.binOp BinOp.add 3 (Operand.tmp 48) (Operand.tmp 50) 3, type := 3, pos := "disk.go:91", after := #[{ on := 9, ground := Ground.data }, { on := 11, ground := Ground.data }], guard := none }) (v := ?_) rfl (by kernel_rfl) (by kernel_rfl) (by kernel_rfl) (fun _ _ _ h => h) (Or.inl ⟨by rfl, ?_⟩) (by assumption) ?_
      rotate_left
      · intro w hSw
        try dsimp only at hSw
        go_simp
        all_goals with_reducible rfl
      try simp only [Act.put, List.setIfInBounds_toArray, List.set_cons_zero, List.set_cons_succ]
      refine wpAnyH_take (i := 17) (oi := { dst := some 56, op := Op.binOp BinOp.gtr 3 (Operand.tmp 51) (Operand.tmp 55) 3, type := 4, pos := "disk.go:91", after := #[{ on := 12, ground := Ground.data }, { on := 16, ground := Ground.data }], guard := none }) (v := ?_) rfl (by kernel_rfl) (by kernel_rfl) (by kernel_rfl) (fun _ _ _ h => h) (Or.inl ⟨by rfl, ?_⟩) (by assumption) ?_
      rotate_left
      · intro w hSw
        try dsimp only at hSw
        go_simp
        all_goals with_reducible rfl
      try simp only [Act.put, List.setIfInBounds_toArray, List.set_cons_zero, List.set_cons_succ]
      refine wpAnyH_take (i := 18) (oi := { dst := some 38, op := Op.assign (Operand.tmp 56), type := 4, pos := "disk.go:91", after := #[{ on := 17, ground := Ground.data }, { on := 1, ground := Ground.chain }], guard := none }) (v := ?_) rfl (by kernel_rfl) (by kernel_rfl) (by kernel_rfl) (fun _ _ _ h => h) (Or.inl ⟨by rfl, ?_⟩) (by assumption) ?_
      rotate_left
      · intro w hSw
        try dsimp only at hSw
        go_simp
        all_goals with_reducible rfl
      try simp only [Act.put, List.setIfInBounds_toArray, List.set_cons_zero, List.set_cons_succ]
      refine wpAnyH_done (by kernel_rfl) ?_ _
      clear hw0 hwk0 bhw0 hw1 hwk1 bhw1 hv1 hvk1 bhv1 hw2 hwk2 bhw2
      by_cases hgt : D.room < ((T : Nat) : Int) + ((b.length : Nat) : Int)
      · have hres := HRES.out
        rw [if_pos (by (try simp only [List.length_nil, Int.ofNat_zero]); omega)] at hres
        obtain ⟨rfl, rfl⟩ := Prod.mk.inj hres
        clear hres HRES
        go_wp2_with fail
        go_ret
        exact ⟨rfl, After.of_below HU.out.2.2.2 HBX.out⟩
      · have hres := HRES.out
        rw [if_neg (by (try simp only [List.length_nil, Int.ofNat_zero]); omega)] at hres
        have hput := HPUT.out (by (try simp only [List.length_nil, Int.ofNat_zero]); omega)
        have HPW := Aside0.mk ((HP.out.below HBX.out).disk)
        have HWR := Aside0.mk (wwrite (n := n) HPW.out (named_size HNB.out) A c kl ks Ab cb b (((HKH.out).below' HBX.out)) ((HB.out.below' HBX.out)) HU.out.2.1 (by (try simp only [List.length_nil] at hwl ⊢); omega) (by omega) hput)
        rw [hres] at HWR
        clear hres HRES hput
        obtain ⟨y0, y1⟩ := two_cells HN12x.out
        go_wp2_with fail
        refine HWR.out.mono ?_
        rintro e wE ⟨rfl, hA⟩
        have HA := Aside0.mk hA
        clear hA y0 y1
        go_wp2_with fail
        go_ret
        exact ⟨rfl, After.behind HBX.out HA.out⟩
end Go.Proofs.Ytcejkfjjildngaa
end

section
/- the disk: Write, Append; what is done to a file that is there: laws -/
set_option linter.unusedVariables false
set_option linter.unusedSimpArgs false
set_option autoImplicit false
namespace Go.Proofs.Ytcejkfjjildngaa
open Go Go.RowKit Go.Proofs.YtcejkfjjildngaaW.PrintWords Go.Proofs.YtcejkfjjildngaaW.PrintLast Go.Proofs.YtcejkfjjildngaaW.PrintMore Go.Proofs.Ytcejkfjjildngaa.G

theorem wWrite {S : Nat → Prop} {g : Nat} {D : DD} {w : World} (h : DiskR S w g D) (n : ByteArray) (hn : n.size ≤ 1000) (Ab : Option Addr) (cb : Nat) (b : List Int) (hb : HeldB w (fun k => k ≠ g ∧ k < w.heap.size) Ab b) (hcb : b.length ≤ cb) (hu : u8s b) (hlim : sumL D.fs + b.length ≤ 30000) :
    Calls Try.prog 12 #[.pointer (some ⟨g, 0, none⟩), .string n, .slice Ab b.length cb] w fun e w' => e = .returned (.int .i64 (D.lay n true b).1) ∧ After S w w' g (D.lay n true b).2 := by
  have HL := Aside0.mk (wlayWrite h n hn Ab cb b hb hcb hu hlim)
  obtain ⟨r, hr⟩ : ∃ r, D.lay n true b = r := ⟨_, rfl⟩
  rw [hr] at HL ⊢
  obtain ⟨re, rD⟩ := r
  clear hr h hb hu hlim hcb
  go_enter Try.func12, Try.ntmps12
  go_wp2_with fail
  refine HL.out.mono ?_
  rintro e w2 ⟨rfl, hA⟩
  have HA := Aside0.mk hA
  clear hA
  go_wp2_with fail
  go_ret
  exact ⟨rfl, HA.out⟩
theorem wAppend {S : Nat → Prop} {g : Nat} {D : DD} {w : World} (h : DiskR S w g D) (n : ByteArray) (hn : n.size ≤ 1000) (Ab : Option Addr) (cb : Nat) (b : List Int) (hb : HeldB w (fun k => k ≠ g ∧ k < w.heap.size) Ab b) (hcb : b.length ≤ cb) (hu : u8s b) (hlim : sumL D.fs + b.length ≤ 30000) :
    Calls Try.prog 23 #[.pointer (some ⟨g, 0, none⟩), .string n, .slice Ab b.length cb] w fun e w' => e = .returned (.int .i64 (D.lay n false b).1) ∧ After S w w' g (D.lay n false b).2 := by
  have HL := Aside0.mk (wlayAppend h n hn Ab cb b hb hcb hu hlim)
  obtain ⟨r, hr⟩ : ∃ r, D.lay n false b = r := ⟨_, rfl⟩
  rw [hr] at HL ⊢
  obtain ⟨re, rD⟩ := r
  clear hr h hb hu hlim hcb
  go_enter Try.func23, Try.ntmps23
  go_wp2_with fail
  refine HL.out.mono ?_
  rintro e w2 ⟨rfl, hA⟩
  have HA := Aside0.mk hA
  clear hA
  go_wp2_with fail
  go_ret
  exact ⟨rfl, HA.out⟩

/-! ### parts: fields, files -/
theorem Parts.gm {S : Nat → Prop} {w : World} {g : Nat} {D : DD} {m : Nat} {ps : List (FileV × Nat)} (h : Parts S w g D m ps) : g ≠ m := by
  rintro rfl
  obtain ⟨es, c, h7⟩ := h.map
  have := h.cells
  rw [h7.heap] at this
  cases this
theorem Parts.put {S : Nat → Prop} {w : World} {g : Nat} {D : DD} {m : Nat} {ps : List (FileV × Nat)} (h : Parts S w g D m ps) (D' : DD) (hf : D'.fs = D.fs) (hok : DDOk D') (j : Nat) (v : Value)
    (hc : (#[Value.map (some m), .int .i64 D.room, .bool D.dies, .int .i64 D.left, .bool D.dead].setIfInBounds j v) = #[.map (some m), .int .i64 D'.room, .bool D'.dies, .int .i64 D'.left, .bool D'.dead]) :
    Parts S (w.setCell ⟨g, j, none⟩ v) g D' m ps := by
  have hne := h.gm
  have h5 := h.cells
  refine ⟨hok, fun k hk => by simpa [World.setCell] using h.bound k hk, h.own, hf.trans h.fs, ?_, h.ownm, h.map.keep (Below.heap_setCell w _ _ m (fun e => hne e.symm)), h.apart, fun q hq => ?_⟩
  · rw [heap_setCell_same _ _ _ _ _ _ h5, hc]
  · obtain ⟨hp, v1, hp2, hp3⟩ := h.files q hq
    refine ⟨hp, v1, ?_, Kd.R_set hp3 h5 (by decide) j v⟩
    rw [Below.heap_setCell w _ _ q.2 (fun e => by
      have e : q.2 = g := e
      rw [e, h5] at hp2
      injection hp2 with hp2
      injection hp2 with _ hp2
      cases hp2)]
    exact hp2
theorem wspendP {S : Nat → Prop} {g : Nat} {D : DD} {w : World} {m : Nat} {ps : List (FileV × Nat)} (h : Parts S w g D m ps) (n : Int) (hn : 0 ≤ n) : Calls Try.prog 47 #[.pointer (some ⟨g, 0, none⟩), .int .i64 n] w fun e w' => e = .returned (.int .i64 (D.spend n).1) ∧ Parts S w' g (D.spend n).2 m ps ∧ Fr (fun k => k = g) w w' := by
  obtain ⟨⟨c0, c1, c2, c3, c4⟩, hfr⟩ := h.at
  have f3 := hfr 3
  have f4 := hfr 4
  have hl0 := h.ok.left0
  have hl1 := h.ok.left1
  have H := Aside0.mk h
  have hok := spend_ok h.ok n hn
  have hsp := spend_fs D n
  unfold DD.spend at hok hsp ⊢
  clear h hfr
  by_cases hd : D.dies = false
  case pos =>
    rw [if_pos hd]
    rw [hd] at c2
    clear hok hsp
    go_enter Try.func47, Try.ntmps47
    go_wp2_with fail
    go_ret
    exact ⟨rfl, H.out, Fr.refl _ _⟩
  have hd' : D.dies = true := by simpa using hd
  rw [if_neg hd] at hok hsp ⊢
  rw [hd'] at c2
  by_cases hlt : D.left < n
  case pos =>
    rw [if_pos hlt] at hok hsp ⊢
    have h1 := H.out.put { D with dead := true } rfl ⟨H.out.ok.files, H.out.ok.names, H.out.ok.total, H.out.ok.room, H.out.ok.left0, H.out.ok.left1⟩ 4 (.bool true) rfl
    have h2 := h1.put { D with left := 0, dead := true } rfl hok 3 (.int .i64 0) rfl
    have HF := Aside0.mk (And.intro h2 ((Fr.set (S := fun k => k = g) (w := w) rfl 4 (.bool true)).trans (Fr.set (S := fun k => k = g) rfl 3 (.int .i64 0)) (fun k hk => .inl hk)))
    have hz : wrap64 (D.left - D.left) = 0 := by unfold wrap64; omega
    have hgt : n > D.left := hlt
    clear h1 h2 hok hsp
    go_enter Try.func47, Try.ntmps47
    go_wp2_with fail
    go_ret
    exact ⟨rfl, HF.out⟩
  case neg =>
    rw [if_neg hlt] at hok hsp ⊢
    have h2 := H.out.put ⟨D.fs, D.room, true, D.left - n, D.dead⟩ rfl (by rw [hd'] at hok; exact hok) 3 (.int .i64 (D.left - n)) (by rw [hd']; rfl)
    have HF := Aside0.mk (And.intro h2 (Fr.set (S := fun k => k = g) (w := w) rfl 3 (.int .i64 (D.left - n))))
    have hz : wrap64 (D.left - n) = D.left - n := by unfold wrap64; omega
    have hgt : ¬ n > D.left := hlt
    clear h2 hok hsp
    go_enter Try.func47, Try.ntmps47
    go_wp2_with fail
    go_ret
    exact ⟨rfl, HF.out⟩
theorem Parts.after {S : Nat → Prop} {w w' : World} {g : Nat} {D : DD} {m : Nat} {ps : List (FileV × Nat)} (h : Parts S w' g D m ps) (hf : Fr S w w') : After S w w' g D := ⟨S, h.disk, hf, fun k hk => .inl hk⟩
theorem sum_set_le {f x : FileV} (hl : f.d.length ≤ x.d.length) : ∀ {l : List FileV} {j : Nat}, l[j]? = some x → sumL (l.set j f) ≤ sumL l := by
  intro l
  induction l with
  | nil => intro j h; simp at h
  | cons y l ih =>
    intro j h
    unfold sumL at ih ⊢
    cases j with
    | zero =>
      rw [List.getElem?_cons_zero] at h
      obtain rfl := Option.some.inj h
      rw [List.set_cons_zero, List.map_cons, List.map_cons, List.sum_cons, List.sum_cons]
      omega
    | succ j =>
      rw [List.getElem?_cons_succ] at h
      rw [List.set_cons_succ, List.map_cons, List.map_cons, List.sum_cons, List.sum_cons]
      have := ih h
      omega
/-- a file's block is turned -/
theorem Parts.setFile {S : Nat → Prop} {w w2 : World} {g : Nat} {D : DD} {m : Nat} {ps : List (FileV × Nat)} (h : Parts S w g D m ps) {j : Nat} {q : FileV × Nat} (hq : ps[j]? = some q) (hg : w.grownBy w2 (some q.2)) {f : FileV} (hn : f.n = q.1.n) {v : Value}
    (hc : w2.heap[q.2]? = some (.cells #[v, .int .i64 f.s] 56 (0, 0))) (hR : (Kd.int .u8).R 5 w 0 S v f.d) (hf : FileOk f) (hl : f.d.length ≤ q.1.d.length) :
    Parts S w2 g { D with fs := D.fs.set j f } m (ps.set j (f, q.2)) := by
  have hqm := List.mem_of_getElem? hq
  have hjl := (List.getElem?_eq_some_iff.1 hq).1
  obtain ⟨hSq, v0, hv0, _⟩ := h.files q hqm
  have hgq : g ≠ q.2 := fun e => by
    rw [← e, h.cells] at hv0
    injection hv0 with hv0
    injection hv0 with _ hv0
    cases hv0
  have hmq : m ≠ q.2 := fun e => by
    obtain ⟨es, c, hm⟩ := h.map
    rw [← e, hm.heap] at hv0
    cases hv0
  have hfs : D.fs[j]? = some q.1 := by rw [h.fs, List.getElem?_map, hq]; rfl
  have hsub : ∀ {v1 : Value} {d : List Int}, (Kd.int .u8).R 5 w 0 S v1 d → (Kd.int .u8).R 5 w2 0 S v1 d := fun hr =>
    Kd.R_mono (Kd.R_step (Kd.R_types hr hv0 (by decide)) (fun k hk hlt => hg.block k hlt (fun e => hk.2 (by cases e; rfl)))) (fun k hk => hk.1)
  refine ⟨⟨?_, ?_, ?_, h.ok.room, h.ok.left0, h.ok.left1⟩, fun k hk => Nat.lt_of_lt_of_le (h.bound k hk) hg.size, h.own, ?_, ?_, h.ownm, ?_, ?_, ?_⟩
  · intro y hy
    rcases List.mem_or_eq_of_mem_set hy with hy | rfl
    · exact h.ok.files y hy
    · exact hf
  · show ((D.fs.set j f).map FileV.n).Nodup
    rw [List.map_set, hn]
    have e : (D.fs.map FileV.n).set j q.1.n = D.fs.map FileV.n := by
      refine List.ext_getElem? fun i => ?_
      rw [List.getElem?_set]
      split
      · rename_i hi
        subst hi
        rw [List.getElem?_map, hfs]
        simp
        have := (List.getElem?_eq_some_iff.1 hfs).1
        omega
      · rfl
    rw [e]
    exact h.ok.names
  · have h1 : sumL (D.fs.set j f) ≤ sumL D.fs := sum_set_le hl hfs
    have := h.ok.total
    show ((sumL (D.fs.set j f) : Nat) : Int) ≤ D.room
    omega
  · show D.fs.set j f = _
    rw [h.fs, List.map_set]
  · exact (hg.block g (h.bound g h.own) (fun e => hgq (by cases e; rfl))).trans h.cells
  · have e : entsOf (ps.set j (f, q.2)) = entsOf ps := by
      unfold entsOf
      rw [List.map_set]
      refine List.ext_getElem? fun i => ?_
      rw [List.getElem?_set]
      split
      · rename_i hi
        subst hi
        rw [List.getElem?_map, hq]
        simp [hn, hjl]
      · rfl
    rw [e]
    exact h.map.keep (hg.block m h.map.lt (fun e => hmq (by cases e; rfl)))
  · rw [List.map_set]
    have e : (ps.map Prod.snd).set j q.2 = ps.map Prod.snd := by
      refine List.ext_getElem? fun i => ?_
      rw [List.getElem?_set]
      split
      · rename_i hi
        subst hi
        rw [List.getElem?_map, hq]
        simp [hjl]
      · rfl
    rw [e]
    exact h.apart
  · intro y hy
    obtain ⟨i, hi⟩ := List.getElem?_of_mem hy
    rw [List.getElem?_set] at hi
    split at hi
    · rename_i hji
      first
      | (rw [← Option.some.inj hi]; exact ⟨hSq, v, hc, hsub hR⟩)
      | (rw [if_pos hjl] at hi; rw [← Option.some.inj hi]; exact ⟨hSq, v, hc, hsub hR⟩)
    · rename_i hji
      obtain ⟨hSy, vy, hvy, hRy⟩ := h.files y (List.mem_of_getElem? hi)
      have hne : y.2 ≠ q.2 := by
        intro e
        have h1 : (ps.map Prod.snd)[i]? = some q.2 := by rw [List.getElem?_map, hi]; simp [e]
        have h2 : (ps.map Prod.snd)[j]? = some q.2 := by rw [List.getElem?_map, hq]; rfl
        obtain ⟨a1, b1⟩ := List.getElem?_eq_some_iff.1 h1
        obtain ⟨a2, b2⟩ := List.getElem?_eq_some_iff.1 h2
        have hp := List.pairwise_iff_getElem.1 h.apart
        rcases Nat.lt_or_gt_of_ne hji with hlt | hlt
        · exact hp j i a2 a1 hlt (by rw [b1, b2])
        · exact hp i j a1 a2 hlt (by rw [b1, b2])
      exact ⟨hSy, vy, (hg.block y.2 (lt_of_heap hvy) (fun e => hne (Option.some.inj e))).trans hvy, hsub hRy⟩
end Go.Proofs.Ytcejkfjjildngaa
end

section
/- the disk: Sync, Remove, Rename, walked -/
set_option linter.unusedVariables false
set_option linter.unusedSimpArgs false
set_option autoImplicit false
namespace Go.Proofs.Ytcejkfjjildngaa
open Go Go.RowKit Go.Proofs.YtcejkfjjildngaaW.PrintWords Go.Proofs.YtcejkfjjildngaaW.PrintLast Go.Proofs.YtcejkfjjildngaaW.PrintMore Go.Proofs.Ytcejkfjjildngaa.G

/-- d.files[name] = f, a file that is there -/
theorem Parts.relay {S : Nat → Prop} {w : World} {g : Nat} {D : DD} {m : Nat} {ps : List (FileV × Nat)} (h : Parts S w g D m ps) {f : FileV} {p : Nat} (hf : FileR S w f p) (hp : p ∉ ps.map Prod.snd) (hn : f.n.size ≤ 24) (hok : DDOk { D with fs := putF D.fs f }) :
    ∃ w3 ps', (Instr.mapUpdate 49 (.map (some m)) (.string f.n) (.pointer (some ⟨p, 0, none⟩))).run Try.prog w = .ok () w3 ∧ w.grownBy w3 (some m) ∧ Parts S w3 g { D with fs := putF D.fs f } m ps' := by
  obtain ⟨l, hl⟩ := key_S f.n (by simp only [maxLen]; omega)
  obtain ⟨w3, hrun, hg, hcase⟩ := h.map.update lawS Try.underlying49 hl (.pointer (some ⟨p, 0, none⟩))
  obtain ⟨es, c, hmE⟩ := h.map
  have hgm := h.gm
  have hkeep : ∀ {f : FileV} {p : Nat}, FileR S w f p → FileR S w3 f p := fun hq => hq.keepM hmE.heap (fun k _ hlt hne => hg.block k hlt (fun e => hne (Option.some.inj e)))
  have hcells : w3.heap[g]? = some (.cells #[.map (some m), .int .i64 D.room, .bool D.dies, .int .i64 D.left, .bool D.dead] 51 (0, 0)) :=
    (hg.block g (h.bound g h.own) (fun e => hgm (Option.some.inj e))).trans h.cells
  have hbd : ∀ k, S k → k < w3.heap.size := fun k hk => Nat.lt_of_lt_of_le (h.bound k hk) hg.size
  rcases hcase with ⟨h3, h4⟩ | ⟨j, v0, h3, h4⟩
  · refine ⟨w3, ps ++ [(f, p)], hrun, hg, hok, hbd, h.own, ?_, hcells, h.ownm, ?_, ?_, ?_⟩
    · show putF D.fs f = _
      rw [h.fs, List.map_append, putF_new]
      · rfl
      · intro x hx e
        obtain ⟨q, hq, rfl⟩ := List.mem_map.1 hx
        exact h3 (.string q.1.n, .pointer (some ⟨q.2, 0, none⟩)) (List.mem_map.2 ⟨q, hq, rfl⟩) (by rw [e])
    · unfold entsOf at h4 ⊢
      rw [List.map_append]
      exact h4
    · rw [List.map_append, List.nodup_append]
      refine ⟨h.apart, by simp, fun a ha b hb => ?_⟩
      rw [List.map_cons, List.map_nil, List.mem_singleton] at hb
      subst hb
      exact fun e => hp (e ▸ ha)
    · intro q hq
      rcases List.mem_append.1 hq with hq | hq
      · exact hkeep (h.files q hq)
      · rw [List.mem_singleton] at hq; subst hq; exact hkeep hf
  · obtain ⟨q0, hq0, e1, e2⟩ := ents_at h3
    injection e1 with e1
    refine ⟨w3, ps.set j (f, p), hrun, hg, hok, hbd, h.own, ?_, hcells, h.ownm, ?_, ?_, ?_⟩
    · show putF D.fs f = _
      rw [h.fs, List.map_set]
      exact putF_at h.names (by rw [List.getElem?_map, hq0]; rfl) e1.symm
    · unfold entsOf at h4 ⊢
      rw [List.map_set]
      exact h4
    · rw [List.map_set]
      exact nodup_set h.apart hp
    · intro q hq
      rcases List.mem_or_eq_of_mem_set hq with hq | rfl
      · exact hkeep (h.files q hq)
      · exact hkeep hf
theorem grown_set19 (w : World) (g j : Nat) (v : Value) : w.grownBy (w.setCell ⟨g, j, none⟩ v) (some g) :=
  ⟨rfl, rfl, rfl, by simp [World.setCell], fun k hk hne => Below.heap_setCell _ _ _ _ (fun e => hne (by rw [e]))⟩
theorem sumL_drop_mem {f : FileV} : ∀ {l : List FileV}, f ∈ l → sumL (dropF l f.n) + f.d.length ≤ sumL l := by
  intro l
  induction l with
  | nil => intro h; cases h
  | cons x l ih =>
    intro h
    have hs := sumL_drop f.n l
    unfold sumL dropF at ih hs ⊢
    by_cases hx : x.n = f.n
    · rw [List.filter_cons_of_neg (by simp [hx]), List.map_cons, List.sum_cons]
      rcases List.mem_cons.1 h with rfl | h
      · omega
      · have := ih h; omega
    · rw [List.filter_cons_of_pos (by simp [hx]), List.map_cons, List.map_cons, List.sum_cons, List.sum_cons]
      rcases List.mem_cons.1 h with rfl | h
      · exact absurd rfl hx
      · have := ih h; omega
theorem drop_put_ok {D : DD} (h : DDOk D) {f : FileV} (hf : f ∈ D.fs) {nt : ByteArray} (ht : nt.size ≤ 24) : DDOk { D with fs := putF (dropF D.fs f.n) ⟨nt, f.d, f.s⟩ } := by
  have hd : DDOk { D with fs := dropF D.fs f.n } := by
    have hsub : ∀ x ∈ dropF D.fs f.n, x ∈ D.fs := fun x hx => (List.mem_filter.1 hx).1
    refine ⟨fun f hf => h.files f (hsub f hf), ((List.filter_sublist (l := D.fs)).map _).nodup h.names, ?_, h.room, h.left0, h.left1⟩
    have h1 := sumL_drop f.n D.fs
    have := h.total
    show ((sumL (dropF D.fs f.n) : Nat) : Int) ≤ D.room
    omega
  have hfo := h.files f hf
  refine put_ok hd ⟨hfo.s0, hfo.s1, hfo.u8, ht⟩ ?_
  have h1 : sumL (dropF D.fs f.n) + f.d.length ≤ sumL D.fs := sumL_drop_mem hf
  have := h.total
  show ((sumL (dropF D.fs f.n) : Nat) : Int) - wasLen (dropF D.fs f.n) nt + f.d.length ≤ D.room
  omega
/-! ### the closures -/
theorem wclo29 {S : Nat → Prop} {g : Nat} {D : DD} {w : World} {m : Nat} {ps : List (FileV × Nat)} (h : Parts S w g D m ps) {j : Nat} {q : FileV × Nat} (hq : ps[j]? = some q) :
    Calls Try.prog 29 #[.pointer (some ⟨q.2, 0, none⟩)] w fun e w' => e = .returned (.tuple #[]) ∧ After S w w' g { D with fs := putF D.fs ⟨q.1.n, q.1.d, q.1.d.length⟩ } := by
  obtain ⟨hSq, v, hv, hR⟩ := h.files q (List.mem_of_getElem? hq)
  obtain ⟨A, c, rfl⟩ := Kd.R_slice hR
  have hfo := h.ok.files q.1 (by rw [h.fs]; exact List.mem_map.2 ⟨q, List.mem_of_getElem? hq, rfl⟩)
  have hP := h.setFile (f := ⟨q.1.n, q.1.d, q.1.d.length⟩) hq (grown_set19 w q.2 1 (.int .i64 (q.1.d.length : Int))) rfl (v := .slice A q.1.d.length c) (by rw [heap_setCell_same _ _ _ _ _ _ hv]; rfl) hR ⟨Int.natCast_nonneg _, Int.le_refl _, hfo.u8, hfo.n⟩ (Nat.le_refl _)
  have hput : putF D.fs ⟨q.1.n, q.1.d, q.1.d.length⟩ = D.fs.set j ⟨q.1.n, q.1.d, q.1.d.length⟩ := putF_at (x := q.1) h.ok.names (by rw [h.fs, List.getElem?_map, hq]; rfl) rfl
  rw [← hput] at hP
  have HA := Aside0.mk (hP.after (Fr.set hSq 1 _))
  obtain ⟨c0, c1⟩ := two_cells hv
  have f1 : w.frozen? ⟨q.2, 1, none⟩ = false := frozen_of_row _ _ _ _ _ hv
  clear hP hput hfo hR hv hSq h hq
  go_enter Try.func29, Try.ntmps29
  go_wp2_with fail
  go_end0
  exact ⟨rfl, HA.out⟩
set_option maxRecDepth 100000 in
set_option maxHeartbeats 4000000 in
theorem wclo44 {S : Nat → Prop} {g : Nat} {D : DD} {w : World} {m : Nat} {ps : List (FileV × Nat)} (h : Parts S w g D m ps) (p : Value) (n : ByteArray) (hn : n.size ≤ 1000) {b1 b2 : Nat} (hb1 : w.heap[b1]? = some (.cells #[.pointer (some ⟨g, 0, none⟩)] 26 (0, 0))) (hb2 : w.heap[b2]? = some (.cells #[.string n] 9 (0, 0))) :
    Calls Try.prog 44 #[p, .pointer (some ⟨b1, 0, none⟩), .pointer (some ⟨b2, 0, none⟩)] w fun e w' => e = .returned (.tuple #[]) ∧ After S w w' g { D with fs := dropF D.fs n } := by
  have HB1 := Aside0.mk hb1
  have HB2 := Aside0.mk hb2
  have hmne : b1 ≠ m ∧ b2 ≠ m := by
    obtain ⟨es, c, hm⟩ := h.map
    exact ⟨fun e => (by rw [e, hm.heap] at hb1; cases hb1), fun e => (by rw [e, hm.heap] at hb2; cases hb2)⟩
  have hP := h.below (below_drew (Below.refl w.heap.size w))
  obtain ⟨w3, ps', hrun, hg3, -, -, -, hP3⟩ := hP.delete 0 n (by simp only [maxLen]; omega)
  have hc1 : w.cell? ⟨b1, 0, none⟩ = some (.pointer (some ⟨g, 0, none⟩)) := by rw [cell_of_row _ _ _ _ _ _ hb1]; rfl
  have hc2 : w.cell? ⟨b2, 0, none⟩ = some (.string n) := by rw [cell_of_row _ _ _ _ _ _ hb2]; rfl
  have hc0 := h.at.1.1
  have HG3 := Aside0.mk hg3
  have HNE := Aside0.mk (And.intro hmne h.gm)
  have HP := Aside0.mk h
  have HA := Aside0.mk (hP3.after ((Fr.of_below (below_drew (Below.refl w.heap.size w))).trans (Fr.of_grown (S := S) hg3 (fun k hk => by cases hk; exact h.ownm)) (fun k hk => .inl hk)))
  clear hP3 hP hg3 hmne hb1 hb2 h
  go_enter Try.func44, Try.ntmps44
  go_upto_region 0 with fail
  have HSc := Aside0.mk (show (w.drew.cell? ⟨b1, 0, none⟩ = some (.pointer (some ⟨g, 0, none⟩)) ∧ w.drew.cell? ⟨g, 0, none⟩ = some (.map (some m)) ∧ w.drew.cell? ⟨b2, 0, none⟩ = some (.string n)) from ⟨hc1, hc0, hc2⟩)
  clear hc0 hc1 hc2
  refine wp_region_held_drew (S := (fun W => W.cell? ⟨b1, 0, none⟩ = some (.pointer (some ⟨g, 0, none⟩)) ∧ W.cell? ⟨g, 0, none⟩ = some (.map (some m)) ∧ W.cell? ⟨b2, 0, none⟩ = some (.string n))) (by kernel_rfl) HSc.out (fun hHeld => ?_)
  refine wpAnyH_take (i := 0) (oi := { dst := some 4, op := Op.load 26 (Operand.tmp 1), type := 26, pos := "disk.go:121", after := #[], guard := none }) (v := ?_) rfl (by kernel_rfl) (by kernel_rfl) (by kernel_rfl) (fun _ _ _ h => h) (Or.inl ⟨by rfl, ?_⟩) (by assumption) ?_
  rotate_left
  · intro w hSw
    try dsimp only at hSw
    go_simp
    all_goals with_reducible rfl
  try simp only [Act.put, List.setIfInBounds_toArray, List.set_cons_zero, List.set_cons_succ]
  refine wpAnyH_take (i := 1) (oi := { dst := some 5, op := Op.nilCheck (Operand.tmp 4), type := 0, pos := "disk.go:121", after := #[{ on := 0, ground := Ground.data }], guard := none }) (v := ?_) rfl (by kernel_rfl) (by kernel_rfl) (by kernel_rfl) (fun _ _ _ h => h) (Or.inl ⟨by rfl, ?_⟩) (by assumption) ?_
  rotate_left
  · intro w hSw
    try dsimp only at hSw
    go_simp
    all_goals with_reducible rfl
  try simp only [Act.put, List.setIfInBounds_toArray, List.set_cons_zero, List.set_cons_succ]
  refine wpAnyH_take (i := 2) (oi := { dst := some 6, op := Op.fieldAddr 51 (Operand.tmp 5) 0, type := 0, pos := "disk.go:121", after := #[{ on := 1, ground := Ground.data }], guard := none }) (v := ?_) rfl (by kernel_rfl) (by kernel_rfl) (by kernel_rfl) (fun _ _ _ h => h) (Or.inl ⟨by rfl, ?_⟩) (by assumption) ?_
  rotate_left
  · intro w hSw
    try dsimp only at hSw
    go_simp
    all_goals with_reducible rfl
  try simp only [Act.put, List.setIfInBounds_toArray, List.set_cons_zero, List.set_cons_succ]
  refine wpAnyH_take (i := 3) (oi := { dst := some 7, op := Op.load 49 (Operand.tmp 6), type := 49, pos := "disk.go:121", after := #[{ on := 2, ground := Ground.data }], guard := none }) (v := ?_) rfl (by kernel_rfl) (by kernel_rfl) (by kernel_rfl) (fun _ _ _ h => h) (Or.inl ⟨by rfl, ?_⟩) (by assumption) ?_
  rotate_left
  · intro w hSw
    try dsimp only at hSw
    go_simp
    all_goals with_reducible rfl
  try simp only [Act.put, List.setIfInBounds_toArray, List.set_cons_zero, List.set_cons_succ]
  refine wpAnyH_take (i := 4) (oi := { dst := some 8, op := Op.load 9 (Operand.tmp 2), type := 9, pos := "disk.go:121", after := #[], guard := none }) (v := ?_) rfl (by kernel_rfl) (by kernel_rfl) (by kernel_rfl) (fun _ _ _ h => h) (Or.inl ⟨by rfl, ?_⟩) (by assumption) ?_
  rotate_left
  · intro w hSw
    try dsimp only at hSw
    go_simp
    all_goals with_reducible rfl
  try simp only [Act.put, List.setIfInBounds_toArray, List.set_cons_zero, List.set_cons_succ]
  refine wpAnyH_ready (rs := [5]) (by kernel_rfl) (by simp) ?_
  refine AllReadyH.cons (o := { dst := none, op := Op.call { callee := Callee.builtin Builtin.delete, args := #[Operand.tmp 7, Operand.tmp 8], argTypes := #[49, 9] }, type := 0, pos := "disk.go:121", after := #[{ on := 3, ground := Ground.data }, { on := 4, ground := Ground.data }], guard := none }) rfl (fun K hK => ?_) AllReadyH.nil
  go_simp
  (have HSd := HSc; clear HSc; have HSc := Aside0.mk (keep3 HSd.out (World.cell?_of_block (HG3.out.block b1 (lt_of_heap HB1.out) (fun e => HNE.out.1.1 (Option.some.inj e)))) (World.cell?_of_block (HG3.out.block g (HP.out.bound g HP.out.own) (fun e => HNE.out.2 (Option.some.inj e)))) (World.cell?_of_block (HG3.out.block b2 (lt_of_heap HB2.out) (fun e => HNE.out.1.2 (Option.some.inj e))))); clear HSd; clear hrun)
  refine hK.out _ _ HSc.out (fun hHeld => ?_)
  clear hK K
  try simp only [Act.put, List.setIfInBounds_toArray, List.set_cons_zero, List.set_cons_succ]
  refine wpAnyH_done (by kernel_rfl) ?_ _
  go_wp2_with fail
  go_end0
  exact ⟨rfl, HA.out⟩
set_option maxRecDepth 100000 in
set_option maxHeartbeats 4000000 in
theorem wclo43 {S : Nat → Prop} {g : Nat} {D : DD} {w : World} {m : Nat} {ps : List (FileV × Nat)} (h : Parts S w g D m ps) {j : Nat} {q : FileV × Nat} (hq : ps[j]? = some q) (n : ByteArray) (hqn : q.1.n = n) (nt : ByteArray) (ht : nt.size ≤ 24) {b1 b2 b3 : Nat} (hb1 : w.heap[b1]? = some (.cells #[.pointer (some ⟨g, 0, none⟩)] 26 (0, 0))) (hb2 : w.heap[b2]? = some (.cells #[.string n] 9 (0, 0))) (hb3 : w.heap[b3]? = some (.cells #[.string nt] 9 (0, 0))) :
    Calls Try.prog 43 #[.pointer (some ⟨q.2, 0, none⟩), .pointer (some ⟨b1, 0, none⟩), .pointer (some ⟨b2, 0, none⟩), .pointer (some ⟨b3, 0, none⟩)] w fun e w' => e = .returned (.tuple #[]) ∧ After S w w' g { D with fs := putF (dropF D.fs n) ⟨nt, q.1.d, q.1.s⟩ } := by
  have HB1 := Aside0.mk hb1
  have HB2 := Aside0.mk hb2
  have hmne : b1 ≠ m ∧ b2 ≠ m := by
    obtain ⟨es, c, hm⟩ := h.map
    exact ⟨fun e => (by rw [e, hm.heap] at hb1; cases hb1), fun e => (by rw [e, hm.heap] at hb2; cases hb2)⟩
  have HB3 := Aside0.mk hb3
  have hmne3 : b3 ≠ m := by
    obtain ⟨es, c, hm⟩ := h.map
    exact fun e => (by rw [e, hm.heap] at hb3; cases hb3)
  have hqm := List.mem_of_getElem? hq
  have hnn : n.size ≤ maxLen := by
    have := (h.ok.files q.1 (by rw [h.fs]; exact List.mem_map.2 ⟨q, hqm, rfl⟩)).n
    rw [← hqn]
    simp only [maxLen]; omega
  have hP := h.below (below_drew (Below.refl w.heap.size w))
  obtain ⟨w3, ps', hrun, hg3, hs1, hs2, hs3, hP3⟩ := hP.delete 0 n hnn
  have hnot : q.2 ∉ ps'.map Prod.snd := by
    intro hm
    obtain ⟨q', hq', e⟩ := List.mem_map.1 hm
    have h1 := hs1 q' hq'
    have h2 : q' = q := by
      obtain ⟨i, hi⟩ := List.getElem?_of_mem h1
      have a1 : (ps.map Prod.snd)[i]? = some q.2 := by rw [List.getElem?_map, hi]; simp [e]
      have a2 : (ps.map Prod.snd)[j]? = some q.2 := by rw [List.getElem?_map, hq]; rfl
      obtain ⟨l1, v1⟩ := List.getElem?_eq_some_iff.1 a1
      obtain ⟨l2, v2⟩ := List.getElem?_eq_some_iff.1 a2
      have hp := List.pairwise_iff_getElem.1 h.apart
      rcases Nat.lt_trichotomy i j with hlt | hlt | hlt
      · exact absurd (by rw [v1, v2]) (hp i j l1 l2 hlt)
      · subst hlt; rw [hq] at hi; exact (Option.some.inj hi).symm
      · exact absurd (by rw [v1, v2]) (hp j i l2 l1 hlt)
    subst h2
    have h3 : q'.1 ∈ dropF (ps.map Prod.fst) n := by rw [← hs3]; exact List.mem_map.2 ⟨q', hq', rfl⟩
    have h4 := (List.mem_filter.1 h3).2
    rw [hqn] at h4
    simp at h4
  obtain ⟨es0, c0, hmE⟩ := h.map
  have hfq : FileR S w3.drew ⟨nt, q.1.d, q.1.s⟩ q.2 := by
    have h1 : FileR S w3 q.1 q.2 := (h.files q hqm).keepM hmE.heap (fun k _ hlt hne => hg3.block k hlt (fun e => hne (Option.some.inj e)))
    exact h1.keep (fun k _ _ => rfl)
  have hP4 := hP3.below (below_drew (Below.refl w3.heap.size w3))
  have hmemq : q.1 ∈ D.fs := by rw [h.fs]; exact List.mem_map.2 ⟨q, hqm, rfl⟩
  have hok := drop_put_ok h.ok hmemq ht
  rw [hqn] at hok
  obtain ⟨w5, ps5, hrun5, hg5, hP5⟩ := hP4.relay (f := ⟨nt, q.1.d, q.1.s⟩) hfq hnot ht hok
  have hc1 : w.cell? ⟨b1, 0, none⟩ = some (.pointer (some ⟨g, 0, none⟩)) := by rw [cell_of_row _ _ _ _ _ _ hb1]; rfl
  have hc2 : w.cell? ⟨b2, 0, none⟩ = some (.string n) := by rw [cell_of_row _ _ _ _ _ _ hb2]; rfl
  have hc0 := h.at.1.1
  have HG3 := Aside0.mk hg3
  have HG5 := Aside0.mk hg5
  have HNE := Aside0.mk (And.intro hmne h.gm)
  have HNE3 := Aside0.mk hmne3
  have HP := Aside0.mk h
  have HP3 := Aside0.mk hP3
  have HRUN5 := Aside0.mk hrun5
  have hc3 : w3.cell? ⟨b3, 0, none⟩ = some (.string nt) := by rw [World.cell?_of_block (hg3.block b3 (lt_of_heap hb3) (fun e => hmne3 (Option.some.inj e)))]; exact (cell_of_row _ _ _ _ _ _ hb3).trans rfl
  have HC3 := Aside0.mk hc3
  have HA := Aside0.mk (hP5.after (((Fr.of_below (below_drew (Below.refl w.heap.size w))).trans (Fr.of_grown (S := S) hg3 (fun k hk => by cases hk; exact h.ownm)) (fun k hk => .inl hk)).trans ((Fr.of_below (below_drew (Below.refl w3.heap.size w3))).trans (Fr.of_grown (S := S) hg5 (fun k hk => by cases hk; exact h.ownm)) (fun k hk => .inl hk)) (fun k hk => .inl hk)))
  clear hP5 hP4 hP3 hP hg3 hg5 hmne hmne3 hb1 hb2 hb3 h hfq hok hmemq hnot hs1 hs2 hs3 hmE hqm hq hc3 hrun5
  go_enter Try.func43, Try.ntmps43
  go_upto_region 0 with fail
  have HSc := Aside0.mk (show (w.drew.cell? ⟨b1, 0, none⟩ = some (.pointer (some ⟨g, 0, none⟩)) ∧ w.drew.cell? ⟨g, 0, none⟩ = some (.map (some m)) ∧ w.drew.cell? ⟨b2, 0, none⟩ = some (.string n)) from ⟨hc1, hc0, hc2⟩)
  clear hc0 hc1 hc2
  refine wp_region_held_drew (S := (fun W => W.cell? ⟨b1, 0, none⟩ = some (.pointer (some ⟨g, 0, none⟩)) ∧ W.cell? ⟨g, 0, none⟩ = some (.map (some m)) ∧ W.cell? ⟨b2, 0, none⟩ = some (.string n))) (by kernel_rfl) HSc.out (fun hHeld => ?_)
  refine wpAnyH_take (i := 0) (oi := { dst := some 5, op := Op.load 26 (Operand.tmp 1), type := 26, pos := "disk.go:127", after := #[], guard := none }) (v := ?_) rfl (by kernel_rfl) (by kernel_rfl) (by kernel_rfl) (fun _ _ _ h => h) (Or.inl ⟨by rfl, ?_⟩) (by assumption) ?_
  rotate_left
  · intro w hSw
    try dsimp only at hSw
    go_simp
    all_goals with_reducible rfl
  try simp only [Act.put, List.setIfInBounds_toArray, List.set_cons_zero, List.set_cons_succ]
  refine wpAnyH_take (i := 1) (oi := { dst := some 6, op := Op.nilCheck (Operand.tmp 5), type := 0, pos := "disk.go:127", after := #[{ on := 0, ground := Ground.data }], guard := none }) (v := ?_) rfl (by kernel_rfl) (by kernel_rfl) (by kernel_rfl) (fun _ _ _ h => h) (Or.inl ⟨by rfl, ?_⟩) (by assumption) ?_
  rotate_left
  · intro w hSw
    try dsimp only at hSw
    go_simp
    all_goals with_reducible rfl
  try simp only [Act.put, List.setIfInBounds_toArray, List.set_cons_zero, List.set_cons_succ]
  refine wpAnyH_take (i := 2) (oi := { dst := some 7, op := Op.fieldAddr 51 (Operand.tmp 6) 0, type := 0, pos := "disk.go:127", after := #[{ on := 1, ground := Ground.data }], guard := none }) (v := ?_) rfl (by kernel_rfl) (by kernel_rfl) (by kernel_rfl) (fun _ _ _ h => h) (Or.inl ⟨by rfl, ?_⟩) (by assumption) ?_
  rotate_left
  · intro w hSw
    try dsimp only at hSw
    go_simp
    all_goals with_reducible rfl
  try simp only [Act.put, List.setIfInBounds_toArray, List.set_cons_zero, List.set_cons_succ]
  refine wpAnyH_take (i := 3) (oi := { dst := some 8, op := Op.load 49 (Operand.tmp 7), type := 49, pos := "disk.go:127", after := #[{ on := 2, ground := Ground.data }], guard := none }) (v := ?_) rfl (by kernel_rfl) (by kernel_rfl) (by kernel_rfl) (fun _ _ _ h => h) (Or.inl ⟨by rfl, ?_⟩) (by assumption) ?_
  rotate_left
  · intro w hSw
    try dsimp only at hSw
    go_simp
    all_goals with_reducible rfl
  try simp only [Act.put, List.setIfInBounds_toArray, List.set_cons_zero, List.set_cons_succ]
  refine wpAnyH_take (i := 4) (oi := { dst := some 9, op := Op.load 9 (Operand.tmp 2), type := 9, pos := "disk.go:127", after := #[], guard := none }) (v := ?_) rfl (by kernel_rfl) (by kernel_rfl) (by kernel_rfl) (fun _ _ _ h => h) (Or.inl ⟨by rfl, ?_⟩) (by assumption) ?_
  rotate_left
  · intro w hSw
    try dsimp only at hSw
    go_simp
    all_goals with_reducible rfl
  try simp only [Act.put, List.setIfInBounds_toArray, List.set_cons_zero, List.set_cons_succ]
  refine wpAnyH_ready (rs := [5]) (by kernel_rfl) (by simp) ?_
  refine AllReadyH.cons (o := { dst := none, op := Op.call { callee := Callee.builtin Builtin.delete, args := #[Operand.tmp 8, Operand.tmp 9], argTypes := #[49, 9] }, type := 0, pos := "disk.go:127", after := #[{ on := 3, ground := Ground.data }, { on := 4, ground := Ground.data }], guard := none }) rfl (fun K hK => ?_) AllReadyH.nil
  go_simp
  (have HSd := HSc; clear HSc; have HSc := Aside0.mk (keep3 HSd.out (World.cell?_of_block (HG3.out.block b1 (lt_of_heap HB1.out) (fun e => HNE.out.1.1 (Option.some.inj e)))) (World.cell?_of_block (HG3.out.block g (HP.out.bound g HP.out.own) (fun e => HNE.out.2 (Option.some.inj e)))) (World.cell?_of_block (HG3.out.block b2 (lt_of_heap HB2.out) (fun e => HNE.out.1.2 (Option.some.inj e))))); clear HSd; clear hrun)
  refine hK.out _ _ HSc.out (fun hHeld => ?_)
  clear hK K
  try simp only [Act.put, List.setIfInBounds_toArray, List.set_cons_zero, List.set_cons_succ]
  refine wpAnyH_done (by kernel_rfl) ?_ _
  go_upto_region 1 with fail
  have hrun5 := HRUN5.out
  have HSe := Aside0.mk (show (w3.drew.cell? ⟨b1, 0, none⟩ = some (.pointer (some ⟨g, 0, none⟩)) ∧ w3.drew.cell? ⟨g, 0, none⟩ = some (.map (some m)) ∧ w3.drew.cell? ⟨b3, 0, none⟩ = some (.string nt)) from ⟨HSc.out.1, HSc.out.2.1, HC3.out⟩)
  clear HSc HRUN5
  refine wp_region_held_drew (S := (fun W => W.cell? ⟨b1, 0, none⟩ = some (.pointer (some ⟨g, 0, none⟩)) ∧ W.cell? ⟨g, 0, none⟩ = some (.map (some m)) ∧ W.cell? ⟨b3, 0, none⟩ = some (.string nt))) (by kernel_rfl) HSe.out (fun hHeld => ?_)
  refine wpAnyH_take (i := 0) (oi := { dst := some 10, op := Op.load 26 (Operand.tmp 1), type := 26, pos := "disk.go:128", after := #[], guard := none }) (v := ?_) rfl (by kernel_rfl) (by kernel_rfl) (by kernel_rfl) (fun _ _ _ h => h) (Or.inl ⟨by rfl, ?_⟩) (by assumption) ?_
  rotate_left
  · intro w hSw
    try dsimp only at hSw
    go_simp
    all_goals with_reducible rfl
  try simp only [Act.put, List.setIfInBounds_toArray, List.set_cons_zero, List.set_cons_succ]
  refine wpAnyH_take (i := 1) (oi := { dst := some 11, op := Op.nilCheck (Operand.tmp 10), type := 0, pos := "disk.go:128", after := #[{ on := 0, ground := Ground.data }], guard := none }) (v := ?_) rfl (by kernel_rfl) (by kernel_rfl) (by kernel_rfl) (fun _ _ _ h => h) (Or.inl ⟨by rfl, ?_⟩) (by assumption) ?_
  rotate_left
  · intro w hSw
    try dsimp only at hSw
    go_simp
    all_goals with_reducible rfl
  try simp only [Act.put, List.setIfInBounds_toArray, List.set_cons_zero, List.set_cons_succ]
  refine wpAnyH_take (i := 2) (oi := { dst := some 12, op := Op.fieldAddr 51 (Operand.tmp 11) 0, type := 0, pos := "disk.go:128", after := #[{ on := 1, ground := Ground.data }], guard := none }) (v := ?_) rfl (by kernel_rfl) (by kernel_rfl) (by kernel_rfl) (fun _ _ _ h => h) (Or.inl ⟨by rfl, ?_⟩) (by assumption) ?_
  rotate_left
  · intro w hSw
    try dsimp only at hSw
    go_simp
    all_goals with_reducible rfl
  try simp only [Act.put, List.setIfInBounds_toArray, List.set_cons_zero, List.set_cons_succ]
  refine wpAnyH_take (i := 3) (oi := { dst := some 13, op := Op.load 49 (Operand.tmp 12), type := 49, pos := "disk.go:128", after := #[{ on := 2, ground := Ground.data }], guard := none }) (v := ?_) rfl (by kernel_rfl) (by kernel_rfl) (by kernel_rfl) (fun _ _ _ h => h) (Or.inl ⟨by rfl, ?_⟩) (by assumption) ?_
  rotate_left
  · intro w hSw
    try dsimp only at hSw
    go_simp
    all_goals with_reducible rfl
  try simp only [Act.put, List.setIfInBounds_toArray, List.set_cons_zero, List.set_cons_succ]
  refine wpAnyH_take (i := 4) (oi := { dst := some 14, op := Op.load 9 (Operand.tmp 3), type := 9, pos := "disk.go:128", after := #[], guard := none }) (v := ?_) rfl (by kernel_rfl) (by kernel_rfl) (by kernel_rfl) (fun _ _ _ h => h) (Or.inl ⟨by rfl, ?_⟩) (by assumption) ?_
  rotate_left
  · intro w hSw
    try dsimp only at hSw
    go_simp
    all_goals with_reducible rfl
  try simp only [Act.put, List.setIfInBounds_toArray, List.set_cons_zero, List.set_cons_succ]
  refine wpAnyH_take (i := 5) (oi := { dst := some 15, op := Op.move (Operand.tmp 0), type := 59, pos := "disk.go:128", after := #[], guard := none }) (v := ?_) rfl (by kernel_rfl) (by kernel_rfl) (by kernel_rfl) (fun _ _ _ h => h) (Or.inl ⟨by rfl, ?_⟩) (by assumption) ?_
  rotate_left
  · intro w hSw
    try dsimp only at hSw
    go_simp
    all_goals with_reducible rfl
  try simp only [Act.put, List.setIfInBounds_toArray, List.set_cons_zero, List.set_cons_succ]
  refine wpAnyH_ready (rs := [6]) (by kernel_rfl) (by simp) ?_
  refine AllReadyH.cons (o := { dst := none, op := Op.mapUpdate 49 (Operand.tmp 13) (Operand.tmp 14) (Operand.tmp 15), type := 0, pos := "disk.go:128", after := #[{ on := 3, ground := Ground.data }, { on := 4, ground := Ground.data }, { on := 5, ground := Ground.data }, { on := 0, ground := Ground.phase }, { on := 1, ground := Ground.phase }, { on := 2, ground := Ground.phase }, { on := 3, ground := Ground.phase }, { on := 4, ground := Ground.phase }, { on := 5, ground := Ground.phase }], guard := none }) rfl (fun K hK => ?_) AllReadyH.nil
  go_simp
  (have HSd := HSe; clear HSe; have HSe := Aside0.mk (keep3 HSd.out (World.cell?_of_block (HG5.out.block b1 (Nat.lt_of_lt_of_le (lt_of_heap HB1.out) HG3.out.size) (fun e => HNE.out.1.1 (Option.some.inj e)))) (World.cell?_of_block (HG5.out.block g (Nat.lt_of_lt_of_le (HP.out.bound g HP.out.own) HG3.out.size) (fun e => HNE.out.2 (Option.some.inj e)))) (World.cell?_of_block (HG5.out.block b3 (Nat.lt_of_lt_of_le (lt_of_heap HB3.out) HG3.out.size) (fun e => HNE3.out (Option.some.inj e))))); clear HSd hrun5)
  refine hK.out _ _ HSe.out (fun hHeld => ?_)
  clear hK K
  try simp only [Act.put, List.setIfInBounds_toArray, List.set_cons_zero, List.set_cons_succ]
  refine wpAnyH_done (by kernel_rfl) ?_ _
  go_wp2_with fail
  go_end0
  exact ⟨rfl, HA.out⟩
end Go.Proofs.Ytcejkfjjildngaa
end

section
/- the disk: Sync, Remove, Rename, walked -/
set_option linter.unusedVariables false
set_option linter.unusedSimpArgs false
set_option autoImplicit false
namespace Go.Proofs.Ytcejkfjjildngaa
open Go Go.RowKit Go.Proofs.YtcejkfjjildngaaW.PrintWords Go.Proofs.YtcejkfjjildngaaW.PrintLast Go.Proofs.YtcejkfjjildngaaW.PrintMore Go.Proofs.Ytcejkfjjildngaa.G

def DD.chg (D : DD) (n : ByteArray) (ok : Bool) (F : FileV → List FileV) : Int × DD :=
  if D.dead = true then (13, D) else match D.find n with
  | none => (7, D)
  | some f => if ok = false then (1, D) else if (D.spend 1).1 = 0 then (13, (D.spend 1).2) else (0, { (D.spend 1).2 with fs := F f })
def DD.sync (D : DD) (n : ByteArray) : Int × DD := D.chg n true fun f => putF D.fs ⟨f.n, f.d, f.d.length⟩
def DD.remove (D : DD) (n : ByteArray) : Int × DD := D.chg n true fun f => dropF D.fs n
def DD.rename (D : DD) (n nt : ByteArray) : Int × DD := D.chg n (namedB nt) fun f => putF (dropF D.fs n) ⟨nt, f.d, f.s⟩
theorem chg_dead {D : DD} {n : ByteArray} {ok : Bool} {F : FileV → List FileV} (h : D.dead = true) : D.chg n ok F = (13, D) := by unfold DD.chg; rw [if_pos h]
theorem chg_none {D : DD} {n : ByteArray} {ok : Bool} {F : FileV → List FileV} (h : ¬ D.dead = true) (hf : D.find n = none) : D.chg n ok F = (7, D) := by unfold DD.chg; rw [if_neg h, hf]
theorem chg_arg {D : DD} {n : ByteArray} {F : FileV → List FileV} {f : FileV} (h : ¬ D.dead = true) (hf : D.find n = some f) : D.chg n false F = (1, D) := by unfold DD.chg; rw [if_neg h, hf]; rfl
theorem chg_spent {D : DD} {n : ByteArray} {F : FileV → List FileV} {f : FileV} (h : ¬ D.dead = true) (hf : D.find n = some f) (hs : (D.spend 1).1 = 0) : D.chg n true F = (13, (D.spend 1).2) := by unfold DD.chg; rw [if_neg h, hf]; simp only [Bool.true_eq_false, if_false]; rw [if_pos hs]
theorem chg_done {D : DD} {n : ByteArray} {F : FileV → List FileV} {f : FileV} (h : ¬ D.dead = true) (hf : D.find n = some f) (hs : ¬ (D.spend 1).1 = 0) : D.chg n true F = (0, { (D.spend 1).2 with fs := F f }) := by unfold DD.chg; rw [if_neg h, hf]; simp only [Bool.true_eq_false, if_false]; rw [if_neg hs]
set_option maxRecDepth 100000 in
set_option maxHeartbeats 4000000 in
theorem wchange_sync {S : Nat → Prop} {g : Nat} {D : DD} {w : World} (h : DiskR S w g D) (n : ByteArray) (hn : n.size ≤ 1000) :
    Calls Try.prog 28 #[.pointer (some ⟨g, 0, none⟩), .string n, .bool (true), .func (.func 29) #[] #[]] w fun e w' => e = .returned (.int .i64 (D.sync n).1) ∧ After S w w' g (D.sync n).2 := by
  obtain ⟨m, ps, hP⟩ := h.parts
  obtain ⟨res, hres⟩ : ∃ r, D.sync n = r := ⟨_, rfl⟩
  rw [hres]
  unfold DD.sync at hres
  obtain ⟨re, rD⟩ := res
  have HRES := Aside0.mk hres
  simp only
  have hlk := look (S := S) hP.map hP.names n (by simp only [maxLen]; omega) true
  obtain ⟨⟨c0, c1, c2, c3, c4⟩, -⟩ := hP.at
  have HP := Aside0.mk hP
  clear hres h hP
  go_enter Try.func28, Try.ntmps28
  by_cases hd : D.dead = true
  · have hres := HRES.out
    rw [chg_dead hd] at hres
    obtain ⟨rfl, rfl⟩ := Prod.mk.inj hres
    rw [hd] at c4
    clear hres HRES
    rcases hlk with ⟨hlk, -⟩ | ⟨j, q, -, -, -, hlk⟩
    all_goals (go_wp2_with fail; go_ret; exact ⟨rfl, After.refl HP.out.disk⟩)
  have hd' : D.dead = false := by simpa using hd
  rw [hd'] at c4
  rcases hlk with ⟨hlk, hf⟩ | ⟨j, q, hq, hqn, hf, hlk⟩
  · have hres := HRES.out
    rw [chg_none hd (by unfold DD.find; rw [HP.out.fs]; exact hf)] at hres
    obtain ⟨rfl, rfl⟩ := Prod.mk.inj hres
    clear hres HRES hf hd hd'
    go_wp2_with fail
    go_ret
    exact ⟨rfl, After.refl HP.out.disk⟩
  have hfind : D.find n = some q.1 := by unfold DD.find; rw [HP.out.fs]; exact hf
  have HQ := Aside0.mk (And.intro hq hqn)
  have HD := Aside0.mk (And.intro hd hfind)
  clear hf hd hd' hfind hq hqn
  have HSP := Aside0.mk (wspendP HP.out 1 (by decide))
  have HSE := Aside0.mk (And.intro (spend_fs D 1).1 (show (D.spend 1).1 = (D.spend 1).1 from rfl))
  have hcd : (D.spend 1).1 = 0 → (re, rD) = (13, (D.spend 1).2) := fun hz => HRES.out.symm.trans (chg_spent HD.out.1 HD.out.2 hz)
  have hce : ¬ (D.spend 1).1 = 0 → (re, rD) = (0, { (D.spend 1).2 with fs := putF D.fs ⟨q.1.n, q.1.d, q.1.d.length⟩ }) := fun hz => HRES.out.symm.trans (chg_done HD.out.1 HD.out.2 hz)
  have HCD := Aside0.mk (And.intro hcd hce)
  clear hcd hce HRES
  obtain ⟨r1, hr⟩ : ∃ r, D.spend 1 = r := ⟨_, rfl⟩
  rw [hr] at HSP HSE HCD
  clear hr
  obtain ⟨n1, D1⟩ := r1
  simp only at HSP HSE HCD
  go_wp2_with fail
  refine HSP.out.mono ?_
  clear HSP
  rintro e w2 ⟨rfl, hP2, hF⟩
  have HP2 := Aside0.mk hP2
  have HF := Aside0.mk (hF.mono (S' := S) (fun k hk => by subst hk; exact hP2.own))
  have hne : ∀ {b : Nat} {cs : Array Value} {T : TypeId}, w.heap[b]? = some (.cells cs T (0, 0)) → T ≠ 51 → w2.heap[b]? = some (.cells cs T (0, 0)) := by
    intro b cs T hb hT
    rw [hF.block b (lt_of_heap hb) (fun e => hT (by
      rw [e, HP.out.cells] at hb
      injection hb with hb
      injection hb with _ hb
      exact hb.symm))]
    exact hb
  clear hP2 hF hne c0 c1 c2 c3 c4
  by_cases hz : n1 = 0
  · have hres := HCD.out.1 hz
    obtain ⟨rfl, rfl⟩ := Prod.mk.inj hres
    clear hres HCD
    subst hz
    go_wp2_with fail
    go_ret
    exact ⟨rfl, HP2.out.after HF.out⟩
  · have hres := HCD.out.2 hz
    obtain ⟨rfl, rfl⟩ := Prod.mk.inj hres
    clear hres HCD
    have HCL := Aside0.mk (wclo29 HP2.out HQ.out.1)
    rw [HSE.out.1] at HCL
    go_wp2_with fail
    refine HCL.out.mono ?_
    rintro e w3 ⟨rfl, hA⟩
    have HA := Aside0.mk hA
    clear hA HCL
    go_wp2_with fail
    go_ret
    exact ⟨rfl, After.trans HF.out (fun k hk => .inl hk) HA.out⟩
set_option maxRecDepth 100000 in
set_option maxHeartbeats 4000000 in
theorem wchange_remove {S : Nat → Prop} {g : Nat} {D : DD} {w : World} (h : DiskR S w g D) (n : ByteArray) (hn : n.size ≤ 1000) {b1 b2 : Nat} (hb1 : w.heap[b1]? = some (.cells #[.pointer (some ⟨g, 0, none⟩)] 26 (0, 0))) (hb2 : w.heap[b2]? = some (.cells #[.string n] 9 (0, 0))) :
    Calls Try.prog 28 #[.pointer (some ⟨g, 0, none⟩), .string n, .bool (true), .func (.func 44) #[] #[.pointer (some ⟨b1, 0, none⟩), .pointer (some ⟨b2, 0, none⟩)]] w fun e w' => e = .returned (.int .i64 (D.remove n).1) ∧ After S w w' g (D.remove n).2 := by
  obtain ⟨m, ps, hP⟩ := h.parts
  obtain ⟨res, hres⟩ : ∃ r, D.remove n = r := ⟨_, rfl⟩
  rw [hres]
  unfold DD.remove at hres
  obtain ⟨re, rD⟩ := res
  have HRES := Aside0.mk hres
  simp only
  have hlk := look (S := S) hP.map hP.names n (by simp only [maxLen]; omega) true
  obtain ⟨⟨c0, c1, c2, c3, c4⟩, -⟩ := hP.at
  have HP := Aside0.mk hP
  have HB1 := Aside0.mk hb1
  have HB2 := Aside0.mk hb2
  clear hres h hP hb1 hb2
  go_enter Try.func28, Try.ntmps28
  by_cases hd : D.dead = true
  · have hres := HRES.out
    rw [chg_dead hd] at hres
    obtain ⟨rfl, rfl⟩ := Prod.mk.inj hres
    rw [hd] at c4
    clear hres HRES
    rcases hlk with ⟨hlk, -⟩ | ⟨j, q, -, -, -, hlk⟩
    all_goals (go_wp2_with fail; go_ret; exact ⟨rfl, After.refl HP.out.disk⟩)
  have hd' : D.dead = false := by simpa using hd
  rw [hd'] at c4
  rcases hlk with ⟨hlk, hf⟩ | ⟨j, q, hq, hqn, hf, hlk⟩
  · have hres := HRES.out
    rw [chg_none hd (by unfold DD.find; rw [HP.out.fs]; exact hf)] at hres
    obtain ⟨rfl, rfl⟩ := Prod.mk.inj hres
    clear hres HRES hf hd hd'
    go_wp2_with fail
    go_ret
    exact ⟨rfl, After.refl HP.out.disk⟩
  have hfind : D.find n = some q.1 := by unfold DD.find; rw [HP.out.fs]; exact hf
  have HQ := Aside0.mk (And.intro hq hqn)
  have HD := Aside0.mk (And.intro hd hfind)
  clear hf hd hd' hfind hq hqn
  have HSP := Aside0.mk (wspendP HP.out 1 (by decide))
  have HSE := Aside0.mk (And.intro (spend_fs D 1).1 (show (D.spend 1).1 = (D.spend 1).1 from rfl))
  have hcd : (D.spend 1).1 = 0 → (re, rD) = (13, (D.spend 1).2) := fun hz => HRES.out.symm.trans (chg_spent HD.out.1 HD.out.2 hz)
  have hce : ¬ (D.spend 1).1 = 0 → (re, rD) = (0, { (D.spend 1).2 with fs := dropF D.fs n }) := fun hz => HRES.out.symm.trans (chg_done HD.out.1 HD.out.2 hz)
  have HCD := Aside0.mk (And.intro hcd hce)
  clear hcd hce HRES
  obtain ⟨r1, hr⟩ : ∃ r, D.spend 1 = r := ⟨_, rfl⟩
  rw [hr] at HSP HSE HCD
  clear hr
  obtain ⟨n1, D1⟩ := r1
  simp only at HSP HSE HCD
  go_wp2_with fail
  refine HSP.out.mono ?_
  clear HSP
  rintro e w2 ⟨rfl, hP2, hF⟩
  have HP2 := Aside0.mk hP2
  have HF := Aside0.mk (hF.mono (S' := S) (fun k hk => by subst hk; exact hP2.own))
  have hne : ∀ {b : Nat} {cs : Array Value} {T : TypeId}, w.heap[b]? = some (.cells cs T (0, 0)) → T ≠ 51 → w2.heap[b]? = some (.cells cs T (0, 0)) := by
    intro b cs T hb hT
    rw [hF.block b (lt_of_heap hb) (fun e => hT (by
      rw [e, HP.out.cells] at hb
      injection hb with hb
      injection hb with _ hb
      exact hb.symm))]
    exact hb
  have HB1e := Aside0.mk (hne HB1.out (by decide))
  have HB2e := Aside0.mk (hne HB2.out (by decide))
  clear hP2 hF hne c0 c1 c2 c3 c4
  by_cases hz : n1 = 0
  · have hres := HCD.out.1 hz
    obtain ⟨rfl, rfl⟩ := Prod.mk.inj hres
    clear hres HCD
    subst hz
    go_wp2_with fail
    go_ret
    exact ⟨rfl, HP2.out.after HF.out⟩
  · have hres := HCD.out.2 hz
    obtain ⟨rfl, rfl⟩ := Prod.mk.inj hres
    clear hres HCD
    have HCL := Aside0.mk (wclo44 HP2.out (.pointer (some ⟨q.2, 0, none⟩)) n hn HB1e.out HB2e.out)
    rw [HSE.out.1] at HCL
    go_wp2_with fail
    refine HCL.out.mono ?_
    rintro e w3 ⟨rfl, hA⟩
    have HA := Aside0.mk hA
    clear hA HCL
    go_wp2_with fail
    go_ret
    exact ⟨rfl, After.trans HF.out (fun k hk => .inl hk) HA.out⟩
set_option maxRecDepth 100000 in
set_option maxHeartbeats 4000000 in
theorem wchange_rename {S : Nat → Prop} {g : Nat} {D : DD} {w : World} (h : DiskR S w g D) (n : ByteArray) (hn : n.size ≤ 1000) (nt : ByteArray) {b1 b2 b3 : Nat} (hb1 : w.heap[b1]? = some (.cells #[.pointer (some ⟨g, 0, none⟩)] 26 (0, 0))) (hb2 : w.heap[b2]? = some (.cells #[.string n] 9 (0, 0))) (hb3 : w.heap[b3]? = some (.cells #[.string nt] 9 (0, 0))) :
    Calls Try.prog 28 #[.pointer (some ⟨g, 0, none⟩), .string n, .bool (namedB nt), .func (.func 43) #[] #[.pointer (some ⟨b1, 0, none⟩), .pointer (some ⟨b2, 0, none⟩), .pointer (some ⟨b3, 0, none⟩)]] w fun e w' => e = .returned (.int .i64 (D.rename n nt).1) ∧ After S w w' g (D.rename n nt).2 := by
  obtain ⟨m, ps, hP⟩ := h.parts
  obtain ⟨res, hres⟩ : ∃ r, D.rename n nt = r := ⟨_, rfl⟩
  rw [hres]
  unfold DD.rename at hres
  obtain ⟨re, rD⟩ := res
  have HRES := Aside0.mk hres
  simp only
  have hlk := look (S := S) hP.map hP.names n (by simp only [maxLen]; omega) true
  obtain ⟨⟨c0, c1, c2, c3, c4⟩, -⟩ := hP.at
  have HP := Aside0.mk hP
  have HB1 := Aside0.mk hb1
  have HB2 := Aside0.mk hb2
  have HB3 := Aside0.mk hb3
  clear hres h hP hb1 hb2 hb3
  obtain ⟨nb, hnb⟩ : ∃ x, namedB nt = x := ⟨_, rfl⟩
  have HNB := Aside0.mk hnb
  rw [hnb] at HRES ⊢
  clear hnb
  go_enter Try.func28, Try.ntmps28
  by_cases hd : D.dead = true
  · have hres := HRES.out
    rw [chg_dead hd] at hres
    obtain ⟨rfl, rfl⟩ := Prod.mk.inj hres
    rw [hd] at c4
    clear hres HRES
    rcases hlk with ⟨hlk, -⟩ | ⟨j, q, -, -, -, hlk⟩
    all_goals (go_wp2_with fail; go_ret; exact ⟨rfl, After.refl HP.out.disk⟩)
  have hd' : D.dead = false := by simpa using hd
  rw [hd'] at c4
  rcases hlk with ⟨hlk, hf⟩ | ⟨j, q, hq, hqn, hf, hlk⟩
  · have hres := HRES.out
    rw [chg_none hd (by unfold DD.find; rw [HP.out.fs]; exact hf)] at hres
    obtain ⟨rfl, rfl⟩ := Prod.mk.inj hres
    clear hres HRES hf hd hd'
    go_wp2_with fail
    go_ret
    exact ⟨rfl, After.refl HP.out.disk⟩
  have hfind : D.find n = some q.1 := by unfold DD.find; rw [HP.out.fs]; exact hf
  have HQ := Aside0.mk (And.intro hq hqn)
  have HD := Aside0.mk (And.intro hd hfind)
  clear hf hd hd' hfind hq hqn
  cases nb with
  | false =>
    have hres := HRES.out
    rw [chg_arg HD.out.1 HD.out.2] at hres
    obtain ⟨rfl, rfl⟩ := Prod.mk.inj hres
    clear hres HRES
    go_wp2_with fail
    go_ret
    exact ⟨rfl, After.refl HP.out.disk⟩
  | true =>
    have HSP := Aside0.mk (wspendP HP.out 1 (by decide))
    have HSE := Aside0.mk (And.intro (spend_fs D 1).1 (show (D.spend 1).1 = (D.spend 1).1 from rfl))
    have hcd : (D.spend 1).1 = 0 → (re, rD) = (13, (D.spend 1).2) := fun hz => HRES.out.symm.trans (chg_spent HD.out.1 HD.out.2 hz)
    have hce : ¬ (D.spend 1).1 = 0 → (re, rD) = (0, { (D.spend 1).2 with fs := putF (dropF D.fs n) ⟨nt, q.1.d, q.1.s⟩ }) := fun hz => HRES.out.symm.trans (chg_done HD.out.1 HD.out.2 hz)
    have HCD := Aside0.mk (And.intro hcd hce)
    clear hcd hce HRES
    obtain ⟨r1, hr⟩ : ∃ r, D.spend 1 = r := ⟨_, rfl⟩
    rw [hr] at HSP HSE HCD
    clear hr
    obtain ⟨n1, D1⟩ := r1
    simp only at HSP HSE HCD
    go_wp2_with fail
    refine HSP.out.mono ?_
    clear HSP
    rintro e w2 ⟨rfl, hP2, hF⟩
    have HP2 := Aside0.mk hP2
    have HF := Aside0.mk (hF.mono (S' := S) (fun k hk => by subst hk; exact hP2.own))
    have hne : ∀ {b : Nat} {cs : Array Value} {T : TypeId}, w.heap[b]? = some (.cells cs T (0, 0)) → T ≠ 51 → w2.heap[b]? = some (.cells cs T (0, 0)) := by
      intro b cs T hb hT
      rw [hF.block b (lt_of_heap hb) (fun e => hT (by
        rw [e, HP.out.cells] at hb
        injection hb with hb
        injection hb with _ hb
        exact hb.symm))]
      exact hb
    have HB1e := Aside0.mk (hne HB1.out (by decide))
    have HB2e := Aside0.mk (hne HB2.out (by decide))
    have HB3e := Aside0.mk (hne HB3.out (by decide))
    clear hP2 hF hne c0 c1 c2 c3 c4
    by_cases hz : n1 = 0
    · have hres := HCD.out.1 hz
      obtain ⟨rfl, rfl⟩ := Prod.mk.inj hres
      clear hres HCD
      subst hz
      go_wp2_with fail
      go_ret
      exact ⟨rfl, HP2.out.after HF.out⟩
    · have hres := HCD.out.2 hz
      obtain ⟨rfl, rfl⟩ := Prod.mk.inj hres
      clear hres HCD
      have HCL := Aside0.mk (wclo43 HP2.out HQ.out.1 n HQ.out.2 nt (named_size HNB.out) HB1e.out HB2e.out HB3e.out)
      rw [HSE.out.1] at HCL
      go_wp2_with fail
      refine HCL.out.mono ?_
      rintro e w3 ⟨rfl, hA⟩
      have HA := Aside0.mk hA
      clear hA HCL
      go_wp2_with fail
      go_ret
      exact ⟨rfl, After.trans HF.out (fun k hk => .inl hk) HA.out⟩
end Go.Proofs.Ytcejkfjjildngaa
end

section
-- Written by a program of this session (wip/tools/myprint.py), over the kit's print.
namespace Go.Proofs.Ytcejkfjjildngaa.G
open Go.RowKit Go.Proofs.YtcejkfjjildngaaW.PrintWords Go.Proofs.YtcejkfjjildngaaW.PrintLast Go.Proofs.YtcejkfjjildngaaW.PrintMore
attribute [local go_sem] max2_int min2_int max_two min_two max_three min_three max_four min_four   -- for this text's walks alone
set_option linter.unusedVariables false
set_option linter.unusedSimpArgs false

-- BY HAND
def slices_Clone_byte_byte.f (l0 : List Int) : Option (List Int) := if l0.length ≤ 140737488355328 then some l0 else none
set_option maxRecDepth 100000 in
set_option maxHeartbeats 400000 in
theorem slices_Clone_byte_byte.calls (A0 : Option Addr) (c0 : Nat) (l0 : List Int) (r : List Int) (w : World) (hr0 : Kd.C (Kd.int .u8) w A0 l0.length l0) (hc0 : l0.length ≤ c0) (h : slices_Clone_byte_byte.f l0 = some r) :
    Calls Try.prog 38 #[.slice A0 l0.length c0] w fun e w' => ∃ v0_ : Value, e = .returned (v0_) ∧ Kd.R (Kd.int .u8) 5 w' w.heap.size (fun _ => True) v0_ r ∧ Below w.heap.size w w' := by
  have hh := h
  clear h
  unfold slices_Clone_byte_byte.f at hh
  split at hh
  · rename_i hl
    obtain rfl := Option.some.inj hh
    clear hh
    have HR := Aside0.mk hr0
    clear hr0
    have heq := fun (W : World) (n c : Nat) => Lib.run_eql_slice_nil (P := Try.prog) W 22 5 A0 n c 0 0 Try.underlying22
    have hinfo : (Try.prog.info? 5).map (fun i => (i.zero, i.size, i.bytes)) = some (some (.int .u8 0), 1, 1) := by kernel_rfl
    have Hinfo := Aside0.mk hinfo
    clear hinfo
    cases A0 with
    | none =>
      have h0 : l0 = [] := by
        have h1 := HR.out.2.2
        cases l0 with
        | nil => rfl
        | cons x l => obtain ⟨ad, h2, _⟩ := h1 (by simp); cases h2
      subst h0
      go_enter Try.func38, Try.ntmps38
      go_wp2
      go_ret
      exact ⟨_, rfl, Kd.R_nil _ _ _ _ _, Below.refl _ _⟩
    | some ad =>
      go_enter Try.func38, Try.ntmps38
      go_wp2_with (at_builtin; refine Kd.R_append_rows (Kd.int .u8) (w0 := w) w.heap.size rfl (.tmp 5) (.tmp 6) 22 5 (.int .u8 0) 1 rfl Try.underlying22 Hinfo.out rfl (by decide) (by decide) (.slice (some ⟨w.heap.size, 0, none⟩) 0 0) [] l0 (some ad) l0.length c0 (fun _ => True) (fun _ => False) rfl rfl (kd_R (xs := []) (World.ownsRow_made w #[] 0 (Nat.le_refl _) (by decide) rfl)) (Kd.C_alloc HR.out _) (fun _ _ h => h) (fun _ h => h.elim) (fun _ _ => trivial) ((Below.refl _ _).alloc (Nat.le_refl _) _) (by simp) (by simpa using hl) ?_; intro v1 w1 HO1 hB1 _ _)
      go_ret
      exact ⟨v1, rfl, HO1, hB1⟩
  · cases hh

end Go.Proofs.Ytcejkfjjildngaa.G
end

section
/- the disk: Sync, Remove, Rename, Read -/
set_option linter.unusedVariables false
set_option linter.unusedSimpArgs false
set_option autoImplicit false
namespace Go.Proofs.Ytcejkfjjildngaa
open Go Go.RowKit Go.Proofs.YtcejkfjjildngaaW.PrintWords Go.Proofs.YtcejkfjjildngaaW.PrintLast Go.Proofs.YtcejkfjjildngaaW.PrintMore Go.Proofs.Ytcejkfjjildngaa.G

theorem wSync {S : Nat → Prop} {g : Nat} {D : DD} {w : World} (h : DiskR S w g D) (n : ByteArray) (hn : n.size ≤ 1000) :
    Calls Try.prog 13 #[.pointer (some ⟨g, 0, none⟩), .string n] w fun e w' => e = .returned (.int .i64 (D.sync n).1) ∧ After S w w' g (D.sync n).2 := by
  have HL := Aside0.mk (wchange_sync h n hn)
  obtain ⟨r, hr⟩ : ∃ r, D.sync n = r := ⟨_, rfl⟩
  rw [hr] at HL ⊢
  obtain ⟨re, rD⟩ := r
  clear hr h
  go_enter Try.func13, Try.ntmps13
  go_wp2_with fail
  refine HL.out.mono ?_
  rintro e w2 ⟨rfl, hA⟩
  have HA := Aside0.mk hA
  clear hA HL
  go_wp2_with fail
  go_ret
  exact ⟨rfl, HA.out⟩
theorem wRemove {S : Nat → Prop} {g : Nat} {D : DD} {w : World} (h : DiskR S w g D) (n : ByteArray) (hn : n.size ≤ 1000) :
    Calls Try.prog 25 #[.pointer (some ⟨g, 0, none⟩), .string n] w fun e w' => e = .returned (.int .i64 (D.remove n).1) ∧ After S w w' g (D.remove n).2 := by
  have HB := Aside0.mk (((Below.refl w.heap.size w).alloc (Nat.le_refl _) (.cells #[.pointer (some ⟨g, 0, none⟩)] 26 (0, 0))).alloc (by simp) (.cells #[.string n] 9 (0, 0)))
  have HL := Aside0.mk (wchange_remove (h.below HB.out) n hn (b1 := w.heap.size) (b2 := w.heap.size + 1) ((Below.heap_alloc _ _ _ (by simp)).trans (heap_alloc_new w _)) (by have := heap_alloc_new (w.alloc (.cells #[.pointer (some ⟨g, 0, none⟩)] 26 (0, 0))) (.cells #[.string n] 9 (0, 0)); rw [World.size_alloc] at this; exact this))
  obtain ⟨r, hr⟩ : ∃ r, D.remove n = r := ⟨_, rfl⟩
  rw [hr] at HL ⊢
  obtain ⟨re, rD⟩ := r
  clear hr h
  go_enter Try.func25, Try.ntmps25
  go_wp2_with fail
  refine HL.out.mono ?_
  rintro e w2 ⟨rfl, hA⟩
  have HA := Aside0.mk hA
  clear hA HL
  go_wp2_with fail
  go_ret
  exact ⟨rfl, After.behind HB.out HA.out⟩
set_option maxRecDepth 100000 in
set_option maxHeartbeats 4000000 in
theorem wRename {S : Nat → Prop} {g : Nat} {D : DD} {w : World} (h : DiskR S w g D) (n nt : ByteArray) (hn : n.size ≤ 1000) :
    Calls Try.prog 24 #[.pointer (some ⟨g, 0, none⟩), .string n, .string nt] w fun e w' => e = .returned (.int .i64 (D.rename n nt).1) ∧ After S w w' g (D.rename n nt).2 := by
  have HB := Aside0.mk ((((Below.refl w.heap.size w).alloc (Nat.le_refl _) (.cells #[.pointer (some ⟨g, 0, none⟩)] 26 (0, 0))).alloc (by simp) (.cells #[.string n] 9 (0, 0))).alloc (by rw [World.size_alloc, World.size_alloc]; omega) (.cells #[.string nt] 9 (0, 0)))
  have h1 : (((w.alloc (.cells #[.pointer (some ⟨g, 0, none⟩)] 26 (0, 0))).alloc (.cells #[.string n] 9 (0, 0))).alloc (.cells #[.string nt] 9 (0, 0))).heap[w.heap.size]? = some (.cells #[.pointer (some ⟨g, 0, none⟩)] 26 (0, 0)) :=
    (Below.heap_alloc _ _ _ (by simp; omega)).trans ((Below.heap_alloc _ _ _ (by simp)).trans (heap_alloc_new w _))
  have h2 : (((w.alloc (.cells #[.pointer (some ⟨g, 0, none⟩)] 26 (0, 0))).alloc (.cells #[.string n] 9 (0, 0))).alloc (.cells #[.string nt] 9 (0, 0))).heap[w.heap.size + 1]? = some (.cells #[.string n] 9 (0, 0)) := by
    have := heap_alloc_new (w.alloc (.cells #[.pointer (some ⟨g, 0, none⟩)] 26 (0, 0))) (.cells #[.string n] 9 (0, 0))
    rw [World.size_alloc] at this
    exact (Below.heap_alloc _ _ _ (by simp)).trans this
  have h3 : (((w.alloc (.cells #[.pointer (some ⟨g, 0, none⟩)] 26 (0, 0))).alloc (.cells #[.string n] 9 (0, 0))).alloc (.cells #[.string nt] 9 (0, 0))).heap[w.heap.size + 1 + 1]? = some (.cells #[.string nt] 9 (0, 0)) := by
    have := heap_alloc_new ((w.alloc (.cells #[.pointer (some ⟨g, 0, none⟩)] 26 (0, 0))).alloc (.cells #[.string n] 9 (0, 0))) (.cells #[.string nt] 9 (0, 0))
    rw [World.size_alloc, World.size_alloc] at this
    exact this
  have H1 := Aside0.mk h1
  have H2 := Aside0.mk h2
  have H3 := Aside0.mk h3
  have HD := Aside0.mk h
  clear h1 h2 h3 h
  obtain ⟨r, hr⟩ : ∃ r, D.rename n nt = r := ⟨_, rfl⟩
  have HR := Aside0.mk hr
  rw [hr]
  obtain ⟨re, rD⟩ := r
  clear hr
  go_enter Try.func24, Try.ntmps24
  go_upto_region 1 with fail
  obtain ⟨wA, hwA⟩ : ∃ x, (((w.alloc (.cells #[.pointer (some ⟨g, 0, none⟩)] 26 (0, 0))).alloc (.cells #[.string n] 9 (0, 0))).alloc (.cells #[.string nt] 9 (0, 0))) = x := ⟨_, rfl⟩
  rw [hwA] at HB H1 H2 H3 ⊢
  clear hwA
  have HBd := Aside0.mk (below_drew HB.out)
  have H1d := Aside0.mk (show wA.drew.heap[w.heap.size]? = _ from H1.out)
  have H2d := Aside0.mk (show wA.drew.heap[w.heap.size + 1]? = _ from H2.out)
  have H3d := Aside0.mk (show wA.drew.heap[w.heap.size + 1 + 1]? = _ from H3.out)
  clear H1 H2 H3 HB
  obtain ⟨b1, hb1⟩ : ∃ x, w.heap.size = x := ⟨_, rfl⟩
  have HBE := Aside0.mk hb1
  rw [hb1] at H1d H2d H3d ⊢
  clear hb1
  obtain ⟨b2, hb2⟩ : ∃ x, b1 + 1 = x := ⟨_, rfl⟩
  have HBE2 := Aside0.mk hb2
  rw [hb2] at H2d H3d ⊢
  clear hb2
  obtain ⟨b3, hb3⟩ : ∃ x, b2 + 1 = x := ⟨_, rfl⟩
  have HBE3 := Aside0.mk hb3
  rw [hb3] at H3d ⊢
  clear hb3
  have HSc := Aside0.mk (show wA.drew.cell? ⟨b1, 0, none⟩ = some (.pointer (some ⟨g, 0, none⟩)) ∧ wA.drew.cell? ⟨b2, 0, none⟩ = some (.string n) ∧ wA.drew.cell? ⟨b3, 0, none⟩ = some (.string nt) from ⟨(cell_of_row _ _ _ _ _ _ H1d.out).trans rfl, (cell_of_row _ _ _ _ _ _ H2d.out).trans rfl, (cell_of_row _ _ _ _ _ _ H3d.out).trans rfl⟩)
  refine wp_region_held_drew (S := (fun W => W.cell? ⟨b1, 0, none⟩ = some (.pointer (some ⟨g, 0, none⟩)) ∧ W.cell? ⟨b2, 0, none⟩ = some (.string n) ∧ W.cell? ⟨b3, 0, none⟩ = some (.string nt))) (by kernel_rfl) HSc.out (fun hHeld => ?_)
  generalize wA.drew = wz at HBd H1d H2d H3d HSc hHeld ⊢
  refine wpAnyH_take (i := 0) (oi := { dst := some 7, op := Op.load 26 (Operand.tmp 3), type := 26, pos := "disk.go:126", after := #[], guard := none }) (v := ?_) rfl (by kernel_rfl) (by kernel_rfl) (by kernel_rfl) (fun _ _ _ h => h) (Or.inl ⟨by rfl, ?_⟩) (by assumption) ?_
  rotate_left
  · intro w hSw
    try dsimp only at hSw
    go_simp
    all_goals with_reducible rfl
  try simp only [Act.put, List.setIfInBounds_toArray, List.set_cons_zero, List.set_cons_succ]
  refine wpAnyH_take (i := 1) (oi := { dst := some 8, op := Op.load 9 (Operand.tmp 4), type := 9, pos := "disk.go:126", after := #[], guard := none }) (v := ?_) rfl (by kernel_rfl) (by kernel_rfl) (by kernel_rfl) (fun _ _ _ h => h) (Or.inl ⟨by rfl, ?_⟩) (by assumption) ?_
  rotate_left
  · intro w hSw
    try dsimp only at hSw
    go_simp
    all_goals with_reducible rfl
  try simp only [Act.put, List.setIfInBounds_toArray, List.set_cons_zero, List.set_cons_succ]
  refine wpAnyH_take (i := 2) (oi := { dst := some 9, op := Op.load 9 (Operand.tmp 5), type := 9, pos := "disk.go:126", after := #[], guard := none }) (v := ?_) rfl (by kernel_rfl) (by kernel_rfl) (by kernel_rfl) (fun _ _ _ h => h) (Or.inl ⟨by rfl, ?_⟩) (by assumption) ?_
  rotate_left
  · intro w hSw
    try dsimp only at hSw
    go_simp
    all_goals with_reducible rfl
  try simp only [Act.put, List.setIfInBounds_toArray, List.set_cons_zero, List.set_cons_succ]
  refine wpAnyH_take (i := 4) (oi := { dst := some 11, op := Op.makeFunc (Fn.func 43) #[] #[Operand.tmp 3, Operand.tmp 4, Operand.tmp 5], type := 60, pos := "disk.go:126", after := #[], guard := none }) (v := ?_) rfl (by kernel_rfl) (by kernel_rfl) (by kernel_rfl) (fun _ _ _ h => h) (Or.inl ⟨by rfl, ?_⟩) (by assumption) ?_
  rotate_left
  · intro w hSw
    try dsimp only at hSw
    go_simp
    all_goals with_reducible rfl
  try simp only [Act.put, List.setIfInBounds_toArray, List.set_cons_zero, List.set_cons_succ]
  refine wpAnyH_ready (rs := [3]) (by kernel_rfl) (by simp) ?_
  refine AllReadyH.cons (o := { dst := some 10, op := Op.call { callee := Callee.value (Operand.func 42), args := #[Operand.tmp 9], argTypes := #[9] }, type := 4, pos := "disk.go:126", after := #[{ on := 2, ground := Ground.data }], guard := none }) rfl (fun K hK => ?_) AllReadyH.nil
  (go_simp; refine (disk_named.calls nt (namedB nt) wz (named_f nt)).mono ?_; rintro e wx ⟨rfl, hX⟩; have hX := drawn_below19 hX; have HBX := Aside0.mk (HBd.out.trans (hX.mono HBd.out.size)); have HX1 := Aside0.mk ((hX.block _ (lt_of_heap H1d.out)).trans H1d.out); have HX2 := Aside0.mk ((hX.block _ (lt_of_heap H2d.out)).trans H2d.out); have HX3 := Aside0.mk ((hX.block _ (lt_of_heap H3d.out)).trans H3d.out); clear HSc hX; have HSc := Aside0.mk (show wx.cell? ⟨b1, 0, none⟩ = some (.pointer (some ⟨g, 0, none⟩)) ∧ wx.cell? ⟨b2, 0, none⟩ = some (.string n) ∧ wx.cell? ⟨b3, 0, none⟩ = some (.string nt) from ⟨(cell_of_row _ _ _ _ _ _ HX1.out).trans rfl, (cell_of_row _ _ _ _ _ _ HX2.out).trans rfl, (cell_of_row _ _ _ _ _ _ HX3.out).trans rfl⟩); go_wp2_with fail)
  refine hK.out _ _ HSc.out (fun hHeld => ?_)
  clear hK K
  try simp only [Act.put, List.setIfInBounds_toArray, List.set_cons_zero, List.set_cons_succ]
  refine wpAnyH_ready (rs := [5]) (by kernel_rfl) (by simp) ?_
  refine AllReadyH.cons (o := { dst := some 12, op := Op.call { callee := Callee.value (Operand.func 28), args := #[Operand.tmp 7, Operand.tmp 8, Operand.tmp 10, Operand.tmp 11], argTypes := #[26, 9, 4, 60] }, type := 30, pos := "disk.go:126", after := #[{ on := 0, ground := Ground.data }, { on := 1, ground := Ground.data }, { on := 3, ground := Ground.data }, { on := 4, ground := Ground.data }, { on := 3, ground := Ground.chain }], guard := none }) rfl (fun K hK => ?_) AllReadyH.nil
  (go_simp; have HL := wchange_rename (HD.out.below HBX.out) n hn nt HX1.out HX2.out HX3.out; rw [HR.out] at HL; refine HL.mono ?_; clear HL; rintro e wy ⟨rfl, hA⟩; have HA := Aside0.mk hA; have hF := hA; obtain ⟨S', -, hF, -⟩ := hF; have hnS : ∀ k, w.heap.size ≤ k → ¬ S k := fun k hk hs => (by have := HD.out.bound k hs; omega); have HSd := HSc; clear HSc; have HSc := Aside0.mk (keep3 HSd.out (World.cell?_of_block (hF.block b1 (lt_of_heap HX1.out) (hnS _ (by have := HBE.out; omega)))) (World.cell?_of_block (hF.block b2 (lt_of_heap HX2.out) (hnS _ (by have := HBE.out; have := HBE2.out; omega)))) (World.cell?_of_block (hF.block b3 (lt_of_heap HX3.out) (hnS _ (by have := HBE.out; have := HBE2.out; have := HBE3.out; omega))))); clear HSd hF hnS hA; go_wp2_with fail)
  refine hK.out _ _ HSc.out (fun hHeld => ?_)
  clear hK K
  try simp only [Act.put, List.setIfInBounds_toArray, List.set_cons_zero, List.set_cons_succ]
  refine wpAnyH_take (i := 6) (oi := { dst := some 6, op := Op.assign (Operand.tmp 12), type := 30, pos := "disk.go:126", after := #[{ on := 5, ground := Ground.data }, { on := 5, ground := Ground.chain }, { on := 0, ground := Ground.phase }, { on := 1, ground := Ground.phase }, { on := 2, ground := Ground.phase }, { on := 3, ground := Ground.phase }, { on := 4, ground := Ground.phase }, { on := 5, ground := Ground.phase }], guard := none }) (v := ?_) rfl (by kernel_rfl) (by kernel_rfl) (by kernel_rfl) (fun _ _ _ h => h) (Or.inl ⟨by rfl, ?_⟩) (by assumption) ?_
  rotate_left
  · intro w hSw
    try dsimp only at hSw
    go_simp
    all_goals with_reducible rfl
  try simp only [Act.put, List.setIfInBounds_toArray, List.set_cons_zero, List.set_cons_succ]
  refine wpAnyH_done (by kernel_rfl) ?_ _
  go_wp2_with fail
  go_ret
  exact ⟨rfl, After.behind HBX.out HA.out⟩
/-- a file's bytes -/
theorem clone_ok {w : World} {A : Option Addr} {c : Nat} {l : List Int} (hC : (Kd.int .u8).C w A l.length l) (hc : l.length ≤ c) (hl : l.length ≤ 100000) :
    Calls Try.prog 38 #[.slice A l.length c] w fun e w' => ∃ v : Value, e = .returned v ∧ (Kd.int .u8).R 5 w' w.heap.size (fun _ => True) v l ∧ Below w.heap.size w w' :=
  slices_Clone_byte_byte.calls A c l l w hC hc (by unfold slices_Clone_byte_byte.f; rw [if_pos (by omega)])
theorem mem_len {f : FileV} : ∀ {l : List FileV}, f ∈ l → f.d.length ≤ sumL l := by
  intro l
  induction l with
  | nil => intro h; cases h
  | cons x l ih =>
    intro h
    unfold sumL at ih ⊢
    rw [List.map_cons, List.sum_cons]
    rcases List.mem_cons.1 h with rfl | h
    · omega
    · have := ih h; omega
def DD.read (D : DD) (n : ByteArray) : List Int × Bool := match D.find n with
  | some f => (f.d, true)
  | none => ([], false)
theorem wRead {S : Nat → Prop} {g : Nat} {D : DD} {w : World} (h : DiskR S w g D) (n : ByteArray) (hn : n.size ≤ 1000) (hl : sumL D.fs ≤ 100000) :
    Calls Try.prog 17 #[.pointer (some ⟨g, 0, none⟩), .string n] w fun e w' => ∃ v : Value, e = .returned (.tuple #[v, .bool (D.read n).2]) ∧ (Kd.int .u8).R 5 w' w.heap.size (fun _ => True) v (D.read n).1 ∧ Below w.heap.size w w' := by
  obtain ⟨m, ps, hP⟩ := h.parts
  have hlk := look (S := S) hP.map hP.names n (by simp only [maxLen]; omega) true
  obtain ⟨⟨c0, -⟩, -⟩ := hP.at
  have HP := Aside0.mk hP
  unfold DD.read DD.find
  rw [hP.fs]
  clear hP h
  go_enter Try.func17, Try.ntmps17
  rcases hlk with ⟨hlk, hf⟩ | ⟨j, q, hq, hqn, hf, hlk⟩
  · rw [hf]
    go_wp2_with fail
    go_ret2
    exact ⟨_, rfl, Kd.R_nil _ _ _ _ _, Below.refl _ _⟩
  · rw [hf]
    have hqm := List.mem_of_getElem? hq
    obtain ⟨A, c, hv, hlc, hH, hC⟩ := file_held (HP.out.files q hqm) HP.out.cells
    have hlen : q.1.d.length ≤ sumL D.fs := by
      rw [HP.out.fs]
      exact mem_len (List.mem_map.2 ⟨q, hqm, rfl⟩)
    have HCL := Aside0.mk (clone_ok hC hlc (by omega))
    obtain ⟨x0, x1⟩ := two_cells hv
    clear hv hlc hH hC hlen hqm hf hq hqn HP
    go_wp2_with fail
    refine HCL.out.mono ?_
    rintro e w2 ⟨v, rfl, hR, hB⟩
    have HR := Aside0.mk hR
    have HB := Aside0.mk hB
    clear hR hB HCL x0 x1 c0 hlk
    go_wp2_with fail
    go_ret2
    exact ⟨v, rfl, HR.out, HB.out⟩
end Go.Proofs.Ytcejkfjjildngaa
end
