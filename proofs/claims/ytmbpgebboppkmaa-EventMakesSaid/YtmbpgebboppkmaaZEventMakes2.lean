/- The statement EventMakes over numbers and lists: which events are right, and what is made. -/
import Derived.Test.YtmbpgebboppkmaaZEventMakes1
import Derived.Test.YtmbpgebboppkmaaZEventMakes0
import Derived.Deep.Slices
import Derived.DataReads
import Derived.ChangeShapes
import Derived.WideLaws
import Derived.SizedLaws
import Derived.Test.YtmbpgebboppkmaaProg
import Derived.Test.YtmbpgebboppkmaaRows
import Derived.WalkKit
import Derived.ProofKit
import Derived.OpenShut
import Derived.ShutString
import Derived.ChangeOld
import Derived.Below
import Derived.Lib.SmallJoins
section
/- the reference: which events are right; plain laws -/
set_option linter.unusedVariables false
set_option linter.unusedSimpArgs false
set_option autoImplicit false
namespace Go.Proofs.Ytmbpgebboppkmaa
open Go Go.RowKit Go.Shelf Go.Sort Go.Proofs.YtmbpgebboppkmaaW.PrintWords Go.Proofs.YtmbpgebboppkmaaW.PrintLast Go.Proofs.Ytmbpgebboppkmaa.G

/-- strict neighbours -/
def StrN (l : List S32) : Prop := ∀ i (h : i + 1 < l.length), Lib.compareBytes l[i].f0.data.toList l[i + 1].f0.data.toList < 0
theorem cmpB_anti (a b : List UInt8) : Lib.compareBytes a b < 0 ↔ Lib.compareBytes b a > 0 := by
  have := cmpB_neg a b
  omega
theorem str_iff (l : List S32) : StrN l ↔ OrdN l ∧ (l.map (·.f0)).Nodup := by
  constructor
  · intro h
    have hp : ∀ d i (h2 : i + 1 + d < l.length), ltOf cmpN l[i] l[i + 1 + d] = true := by
      intro d
      induction d with
      | zero =>
        intro i h2
        exact (ltN _ _).2 (h i h2)
      | succ d ih =>
        intro i h2
        have h3 := ih i (by omega)
        have h4 : ltOf cmpN l[i + 1 + d] l[i + 1 + d + 1] = true := (ltN _ _).2 (h (i + 1 + d) h2)
        exact swoN.trans _ _ _ h3 h4
    constructor
    · unfold OrdN
      rw [List.pairwise_iff_getElem]
      intro i j hi hj hij
      have := hp (j - (i + 1)) i (by omega)
      have e : i + 1 + (j - (i + 1)) = j := by omega
      simp only [e] at this
      cases hb : ltOf cmpN l[j] l[i] with
      | false => rfl
      | true => have h5 := swoN.trans _ _ _ this hb; rw [swoN.irrefl] at h5; cases h5
    · unfold List.Nodup
      rw [List.pairwise_map, List.pairwise_iff_getElem]
      intro i j hi hj hij
      have := hp (j - (i + 1)) i (by omega)
      have e : i + 1 + (j - (i + 1)) = j := by omega
      simp only [e] at this
      intro he
      have h6 := (ltN _ _).1 this
      rw [he, (cmpB_zero _ _).2 rfl] at h6
      omega
  · rintro ⟨h1, h2⟩ i hi
    unfold OrdN at h1
    rw [List.pairwise_iff_getElem] at h1
    have h3 := h1 i (i + 1) (by omega) hi (by omega)
    have h4 := (ltN_f _ _).1 h3
    have h5 := cmpB_neg l[i].f0.data.toList l[i + 1].f0.data.toList
    by_cases hz : Lib.compareBytes l[i].f0.data.toList l[i + 1].f0.data.toList = 0
    · exfalso
      have he := (cmpB_zero _ _).1 hz
      have e1 : l[i].f0 = l[i + 1].f0 := toL_inj (by rw [ByteArray.toList_eq, ByteArray.toList_eq]; exact he)
      unfold List.Nodup at h2
      rw [List.pairwise_map, List.pairwise_iff_getElem] at h2
      exact h2 i (i + 1) (by omega) hi (by omega) e1
    · omega
def rightL (l : List S32) (i : Nat) : Bool := decide (l.length ≤ 24) && decide (∀ j (h : j < l.length), i ≤ j → wrongA l[j] = false ∧ (0 < j → Lib.compareBytes (l[j - 1]'(by omega)).f0.data.toList l[j].f0.data.toList < 0))
theorem rightL_0 (l : List S32) : rightL l 0 = rightE l := by
  rw [Bool.eq_iff_iff, right_iff, ← str_iff]
  unfold rightL
  rw [Bool.and_eq_true, decide_eq_true_eq, decide_eq_true_eq]
  constructor
  · rintro ⟨h1, h2⟩
    refine ⟨h1, ?_, ?_⟩
    · rw [List.any_eq_false]
      intro x hx
      obtain ⟨j, hj, rfl⟩ := List.getElem_of_mem hx
      rw [(h2 j hj (by omega)).1]
      decide
    · intro i hi
      have := (h2 (i + 1) hi (by omega)).2 (by omega)
      simpa using this
  · rintro ⟨h1, h2, h3⟩
    refine ⟨h1, fun j hj _ => ⟨?_, fun h0 => ?_⟩⟩
    · rw [List.any_eq_false] at h2
      have := h2 _ (List.getElem_mem hj)
      simpa using this
    · obtain ⟨i, rfl⟩ : ∃ i, j = i + 1 := ⟨j - 1, by omega⟩
      exact h3 i hj
theorem wfI64 {n : Int} (h : (Lit.int .i64 n).wf = true) : -9223372036854775808 ≤ n ∧ n < 9223372036854775808 := by
  simp only [Lit.wf, Bool.and_eq_true, decide_eq_true_eq] at h
  have h1 : IntKind.i64.min = -9223372036854775808 := rfl
  have h2 : IntKind.i64.max = 9223372036854775807 := rfl
  omega
theorem one_ev {l : List S32} (hg : GoodA l) (i : Nat) (hi : i < l.length) : rosetteref05_one.f l[i].f0 l[i].f1.f0 l[i].f1.f1 l[i].f1.f2 = some (!wrongA l[i]) := by
  obtain ⟨_, _, h, _⟩ := hg.2 l[i] (List.getElem_mem hi)
  have := wfI64 h
  exact one_f _ this.1 this.2
theorem size_ok {l : List S32} (hg : GoodA l) (i : Nat) (hi : i < l.length) : l[i].f0.size < 9223372036854775807 := by
  have := (hg.2 l[i] (List.getElem_mem hi)).1
  omega
theorem right_go {l : List S32} (hg : GoodA l) : ∀ (d i : Nat), i + d = l.length → Ev fun k => rosetteref05_Right.l0 k l (i : Int) = some (rightL l i) := by
  have hl : l.length ≤ 4611686018427387904 := by have := hg.1.2; omega
  intro d
  induction d with
  | zero =>
    intro i hi
    refine Ev.now fun k => ?_
    simp only [rosetteref05_Right.l0]
    rw [if_neg (by omega)]
    congr 1
    unfold rightL
    rw [decide_eq_true (p := ∀ j (h : j < l.length), _) (fun j hj hij => by omega), Bool.and_true]
    rw [Bool.eq_iff_iff, decide_eq_true_eq, decide_eq_true_eq]
    omega
  | succ d ih =>
    intro i hi
    have hlt : i < l.length := by omega
    have ht : Ev fun k => 0 < i → rosetteref04_Text.f k (l[i - 1]'(by omega)).f0 l[i].f0 = some (Lib.compareBytes (l[i - 1]'(by omega)).f0.data.toList l[i].f0.data.toList) :=
      (text_ev _ _ (size_ok hg (i - 1) (by omega))).mono fun k hk _ => hk
    refine (Ev.and (ih (i + 1) (by omega)) ht).succ fun k hk => ?_
    obtain ⟨hk1, hk2⟩ := hk
    have hstep : rightL l i = (!wrongA l[i] && (decide (i = 0) || decide (Lib.compareBytes (l[i - 1]'(by omega)).f0.data.toList l[i].f0.data.toList < 0)) && rightL l (i + 1)) := by
      rw [Bool.eq_iff_iff]
      unfold rightL
      simp only [Bool.and_eq_true, Bool.or_eq_true, decide_eq_true_eq, Bool.not_eq_true']
      constructor
      · rintro ⟨h1, h2⟩
        have h3 := h2 i hlt (Nat.le_refl _)
        refine ⟨⟨h3.1, ?_⟩, h1, fun j hj hij => h2 j hj (by omega)⟩
        by_cases h0 : i = 0
        · exact Or.inl h0
        · exact Or.inr (h3.2 (by omega))
      · rintro ⟨⟨h1, h2⟩, h3, h4⟩
        refine ⟨h3, fun j hj hij => ?_⟩
        by_cases e : j = i
        · subst e
          exact ⟨h1, fun h0 => h2.resolve_left (by omega)⟩
        · exact h4 j hj (by omega)
    rw [hstep]
    simp only [rosetteref05_Right.l0]
    rw [if_pos (by omega), if_pos (by omega), rdA l i hlt, one_ev hg i hlt, Option.bind_some]
    cases hw : wrongA l[i] with
    | true => rfl
    | false =>
      rw [if_pos (by decide), w_next i (by omega)]
      by_cases h0 : i = 0
      · subst h0
        rw [if_neg (by omega), hk1]
        simp
      · have hp : wrap64 ((i : Int) - 1) = ((i - 1 : Nat) : Int) := by unfold wrap64; omega
        rw [if_pos (by omega), hp, if_pos (by omega), if_pos (by omega), rdA l (i - 1) (by omega), hk2 (by omega), Option.bind_some, hk1]
        by_cases hc : Lib.compareBytes (l[i - 1]'(by omega)).f0.data.toList l[i].f0.data.toList ≥ 0
        · rw [if_pos hc, decide_eq_false h0, decide_eq_false (by omega)]; rfl
        · rw [if_neg hc, decide_eq_true (p := Lib.compareBytes _ _ < 0) (by omega)]; simp
theorem rref_ev {l : List S32} (hg : GoodA l) : Ev fun k => rosetteref05_Right.f k l = some (rightE l) :=
  (right_go hg l.length 0 (by omega)).mono fun k hk => by unfold rosetteref05_Right.f; rw [← rightL_0]; exact hk
end Go.Proofs.Ytmbpgebboppkmaa
end

section
/- the reference: what is made of attributes; plain laws -/
set_option linter.unusedVariables false
set_option linter.unusedSimpArgs false
set_option autoImplicit false
namespace Go.Proofs.Ytmbpgebboppkmaa
open Go Go.RowKit Go.Shelf Go.Sort Go.Proofs.YtmbpgebboppkmaaW.PrintWords Go.Proofs.YtmbpgebboppkmaaW.PrintLast Go.Proofs.Ytmbpgebboppkmaa.G

def insO (x : S32) : List S32 → Option (List S32)
  | [] => some [x]
  | a :: l => if Lib.compareBytes a.f0.data.toList x.f0.data.toList < 0 then (insO x l).map (a :: ·) else if a.f0.toList = x.f0.toList then none else some (x :: a :: l)
def mkO : List S32 → List S32 → List S32 × Int
  | out, [] => (out, 0)
  | out, x :: l => match insO x out with
    | none => ([], 8)
    | some o => mkO o l
theorem insO_len (x : S32) : ∀ l o, insO x l = some o → o.length = l.length + 1 := by
  intro l
  induction l with
  | nil => intro o h; rw [insO] at h; rw [← Option.some.inj h]; rfl
  | cons a l ih =>
    intro o h
    rw [insO] at h
    split at h
    · obtain ⟨o2, h2, rfl⟩ := Option.map_eq_some_iff.1 h
      simp [ih o2 h2]
    · split at h
      · cases h
      · rw [← Option.some.inj h]; rfl
def nextO (j : List S32) (l : List S32) : Option (List S32) → List S32 × Int
  | none => ([], 8)
  | some o => mkO (j ++ o) l
theorem make_l2 {l : List S32} (hg : GoodA l) (h24 : l.length ≤ 24) (i : Nat) (hi : i < l.length)
    (ih : ∀ out : List S32, out.length ≤ i + 1 → (∀ a ∈ out, a ∈ l) → Ev fun k => rosetteref05_Make.l1 k l out ((i + 1 : Nat) : Int) = some (mkO out (l.drop (i + 1))))
    (out : List S32) (ho : out.length ≤ i) (hin : ∀ a ∈ out, a ∈ l) : ∀ (d j : Nat), j + d = out.length → Ev fun k => rosetteref05_Make.l2 k l out (i : Int) (j : Int) = some (nextO (out.take j) (l.drop (i + 1)) (insO l[i] (out.drop j))) := by
  have hx : (⟨l[i].f0, (⟨l[i].f1.f0, l[i].f1.f1, l[i].f1.f2⟩ : S30)⟩ : S32) = l[i] := rfl
  intro d
  induction d with
  | zero =>
    intro j hj
    have hjo : j = out.length := by omega
    subst hjo
    refine (ih (out ++ [l[i]]) (by simp; omega) (fun a ha => ?_)).succ fun k hk => ?_
    · rcases List.mem_append.1 ha with h | h
      · exact hin a h
      · rw [List.mem_singleton] at h; subst h; exact List.getElem_mem hi
    · simp only [rosetteref05_Make.l2]
      rw [if_neg (by omega)]
      simp only [Option.bind_some, Int.toNat_natCast, List.take_length, List.drop_length, List.nil_append, List.append_nil, List.length_nil, Nat.zero_add, Nat.add_zero]
      rw [if_pos (by omega), if_pos (by omega), if_pos (by omega), if_pos (by omega), if_pos (by omega), if_pos (by omega), if_pos (by simp; omega), rdA l i hi, hx, w_next i (by omega), hk]
      rfl
  | succ d ihd =>
    intro j hj
    have hjl : j < out.length := by omega
    have hjm := hin _ (List.getElem_mem hjl)
    have hs : out[j].f0.size < 9223372036854775807 := by have := (hg.2 _ hjm).1; omega
    have hd : out.drop j = out[j] :: out.drop (j + 1) := List.drop_eq_getElem_cons hjl
    have ht := text_ev out[j].f0 l[i].f0 hs
    refine (Ev.and (Ev.and (ihd (j + 1) (by omega)) ht) (ih (out.take j ++ l[i] :: out.drop j) (by simp; omega) (fun a ha => ?_))).succ fun k hk => ?_
    · rcases List.mem_append.1 ha with h | h
      · exact hin a (List.mem_of_mem_take h)
      · rcases List.mem_cons.1 h with rfl | h
        · exact List.getElem_mem hi
        · exact hin a (List.mem_of_mem_drop h)
    · obtain ⟨⟨hk1, hk2⟩, hk3⟩ := hk
      simp only [rosetteref05_Make.l2]
      rw [if_pos (by omega), if_pos (by omega), if_pos (by omega), if_pos (by omega), rdA l i hi, rdA out j hjl, hk2, Option.bind_some, hd, insO]
      by_cases hc : Lib.compareBytes out[j].f0.data.toList l[i].f0.data.toList < 0
      · rw [if_pos hc, if_pos hc, w_next j (by omega), hk1]
        cases insO l[i] (out.drop (j + 1)) with
        | none => rfl
        | some o =>
          show some (mkO _ _) = some (mkO _ _)
          rw [List.take_succ_eq_append_getElem hjl, List.append_assoc]
          rfl
      · rw [if_neg hc, if_neg hc]
        by_cases he : out[j].f0.toList = l[i].f0.toList
        · rw [if_pos he, if_pos he]; rfl
        · rw [if_neg he, if_neg he]
          simp only [Option.bind_some, Int.toNat_natCast, List.nil_append, List.length_nil, Nat.zero_add]
          have h1 : (out.take j).length = j := by rw [List.length_take]; omega
          have h2 : (out.drop j).length = out.length - j := by rw [List.length_drop]
          rw [if_pos (by omega), if_pos (by omega), if_pos (by omega), if_pos (by rw [List.length_append, h1, h2]; simp; omega), hx, w_next i (by omega), List.append_assoc, ← hd]
          rw [List.singleton_append, hk3]
          rfl
theorem make_l1 {l : List S32} (hg : GoodA l) (h24 : l.length ≤ 24) : ∀ (d i : Nat), i + d = l.length → ∀ out : List S32, out.length ≤ i → (∀ a ∈ out, a ∈ l) → Ev fun k => rosetteref05_Make.l1 k l out (i : Int) = some (mkO out (l.drop i)) := by
  intro d
  induction d with
  | zero =>
    intro i hi out ho hin
    refine Ev.now fun k => ?_
    simp only [rosetteref05_Make.l1]
    rw [if_neg (by omega), List.drop_eq_nil_of_le (by omega), mkO]
  | succ d ih =>
    intro i hi out ho hin
    have hlt : i < l.length := by omega
    refine (make_l2 hg h24 i hlt (ih (i + 1) (by omega)) out ho hin out.length 0 (by omega)).succ fun k hk => ?_
    simp only [rosetteref05_Make.l1]
    rw [if_pos (by omega)]
    refine hk.trans ?_
    rw [List.drop_zero, List.take_zero, List.drop_eq_getElem_cons hlt, mkO]
    cases insO l[i] out with
    | none => rfl
    | some o => rfl
theorem make_l0 {l : List S32} (hg : GoodA l) (h24 : l.length ≤ 24) : ∀ (d i : Nat), i + d = l.length → Ev fun k => rosetteref05_Make.l0 k l (i : Int) = some (if (l.drop i).any wrongA = true then ([], 1) else mkO [] l) := by
  intro d
  induction d with
  | zero =>
    intro i hi
    refine (make_l1 hg h24 l.length 0 (by omega) [] (Nat.zero_le _) (fun a ha => by cases ha)).succ fun k hk => ?_
    simp only [rosetteref05_Make.l0]
    rw [if_neg (by omega), List.drop_eq_nil_of_le (by omega)]
    exact hk
  | succ d ih =>
    intro i hi
    have hlt : i < l.length := by omega
    refine (ih (i + 1) (by omega)).succ fun k hk => ?_
    simp only [rosetteref05_Make.l0]
    rw [if_pos (by omega), if_pos (by omega), rdA l i hlt, one_ev hg i hlt, Option.bind_some, List.drop_eq_getElem_cons hlt, List.any_cons]
    cases hw : wrongA l[i] with
    | true => rfl
    | false => rw [if_pos (by decide), w_next i (by omega), hk, Bool.false_or]
/-! ### insertion, and a name twice -/
theorem insO_in {x : S32} : ∀ {l : List S32}, OrdN l → (x.f0 ∈ l.map (fun a : S32 => a.f0) → insO x l = none) ∧ (¬ x.f0 ∈ l.map (fun a : S32 => a.f0) → insO x l = some (insN x l)) := by
  intro l
  induction l with
  | nil => intro _; exact ⟨fun h => (by cases h), fun _ => rfl⟩
  | cons a l ih =>
    intro ho
    obtain ⟨h1, h2⟩ := List.pairwise_cons.1 ho
    obtain ⟨i1, i2⟩ := ih h2
    rw [insO, insN, List.map_cons]
    by_cases hlt : Lib.compareBytes a.f0.data.toList x.f0.data.toList < 0
    · rw [if_pos hlt, if_pos ((ltN _ _).2 hlt)]
      have hne : ¬ x.f0 = a.f0 := by
        intro e
        rw [e, (cmpB_zero _ _).2 rfl] at hlt
        omega
      refine ⟨fun hm => ?_, fun hm => ?_⟩
      · rw [i1 ((List.mem_cons.1 hm).resolve_left hne)]; rfl
      · rw [i2 (fun h => hm (List.mem_cons_of_mem _ h))]; rfl
    · rw [if_neg hlt, if_neg (fun h => hlt ((ltN _ _).1 h))]
      by_cases he : a.f0.toList = x.f0.toList
      · rw [if_pos he]
        exact ⟨fun _ => rfl, fun hm => absurd (by rw [toL_inj he]; exact List.mem_cons_self ..) hm⟩
      · rw [if_neg he]
        refine ⟨fun hm => ?_, fun _ => rfl⟩
        exfalso
        rcases List.mem_cons.1 hm with h | h
        · exact he (by rw [h])
        · obtain ⟨y, hy, hyx⟩ := List.mem_map.1 h
          have h3 := (ltN_f _ _).1 (h1 y hy)
          rw [hyx] at h3
          have h4 := cmpB_neg x.f0.data.toList a.f0.data.toList
          have h5 := (cmpB_zero a.f0.data.toList x.f0.data.toList).1 (by omega)
          exact he (by rw [ByteArray.toList_eq, ByteArray.toList_eq]; exact h5)
theorem mkO_eq : ∀ (l out : List S32), OrdN out → (out.map (·.f0)).Nodup → mkO out l = if ((out ++ l).map (·.f0)).Nodup then (l.foldl (fun out x => insN x out) out, 0) else ([], 8) := by
  intro l
  induction l with
  | nil => intro out ho hn; rw [List.append_nil, if_pos hn]; rfl
  | cons x l ih =>
    intro out ho hn
    have hperm : ((out ++ x :: l).map (·.f0)).Perm ((insN x out ++ l).map (·.f0)) := by
      refine List.Perm.map _ ?_
      exact List.perm_middle.trans ((insN_perm x out).symm.append_right l)
    rw [mkO]
    by_cases hm : x.f0 ∈ out.map (·.f0)
    · rw [(insO_in ho).1 hm, if_neg]
      intro hh
      have h2 := (List.perm_middle (l₁ := out) (l₂ := l) (a := x)).map (·.f0)
      have h3 := h2.nodup_iff.1 hh
      rw [List.map_cons, List.nodup_cons] at h3
      exact h3.1 (by rw [List.map_append]; exact List.mem_append_left _ hm)
    · rw [(insO_in ho).2 hm]
      show mkO (insN x out) l = _
      rw [ih (insN x out) (insN_ord x out ho)]
      · rw [List.foldl_cons]
        by_cases hN : ((out ++ x :: l).map (·.f0)).Nodup
        · rw [if_pos hN, if_pos (hperm.nodup_iff.1 hN)]
        · rw [if_neg hN, if_neg (fun h => hN (hperm.nodup_iff.2 h))]
      · have h2 := (insN_perm x out).map (·.f0)
        rw [h2.nodup_iff, List.map_cons, List.nodup_cons]
        exact ⟨hm, hn⟩
theorem twice_iff (l : List S32) : twiceE l = false ↔ (l.map (·.f0)).Nodup := ⟨twice_nodup, nodup_twice⟩
theorem madeR (l : List S32) : (if 24 < l.length then ([], 4) else if l.any wrongA = true then ([], 1) else mkO [] l) = (madeL l, makeE l) := by
  unfold madeL makeE
  by_cases h24 : 24 < l.length
  · rw [if_pos h24, if_pos h24]; rfl
  · rw [if_neg h24, if_neg h24]
    by_cases hw : l.any wrongA = true
    · rw [if_pos hw, if_pos hw]; rfl
    · rw [if_neg hw, if_neg hw, mkO_eq l [] List.Pairwise.nil List.nodup_nil, List.nil_append]
      have ht := twice_iff l
      cases htw : twiceE l with
      | true => rw [if_neg (fun h => by rw [ht.2 h] at htw; cases htw)]; rfl
      | false => rw [if_pos (ht.1 htw)]; rfl
theorem mref_ev {l : List S32} (hg : GoodA l) : Ev fun k => rosetteref05_Make.f k l = some (madeL l, makeE l) := by
  rw [← madeR]
  by_cases h24 : 24 < l.length
  · refine Ev.now fun k => ?_
    unfold rosetteref05_Make.f
    rw [if_pos (by omega), if_pos h24]
  · rw [if_neg h24]
    refine (make_l0 hg (by omega) l.length 0 (by omega)).mono fun k hk => ?_
    unfold rosetteref05_Make.f
    rw [if_neg (by omega)]
    exact hk
end Go.Proofs.Ytmbpgebboppkmaa
end

section
/- the reference: an event is the same as itself; plain laws -/
set_option linter.unusedVariables false
set_option linter.unusedSimpArgs false
set_option autoImplicit false
namespace Go.Proofs.Ytmbpgebboppkmaa
open Go Go.RowKit Go.Proofs.YtmbpgebboppkmaaW.PrintWords Go.Proofs.YtmbpgebboppkmaaW.PrintLast Go.Proofs.Ytmbpgebboppkmaa.G

theorem same_go (l : List S32) (hl : l.length ≤ 4611686018427387904) : ∀ (d i : Nat), i + d = l.length → Ev fun k => rosetteref05_Same.l0 k l l (i : Int) = some true := by
  intro d
  induction d with
  | zero =>
    intro i hi
    refine Ev.now fun k => ?_
    simp only [rosetteref05_Same.l0]
    rw [if_neg (by omega)]
  | succ d ih =>
    intro i hi
    refine (ih (i + 1) (by omega)).succ fun k hk => ?_
    simp only [rosetteref05_Same.l0]
    rw [if_pos (by omega), if_pos (by omega), if_pos (by omega), if_neg (by simp), w_next i (by omega)]
    exact hk
theorem same_ev (l : List S32) (hl : l.length ≤ 4611686018427387904) : Ev fun k => rosetteref05_Same.f k l l = some true :=
  (same_go l hl l.length 0 (by omega)).mono fun k hk => by unfold rosetteref05_Same.f; rw [if_pos rfl]; exact hk
end Go.Proofs.Ytmbpgebboppkmaa
end

section
/- what the laws of events ask of the functions; plain laws -/
set_option linter.unusedVariables false
set_option linter.unusedSimpArgs false
set_option autoImplicit false
namespace Go.Proofs.Ytmbpgebboppkmaa
open Go Go.RowKit Go.Shelf Go.Sort Go.Proofs.YtmbpgebboppkmaaW.PrintWords Go.Proofs.YtmbpgebboppkmaaW.PrintLast Go.Proofs.Ytmbpgebboppkmaa.G

def NamesOk (l : List S32) : Prop := ∀ x ∈ l, x.f0.size ≤ maxLen
theorem names_of {l : List S32} (h : GoodA l) : NamesOk l := fun a ha => by have := (h.2 a ha).1; simp only [maxLen]; omega
theorem names_perm {l m : List S32} (h : NamesOk l) (hp : m.Perm l) : NamesOk m := fun a ha => h a (hp.mem_iff.1 ha)
theorem make_ff {l : List S32} (h : NamesOk l) : event_Make.f l = some (madeL l, makeE l) := if_pos h
theorem right_ff {l : List S32} (h : NamesOk l) : event_Right.f l = some (rightE l) := if_pos h
theorem few_any {l : List S32} (hg : GoodA l) : Ev fun k => ∃ b, rosettelaw05_Few.f k l = some b ∧ (b = true → l.length ≤ 40) := by
  refine ⟨l.length + 1, fun k hk => ?_⟩
  exact few5_go l (by have := hg.1.2; omega) l.length k 0 (by omega) (by omega)
theorem makeE_0 (l : List S32) : makeE l = 0 ↔ l.length ≤ 24 ∧ l.any wrongA = false ∧ (l.map (·.f0)).Nodup := by
  unfold makeE
  rw [← twice_iff]
  by_cases h24 : 24 < l.length
  · rw [if_pos h24]
    exact ⟨fun h => absurd h (by decide), fun h => absurd h.1 (by omega)⟩
  · rw [if_neg h24]
    cases hw : l.any wrongA with
    | true => rw [if_pos rfl]; exact ⟨fun h => absurd h (by decide), fun h => absurd h.2.1 (by decide)⟩
    | false =>
      cases ht : twiceE l with
      | true => exact ⟨fun h => absurd h (by decide), fun h => absurd h.2.2 (by decide)⟩
      | false => exact ⟨fun _ => ⟨by omega, rfl, rfl⟩, fun _ => rfl⟩
theorem any_perm {l m : List S32} (hp : m.Perm l) (p : S32 → Bool) : m.any p = l.any p := by
  rw [Bool.eq_iff_iff, List.any_eq_true, List.any_eq_true]
  exact ⟨fun ⟨x, h, hx⟩ => ⟨x, hp.mem_iff.1 h, hx⟩, fun ⟨x, h, hx⟩ => ⟨x, hp.mem_iff.2 h, hx⟩⟩
theorem makeE_perm {l m : List S32} (hp : m.Perm l) : makeE m = makeE l := by
  have ht : twiceE m = twiceE l := by
    rw [Bool.eq_iff_iff]
    have h1 := twice_iff m
    have h2 := twice_iff l
    have h3 := (hp.map (fun a : S32 => a.f0)).nodup_iff
    cases hm : twiceE m with
    | true =>
      cases hl : twiceE l with
      | true => rfl
      | false => rw [h1.2 (h3.2 (h2.1 hl))] at hm; cases hm
    | false =>
      rw [h2.2 (h3.1 (h1.1 hm))]
  unfold makeE
  rw [hp.length_eq, any_perm hp, ht]
theorem madeL_perm {l m : List S32} (hp : m.Perm l) : madeL m = madeL l := by
  unfold madeL
  rw [makeE_perm hp]
  by_cases h : makeE l = 0
  · rw [if_pos h, if_pos h]
    exact ord_one (make_nodup h) ((srtN_perm m).trans hp) (srtN_ord m)
  · rw [if_neg h, if_neg h]
theorem made_perm {l : List S32} (h : makeE l = 0) : (madeL l).Perm l := by unfold madeL; rw [if_pos h]; exact srtN_perm l
theorem made_ord {l : List S32} (h : makeE l = 0) : OrdN (madeL l) := by unfold madeL; rw [if_pos h]; exact srtN_ord l
theorem made_made {l : List S32} (h : makeE l = 0) : makeE (madeL l) = 0 ∧ madeL (madeL l) = madeL l := ⟨(makeE_perm (made_perm h)).trans h, madeL_perm (made_perm h)⟩
theorem made_right {l : List S32} (h : makeE l = 0) : rightE (madeL l) = true := by
  obtain ⟨h1, h2, h3⟩ := (makeE_0 (madeL l)).1 (made_made h).1
  exact (right_iff _).2 ⟨h1, h2, made_ord h, h3⟩
theorem right_made {l : List S32} (h : rightE l = true) : makeE l = 0 := by
  obtain ⟨h1, h2, h3, h4⟩ := (right_iff l).1 h
  exact (makeE_0 l).2 ⟨h1, h2, h4⟩
end Go.Proofs.Ytmbpgebboppkmaa
end

section
/- The statement EventMakes over numbers and lists: which events are right, and what is made. -/
set_option linter.unusedVariables false
namespace Go.Proofs.Ytmbpgebboppkmaa.Pure
open Go.RowKit Go.Proofs.Ytmbpgebboppkmaa Go.Proofs.Ytmbpgebboppkmaa.G Go.Proofs.YtmbpgebboppkmaaW.PrintWords Go.Proofs.YtmbpgebboppkmaaW.PrintLast

theorem makes_loop {l : List S32} (hg : GoodA l) (e : Int) : ∀ (d i : Nat) (x6 : List S32), i + d = x6.length → x6.length ≤ 4611686018427387904 → Ev fun k => rosettelaw05_EventMakes.l0 k l true l x6 e e true (i : Int) = some true := by
  intro d
  induction d with
  | zero =>
    intro i x6 hi hx
    have hl : l.length ≤ 4611686018427387904 := by have := hg.1.2; omega
    refine (Ev.and (rref_ev hg) (same_ev l hl)).succ fun k hk => ?_
    simp only [rosettelaw05_EventMakes.l0]
    rw [if_neg (by omega), if_pos trivial, if_pos trivial, if_pos trivial, right_ff (names_of hg), hk.1, hk.2]
    simp
  | succ d ih =>
    intro i x6 hi hx
    refine (ih (i + 1) (x6.set i ⟨⟨#[122, 122]⟩, ⟨0, 0, ⟨#[]⟩⟩⟩) (by rw [List.length_set]; omega) (by rw [List.length_set]; exact hx)).succ fun k hk => ?_
    simp only [rosettelaw05_EventMakes.l0]
    rw [if_pos (by omega), if_pos (by omega), Int.toNat_natCast, w_next i (by omega)]
    exact hk
theorem EventMakes : rosettelaw05_EventMakes.Pure := by
  intro l0 hg
  have hg : GoodA l0 := hg
  have hl : l0.length ≤ 4611686018427387904 := by have := hg.1.2; omega
  have hm : (madeL l0).length ≤ 4611686018427387904 := by
    unfold madeL
    split
    · rw [(srtN_perm l0).length_eq]; exact hl
    · simp
  obtain ⟨K, hK⟩ := Ev.and (few_any hg) (Ev.and (mref_ev hg) (Ev.and (same_ev (madeL l0) hm) (makes_loop hg (makeE l0) (madeL l0).length 0 (madeL l0) (by omega) hm)))
  obtain ⟨⟨b, hb, h40⟩, h1, h2, h3⟩ := hK K (Nat.le_refl _)
  refine ⟨K, ?_⟩
  unfold rosettelaw05_EventMakes.f
  rw [show rosettelaw05_small.f = some true from rfl, Option.bind_some, hb, Option.bind_some]
  cases b with
  | false => rfl
  | true =>
    have h4 := h40 rfl
    rw [if_pos rfl, Option.bind_some, if_pos (by simp only [List.length_nil]; omega), Option.bind_some, List.nil_append, make_ff (names_of hg), Option.bind_some, h1, Option.bind_some, h2, Option.bind_some]
    exact h3
end Go.Proofs.Ytmbpgebboppkmaa.Pure
end

section
/- What comes in, opened kind by kind: a datum that is read whole reads as a list, a structure, a number; and no slice and no text of it is longer than the form's reach. -/
set_option linter.unusedVariables false
set_option linter.unusedSimpArgs false
set_option autoImplicit false
namespace Go.Proofs.Ytmbpgebboppkmaa.Op
open Go.RowKit Go.Deep Go.ChangeShapes Go.WideShapes Go.Proofs.YtmbpgebboppkmaaW.PrintWords

section
variable {H α β : Type} (enc : TypeId × Value → H) (P : Program) (W : World)
/-- no part of a datum is longer than the reach -/
def Lite (P : Program) (t : TypeId) (d : DataW H) : Prop := ∀ n ∈ d.weights P t, n ≤ 140737488351232
/-- whatever is read at type t, and is no longer than the reach, is of the kind d, and good -/
def Opens (t : TypeId) (d : Kd α) (good : α → Prop) : Prop :=
  ∀ fuel (cs : List Value) x, DataW.trod enc P W 0 (fun _ => true) true fuel t cs = some x → Lite P t x.1 → ∃ a, d.K W a cs ∧ good a
def OpensF (fs : List Field) (o : Nat) (d : Kd α) (good : α → Prop) : Prop :=
  ∀ fuel (cs : List Value) xs, (fs.mapM fun f => DataW.trod enc P W 0 (fun _ => true) true fuel f.type ((cs.drop f.offset).take (P.cellsOf f.type))) = some xs → (∀ n ∈ DataW.weightsEach P (fs.map (·.type)) (xs.map (·.1)), n ≤ 140737488351232) → cs.length = o + d.sz → ∃ a, d.K W a (cs.drop o) ∧ good a
variable {enc P W}
theorem opens_int {t : TypeId} {k : IntKind} (ht : P.underlying t = some (.int k)) : Opens enc P W t (Kd.int k) (fun n => (Lit.int k n).wf = true) := by
  intro fuel cs x h _
  obtain ⟨n, h1, _, h2⟩ := DataW.trod_int ht h
  exact ⟨n, h1, h2⟩
theorem opens_bool {t : TypeId} (ht : P.underlying t = some .bool) : Opens enc P W t Kd.bool (fun _ => True) := by
  intro fuel cs x h _
  obtain ⟨n, h1, _⟩ := DataW.trod_bool ht h
  exact ⟨n, h1, trivial⟩
theorem opens_str {t : TypeId} (ht : P.underlying t = some .string) : Opens enc P W t Kd.string (fun s => s.size ≤ 140737488351232) := by
  intro fuel cs x h hl
  obtain ⟨s, h1, h2, _⟩ := DataW.trod_string ht h
  refine ⟨s, h1, ?_⟩
  rw [h2] at hl
  have := hl s.data.toList.length (by simp [DataW.weights])
  rw [Array.length_toList] at this
  exact this
theorem weightsAll_mem {e : TypeId} : ∀ {ds : List (DataW H)} {d : DataW H}, d ∈ ds → ∀ n ∈ d.weights P e, n ∈ DataW.weightsAll P e ds := by
  intro ds
  induction ds with
  | nil => intro d h; cases h
  | cons y ys ih =>
    intro d h n hn
    rw [DataW.weightsAll]
    rcases List.mem_cons.1 h with rfl | h
    · exact List.mem_append_left _ hn
    · exact List.mem_append_right _ (ih h n hn)
theorem opens_slice {t e : TypeId} {d : Kd α} {good : α → Prop} {B : Nat} (ht : P.underlying t = some (.slice e)) (hs : P.cellsOf e = d.sz) (hB : P.bytesOf e = B) (h : Opens enc P W e d good) :
    Opens enc P W t (Kd.slice e d) (fun xs => (xs.length ≤ maxLen ∧ xs.length * B ≤ 140737488351232) ∧ ∀ x ∈ xs, good x) := by
  intro fuel cs x hx hw
  rcases open_slice ht hx with ⟨rfl, _⟩ | ⟨a, len, cap, m, n, D, Pl, rfl, hb, hl, hm, hmm, rfl, hel⟩
  · exact ⟨[], ⟨none, 0, rfl, Nat.le_refl _, Kd.C_nil _ _⟩, ⟨Nat.zero_le _, by simp⟩, fun _ h => by cases h⟩
  · simp only [if_true] at hmm
    have hwt : ∀ n ∈ (len + (m - len)) * P.bytesOf e :: (DataW.weightsAll P e ((List.range len).map D) ++ DataW.weightsAll P e ((List.range (m - len)).map fun j => D (len + j))), n ≤ 140737488351232 := by
      have h1 := hw
      unfold Lite at h1
      rw [DataW.weights] at h1
      simp only [ht, List.length_map, List.length_range] at h1
      exact h1
    have hlenB : len * B ≤ 140737488351232 := by
      have h1 := hwt _ List.mem_cons_self
      rw [hB] at h1
      exact Nat.le_trans (Nat.mul_le_mul_right _ (by omega)) h1
    have hlite : ∀ i, i < len → Lite P e (D i) := fun i hi n hn => hwt n (List.mem_cons_of_mem _ (List.mem_append_left _ (weightsAll_mem (List.mem_map.2 ⟨i, List.mem_range.2 hi, rfl⟩) n hn)))
    have each : ∀ i, i < len → ∃ y : α, ∃ c, W.cells? 0 (a.add (i * P.cellsOf e)) (P.cellsOf e) = some c ∧ d.K W y c ∧ good y := by
      intro i hi
      obtain ⟨c, h1, h2⟩ := hel i (by omega)
      obtain ⟨y, h3, h4⟩ := h _ _ _ h2 (hlite i hi)
      exact ⟨y, c, h1, h3, h4⟩
    have build : ∃ xs : List α, xs.length = len ∧ ∀ i y, xs[i]? = some y → ∃ c, W.cells? 0 (a.add (i * P.cellsOf e)) (P.cellsOf e) = some c ∧ d.K W y c ∧ good y := by
      clear hx hel hm hl hb hmm hw hwt hlenB hlite
      induction len with
      | zero => exact ⟨[], rfl, fun i y h => by simp at h⟩
      | succ len ih =>
        obtain ⟨xs, h1, h2⟩ := ih (fun i hi => each i (by omega))
        obtain ⟨y, c, h3, h4, h5⟩ := each len (by omega)
        refine ⟨xs ++ [y], by simp [h1], fun i z hz => ?_⟩
        by_cases hi : i < len
        · exact h2 i z (by rw [List.getElem?_append_left (by omega)] at hz; exact hz)
        · have hi2 : i < (xs ++ [y]).length := (List.getElem?_eq_some_iff.1 hz).1
          have : i = len := by rw [List.length_append, List.length_singleton] at hi2; omega
          subst this
          rw [List.getElem?_append_right (by omega), h1, Nat.sub_self] at hz
          simp only [List.getElem?_cons_zero, Option.some.injEq] at hz
          subst hz
          exact ⟨c, h3, h4, h5⟩
    obtain ⟨xs, h1, h2⟩ := build
    refine ⟨xs, ⟨some a, cap, by rw [h1], by omega, rfl, by rw [h1]; simp only [maxLen] at hm; omega, fun h0 => ⟨a, rfl, fun j p hj => ?_⟩⟩, ⟨by omega, by rw [h1]; exact hlenB⟩, fun y hy => ?_⟩
    · obtain ⟨c, h3, h4, h5⟩ := h2 j p hj
      obtain ⟨_, hlen, hcell⟩ := World.cells?_some h3
      refine ⟨c, by rw [hlen, hs], h4, fun i u hu => ?_⟩
      have hi : i < P.cellsOf e := by rw [← hlen]; exact (List.getElem?_eq_some_iff.1 hu).1
      have := hcell i hi
      rw [hu, Go.Proofs.YtmbpgebboppkmaaW.PrintWords.add_add, hs] at this
      exact this
    · obtain ⟨i, hi⟩ := List.getElem?_of_mem hy
      obtain ⟨c, _, _, h5⟩ := h2 i y hi
      exact h5
theorem opensF_one {f : Field} {o : Nat} {d : Kd α} {good : α → Prop} (ho : f.offset = o) (hc : P.cellsOf f.type = d.sz) (h : Opens enc P W f.type d good) : OpensF enc P W [f] o d good := by
  intro fuel cs xs hx hw hl
  simp only [List.mapM_cons, List.mapM_nil, Option.pure_def, Option.bind_eq_bind, Option.bind_eq_some_iff] at hx
  obtain ⟨y, h1, z, hz, hxs⟩ := hx
  simp only [Option.some.injEq] at hz hxs
  subst hz
  subst hxs
  obtain ⟨a, h2, h3⟩ := h _ _ _ h1 (fun n hn => hw n (by simp [DataW.weightsEach, hn]))
  rw [ho, hc, List.take_of_length_le (by rw [List.length_drop]; omega)] at h2
  exact ⟨a, h2, h3⟩
theorem opensF_cons {f : Field} {fs : List Field} {o : Nat} {d : Kd α} {e : Kd β} {g1 : α → Prop} {g2 : β → Prop} (ho : f.offset = o) (hc : P.cellsOf f.type = d.sz) (h : Opens enc P W f.type d g1) (hr : OpensF enc P W fs (o + d.sz) e g2) :
    OpensF enc P W (f :: fs) o (Kd.pair d e) (fun p => g1 p.1 ∧ g2 p.2) := by
  intro fuel cs xs hx hw hl
  simp only [List.mapM_cons, Option.pure_def, Option.bind_eq_bind, Option.bind_eq_some_iff] at hx
  obtain ⟨y, h1, ys, h2, hxs⟩ := hx
  simp only [Option.some.injEq] at hxs
  subst hxs
  have hsz : (Kd.pair d e).sz = d.sz + e.sz := rfl
  obtain ⟨a, h3, h4⟩ := h _ _ _ h1 (fun n hn => hw n (by simp [DataW.weightsEach, hn]))
  obtain ⟨b, h5, h6⟩ := hr _ _ _ h2 (fun n hn => hw n (by rw [List.map_cons, List.map_cons, DataW.weightsEach]; exact List.mem_append_right _ hn)) (by omega)
  rw [ho, hc] at h3
  refine ⟨(a, b), ⟨_, _, ?_, h3, h5⟩, h4, h6⟩
  rw [← List.drop_drop, List.take_append_drop]
theorem opens_struct {t : TypeId} {fs : Array Field} {d : Kd α} {good : α → Prop} (ht : P.underlying t = some (.struct fs)) (hc : P.cellsOf t = d.sz) (h : OpensF enc P W fs.toList 0 d good) : Opens enc P W t d good := by
  intro fuel cs x hx hw
  cases fuel with
  | zero => simp [DataW.trod] at hx
  | succ fuel =>
    have key : cs.length = P.cellsOf t ∧ ∃ xs, (fs.toList.mapM fun f => DataW.trod enc P W 0 (fun _ => true) true fuel f.type ((cs.drop f.offset).take (P.cellsOf f.type))) = some xs ∧ x.1 = .agg (xs.map (·.1)) := by
      unfold DataW.trod at hx
      rw [ht] at hx
      simp only at hx
      split at hx
      · rename_i hl
        rw [Option.map_eq_some_iff] at hx
        obtain ⟨xs, h1, h2⟩ := hx
        exact ⟨hl, xs, h1, by rw [← h2]⟩
      · cases hx
    obtain ⟨h1, xs, h2, h3⟩ := key
    have hw2 : ∀ n ∈ DataW.weightsEach P (fs.toList.map (·.type)) (xs.map (·.1)), n ≤ 140737488351232 := by
      unfold Lite at hw
      rw [h3, DataW.weights] at hw
      simp only [ht] at hw
      exact hw
    obtain ⟨a, h4, h5⟩ := h _ _ _ h2 hw2 (by omega)
    exact ⟨a, by simpa using h4, h5⟩
theorem opens_iso {t : TypeId} {d : Kd α} {good : α → Prop} (f : β → α) (g : α → β) (hfg : ∀ a, f (g a) = a) (h : Opens enc P W t d good) : Opens enc P W t (Kd.iso d f) (fun x => good (f x)) := by
  intro fuel cs x hx hw
  obtain ⟨a, h1, h2⟩ := h _ _ _ hx hw
  refine ⟨g a, ?_, by show good (f (g a)); rw [hfg]; exact h2⟩
  show d.K W (f (g a)) cs
  rw [hfg]
  exact h1
/-- the weight of an argument -/
theorem lite_arg {ts : List TypeId} {ds : List (DataW H)} (hsz : (DataW.weightsEach P ts ds).all (· ≤ reachBytes) = true) {j : Nat} {t : TypeId} {d : DataW H} (ht : ts[j]? = some t) (hd : ds[j]? = some d) : Lite P t d := by
  intro n hn
  have := List.all_eq_true.1 hsz n (DataW.weights_mem_each ht hd n hn)
  have h2 : n ≤ reachBytes := by simpa using this
  exact Nat.le_trans h2 (by decide)
/-- a slice that is handed in -/
theorem open_arg {t e : TypeId} {d : Kd α} {good : α → Prop} {B : Nat} (ht : P.underlying t = some (.slice e)) (hs : P.cellsOf e = d.sz) (hB : P.bytesOf e = B) (h : Opens enc P W e d good) {A : Option Addr} {n c : Nat} {y : DataW H} {p : List MemPlace}
    (hl : Lite P t y) (hx : DataW.Trod enc P W 0 (fun _ => true) true t (.slice A n c) y p) : ∃ xs : List α, n = xs.length ∧ xs.length ≤ c ∧ c ≤ maxLen ∧ d.C W A xs.length xs ∧ (xs.length ≤ maxLen ∧ xs.length * B ≤ 140737488351232) ∧ ∀ x ∈ xs, good x := by
  obtain ⟨fuel, hf⟩ := hx
  have hcap : c ≤ maxLen := by
    rcases open_slice ht hf with ⟨hcs, _⟩ | ⟨a, len, cap, m, n, D, Pl, hcs, hb, hl, hm, hmm, _, hel⟩
    · simp only [Value.cells, List.cons.injEq, Value.slice.injEq, and_true] at hcs
      omega
    · simp only [Value.cells, List.cons.injEq, Value.slice.injEq, and_true] at hcs
      omega
  obtain ⟨xs, ⟨A', c', h1, h2, h3⟩, h4, h5⟩ := opens_slice ht hs hB h _ _ _ hf hl
  simp only [Value.cells, List.cons.injEq, Value.slice.injEq, and_true] at h1
  obtain ⟨rfl, rfl, rfl⟩ := h1
  exact ⟨xs, rfl, h2, hcap, h3, h4, h5⟩
/-- a text that is handed in -/
theorem lite_str {t : TypeId} {s : ByteArray} (hl : Lite (H := H) P t (.lit (.string s.data.toList))) : s.size ≤ 140737488351232 := by
  have := hl s.data.toList.length (by simp [DataW.weights])
  rw [Array.length_toList] at this
  exact this
end
end Go.Proofs.Ytmbpgebboppkmaa.Op
end

section
namespace Go.Proofs.Ytmbpgebboppkmaa.eventMakes
open Go.ChangeShapes Go.WideShapes Go.ChangeAt Go.RowKit Go.Proofs.Ytmbpgebboppkmaa Go.Proofs.Ytmbpgebboppkmaa.G Go.Proofs.YtmbpgebboppkmaaW.PrintWords Go.Proofs.YtmbpgebboppkmaaW.PrintLast Go.Proofs.YtmbpgebboppkmaaW.PrintMore
open Go.ChangeMaps (open_string shut_string)
set_option linter.unusedVariables false
set_option linter.unusedSimpArgs false
theorem own : ownKnob Try.prog.godebug = none := by kernel_rfl
theorem laidOut : laidOutB Try.prog = true := by kernel_rfl
set_option maxRecDepth 100000 in
theorem lifted (os : Os) (started : os.Started) (H : Type) (enc : TypeId × Value → H) :
    ReturnsInHanded {} Try.checked os 3 .any (Rows.eventMakesSpec.pre6 enc Try.prog Try.f3 Rows.eventMakesRow.domain false) (Rows.eventMakesSpec.post enc Try.prog Try.f3 false true false false) := by
  refine returnsInHanded_of_change_sized (C := Try.checked) own started (by kernel_rfl) Try.func3
    (ChangeSpec.witness6 (enc := enc) (C := Try.checked) false ⟨#[], #[.slice none 0 0], []⟩ 8 (by kernel_rfl) (by kernel_rfl) (by kernel_rfl) (by kernel_rfl)) ?_
  intro W base args ds gs before hval0 hW hcnd hsz0 _
  have hsz : (DataW.weightsEach Try.prog (Try.f3.params.toList ++ Rows.eventMakesSpec.plain.varTypes Try.prog) (ds ++ gs)).all (· ≤ reachBytes) = true := hsz0
  have hval : ∀ (j : Nat) t v, Try.f3.params[j]? = some t → args[j]? = some v → Value.okWide Try.prog W .any base t v := hval0
  have hW' := hW
  obtain ⟨p, q, hA0, hV, rfl, hfz, hnd⟩ := hW
  have hA : DataW.TrodAll enc Try.prog W 0 (fun _ => true) true Try.f3.params.toList args.toList ds p := hA0
  rw [Try.params3] at hA hval hsz
  obtain ⟨v0, vs0, d0, ds0, p0, q0, hargs, rfl, rfl, h0, r0⟩ := trodAll_cons hA
  obtain ⟨rfl, rfl, rfl⟩ := trodAll_nil r0
  obtain rfl : args = #[v0] := by cases args; simp_all
  obtain ⟨rfl, rfl⟩ := trodVars_none hV
  have k0 := h0
  have lt0 : ∀ x ∈ p0, x.block < W.heap.size := by obtain ⟨m, hm⟩ := k0; exact DataW.trod_lt m _ _ _ hm
  obtain ⟨A0, len0, cap0, rfl⟩ := okWide_slice Try.underlying22 (hval 0 22 v0 rfl rfl)
  have q0 := Op.lite_arg hsz (j := 0) (t := 22) rfl rfl
  obtain ⟨l0, rfl, hc0, hk0, hr0, hg0⟩ := Op.open_arg Try.underlying22 (by kernel_rfl) (by kernel_rfl : _ = 48) (Op.opens_iso (fun x : S32 => (x.f0, x.f1)) (fun p => (⟨p.1, p.2⟩ : S32)) (fun _ => rfl) (Op.opens_struct Try.underlying32 (by kernel_rfl) (Op.opensF_cons rfl (by kernel_rfl) (Op.opens_str Try.underlying9) (Op.opensF_one rfl (by kernel_rfl) (Op.opens_iso (fun x : S30 => (x.f0, x.f1, x.f2)) (fun p => (⟨p.1, p.2.1, p.2.2⟩ : S30)) (fun _ => rfl) (Op.opens_struct Try.underlying30 (by kernel_rfl) (Op.opensF_cons rfl (by kernel_rfl) (Op.opens_int Try.underlying3) (Op.opensF_cons rfl (by kernel_rfl) (Op.opens_int Try.underlying3) (Op.opensF_one rfl (by kernel_rfl) (Op.opens_str Try.underlying9)))))))))) q0 h0
  clear hA0 hval0 hsz0 hsz
  obtain ⟨k, h⟩ := Pure.EventMakes l0 hg0
  refine (rosettelaw05_EventMakes.calls k A0 cap0 l0 true W hr0 hc0 h).mono fun e W' ⟨he, bel⟩ => ?_
  subst he
  exact ⟨_, rfl, _, _, _, [], _, [], hW', trodAll_mk1 (shut_bool Try.underlying4 _), (trodAll_cons_mk (Below.trod laidOut (by kernel_rfl) (of_decide_eq_true (by kernel_rfl)) k0 bel lt0) trodAll_mk0), rfl, bel.frame _, fun h => by cases h⟩
theorem over : Rows.eventMakesRow.holds Try.pinned (OpenSpec.ofChange Rows.eventMakesSpec) :=
  OpenClaim.holds_of_wide 3 Try.f3 rfl rfl rfl rfl rfl rfl rfl ⟨rfl, rfl, rfl, rfl, rfl⟩ rfl rfl rfl rfl rfl (by kernel_rfl) Try.func3 (by kernel_rfl)
    (of_decide_eq_true (by kernel_rfl)) (by unfold Func.isWrapper; first | (rw [if_pos (by decide +kernel)]; kernel_rfl) | (rw [if_neg (by decide +kernel)]; exact ⟨rfl, rfl⟩))
    (fun os started H enc _ => lifted os started H enc)
theorem proved : Rows.EventMakesSaid := over
#print axioms proved
end Go.Proofs.Ytmbpgebboppkmaa.eventMakes
namespace Go.Proofs.Ytmbpgebboppkmaa
/-- The row, under a short name, for the claim. -/
theorem eventMakes_holds : Rows.EventMakesSaid := eventMakes.proved
end Go.Proofs.Ytmbpgebboppkmaa
end
