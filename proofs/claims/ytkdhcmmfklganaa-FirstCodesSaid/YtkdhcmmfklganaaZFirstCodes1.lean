import Derived.Test.YtkdhcmmfklganaaZFirstCodes0
import Derived.Laws.EntriesVeiled
import Derived.Outline
import Derived.Deep.QuietTactic
import Derived.BigQuiet
section
/- first.Encode, walked -/
set_option linter.unusedVariables false
set_option linter.unusedSimpArgs false
set_option autoImplicit false
namespace Go.Proofs.Ytkdhcmmfklganaa
open Go.RowKit Go.Proofs.YtkdhcmmfklganaaW.PrintWords Go.Proofs.YtkdhcmmfklganaaW.PrintLast Go.Proofs.YtkdhcmmfklganaaW.PrintMore Go.Proofs.Ytkdhcmmfklganaa.G

section
variable {P : Program} {ops : Array Oper} {o : Oper} {a : Act} {Q : Exit → Act → World → Prop} {K : Act → World → Prop} {E : Prop}
theorem step_append_str {w0 W : World} (base : Nat) (hgd : o.guard = none) (s x : Operand) (t u e : TypeId)
    (ho : o.op = .call { callee := .builtin .append, args := #[s, x], argTypes := #[t, u] })
    (ht : P.underlying t = some (.slice e)) (hu : P.underlying u = some .string) (hinfo : (P.info? e).map (fun i => (i.zero, i.size, i.bytes)) = some (some (.int .u8 0), 1, 1))
    (v : Value) (xs : List Int) (y : ByteArray) (hs : a.eval s = v) (hx : a.eval x = .string y)
    (HO : W.ownsRow base e 1 v xs.length (nums .u8 xs)) (HB : Below base w0 W) (hbase : base ≤ W.heap.size) (hl : xs.length + y.size ≤ 140737488355328)
    (h : ∀ v1 w1, w1.ownsRow base e 1 v1 (xs ++ bytesOf y).length (nums .u8 (xs ++ bytesOf y)) → Below base w0 w1 → W.grownBy w1 v.ownBlock → K (a.put o.dst v1) w1) :
    if Region.wanted o (yielded ops a.tmps) = true then Oper.wp P o a W K Q else E := by
  rw [if_pos (by simp [Region.wanted, hgd])]
  obtain ⟨i0, hi, hzz⟩ := Option.map_eq_some_iff.1 hinfo
  simp only [Prod.mk.injEq] at hzz
  obtain ⟨hz0, hz1, hz2⟩ := hzz
  obtain ⟨v1, w1, hr, hown, hg, _⟩ := Lib.run_append_own_string (P := P) W base t u o.type e i0 ht hu hi hz0 hz1 hz2 v xs.length (nums .u8 xs) HO y (by simp only [maxLen]; omega) hl hbase
  unfold Oper.wp execOp
  simp only [ho, resolve, invoke, builtin, Sem.run_bind, Sem.run_pure, Result.andThen_ok, List.map_toArray, List.map_cons, List.map_nil, hs, hx, hr]
  have hl2 : (xs ++ bytesOf y).length = xs.length + y.size := by rw [List.length_append, bytesOf_length]
  have hc : nums .u8 (xs ++ bytesOf y) = nums .u8 xs ++ Lib.strCells y := by
    rw [nums_append]
    congr 1
    simp [nums, bytesOf, Lib.strCells]
  exact h v1 w1 (by rw [hl2, hc]; exact hown) (HB.grown hg hbase (own_base HO)) hg
end
theorem lit_reads {W : World} {gl : Nat} {y : Int} (h : W.heap[gl]? = some (.cells #[.int .u8 y] 5 (0, 0))) : ReadsInt W .u8 (some ⟨gl, 0, none⟩) 1 [y] := by
  refine ⟨rfl, by decide, fun _ => ⟨_, rfl, fun j hj => ?_⟩⟩
  have hadd : (⟨gl, 0, none⟩ : Addr).add j = ⟨gl, j, none⟩ := add_plain _ _
  obtain rfl : j = 0 := by omega
  rw [hadd, cell_of_row _ _ _ _ _ _ h]
  rfl
theorem vkeepA {W : World} {b : Nat} {o : Obj} (h : W.heap[b]? = some o) (x : Obj) : (W.alloc x).heap[b]? = some o := vkeepB h ((Below.refl _ _).alloc (Nat.le_refl _) x)
theorem new_of {W : World} {B : Nat} {v : Value} {l : List Int} (_ : Row8 W B v l) (x : Obj) : (W.alloc x).heap[W.heap.size]? = some x := heap_alloc_new W x
theorem ne_of {W : World} {B : Nat} {v : Value} {l : List Int} (h : Row8 W B v l) : some W.heap.size ≠ v.ownBlock := fun e => by have := Kd.R_lt h _ e.symm; omega
theorem ne_at {w : World} {gl : Nat} {o : Obj} {v v1 : Value} (h : some gl ≠ v.ownBlock) (hl : w.heap[gl]? = some o) (hat : At w v v1) : some gl ≠ v1.ownBlock := by
  rcases hat with hat | ⟨b, hat, hb⟩
  · rw [hat]; exact h
  · rw [hat]; intro e; cases e; have := lt_of_heap hl; omega
theorem cell_up {W W' : World} {B : Nat} {p : Addr} {v : Value} (h : W.cell? p = some v) (hb : Below B W W') (hB : B = W.heap.size) : W'.cell? p = some v := by
  subst hB
  have hlt := World.block_lt_of_cell? _ _ h
  rw [World.cell?_of_block (w := W) (hb.block _ hlt)]; exact h
/-- a range's bytes, a subscription's, a state's -/
def rgL (x : S46) : List Int := [(x.f0.size : Int)] ++ bytesOf x.f0 ++ fourB x.f1 ++ fourB x.f2
def subL (x : S40) : List Int := twoB x.f0 ++ twoB x.f1 ++ [(x.f2.length : Int)] ++ x.f2.flatMap rgL
def encL (links : List Int) (subs : List S40) : List Int := [82, 83, 84, 1] ++ [(links.length : Int)] ++ links.flatMap twoB ++ [(subs.length : Int)] ++ subs.flatMap subL
theorem flat_take {α : Type} (f : α → List Int) (l : List α) (k : Nat) (h : k < l.length) : (l.take (k + 1)).flatMap f = (l.take k).flatMap f ++ f l[k] := by
  rw [List.take_succ_eq_append_getElem h, List.flatMap_append]
  simp
/-- what a right state is -/
structure Fit (links : List Int) (subs : List S40) : Prop where
  n1 : links.length ≤ 16
  n2 : subs.length ≤ 64
  lk : ∀ n ∈ links, 0 ≤ n ∧ n ≤ 65535
  sb : ∀ x ∈ subs, (0 ≤ x.f0 ∧ x.f0 ≤ 65535) ∧ (0 ≤ x.f1 ∧ x.f1 ≤ 65535) ∧ x.f2.length ≤ 12 ∧ ∀ r ∈ x.f2, r.f0.size ≤ 16 ∧ (-2147483648 ≤ r.f1 ∧ r.f1 ≤ 2147483647) ∧ -2147483648 ≤ r.f2 ∧ r.f2 ≤ 2147483647
theorem inB_iff (n a b : Int) : inB n a b = true ↔ a ≤ n ∧ n ≤ b := by
  unfold inB
  split
  · simp; omega
  · simp; omega
theorem asc_all : ∀ (l : List Int) (last : Int), 0 ≤ last → ascB last l = true → ∀ n ∈ l, 0 ≤ n ∧ n ≤ 65535 := by
  intro l
  induction l with
  | nil => intro last _ _ n hn; cases hn
  | cons a l ih =>
    intro last h0 h n hn
    unfold ascB at h
    rw [Bool.and_eq_true, inB_iff] at h
    rcases List.mem_cons.1 hn with rfl | hn
    · omega
    · exact ih a (by omega) h.2 n hn
theorem subs_all (links : List Int) (hlk : ∀ n ∈ links, 0 ≤ n ∧ n ≤ 65535) : ∀ (l : List S40) (last : Int), 0 ≤ last → subsB links last l = true →
    ∀ x ∈ l, (0 ≤ x.f0 ∧ x.f0 ≤ 65535) ∧ (0 ≤ x.f1 ∧ x.f1 ≤ 65535) ∧ x.f2.length ≤ 12 ∧ ∀ r ∈ x.f2, r.f0.size ≤ 16 ∧ (-2147483648 ≤ r.f1 ∧ r.f1 ≤ 2147483647) ∧ -2147483648 ≤ r.f2 ∧ r.f2 ≤ 2147483647 := by
  intro l
  induction l with
  | nil => intro last _ _ n hn; cases hn
  | cons a l ih =>
    intro last h0 h x hx
    unfold subsB at h
    rw [Bool.and_eq_true, inB_iff, Bool.and_eq_true] at h
    rcases List.mem_cons.1 hx with rfl | hx
    · have hs := h.2.1
      unfold subB at hs
      simp only [Bool.and_eq_true, decide_eq_true_eq, Bool.not_eq_true', List.contains_iff_mem] at hs
      refine ⟨by omega, hlk _ hs.2.2, hs.1, fun r hr => ?_⟩
      have hw := hs.2.1
      rw [List.any_eq_false] at hw
      have hw1 := hw r hr
      unfold wrongB at hw1
      simp only [Bool.not_eq_true', Bool.not_eq_false, Bool.and_eq_true, inB_iff] at hw1
      omega
    · exact ih a.f0 (by omega) h.2.2 x hx
theorem fit_of {links : List Int} {subs : List S40} (h : rightB links subs = true) : Fit links subs := by
  unfold rightB at h
  simp only [Bool.and_eq_true, decide_eq_true_eq] at h
  have hlk := asc_all links 0 (by decide) h.1
  exact ⟨h.2.2.1, h.2.2.2, hlk, subs_all links hlk subs 0 (by decide) h.2.1⟩
theorem conv_b15 (W : World) (C : Array Value) (n c : Nat) : (convert 26 26 (.slice (some ⟨W.heap.size, 0, none⟩) n c)).run Try.prog (W.alloc (.cells C 5)) = .ok (.slice (some ⟨W.heap.size, 0, none⟩) n c) (W.alloc (.cells C 5 (C.size, C.size + 1))) := Lib.run_convert_bytes_const W 26 5 C n c Try.underlying26 Try.underlying5
theorem grow_eq {a b e c : List Int} (h : a = b) (h2 : a ++ e = c) : c = b ++ e := by rw [← h2, h]
theorem keep15 {W : World} {gf gx T : Nat} {F a b c : Value} {TF : Nat} (h : W.heap[gf]? = some (.cells #[F] TF (0, 0))) (h2 : W.heap[gx]? = some (.cells #[a, b, c] T (0, 0))) : W.cell? ⟨gf, 0, none⟩ = some F ∧ W.cell? ⟨gx, 0, none⟩ = some a ∧ W.cell? ⟨gx, 1, none⟩ = some b ∧ W.cell? ⟨gx, 2, none⟩ = some c :=
  ⟨(cells1r h).1, (cells3r h2).1⟩
theorem up15 {W W' : World} {b B : Nat} {o : Obj} (h : W.heap[b]? = some o) (hB : B = W.heap.size) (hb : Below B W W') : W'.heap[b]? = some o := by
  subst hB
  exact vkeepB h hb
theorem outs_lit (W : World) (B : Nat) : Outs .u8 5 (W.alloc (.cells #[.int .u8 82, .int .u8 83, .int .u8 84, .int .u8 1] 5 (4, 5))) B (.slice (some ⟨W.heap.size, 0, none⟩) 4 4) [82, 83, 84, 1] :=
  .inr ⟨_, rfl, lit_C W 5 .u8 [82, 83, 84, 1] (by decide) (4, 5), fun h => by cases h⟩
set_option maxRecDepth 100000 in
set_option maxHeartbeats 8000000 in
theorem wencode15 (links : List Int) (A0 : Option Addr) (c0 : Nat) (subs : List S40) (A1 : Option Addr) (c1 : Nat) (w : World) (hC0 : Kd.C (Kd.int .i64) w A0 links.length links) (hc0 : links.length ≤ c0) (hC1 : Kd.C k40 w A1 subs.length subs) (hl : links.length ≤ 9223372036854775807) :
    Calls Try.prog 10 #[.agg #[.slice A0 links.length c0, .slice A1 subs.length c1]] w fun e w' => ∃ v, e = .returned (.tuple #[v, .bool (rightB links subs)]) ∧ Row8 w' w.heap.size v (if rightB links subs = true then encL links subs else []) ∧ Below w.heap.size w w' := by
  have hr : ∀ q, q = rightB links subs → (if q = true then encL links subs else []) = (if rightB links subs = true then encL links subs else []) := fun q h => by rw [h]
  clear hr
  obtain ⟨q, hq⟩ : ∃ q, q = rightB links subs := ⟨_, rfl⟩
  rw [← hq]
  have HQ := Aside0.mk hq
  clear hq
  have hcv := conv_b15
  have hP := heap_alloc_new w (.cells #[.slice A0 links.length c0, .slice A1 subs.length c1] 25 (0, 0))
  have hB := (Below.refl w.heap.size w).alloc (Nat.le_refl _) (.cells #[.slice A0 links.length c0, .slice A1 subs.length c1] 25 (0, 0))
  have HP := Aside0.mk hP
  have HB := Aside0.mk hB
  have HRt := Aside0.mk (wright links A0 c0 subs A1 c1 _ (Kd.C_below hC0 hB) hc0 (Kd.C_below hC1 hB) hl)
  have HC0 := Aside0.mk (Kd.C_below hC0 hB)
  have HC1 := Aside0.mk (Kd.C_below hC1 hB)
  have hl1 := hC1.2.1
  clear hP hB hC0 hC1
  go_enter Try.func10, Try.ntmps10
  go_upto_region 1 with fail
  generalize w.alloc (.cells #[.slice A0 links.length c0, .slice A1 subs.length c1] 25 (0, 0)) = w1 at HP HB HC0 HC1 HRt ⊢
  obtain ⟨⟨p0, p1⟩, p2, p3⟩ := cells2r HP.out
  go_wp2_with fail
  refine HRt.out.mono ?_
  rintro e w2 ⟨rfl, hX⟩
  rw [← HQ.out]
  have HP2 := Aside0.mk (vkeepB HP.out hX)
  have HB2 := Aside0.mk (below_via6 HB.out hX)
  have HC02 := Aside0.mk (Kd.C_below HC0.out hX)
  have HC12 := Aside0.mk (Kd.C_below HC1.out hX)
  clear hX p0 p1 p2 p3 HRt HP HB HC0 HC1
  cases q with
  | false =>
    go_wp2_with fail
    go_ret2
    exact ⟨_, rfl, Kd.R_nil _ _ _ _ _, HB2.out⟩
  | true =>
  have HK := Aside0.mk (fit_of HQ.out.symm)
  clear HQ
  have HP3 := Aside0.mk (vkeepB HP2.out ((Below.refl w2.heap.size w2).alloc (Nat.le_refl _) (.cells #[(.func (.func 23) #[] #[])] 54 (0, 0))))
  have HF3 := Aside0.mk (heap_alloc_new w2 (.cells #[(.func (.func 23) #[] #[])] 54 (0, 0)))
  have HB3 := Aside0.mk (HB2.out.alloc HB2.out.size (.cells #[(.func (.func 23) #[] #[])] 54 (0, 0)))
  have HC03 := Aside0.mk (Kd.C_alloc HC02.out (.cells #[(.func (.func 23) #[] #[])] 54 (0, 0)))
  have HC13 := Aside0.mk (Kd.C_alloc HC12.out (.cells #[(.func (.func 23) #[] #[])] 54 (0, 0)))
  go_upto_region 5 with fail
  generalize w2.alloc (.cells #[(.func (.func 23) #[] #[])] 54 (0, 0)) = w3 at HP3 HF3 HB3 HC03 HC13 ⊢
  clear HP2 HB2 HC02 HC12
  generalize w2.heap.size = gf at HF3 ⊢
  obtain ⟨B, hBq⟩ : ∃ q, q = w3.heap.size := ⟨_, rfl⟩
  have HBQ := Aside0.mk hBq
  have hLb := (Below.refl w3.heap.size w3).alloc (Nat.le_refl _) (.cells #[.int .u8 82, .int .u8 83, .int .u8 84, .int .u8 1] 5 (4, 5))
  have HLB := Aside0.mk hLb
  have HLO := Aside0.mk (outs_lit w3 w3.heap.size)
  have HP5 := Aside0.mk (vkeepB HP3.out hLb)
  have HLS := Aside0.mk hLb.size
  obtain ⟨⟨p0, p1⟩, p2, p3⟩ := cells2r HP5.out
  clear hLb hBq
  have hmod : (links.length : Int) % 256 = links.length := by have := HK.out.n1; omega
  go_wp2_with (at_builtin; refine app_outs (w0 := w3) w3.heap.size rfl (.tmp 18) (.tmp 23) 26 5 .u8 1 rfl Try.underlying26 info5 (by decide) _ [82, 83, 84, 1] (links.length : Int) rfl (by rw [World.size_alloc]; rfl) HLO.out HLB.out HLS.out (by decide) ?_; intro vn wn HRn HBn; have HPn := Aside0.mk (vkeepB HP3.out HBn); obtain ⟨⟨p0n, p1n⟩, p2n, p3n⟩ := cells2r HPn.out)
  have hR : Row8 wn w3.heap.size vn ([82, 83, 84, 1] ++ [(links.length : Int)]) := HRn.out
  obtain ⟨P0, hP0⟩ : ∃ q, [82, 83, 84, 1] ++ [(links.length : Int)] = q := ⟨_, rfl⟩
  rw [hP0] at hR
  have HP0 := Aside0.mk hP0
  have HL0 := Aside0.mk (show P0.length ≤ 5 from by rw [← hP0]; simp)
  clear hP0 HRn
  obtain ⟨Ac, cc, rfl⟩ := Kd.R_slice hR
  rw [← HBQ.out] at hR HBn
  have HRc := Aside0.mk hR
  have HBc := Aside0.mk HBn
  have HSc := Aside0.mk (show B ≤ wn.heap.size from by rw [HBQ.out]; exact HBn.size)
  clear hR HBn p0 p1 p2 p3 HLB HLO HP5 HLS p0n p1n p2n p3n HPn hmod
  have hgfB : gf < B := by have := lt_of_heap HF3.out; rw [HBQ.out]; exact this
  have HWB := Aside0.mk (show w.heap.size ≤ B from by rw [HBQ.out]; exact HB3.out.size)
  have HGB := Aside0.mk hgfB
  clear hgfB
  go_loopw [6, 28] (fun v i wr => ∃ (k : Nat) (lc : List Int) (Ac : Option Addr) (cc : Nat), k ≤ links.length ∧ v = .slice Ac lc.length cc ∧ i = .int .i64 k ∧ Aside0 (lc = P0 ++ (links.take k).flatMap twoB) ∧ Aside0 (lc.length ≤ 5 + 2 * k) ∧ Aside0 (Row8 wr B (.slice Ac lc.length cc) lc) ∧ Aside0 (Below B w3 wr) ∧ Aside0 (B ≤ wr.heap.size)) (fun _ i _ => links.length - (intOf i).toNat)
  case atStart => exact ⟨0, P0, Ac, cc, Nat.zero_le _, rfl, rfl, ⟨by simp⟩, ⟨by have := HL0.out; omega⟩, HRc, HBc, HSc⟩
  case round =>
  clear HRc HBc HSc
  obtain ⟨k, lc, Ac, cc, hk, rfl, rfl, HQc, HLc, HRc, HBc, HSc⟩ := hrel
  have HFc := Aside0.mk (show wr.heap[gf]? = some (.cells #[(.func (.func 23) #[] #[])] 54 (0, 0)) from by rw [HBc.out.block _ HGB.out]; exact HF3.out)
  by_cases hlt : k < links.length
  · obtain ⟨ad, hA0, hcell⟩ := Kd.at_int (Kd.C_below HC03.out (by rw [HBQ.out] at HBc; exact HBc.out)) (k : Int) (by omega) (by omega)
    subst hA0
    rw [Int.toNat_natCast] at hcell
    have hf := flat_take twoB links k hlt
    rw [show rd links k = links[k] by simp [rd, List.getD_eq_getElem?_getD, hlt]] at hcell
    have hn := HK.out.lk links[k] (List.getElem_mem hlt)
    generalize links[k] = n at hcell hf hn
    have HN := Aside0.mk hn
    have HFT := Aside0.mk hf
    clear hf hn
    have hc1 := (cells1r HFc.out).1
    go_wp2_with fail
    (refine (wtwoB (.slice Ac lc.length cc) lc n B _ HRc.out HSc.out (by have := HLc.out; have := HK.out.n1; have := HK.out.n2; (try have := HX2.out); omega) (by have := HN.out; omega)).mono ?_; rintro e wn ⟨vn, rfl, hR, hG, hat⟩; have HFd := Aside0.mk (vkeepR HFc.out hG (Kd.R_ne HRc.out HFc.out (by decide))); have HBd := Aside0.mk (HBc.out.grown hG HSc.out (Kd.R_base HRc.out)); have HSd := Aside0.mk (Nat.le_trans HSc.out hG.size); obtain ⟨lc', hlc'⟩ : ∃ q, lc ++ twoB n = q := ⟨_, rfl⟩; rw [hlc'] at hR; have HQd := Aside0.mk (grow_eq HQc.out hlc'); have HLd := Aside0.mk (show lc'.length ≤ 7 + 2 * k from by rw [← hlc', List.length_append]; have := HLc.out; simp [twoB, fourB]; omega); clear hlc' HRc HQc HLc; obtain ⟨Ac, cc, rfl⟩ := Kd.R_slice hR; have HRc := Aside0.mk hR; have HQc := HQd; have HLc := HLd; clear hR HQd HLd; obtain ⟨lc, rfl⟩ : ∃ q, q = lc' := ⟨_, rfl⟩; clear hG hat; clear HFc HBc HSc; have HFc := HFd; have HBc := HBd; have HSc := HSd)
    go_wp2_with fail
    exact ⟨⟨k + 1, lc, Ac, cc, by omega, rfl, by go_num, ⟨by rw [HQc.out, HFT.out, List.append_assoc]⟩, ⟨by have := HLc.out; omega⟩, HRc, HBc, HSc⟩, by simp [intOf]; omega⟩
  obtain rfl : k = links.length := by omega
  have HQd := Aside0.mk (show lc = P0 ++ links.flatMap twoB from by rw [HQc.out, List.take_length])
  have HLd := Aside0.mk (show lc.length ≤ 37 from by have := HLc.out; have := HK.out.n1; omega)
  clear HQc HLc hk hlt HL0
  have HQc := HQd
  have HLc := HLd
  clear HQd HLd
  obtain ⟨⟨p0, p1⟩, p2, p3⟩ := cells2r (up15 HP3.out HBQ.out HBc.out)
  obtain ⟨v, hv⟩ : ∃ q, q = Value.slice Ac lc.length cc := ⟨_, rfl⟩
  rw [← hv] at HRc ⊢
  clear hv
  have hmod : (subs.length : Int) % 256 = subs.length := by have := HK.out.n2; omega
  go_wp2_with (at_builtin; refine app_num (w0 := w3) B rfl (.tmp 37) (.tmp 42) 26 5 .u8 1 rfl Try.underlying26 info5 (by decide) v lc (subs.length : Int) rfl rfl HRc.out HBc.out HSc.out (by have := HLc.out; omega) ?_; intro vn wn HRn HBn; have HPn := Aside0.mk (up15 HP3.out HBQ.out HBn); obtain ⟨⟨p0n, p1n⟩, p2n, p3n⟩ := cells2r HPn.out)
  have hR : Row8 wn B vn (lc ++ [(subs.length : Int)]) := HRn.out
  obtain ⟨P1, hP1⟩ : ∃ q, lc ++ [(subs.length : Int)] = q := ⟨_, rfl⟩
  rw [hP1] at hR
  have HP1 := Aside0.mk (grow_eq HQc.out hP1)
  have HL1 := Aside0.mk (show P1.length ≤ 40 from by rw [← hP1, List.length_append]; have := HLc.out; simp; omega)
  clear hP1 HRn HRc HBc HSc HQc HLc HFc p0 p1 p2 p3 p0n p1n p2n p3n HPn hmod
  obtain ⟨Ac, cc, rfl⟩ := Kd.R_slice hR
  have HRc := Aside0.mk hR
  have HBc := Aside0.mk HBn
  have HSc := Aside0.mk (show B ≤ wn.heap.size from by have := HBn.size; rw [HBQ.out] at *; exact this)
  clear hR HBn
  go_loopw [6, 47] (fun v i wr => ∃ (k : Nat) (lc : List Int) (Ac : Option Addr) (cc : Nat), k ≤ subs.length ∧ v = .slice Ac lc.length cc ∧ i = .int .i64 k ∧ Aside0 (lc = P1 ++ (subs.take k).flatMap subL) ∧ Aside0 (lc.length ≤ 40 + 400 * k) ∧ Aside0 (Row8 wr B (.slice Ac lc.length cc) lc) ∧ Aside0 (Below B w3 wr) ∧ Aside0 (B ≤ wr.heap.size)) (fun _ i _ => subs.length - (intOf i).toNat)
  case atStart => exact ⟨0, P1, Ac, cc, Nat.zero_le _, rfl, rfl, ⟨by simp⟩, ⟨by have := HL1.out; omega⟩, HRc, HBc, HSc⟩
  case round =>
  clear HRc HBc HSc
  obtain ⟨k, lc, Ac, cc, hk, rfl, rfl, HQc, HLc, HRc, HBc, HSc⟩ := hrel
  by_cases hlt : k < subs.length
  case neg =>
    obtain rfl : k = subs.length := by omega
    go_wp2_with fail
    go_ret2
    exact ⟨Value.slice Ac lc.length cc, rfl, by show Row8 _ _ _ (encL links subs); rw [← (show lc = encL links subs from by rw [HQc.out, HP1.out, ← HP0.out, List.take_length]; rfl)]; exact Kd.R_lower HRc.out HWB.out, HB3.out.trans (HBc.out.mono HWB.out)⟩
  obtain ⟨ad, Ax, cx, hA1, h0, h1, h2, hlx, hCx⟩ := at_T40 HC13.out (k : Int) (by omega) (by omega)
  subst hA1
  rw [Int.toNat_natCast] at h0 h1 h2
  have hf := flat_take subL subs k hlt
  have he : rd_T40 subs (k : Int) = subs[k] := by simp [rd_T40, List.getD_eq_getElem?_getD, hlt]
  rw [he] at h0 h1 h2 hlx hCx
  have hx := HK.out.sb subs[k] (List.getElem_mem hlt)
  generalize subs[k] = x at h0 h1 h2 hlx hCx hf hx
  clear he
  obtain ⟨f0, f1, f2⟩ := x
  simp only at h0 h1 h2 hlx hCx hx
  have HX0 := Aside0.mk hx.1
  have HX1 := Aside0.mk hx.2.1
  have HX2 := Aside0.mk hx.2.2.1
  have HX3 := Aside0.mk hx.2.2.2
  have HFS := Aside0.mk hf
  have HCX := Aside0.mk hCx
  have HLX := Aside0.mk hlx
  clear hx hf hCx hlx
  have g0 := cell_up h0 HBc.out HBQ.out
  have g1 := cell_up h1 HBc.out HBQ.out
  have g2 := cell_up h2 HBc.out HBQ.out
  clear h0 h1 h2
  obtain ⟨ox, hox⟩ : ∃ q, q = Obj.cells #[.int .i64 f0, .int .i64 f1, .slice Ax f2.length cx] 40 (0, 0) := ⟨_, rfl⟩
  have HFc := Aside0.mk (vkeepA (up15 HF3.out HBQ.out HBc.out) ox)
  have HXc := Aside0.mk (heap_alloc_new wr ox)
  have HRd := Aside0.mk (Kd.R_alloc HRc.out ox)
  have HBd := Aside0.mk (HBc.out.alloc HSc.out ox)
  have HSd := Aside0.mk (Nat.le_trans HSc.out (show wr.heap.size ≤ (wr.alloc ox).heap.size by simp))
  clear HRc HBc HSc
  have HRc : Aside0 (Row8 (wr.alloc ox) B (.slice Ac lc.length cc) lc) := HRd
  have HBc := HBd
  have HSc := HSd
  clear HRd HBd HSd
  subst hox
  go_upto_region 15 with fail
  generalize wr.alloc (.cells #[.int .i64 f0, .int .i64 f1, .slice Ax f2.length cx] 40 (0, 0)) = wx at HFc HXc HRc HBc HSc ⊢
  clear g0 g1 g2
  generalize wr.heap.size = gx at HXc ⊢
  have hmod : (f2.length : Int) % 256 = f2.length := by have := HX2.out; omega
  have hwrap := (fun n h => show IntKind.u8.wrap n = n by rw [IntKind.wrap_u8]; omega : ∀ n : Int, (0 ≤ n ∧ n ≤ 255) → IntKind.u8.wrap n = n) (f2.length : Int) (by have := HX2.out; omega)
  go_cut [6] from 51 to 65 (fun v wy => ∃ (lc' : List Int) (Ac : Option Addr) (cc : Nat), v = .slice Ac lc'.length cc ∧ Aside0 (lc' = ((P1 ++ (subs.take k).flatMap subL ++ twoB f0) ++ twoB f1) ++ [(f2.length : Int)]) ∧ Aside0 (lc'.length ≤ 45 + 400 * k) ∧ Aside0 (Row8 wy B (.slice Ac lc'.length cc) lc') ∧ Aside0 (wy.heap[gx]? = some (.cells #[.int .i64 f0, .int .i64 f1, .slice Ax f2.length cx] 40 (0, 0))) ∧ Aside0 (Below B w3 wy) ∧ Aside0 (B ≤ wy.heap.size))
  case first =>
    as_aux_lemma =>
      have hbd := below_drew (Below.refl wx.heap.size wx)
      have HFd := Aside0.mk (vkeepB HFc.out hbd)
      have HXd := Aside0.mk (vkeepB HXc.out hbd)
      have HRd : Aside0 (Row8 wx.drew B (.slice Ac lc.length cc) lc) := Aside0.mk (Kd.R_below HRc.out hbd)
      have HBd := Aside0.mk (below_drew HBc.out)
      have HSd := Aside0.mk (Nat.le_trans HSc.out hbd.size)
      clear hbd HFc HXc HRc HBc HSc
      have HFc := HFd
      have HXc := HXd
      have HRc := HRd
      have HBc := HBd
      have HSc := HSd
      clear HFd HXd HRd HBd HSd
      refine wp_region_held_drew (S := (fun W => W.cell? ⟨gf, 0, none⟩ = some (.func (.func 23) #[] #[]) ∧ W.cell? ⟨gx, 0, none⟩ = some (.int .i64 f0) ∧ W.cell? ⟨gx, 1, none⟩ = some (.int .i64 f1) ∧ W.cell? ⟨gx, 2, none⟩ = some (.slice Ax f2.length cx))) (by kernel_rfl) (keep15 HFc.out HXc.out) (fun hHeld => ?_)
      generalize wx.drew = wz at HFc HXc HRc HBc HSc hHeld ⊢
      refine wpAnyH_take (i := 0) (oi := { dst := some 51, op := Op.load 54 (Operand.tmp 4), type := 54, pos := "first.go:59", after := #[], guard := none }) (v := ?_) rfl (by kernel_rfl) (by kernel_rfl) (by kernel_rfl) (fun _ _ _ h => h) (Or.inl ⟨by rfl, ?_⟩) (by assumption) ?_
      rotate_left
      · intro w hSw
        try dsimp only at hSw
        go_simp
        all_goals with_reducible rfl
      try simp only [Act.put, List.setIfInBounds_toArray, List.set_cons_zero, List.set_cons_succ]
      refine wpAnyH_take (i := 1) (oi := { dst := some 52, op := Op.load 54 (Operand.tmp 4), type := 54, pos := "first.go:59", after := #[], guard := none }) (v := ?_) rfl (by kernel_rfl) (by kernel_rfl) (by kernel_rfl) (fun _ _ _ h => h) (Or.inl ⟨by rfl, ?_⟩) (by assumption) ?_
      rotate_left
      · intro w hSw
        try dsimp only at hSw
        go_simp
        all_goals with_reducible rfl
      try simp only [Act.put, List.setIfInBounds_toArray, List.set_cons_zero, List.set_cons_succ]
      refine wpAnyH_take (i := 2) (oi := { dst := some 53, op := Op.move (Operand.tmp 6), type := 26, pos := "first.go:59", after := #[], guard := none }) (v := ?_) rfl (by kernel_rfl) (by kernel_rfl) (by kernel_rfl) (fun _ _ _ h => h) (Or.inl ⟨by rfl, ?_⟩) (by assumption) ?_
      rotate_left
      · intro w hSw
        try dsimp only at hSw
        go_simp
        all_goals with_reducible rfl
      try simp only [Act.put, List.setIfInBounds_toArray, List.set_cons_zero, List.set_cons_succ]
      refine wpAnyH_take (i := 3) (oi := { dst := some 54, op := Op.fieldAddr 40 (Operand.tmp 10) 0, type := 0, pos := "first.go:59", after := #[], guard := none }) (v := ?_) rfl (by kernel_rfl) (by kernel_rfl) (by kernel_rfl) (fun _ _ _ h => h) (Or.inl ⟨by rfl, ?_⟩) (by assumption) ?_
      rotate_left
      · intro w hSw
        try dsimp only at hSw
        go_simp
        all_goals with_reducible rfl
      try simp only [Act.put, List.setIfInBounds_toArray, List.set_cons_zero, List.set_cons_succ]
      refine wpAnyH_take (i := 4) (oi := { dst := some 55, op := Op.load 3 (Operand.tmp 54), type := 3, pos := "first.go:59", after := #[{ on := 3, ground := Ground.data }], guard := none }) (v := ?_) rfl (by kernel_rfl) (by kernel_rfl) (by kernel_rfl) (fun _ _ _ h => h) (Or.inl ⟨by rfl, ?_⟩) (by assumption) ?_
      rotate_left
      · intro w hSw
        try dsimp only at hSw
        go_simp
        all_goals with_reducible rfl
      try simp only [Act.put, List.setIfInBounds_toArray, List.set_cons_zero, List.set_cons_succ]
      refine wpAnyH_take (i := 6) (oi := { dst := some 57, op := Op.fieldAddr 40 (Operand.tmp 10) 1, type := 0, pos := "first.go:59", after := #[], guard := none }) (v := ?_) rfl (by kernel_rfl) (by kernel_rfl) (by kernel_rfl) (fun _ _ _ h => h) (Or.inl ⟨by rfl, ?_⟩) (by assumption) ?_
      rotate_left
      · intro w hSw
        try dsimp only at hSw
        go_simp
        all_goals with_reducible rfl
      try simp only [Act.put, List.setIfInBounds_toArray, List.set_cons_zero, List.set_cons_succ]
      refine wpAnyH_take (i := 7) (oi := { dst := some 58, op := Op.load 3 (Operand.tmp 57), type := 3, pos := "first.go:59", after := #[{ on := 6, ground := Ground.data }], guard := none }) (v := ?_) rfl (by kernel_rfl) (by kernel_rfl) (by kernel_rfl) (fun _ _ _ h => h) (Or.inl ⟨by rfl, ?_⟩) (by assumption) ?_
      rotate_left
      · intro w hSw
        try dsimp only at hSw
        go_simp
        all_goals with_reducible rfl
      try simp only [Act.put, List.setIfInBounds_toArray, List.set_cons_zero, List.set_cons_succ]
      refine wpAnyH_take (i := 9) (oi := { dst := some 60, op := Op.fieldAddr 40 (Operand.tmp 10) 2, type := 0, pos := "first.go:59", after := #[], guard := none }) (v := ?_) rfl (by kernel_rfl) (by kernel_rfl) (by kernel_rfl) (fun _ _ _ h => h) (Or.inl ⟨by rfl, ?_⟩) (by assumption) ?_
      rotate_left
      · intro w hSw
        try dsimp only at hSw
        go_simp
        all_goals with_reducible rfl
      try simp only [Act.put, List.setIfInBounds_toArray, List.set_cons_zero, List.set_cons_succ]
      refine wpAnyH_take (i := 10) (oi := { dst := some 61, op := Op.load 37 (Operand.tmp 60), type := 37, pos := "first.go:59", after := #[{ on := 9, ground := Ground.data }], guard := none }) (v := ?_) rfl (by kernel_rfl) (by kernel_rfl) (by kernel_rfl) (fun _ _ _ h => h) (Or.inl ⟨by rfl, ?_⟩) (by assumption) ?_
      rotate_left
      · intro w hSw
        try dsimp only at hSw
        go_simp
        all_goals with_reducible rfl
      try simp only [Act.put, List.setIfInBounds_toArray, List.set_cons_zero, List.set_cons_succ]
      refine wpAnyH_take (i := 11) (oi := { dst := some 62, op := Op.call { callee := Callee.builtin Builtin.len, args := #[Operand.tmp 61], argTypes := #[37] }, type := 3, pos := "first.go:59", after := #[{ on := 10, ground := Ground.data }], guard := none }) (v := ?_) rfl (by kernel_rfl) (by kernel_rfl) (by kernel_rfl) (fun _ _ _ h => h) (Or.inl ⟨by rfl, ?_⟩) (by assumption) ?_
      rotate_left
      · intro w hSw
        try dsimp only at hSw
        go_simp
        all_goals with_reducible rfl
      try simp only [Act.put, List.setIfInBounds_toArray, List.set_cons_zero, List.set_cons_succ]
      refine wpAnyH_take (i := 12) (oi := { dst := some 63, op := Op.convert 3 5 (Operand.tmp 62), type := 5, pos := "first.go:59", after := #[{ on := 11, ground := Ground.data }], guard := none }) (v := ?_) rfl (by kernel_rfl) (by kernel_rfl) (by kernel_rfl) (fun _ _ _ h => h) (Or.inl ⟨by rfl, ?_⟩) (by assumption) ?_
      rotate_left
      · intro w hSw
        try dsimp only at hSw
        go_simp
        all_goals with_reducible rfl
      try simp only [Act.put, List.setIfInBounds_toArray, List.set_cons_zero, List.set_cons_succ]
      refine wpAnyH_ready (rs := [5, 13]) (by kernel_rfl) (by simp) ?_
      refine AllReadyH.cons (o := { dst := some 56, op := Op.call { callee := Callee.value (Operand.tmp 52), args := #[Operand.tmp 53, Operand.tmp 55], argTypes := #[26, 3] }, type := 26, pos := "first.go:59", after := #[{ on := 1, ground := Ground.data }, { on := 2, ground := Ground.data }, { on := 4, ground := Ground.data }], guard := none }) rfl (fun K hK => ?_) ?_
      · skip
        go_simp
        (refine (wtwoB (.slice Ac lc.length cc) lc f0 B _ HRc.out HSc.out (by have := HLc.out; have := HK.out.n1; have := HK.out.n2; (try have := HX2.out); omega) (by have := HX0.out; omega)).mono ?_; rintro e wn ⟨vn, rfl, hR, hG, hat⟩; have HFd := Aside0.mk (vkeepR HFc.out hG (Kd.R_ne HRc.out HFc.out (by decide))); have HXd := Aside0.mk (vkeepR HXc.out hG (Kd.R_ne HRc.out HXc.out (by decide))); (try have HTd := Aside0.mk (vkeepR HTc.out hG HNc.out)); (try have HNd := Aside0.mk (ne_at HNc.out HTc.out hat)); have HBd := Aside0.mk (HBc.out.grown hG HSc.out (Kd.R_base HRc.out)); have HSd := Aside0.mk (Nat.le_trans HSc.out hG.size); obtain ⟨lc', hlc'⟩ : ∃ q, lc ++ twoB f0 = q := ⟨_, rfl⟩; rw [hlc'] at hR; have HQd := Aside0.mk (grow_eq HQc.out hlc'); have HLd := Aside0.mk (show lc'.length ≤ 42 + 400 * k from by rw [← hlc', List.length_append]; have := HLc.out; simp [twoB, fourB]; omega); clear hlc' HRc HQc HLc; obtain ⟨Ac, cc, rfl⟩ := Kd.R_slice hR; have HRc := Aside0.mk hR; have HQc := HQd; have HLc := HLd; clear hR HQd HLd; obtain ⟨lc, rfl⟩ : ∃ q, q = lc' := ⟨_, rfl⟩; clear hG hat; clear HFc HBc HSc HXc; have HFc := HFd; have HBc := HBd; have HSc := HSd; have HXc := HXd; (try have HTc := HTd); (try have HNc := HNd))
        go_wp2_with fail
        refine hK.out _ _ (keep15 HFc.out HXc.out) (fun hHeld => ?_)
        clear hK K
        try simp only [Act.put, List.setIfInBounds_toArray, List.set_cons_zero, List.set_cons_succ]
        refine wpAnyH_ready (rs := [8, 13]) (by kernel_rfl) (by simp) ?_
        refine AllReadyH.cons (o := { dst := some 59, op := Op.call { callee := Callee.value (Operand.tmp 51), args := #[Operand.tmp 56, Operand.tmp 58], argTypes := #[26, 3] }, type := 26, pos := "first.go:59", after := #[{ on := 0, ground := Ground.data }, { on := 5, ground := Ground.data }, { on := 7, ground := Ground.data }, { on := 5, ground := Ground.chain }], guard := none }) rfl (fun K hK => ?_) ?_
        · skip
          go_simp
          (refine (wtwoB (.slice Ac lc.length cc) lc f1 B _ HRc.out HSc.out (by have := HLc.out; have := HK.out.n1; have := HK.out.n2; (try have := HX2.out); omega) (by have := HX1.out; omega)).mono ?_; rintro e wn ⟨vn, rfl, hR, hG, hat⟩; have HFd := Aside0.mk (vkeepR HFc.out hG (Kd.R_ne HRc.out HFc.out (by decide))); have HXd := Aside0.mk (vkeepR HXc.out hG (Kd.R_ne HRc.out HXc.out (by decide))); (try have HTd := Aside0.mk (vkeepR HTc.out hG HNc.out)); (try have HNd := Aside0.mk (ne_at HNc.out HTc.out hat)); have HBd := Aside0.mk (HBc.out.grown hG HSc.out (Kd.R_base HRc.out)); have HSd := Aside0.mk (Nat.le_trans HSc.out hG.size); obtain ⟨lc', hlc'⟩ : ∃ q, lc ++ twoB f1 = q := ⟨_, rfl⟩; rw [hlc'] at hR; have HQd := Aside0.mk (grow_eq HQc.out hlc'); have HLd := Aside0.mk (show lc'.length ≤ 44 + 400 * k from by rw [← hlc', List.length_append]; have := HLc.out; simp [twoB, fourB]; omega); clear hlc' HRc HQc HLc; obtain ⟨Ac, cc, rfl⟩ := Kd.R_slice hR; have HRc := Aside0.mk hR; have HQc := HQd; have HLc := HLd; clear hR HQd HLd; obtain ⟨lc, rfl⟩ : ∃ q, q = lc' := ⟨_, rfl⟩; clear hG hat; clear HFc HBc HSc HXc; have HFc := HFd; have HBc := HBd; have HSc := HSd; have HXc := HXd; (try have HTc := HTd); (try have HNc := HNd))
          go_wp2_with fail
          refine hK.out _ _ (keep15 HFc.out HXc.out) (fun hHeld => ?_)
          clear hK K
          try simp only [Act.put, List.setIfInBounds_toArray, List.set_cons_zero, List.set_cons_succ]
          refine wpAnyH_ready (rs := [13]) (by kernel_rfl) (by simp) ?_
          refine AllReadyH.cons (o := { dst := some 64, op := Op.buildSlice 26 1 #[(0, Operand.tmp 63)], type := 26, pos := "first.go:59", after := #[{ on := 12, ground := Ground.data }], guard := none }) rfl (fun K hK => ?_) AllReadyH.nil
          go_simp
          ((try rw [hwrap]); have HTc := Aside0.mk (new_of HRc.out (.cells #[.int .u8 f2.length] 5 (0, 0))); have HNc := Aside0.mk (ne_of HRc.out); have HRd := Aside0.mk (Kd.R_alloc HRc.out (.cells #[.int .u8 f2.length] 5 (0, 0))); have HFd := Aside0.mk (vkeepA HFc.out (.cells #[.int .u8 f2.length] 5 (0, 0))); have HXd := Aside0.mk (vkeepA HXc.out (.cells #[.int .u8 f2.length] 5 (0, 0))); have HBd := Aside0.mk (HBc.out.alloc HSc.out (.cells #[.int .u8 f2.length] 5 (0, 0))); have HSd := Aside0.mk (Nat.le_trans HSc.out (show _ ≤ (_ : World).heap.size from (World.grownBy_alloc _ (.cells #[.int .u8 f2.length] 5 (0, 0)) none).size)); clear HRc HFc HXc HBc HSc; have HRc : Aside0 (Row8 _ B (.slice Ac lc.length cc) lc) := HRd; have HFc := HFd; have HXc := HXd; have HBc := HBd; have HSc := HSd)
          refine hK.out _ _ (keep15 HFc.out HXc.out) (fun hHeld => ?_)
          clear hK K
          try simp only [Act.put, List.setIfInBounds_toArray, List.set_cons_zero, List.set_cons_succ]
          refine wpAnyH_ready (rs := [14]) (by kernel_rfl) (by simp) ?_
          refine AllReadyH.cons (o := { dst := some 65, op := Op.call { callee := Callee.builtin Builtin.append, args := #[Operand.tmp 59, Operand.tmp 64], argTypes := #[26, 26] }, type := 26, pos := "first.go:59", after := #[{ on := 8, ground := Ground.data }, { on := 13, ground := Ground.data }, { on := 8, ground := Ground.chain }], guard := none }) rfl (fun K hK => ?_) AllReadyH.nil
          (refine step_append_row (w0 := w3) B rfl (.tmp 59) (.tmp 64) 26 5 .u8 1 rfl Try.underlying26 info5 (by decide) (.slice Ac lc.length cc) lc [(f2.length : Int)] _ 1 1 rfl rfl (kd_own HRc.out) (lit_reads HTc.out) HBc.out HSc.out (by have := HLc.out; have := HK.out.n1; have := HK.out.n2; (try have := HX2.out); omega) ?_; intro vn wn ho hBn hG; have hR : Row8 wn B vn (lc ++ [(f2.length : Int)]) := kd_R ho; clear ho hBn; have HFd := Aside0.mk (vkeepR HFc.out hG (Kd.R_ne HRc.out HFc.out (by decide))); have HXd := Aside0.mk (vkeepR HXc.out hG (Kd.R_ne HRc.out HXc.out (by decide))); have HBd := Aside0.mk (HBc.out.grown hG HSc.out (Kd.R_base HRc.out)); have HSd := Aside0.mk (Nat.le_trans HSc.out hG.size); obtain ⟨lc', hlc'⟩ : ∃ q, lc ++ [(f2.length : Int)] = q := ⟨_, rfl⟩; rw [hlc'] at hR; have HQd := Aside0.mk (grow_eq HQc.out hlc'); have HLd := Aside0.mk (show lc'.length ≤ 45 + 400 * k from by rw [← hlc', List.length_append]; have := HLc.out; simp; omega); clear hlc' HRc HQc HLc; obtain ⟨Ac, cc, rfl⟩ := Kd.R_slice hR; have HRc := Aside0.mk hR; have HQc := HQd; have HLc := HLd; clear hR HQd HLd; obtain ⟨lc, rfl⟩ : ∃ q, q = lc' := ⟨_, rfl⟩; clear hG; clear HFc HBc HSc HXc; have HFc := HFd; have HBc := HBd; have HSc := HSd; have HXc := HXd)
          refine hK.out _ _ (keep15 HFc.out HXc.out) (fun hHeld => ?_)
          clear hK K
          try simp only [Act.put, List.setIfInBounds_toArray, List.set_cons_zero, List.set_cons_succ]
          refine wpAnyH_take (i := 15) (oi := { dst := some 6, op := Op.assign (Operand.tmp 65), type := 26, pos := "first.go:59", after := #[{ on := 14, ground := Ground.data }, { on := 14, ground := Ground.chain }, { on := 0, ground := Ground.phase }, { on := 1, ground := Ground.phase }, { on := 2, ground := Ground.phase }, { on := 3, ground := Ground.phase }, { on := 4, ground := Ground.phase }, { on := 5, ground := Ground.phase }, { on := 6, ground := Ground.phase }, { on := 7, ground := Ground.phase }, { on := 8, ground := Ground.phase }, { on := 9, ground := Ground.phase }, { on := 10, ground := Ground.phase }, { on := 11, ground := Ground.phase }, { on := 12, ground := Ground.phase }, { on := 13, ground := Ground.phase }, { on := 14, ground := Ground.phase }], guard := none }) (v := ?_) rfl (by kernel_rfl) (by kernel_rfl) (by kernel_rfl) (fun _ _ _ h => h) (Or.inl ⟨by rfl, ?_⟩) (by assumption) ?_
          rotate_left
          · intro w hSw
            try dsimp only at hSw
            go_simp
            all_goals with_reducible rfl
          try simp only [Act.put, List.setIfInBounds_toArray, List.set_cons_zero, List.set_cons_succ]
          refine wpAnyH_done (by kernel_rfl) ?_ _
          go_wp2_with fail
          go_meet
          exact ⟨lc, Ac, cc, rfl, HQc, HLc, HRc, HXc, HBc, HSc⟩
        refine AllReadyH.cons (o := { dst := some 64, op := Op.buildSlice 26 1 #[(0, Operand.tmp 63)], type := 26, pos := "first.go:59", after := #[{ on := 12, ground := Ground.data }], guard := none }) rfl (fun K hK => ?_) AllReadyH.nil
        go_simp
        ((try rw [hwrap]); have HTc := Aside0.mk (new_of HRc.out (.cells #[.int .u8 f2.length] 5 (0, 0))); have HNc := Aside0.mk (ne_of HRc.out); have HRd := Aside0.mk (Kd.R_alloc HRc.out (.cells #[.int .u8 f2.length] 5 (0, 0))); have HFd := Aside0.mk (vkeepA HFc.out (.cells #[.int .u8 f2.length] 5 (0, 0))); have HXd := Aside0.mk (vkeepA HXc.out (.cells #[.int .u8 f2.length] 5 (0, 0))); have HBd := Aside0.mk (HBc.out.alloc HSc.out (.cells #[.int .u8 f2.length] 5 (0, 0))); have HSd := Aside0.mk (Nat.le_trans HSc.out (show _ ≤ (_ : World).heap.size from (World.grownBy_alloc _ (.cells #[.int .u8 f2.length] 5 (0, 0)) none).size)); clear HRc HFc HXc HBc HSc; have HRc : Aside0 (Row8 _ B (.slice Ac lc.length cc) lc) := HRd; have HFc := HFd; have HXc := HXd; have HBc := HBd; have HSc := HSd)
        refine hK.out _ _ (keep15 HFc.out HXc.out) (fun hHeld => ?_)
        clear hK K
        try simp only [Act.put, List.setIfInBounds_toArray, List.set_cons_zero, List.set_cons_succ]
        refine wpAnyH_ready (rs := [8]) (by kernel_rfl) (by simp) ?_
        refine AllReadyH.cons (o := { dst := some 59, op := Op.call { callee := Callee.value (Operand.tmp 51), args := #[Operand.tmp 56, Operand.tmp 58], argTypes := #[26, 3] }, type := 26, pos := "first.go:59", after := #[{ on := 0, ground := Ground.data }, { on := 5, ground := Ground.data }, { on := 7, ground := Ground.data }, { on := 5, ground := Ground.chain }], guard := none }) rfl (fun K hK => ?_) AllReadyH.nil
        go_simp
        (refine (wtwoB (.slice Ac lc.length cc) lc f1 B _ HRc.out HSc.out (by have := HLc.out; have := HK.out.n1; have := HK.out.n2; (try have := HX2.out); omega) (by have := HX1.out; omega)).mono ?_; rintro e wn ⟨vn, rfl, hR, hG, hat⟩; have HFd := Aside0.mk (vkeepR HFc.out hG (Kd.R_ne HRc.out HFc.out (by decide))); have HXd := Aside0.mk (vkeepR HXc.out hG (Kd.R_ne HRc.out HXc.out (by decide))); (try have HTd := Aside0.mk (vkeepR HTc.out hG HNc.out)); (try have HNd := Aside0.mk (ne_at HNc.out HTc.out hat)); have HBd := Aside0.mk (HBc.out.grown hG HSc.out (Kd.R_base HRc.out)); have HSd := Aside0.mk (Nat.le_trans HSc.out hG.size); obtain ⟨lc', hlc'⟩ : ∃ q, lc ++ twoB f1 = q := ⟨_, rfl⟩; rw [hlc'] at hR; have HQd := Aside0.mk (grow_eq HQc.out hlc'); have HLd := Aside0.mk (show lc'.length ≤ 44 + 400 * k from by rw [← hlc', List.length_append]; have := HLc.out; simp [twoB, fourB]; omega); clear hlc' HRc HQc HLc; obtain ⟨Ac, cc, rfl⟩ := Kd.R_slice hR; have HRc := Aside0.mk hR; have HQc := HQd; have HLc := HLd; clear hR HQd HLd; obtain ⟨lc, rfl⟩ : ∃ q, q = lc' := ⟨_, rfl⟩; clear hG hat; clear HFc HBc HSc HXc; have HFc := HFd; have HBc := HBd; have HSc := HSd; have HXc := HXd; (try have HTc := HTd); (try have HNc := HNd))
        go_wp2_with fail
        refine hK.out _ _ (keep15 HFc.out HXc.out) (fun hHeld => ?_)
        clear hK K
        try simp only [Act.put, List.setIfInBounds_toArray, List.set_cons_zero, List.set_cons_succ]
        refine wpAnyH_ready (rs := [14]) (by kernel_rfl) (by simp) ?_
        refine AllReadyH.cons (o := { dst := some 65, op := Op.call { callee := Callee.builtin Builtin.append, args := #[Operand.tmp 59, Operand.tmp 64], argTypes := #[26, 26] }, type := 26, pos := "first.go:59", after := #[{ on := 8, ground := Ground.data }, { on := 13, ground := Ground.data }, { on := 8, ground := Ground.chain }], guard := none }) rfl (fun K hK => ?_) AllReadyH.nil
        (refine step_append_row (w0 := w3) B rfl (.tmp 59) (.tmp 64) 26 5 .u8 1 rfl Try.underlying26 info5 (by decide) (.slice Ac lc.length cc) lc [(f2.length : Int)] _ 1 1 rfl rfl (kd_own HRc.out) (lit_reads HTc.out) HBc.out HSc.out (by have := HLc.out; have := HK.out.n1; have := HK.out.n2; (try have := HX2.out); omega) ?_; intro vn wn ho hBn hG; have hR : Row8 wn B vn (lc ++ [(f2.length : Int)]) := kd_R ho; clear ho hBn; have HFd := Aside0.mk (vkeepR HFc.out hG (Kd.R_ne HRc.out HFc.out (by decide))); have HXd := Aside0.mk (vkeepR HXc.out hG (Kd.R_ne HRc.out HXc.out (by decide))); have HBd := Aside0.mk (HBc.out.grown hG HSc.out (Kd.R_base HRc.out)); have HSd := Aside0.mk (Nat.le_trans HSc.out hG.size); obtain ⟨lc', hlc'⟩ : ∃ q, lc ++ [(f2.length : Int)] = q := ⟨_, rfl⟩; rw [hlc'] at hR; have HQd := Aside0.mk (grow_eq HQc.out hlc'); have HLd := Aside0.mk (show lc'.length ≤ 45 + 400 * k from by rw [← hlc', List.length_append]; have := HLc.out; simp; omega); clear hlc' HRc HQc HLc; obtain ⟨Ac, cc, rfl⟩ := Kd.R_slice hR; have HRc := Aside0.mk hR; have HQc := HQd; have HLc := HLd; clear hR HQd HLd; obtain ⟨lc, rfl⟩ : ∃ q, q = lc' := ⟨_, rfl⟩; clear hG; clear HFc HBc HSc HXc; have HFc := HFd; have HBc := HBd; have HSc := HSd; have HXc := HXd)
        refine hK.out _ _ (keep15 HFc.out HXc.out) (fun hHeld => ?_)
        clear hK K
        try simp only [Act.put, List.setIfInBounds_toArray, List.set_cons_zero, List.set_cons_succ]
        refine wpAnyH_take (i := 15) (oi := { dst := some 6, op := Op.assign (Operand.tmp 65), type := 26, pos := "first.go:59", after := #[{ on := 14, ground := Ground.data }, { on := 14, ground := Ground.chain }, { on := 0, ground := Ground.phase }, { on := 1, ground := Ground.phase }, { on := 2, ground := Ground.phase }, { on := 3, ground := Ground.phase }, { on := 4, ground := Ground.phase }, { on := 5, ground := Ground.phase }, { on := 6, ground := Ground.phase }, { on := 7, ground := Ground.phase }, { on := 8, ground := Ground.phase }, { on := 9, ground := Ground.phase }, { on := 10, ground := Ground.phase }, { on := 11, ground := Ground.phase }, { on := 12, ground := Ground.phase }, { on := 13, ground := Ground.phase }, { on := 14, ground := Ground.phase }], guard := none }) (v := ?_) rfl (by kernel_rfl) (by kernel_rfl) (by kernel_rfl) (fun _ _ _ h => h) (Or.inl ⟨by rfl, ?_⟩) (by assumption) ?_
        rotate_left
        · intro w hSw
          try dsimp only at hSw
          go_simp
          all_goals with_reducible rfl
        try simp only [Act.put, List.setIfInBounds_toArray, List.set_cons_zero, List.set_cons_succ]
        refine wpAnyH_done (by kernel_rfl) ?_ _
        go_wp2_with fail
        go_meet
        exact ⟨lc, Ac, cc, rfl, HQc, HLc, HRc, HXc, HBc, HSc⟩
      refine AllReadyH.cons (o := { dst := some 64, op := Op.buildSlice 26 1 #[(0, Operand.tmp 63)], type := 26, pos := "first.go:59", after := #[{ on := 12, ground := Ground.data }], guard := none }) rfl (fun K hK => ?_) AllReadyH.nil
      go_simp
      ((try rw [hwrap]); have HTc := Aside0.mk (new_of HRc.out (.cells #[.int .u8 f2.length] 5 (0, 0))); have HNc := Aside0.mk (ne_of HRc.out); have HRd := Aside0.mk (Kd.R_alloc HRc.out (.cells #[.int .u8 f2.length] 5 (0, 0))); have HFd := Aside0.mk (vkeepA HFc.out (.cells #[.int .u8 f2.length] 5 (0, 0))); have HXd := Aside0.mk (vkeepA HXc.out (.cells #[.int .u8 f2.length] 5 (0, 0))); have HBd := Aside0.mk (HBc.out.alloc HSc.out (.cells #[.int .u8 f2.length] 5 (0, 0))); have HSd := Aside0.mk (Nat.le_trans HSc.out (show _ ≤ (_ : World).heap.size from (World.grownBy_alloc _ (.cells #[.int .u8 f2.length] 5 (0, 0)) none).size)); clear HRc HFc HXc HBc HSc; have HRc : Aside0 (Row8 _ B (.slice Ac lc.length cc) lc) := HRd; have HFc := HFd; have HXc := HXd; have HBc := HBd; have HSc := HSd)
      refine hK.out _ _ (keep15 HFc.out HXc.out) (fun hHeld => ?_)
      clear hK K
      try simp only [Act.put, List.setIfInBounds_toArray, List.set_cons_zero, List.set_cons_succ]
      refine wpAnyH_ready (rs := [5]) (by kernel_rfl) (by simp) ?_
      refine AllReadyH.cons (o := { dst := some 56, op := Op.call { callee := Callee.value (Operand.tmp 52), args := #[Operand.tmp 53, Operand.tmp 55], argTypes := #[26, 3] }, type := 26, pos := "first.go:59", after := #[{ on := 1, ground := Ground.data }, { on := 2, ground := Ground.data }, { on := 4, ground := Ground.data }], guard := none }) rfl (fun K hK => ?_) AllReadyH.nil
      go_simp
      (refine (wtwoB (.slice Ac lc.length cc) lc f0 B _ HRc.out HSc.out (by have := HLc.out; have := HK.out.n1; have := HK.out.n2; (try have := HX2.out); omega) (by have := HX0.out; omega)).mono ?_; rintro e wn ⟨vn, rfl, hR, hG, hat⟩; have HFd := Aside0.mk (vkeepR HFc.out hG (Kd.R_ne HRc.out HFc.out (by decide))); have HXd := Aside0.mk (vkeepR HXc.out hG (Kd.R_ne HRc.out HXc.out (by decide))); (try have HTd := Aside0.mk (vkeepR HTc.out hG HNc.out)); (try have HNd := Aside0.mk (ne_at HNc.out HTc.out hat)); have HBd := Aside0.mk (HBc.out.grown hG HSc.out (Kd.R_base HRc.out)); have HSd := Aside0.mk (Nat.le_trans HSc.out hG.size); obtain ⟨lc', hlc'⟩ : ∃ q, lc ++ twoB f0 = q := ⟨_, rfl⟩; rw [hlc'] at hR; have HQd := Aside0.mk (grow_eq HQc.out hlc'); have HLd := Aside0.mk (show lc'.length ≤ 42 + 400 * k from by rw [← hlc', List.length_append]; have := HLc.out; simp [twoB, fourB]; omega); clear hlc' HRc HQc HLc; obtain ⟨Ac, cc, rfl⟩ := Kd.R_slice hR; have HRc := Aside0.mk hR; have HQc := HQd; have HLc := HLd; clear hR HQd HLd; obtain ⟨lc, rfl⟩ : ∃ q, q = lc' := ⟨_, rfl⟩; clear hG hat; clear HFc HBc HSc HXc; have HFc := HFd; have HBc := HBd; have HSc := HSd; have HXc := HXd; (try have HTc := HTd); (try have HNc := HNd))
      go_wp2_with fail
      refine hK.out _ _ (keep15 HFc.out HXc.out) (fun hHeld => ?_)
      clear hK K
      try simp only [Act.put, List.setIfInBounds_toArray, List.set_cons_zero, List.set_cons_succ]
      refine wpAnyH_ready (rs := [8]) (by kernel_rfl) (by simp) ?_
      refine AllReadyH.cons (o := { dst := some 59, op := Op.call { callee := Callee.value (Operand.tmp 51), args := #[Operand.tmp 56, Operand.tmp 58], argTypes := #[26, 3] }, type := 26, pos := "first.go:59", after := #[{ on := 0, ground := Ground.data }, { on := 5, ground := Ground.data }, { on := 7, ground := Ground.data }, { on := 5, ground := Ground.chain }], guard := none }) rfl (fun K hK => ?_) AllReadyH.nil
      go_simp
      (refine (wtwoB (.slice Ac lc.length cc) lc f1 B _ HRc.out HSc.out (by have := HLc.out; have := HK.out.n1; have := HK.out.n2; (try have := HX2.out); omega) (by have := HX1.out; omega)).mono ?_; rintro e wn ⟨vn, rfl, hR, hG, hat⟩; have HFd := Aside0.mk (vkeepR HFc.out hG (Kd.R_ne HRc.out HFc.out (by decide))); have HXd := Aside0.mk (vkeepR HXc.out hG (Kd.R_ne HRc.out HXc.out (by decide))); (try have HTd := Aside0.mk (vkeepR HTc.out hG HNc.out)); (try have HNd := Aside0.mk (ne_at HNc.out HTc.out hat)); have HBd := Aside0.mk (HBc.out.grown hG HSc.out (Kd.R_base HRc.out)); have HSd := Aside0.mk (Nat.le_trans HSc.out hG.size); obtain ⟨lc', hlc'⟩ : ∃ q, lc ++ twoB f1 = q := ⟨_, rfl⟩; rw [hlc'] at hR; have HQd := Aside0.mk (grow_eq HQc.out hlc'); have HLd := Aside0.mk (show lc'.length ≤ 44 + 400 * k from by rw [← hlc', List.length_append]; have := HLc.out; simp [twoB, fourB]; omega); clear hlc' HRc HQc HLc; obtain ⟨Ac, cc, rfl⟩ := Kd.R_slice hR; have HRc := Aside0.mk hR; have HQc := HQd; have HLc := HLd; clear hR HQd HLd; obtain ⟨lc, rfl⟩ : ∃ q, q = lc' := ⟨_, rfl⟩; clear hG hat; clear HFc HBc HSc HXc; have HFc := HFd; have HBc := HBd; have HSc := HSd; have HXc := HXd; (try have HTc := HTd); (try have HNc := HNd))
      go_wp2_with fail
      refine hK.out _ _ (keep15 HFc.out HXc.out) (fun hHeld => ?_)
      clear hK K
      try simp only [Act.put, List.setIfInBounds_toArray, List.set_cons_zero, List.set_cons_succ]
      refine wpAnyH_ready (rs := [14]) (by kernel_rfl) (by simp) ?_
      refine AllReadyH.cons (o := { dst := some 65, op := Op.call { callee := Callee.builtin Builtin.append, args := #[Operand.tmp 59, Operand.tmp 64], argTypes := #[26, 26] }, type := 26, pos := "first.go:59", after := #[{ on := 8, ground := Ground.data }, { on := 13, ground := Ground.data }, { on := 8, ground := Ground.chain }], guard := none }) rfl (fun K hK => ?_) AllReadyH.nil
      (refine step_append_row (w0 := w3) B rfl (.tmp 59) (.tmp 64) 26 5 .u8 1 rfl Try.underlying26 info5 (by decide) (.slice Ac lc.length cc) lc [(f2.length : Int)] _ 1 1 rfl rfl (kd_own HRc.out) (lit_reads HTc.out) HBc.out HSc.out (by have := HLc.out; have := HK.out.n1; have := HK.out.n2; (try have := HX2.out); omega) ?_; intro vn wn ho hBn hG; have hR : Row8 wn B vn (lc ++ [(f2.length : Int)]) := kd_R ho; clear ho hBn; have HFd := Aside0.mk (vkeepR HFc.out hG (Kd.R_ne HRc.out HFc.out (by decide))); have HXd := Aside0.mk (vkeepR HXc.out hG (Kd.R_ne HRc.out HXc.out (by decide))); have HBd := Aside0.mk (HBc.out.grown hG HSc.out (Kd.R_base HRc.out)); have HSd := Aside0.mk (Nat.le_trans HSc.out hG.size); obtain ⟨lc', hlc'⟩ : ∃ q, lc ++ [(f2.length : Int)] = q := ⟨_, rfl⟩; rw [hlc'] at hR; have HQd := Aside0.mk (grow_eq HQc.out hlc'); have HLd := Aside0.mk (show lc'.length ≤ 45 + 400 * k from by rw [← hlc', List.length_append]; have := HLc.out; simp; omega); clear hlc' HRc HQc HLc; obtain ⟨Ac, cc, rfl⟩ := Kd.R_slice hR; have HRc := Aside0.mk hR; have HQc := HQd; have HLc := HLd; clear hR HQd HLd; obtain ⟨lc, rfl⟩ : ∃ q, q = lc' := ⟨_, rfl⟩; clear hG; clear HFc HBc HSc HXc; have HFc := HFd; have HBc := HBd; have HSc := HSd; have HXc := HXd)
      refine hK.out _ _ (keep15 HFc.out HXc.out) (fun hHeld => ?_)
      clear hK K
      try simp only [Act.put, List.setIfInBounds_toArray, List.set_cons_zero, List.set_cons_succ]
      refine wpAnyH_take (i := 15) (oi := { dst := some 6, op := Op.assign (Operand.tmp 65), type := 26, pos := "first.go:59", after := #[{ on := 14, ground := Ground.data }, { on := 14, ground := Ground.chain }, { on := 0, ground := Ground.phase }, { on := 1, ground := Ground.phase }, { on := 2, ground := Ground.phase }, { on := 3, ground := Ground.phase }, { on := 4, ground := Ground.phase }, { on := 5, ground := Ground.phase }, { on := 6, ground := Ground.phase }, { on := 7, ground := Ground.phase }, { on := 8, ground := Ground.phase }, { on := 9, ground := Ground.phase }, { on := 10, ground := Ground.phase }, { on := 11, ground := Ground.phase }, { on := 12, ground := Ground.phase }, { on := 13, ground := Ground.phase }, { on := 14, ground := Ground.phase }], guard := none }) (v := ?_) rfl (by kernel_rfl) (by kernel_rfl) (by kernel_rfl) (fun _ _ _ h => h) (Or.inl ⟨by rfl, ?_⟩) (by assumption) ?_
      rotate_left
      · intro w hSw
        try dsimp only at hSw
        go_simp
        all_goals with_reducible rfl
      try simp only [Act.put, List.setIfInBounds_toArray, List.set_cons_zero, List.set_cons_succ]
      refine wpAnyH_done (by kernel_rfl) ?_ _
      go_wp2_with fail
      go_meet
      exact ⟨lc, Ac, cc, rfl, HQc, HLc, HRc, HXc, HBc, HSc⟩
  case rest =>
    as_aux_lemma =>
      clear HRc HBc HSc HXc HQc HLc HFc hmod hwrap
      obtain ⟨lc, Ac, cc, rfl, HQc, HLc, HRc, HXc, HBc, HSc⟩ := hcut
      obtain ⟨P2, hP2⟩ : ∃ q, q = lc := ⟨_, rfl⟩
      have HP2 := Aside0.mk (show P2 = _ from hP2.trans HQc.out)
      have HL2 := Aside0.mk (show P2.length ≤ 45 + 400 * k from by rw [hP2]; exact HLc.out)
      rw [← hP2] at HRc ⊢
      clear hP2 HQc HLc
      obtain ⟨⟨q0, q1, q2⟩, q3, q4, q5⟩ := cells3r HXc.out
      go_wp2_with fail
      clear q0 q1 q2 q3 q4 q5 HXc
      go_loopw [6, 69] (fun v i wr => ∃ (j : Nat) (lc : List Int) (Ac : Option Addr) (cc : Nat), j ≤ f2.length ∧ v = .slice Ac lc.length cc ∧ i = .int .i64 j ∧ Aside0 (lc = P2 ++ (f2.take j).flatMap rgL) ∧ Aside0 (lc.length ≤ 45 + 400 * k + 25 * j) ∧ Aside0 (Row8 wr B (.slice Ac lc.length cc) lc) ∧ Aside0 (Below B w3 wr) ∧ Aside0 (B ≤ wr.heap.size)) (fun _ i _ => f2.length - (intOf i).toNat)
      case atStart => exact ⟨0, P2, Ac, cc, Nat.zero_le _, rfl, rfl, ⟨by simp⟩, ⟨by have := HL2.out; omega⟩, HRc, HBc, HSc⟩
      case round =>
      clear HRc HBc HSc
      obtain ⟨j, lc, Ac, cc, hj, rfl, rfl, HQc, HLc, HRc, HBc, HSc⟩ := hrel
      by_cases hjt : j < f2.length
      case neg =>
        obtain rfl : j = f2.length := by omega
        go_wp2_with fail
        exact ⟨⟨k + 1, lc, Ac, cc, by omega, rfl, by go_num, ⟨by rw [HQc.out, List.take_length, HP2.out, HFS.out]; simp [subL, List.append_assoc]⟩, ⟨by have := HLc.out; have := HX2.out; omega⟩, HRc, HBc, HSc⟩, by simp [intOf]; omega⟩
      obtain ⟨ar, hA2, h0, h1, h2⟩ := at_T46 HCX.out (j : Int) (by omega) (by omega)
      subst hA2
      rw [Int.toNat_natCast] at h0 h1 h2
      have hf := flat_take rgL f2 j hjt
      have he : rd_T46 f2 (j : Int) = f2[j] := by simp [rd_T46, List.getD_eq_getElem?_getD, hjt]
      rw [he] at h0 h1 h2
      have hx := HX3.out f2[j] (List.getElem_mem hjt)
      generalize f2[j] = r at h0 h1 h2 hf hx
      clear he
      obtain ⟨r0, r1, r2⟩ := r
      simp only at h0 h1 h2 hx
      have hwl : wrap64 ((j : Int) + 1) = (j : Int) + 1 := by have := HX2.out; unfold wrap64; omega
      have HY := Aside0.mk hx.1
      have HZ1 := Aside0.mk hx.2.1
      have HZ2 := Aside0.mk hx.2.2
      have HFR := Aside0.mk hf
      clear hx hf
      have g0 := cell_up h0 HBc.out HBQ.out
      have g1 := cell_up h1 HBc.out HBQ.out
      have g2 := cell_up h2 HBc.out HBQ.out
      clear h0 h1 h2
      obtain ⟨ox, hox⟩ : ∃ q, q = Obj.cells #[.string r0, .int .i64 r1, .int .i64 r2] 46 (0, 0) := ⟨_, rfl⟩
      have HFc := Aside0.mk (vkeepA (up15 HF3.out HBQ.out HBc.out) ox)
      have HXc := Aside0.mk (heap_alloc_new wr ox)
      have HRd := Aside0.mk (Kd.R_alloc HRc.out ox)
      have HBd := Aside0.mk (HBc.out.alloc HSc.out ox)
      have HSd := Aside0.mk (Nat.le_trans HSc.out (show wr.heap.size ≤ (wr.alloc ox).heap.size by simp))
      clear HRc HBc HSc
      have HRc : Aside0 (Row8 (wr.alloc ox) B (.slice Ac lc.length cc) lc) := HRd
      have HBc := HBd
      have HSc := HSd
      clear HRd HBd HSd
      subst hox
      go_upto_region 19 with fail
      generalize wr.alloc (.cells #[.string r0, .int .i64 r1, .int .i64 r2] 46 (0, 0)) = wx at HFc HXc HRc HBc HSc ⊢
      clear g0 g1 g2
      generalize wr.heap.size = gx at HXc ⊢
      have hmod : (r0.size : Int) % 256 = r0.size := by have := HY.out; omega
      have hwrapY := (fun n h => show IntKind.u8.wrap n = n by rw [IntKind.wrap_u8]; omega : ∀ n : Int, (0 ≤ n ∧ n ≤ 255) → IntKind.u8.wrap n = n) (r0.size : Int) (by have := HY.out; omega)
      go_cut [6] from 73 to 82 (fun v wy => ∃ (lc' : List Int) (Ac : Option Addr) (cc : Nat), v = .slice Ac lc'.length cc ∧ Aside0 (lc' = ((P2 ++ (f2.take j).flatMap rgL) ++ [(r0.size : Int)]) ++ bytesOf r0) ∧ Aside0 (lc'.length ≤ 62 + 400 * k + 25 * j) ∧ Aside0 (Row8 wy B (.slice Ac lc'.length cc) lc') ∧ Aside0 (wy.heap[gx]? = some (.cells #[.string r0, .int .i64 r1, .int .i64 r2] 46 (0, 0))) ∧ Aside0 (Below B w3 wy) ∧ Aside0 (B ≤ wy.heap.size))
      case first =>
        as_aux_lemma =>
          have hbd := below_drew (Below.refl wx.heap.size wx)
          have HFd := Aside0.mk (vkeepB HFc.out hbd)
          have HXd := Aside0.mk (vkeepB HXc.out hbd)
          have HRd : Aside0 (Row8 wx.drew B (.slice Ac lc.length cc) lc) := Aside0.mk (Kd.R_below HRc.out hbd)
          have HBd := Aside0.mk (below_drew HBc.out)
          have HSd := Aside0.mk (Nat.le_trans HSc.out hbd.size)
          clear hbd HFc HXc HRc HBc HSc
          have HFc := HFd
          have HXc := HXd
          have HRc := HRd
          have HBc := HBd
          have HSc := HSd
          clear HFd HXd HRd HBd HSd
          refine wp_region_held_drew (S := (fun W => W.cell? ⟨gf, 0, none⟩ = some (.func (.func 23) #[] #[]) ∧ W.cell? ⟨gx, 0, none⟩ = some (.string r0) ∧ W.cell? ⟨gx, 1, none⟩ = some (.int .i64 r1) ∧ W.cell? ⟨gx, 2, none⟩ = some (.int .i64 r2))) (by kernel_rfl) (keep15 HFc.out HXc.out) (fun hHeld => ?_)
          generalize wx.drew = wz at HFc HXc HRc HBc HSc hHeld ⊢
          refine wpAnyH_take (i := 0) (oi := { dst := some 73, op := Op.move (Operand.tmp 6), type := 26, pos := "first.go:61", after := #[], guard := none }) (v := ?_) rfl (by kernel_rfl) (by kernel_rfl) (by kernel_rfl) (fun _ _ _ h => h) (Or.inl ⟨by rfl, ?_⟩) (by assumption) ?_
          rotate_left
          · intro w hSw
            try dsimp only at hSw
            go_simp
            all_goals with_reducible rfl
          try simp only [Act.put, List.setIfInBounds_toArray, List.set_cons_zero, List.set_cons_succ]
          refine wpAnyH_take (i := 1) (oi := { dst := some 74, op := Op.fieldAddr 46 (Operand.tmp 12) 0, type := 0, pos := "first.go:61", after := #[], guard := none }) (v := ?_) rfl (by kernel_rfl) (by kernel_rfl) (by kernel_rfl) (fun _ _ _ h => h) (Or.inl ⟨by rfl, ?_⟩) (by assumption) ?_
          rotate_left
          · intro w hSw
            try dsimp only at hSw
            go_simp
            all_goals with_reducible rfl
          try simp only [Act.put, List.setIfInBounds_toArray, List.set_cons_zero, List.set_cons_succ]
          refine wpAnyH_take (i := 2) (oi := { dst := some 75, op := Op.load 9 (Operand.tmp 74), type := 9, pos := "first.go:61", after := #[{ on := 1, ground := Ground.data }], guard := none }) (v := ?_) rfl (by kernel_rfl) (by kernel_rfl) (by kernel_rfl) (fun _ _ _ h => h) (Or.inl ⟨by rfl, ?_⟩) (by assumption) ?_
          rotate_left
          · intro w hSw
            try dsimp only at hSw
            go_simp
            all_goals with_reducible rfl
          try simp only [Act.put, List.setIfInBounds_toArray, List.set_cons_zero, List.set_cons_succ]
          refine wpAnyH_take (i := 3) (oi := { dst := some 76, op := Op.call { callee := Callee.builtin Builtin.len, args := #[Operand.tmp 75], argTypes := #[9] }, type := 3, pos := "first.go:61", after := #[{ on := 2, ground := Ground.data }], guard := none }) (v := ?_) rfl (by kernel_rfl) (by kernel_rfl) (by kernel_rfl) (fun _ _ _ h => h) (Or.inl ⟨by rfl, ?_⟩) (by assumption) ?_
          rotate_left
          · intro w hSw
            try dsimp only at hSw
            go_simp
            all_goals with_reducible rfl
          try simp only [Act.put, List.setIfInBounds_toArray, List.set_cons_zero, List.set_cons_succ]
          refine wpAnyH_take (i := 4) (oi := { dst := some 77, op := Op.convert 3 5 (Operand.tmp 76), type := 5, pos := "first.go:61", after := #[{ on := 3, ground := Ground.data }], guard := none }) (v := ?_) rfl (by kernel_rfl) (by kernel_rfl) (by kernel_rfl) (fun _ _ _ h => h) (Or.inl ⟨by rfl, ?_⟩) (by assumption) ?_
          rotate_left
          · intro w hSw
            try dsimp only at hSw
            go_simp
            all_goals with_reducible rfl
          try simp only [Act.put, List.setIfInBounds_toArray, List.set_cons_zero, List.set_cons_succ]
          refine wpAnyH_take (i := 7) (oi := { dst := some 80, op := Op.fieldAddr 46 (Operand.tmp 12) 0, type := 0, pos := "first.go:61", after := #[], guard := none }) (v := ?_) rfl (by kernel_rfl) (by kernel_rfl) (by kernel_rfl) (fun _ _ _ h => h) (Or.inl ⟨by rfl, ?_⟩) (by assumption) ?_
          rotate_left
          · intro w hSw
            try dsimp only at hSw
            go_simp
            all_goals with_reducible rfl
          try simp only [Act.put, List.setIfInBounds_toArray, List.set_cons_zero, List.set_cons_succ]
          refine wpAnyH_take (i := 8) (oi := { dst := some 81, op := Op.load 9 (Operand.tmp 80), type := 9, pos := "first.go:61", after := #[{ on := 7, ground := Ground.data }], guard := none }) (v := ?_) rfl (by kernel_rfl) (by kernel_rfl) (by kernel_rfl) (fun _ _ _ h => h) (Or.inl ⟨by rfl, ?_⟩) (by assumption) ?_
          rotate_left
          · intro w hSw
            try dsimp only at hSw
            go_simp
            all_goals with_reducible rfl
          try simp only [Act.put, List.setIfInBounds_toArray, List.set_cons_zero, List.set_cons_succ]
          refine wpAnyH_ready (rs := [5]) (by kernel_rfl) (by simp) ?_
          refine AllReadyH.cons (o := { dst := some 78, op := Op.buildSlice 26 1 #[(0, Operand.tmp 77)], type := 26, pos := "first.go:61", after := #[{ on := 4, ground := Ground.data }], guard := none }) rfl (fun K hK => ?_) AllReadyH.nil
          go_simp
          ((try rw [hwrapY]); have HTc := Aside0.mk (new_of HRc.out (.cells #[.int .u8 r0.size] 5 (0, 0))); have HNc := Aside0.mk (ne_of HRc.out); have HRd := Aside0.mk (Kd.R_alloc HRc.out (.cells #[.int .u8 r0.size] 5 (0, 0))); have HFd := Aside0.mk (vkeepA HFc.out (.cells #[.int .u8 r0.size] 5 (0, 0))); have HXd := Aside0.mk (vkeepA HXc.out (.cells #[.int .u8 r0.size] 5 (0, 0))); have HBd := Aside0.mk (HBc.out.alloc HSc.out (.cells #[.int .u8 r0.size] 5 (0, 0))); have HSd := Aside0.mk (Nat.le_trans HSc.out (show _ ≤ (_ : World).heap.size from (World.grownBy_alloc _ (.cells #[.int .u8 r0.size] 5 (0, 0)) none).size)); clear HRc HFc HXc HBc HSc; have HRc : Aside0 (Row8 _ B (.slice Ac lc.length cc) lc) := HRd; have HFc := HFd; have HXc := HXd; have HBc := HBd; have HSc := HSd)
          refine hK.out _ _ (keep15 HFc.out HXc.out) (fun hHeld => ?_)
          clear hK K
          try simp only [Act.put, List.setIfInBounds_toArray, List.set_cons_zero, List.set_cons_succ]
          refine wpAnyH_ready (rs := [6]) (by kernel_rfl) (by simp) ?_
          refine AllReadyH.cons (o := { dst := some 79, op := Op.call { callee := Callee.builtin Builtin.append, args := #[Operand.tmp 73, Operand.tmp 78], argTypes := #[26, 26] }, type := 26, pos := "first.go:61", after := #[{ on := 0, ground := Ground.data }, { on := 5, ground := Ground.data }], guard := none }) rfl (fun K hK => ?_) AllReadyH.nil
          (refine step_append_row (w0 := w3) B rfl (.tmp 73) (.tmp 78) 26 5 .u8 1 rfl Try.underlying26 info5 (by decide) (.slice Ac lc.length cc) lc [(r0.size : Int)] _ 1 1 rfl rfl (kd_own HRc.out) (lit_reads HTc.out) HBc.out HSc.out (by have := HLc.out; have := HK.out.n1; have := HK.out.n2; (try have := HX2.out); omega) ?_; intro vn wn ho hBn hG; have hR : Row8 wn B vn (lc ++ [(r0.size : Int)]) := kd_R ho; clear ho hBn; have HFd := Aside0.mk (vkeepR HFc.out hG (Kd.R_ne HRc.out HFc.out (by decide))); have HXd := Aside0.mk (vkeepR HXc.out hG (Kd.R_ne HRc.out HXc.out (by decide))); have HBd := Aside0.mk (HBc.out.grown hG HSc.out (Kd.R_base HRc.out)); have HSd := Aside0.mk (Nat.le_trans HSc.out hG.size); obtain ⟨lc', hlc'⟩ : ∃ q, lc ++ [(r0.size : Int)] = q := ⟨_, rfl⟩; rw [hlc'] at hR; have HQd := Aside0.mk (grow_eq HQc.out hlc'); have HLd := Aside0.mk (show lc'.length ≤ 46 + 400 * k + 25 * j from by rw [← hlc', List.length_append]; have := HLc.out; simp; omega); clear hlc' HRc HQc HLc; obtain ⟨Ac, cc, rfl⟩ := Kd.R_slice hR; have HRc := Aside0.mk hR; have HQc := HQd; have HLc := HLd; clear hR HQd HLd; obtain ⟨lc, rfl⟩ : ∃ q, q = lc' := ⟨_, rfl⟩; clear hG; clear HFc HBc HSc HXc; have HFc := HFd; have HBc := HBd; have HSc := HSd; have HXc := HXd)
          refine hK.out _ _ (keep15 HFc.out HXc.out) (fun hHeld => ?_)
          clear hK K
          try simp only [Act.put, List.setIfInBounds_toArray, List.set_cons_zero, List.set_cons_succ]
          refine wpAnyH_ready (rs := [9]) (by kernel_rfl) (by simp) ?_
          refine AllReadyH.cons (o := { dst := some 82, op := Op.call { callee := Callee.builtin Builtin.append, args := #[Operand.tmp 79, Operand.tmp 81], argTypes := #[26, 9] }, type := 26, pos := "first.go:61", after := #[{ on := 6, ground := Ground.data }, { on := 8, ground := Ground.data }, { on := 6, ground := Ground.chain }], guard := none }) rfl (fun K hK => ?_) AllReadyH.nil
          (refine step_append_str (w0 := w3) B rfl (.tmp 79) (.tmp 81) 26 9 5 rfl Try.underlying26 Try.underlying9 info5 (.slice Ac lc.length cc) lc r0 rfl rfl (kd_own HRc.out) HBc.out HSc.out (by have := HLc.out; have := HK.out.n1; have := HK.out.n2; have := HX2.out; have := HY.out; omega) ?_; intro vn wn ho hBn hG; have hR : Row8 wn B vn (lc ++ bytesOf r0) := kd_R ho; clear ho hBn; have HFd := Aside0.mk (vkeepR HFc.out hG (Kd.R_ne HRc.out HFc.out (by decide))); have HXd := Aside0.mk (vkeepR HXc.out hG (Kd.R_ne HRc.out HXc.out (by decide))); have HBd := Aside0.mk (HBc.out.grown hG HSc.out (Kd.R_base HRc.out)); have HSd := Aside0.mk (Nat.le_trans HSc.out hG.size); obtain ⟨lc', hlc'⟩ : ∃ q, lc ++ bytesOf r0 = q := ⟨_, rfl⟩; rw [hlc'] at hR; have HQd := Aside0.mk (grow_eq HQc.out hlc'); have HLd := Aside0.mk (show lc'.length ≤ 62 + 400 * k + 25 * j from by rw [← hlc', List.length_append]; have := HLc.out; rw [bytesOf_length]; have := HY.out; omega); clear hlc' HRc HQc HLc; obtain ⟨Ac, cc, rfl⟩ := Kd.R_slice hR; have HRc := Aside0.mk hR; have HQc := HQd; have HLc := HLd; clear hR HQd HLd; obtain ⟨lc, rfl⟩ : ∃ q, q = lc' := ⟨_, rfl⟩; clear hG; clear HFc HBc HSc HXc; have HFc := HFd; have HBc := HBd; have HSc := HSd; have HXc := HXd)
          refine hK.out _ _ (keep15 HFc.out HXc.out) (fun hHeld => ?_)
          clear hK K
          try simp only [Act.put, List.setIfInBounds_toArray, List.set_cons_zero, List.set_cons_succ]
          refine wpAnyH_take (i := 10) (oi := { dst := some 6, op := Op.assign (Operand.tmp 82), type := 26, pos := "first.go:61", after := #[{ on := 9, ground := Ground.data }, { on := 9, ground := Ground.chain }, { on := 0, ground := Ground.phase }, { on := 1, ground := Ground.phase }, { on := 2, ground := Ground.phase }, { on := 3, ground := Ground.phase }, { on := 4, ground := Ground.phase }, { on := 5, ground := Ground.phase }, { on := 6, ground := Ground.phase }, { on := 7, ground := Ground.phase }, { on := 8, ground := Ground.phase }, { on := 9, ground := Ground.phase }], guard := none }) (v := ?_) rfl (by kernel_rfl) (by kernel_rfl) (by kernel_rfl) (fun _ _ _ h => h) (Or.inl ⟨by rfl, ?_⟩) (by assumption) ?_
          rotate_left
          · intro w hSw
            try dsimp only at hSw
            go_simp
            all_goals with_reducible rfl
          try simp only [Act.put, List.setIfInBounds_toArray, List.set_cons_zero, List.set_cons_succ]
          refine wpAnyH_done (by kernel_rfl) ?_ _
          go_wp2_with fail
          go_meet
          exact ⟨lc, Ac, cc, rfl, HQc, HLc, HRc, HXc, HBc, HSc⟩
      case rest =>
        as_aux_lemma =>
          clear HRc HBc HSc HXc HQc HLc HFc hmod hwrapY
          obtain ⟨lc, Ac, cc, rfl, HQc, HLc, HRc, HXc, HBc, HSc⟩ := hcut
          obtain ⟨wx, hwx⟩ : ∃ q, q = wc := ⟨_, rfl⟩
          rw [← hwx] at HRc HXc HBc HSc ⊢
          clear hwx
          have HFc := Aside0.mk (up15 HF3.out HBQ.out HBc.out)
          go_upto_region 20 with fail
          have hbd := below_drew (Below.refl wx.heap.size wx)
          have HFd := Aside0.mk (vkeepB HFc.out hbd)
          have HXd := Aside0.mk (vkeepB HXc.out hbd)
          have HRd : Aside0 (Row8 wx.drew B (.slice Ac lc.length cc) lc) := Aside0.mk (Kd.R_below HRc.out hbd)
          have HBd := Aside0.mk (below_drew HBc.out)
          have HSd := Aside0.mk (Nat.le_trans HSc.out hbd.size)
          clear hbd HFc HXc HRc HBc HSc
          have HFc := HFd
          have HXc := HXd
          have HRc := HRd
          have HBc := HBd
          have HSc := HSd
          clear HFd HXd HRd HBd HSd
          refine wp_region_held_drew (S := (fun W => W.cell? ⟨gf, 0, none⟩ = some (.func (.func 23) #[] #[]) ∧ W.cell? ⟨gx, 0, none⟩ = some (.string r0) ∧ W.cell? ⟨gx, 1, none⟩ = some (.int .i64 r1) ∧ W.cell? ⟨gx, 2, none⟩ = some (.int .i64 r2))) (by kernel_rfl) (keep15 HFc.out HXc.out) (fun hHeld => ?_)
          generalize wx.drew = wz at HFc HXc HRc HBc HSc hHeld ⊢
          refine wpAnyH_take (i := 0) (oi := { dst := some 83, op := Op.move (Operand.tmp 5), type := 54, pos := "first.go:62", after := #[], guard := none }) (v := ?_) rfl (by kernel_rfl) (by kernel_rfl) (by kernel_rfl) (fun _ _ _ h => h) (Or.inl ⟨by rfl, ?_⟩) (by assumption) ?_
          rotate_left
          · intro w hSw
            try dsimp only at hSw
            go_simp
            all_goals with_reducible rfl
          try simp only [Act.put, List.setIfInBounds_toArray, List.set_cons_zero, List.set_cons_succ]
          refine wpAnyH_take (i := 1) (oi := { dst := some 84, op := Op.move (Operand.tmp 5), type := 54, pos := "first.go:62", after := #[], guard := none }) (v := ?_) rfl (by kernel_rfl) (by kernel_rfl) (by kernel_rfl) (fun _ _ _ h => h) (Or.inl ⟨by rfl, ?_⟩) (by assumption) ?_
          rotate_left
          · intro w hSw
            try dsimp only at hSw
            go_simp
            all_goals with_reducible rfl
          try simp only [Act.put, List.setIfInBounds_toArray, List.set_cons_zero, List.set_cons_succ]
          refine wpAnyH_take (i := 2) (oi := { dst := some 85, op := Op.move (Operand.tmp 6), type := 26, pos := "first.go:62", after := #[], guard := none }) (v := ?_) rfl (by kernel_rfl) (by kernel_rfl) (by kernel_rfl) (fun _ _ _ h => h) (Or.inl ⟨by rfl, ?_⟩) (by assumption) ?_
          rotate_left
          · intro w hSw
            try dsimp only at hSw
            go_simp
            all_goals with_reducible rfl
          try simp only [Act.put, List.setIfInBounds_toArray, List.set_cons_zero, List.set_cons_succ]
          refine wpAnyH_take (i := 3) (oi := { dst := some 86, op := Op.fieldAddr 46 (Operand.tmp 12) 1, type := 0, pos := "first.go:62", after := #[], guard := none }) (v := ?_) rfl (by kernel_rfl) (by kernel_rfl) (by kernel_rfl) (fun _ _ _ h => h) (Or.inl ⟨by rfl, ?_⟩) (by assumption) ?_
          rotate_left
          · intro w hSw
            try dsimp only at hSw
            go_simp
            all_goals with_reducible rfl
          try simp only [Act.put, List.setIfInBounds_toArray, List.set_cons_zero, List.set_cons_succ]
          refine wpAnyH_take (i := 4) (oi := { dst := some 87, op := Op.load 3 (Operand.tmp 86), type := 3, pos := "first.go:62", after := #[{ on := 3, ground := Ground.data }], guard := none }) (v := ?_) rfl (by kernel_rfl) (by kernel_rfl) (by kernel_rfl) (fun _ _ _ h => h) (Or.inl ⟨by rfl, ?_⟩) (by assumption) ?_
          rotate_left
          · intro w hSw
            try dsimp only at hSw
            go_simp
            all_goals with_reducible rfl
          try simp only [Act.put, List.setIfInBounds_toArray, List.set_cons_zero, List.set_cons_succ]
          refine wpAnyH_take (i := 6) (oi := { dst := some 89, op := Op.fieldAddr 46 (Operand.tmp 12) 2, type := 0, pos := "first.go:62", after := #[], guard := none }) (v := ?_) rfl (by kernel_rfl) (by kernel_rfl) (by kernel_rfl) (fun _ _ _ h => h) (Or.inl ⟨by rfl, ?_⟩) (by assumption) ?_
          rotate_left
          · intro w hSw
            try dsimp only at hSw
            go_simp
            all_goals with_reducible rfl
          try simp only [Act.put, List.setIfInBounds_toArray, List.set_cons_zero, List.set_cons_succ]
          refine wpAnyH_take (i := 7) (oi := { dst := some 90, op := Op.load 3 (Operand.tmp 89), type := 3, pos := "first.go:62", after := #[{ on := 6, ground := Ground.data }], guard := none }) (v := ?_) rfl (by kernel_rfl) (by kernel_rfl) (by kernel_rfl) (fun _ _ _ h => h) (Or.inl ⟨by rfl, ?_⟩) (by assumption) ?_
          rotate_left
          · intro w hSw
            try dsimp only at hSw
            go_simp
            all_goals with_reducible rfl
          try simp only [Act.put, List.setIfInBounds_toArray, List.set_cons_zero, List.set_cons_succ]
          refine wpAnyH_ready (rs := [5]) (by kernel_rfl) (by simp) ?_
          refine AllReadyH.cons (o := { dst := some 88, op := Op.call { callee := Callee.value (Operand.tmp 84), args := #[Operand.tmp 85, Operand.tmp 87], argTypes := #[26, 3] }, type := 26, pos := "first.go:62", after := #[{ on := 1, ground := Ground.data }, { on := 2, ground := Ground.data }, { on := 4, ground := Ground.data }], guard := none }) rfl (fun K hK => ?_) AllReadyH.nil
          go_simp
          (refine (wfourB (.slice Ac lc.length cc) lc r1 B gf _ HRc.out HSc.out (by have := HLc.out; have := HK.out.n1; have := HK.out.n2; (try have := HX2.out); omega) (by have := HZ1.out; omega) HFc.out).mono ?_; rintro e wn ⟨vn, rfl, hR, hG, hat⟩; have HFd := Aside0.mk (vkeepR HFc.out hG (Kd.R_ne HRc.out HFc.out (by decide))); have HXd := Aside0.mk (vkeepR HXc.out hG (Kd.R_ne HRc.out HXc.out (by decide))); have HBd := Aside0.mk (HBc.out.grown hG HSc.out (Kd.R_base HRc.out)); have HSd := Aside0.mk (Nat.le_trans HSc.out hG.size); obtain ⟨lc', hlc'⟩ : ∃ q, lc ++ fourB r1 = q := ⟨_, rfl⟩; rw [hlc'] at hR; have HQd := Aside0.mk (grow_eq HQc.out hlc'); have HLd := Aside0.mk (show lc'.length ≤ 66 + 400 * k + 25 * j from by rw [← hlc', List.length_append]; have := HLc.out; simp [twoB, fourB]; omega); clear hlc' HRc HQc HLc; obtain ⟨Ac, cc, rfl⟩ := Kd.R_slice hR; have HRc := Aside0.mk hR; have HQc := HQd; have HLc := HLd; clear hR HQd HLd; obtain ⟨lc, rfl⟩ : ∃ q, q = lc' := ⟨_, rfl⟩; clear hG hat; clear HFc HBc HSc HXc; have HFc := HFd; have HBc := HBd; have HSc := HSd; have HXc := HXd)
          go_wp2_with fail
          refine hK.out _ _ (keep15 HFc.out HXc.out) (fun hHeld => ?_)
          clear hK K
          try simp only [Act.put, List.setIfInBounds_toArray, List.set_cons_zero, List.set_cons_succ]
          as_aux_lemma =>
            refine wpAnyH_ready (rs := [8]) (by kernel_rfl) (by simp) ?_
            refine AllReadyH.cons (o := { dst := some 91, op := Op.call { callee := Callee.value (Operand.tmp 83), args := #[Operand.tmp 88, Operand.tmp 90], argTypes := #[26, 3] }, type := 26, pos := "first.go:62", after := #[{ on := 0, ground := Ground.data }, { on := 5, ground := Ground.data }, { on := 7, ground := Ground.data }, { on := 5, ground := Ground.chain }], guard := none }) rfl (fun K hK => ?_) AllReadyH.nil
            go_simp
            (refine (wfourB (.slice Ac lc.length cc) lc r2 B gf _ HRc.out HSc.out (by have := HLc.out; have := HK.out.n1; have := HK.out.n2; (try have := HX2.out); omega) (by have := HZ2.out; omega) HFc.out).mono ?_; rintro e wn ⟨vn, rfl, hR, hG, hat⟩; have HFd := Aside0.mk (vkeepR HFc.out hG (Kd.R_ne HRc.out HFc.out (by decide))); have HXd := Aside0.mk (vkeepR HXc.out hG (Kd.R_ne HRc.out HXc.out (by decide))); have HBd := Aside0.mk (HBc.out.grown hG HSc.out (Kd.R_base HRc.out)); have HSd := Aside0.mk (Nat.le_trans HSc.out hG.size); obtain ⟨lc', hlc'⟩ : ∃ q, lc ++ fourB r2 = q := ⟨_, rfl⟩; rw [hlc'] at hR; have HQd := Aside0.mk (grow_eq HQc.out hlc'); have HLd := Aside0.mk (show lc'.length ≤ 70 + 400 * k + 25 * j from by rw [← hlc', List.length_append]; have := HLc.out; simp [twoB, fourB]; omega); clear hlc' HRc HQc HLc; obtain ⟨Ac, cc, rfl⟩ := Kd.R_slice hR; have HRc := Aside0.mk hR; have HQc := HQd; have HLc := HLd; clear hR HQd HLd; obtain ⟨lc, rfl⟩ : ∃ q, q = lc' := ⟨_, rfl⟩; clear hG hat; clear HFc HBc HSc HXc; have HFc := HFd; have HBc := HBd; have HSc := HSd; have HXc := HXd)
            go_wp2_with fail
            refine hK.out _ _ (keep15 HFc.out HXc.out) (fun hHeld => ?_)
            clear hK K
            try simp only [Act.put, List.setIfInBounds_toArray, List.set_cons_zero, List.set_cons_succ]
            as_aux_lemma =>
              refine wpAnyH_take (i := 9) (oi := { dst := some 6, op := Op.assign (Operand.tmp 91), type := 26, pos := "first.go:62", after := #[{ on := 8, ground := Ground.data }, { on := 8, ground := Ground.chain }, { on := 0, ground := Ground.phase }, { on := 1, ground := Ground.phase }, { on := 2, ground := Ground.phase }, { on := 3, ground := Ground.phase }, { on := 4, ground := Ground.phase }, { on := 5, ground := Ground.phase }, { on := 6, ground := Ground.phase }, { on := 7, ground := Ground.phase }, { on := 8, ground := Ground.phase }], guard := none }) (v := ?_) rfl (by kernel_rfl) (by kernel_rfl) (by kernel_rfl) (fun _ _ _ h => h) (Or.inl ⟨by rfl, ?_⟩) (by assumption) ?_
              rotate_left
              · intro w hSw
                try dsimp only at hSw
                go_simp
                all_goals with_reducible rfl
              try simp only [Act.put, List.setIfInBounds_toArray, List.set_cons_zero, List.set_cons_succ]
              refine wpAnyH_done (by kernel_rfl) ?_ _
              as_aux_lemma =>
                go_wp2_with fail
                rw [hwl]
                exact ⟨⟨j + 1, lc, Ac, cc, hjt, rfl, by rw [Int.natCast_add]; rfl, ⟨by rw [HQc.out, HFR.out]; simp [rgL, List.append_assoc]⟩, ⟨by have := HLc.out; omega⟩, HRc, HBc, HSc⟩, by show f2.length - ((j : Int) + 1).toNat < f2.length - (j : Int).toNat; rw [show ((j : Int) + 1).toNat = j + 1 from rfl, Int.toNat_natCast]; omega⟩
end Go.Proofs.Ytkdhcmmfklganaa
end

section
/- first.Decode, walked -/
set_option linter.unusedVariables false
set_option linter.unusedSimpArgs false
set_option autoImplicit false
namespace Go.Proofs.Ytkdhcmmfklganaa
open Go.RowKit Go.Proofs.YtkdhcmmfklganaaW.PrintWords Go.Proofs.YtkdhcmmfklganaaW.PrintLast Go.Proofs.YtkdhcmmfklganaaW.PrintMore Go.Proofs.Ytkdhcmmfklganaa.G

theorem strqd {w : World} {A : Option Addr} {l : List Int} (h : (Kd.int .u8).C w A l.length l) (c : Nat) (n : Nat) : (convert 26 9 (.slice A l.length c)).run Try.prog (w.drewN n) = .ok (.string (strOfNums l)) (w.drewN n) :=
  Kd.C_string (P := Try.prog) (A := A) (c := c) Try.underlying26 Try.underlying5 Try.underlying9 (Kd.C_drewN h n)
theorem str_is {l : List Int} (hu : u8s l) (m : List UInt8) : ((strOfNums l).toList == m) = decide (l = m.map fun c => (c.toNat : Int)) := by
  have e : (strOfNums l).toList = l.map fun x => UInt8.ofNat x.toNat := by
    rw [ByteArray.toList_eq]; simp [strOfNums]
  rw [e]
  have h1 : l.map (fun x => ((UInt8.ofNat x.toNat).toNat : Int)) = l := by
    refine (List.map_congr_left (g := fun x => x) fun x hx => ?_).trans (List.map_id'' (fun _ => rfl) l)
    have := hu x hx
    rw [UInt8.toNat_ofNat']
    omega
  have h : l.map (fun x => UInt8.ofNat x.toNat) = m ↔ l = m.map fun c => (c.toNat : Int) := by
    constructor
    · rintro rfl
      rw [List.map_map]
      exact h1.symm
    · rintro rfl
      rw [List.map_map]
      refine (List.map_congr_left (g := fun x => x) fun x hx => ?_).trans (List.map_id'' (fun _ => rfl) m)
      show UInt8.ofNat ((x.toNat : Int)).toNat = x
      rw [Int.toNat_natCast, UInt8.ofNat_toNat]
  by_cases hm : l.map (fun x => UInt8.ofNat x.toNat) = m
  · rw [decide_eq_true (h.1 hm), hm]; simp
  · rw [decide_eq_false (fun hh => hm (h.2 hh))]
    simpa using hm
/-- the state of bytes -/
def fP : Sc → (List Int × List S40) × Sc := Pars.bnd (fun s => s.count 16) fun n => Pars.bnd (Pars.rep (fun s => s.num 2) n.toNat) fun links => Pars.bnd (fun s => s.count 64) fun m => Pars.bnd (Pars.rep subP m.toNat) fun subs s => ((links, subs), s)
def dec15 (l : List Int) : (List Int × List S40) × Int :=
  if l.length < 4 then (([], []), 2) else if l.take 3 ≠ [82, 83, 84] then (([], []), 3) else if l.take 4 ≠ [82, 83, 84, 1] then (([], []), 11)
  else if (fP ⟨l.drop 4, 0⟩).2.endE ≠ 0 then (([], []), (fP ⟨l.drop 4, 0⟩).2.endE) else if rightB (fP ⟨l.drop 4, 0⟩).1.1 (fP ⟨l.drop 4, 0⟩).1.2 = true then ((fP ⟨l.drop 4, 0⟩).1, 0) else (([], []), 3)
theorem rep_len {α : Type} (P : Sc → α × Sc) : ∀ (n : Nat) (s : Sc), (Pars.rep P n s).1.length ≤ n := by
  intro n
  induction n with
  | zero => intro s; simp [Pars.rep]
  | succ n ih =>
    intro s
    rw [Pars.rep]
    split
    · simp only [List.length_cons]; have := ih (P s).2; omega
    · simp
/-- where Decode stands -/
structure DecS (w wr : World) (B g : Nat) (s : Sc) (vl vs : Value) : Prop where
  heap : wr.heap[w.heap.size]? = some (.cells #[vl, vs] 25 (0, 0))
  rdr : Rdr 58 (fun k => k < w.heap.size) wr g s
  lo : w.heap.size < g
  hi : g < B
  hb : B ≤ wr.heap.size
  below : Below w.heap.size w wr
section
variable {w wr wy : World} {B g : Nat} {s s' : Sc} {vl vs v1 : Value}
theorem DecS.call (h : DecS w wr B g s vl vs) (hr : Rdr 58 (fun k => k < w.heap.size) wy g s') (hg : wr.grownBy wy (some g)) : DecS w wy B g s' vl vs :=
  ⟨vkeepG h.heap hg (fun e => by have := h.lo; omega), hr, h.lo, h.hi, Nat.le_trans h.hb hg.size, below_of_grown h.below hg (by have := h.lo; omega)⟩
theorem DecS.step (h : DecS w wr B g s vl vs) (hb : Below wr.heap.size wr wy) : DecS w wy B g s vl vs :=
  ⟨vkeepB h.heap hb, h.rdr.below hb, h.lo, h.hi, Nat.le_trans h.hb hb.size, below_via6 h.below hb⟩
theorem DecS.raise (h : DecS w wr B g s vl vs) : DecS w wr wr.heap.size g s vl vs := ⟨h.heap, h.rdr, h.lo, Nat.lt_of_lt_of_le h.hi h.hb, Nat.le_refl _, h.below⟩
theorem DecS.mid (h : DecS w wr B g s vl vs) (hb : Below B wr wy) : DecS w wy B g s vl vs := by
  have hlo := h.lo
  have hhi := h.hi
  exact ⟨by rw [hb.block _ (by omega)]; exact h.heap, h.rdr.keep (fun k _ hs => hb.block k (by rcases hs with rfl | hs; omega; have h1 : k < w.heap.size := hs; omega)), hlo, hhi, Nat.le_trans h.hb hb.size, h.below.trans (hb.mono (by omega))⟩
theorem DecS.put0 (h : DecS w wr B g s vl vs) (v1 : Value) : DecS w (wr.setCell ⟨w.heap.size, 0, none⟩ v1) B g s v1 vs :=
  ⟨heap_setCell_same _ _ _ _ _ _ h.heap, h.rdr.keep (fun k _ hs => Below.heap_setCell _ _ _ _ (fun e => by have h1 : k = w.heap.size := e; have := h.lo; rcases hs with rfl | hs; omega; have h2 : k < w.heap.size := hs; omega)), h.lo, h.hi, by simpa using h.hb, h.below.setCell (Nat.le_refl _) _⟩
theorem DecS.put1 (h : DecS w wr B g s vl vs) (v1 : Value) : DecS w (wr.setCell ⟨w.heap.size, 1, none⟩ v1) B g s vl v1 :=
  ⟨heap_setCell_same _ _ _ _ _ _ h.heap, h.rdr.keep (fun k _ hs => Below.heap_setCell _ _ _ _ (fun e => by have h1 : k = w.heap.size := e; have := h.lo; rcases hs with rfl | hs; omega; have h2 : k < w.heap.size := hs; omega)), h.lo, h.hi, by simpa using h.hb, h.below.setCell (Nat.le_refl _) _⟩
end
theorem info_sb3 : (Try.prog.info? 40).map (fun i => (i.zero, i.size, i.bytes)) = some (some (.agg #[.int .i64 0, .int .i64 0, .slice none 0 0]), 3, 40) := by kernel_rfl
theorem info_fi : (Try.prog.info? 25).map (·.size) = some 2 := by kernel_rfl
theorem drop_C {w : World} {A : Option Addr} {l : List Int} {c : Nat} (h : (Kd.int .u8).C w A l.length l) (hc : l.length ≤ c) (n : Nat) (hn : n ≤ l.length) (hl : l.length ≤ 9223372036854775807) : HeldB w (fun k => k < w.heap.size) (if c = n then A else A.map (·.add n)) (l.drop n) := heldB_drop (HeldB.low h) n c hn hc
theorem rdr_start {w w2 : World} {A : Option Addr} {c : Nat} {l : List Int} (hC : (Kd.int .u8).C w A l.length l) (hu : u8s l) (hz : w2.heap[w.heap.size]? = some (.cells #[.slice none 0 0, .slice none 0 0] 25 (0, 0))) (hB : Below w.heap.size w w2) (hs : w.heap.size < w2.heap.size) (hc : l.length ≤ c) (hc2 : c ≤ 9223372036854775807) (h4 : 4 ≤ l.length) (hl : l.length ≤ 100000) {A' : Option Addr} (hA : A' = if c = 4 then A else A.map (·.add 4)) :
    DecS w (w2.alloc (.cells #[.slice A' (l.length - 4) (c - 4), .int .i64 0] 58 (0, 0))) (w2.heap.size + 1) w2.heap.size ⟨l.drop 4, 0⟩ (.slice none 0 0) (.slice none 0 0) := by
  subst hA
  have hb := (Below.refl w2.heap.size w2).alloc (Nat.le_refl _) (.cells #[.slice (if c = 4 then A else A.map (·.add 4)) (l.length - 4) (c - 4), .int .i64 0] 58 (0, 0))
  refine ⟨vkeepB hz hb, ⟨u8s_drop hu 4, by simp; omega, by simp; omega, by simp, _, c - 4, ?_, by simp; omega, by omega, ((drop_C hC hc 4 h4 (by omega)).keep (fun k hk _ => hB.block k hk)).below hb⟩, hs, by omega, by simp, below_via6 hB hb⟩
  rw [List.length_drop]
  exact heap_alloc_new w2 _
theorem two_zero {w W : World} {vl vs : Value} (h : W.heap[w.heap.size]? = some (.cells #[vl, vs] 25 (0, 0))) (hB : Below w.heap.size w W) :
    ((W.setCell ⟨w.heap.size, 0, none⟩ (.slice none 0 0)).setCell ⟨w.heap.size, 1, none⟩ (.slice none 0 0)).heap[w.heap.size]? = some (.cells #[.slice none 0 0, .slice none 0 0] 25 (0, 0)) ∧ Below w.heap.size w ((W.setCell ⟨w.heap.size, 0, none⟩ (.slice none 0 0)).setCell ⟨w.heap.size, 1, none⟩ (.slice none 0 0)) :=
  ⟨heap_setCell_same _ _ _ _ _ _ (heap_setCell_same _ _ _ _ _ _ h), (hB.setCell (Nat.le_refl _) _).setCell (Nat.le_refl _) _⟩
theorem two_put {w W : World} {vl vs : Value} (h : W.heap[w.heap.size]? = some (.cells #[vl, vs] 25 (0, 0))) (hB : Below w.heap.size w W) (x y : Value) :
    ((W.setCell ⟨w.heap.size, 0, none⟩ x).setCell ⟨w.heap.size, 1, none⟩ y).heap[w.heap.size]? = some (.cells #[x, y] 25 (0, 0)) ∧ Below w.heap.size w ((W.setCell ⟨w.heap.size, 0, none⟩ x).setCell ⟨w.heap.size, 1, none⟩ y) :=
  ⟨heap_setCell_same _ _ _ _ _ _ (heap_setCell_same _ _ _ _ _ _ h), (hB.setCell (Nat.le_refl _) _).setCell (Nat.le_refl _) _⟩
set_option maxRecDepth 100000 in
set_option maxHeartbeats 8000000 in
theorem wdecode15 (A0 : Option Addr) (c0 : Nat) (l0 : List Int) (w : World) (hr0 : (Kd.int .u8).C w A0 l0.length l0) (hc0 : l0.length ≤ c0) (hc1 : c0 ≤ 9223372036854775807) (hu : u8s l0) (hl : l0.length ≤ 100000) :
    Calls Try.prog 12 #[.slice A0 l0.length c0] w fun e w' => ∃ A1 c1 A2 c2, e = .returned (.tuple #[.agg #[.slice A1 (dec15 l0).1.1.length c1, .slice A2 (dec15 l0).1.2.length c2], .int .i64 (dec15 l0).2]) ∧ Kd.C (Kd.int .i64) w' A1 (dec15 l0).1.1.length (dec15 l0).1.1 ∧ (dec15 l0).1.1.length ≤ c1 ∧ Kd.C k40 w' A2 (dec15 l0).1.2.length (dec15 l0).1.2 ∧ (dec15 l0).1.2.length ≤ c2 ∧ Below w.heap.size w w' := by
  have HR0 := Aside0.mk hr0
  have HU := Aside0.mk hu
  clear hr0 hu
  have hB := (Below.refl w.heap.size w).alloc (Nat.le_refl _) (.cells #[.slice none 0 0, .slice none 0 0] 25 (0, 0))
  have HB := Aside0.mk hB
  have HZ := Aside0.mk (heap_alloc_new w (.cells #[.slice none 0 0, .slice none 0 0] 25 (0, 0)))
  clear hB
  have hsz : w.heap.size < (w.alloc (.cells #[.slice none 0 0, .slice none 0 0] 25 (0, 0))).heap.size := by simp
  have HSZ := Aside0.mk hsz
  clear hsz
  have hdq : dec15 l0 = if l0.length < 4 then (([], []), 2) else if l0.take 3 ≠ [82, 83, 84] then (([], []), 3) else if l0.take 4 ≠ [82, 83, 84, 1] then (([], []), 11) else if (fP ⟨l0.drop 4, 0⟩).2.endE ≠ 0 then (([], []), (fP ⟨l0.drop 4, 0⟩).2.endE) else if rightB (fP ⟨l0.drop 4, 0⟩).1.1 (fP ⟨l0.drop 4, 0⟩).1.2 = true then ((fP ⟨l0.drop 4, 0⟩).1, 0) else (([], []), 3) := rfl
  generalize dec15 l0 = q at hdq ⊢
  by_cases h4 : l0.length < 4
  · rw [if_pos h4] at hdq
    have HD := Aside0.mk hdq
    have h4' : (l0.length : Int) < 4 := by omega
    clear hdq
    obtain ⟨⟨z0, z1⟩, z2, z3⟩ := cells2r HZ.out
    go_enter Try.func12, Try.ntmps12
    go_upto_region 3 with fail
    generalize w.alloc (.cells #[.slice none 0 0, .slice none 0 0] 25 (0, 0)) = w1 at HB HZ z0 z1 z2 z3 ⊢
    go_wp2_with fail
    have hz := two_zero HZ.out HB.out
    refine bodyPost_ret (results_ct rfl _ _ w.heap.size 25 _ (0, 0) _ rfl hz.1 Try.underlying25 rfl info_fi) rfl ?_
    exact ⟨none, 0, none, 0, by rw [HD.out]; rfl, by rw [HD.out]; exact Kd.C_nil _ _, by rw [HD.out]; simp, by rw [HD.out]; exact Kd.C_nil _ _, by rw [HD.out]; simp, hz.2⟩
  rw [if_neg h4] at hdq
  have h4' : ¬ (l0.length : Int) < 4 := by omega
  have hq3 : ∀ n, (convert 26 9 (.slice A0 3 c0)).run Try.prog ((w.alloc (.cells #[.slice none 0 0, .slice none 0 0] 25 (0, 0))).drewN n) = .ok (.string (strOfNums (l0.take 3))) ((w.alloc (.cells #[.slice none 0 0, .slice none 0 0] 25 (0, 0))).drewN n) := fun n => by
    have h := strqd (Kd.C_take (Kd.C_below HR0.out HB.out) (show 3 ≤ l0.length by omega)) c0 n
    rwa [List.length_take, Nat.min_eq_left (by omega)] at h
  have hq4 : ∀ n, (convert 26 9 (.slice A0 4 c0)).run Try.prog ((w.alloc (.cells #[.slice none 0 0, .slice none 0 0] 25 (0, 0))).drewN n) = .ok (.string (strOfNums (l0.take 4))) ((w.alloc (.cells #[.slice none 0 0, .slice none 0 0] 25 (0, 0))).drewN n) := fun n => by
    have h := strqd (Kd.C_take (Kd.C_below HR0.out HB.out) (show 4 ≤ l0.length by omega)) c0 n
    rwa [List.length_take, Nat.min_eq_left (by omega)] at h
  have h3c : 3 ≤ c0 := by omega
  have h4c : 4 ≤ c0 := by omega
  have hs3 : ((strOfNums (l0.take 3)).toList == (({ data := #[82, 83, 84, 1] } : ByteArray).extract 0 3).toList) = decide (l0.take 3 = [82, 83, 84]) := by rw [show (({ data := #[82, 83, 84, 1] } : ByteArray).extract 0 3).toList = [82, 83, 84] by decide +kernel]; exact str_is (u8s_take HU.out 3) [82, 83, 84]
  have hs4 : ((strOfNums (l0.take 4)).toList == [82, 83, 84, 1]) = decide (l0.take 4 = [82, 83, 84, 1]) := str_is (u8s_take HU.out 4) [82, 83, 84, 1]
  go_enter Try.func12, Try.ntmps12
  go_upto_region 4 with fail
  generalize w.alloc (.cells #[.slice none 0 0, .slice none 0 0] 25 (0, 0)) = w1 at HB HZ HSZ hq3 hq4 ⊢
  by_cases t3 : l0.take 3 = [82, 83, 84]
  case neg =>
    rw [if_pos t3] at hdq
    have HD := Aside0.mk hdq
    rw [decide_eq_false t3] at hs3
    clear t3 hdq
    go_quiet (fail)
    have HZ2 := Aside0.mk (vkeepB HZ.out (pw_below_drewN (Below.refl _ _) nq))
    have HB2 := Aside0.mk (pw_below_drewN HB.out nq)
    generalize w1.drewN nq = w2 at HZ2 HB2 ⊢
    obtain ⟨⟨z0, z1⟩, z2, z3⟩ := cells2r HZ2.out
    go_wp2_with fail
    have hz := two_zero HZ2.out HB2.out
    refine bodyPost_ret (results_ct rfl _ _ w.heap.size 25 _ (0, 0) _ rfl hz.1 Try.underlying25 rfl info_fi) rfl ?_
    exact ⟨none, 0, none, 0, by rw [HD.out]; rfl, by rw [HD.out]; exact Kd.C_nil _ _, by rw [HD.out]; simp, by rw [HD.out]; exact Kd.C_nil _ _, by rw [HD.out]; simp, hz.2⟩
  rw [if_neg (by simpa using t3)] at hdq
  rw [decide_eq_true t3] at hs3
  clear t3
  have HDQ := Aside0.mk hdq
  clear hdq
  go_quiet (fail)
  have hq4' := hq4 nq
  clear hq4 hq3
  have HZ2 := Aside0.mk (vkeepB HZ.out (pw_below_drewN (Below.refl _ _) nq))
  have HB2 := Aside0.mk (pw_below_drewN HB.out nq)
  have HS2 := Aside0.mk (Nat.lt_of_lt_of_le HSZ.out (pw_below_drewN (Below.refl w1.heap.size w1) nq).size)
  generalize w1.drewN nq = w2 at HZ2 HB2 HS2 hq4' ⊢
  clear HZ HB HSZ
  have hdq := HDQ.out
  clear HDQ
  by_cases t4 : l0.take 4 = [82, 83, 84, 1]
  case neg =>
    rw [if_pos t4] at hdq
    have HD := Aside0.mk hdq
    rw [decide_eq_false t4] at hs4
    clear t4 hdq
    obtain ⟨⟨z0, z1⟩, z2, z3⟩ := cells2r HZ2.out
    go_wp2_with fail
    have hz := two_zero HZ2.out HB2.out
    refine bodyPost_ret (results_ct rfl _ _ w.heap.size 25 _ (0, 0) _ rfl hz.1 Try.underlying25 rfl info_fi) rfl ?_
    exact ⟨none, 0, none, 0, by rw [HD.out]; rfl, by rw [HD.out]; exact Kd.C_nil _ _, by rw [HD.out]; simp, by rw [HD.out]; exact Kd.C_nil _ _, by rw [HD.out]; simp, hz.2⟩
  rw [if_neg (by simpa using t4)] at hdq
  rw [decide_eq_true t4] at hs4
  clear t4
  have HDQ := Aside0.mk hdq
  clear hdq
  go_upto_region 8 with fail
  go_cut [5] from 32 to 36 (fun p wx => p = .pointer (some ⟨w2.heap.size, 0, none⟩) ∧ Aside0 (DecS w wx (w2.heap.size + 1) w2.heap.size ⟨l0.drop 4, 0⟩ (.slice none 0 0) (.slice none 0 0)))
  case first =>
    by_cases hc4 : c0 = 4
    · subst hc4
      have hle4 : l0.length = 4 := by omega
      have HL4 := Aside0.mk hle4
      clear hle4
      go_wp2
      go_meet
      exact ⟨rfl, ⟨by have h_ := rdr_start (c := 4) (A' := A0) HR0.out HU.out HZ2.out HB2.out HS2.out (by have := HL4.out; omega) (by decide) (by have := HL4.out; omega) (by have := HL4.out; omega) (by rw [if_pos rfl]); rw [HL4.out] at h_; exact h_⟩⟩
    · go_wp2
      go_meet
      exact ⟨rfl, ⟨rdr_start HR0.out HU.out HZ2.out HB2.out HS2.out hc0 hc1 (by omega) hl (by rw [if_neg hc4]; rfl)⟩⟩
  case rest =>
  obtain ⟨rfl, HD0⟩ := hcut
  clear hs3 hs4 h3c h4c h4' HZ2 HS2 HB2 hq4'
  obtain ⟨g, hg⟩ : ∃ g, w2.heap.size = g := ⟨_, rfl⟩
  rw [hg] at HD0 ⊢
  clear hg
  have hdq := HDQ.out
  clear HDQ
  have hcl : 0 ≤ ((⟨l0.drop 4, 0⟩ : Sc).count 16).1 ∧ ((⟨l0.drop 4, 0⟩ : Sc).count 16).1 ≤ 16 := Sc.count_le HD0.out.rdr.u8 16
  obtain ⟨n0, s1, h1⟩ : ∃ (n : Nat) (q : Sc), (⟨l0.drop 4, 0⟩ : Sc).count 16 = ((n : Int), q) := ⟨((⟨l0.drop 4, 0⟩ : Sc).count 16).1.toNat, ((⟨l0.drop 4, 0⟩ : Sc).count 16).2, by rw [Int.toNat_of_nonneg hcl.1]⟩
  have hn0 : n0 ≤ 16 := by rw [h1] at hcl; simp only at hcl; omega
  obtain ⟨lk, s2, h2⟩ : ∃ a b, Pars.rep (fun s => s.num 2) n0 s1 = (a, b) := ⟨_, _, rfl⟩
  obtain ⟨mm, s3, h3⟩ : ∃ a b, s2.count 64 = (a, b) := ⟨_, _, rfl⟩
  obtain ⟨sb, s4, h4q⟩ : ∃ a b, Pars.rep subP mm.toNat s3 = (a, b) := ⟨_, _, rfl⟩
  have hP : fP ⟨l0.drop 4, 0⟩ = ((lk, sb), s4) := by
    have e : fP ⟨l0.drop 4, 0⟩ = (((Pars.rep (fun s => s.num 2) ((⟨l0.drop 4, 0⟩ : Sc).count 16).1.toNat ((⟨l0.drop 4, 0⟩ : Sc).count 16).2).1, (Pars.rep subP (((Pars.rep (fun s => s.num 2) ((⟨l0.drop 4, 0⟩ : Sc).count 16).1.toNat ((⟨l0.drop 4, 0⟩ : Sc).count 16).2).2).count 64).1.toNat (((Pars.rep (fun s => s.num 2) ((⟨l0.drop 4, 0⟩ : Sc).count 16).1.toNat ((⟨l0.drop 4, 0⟩ : Sc).count 16).2).2).count 64).2).1), (Pars.rep subP (((Pars.rep (fun s => s.num 2) ((⟨l0.drop 4, 0⟩ : Sc).count 16).1.toNat ((⟨l0.drop 4, 0⟩ : Sc).count 16).2).2).count 64).1.toNat (((Pars.rep (fun s => s.num 2) ((⟨l0.drop 4, 0⟩ : Sc).count 16).1.toNat ((⟨l0.drop 4, 0⟩ : Sc).count 16).2).2).count 64).2).2) := rfl
    rw [e, h1]
    simp only
    rw [Int.toNat_natCast, h2]
    simp only
    rw [h3]
    simp only
    rw [h4q]
  rw [hP] at hdq
  have HDQ := Aside0.mk hdq
  have hlkl : lk.length ≤ 16 := by have := rep_len (fun s => s.num 2) n0 s1; rw [h2] at this; simp only at this; omega
  have hlk := Aside0.mk hlkl
  clear hlkl
  have HE := Aside0.mk (And.intro h1 (And.intro h2 (And.intro h3 h4q)))
  clear hcl hdq hP h1 h2 h3 h4q h4
  go_wp2_with fail
  refine (wcount HD0.out.rdr 16 (by decide)).mono ?_
  rintro e w3 ⟨rfl, hs, hg⟩
  rw [show (⟨l0.drop 4, 0⟩ : Sc).count ((16 : Nat) : Int) = ((n0 : Int), s1) from HE.out.1] at hs ⊢
  have HD1 := Aside0.mk (HD0.out.call hs hg).raise
  have hgw3 := Aside0.mk HD1.out.hi
  clear hs hg HD0
  go_upto_block 1 with fail
  go_cut [6] from 39 to 56 (fun n wx => ∃ v, Aside0 (DecS w wx w3.heap.size g s2 v (.slice none 0 0)) ∧ Aside0 (Kd.R (Kd.int .i64) 3 wx w3.heap.size (fun k => w3.heap.size ≤ k) v lk))
  case first =>
    go_wp2_with fail
    go_loopw [6] (fun n wr => ∃ (m : Nat) (s : Sc) (v : Value) (ls : List Int), n = .int .i64 m ∧ m ≤ 16 ∧ Aside0 (ls.length + m ≤ 16) ∧ Aside0 (Pars.rep (fun s => s.num 2) n0 s1 = (ls ++ (Pars.rep (fun s => s.num 2) m s).1, (Pars.rep (fun s => s.num 2) m s).2)) ∧ Aside0 (DecS w wr w3.heap.size g s v (.slice none 0 0)) ∧ Aside0 (Kd.R (Kd.int .i64) 3 wr w3.heap.size (fun k => w3.heap.size ≤ k) v ls)) (fun n _ => (intOf n).toNat)
    case atStart => exact ⟨n0, s1, _, [], rfl, hn0, ⟨by simpa using hn0⟩, ⟨by simp⟩, HD1, ⟨Kd.R_nil _ _ _ _ _⟩⟩
    case round =>
      obtain ⟨m, s, v, ls, rfl, hm, HL, HQ, HW, HV⟩ := hrel
      clear HD1
      obtain ⟨Av, cv, rfl⟩ := Kd.R_slice HV.out
      obtain ⟨A, c, d0, d1, d2, d3, e0, e1, f0, f1⟩ := HW.out.rdr.cells
      clear d0 d1 d2 d3
      by_cases hm0 : m = 0
      · subst hm0
        have HF := Aside0.mk (show (ls, s) = (lk, s2) by rw [← HE.out.2.1, HQ.out]; simp [Pars.rep])
        go_wp2
        go_meet
        obtain ⟨rfl, rfl⟩ := Prod.mk.inj HF.out
        exact ⟨_, HW, HV⟩
      by_cases hs0 : s.e = 0
      · have b0 : (s.e == 0) = true := by simp [hs0]
        have hm1 : 0 < m := by omega
        have HN := Aside0.mk (show Pars.rep (fun s => s.num 2) n0 s1 = ((ls ++ [(s.num 2).1]) ++ (Pars.rep (fun s => s.num 2) (m - 1) (s.num 2).2).1, (Pars.rep (fun s => s.num 2) (m - 1) (s.num 2).2).2) by
          rw [HQ.out]
          obtain ⟨m, rfl⟩ : ∃ k, m = k + 1 := ⟨m - 1, by omega⟩
          rw [Pars.rep, if_pos hs0]
          simp)
        clear hs0 hm0 HQ
        go_upto_region 12 with fail
        clear e0 e1 f0 f1 b0
        have H1 := Aside0.mk (HW.out.step (below_drew (Below.refl _ _)))
        have R1 := Aside0.mk (Kd.R_drew HV.out)
        obtain ⟨⟨c0', c1'⟩, g0, g1⟩ := cells2r H1.out.heap
        refine wp_region_held_drew (S := (fun _ => True)) (by kernel_rfl) trivial (fun hHeld => ?_)
        refine wpAnyH_take (i := 0) (oi := { dst := some 50, op := Op.fieldAddr 25 (Operand.tmp 2) 0, type := 0, pos := "first.go:146", after := #[], guard := none }) (v := ?_) rfl (by kernel_rfl) (by kernel_rfl) (by kernel_rfl) (fun _ _ _ h => h) (Or.inl ⟨by rfl, ?_⟩) (by assumption) ?_
        rotate_left
        · intro w hSw
          try dsimp only at hSw
          go_simp
          all_goals with_reducible rfl
        try simp only [Act.put, List.setIfInBounds_toArray, List.set_cons_zero, List.set_cons_succ]
        refine wpAnyH_take (i := 2) (oi := { dst := some 52, op := Op.move (Operand.tmp 5), type := 56, pos := "first.go:146", after := #[], guard := none }) (v := ?_) rfl (by kernel_rfl) (by kernel_rfl) (by kernel_rfl) (fun _ _ _ h => h) (Or.inl ⟨by rfl, ?_⟩) (by assumption) ?_
        rotate_left
        · intro w hSw
          try dsimp only at hSw
          go_simp
          all_goals with_reducible rfl
        try simp only [Act.put, List.setIfInBounds_toArray, List.set_cons_zero, List.set_cons_succ]
        refine wpAnyH_ready (rs := [1, 3]) (by kernel_rfl) (by simp) ?_
        refine AllReadyH.cons (o := { dst := some 51, op := Op.load 22 (Operand.tmp 50), type := 22, pos := "first.go:146", after := #[{ on := 0, ground := Ground.data }], guard := none }) rfl (fun K hK => ?_) ?_
        · skip
          go_simp
          refine hK.out _ _ trivial (fun hHeld => ?_)
          clear hK K
          try simp only [Act.put, List.setIfInBounds_toArray, List.set_cons_zero, List.set_cons_succ]
          refine wpAnyH_ready (rs := [3]) (by kernel_rfl) (by simp) ?_
          refine AllReadyH.cons (o := { dst := some 53, op := Op.call { callee := Callee.value (Operand.func 27), args := #[Operand.tmp 52], argTypes := #[56] }, type := 3, pos := "first.go:146", after := #[{ on := 2, ground := Ground.data }], guard := none }) rfl (fun K hK => ?_) AllReadyH.nil
          go_simp
          (refine (wtwo H1.out.rdr).mono ?_; rintro e w5 ⟨rfl, hs, hg⟩; have H2 := Aside0.mk (H1.out.call hs hg); have R2 := Aside0.mk (Kd.R_grown R1.out hg (fun k hk e => by cases e; have := H1.out.hi; omega)); clear hs hg; have q2 := (cells2r H2.out.heap).1.1; have H3 := Aside0.mk (H2.out.step ((Below.refl _ _).alloc (Nat.le_refl _) (.cells #[.int .i64 (s.num 2).1] 3))); have z2 := (cells2r H3.out.heap).1.1)
          go_wp2_with fail
          refine hK.out _ _ trivial (fun hHeld => ?_)
          clear hK K
          try simp only [Act.put, List.setIfInBounds_toArray, List.set_cons_zero, List.set_cons_succ]
          refine wpAnyH_ready (rs := [4]) (by kernel_rfl) (by simp) ?_
          refine AllReadyH.cons (o := { dst := some 54, op := Op.buildSlice 22 1 #[(0, Operand.tmp 53)], type := 22, pos := "first.go:146", after := #[{ on := 3, ground := Ground.data }], guard := none }) rfl (fun K hK => ?_) AllReadyH.nil
          go_simp
          refine hK.out _ _ trivial (fun hHeld => ?_)
          clear hK K
          try simp only [Act.put, List.setIfInBounds_toArray, List.set_cons_zero, List.set_cons_succ]
          refine wpAnyH_ready (rs := [5]) (by kernel_rfl) (by simp) ?_
          refine AllReadyH.cons (o := { dst := some 55, op := Op.call { callee := Callee.builtin Builtin.append, args := #[Operand.tmp 51, Operand.tmp 54], argTypes := #[22, 22] }, type := 22, pos := "first.go:146", after := #[{ on := 1, ground := Ground.data }, { on := 4, ground := Ground.data }, { on := 3, ground := Ground.chain }], guard := none }) rfl (fun K hK => ?_) AllReadyH.nil
          (refine step_append_kd (Kd.int .i64) (w0 := w5) w3.heap.size (by rfl) (.tmp 51) (.tmp 54) 22 3 _ 8 rfl Try.underlying22 info3 rfl (by decide) (by decide) (.slice Av ls.length cv) ls (s.num 2).1 [.int .i64 (s.num 2).1] (fun k => w3.heap.size ≤ k) (fun _ => False) rfl rfl rfl (fun _ hk => hk.elim) (fun k hk => by have := H2.out.hb; omega) R2.out (Below.refl _ _) H2.out.hb (by have := HL.out; omega) ?_; intro v1 w6 hR hB _ _; obtain ⟨ra, hra⟩ : ∃ l, ls ++ [(s.num 2).1] = l := ⟨_, rfl⟩; rw [hra] at hR; have RA := Aside0.mk hra; clear hra; obtain ⟨A1, c1', rfl⟩ := Kd.R_slice hR; have H4 := Aside0.mk ((H2.out.mid hB).put0 (.slice A1 ra.length c1')); have R4 := Aside0.mk (Kd.R_far (p := ⟨w.heap.size, 0, none⟩) hR (fun k hk e => by have h2 : k = w.heap.size := e; have := H2.out.lo; have := H2.out.hi; omega) (.slice A1 ra.length c1')); obtain ⟨⟨y0, y1⟩, y2, y3⟩ := cells2r (H2.out.mid hB).heap; clear hR hB)
          refine hK.out _ _ trivial (fun hHeld => ?_)
          clear hK K
          try simp only [Act.put, List.setIfInBounds_toArray, List.set_cons_zero, List.set_cons_succ]
          refine wpAnyH_take (i := 6) (oi := { dst := some 56, op := Op.fieldAddr 25 (Operand.tmp 2) 0, type := 0, pos := "first.go:146", after := #[{ on := 0, ground := Ground.phase }, { on := 1, ground := Ground.phase }, { on := 2, ground := Ground.phase }, { on := 3, ground := Ground.phase }, { on := 4, ground := Ground.phase }, { on := 5, ground := Ground.phase }], guard := none }) (v := ?_) rfl (by kernel_rfl) (by kernel_rfl) (by kernel_rfl) (fun _ _ _ h => h) (Or.inl ⟨by rfl, ?_⟩) (by assumption) ?_
          rotate_left
          · intro w hSw
            try dsimp only at hSw
            go_simp
            all_goals with_reducible rfl
          try simp only [Act.put, List.setIfInBounds_toArray, List.set_cons_zero, List.set_cons_succ]
          refine wpAnyH_ready (rs := [7]) (by kernel_rfl) (by simp) ?_
          refine AllReadyH.cons (o := { dst := none, op := Op.store 22 (Operand.tmp 56) (Operand.tmp 55), type := 0, pos := "first.go:146", after := #[{ on := 6, ground := Ground.data }, { on := 5, ground := Ground.data }, { on := 5, ground := Ground.chain }, { on := 0, ground := Ground.phase }, { on := 1, ground := Ground.phase }, { on := 2, ground := Ground.phase }, { on := 3, ground := Ground.phase }, { on := 4, ground := Ground.phase }, { on := 5, ground := Ground.phase }], guard := none }) rfl (fun K hK => ?_) AllReadyH.nil
          go_simp
          refine hK.out _ _ trivial (fun hHeld => ?_)
          clear hK K
          try simp only [Act.put, List.setIfInBounds_toArray, List.set_cons_zero, List.set_cons_succ]
          refine wpAnyH_done (by kernel_rfl) ?_ _
          go_wp2_with fail
          exact ⟨⟨m - 1, (s.num 2).2, _, ra, by rw [show ((m - 1 : Nat) : Int) = (m : Int) - 1 by omega], by omega, ⟨by rw [← RA.out, List.length_append, List.length_singleton]; have := HL.out; omega⟩, ⟨by rw [← RA.out]; exact HN.out⟩, H4, R4⟩, by simp [intOf]; omega⟩
        refine AllReadyH.cons (o := { dst := some 53, op := Op.call { callee := Callee.value (Operand.func 27), args := #[Operand.tmp 52], argTypes := #[56] }, type := 3, pos := "first.go:146", after := #[{ on := 2, ground := Ground.data }], guard := none }) rfl (fun K hK => ?_) AllReadyH.nil
        go_simp
        (refine (wtwo H1.out.rdr).mono ?_; rintro e w5 ⟨rfl, hs, hg⟩; have H2 := Aside0.mk (H1.out.call hs hg); have R2 := Aside0.mk (Kd.R_grown R1.out hg (fun k hk e => by cases e; have := H1.out.hi; omega)); clear hs hg; have q2 := (cells2r H2.out.heap).1.1; have H3 := Aside0.mk (H2.out.step ((Below.refl _ _).alloc (Nat.le_refl _) (.cells #[.int .i64 (s.num 2).1] 3))); have z2 := (cells2r H3.out.heap).1.1)
        go_wp2_with fail
        refine hK.out _ _ trivial (fun hHeld => ?_)
        clear hK K
        try simp only [Act.put, List.setIfInBounds_toArray, List.set_cons_zero, List.set_cons_succ]
        refine wpAnyH_ready (rs := [1, 4]) (by kernel_rfl) (by simp) ?_
        refine AllReadyH.cons (o := { dst := some 51, op := Op.load 22 (Operand.tmp 50), type := 22, pos := "first.go:146", after := #[{ on := 0, ground := Ground.data }], guard := none }) rfl (fun K hK => ?_) ?_
        · skip
          go_simp
          refine hK.out _ _ trivial (fun hHeld => ?_)
          clear hK K
          try simp only [Act.put, List.setIfInBounds_toArray, List.set_cons_zero, List.set_cons_succ]
          refine wpAnyH_ready (rs := [4]) (by kernel_rfl) (by simp) ?_
          refine AllReadyH.cons (o := { dst := some 54, op := Op.buildSlice 22 1 #[(0, Operand.tmp 53)], type := 22, pos := "first.go:146", after := #[{ on := 3, ground := Ground.data }], guard := none }) rfl (fun K hK => ?_) AllReadyH.nil
          go_simp
          refine hK.out _ _ trivial (fun hHeld => ?_)
          clear hK K
          try simp only [Act.put, List.setIfInBounds_toArray, List.set_cons_zero, List.set_cons_succ]
          refine wpAnyH_ready (rs := [5]) (by kernel_rfl) (by simp) ?_
          refine AllReadyH.cons (o := { dst := some 55, op := Op.call { callee := Callee.builtin Builtin.append, args := #[Operand.tmp 51, Operand.tmp 54], argTypes := #[22, 22] }, type := 22, pos := "first.go:146", after := #[{ on := 1, ground := Ground.data }, { on := 4, ground := Ground.data }, { on := 3, ground := Ground.chain }], guard := none }) rfl (fun K hK => ?_) AllReadyH.nil
          (refine step_append_kd (Kd.int .i64) (w0 := w5) w3.heap.size (by rfl) (.tmp 51) (.tmp 54) 22 3 _ 8 rfl Try.underlying22 info3 rfl (by decide) (by decide) (.slice Av ls.length cv) ls (s.num 2).1 [.int .i64 (s.num 2).1] (fun k => w3.heap.size ≤ k) (fun _ => False) rfl rfl rfl (fun _ hk => hk.elim) (fun k hk => by have := H2.out.hb; omega) R2.out (Below.refl _ _) H2.out.hb (by have := HL.out; omega) ?_; intro v1 w6 hR hB _ _; obtain ⟨ra, hra⟩ : ∃ l, ls ++ [(s.num 2).1] = l := ⟨_, rfl⟩; rw [hra] at hR; have RA := Aside0.mk hra; clear hra; obtain ⟨A1, c1', rfl⟩ := Kd.R_slice hR; have H4 := Aside0.mk ((H2.out.mid hB).put0 (.slice A1 ra.length c1')); have R4 := Aside0.mk (Kd.R_far (p := ⟨w.heap.size, 0, none⟩) hR (fun k hk e => by have h2 : k = w.heap.size := e; have := H2.out.lo; have := H2.out.hi; omega) (.slice A1 ra.length c1')); obtain ⟨⟨y0, y1⟩, y2, y3⟩ := cells2r (H2.out.mid hB).heap; clear hR hB)
          refine hK.out _ _ trivial (fun hHeld => ?_)
          clear hK K
          try simp only [Act.put, List.setIfInBounds_toArray, List.set_cons_zero, List.set_cons_succ]
          refine wpAnyH_take (i := 6) (oi := { dst := some 56, op := Op.fieldAddr 25 (Operand.tmp 2) 0, type := 0, pos := "first.go:146", after := #[{ on := 0, ground := Ground.phase }, { on := 1, ground := Ground.phase }, { on := 2, ground := Ground.phase }, { on := 3, ground := Ground.phase }, { on := 4, ground := Ground.phase }, { on := 5, ground := Ground.phase }], guard := none }) (v := ?_) rfl (by kernel_rfl) (by kernel_rfl) (by kernel_rfl) (fun _ _ _ h => h) (Or.inl ⟨by rfl, ?_⟩) (by assumption) ?_
          rotate_left
          · intro w hSw
            try dsimp only at hSw
            go_simp
            all_goals with_reducible rfl
          try simp only [Act.put, List.setIfInBounds_toArray, List.set_cons_zero, List.set_cons_succ]
          refine wpAnyH_ready (rs := [7]) (by kernel_rfl) (by simp) ?_
          refine AllReadyH.cons (o := { dst := none, op := Op.store 22 (Operand.tmp 56) (Operand.tmp 55), type := 0, pos := "first.go:146", after := #[{ on := 6, ground := Ground.data }, { on := 5, ground := Ground.data }, { on := 5, ground := Ground.chain }, { on := 0, ground := Ground.phase }, { on := 1, ground := Ground.phase }, { on := 2, ground := Ground.phase }, { on := 3, ground := Ground.phase }, { on := 4, ground := Ground.phase }, { on := 5, ground := Ground.phase }], guard := none }) rfl (fun K hK => ?_) AllReadyH.nil
          go_simp
          refine hK.out _ _ trivial (fun hHeld => ?_)
          clear hK K
          try simp only [Act.put, List.setIfInBounds_toArray, List.set_cons_zero, List.set_cons_succ]
          refine wpAnyH_done (by kernel_rfl) ?_ _
          go_wp2_with fail
          exact ⟨⟨m - 1, (s.num 2).2, _, ra, by rw [show ((m - 1 : Nat) : Int) = (m : Int) - 1 by omega], by omega, ⟨by rw [← RA.out, List.length_append, List.length_singleton]; have := HL.out; omega⟩, ⟨by rw [← RA.out]; exact HN.out⟩, H4, R4⟩, by simp [intOf]; omega⟩
        refine AllReadyH.cons (o := { dst := some 54, op := Op.buildSlice 22 1 #[(0, Operand.tmp 53)], type := 22, pos := "first.go:146", after := #[{ on := 3, ground := Ground.data }], guard := none }) rfl (fun K hK => ?_) AllReadyH.nil
        go_simp
        refine hK.out _ _ trivial (fun hHeld => ?_)
        clear hK K
        try simp only [Act.put, List.setIfInBounds_toArray, List.set_cons_zero, List.set_cons_succ]
        refine wpAnyH_ready (rs := [1]) (by kernel_rfl) (by simp) ?_
        refine AllReadyH.cons (o := { dst := some 51, op := Op.load 22 (Operand.tmp 50), type := 22, pos := "first.go:146", after := #[{ on := 0, ground := Ground.data }], guard := none }) rfl (fun K hK => ?_) AllReadyH.nil
        go_simp
        refine hK.out _ _ trivial (fun hHeld => ?_)
        clear hK K
        try simp only [Act.put, List.setIfInBounds_toArray, List.set_cons_zero, List.set_cons_succ]
        refine wpAnyH_ready (rs := [5]) (by kernel_rfl) (by simp) ?_
        refine AllReadyH.cons (o := { dst := some 55, op := Op.call { callee := Callee.builtin Builtin.append, args := #[Operand.tmp 51, Operand.tmp 54], argTypes := #[22, 22] }, type := 22, pos := "first.go:146", after := #[{ on := 1, ground := Ground.data }, { on := 4, ground := Ground.data }, { on := 3, ground := Ground.chain }], guard := none }) rfl (fun K hK => ?_) AllReadyH.nil
        (refine step_append_kd (Kd.int .i64) (w0 := w5) w3.heap.size (by rfl) (.tmp 51) (.tmp 54) 22 3 _ 8 rfl Try.underlying22 info3 rfl (by decide) (by decide) (.slice Av ls.length cv) ls (s.num 2).1 [.int .i64 (s.num 2).1] (fun k => w3.heap.size ≤ k) (fun _ => False) rfl rfl rfl (fun _ hk => hk.elim) (fun k hk => by have := H2.out.hb; omega) R2.out (Below.refl _ _) H2.out.hb (by have := HL.out; omega) ?_; intro v1 w6 hR hB _ _; obtain ⟨ra, hra⟩ : ∃ l, ls ++ [(s.num 2).1] = l := ⟨_, rfl⟩; rw [hra] at hR; have RA := Aside0.mk hra; clear hra; obtain ⟨A1, c1', rfl⟩ := Kd.R_slice hR; have H4 := Aside0.mk ((H2.out.mid hB).put0 (.slice A1 ra.length c1')); have R4 := Aside0.mk (Kd.R_far (p := ⟨w.heap.size, 0, none⟩) hR (fun k hk e => by have h2 : k = w.heap.size := e; have := H2.out.lo; have := H2.out.hi; omega) (.slice A1 ra.length c1')); obtain ⟨⟨y0, y1⟩, y2, y3⟩ := cells2r (H2.out.mid hB).heap; clear hR hB)
        refine hK.out _ _ trivial (fun hHeld => ?_)
        clear hK K
        try simp only [Act.put, List.setIfInBounds_toArray, List.set_cons_zero, List.set_cons_succ]
        refine wpAnyH_take (i := 6) (oi := { dst := some 56, op := Op.fieldAddr 25 (Operand.tmp 2) 0, type := 0, pos := "first.go:146", after := #[{ on := 0, ground := Ground.phase }, { on := 1, ground := Ground.phase }, { on := 2, ground := Ground.phase }, { on := 3, ground := Ground.phase }, { on := 4, ground := Ground.phase }, { on := 5, ground := Ground.phase }], guard := none }) (v := ?_) rfl (by kernel_rfl) (by kernel_rfl) (by kernel_rfl) (fun _ _ _ h => h) (Or.inl ⟨by rfl, ?_⟩) (by assumption) ?_
        rotate_left
        · intro w hSw
          try dsimp only at hSw
          go_simp
          all_goals with_reducible rfl
        try simp only [Act.put, List.setIfInBounds_toArray, List.set_cons_zero, List.set_cons_succ]
        refine wpAnyH_ready (rs := [7]) (by kernel_rfl) (by simp) ?_
        refine AllReadyH.cons (o := { dst := none, op := Op.store 22 (Operand.tmp 56) (Operand.tmp 55), type := 0, pos := "first.go:146", after := #[{ on := 6, ground := Ground.data }, { on := 5, ground := Ground.data }, { on := 5, ground := Ground.chain }, { on := 0, ground := Ground.phase }, { on := 1, ground := Ground.phase }, { on := 2, ground := Ground.phase }, { on := 3, ground := Ground.phase }, { on := 4, ground := Ground.phase }, { on := 5, ground := Ground.phase }], guard := none }) rfl (fun K hK => ?_) AllReadyH.nil
        go_simp
        refine hK.out _ _ trivial (fun hHeld => ?_)
        clear hK K
        try simp only [Act.put, List.setIfInBounds_toArray, List.set_cons_zero, List.set_cons_succ]
        refine wpAnyH_done (by kernel_rfl) ?_ _
        go_wp2_with fail
        exact ⟨⟨m - 1, (s.num 2).2, _, ra, by rw [show ((m - 1 : Nat) : Int) = (m : Int) - 1 by omega], by omega, ⟨by rw [← RA.out, List.length_append, List.length_singleton]; have := HL.out; omega⟩, ⟨by rw [← RA.out]; exact HN.out⟩, H4, R4⟩, by simp [intOf]; omega⟩
      · have b0 : (s.e == 0) = false := by simp [hs0]
        have hm1 : 0 < m := by omega
        have HF := Aside0.mk (show (ls, s) = (lk, s2) by
          rw [← HE.out.2.1, HQ.out]
          obtain ⟨m, rfl⟩ : ∃ k, m = k + 1 := ⟨m - 1, by omega⟩
          rw [Pars.rep, if_neg hs0]
          simp)
        clear hs0
        go_wp2
        go_meet
        obtain ⟨rfl, rfl⟩ := Prod.mk.inj HF.out
        exact ⟨_, HW, HV⟩
  case rest =>
  obtain ⟨vl, HD2, HR2⟩ := hcut
  clear HD1
  obtain ⟨Al, cl, rfl⟩ := Kd.R_slice HR2.out
  obtain ⟨wd, hwd⟩ : ∃ q, q = wc := ⟨_, rfl⟩
  rw [← hwd] at HD2 HR2 ⊢
  clear hwd
  have hcl : 0 ≤ (s2.count 64).1 ∧ (s2.count 64).1 ≤ 64 := Sc.count_le HD2.out.rdr.u8 64
  obtain ⟨m0, hm0⟩ : ∃ n : Nat, mm = (n : Int) := ⟨mm.toNat, by have h := HE.out.2.2.1; rw [h] at hcl; simp only at hcl; omega⟩
  have hm64 : m0 ≤ 64 := by have h := HE.out.2.2.1; rw [h] at hcl; simp only at hcl; omega
  subst hm0
  clear hcl
  go_wp2_with fail
  refine (wcount HD2.out.rdr 64 (by decide)).mono ?_
  rintro e w4 ⟨rfl, hs, hg⟩
  rw [show s2.count ((64 : Nat) : Int) = ((m0 : Int), s3) from HE.out.2.2.1] at hs ⊢
  have HD3 := Aside0.mk (HD2.out.call hs hg).raise
  have HR3 := Aside0.mk (Kd.R_mono (Kd.R_bound (Kd.R_grown HR2.out hg (fun k hk e => by cases e; have := HD2.out.hi; omega))) (ok' := fun k => w3.heap.size ≤ k ∧ k < w4.heap.size) (fun k hk => ⟨hk.1, hk.2.2.1⟩))
  clear hs hg HD2 HR2
  go_upto_block 3 with fail
  go_cut [7] from 59 to 76 (fun n wx => ∃ v, Aside0 (DecS w wx w4.heap.size g s4 (.slice Al lk.length cl) v) ∧ Aside0 (Kd.R (Kd.int .i64) 3 wx w3.heap.size (fun k => w3.heap.size ≤ k ∧ k < w4.heap.size) (.slice Al lk.length cl) lk) ∧ Aside0 (Kd.R k40 40 wx w4.heap.size (fun k => w4.heap.size ≤ k) v sb))
  case first =>
    go_wp2_with fail
    have HG := Aside0.mk (show g < w3.heap.size from hgw3.out)
    go_loopw [7] (fun n wr => ∃ (m : Nat) (s : Sc) (v : Value) (ls : List S40), n = .int .i64 m ∧ m ≤ 64 ∧ Aside0 (ls.length + m ≤ 64) ∧ Aside0 (Pars.rep subP m0 s3 = (ls ++ (Pars.rep subP m s).1, (Pars.rep subP m s).2)) ∧ Aside0 (DecS w wr w4.heap.size g s (.slice Al lk.length cl) v) ∧ Aside0 (Kd.R (Kd.int .i64) 3 wr w3.heap.size (fun k => w3.heap.size ≤ k ∧ k < w4.heap.size) (.slice Al lk.length cl) lk) ∧ Aside0 (Kd.R k40 40 wr w4.heap.size (fun k => w4.heap.size ≤ k) v ls)) (fun n _ => (intOf n).toNat)
    case atStart => exact ⟨m0, s3, _, [], rfl, hm64, ⟨by simpa using hm64⟩, ⟨by simp⟩, HD3, HR3, ⟨Kd.R_nil _ _ _ _ _⟩⟩
    case round =>
      obtain ⟨m, s, v, ls, rfl, hm, HL, HQ, HW, HX, HV⟩ := hrel
      clear HD3 HR3
      obtain ⟨Av, cv, rfl⟩ := Kd.R_slice HV.out
      obtain ⟨A, c, d0, d1, d2, d3, e0, e1, f0, f1⟩ := HW.out.rdr.cells
      clear d0 d1 d2 d3
      by_cases hm0 : m = 0
      · subst hm0
        have HF := Aside0.mk (show (ls, s) = (sb, s4) by have h := HE.out.2.2.2; rw [Int.toNat_natCast] at h; rw [← h, HQ.out]; simp [Pars.rep])
        go_wp2
        go_meet
        obtain ⟨rfl, rfl⟩ := Prod.mk.inj HF.out
        exact ⟨_, HW, HX, HV⟩
      by_cases hs0 : s.e = 0
      · have b0 : (s.e == 0) = true := by simp [hs0]
        have hm1 : 0 < m := by omega
        have HN := Aside0.mk (show Pars.rep subP m0 s3 = ((ls ++ [(subP s).1]) ++ (Pars.rep subP (m - 1) (subP s).2).1, (Pars.rep subP (m - 1) (subP s).2).2) by
          rw [HQ.out]
          obtain ⟨m, rfl⟩ : ∃ k, m = k + 1 := ⟨m - 1, by omega⟩
          rw [Pars.rep, if_pos hs0]
          simp)
        clear hs0 hm0 HQ
        go_upto_region 16 with fail
        clear e0 e1 f0 f1 b0
        have H1 := Aside0.mk (HW.out.step (below_drew (Below.refl _ _)))
        have R1 := Aside0.mk (Kd.R_drew HV.out)
        have L1 := Aside0.mk (Kd.R_drew HX.out)
        obtain ⟨⟨c0', c1'⟩, g0, g1⟩ := cells2r H1.out.heap
        refine wp_region_held_drew (S := (fun _ => True)) (by kernel_rfl) trivial (fun hHeld => ?_)
        refine wpAnyH_take (i := 0) (oi := { dst := some 70, op := Op.fieldAddr 25 (Operand.tmp 2) 1, type := 0, pos := "first.go:149", after := #[], guard := none }) (v := ?_) rfl (by kernel_rfl) (by kernel_rfl) (by kernel_rfl) (fun _ _ _ h => h) (Or.inl ⟨by rfl, ?_⟩) (by assumption) ?_
        rotate_left
        · intro w hSw
          try dsimp only at hSw
          go_simp
          all_goals with_reducible rfl
        try simp only [Act.put, List.setIfInBounds_toArray, List.set_cons_zero, List.set_cons_succ]
        refine wpAnyH_take (i := 2) (oi := { dst := some 72, op := Op.move (Operand.tmp 5), type := 56, pos := "first.go:149", after := #[], guard := none }) (v := ?_) rfl (by kernel_rfl) (by kernel_rfl) (by kernel_rfl) (fun _ _ _ h => h) (Or.inl ⟨by rfl, ?_⟩) (by assumption) ?_
        rotate_left
        · intro w hSw
          try dsimp only at hSw
          go_simp
          all_goals with_reducible rfl
        try simp only [Act.put, List.setIfInBounds_toArray, List.set_cons_zero, List.set_cons_succ]
        refine wpAnyH_ready (rs := [1, 3]) (by kernel_rfl) (by simp) ?_
        refine AllReadyH.cons (o := { dst := some 71, op := Op.load 23 (Operand.tmp 70), type := 23, pos := "first.go:149", after := #[{ on := 0, ground := Ground.data }], guard := none }) rfl (fun K hK => ?_) ?_
        · skip
          go_simp
          refine hK.out _ _ trivial (fun hHeld => ?_)
          clear hK K
          try simp only [Act.put, List.setIfInBounds_toArray, List.set_cons_zero, List.set_cons_succ]
          refine wpAnyH_ready (rs := [3]) (by kernel_rfl) (by simp) ?_
          refine AllReadyH.cons (o := { dst := some 73, op := Op.call { callee := Callee.value (Operand.func 28), args := #[Operand.tmp 72], argTypes := #[56] }, type := 40, pos := "first.go:149", after := #[{ on := 2, ground := Ground.data }], guard := none }) rfl (fun K hK => ?_) AllReadyH.nil
          go_simp
          (refine (wsub H1.out.rdr).mono ?_; rintro e w5 ⟨vx, rfl, hRx, hs, hg⟩; obtain ⟨Ax, cx, rfl⟩ := Kd.R_slice hRx; have H2 := Aside0.mk (H1.out.call hs hg); have RX := Aside0.mk (Kd.R_bound hRx); have SZ := Aside0.mk (Kd.R_lt R1.out); have R2 := Aside0.mk (Kd.R_grown R1.out hg (fun k hk e => by cases e; have := H1.out.hi; omega)); have L2 := Aside0.mk (Kd.R_grown L1.out hg (fun k hk e => by cases e; have := HG.out; omega)); clear hs hg hRx; have q2 := (cells2r H2.out.heap).1.2; have H3 := Aside0.mk (H2.out.step ((Below.refl _ _).alloc (Nat.le_refl _) (.cells #[.int .i64 (subP s).1.f0, .int .i64 (subP s).1.f1, .slice Ax (subP s).1.f2.length cx] 40))); have z2 := (cells2r H3.out.heap).1.2)
          go_wp2_with fail
          refine hK.out _ _ trivial (fun hHeld => ?_)
          clear hK K
          try simp only [Act.put, List.setIfInBounds_toArray, List.set_cons_zero, List.set_cons_succ]
          refine wpAnyH_ready (rs := [4]) (by kernel_rfl) (by simp) ?_
          refine AllReadyH.cons (o := { dst := some 74, op := Op.buildSlice 23 1 #[(0, Operand.tmp 73)], type := 23, pos := "first.go:149", after := #[{ on := 3, ground := Ground.data }], guard := none }) rfl (fun K hK => ?_) AllReadyH.nil
          go_simp
          refine hK.out _ _ trivial (fun hHeld => ?_)
          clear hK K
          try simp only [Act.put, List.setIfInBounds_toArray, List.set_cons_zero, List.set_cons_succ]
          refine wpAnyH_ready (rs := [5]) (by kernel_rfl) (by simp) ?_
          refine AllReadyH.cons (o := { dst := some 75, op := Op.call { callee := Callee.builtin Builtin.append, args := #[Operand.tmp 71, Operand.tmp 74], argTypes := #[23, 23] }, type := 23, pos := "first.go:149", after := #[{ on := 1, ground := Ground.data }, { on := 4, ground := Ground.data }, { on := 3, ground := Ground.chain }], guard := none }) rfl (fun K hK => ?_) AllReadyH.nil
          (refine step_append_kd k40 (w0 := w5) w4.heap.size (by rfl) (.tmp 71) (.tmp 74) 23 40 _ 40 rfl Try.underlying23 info_sb3 rfl (by decide) (by decide) (.slice Av ls.length cv) ls (subP s).1 [.int .i64 (subP s).1.f0, .int .i64 (subP s).1.f1, .slice Ax (subP s).1.f2.length cx] (fun k => w4.heap.size ≤ k) (fun k => wr.heap.size ≤ k) rfl rfl (k40_mkM _ _ _ _ (Kd.R_lower (Kd.R_mono RX.out (fun k hk => by have h_ := hk.2.1; simpa using h_)) (by have := HW.out.hb; simpa using this))) (fun k hk => ⟨by have := HW.out.hb; omega, fun e => by have := SZ.out k e.symm; simp at this; omega⟩) (fun k hk => by have := H2.out.hb; omega) R2.out (Below.refl _ _) H2.out.hb (by have := HL.out; omega) ?_; intro v1 w6 hR hB _ _; obtain ⟨ra, hra⟩ : ∃ l, ls ++ [(subP s).1] = l := ⟨_, rfl⟩; rw [hra] at hR; have RA := Aside0.mk hra; clear hra; obtain ⟨A1, c1', rfl⟩ := Kd.R_slice hR; have H4 := Aside0.mk ((H2.out.mid hB).put1 (.slice A1 ra.length c1')); have R4 := Aside0.mk (Kd.R_far (p := ⟨w.heap.size, 1, none⟩) hR (fun k hk e => by have h2 : k = w.heap.size := e; have := H2.out.lo; have := H2.out.hi; omega) (.slice A1 ra.length c1')); have L4 := Aside0.mk (Kd.R_far (p := ⟨w.heap.size, 1, none⟩) (Kd.R_move L2.out (fun k hk => hB.block k hk.2)) (fun k hk e => by have h2 : k = w.heap.size := e; have := H2.out.lo; have := HG.out; omega) (.slice A1 ra.length c1')); obtain ⟨⟨y0, y1⟩, y2, y3⟩ := cells2r (H2.out.mid hB).heap; clear hR hB)
          refine hK.out _ _ trivial (fun hHeld => ?_)
          clear hK K
          try simp only [Act.put, List.setIfInBounds_toArray, List.set_cons_zero, List.set_cons_succ]
          refine wpAnyH_take (i := 6) (oi := { dst := some 76, op := Op.fieldAddr 25 (Operand.tmp 2) 1, type := 0, pos := "first.go:149", after := #[{ on := 0, ground := Ground.phase }, { on := 1, ground := Ground.phase }, { on := 2, ground := Ground.phase }, { on := 3, ground := Ground.phase }, { on := 4, ground := Ground.phase }, { on := 5, ground := Ground.phase }], guard := none }) (v := ?_) rfl (by kernel_rfl) (by kernel_rfl) (by kernel_rfl) (fun _ _ _ h => h) (Or.inl ⟨by rfl, ?_⟩) (by assumption) ?_
          rotate_left
          · intro w hSw
            try dsimp only at hSw
            go_simp
            all_goals with_reducible rfl
          try simp only [Act.put, List.setIfInBounds_toArray, List.set_cons_zero, List.set_cons_succ]
          refine wpAnyH_ready (rs := [7]) (by kernel_rfl) (by simp) ?_
          refine AllReadyH.cons (o := { dst := none, op := Op.store 23 (Operand.tmp 76) (Operand.tmp 75), type := 0, pos := "first.go:149", after := #[{ on := 6, ground := Ground.data }, { on := 5, ground := Ground.data }, { on := 5, ground := Ground.chain }, { on := 0, ground := Ground.phase }, { on := 1, ground := Ground.phase }, { on := 2, ground := Ground.phase }, { on := 3, ground := Ground.phase }, { on := 4, ground := Ground.phase }, { on := 5, ground := Ground.phase }], guard := none }) rfl (fun K hK => ?_) AllReadyH.nil
          go_simp
          refine hK.out _ _ trivial (fun hHeld => ?_)
          clear hK K
          try simp only [Act.put, List.setIfInBounds_toArray, List.set_cons_zero, List.set_cons_succ]
          refine wpAnyH_done (by kernel_rfl) ?_ _
          go_wp2_with fail
          exact ⟨⟨m - 1, (subP s).2, _, ra, by rw [show ((m - 1 : Nat) : Int) = (m : Int) - 1 by omega], by omega, ⟨by rw [← RA.out, List.length_append, List.length_singleton]; have := HL.out; omega⟩, ⟨by rw [← RA.out]; exact HN.out⟩, H4, L4, R4⟩, by simp [intOf]; omega⟩
        refine AllReadyH.cons (o := { dst := some 73, op := Op.call { callee := Callee.value (Operand.func 28), args := #[Operand.tmp 72], argTypes := #[56] }, type := 40, pos := "first.go:149", after := #[{ on := 2, ground := Ground.data }], guard := none }) rfl (fun K hK => ?_) AllReadyH.nil
        go_simp
        (refine (wsub H1.out.rdr).mono ?_; rintro e w5 ⟨vx, rfl, hRx, hs, hg⟩; obtain ⟨Ax, cx, rfl⟩ := Kd.R_slice hRx; have H2 := Aside0.mk (H1.out.call hs hg); have RX := Aside0.mk (Kd.R_bound hRx); have SZ := Aside0.mk (Kd.R_lt R1.out); have R2 := Aside0.mk (Kd.R_grown R1.out hg (fun k hk e => by cases e; have := H1.out.hi; omega)); have L2 := Aside0.mk (Kd.R_grown L1.out hg (fun k hk e => by cases e; have := HG.out; omega)); clear hs hg hRx; have q2 := (cells2r H2.out.heap).1.2; have H3 := Aside0.mk (H2.out.step ((Below.refl _ _).alloc (Nat.le_refl _) (.cells #[.int .i64 (subP s).1.f0, .int .i64 (subP s).1.f1, .slice Ax (subP s).1.f2.length cx] 40))); have z2 := (cells2r H3.out.heap).1.2)
        go_wp2_with fail
        refine hK.out _ _ trivial (fun hHeld => ?_)
        clear hK K
        try simp only [Act.put, List.setIfInBounds_toArray, List.set_cons_zero, List.set_cons_succ]
        refine wpAnyH_ready (rs := [1, 4]) (by kernel_rfl) (by simp) ?_
        refine AllReadyH.cons (o := { dst := some 71, op := Op.load 23 (Operand.tmp 70), type := 23, pos := "first.go:149", after := #[{ on := 0, ground := Ground.data }], guard := none }) rfl (fun K hK => ?_) ?_
        · skip
          go_simp
          refine hK.out _ _ trivial (fun hHeld => ?_)
          clear hK K
          try simp only [Act.put, List.setIfInBounds_toArray, List.set_cons_zero, List.set_cons_succ]
          refine wpAnyH_ready (rs := [4]) (by kernel_rfl) (by simp) ?_
          refine AllReadyH.cons (o := { dst := some 74, op := Op.buildSlice 23 1 #[(0, Operand.tmp 73)], type := 23, pos := "first.go:149", after := #[{ on := 3, ground := Ground.data }], guard := none }) rfl (fun K hK => ?_) AllReadyH.nil
          go_simp
          refine hK.out _ _ trivial (fun hHeld => ?_)
          clear hK K
          try simp only [Act.put, List.setIfInBounds_toArray, List.set_cons_zero, List.set_cons_succ]
          refine wpAnyH_ready (rs := [5]) (by kernel_rfl) (by simp) ?_
          refine AllReadyH.cons (o := { dst := some 75, op := Op.call { callee := Callee.builtin Builtin.append, args := #[Operand.tmp 71, Operand.tmp 74], argTypes := #[23, 23] }, type := 23, pos := "first.go:149", after := #[{ on := 1, ground := Ground.data }, { on := 4, ground := Ground.data }, { on := 3, ground := Ground.chain }], guard := none }) rfl (fun K hK => ?_) AllReadyH.nil
          (refine step_append_kd k40 (w0 := w5) w4.heap.size (by rfl) (.tmp 71) (.tmp 74) 23 40 _ 40 rfl Try.underlying23 info_sb3 rfl (by decide) (by decide) (.slice Av ls.length cv) ls (subP s).1 [.int .i64 (subP s).1.f0, .int .i64 (subP s).1.f1, .slice Ax (subP s).1.f2.length cx] (fun k => w4.heap.size ≤ k) (fun k => wr.heap.size ≤ k) rfl rfl (k40_mkM _ _ _ _ (Kd.R_lower (Kd.R_mono RX.out (fun k hk => by have h_ := hk.2.1; simpa using h_)) (by have := HW.out.hb; simpa using this))) (fun k hk => ⟨by have := HW.out.hb; omega, fun e => by have := SZ.out k e.symm; simp at this; omega⟩) (fun k hk => by have := H2.out.hb; omega) R2.out (Below.refl _ _) H2.out.hb (by have := HL.out; omega) ?_; intro v1 w6 hR hB _ _; obtain ⟨ra, hra⟩ : ∃ l, ls ++ [(subP s).1] = l := ⟨_, rfl⟩; rw [hra] at hR; have RA := Aside0.mk hra; clear hra; obtain ⟨A1, c1', rfl⟩ := Kd.R_slice hR; have H4 := Aside0.mk ((H2.out.mid hB).put1 (.slice A1 ra.length c1')); have R4 := Aside0.mk (Kd.R_far (p := ⟨w.heap.size, 1, none⟩) hR (fun k hk e => by have h2 : k = w.heap.size := e; have := H2.out.lo; have := H2.out.hi; omega) (.slice A1 ra.length c1')); have L4 := Aside0.mk (Kd.R_far (p := ⟨w.heap.size, 1, none⟩) (Kd.R_move L2.out (fun k hk => hB.block k hk.2)) (fun k hk e => by have h2 : k = w.heap.size := e; have := H2.out.lo; have := HG.out; omega) (.slice A1 ra.length c1')); obtain ⟨⟨y0, y1⟩, y2, y3⟩ := cells2r (H2.out.mid hB).heap; clear hR hB)
          refine hK.out _ _ trivial (fun hHeld => ?_)
          clear hK K
          try simp only [Act.put, List.setIfInBounds_toArray, List.set_cons_zero, List.set_cons_succ]
          refine wpAnyH_take (i := 6) (oi := { dst := some 76, op := Op.fieldAddr 25 (Operand.tmp 2) 1, type := 0, pos := "first.go:149", after := #[{ on := 0, ground := Ground.phase }, { on := 1, ground := Ground.phase }, { on := 2, ground := Ground.phase }, { on := 3, ground := Ground.phase }, { on := 4, ground := Ground.phase }, { on := 5, ground := Ground.phase }], guard := none }) (v := ?_) rfl (by kernel_rfl) (by kernel_rfl) (by kernel_rfl) (fun _ _ _ h => h) (Or.inl ⟨by rfl, ?_⟩) (by assumption) ?_
          rotate_left
          · intro w hSw
            try dsimp only at hSw
            go_simp
            all_goals with_reducible rfl
          try simp only [Act.put, List.setIfInBounds_toArray, List.set_cons_zero, List.set_cons_succ]
          refine wpAnyH_ready (rs := [7]) (by kernel_rfl) (by simp) ?_
          refine AllReadyH.cons (o := { dst := none, op := Op.store 23 (Operand.tmp 76) (Operand.tmp 75), type := 0, pos := "first.go:149", after := #[{ on := 6, ground := Ground.data }, { on := 5, ground := Ground.data }, { on := 5, ground := Ground.chain }, { on := 0, ground := Ground.phase }, { on := 1, ground := Ground.phase }, { on := 2, ground := Ground.phase }, { on := 3, ground := Ground.phase }, { on := 4, ground := Ground.phase }, { on := 5, ground := Ground.phase }], guard := none }) rfl (fun K hK => ?_) AllReadyH.nil
          go_simp
          refine hK.out _ _ trivial (fun hHeld => ?_)
          clear hK K
          try simp only [Act.put, List.setIfInBounds_toArray, List.set_cons_zero, List.set_cons_succ]
          refine wpAnyH_done (by kernel_rfl) ?_ _
          go_wp2_with fail
          exact ⟨⟨m - 1, (subP s).2, _, ra, by rw [show ((m - 1 : Nat) : Int) = (m : Int) - 1 by omega], by omega, ⟨by rw [← RA.out, List.length_append, List.length_singleton]; have := HL.out; omega⟩, ⟨by rw [← RA.out]; exact HN.out⟩, H4, L4, R4⟩, by simp [intOf]; omega⟩
        refine AllReadyH.cons (o := { dst := some 74, op := Op.buildSlice 23 1 #[(0, Operand.tmp 73)], type := 23, pos := "first.go:149", after := #[{ on := 3, ground := Ground.data }], guard := none }) rfl (fun K hK => ?_) AllReadyH.nil
        go_simp
        refine hK.out _ _ trivial (fun hHeld => ?_)
        clear hK K
        try simp only [Act.put, List.setIfInBounds_toArray, List.set_cons_zero, List.set_cons_succ]
        refine wpAnyH_ready (rs := [1]) (by kernel_rfl) (by simp) ?_
        refine AllReadyH.cons (o := { dst := some 71, op := Op.load 23 (Operand.tmp 70), type := 23, pos := "first.go:149", after := #[{ on := 0, ground := Ground.data }], guard := none }) rfl (fun K hK => ?_) AllReadyH.nil
        go_simp
        refine hK.out _ _ trivial (fun hHeld => ?_)
        clear hK K
        try simp only [Act.put, List.setIfInBounds_toArray, List.set_cons_zero, List.set_cons_succ]
        refine wpAnyH_ready (rs := [5]) (by kernel_rfl) (by simp) ?_
        refine AllReadyH.cons (o := { dst := some 75, op := Op.call { callee := Callee.builtin Builtin.append, args := #[Operand.tmp 71, Operand.tmp 74], argTypes := #[23, 23] }, type := 23, pos := "first.go:149", after := #[{ on := 1, ground := Ground.data }, { on := 4, ground := Ground.data }, { on := 3, ground := Ground.chain }], guard := none }) rfl (fun K hK => ?_) AllReadyH.nil
        (refine step_append_kd k40 (w0 := w5) w4.heap.size (by rfl) (.tmp 71) (.tmp 74) 23 40 _ 40 rfl Try.underlying23 info_sb3 rfl (by decide) (by decide) (.slice Av ls.length cv) ls (subP s).1 [.int .i64 (subP s).1.f0, .int .i64 (subP s).1.f1, .slice Ax (subP s).1.f2.length cx] (fun k => w4.heap.size ≤ k) (fun k => wr.heap.size ≤ k) rfl rfl (k40_mkM _ _ _ _ (Kd.R_lower (Kd.R_mono RX.out (fun k hk => by have h_ := hk.2.1; simpa using h_)) (by have := HW.out.hb; simpa using this))) (fun k hk => ⟨by have := HW.out.hb; omega, fun e => by have := SZ.out k e.symm; simp at this; omega⟩) (fun k hk => by have := H2.out.hb; omega) R2.out (Below.refl _ _) H2.out.hb (by have := HL.out; omega) ?_; intro v1 w6 hR hB _ _; obtain ⟨ra, hra⟩ : ∃ l, ls ++ [(subP s).1] = l := ⟨_, rfl⟩; rw [hra] at hR; have RA := Aside0.mk hra; clear hra; obtain ⟨A1, c1', rfl⟩ := Kd.R_slice hR; have H4 := Aside0.mk ((H2.out.mid hB).put1 (.slice A1 ra.length c1')); have R4 := Aside0.mk (Kd.R_far (p := ⟨w.heap.size, 1, none⟩) hR (fun k hk e => by have h2 : k = w.heap.size := e; have := H2.out.lo; have := H2.out.hi; omega) (.slice A1 ra.length c1')); have L4 := Aside0.mk (Kd.R_far (p := ⟨w.heap.size, 1, none⟩) (Kd.R_move L2.out (fun k hk => hB.block k hk.2)) (fun k hk e => by have h2 : k = w.heap.size := e; have := H2.out.lo; have := HG.out; omega) (.slice A1 ra.length c1')); obtain ⟨⟨y0, y1⟩, y2, y3⟩ := cells2r (H2.out.mid hB).heap; clear hR hB)
        refine hK.out _ _ trivial (fun hHeld => ?_)
        clear hK K
        try simp only [Act.put, List.setIfInBounds_toArray, List.set_cons_zero, List.set_cons_succ]
        refine wpAnyH_take (i := 6) (oi := { dst := some 76, op := Op.fieldAddr 25 (Operand.tmp 2) 1, type := 0, pos := "first.go:149", after := #[{ on := 0, ground := Ground.phase }, { on := 1, ground := Ground.phase }, { on := 2, ground := Ground.phase }, { on := 3, ground := Ground.phase }, { on := 4, ground := Ground.phase }, { on := 5, ground := Ground.phase }], guard := none }) (v := ?_) rfl (by kernel_rfl) (by kernel_rfl) (by kernel_rfl) (fun _ _ _ h => h) (Or.inl ⟨by rfl, ?_⟩) (by assumption) ?_
        rotate_left
        · intro w hSw
          try dsimp only at hSw
          go_simp
          all_goals with_reducible rfl
        try simp only [Act.put, List.setIfInBounds_toArray, List.set_cons_zero, List.set_cons_succ]
        refine wpAnyH_ready (rs := [7]) (by kernel_rfl) (by simp) ?_
        refine AllReadyH.cons (o := { dst := none, op := Op.store 23 (Operand.tmp 76) (Operand.tmp 75), type := 0, pos := "first.go:149", after := #[{ on := 6, ground := Ground.data }, { on := 5, ground := Ground.data }, { on := 5, ground := Ground.chain }, { on := 0, ground := Ground.phase }, { on := 1, ground := Ground.phase }, { on := 2, ground := Ground.phase }, { on := 3, ground := Ground.phase }, { on := 4, ground := Ground.phase }, { on := 5, ground := Ground.phase }], guard := none }) rfl (fun K hK => ?_) AllReadyH.nil
        go_simp
        refine hK.out _ _ trivial (fun hHeld => ?_)
        clear hK K
        try simp only [Act.put, List.setIfInBounds_toArray, List.set_cons_zero, List.set_cons_succ]
        refine wpAnyH_done (by kernel_rfl) ?_ _
        go_wp2_with fail
        exact ⟨⟨m - 1, (subP s).2, _, ra, by rw [show ((m - 1 : Nat) : Int) = (m : Int) - 1 by omega], by omega, ⟨by rw [← RA.out, List.length_append, List.length_singleton]; have := HL.out; omega⟩, ⟨by rw [← RA.out]; exact HN.out⟩, H4, L4, R4⟩, by simp [intOf]; omega⟩
      · have b0 : (s.e == 0) = false := by simp [hs0]
        have hm1 : 0 < m := by omega
        have HF := Aside0.mk (show (ls, s) = (sb, s4) by
          have h := HE.out.2.2.2
          rw [Int.toNat_natCast] at h
          rw [← h, HQ.out]
          obtain ⟨m, rfl⟩ : ∃ k, m = k + 1 := ⟨m - 1, by omega⟩
          rw [Pars.rep, if_neg hs0]
          simp)
        clear hs0
        go_wp2
        go_meet
        obtain ⟨rfl, rfl⟩ := Prod.mk.inj HF.out
        exact ⟨_, HW, HX, HV⟩
  case rest =>
  obtain ⟨vs, HD4, HR4, HS4⟩ := hcut
  clear HD3 HR3
  obtain ⟨As, cs, rfl⟩ := Kd.R_slice HS4.out
  obtain ⟨we, hwe⟩ : ∃ q, q = wc := ⟨_, rfl⟩
  rw [← hwe] at HD4 HR4 HS4 ⊢
  clear hwe
  have hdq := HDQ.out
  clear HDQ HE
  replace hdq : q = (if s4.endE ≠ 0 then (([], []), s4.endE) else if rightB lk sb = true then ((lk, sb), 0) else (([], []), 3)) := hdq
  obtain ⟨A, c, d0, d1, d2, d3, e0, e1, f0, f1⟩ := HD4.out.rdr.cells
  clear d0 d1 d2 d3
  obtain ⟨⟨z0, z1⟩, z2, z3⟩ := cells2r HD4.out.heap
  have hge : g ≠ w.heap.size := by have := HD4.out.lo; omega
  by_cases k0 : s4.e = 0
  · have b0 : (s4.e != 0) = false := by simp [k0]
    by_cases k1 : 0 < s4.l.length
    · have k1' : (0 : Int) < (s4.l.length : Int) := by omega
      have HD : Aside0 (q = (([], []), 5)) := ⟨by rw [hdq, show s4.endE = 5 by unfold Sc.endE; rw [if_pos ⟨k0, k1⟩]]; rfl⟩
      clear hdq k0
      go_wp2_with fail
      have hz := two_zero HD4.out.heap HD4.out.below
      refine bodyPost_ret (results_ct rfl _ _ w.heap.size 25 _ (0, 0) _ rfl hz.1 Try.underlying25 rfl info_fi) rfl ?_
      exact ⟨none, 0, none, 0, by rw [HD.out]; rfl, by rw [HD.out]; exact Kd.C_nil _ _, by rw [HD.out]; simp, by rw [HD.out]; exact Kd.C_nil _ _, by rw [HD.out]; simp, hz.2⟩
    · have k1' : ¬ (0 : Int) < (s4.l.length : Int) := by omega
      have k2' : decide (0 < s4.l.length) = false := decide_eq_false k1
      have HQ : Aside0 (q = (if rightB lk sb = true then ((lk, sb), 0) else (([], []), 3))) := ⟨by rw [hdq, show s4.endE = 0 by unfold Sc.endE; rw [if_neg (fun h => k1 h.2)]; exact k0]; rfl⟩
      clear hdq k0
      have hr1 := Kd.R_reads' HR4.out
      have hr2 := Kd.R_reads' HS4.out
      have HC1 := Aside0.mk (And.intro hr1.2.1 hr2.2.1)
      have HL1 := Aside0.mk hlk.out
      have HRt := Aside0.mk (wright lk Al cl sb As cs we hr1.2.2 hr1.2.1 hr2.2.2 (by have := hlk.out; omega))
      clear hr1 hr2
      go_wp2_with fail
      refine HRt.out.mono ?_
      rintro e w7 ⟨rfl, hX⟩
      have HZ7 := Aside0.mk (vkeepB HD4.out.heap hX)
      have HB7 := Aside0.mk (below_via6 HD4.out.below hX)
      have HR7 := Aside0.mk (Kd.R_below HR4.out hX)
      have HS7 := Aside0.mk (Kd.R_below HS4.out hX)
      clear hX z0 z1 z2 z3 e0 e1 f0 f1
      obtain ⟨⟨z0, z1⟩, z2, z3⟩ := cells2r HZ7.out
      have hq := HQ.out
      clear HQ
      cases hr : rightB lk sb with
      | true =>
        rw [hr, if_pos rfl] at hq
        have HD := Aside0.mk hq
        clear hr hq
        go_wp2_with fail
        have hlo := HD4.out.lo
        have hhi := hgw3.out
        have hb4 := HD4.out.hi
        have hz := two_put HZ7.out HB7.out (.slice Al lk.length cl) (.slice As sb.length cs)
        have hr7 := Kd.R_far (p := ⟨w.heap.size, 1, none⟩) (Kd.R_far (p := ⟨w.heap.size, 0, none⟩) HR7.out (fun k hk e => by have h2 : k = w.heap.size := e; omega) (.slice Al lk.length cl)) (fun k hk e => by have h2 : k = w.heap.size := e; omega) (.slice As sb.length cs)
        have hs7 := Kd.R_far (p := ⟨w.heap.size, 1, none⟩) (Kd.R_far (p := ⟨w.heap.size, 0, none⟩) HS7.out (fun k hk e => by have h2 : k = w.heap.size := e; omega) (.slice Al lk.length cl)) (fun k hk e => by have h2 : k = w.heap.size := e; omega) (.slice As sb.length cs)
        refine bodyPost_ret (results_ct rfl _ _ w.heap.size 25 _ (0, 0) _ rfl hz.1 Try.underlying25 rfl info_fi) rfl ?_
        exact ⟨Al, cl, As, cs, by rw [HD.out]; rfl, by rw [HD.out]; exact (Kd.R_reads' hr7).2.2, by rw [HD.out]; exact HC1.out.1, by rw [HD.out]; exact (Kd.R_reads' hs7).2.2, by rw [HD.out]; exact HC1.out.2, hz.2⟩
      | false =>
        rw [hr, if_neg (by decide)] at hq
        have HD := Aside0.mk hq
        clear hr hq
        go_wp2_with fail
        have hz := two_zero HZ7.out HB7.out
        refine bodyPost_ret (results_ct rfl _ _ w.heap.size 25 _ (0, 0) _ rfl hz.1 Try.underlying25 rfl info_fi) rfl ?_
        exact ⟨none, 0, none, 0, by rw [HD.out]; rfl, by rw [HD.out]; exact Kd.C_nil _ _, by rw [HD.out]; simp, by rw [HD.out]; exact Kd.C_nil _ _, by rw [HD.out]; simp, hz.2⟩
  · have b0 : (s4.e != 0) = true := by simp [k0]
    have HD : Aside0 (q = (([], []), s4.e)) := ⟨by rw [hdq, show s4.endE = s4.e by unfold Sc.endE; rw [if_neg (fun h => k0 h.1)], if_pos k0]⟩
    clear hdq k0
    go_upto_region 18 with fail
    have HZ5 := Aside0.mk (vkeepB HD4.out.heap (below_drew (Below.refl _ _)))
    have HB5 := Aside0.mk (below_drew HD4.out.below)
    refine wp_region_held_drew (S := (fun _ => True)) (by kernel_rfl) trivial (fun hHeld => ?_)
    refine wpAnyH_take (i := 0) (oi := { dst := some 83, op := Op.build 25 #[], type := 25, pos := "first.go:153", after := #[], guard := none }) (v := ?_) rfl (by kernel_rfl) (by kernel_rfl) (by kernel_rfl) (fun _ _ _ h => h) (Or.inl ⟨by rfl, ?_⟩) (by assumption) ?_
    rotate_left
    · intro w hSw
      try dsimp only at hSw
      go_simp
      all_goals with_reducible rfl
    try simp only [Act.put, List.setIfInBounds_toArray, List.set_cons_zero, List.set_cons_succ]
    refine wpAnyH_take (i := 1) (oi := { dst := some 84, op := Op.move (Operand.tmp 5), type := 56, pos := "first.go:153", after := #[{ on := 5, ground := Ground.gcOnly Departure.lateStores }], guard := none }) (v := ?_) rfl (by kernel_rfl) (by kernel_rfl) (by kernel_rfl) (fun _ _ _ h => h) (Or.inl ⟨by rfl, ?_⟩) (by assumption) ?_
    rotate_left
    · intro w hSw
      try dsimp only at hSw
      go_simp
      all_goals with_reducible rfl
    try simp only [Act.put, List.setIfInBounds_toArray, List.set_cons_zero, List.set_cons_succ]
    refine wpAnyH_take (i := 2) (oi := { dst := some 85, op := Op.nilCheck (Operand.tmp 84), type := 0, pos := "first.go:153", after := #[{ on := 1, ground := Ground.data }, { on := 5, ground := Ground.gcOnly Departure.lateStores }], guard := none }) (v := ?_) rfl (by kernel_rfl) (by kernel_rfl) (by kernel_rfl) (fun _ _ _ h => h) (Or.inl ⟨by rfl, ?_⟩) (by assumption) ?_
    rotate_left
    · intro w hSw
      try dsimp only at hSw
      go_simp
      all_goals with_reducible rfl
    try simp only [Act.put, List.setIfInBounds_toArray, List.set_cons_zero, List.set_cons_succ]
    refine wpAnyH_take (i := 3) (oi := { dst := some 86, op := Op.fieldAddr 58 (Operand.tmp 85) 1, type := 0, pos := "first.go:153", after := #[{ on := 2, ground := Ground.data }, { on := 5, ground := Ground.gcOnly Departure.lateStores }], guard := none }) (v := ?_) rfl (by kernel_rfl) (by kernel_rfl) (by kernel_rfl) (fun _ _ _ h => h) (Or.inl ⟨by rfl, ?_⟩) (by assumption) ?_
    rotate_left
    · intro w hSw
      try dsimp only at hSw
      go_simp
      all_goals with_reducible rfl
    try simp only [Act.put, List.setIfInBounds_toArray, List.set_cons_zero, List.set_cons_succ]
    refine wpAnyH_ready (rs := [4, 5]) (by kernel_rfl) (by simp) ?_
    refine AllReadyH.cons (o := { dst := some 87, op := Op.load 31 (Operand.tmp 86), type := 31, pos := "first.go:153", after := #[{ on := 3, ground := Ground.data }, { on := 5, ground := Ground.gcOnly Departure.lateStores }], guard := none }) rfl (fun K hK => ?_) ?_
    · skip
      go_simp
      refine hK.out _ _ trivial (fun hHeld => ?_)
      clear hK K
      try simp only [Act.put, List.setIfInBounds_toArray, List.set_cons_zero, List.set_cons_succ]
      refine wpAnyH_ready (rs := [5]) (by kernel_rfl) (by simp) ?_
      refine AllReadyH.cons (o := { dst := none, op := Op.store 25 (Operand.tmp 2) (Operand.tmp 83), type := 0, pos := "first.go:153", after := #[{ on := 0, ground := Ground.data }, { on := 0, ground := Ground.phase }, { on := 1, ground := Ground.textOnly Departure.lateStores }, { on := 2, ground := Ground.textOnly Departure.lateStores }, { on := 3, ground := Ground.textOnly Departure.lateStores }, { on := 4, ground := Ground.textOnly Departure.lateStores }], guard := none }) rfl (fun K hK => ?_) AllReadyH.nil
      go_simp
      refine hK.out _ _ trivial (fun hHeld => ?_)
      clear hK K
      try simp only [Act.put, List.setIfInBounds_toArray, List.set_cons_zero, List.set_cons_succ]
      refine wpAnyH_take (i := 6) (oi := { dst := some 3, op := Op.assign (Operand.tmp 87), type := 31, pos := "first.go:153", after := #[{ on := 4, ground := Ground.data }, { on := 5, ground := Ground.chain }, { on := 0, ground := Ground.phase }, { on := 1, ground := Ground.phase }, { on := 2, ground := Ground.phase }, { on := 3, ground := Ground.phase }, { on := 4, ground := Ground.phase }, { on := 5, ground := Ground.phase }], guard := none }) (v := ?_) rfl (by kernel_rfl) (by kernel_rfl) (by kernel_rfl) (fun _ _ _ h => h) (Or.inl ⟨by rfl, ?_⟩) (by assumption) ?_
      rotate_left
      · intro w hSw
        try dsimp only at hSw
        go_simp
        all_goals with_reducible rfl
      try simp only [Act.put, List.setIfInBounds_toArray, List.set_cons_zero, List.set_cons_succ]
      refine wpAnyH_done (by kernel_rfl) ?_ _
      go_wp2_with fail
      have hz := two_zero HZ5.out HB5.out
      refine bodyPost_ret (results_ct rfl _ _ w.heap.size 25 _ (0, 0) _ rfl hz.1 Try.underlying25 rfl info_fi) rfl ?_
      exact ⟨none, 0, none, 0, by rw [HD.out]; rfl, by rw [HD.out]; exact Kd.C_nil _ _, by rw [HD.out]; simp, by rw [HD.out]; exact Kd.C_nil _ _, by rw [HD.out]; simp, hz.2⟩
    refine AllReadyH.cons (o := { dst := none, op := Op.store 25 (Operand.tmp 2) (Operand.tmp 83), type := 0, pos := "first.go:153", after := #[{ on := 0, ground := Ground.data }, { on := 0, ground := Ground.phase }, { on := 1, ground := Ground.textOnly Departure.lateStores }, { on := 2, ground := Ground.textOnly Departure.lateStores }, { on := 3, ground := Ground.textOnly Departure.lateStores }, { on := 4, ground := Ground.textOnly Departure.lateStores }], guard := none }) rfl (fun K hK => ?_) AllReadyH.nil
    go_simp
    refine hK.out _ _ trivial (fun hHeld => ?_)
    clear hK K
    try simp only [Act.put, List.setIfInBounds_toArray, List.set_cons_zero, List.set_cons_succ]
    refine wpAnyH_ready (rs := [4]) (by kernel_rfl) (by simp) ?_
    refine AllReadyH.cons (o := { dst := some 87, op := Op.load 31 (Operand.tmp 86), type := 31, pos := "first.go:153", after := #[{ on := 3, ground := Ground.data }, { on := 5, ground := Ground.gcOnly Departure.lateStores }], guard := none }) rfl (fun K hK => ?_) AllReadyH.nil
    go_simp
    refine hK.out _ _ trivial (fun hHeld => ?_)
    clear hK K
    try simp only [Act.put, List.setIfInBounds_toArray, List.set_cons_zero, List.set_cons_succ]
    refine wpAnyH_take (i := 6) (oi := { dst := some 3, op := Op.assign (Operand.tmp 87), type := 31, pos := "first.go:153", after := #[{ on := 4, ground := Ground.data }, { on := 5, ground := Ground.chain }, { on := 0, ground := Ground.phase }, { on := 1, ground := Ground.phase }, { on := 2, ground := Ground.phase }, { on := 3, ground := Ground.phase }, { on := 4, ground := Ground.phase }, { on := 5, ground := Ground.phase }], guard := none }) (v := ?_) rfl (by kernel_rfl) (by kernel_rfl) (by kernel_rfl) (fun _ _ _ h => h) (Or.inl ⟨by rfl, ?_⟩) (by assumption) ?_
    rotate_left
    · intro w hSw
      try dsimp only at hSw
      go_simp
      all_goals with_reducible rfl
    try simp only [Act.put, List.setIfInBounds_toArray, List.set_cons_zero, List.set_cons_succ]
    refine wpAnyH_done (by kernel_rfl) ?_ _
    go_wp2_with fail
    have hz := two_zero HZ5.out HB5.out
    refine bodyPost_ret (results_ct rfl _ _ w.heap.size 25 _ (0, 0) _ rfl hz.1 Try.underlying25 rfl info_fi) rfl ?_
    exact ⟨none, 0, none, 0, by rw [HD.out]; rfl, by rw [HD.out]; exact Kd.C_nil _ _, by rw [HD.out]; simp, by rw [HD.out]; exact Kd.C_nil _ _, by rw [HD.out]; simp, hz.2⟩
end Go.Proofs.Ytkdhcmmfklganaa
end

section
/- where an event goes, walked -/
set_option linter.unusedVariables false
set_option linter.unusedSimpArgs false
set_option autoImplicit false
namespace Go.Proofs.Ytkdhcmmfklganaa
open Go.RowKit Go.Proofs.YtkdhcmmfklganaaW.PrintWords Go.Proofs.YtkdhcmmfklganaaW.PrintLast Go.Proofs.YtkdhcmmfklganaaW.PrintMore Go.Proofs.Ytkdhcmmfklganaa.G

def goesB (ev : List S50) (id : Int) (s : S40) : Bool := s.f1 == id && meetsB ev s.f2
set_option maxRecDepth 100000 in
set_option maxHeartbeats 2000000 in
theorem wnext1 (ev : List S50) (A : Option Addr) (c : Nat) (id : Int) (s : S40) (Ax : Option Addr) (cx : Nat) (g1 g2 : Nat) (w : World) (h1 : w.heap[g1]? = some (.cells #[.int .i64 id] 3 (0, 0))) (h2 : w.heap[g2]? = some (.cells #[.slice A ev.length c] 36 (0, 0))) (hC : Kd.C k50 w A ev.length ev) (hc : ev.length ≤ c) (hcx : s.f2.length ≤ cx) (hCx : Kd.C k46 w Ax s.f2.length s.f2) :
    Calls Try.prog 44 #[.agg #[.int .i64 s.f0, .int .i64 s.f1, .slice Ax s.f2.length cx], .pointer (some ⟨g1, 0, none⟩), .pointer (some ⟨g2, 0, none⟩)] w fun r w' => r = .returned (.bool (goesB ev id s)) ∧ Below w.heap.size w w' := by
  have hr : goesB ev id s = (s.f1 == id && meetsB ev s.f2) := rfl
  obtain ⟨f0, f1, f2⟩ := s
  simp only at hr hcx hCx ⊢
  generalize goesB ev id ⟨f0, f1, f2⟩ = r at hr ⊢
  have hP := heap_alloc_new w (.cells #[.int .i64 f0, .int .i64 f1, .slice Ax f2.length cx] 40 (0, 0))
  have hB := (Below.refl w.heap.size w).alloc (Nat.le_refl _) (.cells #[.int .i64 f0, .int .i64 f1, .slice Ax f2.length cx] 40 (0, 0))
  have HM := Aside0.mk (wmeets f2 Ax cx ev A c (w.alloc (.cells #[.int .i64 f0, .int .i64 f1, .slice Ax f2.length cx] 40 (0, 0))) (Kd.C_below hCx hB) (Kd.C_below hC hB) hc)
  obtain ⟨d0, d1⟩ := cells1r h1
  obtain ⟨d2, d3⟩ := cells1r h2
  have hg1 := lt_of_heap h1
  have hg2 := lt_of_heap h2
  have HB := Aside0.mk hB
  clear h1 h2 hC hCx hP hB
  by_cases e1 : f1 = id
  · have b1 : (f1 == id) = true := by simp [e1]
    rw [b1] at hr
    have HR := Aside0.mk hr
    clear hr e1
    go_enter Try.func44, Try.ntmps44
    go_wp2_with fail
    refine HM.out.mono ?_
    rintro e w1 ⟨rfl, hX⟩
    go_wp2_with fail
    go_ret
    exact ⟨by rw [HR.out]; rfl, below_via6 HB.out hX⟩
  · have b1 : (f1 == id) = false := by simp [e1]
    rw [b1] at hr
    have HR := Aside0.mk hr
    clear hr e1
    go_enter Try.func44, Try.ntmps44
    go_wp2_with fail
    go_ret
    exact ⟨by rw [HR.out]; rfl, HB.out⟩
def nextL (ev : List S50) (links : List Int) (subs : List S40) (fr : Int) : List Int := links.filter fun id => id != fr && subs.any (goesB ev id)
theorem nextL_take (ev : List S50) (links : List Int) (subs : List S40) (fr : Int) (k : Nat) (h : k < links.length) :
    nextL ev (links.take (k + 1)) subs fr = nextL ev (links.take k) subs fr ++ (if (rd links k != fr && subs.any (goesB ev (rd links k))) = true then [rd links k] else []) := by
  have e : rd links k = links[k] := by simp [rd, List.getD_eq_getElem?_getD, h]
  rw [e]
  unfold nextL
  rw [List.take_succ_eq_append_getElem h, List.filter_append, List.filter_cons, List.filter_nil]
theorem nextL_len (ev : List S50) (links : List Int) (subs : List S40) (fr : Int) (k : Nat) : (nextL ev (links.take k) subs fr).length ≤ k := by
  unfold nextL
  have := List.length_filter_le (fun id => id != fr && subs.any (goesB ev id)) (links.take k)
  rw [List.length_take] at this
  omega
set_option maxRecDepth 100000 in
set_option maxHeartbeats 4000000 in
theorem wnext (links : List Int) (A0 : Option Addr) (c0 : Nat) (subs : List S40) (A1 : Option Addr) (c1 : Nat) (ev : List S50) (A2 : Option Addr) (c2 : Nat) (fr : Int) (w : World) (hC0 : Kd.C (Kd.int .i64) w A0 links.length links) (hC1 : Kd.C k40 w A1 subs.length subs) (hC2 : Kd.C k50 w A2 ev.length ev) (hc2 : ev.length ≤ c2) (hl : links.length ≤ 1000000) :
    Calls Try.prog 21 #[.agg #[.slice A0 links.length c0, .slice A1 subs.length c1], .slice A2 ev.length c2, .int .i64 fr] w fun r w' => ∃ v, r = .returned v ∧ Kd.R (Kd.int .i64) 3 w' w.heap.size (fun _ => True) v (nextL ev links subs fr) ∧ Below w.heap.size w w' := by
  have hP := heap_alloc_new w (.cells #[.slice A0 links.length c0, .slice A1 subs.length c1] 25 (0, 0))
  have hB := (Below.refl w.heap.size w).alloc (Nat.le_refl _) (.cells #[.slice A0 links.length c0, .slice A1 subs.length c1] 25 (0, 0))
  have hE := heap_alloc_new (w.alloc (.cells #[.slice A0 links.length c0, .slice A1 subs.length c1] 25 (0, 0))) (.cells #[.slice A2 ev.length c2] 36 (0, 0))
  have hb2 := (Below.refl (w.alloc (.cells #[.slice A0 links.length c0, .slice A1 subs.length c1] 25 (0, 0))).heap.size (w.alloc (.cells #[.slice A0 links.length c0, .slice A1 subs.length c1] 25 (0, 0)))).alloc (Nat.le_refl _) (.cells #[.slice A2 ev.length c2] 36 (0, 0))
  have HP := Aside0.mk (vkeepB hP hb2)
  rw [World.size_alloc] at hE
  have HE := Aside0.mk hE
  have HB := Aside0.mk (below_via6 hB hb2)
  have HC0 := Aside0.mk (Kd.C_below (Kd.C_below hC0 hB) hb2)
  have HC1 := Aside0.mk (Kd.C_below (Kd.C_below hC1 hB) hb2)
  have HC2 := Aside0.mk (Kd.C_below (Kd.C_below hC2 hB) hb2)
  clear hP hB hE hb2 hC0 hC1 hC2
  go_enter Try.func21, Try.ntmps21
  go_upto_region 1 with fail
  generalize (w.alloc (.cells #[.slice A0 links.length c0, .slice A1 subs.length c1] 25 (0, 0))).alloc (.cells #[.slice A2 ev.length c2] 36 (0, 0)) = w2 at HP HE HB HC0 HC1 HC2 ⊢
  obtain ⟨ge, hge⟩ : ∃ g, w.heap.size + 1 = g := ⟨_, rfl⟩
  rw [hge] at HE ⊢
  clear hge
  obtain ⟨⟨p0, p1⟩, p2, p3⟩ : (w2.cell? ⟨w.heap.size, 0, none⟩ = some (.slice A0 links.length c0) ∧ w2.cell? ⟨w.heap.size, 1, none⟩ = some (.slice A1 subs.length c1)) ∧ w2.frozen? ⟨w.heap.size, 0, none⟩ = false ∧ w2.frozen? ⟨w.heap.size, 1, none⟩ = false :=
    ⟨⟨by rw [cell_of_row _ _ _ _ _ _ HP.out]; rfl, by rw [cell_of_row _ _ _ _ _ _ HP.out]; rfl⟩, frozen_of_row _ _ _ _ _ HP.out, frozen_of_row _ _ _ _ _ HP.out⟩
  go_wp2_with fail
  clear p0 p1 p2 p3
  go_loopw [6, 13] (fun o i wr => ∃ k : Nat, k ≤ links.length ∧ i = .int .i64 k ∧ Aside0 (Kd.R (Kd.int .i64) 3 wr w2.heap.size (fun _ => True) o (nextL ev (links.take k) subs fr)) ∧ Aside0 (Below w2.heap.size w2 wr)) (fun _ i _ => links.length - (intOf i).toNat)
  case atStart => exact ⟨0, Nat.zero_le _, rfl, ⟨Kd.R_nil _ _ _ _ _⟩, ⟨Below.refl _ _⟩⟩
  case round =>
    obtain ⟨k, hk, rfl, HO, HR⟩ := hrel
    obtain ⟨Ao, co, rfl⟩ := Kd.R_slice HO.out
    by_cases hlt : k < links.length
    · obtain ⟨ad, rfl, hcell⟩ := Kd.at_int (Kd.C_below HC0.out HR.out) (k : Int) (by omega) (by omega)
      rw [Int.toNat_natCast] at hcell
      have ht := nextL_take ev links subs fr k hlt
      have hn := nextL_len ev links subs fr k
      generalize nextL ev (links.take k) subs fr = out at HO ht hn ⊢
      generalize hid : rd links k = id at hcell ht
      have HT := Aside0.mk ht
      clear ht hid
      have hN := heap_alloc_new wr (.cells #[.int .i64 id] 3 (0, 0))
      have hb3 := (Below.refl wr.heap.size wr).alloc (Nat.le_refl _) (.cells #[.int .i64 id] 3 (0, 0))
      have HN := Aside0.mk hN
      have HB3 := Aside0.mk hb3
      clear hN hb3
      go_upto_region 5 with fail
      clear hcell
      have HO3 := Aside0.mk (Kd.R_below HO.out HB3.out)
      have HR3 := Aside0.mk (HR.out.trans (HB3.out.mono HR.out.size))
      generalize wr.alloc (.cells #[.int .i64 id] 3 (0, 0)) = w3 at HN HB3 HO3 HR3 ⊢
      generalize wr.heap.size = gi at HN HB3 ⊢
      obtain ⟨d0, d1⟩ := cells1r HN.out
      have KP := Aside0.mk (vkeepB HP.out HR3.out)
      obtain ⟨p0, p1⟩ : w3.cell? ⟨w.heap.size, 0, none⟩ = some (.slice (some ad) links.length c0) ∧ w3.cell? ⟨w.heap.size, 1, none⟩ = some (.slice A1 subs.length c1) :=
        ⟨by rw [cell_of_row _ _ _ _ _ _ KP.out]; rfl, by rw [cell_of_row _ _ _ _ _ _ KP.out]; rfl⟩
      have RND : ∀ (v : Value) (W : World) (b : Bool), (id != fr && subs.any (goesB ev id)) = b → Kd.R (Kd.int .i64) 3 W w2.heap.size (fun _ => True) v (out ++ (if b = true then [id] else [])) → Kd.R (Kd.int .i64) 3 W w2.heap.size (fun _ => True) v (nextL ev (links.take (k + 1)) subs fr) := fun v W b hb h => by
        rw [HT.out, hb]; exact h
      have RD := Aside0.mk RND
      clear RND
      by_cases e1 : id = fr
      · have b1 : (id != fr) = false := by simp [e1]
        have HD := Aside0.mk (show (id != fr && subs.any (goesB ev id)) = false by rw [b1]; rfl)
        clear e1
        go_wp2_with fail
        exact ⟨⟨k + 1, by omega, by go_num, ⟨RD.out _ _ _ HD.out (by rw [if_neg (by decide), List.append_nil]; exact HO3.out)⟩, HR3⟩, by simp [intOf]; omega⟩
      · have b1 : (id != fr) = true := by simp [e1]
        have HD := Aside0.mk (show (id != fr && subs.any (goesB ev id)) = subs.any (goesB ev id) by rw [b1]; rfl)
        clear e1
        have HE3 := Aside0.mk (vkeepB HE.out HR3.out)
        have HC3 := Aside0.mk (Kd.C_below HC2.out HR3.out)
        go_wp2_with fail
        refine (any_next (goesB ev id) gi ge A1 c1 subs w3 (Kd.C_below HC1.out HR3.out) (fun x W hW _ Ax cx hcx hCx => wnext1 ev A2 c2 id x Ax cx gi ge W (vkeepB HN.out hW) (vkeepB HE3.out hW) (Kd.C_below HC3.out hW) hc2 hcx hCx)).mono ?_
        rintro e w4 ⟨rfl, hX⟩
        have HN4 := Aside0.mk (vkeepB HN.out hX)
        have HO4 := Aside0.mk (Kd.R_below HO3.out hX)
        have HR4 := Aside0.mk (HR3.out.trans (hX.mono HR3.out.size))
        clear hX d0 d1 p0 p1 HN HO3 HR3 HE3 HC3 KP
        obtain ⟨d0, d1⟩ := cells1r HN4.out
        cases hb : subs.any (goesB ev id) with
        | false =>
          have HD' := Aside0.mk (HD.out.trans hb)
          clear hb
          go_wp2_with fail
          exact ⟨⟨k + 1, by omega, by go_num, ⟨RD.out _ _ _ HD'.out (by rw [if_neg (by decide), List.append_nil]; exact HO4.out)⟩, HR4⟩, by simp [intOf]; omega⟩
        | true =>
          have HD' := Aside0.mk (HD.out.trans hb)
          clear hb
          go_wp2_with (at_builtin; refine app_num (w0 := w2) w2.heap.size rfl (.tmp 27) (.tmp 29) 22 3 .i64 8 rfl Try.underlying22 info3 (by decide) (.slice Ao out.length co) out id rfl rfl HO4.out HR4.out HR4.out.size (by omega) ?_; intro v5 w5 HO5 hB5; have HB5 := Aside0.mk hB5; clear hB5)
          exact ⟨⟨k + 1, by omega, by go_num, ⟨RD.out _ _ _ HD'.out (by rw [if_pos rfl]; exact HO5.out)⟩, HB5⟩, by simp [intOf]; omega⟩
    · obtain rfl : k = links.length := by omega
      have HF := Aside0.mk (show nextL ev (links.take links.length) subs fr = nextL ev links subs fr by rw [List.take_of_length_le (Nat.le_refl _)])
      go_wp2_with fail
      go_ret
      exact ⟨_, rfl, by rw [← HF.out]; exact Kd.R_lower HO.out (HB.out.size), below_via6 HB.out HR.out⟩
end Go.Proofs.Ytkdhcmmfklganaa
end

section
-- Written by a program of this session (wip/tools/myprint.py), over the kit's print.
namespace Go.Proofs.Ytkdhcmmfklganaa.G
open Go.RowKit Go.Proofs.YtkdhcmmfklganaaW.PrintWords Go.Proofs.YtkdhcmmfklganaaW.PrintLast Go.Proofs.YtkdhcmmfklganaaW.PrintMore
attribute [local go_sem] max2_int min2_int max_two min_two max_three min_three max_four min_four   -- for this text's walks alone
set_option linter.unusedVariables false
set_option linter.unusedSimpArgs false

theorem eqA46 (d : Nat) (w : World) (x0 y0 : ByteArray) (x1 y1 : Int) (x2 y2 : Int) :
    (Op.equalIn (d + 2) 46 (.agg #[.string x0, .int .i64 x1, .int .i64 x2]) (.agg #[.string y0, .int .i64 y1, .int .i64 y2])).run Try.prog w = .ok (x0.toList == y0.toList && (x1 == y1 && (x2 == y2))) w := by
  refine eqA_of Try.underlying46 (by kernel_rfl) ?_
  refine eqf_cons (by rfl) (by go_simp; rfl) (by go_simp; rfl) (by go_simp) ?_
  refine eqf_cons (by rfl) (by go_simp; rfl) (by go_simp; rfl) (by go_simp) ?_
  exact eqf_last (by rfl) (by go_simp; rfl) (by go_simp; rfl) (by go_simp)
end Go.Proofs.Ytkdhcmmfklganaa.G
end

section
-- Written by a program of this session (wip/tools/myprint.py), over the kit's print.
namespace Go.Proofs.Ytkdhcmmfklganaa.G
open Go.RowKit Go.Proofs.YtkdhcmmfklganaaW.PrintWords Go.Proofs.YtkdhcmmfklganaaW.PrintLast Go.Proofs.YtkdhcmmfklganaaW.PrintMore
attribute [local go_sem] max2_int min2_int max_two min_two max_three min_three max_four min_four   -- for this text's walks alone
set_option linter.unusedVariables false
set_option linter.unusedSimpArgs false

/-! ### rosetteref11_Ints: function 20 -/
def rosetteref11_Ints.l0 : Nat → List Int → List Int → Int → Option (Bool)
  | 0, _, _, _ => none
  | k + 1, x0, x1, x5 => if x5 < (x0.length : Int) then (if 0 ≤ x5 then (if x5 < (x1.length : Int) then (if (rd x0 x5) = (rd x1 x5) then (rosetteref11_Ints.l0 k x0 x1 (wrap64 (x5 + 1))) else (some false)) else (none)) else (none)) else (some true)
def rosetteref11_Ints.f (k : Nat) (l0 : List Int) (l1 : List Int) : Option (Bool) := if (l0.length : Int) = (l1.length : Int) then (rosetteref11_Ints.l0 k l0 l1 0) else (some false)
theorem rosetteref11_Ints.mono_l : ∀ k, (∀ y0 y1 y2, LeO (rosetteref11_Ints.l0 k y0 y1 y2) (rosetteref11_Ints.l0 (k + 1) y0 y1 y2))
  | 0 => fun _ _ _ r h => by simp [rosetteref11_Ints.l0] at h
  | k + 1 => by
    have ih0 := rosetteref11_Ints.mono_l k
    · intro y0 y1 y2
      unfold rosetteref11_Ints.l0
      repeat' first
      | (with_reducible exact ih0 _ _ _)
      | (with_reducible exact LeO.refl _)
      | (with_reducible exact LeO.none _)
      | (with_reducible refine LeO.ite ?_ ?_)
      | (with_reducible refine LeO.bind ?_ (fun _ => ?_))
      | exact ih0 _ _ _
      | exact LeO.none _
      | refine LeO.ite ?_ ?_
      | refine LeO.bind ?_ (fun _ => ?_)
theorem rosetteref11_Ints.mono : ∀ a0 a1 k, LeO (rosetteref11_Ints.f k a0 a1) (rosetteref11_Ints.f (k + 1) a0 a1) := by
  intro a0 a1 k
  have ih0 := rosetteref11_Ints.mono_l k
  unfold rosetteref11_Ints.f
  repeat' first
      | (with_reducible exact ih0 _ _ _)
      | (with_reducible exact LeO.refl _)
      | (with_reducible exact LeO.none _)
      | (with_reducible refine LeO.ite ?_ ?_)
      | (with_reducible refine LeO.bind ?_ (fun _ => ?_))
      | exact ih0 _ _ _
      | exact LeO.none _
      | refine LeO.ite ?_ ?_
      | refine LeO.bind ?_ (fun _ => ?_)
set_option maxHeartbeats 8000000 in
set_option maxRecDepth 100000 in
theorem rosetteref11_Ints.calls (k : Nat) (A0 : Option Addr) (c0 : Nat) (l0 : List Int) (A1 : Option Addr) (c1 : Nat) (l1 : List Int) (r : Bool) (w : World) (hr0 : Kd.C (Kd.int .i64) w A0 l0.length l0) (hc0 : l0.length ≤ c0) (hr1 : Kd.C (Kd.int .i64) w A1 l1.length l1) (hc1 : l1.length ≤ c1) (h : rosetteref11_Ints.f k l0 l1 = some r) :
    Calls Try.prog 20 #[.slice A0 l0.length c0, .slice A1 l1.length c1] w fun e w' => e = .returned (.bool r) ∧ Drawn0 w w' := by
  have HR0 := Aside0.mk hr0
  have HC0 := Aside0.mk hc0
  clear hr0 hc0
  have HR1 := Aside0.mk hr1
  have HC1 := Aside0.mk hc1
  clear hr1 hc1
  have H : (if (l0.length : Int) = (l1.length : Int) then (rosetteref11_Ints.l0 k l0 l1 0) else (some false)) = some r := h
  clear h
  by_cases c3 : (l0.length : Int) = (l1.length : Int)
  · rw [if_pos c3] at H
    have c3b0 : ((l0.length : Int) == (l1.length : Int)) = true := beq_iff_eq.mpr c3
    have c3b1 : ((l0.length : Int) != (l1.length : Int)) = false := bne_eq_false_iff_eq.mpr c3
    have c3b2 : (l0.length == l1.length) = true := by first | simpa using c3 | (simp at c3 ⊢; omega)
    clear c3
    have H' := Aside0.mk H
    clear H
    go_enter Try.func20, Try.ntmps20
    go_wp2
    repeat (go_quiet (fail); try go_wp2)
    go_loopg [5] k (fun kq v5 w' => ∃ (x5_1 : Int), v5 = .int .i64 x5_1 ∧ Aside0 (rosetteref11_Ints.l0 kq l0 l1 x5_1 = some r) ∧ Aside0 (kq ≤ k) ∧ Drawn0 w w')
    case atStart => exact ⟨(0), (by first | rfl | (simp; done) | (simp [*]; done)), H', ⟨Nat.le_refl _⟩, by repeat (first | exact Drawn0.refl _ | apply Drawn0.step)⟩
    case round =>
      clear H'
      try clear c1
      try clear c2
      try clear p2
      try clear c3
      try clear c3b0
      try clear c3b1
      try clear c3b2
      obtain ⟨x5_1, rfl, HA, HK1, ⟨m1, rfl⟩⟩ := hrel
      cases gk with
      | zero => exact absurd HA.out (by simp [rosetteref11_Ints.l0])
      | succ k1 =>
        have H := HA.out
        clear HA
        simp only [rosetteref11_Ints.l0] at H
        by_cases c4 : x5_1 < (l0.length : Int)
        · rw [if_pos c4] at H
          have c4b0 : decide (x5_1 < (l0.length : Int)) = true := decide_eq_true c4
          clear c4
          by_cases c5 : 0 ≤ x5_1
          · rw [if_pos c5] at H
            have c5b0 : decide (0 ≤ x5_1) = true := decide_eq_true c5
            clear c5
            by_cases c6 : x5_1 < (l1.length : Int)
            · rw [if_pos c6] at H
              have c6b0 : decide (x5_1 < (l1.length : Int)) = true := decide_eq_true c6
              clear c6
              by_cases c7 : (rd l0 x5_1) = (rd l1 x5_1)
              · rw [if_pos c7] at H
                have c7b0 : ((rd l0 x5_1) == (rd l1 x5_1)) = true := beq_iff_eq.mpr c7
                have c7b1 : ((rd l0 x5_1) != (rd l1 x5_1)) = false := bne_eq_false_iff_eq.mpr c7
                clear c7
                have H' := Aside0.mk H
                clear H
                have p121 : 0 ≤ (x5_1 : Int) := of_decide_eq_true (by first | (with_reducible assumption) | assumption)
                have q121 : x5_1 < (l0.length : Int) := of_decide_eq_true (by first | (with_reducible assumption) | assumption)
                obtain ⟨ad121, e121, hx121_0⟩ := Kd.at_int HR0.out x5_1 p121 q121
                cases e121
                replace p121 := eq_true p121
                replace q121 := eq_true q121
                have p122 : 0 ≤ (x5_1 : Int) := of_decide_eq_true (by first | (with_reducible assumption) | assumption)
                have q122 : x5_1 < (l1.length : Int) := of_decide_eq_true (by first | (with_reducible assumption) | assumption)
                obtain ⟨ad122, e122, hx122_0⟩ := Kd.at_int HR1.out x5_1 p122 q122
                cases e122
                replace p122 := eq_true p122
                replace q122 := eq_true q122
                go_wp2
                repeat (go_quiet (fail); try go_wp2)
                go_roundg k1
                case measure => have := HK1.out; omega
                case rel => exact ⟨(wrap64 (x5_1 + 1)), (by first | rfl | (simp; done) | (simp [*]; done)), H', ⟨by have := HK1.out; omega⟩, by repeat (first | exact Drawn0.refl _ | apply Drawn0.step)⟩
              · rw [if_neg c7] at H
                have c7b0 : ((rd l0 x5_1) == (rd l1 x5_1)) = false := beq_eq_false_iff_ne.mpr c7
                have c7b1 : ((rd l0 x5_1) != (rd l1 x5_1)) = true := bne_iff_ne.mpr c7
                obtain rfl := Option.some.inj H
                have p121 : 0 ≤ (x5_1 : Int) := of_decide_eq_true (by first | (with_reducible assumption) | assumption)
                have q121 : x5_1 < (l0.length : Int) := of_decide_eq_true (by first | (with_reducible assumption) | assumption)
                obtain ⟨ad121, e121, hx121_0⟩ := Kd.at_int HR0.out x5_1 p121 q121
                cases e121
                replace p121 := eq_true p121
                replace q121 := eq_true q121
                have p122 : 0 ≤ (x5_1 : Int) := of_decide_eq_true (by first | (with_reducible assumption) | assumption)
                have q122 : x5_1 < (l1.length : Int) := of_decide_eq_true (by first | (with_reducible assumption) | assumption)
                obtain ⟨ad122, e122, hx122_0⟩ := Kd.at_int HR1.out x5_1 p122 q122
                cases e122
                replace p122 := eq_true p122
                replace q122 := eq_true q122
                go_wp2
                repeat (go_quiet (fail); try go_wp2)
                go_ret
                exact ⟨by first | rfl | (simp; done) | (simp [*]; done), by repeat (first | exact Drawn0.refl _ | apply Drawn0.step)⟩
            · rw [if_neg c6] at H
              exact absurd H (by simp)
          · rw [if_neg c5] at H
            exact absurd H (by simp)
        · rw [if_neg c4] at H
          have c4b0 : decide (x5_1 < (l0.length : Int)) = false := decide_eq_false c4
          clear c4
          obtain rfl := Option.some.inj H
          go_wp2
          repeat (go_quiet (fail); try go_wp2)
          go_ret
          exact ⟨by first | rfl | (simp; done) | (simp [*]; done), by repeat (first | exact Drawn0.refl _ | apply Drawn0.step)⟩
  · rw [if_neg c3] at H
    have c3b0 : ((l0.length : Int) == (l1.length : Int)) = false := beq_eq_false_iff_ne.mpr c3
    have c3b1 : ((l0.length : Int) != (l1.length : Int)) = true := bne_iff_ne.mpr c3
    have c3b2 : (l0.length == l1.length) = false := by first | simpa using c3 | (simp at c3 ⊢; omega)
    obtain rfl := Option.some.inj H
    go_enter Try.func20, Try.ntmps20
    go_wp2
    repeat (go_quiet (fail); try go_wp2)
    go_ret
    exact ⟨by first | rfl | (simp; done) | (simp [*]; done), by repeat (first | exact Drawn0.refl _ | apply Drawn0.step)⟩

end Go.Proofs.Ytkdhcmmfklganaa.G
end
