import Derived.Test.YtcejkfjjildngaaZDiskApart2
import Derived.Lib.AppendZeros
section
/- slices.Grow of nothing, and slices.Concat of two rows of bytes. -/
set_option linter.unusedVariables false
set_option linter.unusedSimpArgs false
set_option autoImplicit false
namespace Go.Proofs.Ytcejkfjjildngaa
open Go.RowKit Go.Proofs.YtcejkfjjildngaaW.PrintWords Go.Proofs.YtcejkfjjildngaaW.PrintLast Go.Proofs.YtcejkfjjildngaaW.PrintMore

set_option maxRecDepth 100000 in
set_option maxHeartbeats 1000000 in
theorem grow_nil (n : Nat) (hn : n ≤ 100000) (w : World) :
    Calls Try.prog 60 #[.slice none 0 0, .int .i64 n] w fun e w' => ∃ v, e = .returned v ∧ (Kd.int .u8).R 5 w' w.heap.size (fun _ => True) v [] ∧ Below w.heap.size w w' := by
  have hw : wrap64 ((n : Int) - 0) = (n : Int) := by unfold wrap64; omega
  go_enter Try.func60, Try.ntmps60
  by_cases h0 : 0 < n
  · have hinfo : ∃ i : TypeInfo, Try.prog.info? 5 = some i ∧ i.zero = some (.int .u8 0) ∧ i.size = 1 ∧ i.bytes = 1 := ⟨_, rfl, rfl, rfl, rfl⟩
    obtain ⟨i0, hi, hz, hs, hb⟩ := hinfo
    have hrun := fun W => Lib.run_append_nil_zeros (P := Try.prog) W 22 3 22 5 i0 (.int .u8 0) .i64 .i64 Try.underlying22 Try.underlying3 hi hz n h0 (by omega) (by omega) (by rw [hb]; omega)
    clear hi hz hs hb
    go_wp2_with (at_builtin; refine Lib.wpList_append_run _ rfl _ _ _ _ rfl _ _ rfl rfl _ _ (hrun _) ?_)
    go_ret
    refine ⟨_, rfl, ?_, (Below.refl _ _).alloc (Nat.le_refl _) _ |> below_drew⟩
    refine kd_R ⟨by simp [nums], .inr ⟨w.heap.size, grownCap w n 0 5, _, rfl, Nat.le_refl _, heap_alloc_new w _, Nat.zero_le _, grownCap_le_maxLen w n 0 _ (by unfold maxLen; omega), ?_, by simp [nums]⟩⟩
    have hg := grownCap_ge w n 0 5
    rw [Array.size_append, size_zeroCells, size_zeroCells]
    simp
    omega
  · obtain rfl : n = 0 := by omega
    go_wp2
    go_ret
    exact ⟨_, rfl, Kd.R_nil _ _ _ _ _, Below.refl _ _⟩
theorem info_b8 : (Try.prog.info? 5).map (fun i => (i.zero, i.size, i.bytes)) = some (some (.int .u8 0), 1, 1) := by kernel_rfl
theorem HeldB.mono {w : World} {S S' : Nat → Prop} {A : Option Addr} {l : List Int} (h : HeldB w S A l) (hS : ∀ k, S k → S' k) : HeldB w S' A l := by
  intro h0
  obtain ⟨ad, h1, h2, h3⟩ := h h0
  exact ⟨ad, h1, hS _ h2, h3⟩
theorem two_cells {W : World} {b T : Nat} {x y : Value} (h : W.heap[b]? = some (.cells #[x, y] T (0, 0))) :
    W.cell? ⟨b, 0, none⟩ = some x ∧ W.cell? ⟨b, 1, none⟩ = some y :=
  ⟨by rw [cell_of_row _ _ _ _ _ _ h]; rfl, by rw [cell_of_row _ _ _ _ _ _ h]; rfl⟩
theorem vkeepB {W W' : World} {b : Nat} {o : Obj} (h : W.heap[b]? = some o) (hB : Below W.heap.size W W') : W'.heap[b]? = some o := by rw [hB.block _ (lt_of_heap h)]; exact h
theorem vkeepO {W W' : World} {b base : Nat} {o : Obj} (h : W.heap[b]? = some o) (hB : Below base W W') (hb : b < base) : W'.heap[b]? = some o := by rw [hB.block _ hb]; exact h
set_option maxRecDepth 100000 in
set_option maxHeartbeats 2000000 in
theorem concat_two (gc cc : Nat) (A1 : Option Addr) (c1 : Nat) (l1 : List Int) (A2 : Option Addr) (c2 : Nat) (l2 : List Int) (w : World) (hcell : w.heap[gc]? = some (.cells #[.slice A1 l1.length c1, .slice A2 l2.length c2] 22 (0, 0)))
    (h1 : HeldB w (fun k => k < w.heap.size) A1 l1) (h2 : HeldB w (fun k => k < w.heap.size) A2 l2) (hl1 : l1.length ≤ 40000) (hl2 : l2.length ≤ 40000) :
    Calls Try.prog 55 #[.slice (some ⟨gc, 0, none⟩) 2 cc] w fun e w' => ∃ v, e = .returned v ∧ (Kd.int .u8).R 5 w' w.heap.size (fun _ => True) v (l1 ++ l2) ∧ Below w.heap.size w w' := by
  have hgc := lt_of_heap hcell
  obtain ⟨k0, k1⟩ := two_cells hcell
  have HC := Aside0.mk hcell
  have H1 := Aside0.mk h1
  have H2 := Aside0.mk h2
  have HGC := Aside0.mk hgc
  clear hcell h1 h2 hgc
  go_enter Try.func55, Try.ntmps55
  go_wp2_with fail
  go_loop [3, 11] (fun s i => (i = .int .i64 0 ∧ s = .int .i64 0) ∨ (i = .int .i64 1 ∧ s = .int .i64 l1.length) ∨ (i = .int .i64 2 ∧ s = .int .i64 (l1.length + l2.length : Nat))) (fun _ i => 2 - (intOf i).toNat)
  case atStart => exact .inl ⟨rfl, rfl⟩
  case round =>
    rcases hrel with ⟨rfl, rfl⟩ | ⟨rfl, rfl⟩ | ⟨rfl, rfl⟩
    · go_wp2_with fail
      exact ⟨.inr (.inl ⟨rfl, rfl⟩), by simp [intOf]⟩
    · go_wp2_with fail
      exact ⟨.inr (.inr ⟨rfl, by simp⟩), by simp [intOf]⟩
    · go_wp2_with fail
      refine (grow_nil (l1.length + l2.length) (by omega) w).mono ?_
      rintro e w2 ⟨v0, rfl, hR, hB⟩
      have HB2 := Aside0.mk hB
      have HC2 := Aside0.mk (vkeepB HC.out hB)
      have H12 := Aside0.mk (H1.out.below hB)
      have H22 := Aside0.mk (H2.out.below hB)
      have HO2 := Aside0.mk hR
      clear hB hR HC H1 H2 k0 k1
      go_wp2_with fail
      go_loopw [6, 27] (fun v i wr => ∃ (k : Nat) (xs : List Int), k ≤ 2 ∧ i = .int .i64 k ∧ Aside0 (xs = if k = 0 then [] else if k = 1 then l1 else l1 ++ l2) ∧ Aside0 ((Kd.int .u8).R 5 wr w.heap.size (fun _ => True) v xs) ∧ Aside0 (wr.heap[gc]? = some (.cells #[.slice A1 l1.length c1, .slice A2 l2.length c2] 22 (0, 0))) ∧ Aside0 (HeldB wr (fun k => k < w.heap.size) A1 l1) ∧ Aside0 (HeldB wr (fun k => k < w.heap.size) A2 l2) ∧ Below w.heap.size w wr) (fun _ i _ => 2 - (intOf i).toNat)
      case atStart => exact ⟨0, [], by omega, rfl, ⟨rfl⟩, ⟨HO2.out⟩, ⟨HC2.out⟩, ⟨H12.out⟩, ⟨H22.out⟩, HB2.out⟩
      case round =>
        clear HO2 HC2 H12 H22 HB2
        obtain ⟨k, xs, hk, rfl, HX, HO, HC, H1, H2, hBr⟩ := hrel
        have HBR := Aside0.mk hBr
        clear hBr
        obtain ⟨k0, k1⟩ := two_cells HC.out
        have hk3 : k = 0 ∨ k = 1 ∨ k = 2 := by omega
        clear hk
        obtain ⟨Ab, cb, rfl, hcb, _⟩ := own_C HO.out
        rcases hk3 with rfl | rfl | rfl
        · have hx : xs = [] := HX.out
          subst hx
          go_wp2_with (at_builtin; refine print_append_row (w0 := w) w.heap.size rfl (.tmp 31) (.tmp 32) 22 5 .u8 1 rfl Try.underlying22 info_b8 (by decide) (.slice Ab 0 cb) ([] : List Int) l1 A1 l1.length c1 rfl rfl (kd_own HO.out) (Kd.reads_of_C (d := (0 : Int)) (H1.out.C (by omega))) HBR.out HBR.out.size (by simp; omega) ?_; intro v3 w3 ho3 hB3 hG3 _)
          have HK : Aside0 (∀ k, k < w.heap.size → w3.heap[k]? = wr.heap[k]?) := ⟨fun k hk => by rw [hB3.block k hk, HBR.out.block k hk]⟩
          have HC3 : Aside0 (w3.heap[gc]? = some (.cells #[.slice A1 l1.length c1, .slice A2 l2.length c2] 22 (0, 0))) := ⟨by rw [HK.out gc HGC.out]; exact HC.out⟩
          have H13 := Aside0.mk (H1.out.keep fun k _ hs => HK.out k hs)
          have H23 := Aside0.mk (H2.out.keep fun k _ hs => HK.out k hs)
          have HO3 := Aside0.mk (kd_R ho3)
          have HB3 := Aside0.mk hB3
          clear ho3 hB3 hG3 HO HC H1 H2 HBR k0 k1
          go_wp2_with fail
          exact ⟨⟨1, _, by omega, rfl, ⟨by simp⟩, ⟨HO3.out⟩, ⟨HC3.out⟩, ⟨H13.out⟩, ⟨H23.out⟩, HB3.out⟩, by simp [intOf]⟩
        · have hx : xs = l1 := HX.out
          subst hx
          go_wp2_with (at_builtin; refine print_append_row (w0 := w) w.heap.size rfl (.tmp 31) (.tmp 32) 22 5 .u8 1 rfl Try.underlying22 info_b8 (by decide) (.slice Ab xs.length cb) xs l2 A2 l2.length c2 rfl rfl (kd_own HO.out) (Kd.reads_of_C (d := (0 : Int)) (H2.out.C (by omega))) HBR.out HBR.out.size (by simp; omega) ?_; intro v3 w3 ho3 hB3 hG3 _)
          have HK : Aside0 (∀ k, k < w.heap.size → w3.heap[k]? = wr.heap[k]?) := ⟨fun k hk => by rw [hB3.block k hk, HBR.out.block k hk]⟩
          have HC3 : Aside0 (w3.heap[gc]? = some (.cells #[.slice A1 xs.length c1, .slice A2 l2.length c2] 22 (0, 0))) := ⟨by rw [HK.out gc HGC.out]; exact HC.out⟩
          have H13 := Aside0.mk (H1.out.keep fun k _ hs => HK.out k hs)
          have H23 := Aside0.mk (H2.out.keep fun k _ hs => HK.out k hs)
          have HO3 := Aside0.mk (kd_R ho3)
          have HB3 := Aside0.mk hB3
          clear ho3 hB3 hG3 HO HC H1 H2 HBR k0 k1
          go_wp2_with fail
          exact ⟨⟨2, _, by omega, rfl, ⟨by simp⟩, ⟨HO3.out⟩, ⟨HC3.out⟩, ⟨H13.out⟩, ⟨H23.out⟩, HB3.out⟩, by simp [intOf]⟩
        · have hx : xs = l1 ++ l2 := HX.out
          go_wp2_with fail
          go_ret
          exact ⟨_, rfl, by rw [← hx]; exact HO.out, HBR.out⟩
end Go.Proofs.Ytcejkfjjildngaa
end

section
/- the disk: write, walked -/
set_option linter.unusedVariables false
set_option linter.unusedSimpArgs false
set_option autoImplicit false
namespace Go.Proofs.Ytcejkfjjildngaa
open Go Go.RowKit Go.Proofs.YtcejkfjjildngaaW.PrintWords Go.Proofs.YtcejkfjjildngaaW.PrintLast Go.Proofs.YtcejkfjjildngaaW.PrintMore

def DD.write (D : DD) (n : ByteArray) (kd : List Int) (ks : Int) (b : List Int) : Int × DD :=
  if (D.spend 1).1 = 0 then (13, (D.spend 1).2) else
    (if ((D.spend 1).2.spend b.length).1 < b.length then 13 else 0, { ((D.spend 1).2.spend b.length).2 with fs := putF ((D.spend 1).2.spend b.length).2.fs ⟨n, kd ++ b.take ((D.spend 1).2.spend b.length).1.toNat, ks⟩ })
theorem spend_range {D : DD} (h : DDOk D) (n : Int) (hn : 0 ≤ n) : 0 ≤ (D.spend n).1 ∧ (D.spend n).1 ≤ n := by
  have := h.left0
  unfold DD.spend
  split
  · exact ⟨hn, Int.le_refl _⟩
  · split
    · rename_i h2; exact ⟨by simpa using this, by show D.left ≤ n; omega⟩
    · exact ⟨hn, Int.le_refl _⟩
theorem fr_held {S : Nat → Prop} {w w' : World} {S0 : Nat → Prop} {A : Option Addr} {l : List Int} (h : HeldB w S0 A l) (hf : Fr S w w') (hd : ∀ k, S0 k → ¬ S k) : HeldB w' S0 A l := h.keep fun k hlt hk => hf.block k hlt (hd k hk)
theorem keep3 {W W' : World} {a b c : Addr} {x y z : Value} (h : W.cell? a = some x ∧ W.cell? b = some y ∧ W.cell? c = some z) (h1 : W'.cell? a = W.cell? a) (h2 : W'.cell? b = W.cell? b) (h3 : W'.cell? c = W.cell? c) : W'.cell? a = some x ∧ W'.cell? b = some y ∧ W'.cell? c = some z := ⟨h1.trans h.1, h2.trans h.2.1, h3.trans h.2.2⟩
set_option maxRecDepth 100000 in
set_option maxHeartbeats 4000000 in
theorem wwrite {S : Nat → Prop} {g : Nat} {D : DD} {w : World} (h : DiskR S w g D) (n : ByteArray) (hn : n.size ≤ 24) (Ak : Option Addr) (ck : Nat) (kd : List Int) (ks : Int) (Ab : Option Addr) (cb : Nat) (b : List Int)
    (hk : HeldB w (fun k => k ≠ g ∧ k < w.heap.size) Ak kd) (hb : HeldB w (fun k => k ≠ g ∧ k < w.heap.size) Ab b) (hcb : b.length ≤ cb) (hl1 : kd.length ≤ 40000) (hl2 : b.length ≤ 40000)
    (hok : ∀ i, DDOk { D with fs := putF D.fs ⟨n, kd ++ b.take i, ks⟩ }) :
    Calls Try.prog 46 #[.pointer (some ⟨g, 0, none⟩), .string n, .agg #[.slice Ak kd.length ck, .int .i64 ks], .slice Ab b.length cb] w fun e w' => e = .returned (.int .i64 (D.write n kd ks b).1) ∧ After S w w' g (D.write n kd ks b).2 := by
  have hr1 := spend_range h.ok 1 (by decide)
  have hf1 := spend_fs D 1
  have hok1 := spend_ok h.ok 1 (by decide)
  have hgl := h.bound g h.own
  obtain ⟨res, hres⟩ : ∃ r, D.write n kd ks b = r := ⟨_, rfl⟩
  rw [hres]
  unfold DD.write at hres
  have HB1 := Aside0.mk ((Below.refl w.heap.size w).alloc (Nat.le_refl _) (.cells #[.slice Ak kd.length ck, .int .i64 ks] 56 (0, 0)))
  have HN1 := Aside0.mk (heap_alloc_new w (.cells #[.slice Ak kd.length ck, .int .i64 ks] 56 (0, 0)))
  have HSP := Aside0.mk (wspend (h.below HB1.out) 1 (by decide))
  have HBD := Aside0.mk h.bound
  obtain ⟨r1, hr⟩ : ∃ r, D.spend 1 = r := ⟨_, rfl⟩
  rw [hr] at hr1 hf1 hok1 HSP hres
  clear hr
  obtain ⟨n1, D1⟩ := r1
  simp only at hr1 hf1 hok1 HSP hres
  obtain ⟨re, rD⟩ := res
  have HRES := Aside0.mk hres
  clear hres
  simp only
  have HOK := Aside0.mk (And.intro hok (And.intro hok1 (And.intro hf1.1 hf1.2)))
  have HK := Aside0.mk hk
  have HB := Aside0.mk hb
  have HL := Aside0.mk (And.intro hl1 (And.intro hl2 (And.intro hcb (And.intro hn hgl))))
  clear h hf1 hok1 hok hk hb hl1 hl2 hcb hn hgl
  go_enter Try.func46, Try.ntmps46
  go_wp2_with fail
  refine HSP.out.mono ?_
  clear HSP
  rintro e w2 ⟨rfl, hD, hF⟩
  have HD2 := Aside0.mk hD
  have HF2 := Aside0.mk hF
  clear hD hF
  by_cases hz : n1 = 0
  case pos =>
    subst hz
    have hres := HRES.out
    rw [if_pos rfl] at hres
    obtain ⟨rfl, rfl⟩ := Prod.mk.inj hres
    clear hres HRES
    go_wp2_with fail
    go_ret
    exact ⟨rfl, S, HD2.out, (Fr.of_below HB1.out).trans (HF2.out.mono (fun k hk => by subst hk; exact HD2.out.own)) (fun k hk => .inl hk), fun k hk => .inl hk⟩
  have hres := HRES.out
  rw [if_neg hz] at hres
  clear HRES
  have HSP := Aside0.mk (wspend HD2.out (b.length : Int) (by omega))
  have hr2 := spend_range HOK.out.2.1 (b.length : Int) (by omega)
  have hf2 := spend_fs D1 (b.length : Int)
  have hok2 := spend_ok HOK.out.2.1 (b.length : Int) (by omega)
  obtain ⟨r2, hr⟩ : ∃ r, D1.spend (b.length : Int) = r := ⟨_, rfl⟩
  rw [hr] at hr2 hf2 hok2 HSP hres
  clear hr
  obtain ⟨n2, D2⟩ := r2
  simp only at hr2 hf2 hok2 HSP hres
  obtain ⟨i, rfl⟩ : ∃ i : Nat, n2 = (i : Int) := ⟨n2.toNat, by omega⟩
  have hib : i ≤ b.length := by omega
  have hic : i ≤ cb := Nat.le_trans hib HL.out.2.2.1
  rw [Int.toNat_natCast] at hres
  have HRES := Aside0.mk hres
  clear hres
  have HOK2 := Aside0.mk (And.intro hok2 hf2)
  clear hok2 hf2 hr2
  go_wp2_with fail
  refine HSP.out.mono ?_
  clear HSP
  rintro e w3 ⟨rfl, hD, hF⟩
  obtain ⟨m, ps, hP⟩ := hD.parts
  have HP := Aside0.mk hP
  have HF3 := Aside0.mk (HF2.out.trans hF (fun k hk => .inl hk))
  have hkb : w3.heap[w.heap.size]? = some (.cells #[.slice Ak kd.length ck, .int .i64 ks] 56 (0, 0)) := by
    rw [HF3.out.block w.heap.size (by simp) (fun e => by have := HL.out.2.2.2.2; omega)]
    exact HN1.out
  have HKB := Aside0.mk hkb
  have HK3 := Aside0.mk (((HK.out.below HB1.out).keep (fun k hlt hk => HF3.out.block k hlt hk.1)).mono (S' := fun k => k < w3.heap.size) (fun k hk => by have := HF3.out.size; rw [World.size_alloc] at this; omega))
  have hbt : HeldB w3 (fun k => k < w3.heap.size) Ab (b.take i) := by
    have h0 := ((HB.out.below HB1.out).keep (fun k hlt hk => HF3.out.block k hlt hk.1)).mono (S' := fun k => k < w3.heap.size) (fun k hk => by have := HF3.out.size; rw [World.size_alloc] at this; omega)
    intro hpos
    rw [List.length_take] at hpos
    obtain ⟨ad, e1, e2, e3⟩ := h0 (by omega)
    refine ⟨ad, e1, e2, fun j hj => ?_⟩
    rw [List.length_take] at hj
    rw [e3 j (by omega)]
    congr 2
    simp only [rd, Int.toNat_natCast, List.getD_eq_getElem?_getD]
    rw [List.getElem?_take_of_lt (by omega)]
  have HBT := Aside0.mk hbt
  have htl : (b.take i).length = i := by rw [List.length_take]; omega
  have hgc := hP.at.1.1
  obtain ⟨kc0, kc1⟩ := two_cells hkb
  have hmc : w.heap.size ≠ m := fun e => by
    obtain ⟨es, c, hm⟩ := hP.map
    rw [e, hm.heap] at hkb
    cases hkb
  have hgm : g ≠ m := fun e => by
    obtain ⟨es, c, hm⟩ := hP.map
    have := hP.cells
    rw [e, hm.heap] at this
    cases this
  have HNE := Aside0.mk (And.intro hmc hgm)
  clear hD hF hP hkb hbt HF2 HD2 HK HB hmc hgm
  have HTL := Aside0.mk htl
  clear htl
  have HPUT := Aside0.mk (show DDOk { D2 with fs := putF D2.fs ⟨n, kd ++ b.take i, ks⟩ } from by
    have h0 := HOK.out.1 i
    have e1 : D2.fs = D.fs := HOK2.out.2.1.trans HOK.out.2.2.1
    have e2 : D2.room = D.room := HOK2.out.2.2.trans HOK.out.2.2.2
    have h1 := HOK2.out.1
    refine ⟨?_, ?_, ?_, h1.room, h1.left0, h1.left1⟩
    · show ∀ f ∈ putF D2.fs _, FileOk f
      rw [e1]; exact h0.files
    · show ((putF D2.fs _).map FileV.n).Nodup
      rw [e1]; exact h0.names
    · show ((sumL (putF D2.fs _) : Nat) : Int) ≤ D2.room
      rw [e1, e2]; exact h0.total)
  generalize b.take i = bt at HBT HTL HRES HPUT
  go_upto_region 4 with fail
  have hlim : i < b.length ∨ ¬ i < b.length := Classical.em _
  have htl := HTL.out
  subst htl
  clear HTL
  obtain ⟨L, hL⟩ : ∃ L, kd ++ bt = L := ⟨_, rfl⟩
  have HEQ := Aside0.mk hL
  clear hL
  have HBD3 := Aside0.mk (below_drew (Below.refl w3.heap.size w3))
  have HK3d := Aside0.mk (HK3.out.below HBD3.out)
  have HBTd := Aside0.mk (HBT.out.below HBD3.out)
  have HSc := Aside0.mk (show (w3.drew.cell? ⟨g, 0, none⟩ = some (.map (some m)) ∧ w3.drew.cell? ⟨w.heap.size, 0, none⟩ = some (.slice Ak kd.length ck) ∧ w3.drew.cell? ⟨w.heap.size, 1, none⟩ = some (.int .i64 ks)) from ⟨hgc, kc0, kc1⟩)
  have hsz3 : w3.drew.heap.size = w3.heap.size := rfl
  have HSZ := Aside0.mk (And.intro (show g < w3.heap.size from HP.out.bound g HP.out.own) (lt_of_heap HKB.out))
  have HSZd := Aside0.mk (show g < w3.drew.heap.size ∧ w.heap.size < w3.drew.heap.size from HSZ.out)
  clear hsz3 HK3 HBT kc0 kc1 hgc HSZ
  refine wp_region_held_drew (S := (fun W => W.cell? ⟨g, 0, none⟩ = some (.map (some m)) ∧ W.cell? ⟨w.heap.size, 0, none⟩ = some (.slice Ak kd.length ck) ∧ W.cell? ⟨w.heap.size, 1, none⟩ = some (.int .i64 ks))) (by kernel_rfl) HSc.out (fun hHeld => ?_)
  generalize w3.drew = wz at HK3d HBTd HSc HSZd HBD3 hHeld ⊢
  refine wpAnyH_take (i := 0) (oi := { dst := some 17, op := Op.move (Operand.tmp 0), type := 26, pos := "disk.go:63", after := #[], guard := none }) (v := ?_) rfl (by kernel_rfl) (by kernel_rfl) (by kernel_rfl) (fun _ _ _ h => h) (Or.inl ⟨by rfl, ?_⟩) (by assumption) ?_
  rotate_left
  · intro w hSw
    try dsimp only at hSw
    go_simp
    all_goals with_reducible rfl
  try simp only [Act.put, List.setIfInBounds_toArray, List.set_cons_zero, List.set_cons_succ]
  refine wpAnyH_take (i := 1) (oi := { dst := some 18, op := Op.nilCheck (Operand.tmp 17), type := 0, pos := "disk.go:63", after := #[{ on := 0, ground := Ground.data }], guard := none }) (v := ?_) rfl (by kernel_rfl) (by kernel_rfl) (by kernel_rfl) (fun _ _ _ h => h) (Or.inl ⟨by rfl, ?_⟩) (by assumption) ?_
  rotate_left
  · intro w hSw
    try dsimp only at hSw
    go_simp
    all_goals with_reducible rfl
  try simp only [Act.put, List.setIfInBounds_toArray, List.set_cons_zero, List.set_cons_succ]
  refine wpAnyH_take (i := 2) (oi := { dst := some 19, op := Op.fieldAddr 51 (Operand.tmp 18) 0, type := 0, pos := "disk.go:63", after := #[{ on := 1, ground := Ground.data }], guard := none }) (v := ?_) rfl (by kernel_rfl) (by kernel_rfl) (by kernel_rfl) (fun _ _ _ h => h) (Or.inl ⟨by rfl, ?_⟩) (by assumption) ?_
  rotate_left
  · intro w hSw
    try dsimp only at hSw
    go_simp
    all_goals with_reducible rfl
  try simp only [Act.put, List.setIfInBounds_toArray, List.set_cons_zero, List.set_cons_succ]
  refine wpAnyH_take (i := 3) (oi := { dst := some 20, op := Op.load 49 (Operand.tmp 19), type := 49, pos := "disk.go:63", after := #[{ on := 2, ground := Ground.data }], guard := none }) (v := ?_) rfl (by kernel_rfl) (by kernel_rfl) (by kernel_rfl) (fun _ _ _ h => h) (Or.inl ⟨by rfl, ?_⟩) (by assumption) ?_
  rotate_left
  · intro w hSw
    try dsimp only at hSw
    go_simp
    all_goals with_reducible rfl
  try simp only [Act.put, List.setIfInBounds_toArray, List.set_cons_zero, List.set_cons_succ]
  refine wpAnyH_take (i := 4) (oi := { dst := some 21, op := Op.move (Operand.tmp 1), type := 9, pos := "disk.go:63", after := #[], guard := none }) (v := ?_) rfl (by kernel_rfl) (by kernel_rfl) (by kernel_rfl) (fun _ _ _ h => h) (Or.inl ⟨by rfl, ?_⟩) (by assumption) ?_
  rotate_left
  · intro w hSw
    try dsimp only at hSw
    go_simp
    all_goals with_reducible rfl
  try simp only [Act.put, List.setIfInBounds_toArray, List.set_cons_zero, List.set_cons_succ]
  refine wpAnyH_take (i := 5) (oi := { dst := some 22, op := Op.fieldAddr 56 (Operand.tmp 6) 0, type := 0, pos := "disk.go:63", after := #[], guard := none }) (v := ?_) rfl (by kernel_rfl) (by kernel_rfl) (by kernel_rfl) (fun _ _ _ h => h) (Or.inl ⟨by rfl, ?_⟩) (by assumption) ?_
  rotate_left
  · intro w hSw
    try dsimp only at hSw
    go_simp
    all_goals with_reducible rfl
  try simp only [Act.put, List.setIfInBounds_toArray, List.set_cons_zero, List.set_cons_succ]
  refine wpAnyH_take (i := 6) (oi := { dst := some 23, op := Op.load 22 (Operand.tmp 22), type := 22, pos := "disk.go:63", after := #[{ on := 5, ground := Ground.data }], guard := none }) (v := ?_) rfl (by kernel_rfl) (by kernel_rfl) (by kernel_rfl) (fun _ _ _ h => h) (Or.inl ⟨by rfl, ?_⟩) (by assumption) ?_
  rotate_left
  · intro w hSw
    try dsimp only at hSw
    go_simp
    all_goals with_reducible rfl
  try simp only [Act.put, List.setIfInBounds_toArray, List.set_cons_zero, List.set_cons_succ]
  refine wpAnyH_take (i := 7) (oi := { dst := some 24, op := Op.move (Operand.tmp 3), type := 22, pos := "disk.go:63", after := #[], guard := none }) (v := ?_) rfl (by kernel_rfl) (by kernel_rfl) (by kernel_rfl) (fun _ _ _ h => h) (Or.inl ⟨by rfl, ?_⟩) (by assumption) ?_
  rotate_left
  · intro w hSw
    try dsimp only at hSw
    go_simp
    all_goals with_reducible rfl
  try simp only [Act.put, List.setIfInBounds_toArray, List.set_cons_zero, List.set_cons_succ]
  refine wpAnyH_take (i := 8) (oi := { dst := some 25, op := Op.move (Operand.tmp 9), type := 3, pos := "disk.go:63", after := #[], guard := none }) (v := ?_) rfl (by kernel_rfl) (by kernel_rfl) (by kernel_rfl) (fun _ _ _ h => h) (Or.inl ⟨by rfl, ?_⟩) (by assumption) ?_
  rotate_left
  · intro w hSw
    try dsimp only at hSw
    go_simp
    all_goals with_reducible rfl
  try simp only [Act.put, List.setIfInBounds_toArray, List.set_cons_zero, List.set_cons_succ]
  refine wpAnyH_take (i := 9) (oi := { dst := some 26, op := Op.slice 22 (Operand.tmp 24) none (some (Operand.tmp 25)) none, type := 22, pos := "disk.go:63", after := #[{ on := 7, ground := Ground.data }, { on := 8, ground := Ground.data }], guard := none }) (v := ?_) rfl (by kernel_rfl) (by kernel_rfl) (by kernel_rfl) (fun _ _ _ h => h) (Or.inl ⟨by rfl, ?_⟩) (by assumption) ?_
  rotate_left
  · intro w hSw
    try dsimp only at hSw
    go_simp
    all_goals with_reducible rfl
  try simp only [Act.put, List.setIfInBounds_toArray, List.set_cons_zero, List.set_cons_succ]
  refine wpAnyH_take (i := 12) (oi := { dst := some 29, op := Op.fieldAddr 56 (Operand.tmp 6) 1, type := 0, pos := "disk.go:63", after := #[], guard := none }) (v := ?_) rfl (by kernel_rfl) (by kernel_rfl) (by kernel_rfl) (fun _ _ _ h => h) (Or.inl ⟨by rfl, ?_⟩) (by assumption) ?_
  rotate_left
  · intro w hSw
    try dsimp only at hSw
    go_simp
    all_goals with_reducible rfl
  try simp only [Act.put, List.setIfInBounds_toArray, List.set_cons_zero, List.set_cons_succ]
  refine wpAnyH_take (i := 13) (oi := { dst := some 30, op := Op.load 3 (Operand.tmp 29), type := 3, pos := "disk.go:63", after := #[{ on := 12, ground := Ground.data }], guard := none }) (v := ?_) rfl (by kernel_rfl) (by kernel_rfl) (by kernel_rfl) (fun _ _ _ h => h) (Or.inl ⟨by rfl, ?_⟩) (by assumption) ?_
  rotate_left
  · intro w hSw
    try dsimp only at hSw
    go_simp
    all_goals with_reducible rfl
  try simp only [Act.put, List.setIfInBounds_toArray, List.set_cons_zero, List.set_cons_succ]
  refine wpAnyH_ready (rs := [10]) (by kernel_rfl) (by simp) ?_
  refine AllReadyH.cons (o := { dst := some 27, op := Op.buildSlice 85 2 #[(0, Operand.tmp 23), (1, Operand.tmp 26)], type := 85, pos := "disk.go:63", after := #[{ on := 6, ground := Ground.data }, { on := 9, ground := Ground.data }], guard := none }) rfl (fun K hK => ?_) AllReadyH.nil
  go_simp
  (have HBc := Aside0.mk ((Below.refl wz.heap.size wz).alloc (Nat.le_refl _) (.cells #[.slice Ak kd.length ck, .slice Ab bt.length cb] 22 (0, 0))); have HNc := Aside0.mk (heap_alloc_new wz (.cells #[.slice Ak kd.length ck, .slice Ab bt.length cb] 22 (0, 0))); have HSd := HSc; clear HSc; have HSc := Aside0.mk (keep3 HSd.out (HBc.out.cell HSZd.out.1) (HBc.out.cell HSZd.out.2) (HBc.out.cell HSZd.out.2)); clear HSd)
  refine hK.out _ _ HSc.out (fun hHeld => ?_)
  clear hK K
  try simp only [Act.put, List.setIfInBounds_toArray, List.set_cons_zero, List.set_cons_succ]
  refine wpAnyH_ready (rs := [11]) (by kernel_rfl) (by simp) ?_
  refine AllReadyH.cons (o := { dst := some 28, op := Op.call { callee := Callee.value (Operand.func 55), args := #[Operand.tmp 27], argTypes := #[85] }, type := 22, pos := "disk.go:63", after := #[{ on := 10, ground := Ground.data }], guard := none }) rfl (fun K hK => ?_) AllReadyH.nil
  (go_simp; refine (concat_two wz.heap.size 2 Ak ck kd Ab cb bt (wz.alloc (.cells #[.slice Ak kd.length ck, .slice Ab bt.length cb] 22 (0, 0))) HNc.out ((HK3d.out.below HBc.out).mono (fun k hk => by have := HBD3.out.size; rw [World.size_alloc]; omega)) ((HBTd.out.below HBc.out).mono (fun k hk => by have := HBD3.out.size; rw [World.size_alloc]; omega)) HL.out.1 (by have := HL.out.2.1; have := hib; omega)).mono ?_; rintro e wx ⟨v, rfl, hR, hB⟩; rw [HEQ.out] at hR; have HBx := Aside0.mk (HBc.out.trans (hB.mono (by simp))); have HRx := Aside0.mk (Kd.R_lower hR (show w3.heap.size ≤ _ by have := HBD3.out.size; rw [World.size_alloc]; omega)); obtain ⟨Av, cv, rfl⟩ := Kd.R_slice hR; have HSd := HSc; clear HSc; have HSc := Aside0.mk (keep3 HSd.out (hB.cell (by rw [World.size_alloc]; exact Nat.lt_succ_of_lt HSZd.out.1)) (hB.cell (by rw [World.size_alloc]; exact Nat.lt_succ_of_lt HSZd.out.2)) (hB.cell (by rw [World.size_alloc]; exact Nat.lt_succ_of_lt HSZd.out.2))); clear HSd hR hB HBc HNc; go_wp2_with fail)
  refine hK.out _ _ HSc.out (fun hHeld => ?_)
  clear hK K
  try simp only [Act.put, List.setIfInBounds_toArray, List.set_cons_zero, List.set_cons_succ]
  refine wpAnyH_take (i := 14) (oi := { dst := some 31, op := Op.build 56 #[(0, Operand.tmp 28), (1, Operand.tmp 30)], type := 56, pos := "disk.go:63", after := #[{ on := 11, ground := Ground.data }, { on := 13, ground := Ground.data }], guard := none }) (v := ?_) rfl (by kernel_rfl) (by kernel_rfl) (by kernel_rfl) (fun _ _ _ h => h) (Or.inl ⟨by rfl, ?_⟩) (by assumption) ?_
  rotate_left
  · intro w hSw
    try dsimp only at hSw
    go_simp
    all_goals with_reducible rfl
  try simp only [Act.put, List.setIfInBounds_toArray, List.set_cons_zero, List.set_cons_succ]
  refine wpAnyH_ready (rs := [15]) (by kernel_rfl) (by simp) ?_
  refine AllReadyH.cons (o := { dst := some 32, op := Op.box 56 (Operand.tmp 31), type := 59, pos := "disk.go:63", after := #[{ on := 14, ground := Ground.data }], guard := none }) rfl (fun K hK => ?_) AllReadyH.nil
  go_simp
  (have HBy := Aside0.mk (HBx.out.alloc HBx.out.size (.cells #[.slice Av L.length cv, .int .i64 ks] 56 (0, 0))); have HSd := HSc; clear HSc; have HSc := Aside0.mk (keep3 HSd.out ((HBy.out.cell HSZd.out.1).trans (HBx.out.cell HSZd.out.1).symm) ((HBy.out.cell HSZd.out.2).trans (HBx.out.cell HSZd.out.2).symm) ((HBy.out.cell HSZd.out.2).trans (HBx.out.cell HSZd.out.2).symm)); clear HSd; obtain ⟨w4, hrun, hg4, hA4⟩ := HP.out.lay (f := ⟨n, L, ks⟩) (HBD3.out.trans (HBy.out.mono HBD3.out.size)) (heap_alloc_new wx (.cells #[.slice Av L.length cv, .int .i64 ks] 56 (0, 0))) (by have := HBD3.out.size; have := HBx.out.size; omega) (Kd.R_alloc HRx.out (.cells #[.slice Av L.length cv, .int .i64 ks] 56 (0, 0))) HL.out.2.2.2.1 (by rw [← HEQ.out]; exact HPUT.out); have HG4 := Aside0.mk hg4; have HA4 := Aside0.mk hA4; clear hg4 hA4)
  refine hK.out _ _ HSc.out (fun hHeld => ?_)
  clear hK K
  try simp only [Act.put, List.setIfInBounds_toArray, List.set_cons_zero, List.set_cons_succ]
  refine wpAnyH_ready (rs := [16]) (by kernel_rfl) (by simp) ?_
  refine AllReadyH.cons (o := { dst := none, op := Op.mapUpdate 49 (Operand.tmp 20) (Operand.tmp 21) (Operand.tmp 32), type := 0, pos := "disk.go:63", after := #[{ on := 3, ground := Ground.data }, { on := 4, ground := Ground.data }, { on := 15, ground := Ground.data }, { on := 11, ground := Ground.chain }, { on := 0, ground := Ground.phase }, { on := 1, ground := Ground.phase }, { on := 2, ground := Ground.phase }, { on := 3, ground := Ground.phase }, { on := 4, ground := Ground.phase }, { on := 5, ground := Ground.phase }, { on := 6, ground := Ground.phase }, { on := 7, ground := Ground.phase }, { on := 8, ground := Ground.phase }, { on := 9, ground := Ground.phase }, { on := 10, ground := Ground.phase }, { on := 11, ground := Ground.phase }, { on := 12, ground := Ground.phase }, { on := 13, ground := Ground.phase }, { on := 14, ground := Ground.phase }, { on := 15, ground := Ground.phase }], guard := none }) rfl (fun K hK => ?_) AllReadyH.nil
  go_simp
  (have HSd := HSc; clear HSc; have HSc := Aside0.mk (keep3 HSd.out (World.cell?_of_block (HG4.out.block g (Nat.lt_of_lt_of_le HSZd.out.1 HBy.out.size) (fun e => HNE.out.2 (by cases e; rfl)))) (World.cell?_of_block (HG4.out.block w.heap.size (Nat.lt_of_lt_of_le HSZd.out.2 HBy.out.size) (fun e => HNE.out.1 (by cases e; rfl)))) (World.cell?_of_block (HG4.out.block w.heap.size (Nat.lt_of_lt_of_le HSZd.out.2 HBy.out.size) (fun e => HNE.out.1 (by cases e; rfl))))); clear HSd hrun)
  refine hK.out _ _ HSc.out (fun hHeld => ?_)
  clear hK K
  try simp only [Act.put, List.setIfInBounds_toArray, List.set_cons_zero, List.set_cons_succ]
  refine wpAnyH_done (by kernel_rfl) ?_ _
  have HFIN := Aside0.mk ((Fr.of_below HB1.out).trans (HF3.out.mono (S' := S) (fun k hk => by subst hk; exact HP.out.own)) (fun k hk => .inl hk))
  have hres := HRES.out
  rw [HEQ.out] at hres
  rcases hlim with hlim | hlim
  case inl =>
    have hlt : (bt.length : Int) < (b.length : Int) := by omega
    rw [if_pos hlt] at hres
    obtain ⟨rfl, rfl⟩ := Prod.mk.inj hres
    clear hres HRES hlim
    go_wp2_with fail
    go_ret
    exact ⟨rfl, After.trans HFIN.out (fun k hk => .inl hk) HA4.out⟩
  case inr =>
    have hlt : ¬ (bt.length : Int) < (b.length : Int) := by omega
    rw [if_neg hlt] at hres
    obtain ⟨rfl, rfl⟩ := Prod.mk.inj hres
    clear hres HRES hlim
    go_wp2_with fail
    go_ret
    exact ⟨rfl, After.trans HFIN.out (fun k hk => .inl hk) HA4.out⟩
end Go.Proofs.Ytcejkfjjildngaa
end
