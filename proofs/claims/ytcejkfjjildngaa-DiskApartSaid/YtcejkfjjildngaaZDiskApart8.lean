import Derived.Test.YtcejkfjjildngaaZDiskApart7
import Derived.StillTailTactics
import Derived.Test.YtcejkfjjildngaaZDiskApart5
import Derived.Test.YtcejkfjjildngaaZDiskApart6
import Derived.Test.YtcejkfjjildngaaZDiskApart4
import Derived.BigQuiet
import Derived.Deep.QuietTactic
import Derived.WalkKit
section
/- the reference's disk: Write, Append, Sync -/
set_option linter.unusedVariables false
set_option linter.unusedSimpArgs false
set_option autoImplicit false
namespace Go.Proofs.Ytcejkfjjildngaa
open Go Go.RowKit Go.Proofs.YtcejkfjjildngaaW.PrintWords Go.Proofs.YtcejkfjjildngaaW.PrintLast Go.Proofs.YtcejkfjjildngaaW.PrintMore Go.Proofs.Ytcejkfjjildngaa.G

section
variable {S : Nat → Prop} {w : World} {g : Nat} {F : List S43} {A : Option Addr} {c : Nat} {room left : Int} {is : Bool} {M N : Nat}
set_option maxRecDepth 100000 in
set_option maxHeartbeats 2000000 in
theorem xWrite (h : XP S w g F A c room left is M N) (n : ByteArray) (Ab : Option Addr) (cb : Nat) (b : List Int)
    (hb : HeldB w (fun k => k ≠ g ∧ k < w.heap.size) Ab b) (hcb : b.length ≤ cb) (hN : N ≤ 1000000) (hM : M + b.length ≤ 1000000) :
    Calls Try.prog 14 #[.pointer (some ⟨g, 0, none⟩), .string n, .slice Ab b.length cb] w fun e w' => IsInt e ∧ XGrow S w w' g (M + b.length) (N + 1) := by
  have HW := Aside0.mk (xwrite h n Ab cb b hb hcb true hN hM)
  clear h hb
  go_enter Try.func14, Try.ntmps14
  go_wp2_with fail
  refine HW.out.mono ?_
  rintro e w1 ⟨⟨x, rfl⟩, h1⟩
  have H1 := Aside0.mk h1
  clear h1 HW
  go_wp2_with fail
  go_ret
  exact ⟨⟨_, rfl⟩, H1.out⟩
set_option maxRecDepth 100000 in
set_option maxHeartbeats 2000000 in
theorem xAppend (h : XP S w g F A c room left is M N) (n : ByteArray) (Ab : Option Addr) (cb : Nat) (b : List Int)
    (hb : HeldB w (fun k => k ≠ g ∧ k < w.heap.size) Ab b) (hcb : b.length ≤ cb) (hN : N ≤ 1000000) (hM : M + b.length ≤ 1000000) :
    Calls Try.prog 33 #[.pointer (some ⟨g, 0, none⟩), .string n, .slice Ab b.length cb] w fun e w' => IsInt e ∧ XGrow S w w' g (M + b.length) (N + 1) := by
  have HW := Aside0.mk (xwrite h n Ab cb b hb hcb false hN hM)
  clear h hb
  go_enter Try.func33, Try.ntmps33
  go_wp2_with fail
  refine HW.out.mono ?_
  rintro e w1 ⟨⟨x, rfl⟩, h1⟩
  have H1 := Aside0.mk h1
  clear h1 HW
  go_wp2_with fail
  go_ret
  exact ⟨⟨_, rfl⟩, H1.out⟩
/-- element j of the disk's row, with what a store into it leaves -/
structure El (S : Nat → Prop) (w : World) (g : Nat) (F : List S43) (A : Option Addr) (c : Nat) (room left : Int) (is : Bool) (M N : Nat) (j : Nat) (x : S43) (b : Nat) (vd : Value) : Prop where
  a : A = some ⟨b, 0, none⟩
  z0 : w.cell? ⟨b, j * 3, none⟩ = some (.string x.f0)
  z1 : w.cell? ⟨b, j * 3 + 1, none⟩ = some vd
  z2 : w.cell? ⟨b, j * 3 + 2, none⟩ = some (.int .i64 x.f2)
  fz : ∀ i, w.frozen? ⟨b, i, none⟩ = false
  own : S b
  ne : b ≠ g
  data : (Kd.int .u8).R 5 w 0 (fun k => S k ∧ k ≠ b) vd x.f1
  fo : FO M x
  put : ∀ (jj : Nat) (x' : S43) (seg : List Value), jj + seg.length ≤ 3 → FO M x' → k43.M w 0 (fun k => S k ∧ k ≠ b) x' ([.string x.f0, vd, .int .i64 x.f2].take jj ++ seg ++ [.string x.f0, vd, .int .i64 x.f2].drop (jj + seg.length)) →
    XP S (w.setCells b (j * 3 + jj) seg) g (F.set j x') A c room left is M N ∧ w.grownBy (w.setCells b (j * 3 + jj) seg) (some b)
theorem XP.el (h : XP S w g F A c room left is M N) (j : Nat) (hj : j < F.length) : ∃ b vd, El S w g F A c room left is M N j F[j] b vd := by
  have h00 := h.row
  obtain ⟨h0, inner, hown, hr⟩ := h00
  have hx : F[j]? = some F[j] := List.getElem?_eq_getElem hj
  have hM := hr.2 j _ hx
  obtain ⟨vd, hcs, hR⟩ := k43_openM hM
  rcases hown.2 with ⟨_, hn⟩ | ⟨b, cap, cur, hv, _, hb, hnc, hmax, hsz, htk⟩
  · omega
  · have hv0 := hv
    injection hv with hA _ hc
    have key : ∀ i u, [Value.string F[j].f0, vd, .int .i64 F[j].f2][i]? = some u → w.cell? ⟨b, j * 3 + i, none⟩ = some u := by
      intro i u hu
      have hi : i < 3 := (List.getElem?_eq_some_iff.1 hu).1
      have hcs' : (inner.drop (j * 3)).take 3 = [Value.string F[j].f0, vd, .int .i64 F[j].f2] := hcs
      rw [cell_of_row (j := j * 3 + i) _ _ _ _ _ hb]
      have h1 : cur.toList[j * 3 + i]? = some u := by
        have h2 : (cur.toList.take (F.length * 3))[j * 3 + i]? = cur.toList[j * 3 + i]? := List.getElem?_take_of_lt (by omega)
        have htk' : cur.toList.take (F.length * 3) = inner := htk
        rw [← h2, htk', ← hu, ← hcs', List.getElem?_take_of_lt hi, List.getElem?_drop]
      rw [← h1]
      simp
    have hgb : b ≠ g := by
      rintro rfl
      have := h.cells
      rw [hb] at this
      injection this with this
      injection this with _ this
      cases this
    have hRb : (Kd.int .u8).R 5 w 0 (fun k => S k ∧ k ≠ b) vd F[j].f1 := Kd.R_mono (Kd.R_types hR hb (by decide)) (fun k hk => ⟨hk.1.1, hk.2⟩)
    refine ⟨b, vd, hA, key 0 _ rfl, key 1 _ rfl, key 2 _ rfl, fun i => frozen_of_row _ _ _ _ _ hb, h0 b (by rw [hv0]; rfl), hgb, hRb, h.files _ (List.getElem_mem hj), ?_⟩
    intro jj x' seg hjj hfo hM'
    subst hA
    obtain ⟨hrow, hgr⟩ := Kd.R_seg (i := (j : Int)) h.row (by omega) (by omega) (c := [.string F[j].f0, vd, .int .i64 F[j].f2]) rfl (fun i u hu => by rw [Int.toNat_natCast]; exact key i u hu) hjj hM' (fun k hk => hk)
    rw [Int.toNat_natCast] at hrow hgr
    refine ⟨⟨fun k hk => Nat.lt_of_lt_of_le (h.bound k hk) hgr.size, h.own, ?_, ?_, ?_, ?_, h.left0, h.left1⟩, hgr⟩
    · rw [List.length_set]
      exact (hgr.block g (h.bound g h.own) (fun e => hgb (Option.some.inj e).symm)).trans h.cells
    · rw [List.length_set]
      exact hrow
    · intro f hf
      rcases List.mem_or_eq_of_mem_set hf with hf | hf
      · exact h.files f hf
      · rw [hf]; exact hfo
    · rw [List.length_set]
      exact h.cnt
theorem drew_below (w : World) : Below w.heap.size w w.drew := pw_below_drewN (Below.refl _ _) 1
set_option maxRecDepth 100000 in
set_option maxHeartbeats 2000000 in
theorem xSync (h : XP S w g F A c room left is M N) (n : ByteArray) (hN : N ≤ 1000000) :
    Calls Try.prog 15 #[.pointer (some ⟨g, 0, none⟩), .string n] w fun e w' => IsInt e ∧ XAfter S w w' g M N := by
  have HC := Aside0.mk (xchange h n hN)
  have H := Aside0.mk h
  clear h
  go_enter Try.func15, Try.ntmps15
  go_wp2_with fail
  refine HC.out.mono ?_
  rintro e w1 ⟨i, x, rfl, hx, rfl⟩
  have HX := Aside0.mk hx
  clear hx HC
  by_cases hx0 : x = 0
  case neg =>
    have hx1 : (x != 0) = true := by simpa using hx0
    go_wp2_with fail
    go_ret
    exact ⟨⟨_, rfl⟩, (H.out.grow0 (Fr.refl _ _)).after H.out.own⟩
  subst hx0
  obtain ⟨hi0, hi1⟩ := HX.out rfl
  obtain ⟨j, rfl⟩ : ∃ j : Nat, i = (j : Int) := ⟨i.toNat, by omega⟩
  go_wp2_with fail
  refine (xspend H.out).mono ?_
  rintro e w2 ⟨⟨q, rfl⟩, left1, is1, h1, hf1⟩
  have H1 := Aside0.mk (And.intro h1 hf1)
  clear h1 hf1
  cases q with
  | false =>
    go_wp2_with fail
    go_ret
    exact ⟨⟨_, rfl⟩, (H1.out.1.grow0 H1.out.2).after H1.out.1.own⟩
  | true =>
  obtain ⟨⟨c0, -, -, -⟩, -⟩ := H1.out.1.at
  have hD := Aside0.mk (And.intro (H1.out.1.below (drew_below w2)) (H1.out.2.trans (Fr.of_below (drew_below w2)) (fun k hk => .inl hk)))
  obtain ⟨b, vd, hE⟩ := hD.out.1.el j (by omega)
  have hcnt := Nat.le_trans H1.out.1.cnt hN
  obtain ⟨Ad, cd, rfl⟩ := Kd.R_slice hE.data
  have z1 : w2.cell? ⟨b, j * 3 + 1, none⟩ = _ := hE.z1
  have hA := hE.a
  subst hA
  have HE := Aside0.mk hE
  have z2 := hE.z2
  have hfz := hE.fz (j * 3 + 2)
  clear hE H HX H1
  go_upto_region 6 with fail
  go_still_tail 14, (by kernel_rfl)
  change wpList _ _ _ _ _ w2.drew
  clear z1 c0
  generalize w2.drew = w3 at hD HE z2 hfz ⊢
  have hfo := HE.out.fo
  obtain ⟨hput, hgr⟩ := HE.out.put 2 ⟨F[j].f0, F[j].f1, (F[j].f1.length : Int)⟩ [.int .i64 (F[j].f1.length : Int)] (Nat.le_refl 3) ⟨Int.natCast_nonneg _, Int.le_refl _, hfo.m, hfo.nm⟩ (k43_mkM w3 0 _ ⟨F[j].f0, F[j].f1, (F[j].f1.length : Int)⟩ HE.out.data)
  have HF := Aside0.mk (show XAfter S w1 (w3.setCell ⟨b, j * 3 + 2, none⟩ (.int .i64 (F[j].f1.length : Int))) g M N from ⟨S, ⟨_, _, _, _, _, _, hput⟩, (hD.out.2.mono (fun k hk => by subst hk; exact hD.out.1.own)).trans (Fr.of_grown (S := S) hgr (fun k hk => by cases hk; exact HE.out.own)) (fun k hk => .inl hk), fun k hk => .inl hk⟩)
  clear hfo hput hgr HE
  go_wp2_with fail
  go_ret
  exact ⟨⟨_, rfl⟩, HF.out⟩
end
end Go.Proofs.Ytcejkfjjildngaa
end

section
/- the reference's disk: Crash -/
set_option linter.unusedVariables false
set_option linter.unusedSimpArgs false
set_option autoImplicit false
namespace Go.Proofs.Ytcejkfjjildngaa
open Go Go.RowKit Go.Proofs.YtcejkfjjildngaaW.PrintWords Go.Proofs.YtcejkfjjildngaaW.PrintLast Go.Proofs.YtcejkfjjildngaaW.PrintMore Go.Proofs.Ytcejkfjjildngaa.G

section
variable {S : Nat → Prop} {w w' : World} {g : Nat} {F : List S43} {A : Option Addr} {c : Nat} {room left : Int} {is : Bool} {M N : Nat}
theorem El.below {j b : Nat} {vd : Value} (h : XP S w g F A c room left is M N) (hj : j < F.length) (hE : El S w g F A c room left is M N j F[j] b vd) (hB : Below w.heap.size w w') : El S w' g F A c room left is M N j F[j] b vd := by
  obtain ⟨b', vd', h'⟩ := (h.below hB).el j hj
  have e1 := hE.a.symm.trans h'.a
  injection e1 with e1
  injection e1 with e1
  subst e1
  have e2 := (hB.cell (World.block_lt_of_cell? _ _ hE.z1)).symm.trans h'.z1
  rw [hE.z1] at e2
  injection e2 with e2
  subst e2
  exact h'
theorem xnums {f : S43} (hf : FO M f) (hM : M ≤ 1000000) (keep : Int) : ∃ (K L Mm : Int) (nn : Nat), max keep 0 = K ∧ (IntKind.i64.wrap ((f.f1.length : Int) - f.f2) = L ∧ wrap64 ((f.f1.length : Int) - f.f2) = L) ∧ min K L = Mm ∧ IntKind.i64.wrap (f.f2 + Mm) = (nn : Int) ∧ wrap64 (f.f2 + Mm) = (nn : Int) ∧ nn ≤ f.f1.length := by
  have h0 := hf.s0
  have h1 := hf.s1
  have h2 := hf.m
  refine ⟨max keep 0, (f.f1.length : Int) - f.f2, min (max keep 0) ((f.f1.length : Int) - f.f2), (f.f2 + min (max keep 0) ((f.f1.length : Int) - f.f2)).toNat, rfl, ⟨wsmallk _ (by omega) (by omega), wsmall _ (by omega) (by omega)⟩, rfl, ?_, ?_, ?_⟩
  · rw [wsmallk _ (by omega) (by omega)]; omega
  · rw [wsmall _ (by omega) (by omega)]; omega
  · omega
theorem XP.crashed (h : XP S w g F A c room left is M N) : XP S ((w.setCell ⟨g, 3, none⟩ (.bool false)).setCell ⟨g, 2, none⟩ (.int .i64 (-1))) g F A c room (-1) false M N := by
  have h1 : (w.setCell ⟨g, 3, none⟩ (.bool false)).heap[g]? = _ := heap_setCell_same _ _ _ _ _ _ h.cells
  refine ⟨fun k hk => by simpa [World.setCell] using h.bound k hk, h.own, ?_, ?_, h.files, h.cnt, by omega, by omega⟩
  · rw [heap_setCell_same _ _ _ _ _ _ h1]; rfl
  · exact Kd.R_set (Kd.R_set h.row h.cells (by decide) 3 _) h1 (by decide) 2 _
set_option maxRecDepth 100000 in
set_option maxHeartbeats 4000000 in
theorem xCrash (h : XP S w g F A c room left is M N) (keep : Int) (hN : N ≤ 1000000) (hM : M ≤ 1000000) :
    Calls Try.prog 37 #[.pointer (some ⟨g, 0, none⟩), .int .i64 keep] w fun e w' => e = .returned (.tuple #[]) ∧ XAfter S w w' g M N := by
  have H := Aside0.mk h
  clear h
  go_enter Try.func37, Try.ntmps37
  go_wp2_with fail
  go_loopw [4] (fun i wr => ∃ (j : Nat) (F' : List S43), j ≤ F'.length ∧ i = .int .i64 j ∧ Aside0 (XP S wr g F' A c room left is M N ∧ Fr S w wr)) (fun i _ => N - (intOf i).toNat)
  case atStart => exact ⟨0, F, Nat.zero_le _, rfl, ⟨H.out, Fr.refl _ _⟩⟩
  case round =>
    obtain ⟨j, F', hj, rfl, HX⟩ := hrel
    clear H
    have hcnt := Nat.le_trans HX.out.1.cnt hN
    have hcn := HX.out.1.cnt
    obtain ⟨⟨c0, c1, c2, c3⟩, hfr⟩ := HX.out.1.at
    by_cases hlt : j < F'.length
    case neg =>
      obtain rfl : j = F'.length := by omega
      have f2 := hfr 2
      have f3 := hfr 3
      have HA := Aside0.mk (show XAfter S w ((wr.setCell ⟨g, 3, none⟩ (.bool false)).setCell ⟨g, 2, none⟩ (.int .i64 (-1))) g M N from ⟨S, ⟨_, _, _, _, _, _, HX.out.1.crashed⟩, (HX.out.2.trans (Fr.set HX.out.1.own 3 _) (fun k hk => .inl hk)).trans (Fr.set HX.out.1.own 2 _) (fun k hk => .inl hk), fun k hk => .inl hk⟩)
      clear hfr HX
      go_wp2_with fail
      go_end0
      exact ⟨rfl, HA.out⟩
    obtain ⟨b, vd, hE⟩ := HX.out.1.el j hlt
    obtain ⟨Ad, cd, rfl⟩ := Kd.R_slice hE.data
    have hA := hE.a
    subst hA
    have z0 := hE.z0
    have z1 := hE.z1
    have z2 := hE.z2
    have HE := Aside0.mk hE
    obtain ⟨KK, LL, MM, nn, hmx, ⟨hwk, hw6⟩, hm1, hsk, hs6, hnl⟩ := xnums hE.fo hM keep
    have hncd : nn ≤ cd := Nat.le_trans hnl (Kd.R_reads' hE.data).2.1
    have HNL := Aside0.mk (And.intro hnl hE.fo)
    have hB0 : Below wr.heap.size wr (wr.alloc (.cells #[.string F'[j].f0, .slice Ad F'[j].f1.length cd, .int .i64 F'[j].f2] 43 (0, 0))) := (Below.refl wr.heap.size wr).alloc (Nat.le_refl _) _
    have HE5 := Aside0.mk (El.below HX.out.1 hlt hE (hB0.trans ((drew_below _).mono hB0.size)))
    have HX5 := Aside0.mk (HX.out.2.trans (Fr.of_below (hB0.trans ((drew_below _).mono hB0.size))) (fun k hk => .inl hk))
    have HO := Aside0.mk HX.out.1.own
    clear hE hfr HE hnl hB0
    generalize hF : F'[j] = x at *
    have HF := Aside0.mk hF
    clear hF
    go_upto_region 4 with fail
    clear z0 z1 z2
    go_upto_region 5 with fail
    clear hmx hwk hw6 hm1 hsk hs6
    have hB0 : Below wr.heap.size wr (wr.alloc (.cells #[.string x.f0, .slice Ad x.f1.length cd, .int .i64 x.f2] 43 (0, 0))) := (Below.refl wr.heap.size wr).alloc (Nat.le_refl _) _
    have k0 := cell_of_row (j := 0) _ _ _ _ _ (heap_alloc_new wr (.cells #[.string x.f0, .slice Ad x.f1.length cd, .int .i64 x.f2] 43 (0, 0)))
    have k1 := cell_of_row (j := 1) _ _ _ _ _ (heap_alloc_new wr (.cells #[.string x.f0, .slice Ad x.f1.length cd, .int .i64 x.f2] 43 (0, 0)))
    replace c0 := (hB0.cell (World.block_lt_of_cell? _ _ c0)).trans c0
    clear hB0
    generalize (wr.alloc (.cells #[.string x.f0, .slice Ad x.f1.length cd, .int .i64 x.f2] 43 (0, 0))) = wx at *
    have hn0 : ¬ (nn : Int) < 0 := by omega
    have hn1 : ¬ (nn : Int) > (cd : Int) := by omega
    go_still_tail 13, (by kernel_rfl)
    change wpList _ _ _ _ _ (World.drew _)
    clear c0 k0 k1
    generalize wx.drew = w3 at *
    have z0 := HE5.out.z0
    have z1 := HE5.out.z1
    have z2 := HE5.out.z2
    have fz0 := HE5.out.fz (j * 3)
    have fz1 := HE5.out.fz (j * 3 + 1)
    have fz2 := HE5.out.fz (j * 3 + 2)
    have hlen : (x.f1.take nn).length = nn := by rw [List.length_take]; have := HNL.out.1; omega
    have hdt := own_cut HE5.out.data nn HNL.out.1
    obtain ⟨hput, hgr⟩ := HE5.out.put 0 ⟨x.f0, x.f1.take nn, (nn : Int)⟩ [.string x.f0, .slice Ad nn cd, .int .i64 (nn : Int)] (Nat.le_refl 3) ⟨Int.natCast_nonneg _, by show (nn : Int) ≤ ((x.f1.take nn).length : Int); rw [hlen]; exact Int.le_refl _, by show (x.f1.take nn).length ≤ M; rw [hlen]; exact Nat.le_trans HNL.out.1 HNL.out.2.m, HNL.out.2.nm⟩ (k43_mkM w3 0 _ ⟨x.f0, x.f1.take nn, (nn : Int)⟩ hdt)
    have hWE : w3.setCells b (j * 3 + 0) [.string x.f0, .slice Ad nn cd, .int .i64 (nn : Int)] = ((w3.setCell ⟨b, j * 3, none⟩ (.string x.f0)).setCell ⟨b, j * 3 + 1, none⟩ (.slice Ad nn cd)).setCell ⟨b, j * 3 + 2, none⟩ (.int .i64 (nn : Int)) := rfl
    rw [hWE] at hput hgr
    have HF5 := Aside0.mk (And.intro hput (HX5.out.trans (Fr.of_grown (S := S) hgr (fun k hk => by cases hk; exact HE5.out.own)) (fun k hk => .inl hk)))
    clear hput hgr hWE hdt hlen HE5 HX5
    go_wp2_with fail
    refine ⟨⟨j + 1, _, ?_, by go_num, HF5⟩, by simp [intOf]; omega⟩
    rw [List.length_set]
    omega
end
end Go.Proofs.Ytcejkfjjildngaa
end

section
/- the laws of the disk: what comes in beside a disk -/
set_option linter.unusedVariables false
set_option linter.unusedSimpArgs false
set_option autoImplicit false
namespace Go.Proofs.Ytcejkfjjildngaa
open Go Go.RowKit Go.Proofs.YtcejkfjjildngaaW.PrintWords Go.Proofs.YtcejkfjjildngaaW.PrintLast Go.Proofs.YtcejkfjjildngaaW.PrintMore Go.Proofs.Ytcejkfjjildngaa.G

instance (l : List Int) : Decidable (u8s l) := inferInstanceAs (Decidable (∀ x ∈ l, 0 ≤ x ∧ x < 256))
theorem LS.weak {X : Nat → Prop} {w w1 W : World} {g : Nat} {D : DD} (h : LS X w1 W g D) (hb : Below w.heap.size w w1) : LS X w W g D := by
  obtain ⟨⟨S, h1, h2, h3⟩, h4, h5⟩ := h
  exact ⟨⟨S, h1, fun k hk => Nat.le_trans hb.size (h2 k hk), h3⟩, h4, hb.trans (h5.mono hb.size)⟩
theorem arg_held {X : Nat → Prop} {w W : World} {g : Nat} {D : DD} (h : LS X w W g D) {A : Option Addr} {l : List Int} (hC : (Kd.int .u8).C w A l.length l) : HeldB W (fun k => k ≠ g ∧ k < W.heap.size) A l := by
  have hg := h.g_ge
  have hs := h.bel.size
  exact ((HeldB.low hC).keep (fun k hk _ => h.bel.block k hk)).mono (fun k hk => ⟨by omega, Nat.lt_of_lt_of_le hk hs⟩)
theorem str_append (a b : List Int) : strOfNums (a ++ b) = strOfNums a ++ strOfNums b := by
  unfold strOfNums
  apply ByteArray.ext
  simp
theorem str_size (a : List Int) : (strOfNums a).size = a.length := by
  unfold strOfNums
  simp [ByteArray.size]
/-- a text that is two, as the conversions tell -/
theorem conv_cat {W : World} {Ax A0 A1 : Option Addr} {a b : List Int} (hx : (Kd.int .u8).C W Ax (a ++ b).length (a ++ b)) (ha : (Kd.int .u8).C W A0 a.length a) (hb : (Kd.int .u8).C W A1 b.length b) (cx c0 c1 : Nat) : ∃ sa sb : ByteArray, (sa.size = a.length ∧ sb.size = b.length) ∧
    (∀ k, (convert 22 9 (.slice Ax (a ++ b).length cx)).run Try.prog (W.drewN k) = .ok (.string (sa ++ sb)) (W.drewN k)) ∧ (∀ k, (convert 22 9 (.slice A0 a.length c0)).run Try.prog (W.drewN k) = .ok (.string sa) (W.drewN k)) ∧ (∀ k, (convert 22 9 (.slice A1 b.length c1)).run Try.prog (W.drewN k) = .ok (.string sb) (W.drewN k)) := by
  refine ⟨strOfNums a, strOfNums b, ⟨str_size a, str_size b⟩, fun k => ?_, fun k => ?_, fun k => ?_⟩
  · have h_ := Kd.C_string (P := Try.prog) (c := cx) Try.underlying22 Try.underlying5 Try.underlying9 (Kd.C_drewN hx k)
    rw [str_append] at h_
    exact h_
  · exact Kd.C_string (P := Try.prog) (c := c0) Try.underlying22 Try.underlying5 Try.underlying9 (Kd.C_drewN ha k)
  · exact Kd.C_string (P := Try.prog) (c := c1) Try.underlying22 Try.underlying5 Try.underlying9 (Kd.C_drewN hb k)
end Go.Proofs.Ytcejkfjjildngaa
end

section
/- the disk and the reference's beside it: what a deed leaves -/
set_option linter.unusedVariables false
set_option linter.unusedSimpArgs false
set_option autoImplicit false
namespace Go.Proofs.Ytcejkfjjildngaa
open Go Go.RowKit Go.Proofs.YtcejkfjjildngaaW.PrintWords Go.Proofs.YtcejkfjjildngaaW.PrintLast Go.Proofs.YtcejkfjjildngaaW.PrintMore Go.Proofs.Ytcejkfjjildngaa.G

/-- where a law stands that has both disks; X: blocks that are none of theirs -/
def DX (X : Nat → Prop) (w0 w : World) (g : Nat) (D : DD) (gx M N : Nat) : Prop := ∃ Sx : Nat → Prop, LS (fun k => X k ∨ Sx k) w0 w g D ∧ XR Sx w gx M N ∧ (∀ k, Sx k → w0.heap.size ≤ k) ∧ ∀ k, Sx k → ¬ X k
section
variable {X : Nat → Prop} {w0 w w' : World} {g gx M N : Nat} {D : DD}
theorem DX.bel (h : DX X w0 w g D gx M N) : Below w0.heap.size w0 w := by
  obtain ⟨Sx, h1, -⟩ := h
  exact h1.bel
theorem DX.ok (h : DX X w0 w g D gx M N) : DDOk D := by
  obtain ⟨Sx, h1, -⟩ := h
  exact h1.ok
theorem DX.ls (h : DX X w0 w g D gx M N) : LS X w0 w g D := by
  obtain ⟨Sx, ⟨⟨S, h1, h2, h3⟩, h4, h5⟩, -⟩ := h
  exact ⟨⟨S, h1, h2, fun k hk hx => h3 k hk (.inl hx)⟩, fun k hk => h4 k (.inl hk), h5⟩
theorem DX.low (h : DX X w0 w g D gx M N) : ∀ k, X k → k < w.heap.size := h.ls.low
theorem DX.notg (h : DX X w0 w g D gx M N) : ∀ k, X k → k ≠ g ∧ k ≠ gx := by
  obtain ⟨Sx, ⟨⟨S, h1, h2, h3⟩, h4, h5⟩, ⟨F, A, c, room, left, is, hx⟩, h6, h7⟩ := h
  exact fun k hk => ⟨fun e => h3 g h1.own (.inl (e ▸ hk)), fun e => h7 gx hx.own (e ▸ hk)⟩
theorem DX.onD (h : DX X w0 w g D gx M N) : ∃ Sx : Nat → Prop, LS (fun k => X k ∨ Sx k) w0 w g D ∧ ∀ w' D', LS (fun k => X k ∨ Sx k) w0 w' g D' → Keep (fun k => X k ∨ Sx k) w w' → DX X w0 w' g D' gx M N ∧ Keep X w w' := by
  obtain ⟨Sx, h1, ⟨F, A, c, room, left, is, hx⟩, h6, h7⟩ := h
  exact ⟨Sx, h1, fun w' D' hL hK => ⟨⟨Sx, hL, ⟨F, A, c, room, left, is, hx.keep (fun k hk => hK.2 k (.inr hk)) hK.1⟩, h6, h7⟩, hK.1, fun k hk => hK.2 k (.inl hk)⟩⟩
theorem DX.onX (h : DX X w0 w g D gx M N) : ∃ Sx F A c room left is, XP Sx w gx F A c room left is M N ∧ ∀ w' M' N', XAfter Sx w w' gx M' N' → DX X w0 w' g D gx M' N' ∧ Keep X w w' := by
  obtain ⟨Sx, ⟨⟨S, h1, h2, h3⟩, h4, h5⟩, ⟨F, A, c, room, left, is, hx⟩, h6, h7⟩ := h
  refine ⟨Sx, F, A, c, room, left, is, hx, fun w' M' N' ⟨S', hR, hF, hs⟩ => ⟨⟨S', ⟨⟨S, h1.apart hF (fun k hk hh => h3 k hk (.inr hh)), h2, fun k hk hh => ?_⟩, fun k hk => ?_, hF.below h5 h6⟩, hR, fun k hk => ?_, fun k hk hxk => ?_⟩, hF.size, fun k hk => hF.block k (h4 k (.inl hk)) (fun hh => h7 k hh hk)⟩⟩
  · rcases hh with hh | hh
    · exact h3 k hk (.inl hh)
    · rcases hs k hh with hh | hh
      · exact h3 k hk (.inr hh)
      · have := h1.bound k hk; omega
  · rcases hk with hk | hk
    · exact Nat.lt_of_lt_of_le (h4 k (.inl hk)) hF.size
    · obtain ⟨F', A', c', room', left', is', hx'⟩ := hR
      exact hx'.bound k hk
  · rcases hs k hk with hk | hk
    · exact h6 k hk
    · exact Nat.le_trans h5.size hk
  · rcases hs k hk with hk | hk
    · exact h7 k hk hxk
    · have := h4 k (.inl hxk); omega
theorem DX.below (h : DX X w0 w g D gx M N) (hb : Below w.heap.size w w') : DX X w0 w' g D gx M N := by
  obtain ⟨Sx, h1, ⟨F, A, c, room, left, is, hx⟩, h6, h7⟩ := h
  exact ⟨Sx, h1.below hb, ⟨F, A, c, room, left, is, hx.below hb⟩, h6, h7⟩
/-- behind a call that lays blocks alone: they may be kept -/
theorem DX.more (h : DX X w0 w g D gx M N) (hb : Below w.heap.size w w') : DX (fun k => X k ∨ (w.heap.size ≤ k ∧ k < w'.heap.size)) w0 w' g D gx M N := by
  obtain ⟨Sx, ⟨⟨S, h1, h2, h3⟩, h4, h5⟩, ⟨F, A, c, room, left, is, hx⟩, h6, h7⟩ := h
  refine ⟨Sx, ⟨⟨S, h1.below hb, h2, fun k hk hh => ?_⟩, fun k hk => ?_, h5.trans (hb.mono h5.size)⟩, ⟨F, A, c, room, left, is, hx.below hb⟩, h6, fun k hk hh => ?_⟩
  · rcases hh with (hh | hh) | hh
    · exact h3 k hk (.inl hh)
    · have := h1.bound k hk; omega
    · exact h3 k hk (.inr hh)
  · rcases hk with (hk | hk) | hk
    · exact Nat.lt_of_lt_of_le (h4 k (.inl hk)) hb.size
    · exact hk.2
    · exact Nat.lt_of_lt_of_le (hx.bound k hk) hb.size
  · rcases hh with hh | hh
    · exact h7 k hk hh
    · have := hx.bound k hk; omega
theorem DX.less {X' : Nat → Prop} (h : DX X w0 w g D gx M N) (hX : ∀ k, X' k → X k) : DX X' w0 w g D gx M N := by
  obtain ⟨Sx, ⟨⟨S, h1, h2, h3⟩, h4, h5⟩, hx, h6, h7⟩ := h
  exact ⟨Sx, ⟨⟨S, h1, h2, fun k hk hh => h3 k hk (hh.imp (hX k) id)⟩, fun k hk => h4 k (hk.imp (hX k) id), h5⟩, hx, h6, fun k hk hh => h7 k hk (hX k hh)⟩
theorem DX.weak (h : DX X w0 w g D gx M N) {M' N' : Nat} (hM : M ≤ M') (hN : N ≤ N') : DX X w0 w g D gx M' N' := by
  obtain ⟨Sx, h1, ⟨F, A, c, room, left, is, hx⟩, h6, h7⟩ := h
  exact ⟨Sx, h1, ⟨F, A, c, room, left, is, hx.weak hM hN⟩, h6, h7⟩
theorem DX.held (h : DX X w0 w g D gx M N) {A : Option Addr} {l : List Int} (hb : HeldB w X A l) : HeldB w (fun k => k ≠ g ∧ k < w.heap.size) A l ∧ HeldB w (fun k => k ≠ gx ∧ k < w.heap.size) A l :=
  ⟨hb.mono (fun k hk => ⟨(h.notg k hk).1, h.low k hk⟩), hb.mono (fun k hk => ⟨(h.notg k hk).2, h.low k hk⟩)⟩
theorem Keep.held {A : Option Addr} {l : List Int} (hK : Keep X w w') (hb : HeldB w X A l) : HeldB w' X A l := hb.keep (fun k _ hS => hK.2 k hS)
theorem Keep.less {X' : Nat → Prop} (hK : Keep X w w') (h : ∀ k, X' k → X k) : Keep X' w w' := ⟨hK.1, fun k hk => hK.2 k (h k hk)⟩
variable (h : DX X w0 w g D gx M N)
include h
theorem dWrite (n : ByteArray) (hn : n.size ≤ 1000) (Ab : Option Addr) (cb : Nat) (b : List Int) (hb : HeldB w X Ab b) (hcb : b.length ≤ cb) (hu : u8s b) (hlim : sumL D.fs + b.length ≤ 30000) :
    Calls Try.prog 12 #[.pointer (some ⟨g, 0, none⟩), .string n, .slice Ab b.length cb] w fun e w' => e = .returned (.int .i64 (D.lay n true b).1) ∧ DX X w0 w' g (D.lay n true b).2 gx M N ∧ Keep X w w' := by
  have hh := (h.held hb).1
  obtain ⟨Sx, hL, hf⟩ := h.onD
  exact (lWrite hL n hn Ab cb b hh hcb hu hlim rfl).mono (fun e w' ⟨e1, h1, h2⟩ => ⟨e1, hf w' _ h1 h2⟩)
theorem dAppend (n : ByteArray) (hn : n.size ≤ 1000) (Ab : Option Addr) (cb : Nat) (b : List Int) (hb : HeldB w X Ab b) (hcb : b.length ≤ cb) (hu : u8s b) (hlim : sumL D.fs + b.length ≤ 30000) :
    Calls Try.prog 23 #[.pointer (some ⟨g, 0, none⟩), .string n, .slice Ab b.length cb] w fun e w' => e = .returned (.int .i64 (D.lay n false b).1) ∧ DX X w0 w' g (D.lay n false b).2 gx M N ∧ Keep X w w' := by
  have hh := (h.held hb).1
  obtain ⟨Sx, hL, hf⟩ := h.onD
  exact (lAppend hL n hn Ab cb b hh hcb hu hlim rfl).mono (fun e w' ⟨e1, h1, h2⟩ => ⟨e1, hf w' _ h1 h2⟩)
theorem dSync (n : ByteArray) (hn : n.size ≤ 1000) :
    Calls Try.prog 13 #[.pointer (some ⟨g, 0, none⟩), .string n] w fun e w' => e = .returned (.int .i64 (D.sync n).1) ∧ DX X w0 w' g (D.sync n).2 gx M N ∧ Keep X w w' := by
  obtain ⟨Sx, hL, hf⟩ := h.onD
  exact (lSync hL n hn rfl).mono (fun e w' ⟨e1, h1, h2⟩ => ⟨e1, hf w' _ h1 h2⟩)
theorem dRemove (n : ByteArray) (hn : n.size ≤ 1000) :
    Calls Try.prog 25 #[.pointer (some ⟨g, 0, none⟩), .string n] w fun e w' => e = .returned (.int .i64 (D.remove n).1) ∧ DX X w0 w' g (D.remove n).2 gx M N ∧ Keep X w w' := by
  obtain ⟨Sx, hL, hf⟩ := h.onD
  exact (lRemove hL n hn rfl).mono (fun e w' ⟨e1, h1, h2⟩ => ⟨e1, hf w' _ h1 h2⟩)
theorem dRename (n nt : ByteArray) (hn : n.size ≤ 1000) :
    Calls Try.prog 24 #[.pointer (some ⟨g, 0, none⟩), .string n, .string nt] w fun e w' => e = .returned (.int .i64 (D.rename n nt).1) ∧ DX X w0 w' g (D.rename n nt).2 gx M N ∧ Keep X w w' := by
  obtain ⟨Sx, hL, hf⟩ := h.onD
  exact (lRename hL n nt hn rfl).mono (fun e w' ⟨e1, h1, h2⟩ => ⟨e1, hf w' _ h1 h2⟩)
theorem dKill (a : Int) (ha : a ≤ 9223372036854775807) :
    Calls Try.prog 22 #[.pointer (some ⟨g, 0, none⟩), .int .i64 a] w fun e w' => e = .returned (.tuple #[]) ∧ DX X w0 w' g { D with dies := true, left := max a 0 } gx M N ∧ Keep X w w' := by
  obtain ⟨Sx, hL, hf⟩ := h.onD
  exact (lKill hL a ha rfl).mono (fun e w' ⟨e1, h1, h2⟩ => ⟨e1, hf w' _ h1 h2⟩)
theorem dCrash (a : Int) (hl : sumL D.fs ≤ 100000) :
    Calls Try.prog 19 #[.pointer (some ⟨g, 0, none⟩), .int .i64 a] w fun e w' => e = .returned (.tuple #[]) ∧ DX X w0 w' g (D.crash a) gx M N ∧ Keep X w w' := by
  obtain ⟨Sx, hL, hf⟩ := h.onD
  exact (lCrash hL a hl rfl).mono (fun e w' ⟨e1, h1, h2⟩ => ⟨e1, hf w' _ h1 h2⟩)
theorem yWrite (n : ByteArray) (Ab : Option Addr) (cb : Nat) (b : List Int) (hb : HeldB w X Ab b) (hcb : b.length ≤ cb) (hN : N ≤ 1000000) (hM : M + b.length ≤ 1000000) :
    Calls Try.prog 14 #[.pointer (some ⟨gx, 0, none⟩), .string n, .slice Ab b.length cb] w fun e w' => IsInt e ∧ DX X w0 w' g D gx (M + b.length) (N + 1) ∧ Keep X w w' := by
  have hh := (h.held hb).2
  obtain ⟨Sx, F, A, c, room, left, is, hx, hf⟩ := h.onX
  exact (xWrite hx n Ab cb b hh hcb hN hM).mono (fun e w' ⟨e1, h1⟩ => ⟨e1, hf w' _ _ (h1.after hx.own)⟩)
theorem yAppend (n : ByteArray) (Ab : Option Addr) (cb : Nat) (b : List Int) (hb : HeldB w X Ab b) (hcb : b.length ≤ cb) (hN : N ≤ 1000000) (hM : M + b.length ≤ 1000000) :
    Calls Try.prog 33 #[.pointer (some ⟨gx, 0, none⟩), .string n, .slice Ab b.length cb] w fun e w' => IsInt e ∧ DX X w0 w' g D gx (M + b.length) (N + 1) ∧ Keep X w w' := by
  have hh := (h.held hb).2
  obtain ⟨Sx, F, A, c, room, left, is, hx, hf⟩ := h.onX
  exact (xAppend hx n Ab cb b hh hcb hN hM).mono (fun e w' ⟨e1, h1⟩ => ⟨e1, hf w' _ _ (h1.after hx.own)⟩)
theorem ySync (n : ByteArray) (hN : N ≤ 1000000) :
    Calls Try.prog 15 #[.pointer (some ⟨gx, 0, none⟩), .string n] w fun e w' => IsInt e ∧ DX X w0 w' g D gx M N ∧ Keep X w w' := by
  obtain ⟨Sx, F, A, c, room, left, is, hx, hf⟩ := h.onX
  exact (xSync hx n hN).mono (fun e w' ⟨e1, h1⟩ => ⟨e1, hf w' _ _ h1⟩)
theorem yRemove (n : ByteArray) (hN : N ≤ 1000000) :
    Calls Try.prog 34 #[.pointer (some ⟨gx, 0, none⟩), .string n] w fun e w' => IsInt e ∧ DX X w0 w' g D gx M N ∧ Keep X w w' := by
  obtain ⟨Sx, F, A, c, room, left, is, hx, hf⟩ := h.onX
  exact (xremove hx n hN).mono (fun e w' ⟨e1, h1⟩ => ⟨e1, hf w' _ _ (h1.after hx.own)⟩)
theorem yRename (n m : ByteArray) (hN : N ≤ 1000000) :
    Calls Try.prog 35 #[.pointer (some ⟨gx, 0, none⟩), .string n, .string m] w fun e w' => IsInt e ∧ DX X w0 w' g D gx M (N + 1) ∧ Keep X w w' := by
  obtain ⟨Sx, F, A, c, room, left, is, hx, hf⟩ := h.onX
  exact (xrename hx n m hN).mono (fun e w' ⟨e1, h1⟩ => ⟨e1, hf w' _ _ (h1.after hx.own)⟩)
theorem yKill (a : Int) (ha : a ≤ 9223372036854775807) :
    Calls Try.prog 36 #[.pointer (some ⟨gx, 0, none⟩), .int .i64 a] w fun e w' => e = .returned (.tuple #[]) ∧ DX X w0 w' g D gx M N ∧ Keep X w w' := by
  obtain ⟨Sx, F, A, c, room, left, is, hx, hf⟩ := h.onX
  exact (xkill hx a ha).mono (fun e w' ⟨e1, h1⟩ => ⟨e1, hf w' _ _ h1⟩)
theorem yCrash (a : Int) (hN : N ≤ 1000000) (hM : M ≤ 1000000) :
    Calls Try.prog 37 #[.pointer (some ⟨gx, 0, none⟩), .int .i64 a] w fun e w' => e = .returned (.tuple #[]) ∧ DX X w0 w' g D gx M N ∧ Keep X w w' := by
  obtain ⟨Sx, F, A, c, room, left, is, hx, hf⟩ := h.onX
  exact (xCrash hx a hN hM).mono (fun e w' ⟨e1, h1⟩ => ⟨e1, hf w' _ _ h1⟩)
end
/-- the reference's disk is made beside the disk -/
theorem DX.new {X : Nat → Prop} {w0 w : World} {g : Nat} {D : DD} (h : LS X w0 w g D) (r : Int) : Calls Try.prog 11 #[.int .i64 r] w fun e w' => ∃ gx, e = .returned (.pointer (some ⟨gx, 0, none⟩)) ∧ DX X w0 w' g D gx 0 0 ∧ Keep X w w' := by
  refine (xnew r w).mono ?_
  rintro e w' ⟨gx, rfl, hR, hB, hg⟩
  obtain ⟨⟨S, h1, h2, h3⟩, h4, h5⟩ := h
  have hgl : gx < w'.heap.size := by
    obtain ⟨F, A, c, room, left, is, hx⟩ := hR
    exact hx.bound gx hx.own
  refine ⟨gx, rfl, ⟨fun k => k = gx, ⟨⟨S, h1.below hB, h2, fun k hk hh => ?_⟩, fun k hk => ?_, h5.trans (hB.mono h5.size)⟩, hR, fun k hk => by subst hk; exact Nat.le_trans h5.size hg, fun k hk hx => by subst hk; have := h4 k hx; omega⟩, Keep.of_below hB h4⟩
  · rcases hh with hh | hh
    · exact h3 k hk hh
    · subst hh; have := h1.bound k hk; omega
  · rcases hk with hk | hk
    · exact Nat.lt_of_lt_of_le (h4 k hk) hB.size
    · subst hk; exact hgl
end Go.Proofs.Ytcejkfjjildngaa
end

section
/- Do: a deed at a disk, and at the reference's -/
set_option linter.unusedVariables false
set_option linter.unusedSimpArgs false
set_option autoImplicit false
namespace Go.Proofs.Ytcejkfjjildngaa
open Go Go.RowKit Go.Proofs.YtcejkfjjildngaaW.PrintWords Go.Proofs.YtcejkfjjildngaaW.PrintLast Go.Proofs.YtcejkfjjildngaaW.PrintMore Go.Proofs.Ytcejkfjjildngaa.G

def DD.act (D : DD) (a : S34) : DD :=
  if a.f0.tmod 7 = 0 then (D.lay a.f1 true a.f3).2
  else if a.f0.tmod 7 = 1 then (D.lay a.f1 false a.f3).2
  else if a.f0.tmod 7 = 2 then (D.sync a.f1).2
  else if a.f0.tmod 7 = 3 then (D.remove a.f1).2
  else if a.f0.tmod 7 = 4 then (D.rename a.f1 a.f2).2
  else if a.f0.tmod 7 = 5 then { D with dies := true, left := max a.f4 0 }
  else if a.f0.tmod 7 = 6 then D.crash a.f4
  else D
/-- in the deed: the box that holds it -/
structure DoS (X : Nat → Prop) (w0 w W : World) (g : Nat) (D : DD) (gx M N bx : Nat) (a : S34) (Ab : Option Addr) (cb : Nat) : Prop where
  d : DX (fun k => X k ∨ (w.heap.size ≤ k ∧ k < bx + 1)) w0 W g D gx M N
  e : bx = w.heap.size
  box : W.heap[bx]? = some (.cells #[.int .i64 a.f0, .string a.f1, .string a.f2, .slice Ab a.f3.length cb, .int .i64 a.f4] 34 (0, 0))
  held : HeldB W (fun k => X k ∨ (w.heap.size ≤ k ∧ k < bx + 1)) Ab a.f3
  k : Keep X w W
section
variable {X : Nat → Prop} {w0 w W W' : World} {g : Nat} {D D' : DD} {gx M N M' N' bx : Nat} {a : S34} {Ab : Option Addr} {cb : Nat}
theorem DoS.new (h : DX X w0 w g D gx M N) (hb : HeldB w X Ab a.f3) : DoS X w0 w (w.alloc (.cells #[.int .i64 a.f0, .string a.f1, .string a.f2, .slice Ab a.f3.length cb, .int .i64 a.f4] 34 (0, 0))) g D gx M N w.heap.size a Ab cb := by
  have hB : Below w.heap.size w (w.alloc (.cells #[.int .i64 a.f0, .string a.f1, .string a.f2, .slice Ab a.f3.length cb, .int .i64 a.f4] 34 (0, 0))) := (Below.refl w.heap.size w).alloc (Nat.le_refl _) _
  have hd := h.more hB
  rw [World.size_alloc] at hd
  exact ⟨hd, rfl, heap_alloc_new w _, (hb.below hB).mono (fun k hk => .inl hk), Keep.of_below hB h.low⟩
theorem DoS.after (h : DoS X w0 w W g D gx M N bx a Ab cb) (hd : DX (fun k => X k ∨ (w.heap.size ≤ k ∧ k < bx + 1)) w0 W' g D' gx M' N') (hk : Keep (fun k => X k ∨ (w.heap.size ≤ k ∧ k < bx + 1)) W W') : DoS X w0 w W' g D' gx M' N' bx a Ab cb :=
  ⟨hd, h.e, (hk.2 bx (.inr ⟨Nat.le_of_eq h.e.symm, Nat.lt_succ_self _⟩)).trans h.box, hk.held h.held, h.k.trans (hk.less (fun k hk => .inl hk))⟩
theorem DoS.below (h : DoS X w0 w W g D gx M N bx a Ab cb) (hb : Below W.heap.size W W') : DoS X w0 w W' g D gx M N bx a Ab cb := h.after (h.d.below hb) (Keep.of_below hb h.d.low)
theorem DoS.cells (h : DoS X w0 w W g D gx M N bx a Ab cb) : W.cell? ⟨bx, 0, none⟩ = some (.int .i64 a.f0) ∧ W.cell? ⟨bx, 1, none⟩ = some (.string a.f1) ∧ W.cell? ⟨bx, 2, none⟩ = some (.string a.f2) ∧ W.cell? ⟨bx, 3, none⟩ = some (.slice Ab a.f3.length cb) ∧ W.cell? ⟨bx, 4, none⟩ = some (.int .i64 a.f4) :=
  ⟨by rw [cell_of_row _ _ _ _ _ _ h.box]; rfl, by rw [cell_of_row _ _ _ _ _ _ h.box]; rfl, by rw [cell_of_row _ _ _ _ _ _ h.box]; rfl, by rw [cell_of_row _ _ _ _ _ _ h.box]; rfl, by rw [cell_of_row _ _ _ _ _ _ h.box]; rfl⟩
theorem DoS.out (h : DoS X w0 w W g D gx M N bx a Ab cb) (hM : M ≤ M') (hN : N ≤ N') : DX X w0 W g D gx M' N' ∧ Keep X w W := ⟨(h.d.less (fun k hk => .inl hk)).weak hM hN, h.k⟩
end
set_option maxRecDepth 100000 in
set_option maxHeartbeats 8000000 in
theorem wdo {X : Nat → Prop} {w0 w : World} {g : Nat} {D : DD} {gx M N : Nat} (h : DX X w0 w g D gx M N) (a : S34) (Ab : Option Addr) (cb : Nat) (hb : HeldB w X Ab a.f3) (hcb : a.f3.length ≤ cb) (hu : u8s a.f3) (hn : a.f1.size ≤ 1000)
    (hlim : sumL D.fs + a.f3.length ≤ 30000) (h4 : a.f4 ≤ 9223372036854775807) (hN : N ≤ 1000000) (hM : M + a.f3.length ≤ 1000000) :
    Calls Try.prog 16 #[.pointer (some ⟨g, 0, none⟩), .pointer (some ⟨gx, 0, none⟩), .agg #[.int .i64 a.f0, .string a.f1, .string a.f2, .slice Ab a.f3.length cb, .int .i64 a.f4]] w fun e w' => IsBool e ∧ DX X w0 w' g (D.act a) gx (M + a.f3.length) (N + 1) ∧ Keep X w w' := by
  have HB := Aside0.mk (DoS.new (cb := cb) h hb)
  have HC := Aside0.mk (And.intro hcb (And.intro hu (And.intro hn (And.intro hlim (And.intro h4 (And.intro hN hM))))))
  obtain ⟨D1, hD1⟩ : ∃ D1, D.act a = D1 := ⟨_, rfl⟩
  rw [hD1]
  unfold DD.act at hD1
  have HD := Aside0.mk hD1
  have hN1 : N ≤ N + 1 := Nat.le_succ N
  have hM1 : M ≤ M + a.f3.length := Nat.le_add_right _ _
  clear h hb hcb hu hlim h4 hn hM hD1
  have x0 := cell_of_row (j := 0) _ _ _ _ _ HB.out.box
  go_enter Try.func16, Try.ntmps16
  go_upto_region 2 with fail
  clear x0
  obtain ⟨bx, hbx⟩ : ∃ b, w.heap.size = b := ⟨_, rfl⟩
  rw [hbx] at HB ⊢
  generalize (w.alloc (.cells #[.int .i64 a.f0, .string a.f1, .string a.f2, .slice Ab a.f3.length cb, .int .i64 a.f4] 34 (0, 0))) = w1 at *
  clear hbx
  generalize hq : a.f0.tmod 7 = q at *
  clear hq
  by_cases hq0 : q = 0
  case pos =>
    subst hq0
    have hD1 := HD.out
    rw [if_pos rfl] at hD1
    subst hD1
    clear HD
    go_upto_region 3 with fail
    have HS := Aside0.mk (HB.out.below (drew_below w1))
    have HSc := Aside0.mk HS.out.cells
    clear HB
    refine wp_region_held_drew (S := (fun W => W.cell? ⟨bx, 0, none⟩ = some (.int .i64 a.f0) ∧ W.cell? ⟨bx, 1, none⟩ = some (.string a.f1) ∧ W.cell? ⟨bx, 2, none⟩ = some (.string a.f2) ∧ W.cell? ⟨bx, 3, none⟩ = some (.slice Ab a.f3.length cb) ∧ W.cell? ⟨bx, 4, none⟩ = some (.int .i64 a.f4))) (by kernel_rfl) HSc.out (fun hHeld => ?_)
    generalize w1.drew = wz at HS HSc hHeld ⊢
    refine wpAnyH_take (i := 0) (oi := { dst := some 12, op := Op.move (Operand.tmp 0), type := 26, pos := "law.go:23", after := #[], guard := none }) (v := ?_) rfl (by kernel_rfl) (by kernel_rfl) (by kernel_rfl) (fun _ _ _ h => h) (Or.inl ⟨by rfl, ?_⟩) (by assumption) ?_
    rotate_left
    · intro w hSw
      try dsimp only at hSw
      go_simp
      all_goals with_reducible rfl
    try simp only [Act.put, List.setIfInBounds_toArray, List.set_cons_zero, List.set_cons_succ]
    refine wpAnyH_take (i := 1) (oi := { dst := some 13, op := Op.fieldAddr 34 (Operand.tmp 5) 1, type := 0, pos := "law.go:23", after := #[], guard := none }) (v := ?_) rfl (by kernel_rfl) (by kernel_rfl) (by kernel_rfl) (fun _ _ _ h => h) (Or.inl ⟨by rfl, ?_⟩) (by assumption) ?_
    rotate_left
    · intro w hSw
      try dsimp only at hSw
      go_simp
      all_goals with_reducible rfl
    try simp only [Act.put, List.setIfInBounds_toArray, List.set_cons_zero, List.set_cons_succ]
    refine wpAnyH_take (i := 2) (oi := { dst := some 14, op := Op.load 9 (Operand.tmp 13), type := 9, pos := "law.go:23", after := #[{ on := 1, ground := Ground.data }], guard := none }) (v := ?_) rfl (by kernel_rfl) (by kernel_rfl) (by kernel_rfl) (fun _ _ _ h => h) (Or.inl ⟨by rfl, ?_⟩) (by assumption) ?_
    rotate_left
    · intro w hSw
      try dsimp only at hSw
      go_simp
      all_goals with_reducible rfl
    try simp only [Act.put, List.setIfInBounds_toArray, List.set_cons_zero, List.set_cons_succ]
    refine wpAnyH_take (i := 3) (oi := { dst := some 15, op := Op.fieldAddr 34 (Operand.tmp 5) 3, type := 0, pos := "law.go:23", after := #[], guard := none }) (v := ?_) rfl (by kernel_rfl) (by kernel_rfl) (by kernel_rfl) (fun _ _ _ h => h) (Or.inl ⟨by rfl, ?_⟩) (by assumption) ?_
    rotate_left
    · intro w hSw
      try dsimp only at hSw
      go_simp
      all_goals with_reducible rfl
    try simp only [Act.put, List.setIfInBounds_toArray, List.set_cons_zero, List.set_cons_succ]
    refine wpAnyH_take (i := 4) (oi := { dst := some 16, op := Op.load 22 (Operand.tmp 15), type := 22, pos := "law.go:23", after := #[{ on := 3, ground := Ground.data }], guard := none }) (v := ?_) rfl (by kernel_rfl) (by kernel_rfl) (by kernel_rfl) (fun _ _ _ h => h) (Or.inl ⟨by rfl, ?_⟩) (by assumption) ?_
    rotate_left
    · intro w hSw
      try dsimp only at hSw
      go_simp
      all_goals with_reducible rfl
    try simp only [Act.put, List.setIfInBounds_toArray, List.set_cons_zero, List.set_cons_succ]
    refine wpAnyH_take (i := 6) (oi := { dst := some 18, op := Op.move (Operand.tmp 1), type := 28, pos := "law.go:23", after := #[], guard := none }) (v := ?_) rfl (by kernel_rfl) (by kernel_rfl) (by kernel_rfl) (fun _ _ _ h => h) (Or.inl ⟨by rfl, ?_⟩) (by assumption) ?_
    rotate_left
    · intro w hSw
      try dsimp only at hSw
      go_simp
      all_goals with_reducible rfl
    try simp only [Act.put, List.setIfInBounds_toArray, List.set_cons_zero, List.set_cons_succ]
    refine wpAnyH_take (i := 7) (oi := { dst := some 19, op := Op.fieldAddr 34 (Operand.tmp 5) 1, type := 0, pos := "law.go:23", after := #[], guard := none }) (v := ?_) rfl (by kernel_rfl) (by kernel_rfl) (by kernel_rfl) (fun _ _ _ h => h) (Or.inl ⟨by rfl, ?_⟩) (by assumption) ?_
    rotate_left
    · intro w hSw
      try dsimp only at hSw
      go_simp
      all_goals with_reducible rfl
    try simp only [Act.put, List.setIfInBounds_toArray, List.set_cons_zero, List.set_cons_succ]
    refine wpAnyH_take (i := 8) (oi := { dst := some 20, op := Op.load 9 (Operand.tmp 19), type := 9, pos := "law.go:23", after := #[{ on := 7, ground := Ground.data }], guard := none }) (v := ?_) rfl (by kernel_rfl) (by kernel_rfl) (by kernel_rfl) (fun _ _ _ h => h) (Or.inl ⟨by rfl, ?_⟩) (by assumption) ?_
    rotate_left
    · intro w hSw
      try dsimp only at hSw
      go_simp
      all_goals with_reducible rfl
    try simp only [Act.put, List.setIfInBounds_toArray, List.set_cons_zero, List.set_cons_succ]
    refine wpAnyH_take (i := 9) (oi := { dst := some 21, op := Op.fieldAddr 34 (Operand.tmp 5) 3, type := 0, pos := "law.go:23", after := #[], guard := none }) (v := ?_) rfl (by kernel_rfl) (by kernel_rfl) (by kernel_rfl) (fun _ _ _ h => h) (Or.inl ⟨by rfl, ?_⟩) (by assumption) ?_
    rotate_left
    · intro w hSw
      try dsimp only at hSw
      go_simp
      all_goals with_reducible rfl
    try simp only [Act.put, List.setIfInBounds_toArray, List.set_cons_zero, List.set_cons_succ]
    refine wpAnyH_take (i := 10) (oi := { dst := some 22, op := Op.load 22 (Operand.tmp 21), type := 22, pos := "law.go:23", after := #[{ on := 9, ground := Ground.data }], guard := none }) (v := ?_) rfl (by kernel_rfl) (by kernel_rfl) (by kernel_rfl) (fun _ _ _ h => h) (Or.inl ⟨by rfl, ?_⟩) (by assumption) ?_
    rotate_left
    · intro w hSw
      try dsimp only at hSw
      go_simp
      all_goals with_reducible rfl
    try simp only [Act.put, List.setIfInBounds_toArray, List.set_cons_zero, List.set_cons_succ]
    refine wpAnyH_ready (rs := [5]) (by kernel_rfl) (by simp) ?_
    refine AllReadyH.cons (o := { dst := some 17, op := Op.call { callee := Callee.value (Operand.func 12), args := #[Operand.tmp 12, Operand.tmp 14, Operand.tmp 16], argTypes := #[26, 9, 22] }, type := 30, pos := "law.go:23", after := #[{ on := 0, ground := Ground.data }, { on := 2, ground := Ground.data }, { on := 4, ground := Ground.data }], guard := none }) rfl (fun K hK => ?_) AllReadyH.nil
    (go_simp; refine (dWrite HS.out.d a.f1 HC.out.2.2.1 Ab cb a.f3 HS.out.held HC.out.1 HC.out.2.1 HC.out.2.2.2.1).mono ?_; rintro e wx ⟨rfl, hd, hk⟩; have HT := Aside0.mk (HS.out.after hd hk); clear HS HSc hd hk; have HSc := Aside0.mk HT.out.cells; go_wp2_with fail)
    refine hK.out _ _ HSc.out (fun hHeld => ?_)
    clear hK K
    try simp only [Act.put, List.setIfInBounds_toArray, List.set_cons_zero, List.set_cons_succ]
    refine wpAnyH_ready (rs := [11]) (by kernel_rfl) (by simp) ?_
    refine AllReadyH.cons (o := { dst := some 23, op := Op.call { callee := Callee.value (Operand.func 14), args := #[Operand.tmp 18, Operand.tmp 20, Operand.tmp 22], argTypes := #[28, 9, 22] }, type := 30, pos := "law.go:23", after := #[{ on := 6, ground := Ground.data }, { on := 8, ground := Ground.data }, { on := 10, ground := Ground.data }, { on := 5, ground := Ground.chain }], guard := none }) rfl (fun K hK => ?_) AllReadyH.nil
    (go_simp; refine (yWrite HT.out.d a.f1 Ab cb a.f3 HT.out.held HC.out.1 HC.out.2.2.2.2.2.1 HC.out.2.2.2.2.2.2).mono ?_; rintro e wy ⟨⟨yi, rfl⟩, hd, hk⟩; have HU := Aside0.mk (HT.out.after hd hk); clear HT HSc hd hk; have HSc := Aside0.mk HU.out.cells; go_wp2_with fail)
    refine hK.out _ _ HSc.out (fun hHeld => ?_)
    clear hK K
    try simp only [Act.put, List.setIfInBounds_toArray, List.set_cons_zero, List.set_cons_succ]
    refine wpAnyH_take (i := 12) (oi := { dst := some 24, op := Op.binOp BinOp.eql 30 (Operand.tmp 17) (Operand.tmp 23) 30, type := 4, pos := "law.go:23", after := #[{ on := 5, ground := Ground.data }, { on := 11, ground := Ground.data }], guard := none }) (v := ?_) rfl (by kernel_rfl) (by kernel_rfl) (by kernel_rfl) (fun _ _ _ h => h) (Or.inl ⟨by rfl, ?_⟩) (by assumption) ?_
    rotate_left
    · intro w hSw
      try dsimp only at hSw
      go_simp
      all_goals with_reducible rfl
    try simp only [Act.put, List.setIfInBounds_toArray, List.set_cons_zero, List.set_cons_succ]
    refine wpAnyH_take (i := 13) (oi := { dst := some 6, op := Op.assign (Operand.tmp 24), type := 4, pos := "law.go:23", after := #[{ on := 12, ground := Ground.data }, { on := 11, ground := Ground.chain }, { on := 0, ground := Ground.phase }, { on := 1, ground := Ground.phase }, { on := 2, ground := Ground.phase }, { on := 3, ground := Ground.phase }, { on := 4, ground := Ground.phase }, { on := 5, ground := Ground.phase }, { on := 6, ground := Ground.phase }, { on := 7, ground := Ground.phase }, { on := 8, ground := Ground.phase }, { on := 9, ground := Ground.phase }, { on := 10, ground := Ground.phase }, { on := 11, ground := Ground.phase }, { on := 12, ground := Ground.phase }], guard := none }) (v := ?_) rfl (by kernel_rfl) (by kernel_rfl) (by kernel_rfl) (fun _ _ _ h => h) (Or.inl ⟨by rfl, ?_⟩) (by assumption) ?_
    rotate_left
    · intro w hSw
      try dsimp only at hSw
      go_simp
      all_goals with_reducible rfl
    try simp only [Act.put, List.setIfInBounds_toArray, List.set_cons_zero, List.set_cons_succ]
    refine wpAnyH_done (by kernel_rfl) ?_ _
    go_wp2_with fail
    go_ret
    exact ⟨⟨_, rfl⟩, HU.out.out (Nat.le_refl _) (Nat.le_refl _)⟩
  by_cases hq1 : q = 1
  case pos =>
    subst hq1
    have hD1 := HD.out
    rw [if_neg (by decide), if_pos rfl] at hD1
    subst hD1
    clear HD
    go_upto_region 5 with fail
    have HS := Aside0.mk (HB.out.below (drew_below w1))
    have HSc := Aside0.mk HS.out.cells
    clear HB
    refine wp_region_held_drew (S := (fun W => W.cell? ⟨bx, 0, none⟩ = some (.int .i64 a.f0) ∧ W.cell? ⟨bx, 1, none⟩ = some (.string a.f1) ∧ W.cell? ⟨bx, 2, none⟩ = some (.string a.f2) ∧ W.cell? ⟨bx, 3, none⟩ = some (.slice Ab a.f3.length cb) ∧ W.cell? ⟨bx, 4, none⟩ = some (.int .i64 a.f4))) (by kernel_rfl) HSc.out (fun hHeld => ?_)
    generalize w1.drew = wz at HS HSc hHeld ⊢
    refine wpAnyH_take (i := 0) (oi := { dst := some 27, op := Op.move (Operand.tmp 0), type := 26, pos := "law.go:25", after := #[], guard := none }) (v := ?_) rfl (by kernel_rfl) (by kernel_rfl) (by kernel_rfl) (fun _ _ _ h => h) (Or.inl ⟨by rfl, ?_⟩) (by assumption) ?_
    rotate_left
    · intro w hSw
      try dsimp only at hSw
      go_simp
      all_goals with_reducible rfl
    try simp only [Act.put, List.setIfInBounds_toArray, List.set_cons_zero, List.set_cons_succ]
    refine wpAnyH_take (i := 1) (oi := { dst := some 28, op := Op.fieldAddr 34 (Operand.tmp 5) 1, type := 0, pos := "law.go:25", after := #[], guard := none }) (v := ?_) rfl (by kernel_rfl) (by kernel_rfl) (by kernel_rfl) (fun _ _ _ h => h) (Or.inl ⟨by rfl, ?_⟩) (by assumption) ?_
    rotate_left
    · intro w hSw
      try dsimp only at hSw
      go_simp
      all_goals with_reducible rfl
    try simp only [Act.put, List.setIfInBounds_toArray, List.set_cons_zero, List.set_cons_succ]
    refine wpAnyH_take (i := 2) (oi := { dst := some 29, op := Op.load 9 (Operand.tmp 28), type := 9, pos := "law.go:25", after := #[{ on := 1, ground := Ground.data }], guard := none }) (v := ?_) rfl (by kernel_rfl) (by kernel_rfl) (by kernel_rfl) (fun _ _ _ h => h) (Or.inl ⟨by rfl, ?_⟩) (by assumption) ?_
    rotate_left
    · intro w hSw
      try dsimp only at hSw
      go_simp
      all_goals with_reducible rfl
    try simp only [Act.put, List.setIfInBounds_toArray, List.set_cons_zero, List.set_cons_succ]
    refine wpAnyH_take (i := 3) (oi := { dst := some 30, op := Op.fieldAddr 34 (Operand.tmp 5) 3, type := 0, pos := "law.go:25", after := #[], guard := none }) (v := ?_) rfl (by kernel_rfl) (by kernel_rfl) (by kernel_rfl) (fun _ _ _ h => h) (Or.inl ⟨by rfl, ?_⟩) (by assumption) ?_
    rotate_left
    · intro w hSw
      try dsimp only at hSw
      go_simp
      all_goals with_reducible rfl
    try simp only [Act.put, List.setIfInBounds_toArray, List.set_cons_zero, List.set_cons_succ]
    refine wpAnyH_take (i := 4) (oi := { dst := some 31, op := Op.load 22 (Operand.tmp 30), type := 22, pos := "law.go:25", after := #[{ on := 3, ground := Ground.data }], guard := none }) (v := ?_) rfl (by kernel_rfl) (by kernel_rfl) (by kernel_rfl) (fun _ _ _ h => h) (Or.inl ⟨by rfl, ?_⟩) (by assumption) ?_
    rotate_left
    · intro w hSw
      try dsimp only at hSw
      go_simp
      all_goals with_reducible rfl
    try simp only [Act.put, List.setIfInBounds_toArray, List.set_cons_zero, List.set_cons_succ]
    refine wpAnyH_take (i := 6) (oi := { dst := some 33, op := Op.move (Operand.tmp 1), type := 28, pos := "law.go:25", after := #[], guard := none }) (v := ?_) rfl (by kernel_rfl) (by kernel_rfl) (by kernel_rfl) (fun _ _ _ h => h) (Or.inl ⟨by rfl, ?_⟩) (by assumption) ?_
    rotate_left
    · intro w hSw
      try dsimp only at hSw
      go_simp
      all_goals with_reducible rfl
    try simp only [Act.put, List.setIfInBounds_toArray, List.set_cons_zero, List.set_cons_succ]
    refine wpAnyH_take (i := 7) (oi := { dst := some 34, op := Op.fieldAddr 34 (Operand.tmp 5) 1, type := 0, pos := "law.go:25", after := #[], guard := none }) (v := ?_) rfl (by kernel_rfl) (by kernel_rfl) (by kernel_rfl) (fun _ _ _ h => h) (Or.inl ⟨by rfl, ?_⟩) (by assumption) ?_
    rotate_left
    · intro w hSw
      try dsimp only at hSw
      go_simp
      all_goals with_reducible rfl
    try simp only [Act.put, List.setIfInBounds_toArray, List.set_cons_zero, List.set_cons_succ]
    refine wpAnyH_take (i := 8) (oi := { dst := some 35, op := Op.load 9 (Operand.tmp 34), type := 9, pos := "law.go:25", after := #[{ on := 7, ground := Ground.data }], guard := none }) (v := ?_) rfl (by kernel_rfl) (by kernel_rfl) (by kernel_rfl) (fun _ _ _ h => h) (Or.inl ⟨by rfl, ?_⟩) (by assumption) ?_
    rotate_left
    · intro w hSw
      try dsimp only at hSw
      go_simp
      all_goals with_reducible rfl
    try simp only [Act.put, List.setIfInBounds_toArray, List.set_cons_zero, List.set_cons_succ]
    refine wpAnyH_take (i := 9) (oi := { dst := some 36, op := Op.fieldAddr 34 (Operand.tmp 5) 3, type := 0, pos := "law.go:25", after := #[], guard := none }) (v := ?_) rfl (by kernel_rfl) (by kernel_rfl) (by kernel_rfl) (fun _ _ _ h => h) (Or.inl ⟨by rfl, ?_⟩) (by assumption) ?_
    rotate_left
    · intro w hSw
      try dsimp only at hSw
      go_simp
      all_goals with_reducible rfl
    try simp only [Act.put, List.setIfInBounds_toArray, List.set_cons_zero, List.set_cons_succ]
    refine wpAnyH_take (i := 10) (oi := { dst := some 37, op := Op.load 22 (Operand.tmp 36), type := 22, pos := "law.go:25", after := #[{ on := 9, ground := Ground.data }], guard := none }) (v := ?_) rfl (by kernel_rfl) (by kernel_rfl) (by kernel_rfl) (fun _ _ _ h => h) (Or.inl ⟨by rfl, ?_⟩) (by assumption) ?_
    rotate_left
    · intro w hSw
      try dsimp only at hSw
      go_simp
      all_goals with_reducible rfl
    try simp only [Act.put, List.setIfInBounds_toArray, List.set_cons_zero, List.set_cons_succ]
    refine wpAnyH_ready (rs := [5]) (by kernel_rfl) (by simp) ?_
    refine AllReadyH.cons (o := { dst := some 32, op := Op.call { callee := Callee.value (Operand.func 23), args := #[Operand.tmp 27, Operand.tmp 29, Operand.tmp 31], argTypes := #[26, 9, 22] }, type := 30, pos := "law.go:25", after := #[{ on := 0, ground := Ground.data }, { on := 2, ground := Ground.data }, { on := 4, ground := Ground.data }], guard := none }) rfl (fun K hK => ?_) AllReadyH.nil
    (go_simp; refine (dAppend HS.out.d a.f1 HC.out.2.2.1 Ab cb a.f3 HS.out.held HC.out.1 HC.out.2.1 HC.out.2.2.2.1).mono ?_; rintro e wx ⟨rfl, hd, hk⟩; have HT := Aside0.mk (HS.out.after hd hk); clear HS HSc hd hk; have HSc := Aside0.mk HT.out.cells; go_wp2_with fail)
    refine hK.out _ _ HSc.out (fun hHeld => ?_)
    clear hK K
    try simp only [Act.put, List.setIfInBounds_toArray, List.set_cons_zero, List.set_cons_succ]
    refine wpAnyH_ready (rs := [11]) (by kernel_rfl) (by simp) ?_
    refine AllReadyH.cons (o := { dst := some 38, op := Op.call { callee := Callee.value (Operand.func 33), args := #[Operand.tmp 33, Operand.tmp 35, Operand.tmp 37], argTypes := #[28, 9, 22] }, type := 30, pos := "law.go:25", after := #[{ on := 6, ground := Ground.data }, { on := 8, ground := Ground.data }, { on := 10, ground := Ground.data }, { on := 5, ground := Ground.chain }], guard := none }) rfl (fun K hK => ?_) AllReadyH.nil
    (go_simp; refine (yAppend HT.out.d a.f1 Ab cb a.f3 HT.out.held HC.out.1 HC.out.2.2.2.2.2.1 HC.out.2.2.2.2.2.2).mono ?_; rintro e wy ⟨⟨yi, rfl⟩, hd, hk⟩; have HU := Aside0.mk (HT.out.after hd hk); clear HT HSc hd hk; have HSc := Aside0.mk HU.out.cells; go_wp2_with fail)
    refine hK.out _ _ HSc.out (fun hHeld => ?_)
    clear hK K
    try simp only [Act.put, List.setIfInBounds_toArray, List.set_cons_zero, List.set_cons_succ]
    refine wpAnyH_take (i := 12) (oi := { dst := some 39, op := Op.binOp BinOp.eql 30 (Operand.tmp 32) (Operand.tmp 38) 30, type := 4, pos := "law.go:25", after := #[{ on := 5, ground := Ground.data }, { on := 11, ground := Ground.data }], guard := none }) (v := ?_) rfl (by kernel_rfl) (by kernel_rfl) (by kernel_rfl) (fun _ _ _ h => h) (Or.inl ⟨by rfl, ?_⟩) (by assumption) ?_
    rotate_left
    · intro w hSw
      try dsimp only at hSw
      go_simp
      all_goals with_reducible rfl
    try simp only [Act.put, List.setIfInBounds_toArray, List.set_cons_zero, List.set_cons_succ]
    refine wpAnyH_take (i := 13) (oi := { dst := some 6, op := Op.assign (Operand.tmp 39), type := 4, pos := "law.go:25", after := #[{ on := 12, ground := Ground.data }, { on := 11, ground := Ground.chain }, { on := 0, ground := Ground.phase }, { on := 1, ground := Ground.phase }, { on := 2, ground := Ground.phase }, { on := 3, ground := Ground.phase }, { on := 4, ground := Ground.phase }, { on := 5, ground := Ground.phase }, { on := 6, ground := Ground.phase }, { on := 7, ground := Ground.phase }, { on := 8, ground := Ground.phase }, { on := 9, ground := Ground.phase }, { on := 10, ground := Ground.phase }, { on := 11, ground := Ground.phase }, { on := 12, ground := Ground.phase }], guard := none }) (v := ?_) rfl (by kernel_rfl) (by kernel_rfl) (by kernel_rfl) (fun _ _ _ h => h) (Or.inl ⟨by rfl, ?_⟩) (by assumption) ?_
    rotate_left
    · intro w hSw
      try dsimp only at hSw
      go_simp
      all_goals with_reducible rfl
    try simp only [Act.put, List.setIfInBounds_toArray, List.set_cons_zero, List.set_cons_succ]
    refine wpAnyH_done (by kernel_rfl) ?_ _
    go_wp2_with fail
    go_ret
    exact ⟨⟨_, rfl⟩, HU.out.out (Nat.le_refl _) (Nat.le_refl _)⟩
  by_cases hq2 : q = 2
  case pos =>
    subst hq2
    have hD1 := HD.out
    rw [if_neg (by decide), if_neg (by decide), if_pos rfl] at hD1
    subst hD1
    clear HD
    go_upto_region 7 with fail
    have HS := Aside0.mk (HB.out.below (drew_below w1))
    have HSc := Aside0.mk HS.out.cells
    clear HB
    refine wp_region_held_drew (S := (fun W => W.cell? ⟨bx, 0, none⟩ = some (.int .i64 a.f0) ∧ W.cell? ⟨bx, 1, none⟩ = some (.string a.f1) ∧ W.cell? ⟨bx, 2, none⟩ = some (.string a.f2) ∧ W.cell? ⟨bx, 3, none⟩ = some (.slice Ab a.f3.length cb) ∧ W.cell? ⟨bx, 4, none⟩ = some (.int .i64 a.f4))) (by kernel_rfl) HSc.out (fun hHeld => ?_)
    generalize w1.drew = wz at HS HSc hHeld ⊢
    refine wpAnyH_take (i := 0) (oi := { dst := some 42, op := Op.move (Operand.tmp 0), type := 26, pos := "law.go:27", after := #[], guard := none }) (v := ?_) rfl (by kernel_rfl) (by kernel_rfl) (by kernel_rfl) (fun _ _ _ h => h) (Or.inl ⟨by rfl, ?_⟩) (by assumption) ?_
    rotate_left
    · intro w hSw
      try dsimp only at hSw
      go_simp
      all_goals with_reducible rfl
    try simp only [Act.put, List.setIfInBounds_toArray, List.set_cons_zero, List.set_cons_succ]
    refine wpAnyH_take (i := 1) (oi := { dst := some 43, op := Op.fieldAddr 34 (Operand.tmp 5) 1, type := 0, pos := "law.go:27", after := #[], guard := none }) (v := ?_) rfl (by kernel_rfl) (by kernel_rfl) (by kernel_rfl) (fun _ _ _ h => h) (Or.inl ⟨by rfl, ?_⟩) (by assumption) ?_
    rotate_left
    · intro w hSw
      try dsimp only at hSw
      go_simp
      all_goals with_reducible rfl
    try simp only [Act.put, List.setIfInBounds_toArray, List.set_cons_zero, List.set_cons_succ]
    refine wpAnyH_take (i := 2) (oi := { dst := some 44, op := Op.load 9 (Operand.tmp 43), type := 9, pos := "law.go:27", after := #[{ on := 1, ground := Ground.data }], guard := none }) (v := ?_) rfl (by kernel_rfl) (by kernel_rfl) (by kernel_rfl) (fun _ _ _ h => h) (Or.inl ⟨by rfl, ?_⟩) (by assumption) ?_
    rotate_left
    · intro w hSw
      try dsimp only at hSw
      go_simp
      all_goals with_reducible rfl
    try simp only [Act.put, List.setIfInBounds_toArray, List.set_cons_zero, List.set_cons_succ]
    refine wpAnyH_take (i := 4) (oi := { dst := some 46, op := Op.move (Operand.tmp 1), type := 28, pos := "law.go:27", after := #[], guard := none }) (v := ?_) rfl (by kernel_rfl) (by kernel_rfl) (by kernel_rfl) (fun _ _ _ h => h) (Or.inl ⟨by rfl, ?_⟩) (by assumption) ?_
    rotate_left
    · intro w hSw
      try dsimp only at hSw
      go_simp
      all_goals with_reducible rfl
    try simp only [Act.put, List.setIfInBounds_toArray, List.set_cons_zero, List.set_cons_succ]
    refine wpAnyH_take (i := 5) (oi := { dst := some 47, op := Op.fieldAddr 34 (Operand.tmp 5) 1, type := 0, pos := "law.go:27", after := #[], guard := none }) (v := ?_) rfl (by kernel_rfl) (by kernel_rfl) (by kernel_rfl) (fun _ _ _ h => h) (Or.inl ⟨by rfl, ?_⟩) (by assumption) ?_
    rotate_left
    · intro w hSw
      try dsimp only at hSw
      go_simp
      all_goals with_reducible rfl
    try simp only [Act.put, List.setIfInBounds_toArray, List.set_cons_zero, List.set_cons_succ]
    refine wpAnyH_take (i := 6) (oi := { dst := some 48, op := Op.load 9 (Operand.tmp 47), type := 9, pos := "law.go:27", after := #[{ on := 5, ground := Ground.data }], guard := none }) (v := ?_) rfl (by kernel_rfl) (by kernel_rfl) (by kernel_rfl) (fun _ _ _ h => h) (Or.inl ⟨by rfl, ?_⟩) (by assumption) ?_
    rotate_left
    · intro w hSw
      try dsimp only at hSw
      go_simp
      all_goals with_reducible rfl
    try simp only [Act.put, List.setIfInBounds_toArray, List.set_cons_zero, List.set_cons_succ]
    refine wpAnyH_ready (rs := [3]) (by kernel_rfl) (by simp) ?_
    refine AllReadyH.cons (o := { dst := some 45, op := Op.call { callee := Callee.value (Operand.func 13), args := #[Operand.tmp 42, Operand.tmp 44], argTypes := #[26, 9] }, type := 30, pos := "law.go:27", after := #[{ on := 0, ground := Ground.data }, { on := 2, ground := Ground.data }], guard := none }) rfl (fun K hK => ?_) AllReadyH.nil
    (go_simp; refine (dSync HS.out.d a.f1 HC.out.2.2.1).mono ?_; rintro e wx ⟨rfl, hd, hk⟩; have HT := Aside0.mk (HS.out.after hd hk); clear HS HSc hd hk; have HSc := Aside0.mk HT.out.cells; go_wp2_with fail)
    refine hK.out _ _ HSc.out (fun hHeld => ?_)
    clear hK K
    try simp only [Act.put, List.setIfInBounds_toArray, List.set_cons_zero, List.set_cons_succ]
    refine wpAnyH_ready (rs := [7]) (by kernel_rfl) (by simp) ?_
    refine AllReadyH.cons (o := { dst := some 49, op := Op.call { callee := Callee.value (Operand.func 15), args := #[Operand.tmp 46, Operand.tmp 48], argTypes := #[28, 9] }, type := 30, pos := "law.go:27", after := #[{ on := 4, ground := Ground.data }, { on := 6, ground := Ground.data }, { on := 3, ground := Ground.chain }], guard := none }) rfl (fun K hK => ?_) AllReadyH.nil
    (go_simp; refine (ySync HT.out.d a.f1 HC.out.2.2.2.2.2.1).mono ?_; rintro e wy ⟨⟨yi, rfl⟩, hd, hk⟩; have HU := Aside0.mk (HT.out.after hd hk); clear HT HSc hd hk; have HSc := Aside0.mk HU.out.cells; go_wp2_with fail)
    refine hK.out _ _ HSc.out (fun hHeld => ?_)
    clear hK K
    try simp only [Act.put, List.setIfInBounds_toArray, List.set_cons_zero, List.set_cons_succ]
    refine wpAnyH_take (i := 8) (oi := { dst := some 50, op := Op.binOp BinOp.eql 30 (Operand.tmp 45) (Operand.tmp 49) 30, type := 4, pos := "law.go:27", after := #[{ on := 3, ground := Ground.data }, { on := 7, ground := Ground.data }], guard := none }) (v := ?_) rfl (by kernel_rfl) (by kernel_rfl) (by kernel_rfl) (fun _ _ _ h => h) (Or.inl ⟨by rfl, ?_⟩) (by assumption) ?_
    rotate_left
    · intro w hSw
      try dsimp only at hSw
      go_simp
      all_goals with_reducible rfl
    try simp only [Act.put, List.setIfInBounds_toArray, List.set_cons_zero, List.set_cons_succ]
    refine wpAnyH_take (i := 9) (oi := { dst := some 6, op := Op.assign (Operand.tmp 50), type := 4, pos := "law.go:27", after := #[{ on := 8, ground := Ground.data }, { on := 7, ground := Ground.chain }, { on := 0, ground := Ground.phase }, { on := 1, ground := Ground.phase }, { on := 2, ground := Ground.phase }, { on := 3, ground := Ground.phase }, { on := 4, ground := Ground.phase }, { on := 5, ground := Ground.phase }, { on := 6, ground := Ground.phase }, { on := 7, ground := Ground.phase }, { on := 8, ground := Ground.phase }], guard := none }) (v := ?_) rfl (by kernel_rfl) (by kernel_rfl) (by kernel_rfl) (fun _ _ _ h => h) (Or.inl ⟨by rfl, ?_⟩) (by assumption) ?_
    rotate_left
    · intro w hSw
      try dsimp only at hSw
      go_simp
      all_goals with_reducible rfl
    try simp only [Act.put, List.setIfInBounds_toArray, List.set_cons_zero, List.set_cons_succ]
    refine wpAnyH_done (by kernel_rfl) ?_ _
    go_wp2_with fail
    go_ret
    exact ⟨⟨_, rfl⟩, HU.out.out hM1 hN1⟩
  by_cases hq3 : q = 3
  case pos =>
    subst hq3
    have hD1 := HD.out
    rw [if_neg (by decide), if_neg (by decide), if_neg (by decide), if_pos rfl] at hD1
    subst hD1
    clear HD
    go_upto_region 9 with fail
    have HS := Aside0.mk (HB.out.below (drew_below w1))
    have HSc := Aside0.mk HS.out.cells
    clear HB
    refine wp_region_held_drew (S := (fun W => W.cell? ⟨bx, 0, none⟩ = some (.int .i64 a.f0) ∧ W.cell? ⟨bx, 1, none⟩ = some (.string a.f1) ∧ W.cell? ⟨bx, 2, none⟩ = some (.string a.f2) ∧ W.cell? ⟨bx, 3, none⟩ = some (.slice Ab a.f3.length cb) ∧ W.cell? ⟨bx, 4, none⟩ = some (.int .i64 a.f4))) (by kernel_rfl) HSc.out (fun hHeld => ?_)
    generalize w1.drew = wz at HS HSc hHeld ⊢
    refine wpAnyH_take (i := 0) (oi := { dst := some 53, op := Op.move (Operand.tmp 0), type := 26, pos := "law.go:29", after := #[], guard := none }) (v := ?_) rfl (by kernel_rfl) (by kernel_rfl) (by kernel_rfl) (fun _ _ _ h => h) (Or.inl ⟨by rfl, ?_⟩) (by assumption) ?_
    rotate_left
    · intro w hSw
      try dsimp only at hSw
      go_simp
      all_goals with_reducible rfl
    try simp only [Act.put, List.setIfInBounds_toArray, List.set_cons_zero, List.set_cons_succ]
    refine wpAnyH_take (i := 1) (oi := { dst := some 54, op := Op.fieldAddr 34 (Operand.tmp 5) 1, type := 0, pos := "law.go:29", after := #[], guard := none }) (v := ?_) rfl (by kernel_rfl) (by kernel_rfl) (by kernel_rfl) (fun _ _ _ h => h) (Or.inl ⟨by rfl, ?_⟩) (by assumption) ?_
    rotate_left
    · intro w hSw
      try dsimp only at hSw
      go_simp
      all_goals with_reducible rfl
    try simp only [Act.put, List.setIfInBounds_toArray, List.set_cons_zero, List.set_cons_succ]
    refine wpAnyH_take (i := 2) (oi := { dst := some 55, op := Op.load 9 (Operand.tmp 54), type := 9, pos := "law.go:29", after := #[{ on := 1, ground := Ground.data }], guard := none }) (v := ?_) rfl (by kernel_rfl) (by kernel_rfl) (by kernel_rfl) (fun _ _ _ h => h) (Or.inl ⟨by rfl, ?_⟩) (by assumption) ?_
    rotate_left
    · intro w hSw
      try dsimp only at hSw
      go_simp
      all_goals with_reducible rfl
    try simp only [Act.put, List.setIfInBounds_toArray, List.set_cons_zero, List.set_cons_succ]
    refine wpAnyH_take (i := 4) (oi := { dst := some 57, op := Op.move (Operand.tmp 1), type := 28, pos := "law.go:29", after := #[], guard := none }) (v := ?_) rfl (by kernel_rfl) (by kernel_rfl) (by kernel_rfl) (fun _ _ _ h => h) (Or.inl ⟨by rfl, ?_⟩) (by assumption) ?_
    rotate_left
    · intro w hSw
      try dsimp only at hSw
      go_simp
      all_goals with_reducible rfl
    try simp only [Act.put, List.setIfInBounds_toArray, List.set_cons_zero, List.set_cons_succ]
    refine wpAnyH_take (i := 5) (oi := { dst := some 58, op := Op.fieldAddr 34 (Operand.tmp 5) 1, type := 0, pos := "law.go:29", after := #[], guard := none }) (v := ?_) rfl (by kernel_rfl) (by kernel_rfl) (by kernel_rfl) (fun _ _ _ h => h) (Or.inl ⟨by rfl, ?_⟩) (by assumption) ?_
    rotate_left
    · intro w hSw
      try dsimp only at hSw
      go_simp
      all_goals with_reducible rfl
    try simp only [Act.put, List.setIfInBounds_toArray, List.set_cons_zero, List.set_cons_succ]
    refine wpAnyH_take (i := 6) (oi := { dst := some 59, op := Op.load 9 (Operand.tmp 58), type := 9, pos := "law.go:29", after := #[{ on := 5, ground := Ground.data }], guard := none }) (v := ?_) rfl (by kernel_rfl) (by kernel_rfl) (by kernel_rfl) (fun _ _ _ h => h) (Or.inl ⟨by rfl, ?_⟩) (by assumption) ?_
    rotate_left
    · intro w hSw
      try dsimp only at hSw
      go_simp
      all_goals with_reducible rfl
    try simp only [Act.put, List.setIfInBounds_toArray, List.set_cons_zero, List.set_cons_succ]
    refine wpAnyH_ready (rs := [3]) (by kernel_rfl) (by simp) ?_
    refine AllReadyH.cons (o := { dst := some 56, op := Op.call { callee := Callee.value (Operand.func 25), args := #[Operand.tmp 53, Operand.tmp 55], argTypes := #[26, 9] }, type := 30, pos := "law.go:29", after := #[{ on := 0, ground := Ground.data }, { on := 2, ground := Ground.data }], guard := none }) rfl (fun K hK => ?_) AllReadyH.nil
    (go_simp; refine (dRemove HS.out.d a.f1 HC.out.2.2.1).mono ?_; rintro e wx ⟨rfl, hd, hk⟩; have HT := Aside0.mk (HS.out.after hd hk); clear HS HSc hd hk; have HSc := Aside0.mk HT.out.cells; go_wp2_with fail)
    refine hK.out _ _ HSc.out (fun hHeld => ?_)
    clear hK K
    try simp only [Act.put, List.setIfInBounds_toArray, List.set_cons_zero, List.set_cons_succ]
    refine wpAnyH_ready (rs := [7]) (by kernel_rfl) (by simp) ?_
    refine AllReadyH.cons (o := { dst := some 60, op := Op.call { callee := Callee.value (Operand.func 34), args := #[Operand.tmp 57, Operand.tmp 59], argTypes := #[28, 9] }, type := 30, pos := "law.go:29", after := #[{ on := 4, ground := Ground.data }, { on := 6, ground := Ground.data }, { on := 3, ground := Ground.chain }], guard := none }) rfl (fun K hK => ?_) AllReadyH.nil
    (go_simp; refine (yRemove HT.out.d a.f1 HC.out.2.2.2.2.2.1).mono ?_; rintro e wy ⟨⟨yi, rfl⟩, hd, hk⟩; have HU := Aside0.mk (HT.out.after hd hk); clear HT HSc hd hk; have HSc := Aside0.mk HU.out.cells; go_wp2_with fail)
    refine hK.out _ _ HSc.out (fun hHeld => ?_)
    clear hK K
    try simp only [Act.put, List.setIfInBounds_toArray, List.set_cons_zero, List.set_cons_succ]
    refine wpAnyH_take (i := 8) (oi := { dst := some 61, op := Op.binOp BinOp.eql 30 (Operand.tmp 56) (Operand.tmp 60) 30, type := 4, pos := "law.go:29", after := #[{ on := 3, ground := Ground.data }, { on := 7, ground := Ground.data }], guard := none }) (v := ?_) rfl (by kernel_rfl) (by kernel_rfl) (by kernel_rfl) (fun _ _ _ h => h) (Or.inl ⟨by rfl, ?_⟩) (by assumption) ?_
    rotate_left
    · intro w hSw
      try dsimp only at hSw
      go_simp
      all_goals with_reducible rfl
    try simp only [Act.put, List.setIfInBounds_toArray, List.set_cons_zero, List.set_cons_succ]
    refine wpAnyH_take (i := 9) (oi := { dst := some 6, op := Op.assign (Operand.tmp 61), type := 4, pos := "law.go:29", after := #[{ on := 8, ground := Ground.data }, { on := 7, ground := Ground.chain }, { on := 0, ground := Ground.phase }, { on := 1, ground := Ground.phase }, { on := 2, ground := Ground.phase }, { on := 3, ground := Ground.phase }, { on := 4, ground := Ground.phase }, { on := 5, ground := Ground.phase }, { on := 6, ground := Ground.phase }, { on := 7, ground := Ground.phase }, { on := 8, ground := Ground.phase }], guard := none }) (v := ?_) rfl (by kernel_rfl) (by kernel_rfl) (by kernel_rfl) (fun _ _ _ h => h) (Or.inl ⟨by rfl, ?_⟩) (by assumption) ?_
    rotate_left
    · intro w hSw
      try dsimp only at hSw
      go_simp
      all_goals with_reducible rfl
    try simp only [Act.put, List.setIfInBounds_toArray, List.set_cons_zero, List.set_cons_succ]
    refine wpAnyH_done (by kernel_rfl) ?_ _
    go_wp2_with fail
    go_ret
    exact ⟨⟨_, rfl⟩, HU.out.out hM1 hN1⟩
  by_cases hq4 : q = 4
  case pos =>
    subst hq4
    have hD1 := HD.out
    rw [if_neg (by decide), if_neg (by decide), if_neg (by decide), if_neg (by decide), if_pos rfl] at hD1
    subst hD1
    clear HD
    go_upto_region 11 with fail
    have HS := Aside0.mk (HB.out.below (drew_below w1))
    have HSc := Aside0.mk HS.out.cells
    clear HB
    refine wp_region_held_drew (S := (fun W => W.cell? ⟨bx, 0, none⟩ = some (.int .i64 a.f0) ∧ W.cell? ⟨bx, 1, none⟩ = some (.string a.f1) ∧ W.cell? ⟨bx, 2, none⟩ = some (.string a.f2) ∧ W.cell? ⟨bx, 3, none⟩ = some (.slice Ab a.f3.length cb) ∧ W.cell? ⟨bx, 4, none⟩ = some (.int .i64 a.f4))) (by kernel_rfl) HSc.out (fun hHeld => ?_)
    generalize w1.drew = wz at HS HSc hHeld ⊢
    refine wpAnyH_take (i := 0) (oi := { dst := some 64, op := Op.move (Operand.tmp 0), type := 26, pos := "law.go:31", after := #[], guard := none }) (v := ?_) rfl (by kernel_rfl) (by kernel_rfl) (by kernel_rfl) (fun _ _ _ h => h) (Or.inl ⟨by rfl, ?_⟩) (by assumption) ?_
    rotate_left
    · intro w hSw
      try dsimp only at hSw
      go_simp
      all_goals with_reducible rfl
    try simp only [Act.put, List.setIfInBounds_toArray, List.set_cons_zero, List.set_cons_succ]
    refine wpAnyH_take (i := 1) (oi := { dst := some 65, op := Op.fieldAddr 34 (Operand.tmp 5) 1, type := 0, pos := "law.go:31", after := #[], guard := none }) (v := ?_) rfl (by kernel_rfl) (by kernel_rfl) (by kernel_rfl) (fun _ _ _ h => h) (Or.inl ⟨by rfl, ?_⟩) (by assumption) ?_
    rotate_left
    · intro w hSw
      try dsimp only at hSw
      go_simp
      all_goals with_reducible rfl
    try simp only [Act.put, List.setIfInBounds_toArray, List.set_cons_zero, List.set_cons_succ]
    refine wpAnyH_take (i := 2) (oi := { dst := some 66, op := Op.load 9 (Operand.tmp 65), type := 9, pos := "law.go:31", after := #[{ on := 1, ground := Ground.data }], guard := none }) (v := ?_) rfl (by kernel_rfl) (by kernel_rfl) (by kernel_rfl) (fun _ _ _ h => h) (Or.inl ⟨by rfl, ?_⟩) (by assumption) ?_
    rotate_left
    · intro w hSw
      try dsimp only at hSw
      go_simp
      all_goals with_reducible rfl
    try simp only [Act.put, List.setIfInBounds_toArray, List.set_cons_zero, List.set_cons_succ]
    refine wpAnyH_take (i := 3) (oi := { dst := some 67, op := Op.fieldAddr 34 (Operand.tmp 5) 2, type := 0, pos := "law.go:31", after := #[], guard := none }) (v := ?_) rfl (by kernel_rfl) (by kernel_rfl) (by kernel_rfl) (fun _ _ _ h => h) (Or.inl ⟨by rfl, ?_⟩) (by assumption) ?_
    rotate_left
    · intro w hSw
      try dsimp only at hSw
      go_simp
      all_goals with_reducible rfl
    try simp only [Act.put, List.setIfInBounds_toArray, List.set_cons_zero, List.set_cons_succ]
    refine wpAnyH_take (i := 4) (oi := { dst := some 68, op := Op.load 9 (Operand.tmp 67), type := 9, pos := "law.go:31", after := #[{ on := 3, ground := Ground.data }], guard := none }) (v := ?_) rfl (by kernel_rfl) (by kernel_rfl) (by kernel_rfl) (fun _ _ _ h => h) (Or.inl ⟨by rfl, ?_⟩) (by assumption) ?_
    rotate_left
    · intro w hSw
      try dsimp only at hSw
      go_simp
      all_goals with_reducible rfl
    try simp only [Act.put, List.setIfInBounds_toArray, List.set_cons_zero, List.set_cons_succ]
    refine wpAnyH_take (i := 6) (oi := { dst := some 70, op := Op.move (Operand.tmp 1), type := 28, pos := "law.go:31", after := #[], guard := none }) (v := ?_) rfl (by kernel_rfl) (by kernel_rfl) (by kernel_rfl) (fun _ _ _ h => h) (Or.inl ⟨by rfl, ?_⟩) (by assumption) ?_
    rotate_left
    · intro w hSw
      try dsimp only at hSw
      go_simp
      all_goals with_reducible rfl
    try simp only [Act.put, List.setIfInBounds_toArray, List.set_cons_zero, List.set_cons_succ]
    refine wpAnyH_take (i := 7) (oi := { dst := some 71, op := Op.fieldAddr 34 (Operand.tmp 5) 1, type := 0, pos := "law.go:31", after := #[], guard := none }) (v := ?_) rfl (by kernel_rfl) (by kernel_rfl) (by kernel_rfl) (fun _ _ _ h => h) (Or.inl ⟨by rfl, ?_⟩) (by assumption) ?_
    rotate_left
    · intro w hSw
      try dsimp only at hSw
      go_simp
      all_goals with_reducible rfl
    try simp only [Act.put, List.setIfInBounds_toArray, List.set_cons_zero, List.set_cons_succ]
    refine wpAnyH_take (i := 8) (oi := { dst := some 72, op := Op.load 9 (Operand.tmp 71), type := 9, pos := "law.go:31", after := #[{ on := 7, ground := Ground.data }], guard := none }) (v := ?_) rfl (by kernel_rfl) (by kernel_rfl) (by kernel_rfl) (fun _ _ _ h => h) (Or.inl ⟨by rfl, ?_⟩) (by assumption) ?_
    rotate_left
    · intro w hSw
      try dsimp only at hSw
      go_simp
      all_goals with_reducible rfl
    try simp only [Act.put, List.setIfInBounds_toArray, List.set_cons_zero, List.set_cons_succ]
    refine wpAnyH_take (i := 9) (oi := { dst := some 73, op := Op.fieldAddr 34 (Operand.tmp 5) 2, type := 0, pos := "law.go:31", after := #[], guard := none }) (v := ?_) rfl (by kernel_rfl) (by kernel_rfl) (by kernel_rfl) (fun _ _ _ h => h) (Or.inl ⟨by rfl, ?_⟩) (by assumption) ?_
    rotate_left
    · intro w hSw
      try dsimp only at hSw
      go_simp
      all_goals with_reducible rfl
    try simp only [Act.put, List.setIfInBounds_toArray, List.set_cons_zero, List.set_cons_succ]
    refine wpAnyH_take (i := 10) (oi := { dst := some 74, op := Op.load 9 (Operand.tmp 73), type := 9, pos := "law.go:31", after := #[{ on := 9, ground := Ground.data }], guard := none }) (v := ?_) rfl (by kernel_rfl) (by kernel_rfl) (by kernel_rfl) (fun _ _ _ h => h) (Or.inl ⟨by rfl, ?_⟩) (by assumption) ?_
    rotate_left
    · intro w hSw
      try dsimp only at hSw
      go_simp
      all_goals with_reducible rfl
    try simp only [Act.put, List.setIfInBounds_toArray, List.set_cons_zero, List.set_cons_succ]
    refine wpAnyH_ready (rs := [5]) (by kernel_rfl) (by simp) ?_
    refine AllReadyH.cons (o := { dst := some 69, op := Op.call { callee := Callee.value (Operand.func 24), args := #[Operand.tmp 64, Operand.tmp 66, Operand.tmp 68], argTypes := #[26, 9, 9] }, type := 30, pos := "law.go:31", after := #[{ on := 0, ground := Ground.data }, { on := 2, ground := Ground.data }, { on := 4, ground := Ground.data }], guard := none }) rfl (fun K hK => ?_) AllReadyH.nil
    (go_simp; refine (dRename HS.out.d a.f1 a.f2 HC.out.2.2.1).mono ?_; rintro e wx ⟨rfl, hd, hk⟩; have HT := Aside0.mk (HS.out.after hd hk); clear HS HSc hd hk; have HSc := Aside0.mk HT.out.cells; go_wp2_with fail)
    refine hK.out _ _ HSc.out (fun hHeld => ?_)
    clear hK K
    try simp only [Act.put, List.setIfInBounds_toArray, List.set_cons_zero, List.set_cons_succ]
    refine wpAnyH_ready (rs := [11]) (by kernel_rfl) (by simp) ?_
    refine AllReadyH.cons (o := { dst := some 75, op := Op.call { callee := Callee.value (Operand.func 35), args := #[Operand.tmp 70, Operand.tmp 72, Operand.tmp 74], argTypes := #[28, 9, 9] }, type := 30, pos := "law.go:31", after := #[{ on := 6, ground := Ground.data }, { on := 8, ground := Ground.data }, { on := 10, ground := Ground.data }, { on := 5, ground := Ground.chain }], guard := none }) rfl (fun K hK => ?_) AllReadyH.nil
    (go_simp; refine (yRename HT.out.d a.f1 a.f2 HC.out.2.2.2.2.2.1).mono ?_; rintro e wy ⟨⟨yi, rfl⟩, hd, hk⟩; have HU := Aside0.mk (HT.out.after hd hk); clear HT HSc hd hk; have HSc := Aside0.mk HU.out.cells; go_wp2_with fail)
    refine hK.out _ _ HSc.out (fun hHeld => ?_)
    clear hK K
    try simp only [Act.put, List.setIfInBounds_toArray, List.set_cons_zero, List.set_cons_succ]
    refine wpAnyH_take (i := 12) (oi := { dst := some 76, op := Op.binOp BinOp.eql 30 (Operand.tmp 69) (Operand.tmp 75) 30, type := 4, pos := "law.go:31", after := #[{ on := 5, ground := Ground.data }, { on := 11, ground := Ground.data }], guard := none }) (v := ?_) rfl (by kernel_rfl) (by kernel_rfl) (by kernel_rfl) (fun _ _ _ h => h) (Or.inl ⟨by rfl, ?_⟩) (by assumption) ?_
    rotate_left
    · intro w hSw
      try dsimp only at hSw
      go_simp
      all_goals with_reducible rfl
    try simp only [Act.put, List.setIfInBounds_toArray, List.set_cons_zero, List.set_cons_succ]
    refine wpAnyH_take (i := 13) (oi := { dst := some 6, op := Op.assign (Operand.tmp 76), type := 4, pos := "law.go:31", after := #[{ on := 12, ground := Ground.data }, { on := 11, ground := Ground.chain }, { on := 0, ground := Ground.phase }, { on := 1, ground := Ground.phase }, { on := 2, ground := Ground.phase }, { on := 3, ground := Ground.phase }, { on := 4, ground := Ground.phase }, { on := 5, ground := Ground.phase }, { on := 6, ground := Ground.phase }, { on := 7, ground := Ground.phase }, { on := 8, ground := Ground.phase }, { on := 9, ground := Ground.phase }, { on := 10, ground := Ground.phase }, { on := 11, ground := Ground.phase }, { on := 12, ground := Ground.phase }], guard := none }) (v := ?_) rfl (by kernel_rfl) (by kernel_rfl) (by kernel_rfl) (fun _ _ _ h => h) (Or.inl ⟨by rfl, ?_⟩) (by assumption) ?_
    rotate_left
    · intro w hSw
      try dsimp only at hSw
      go_simp
      all_goals with_reducible rfl
    try simp only [Act.put, List.setIfInBounds_toArray, List.set_cons_zero, List.set_cons_succ]
    refine wpAnyH_done (by kernel_rfl) ?_ _
    go_wp2_with fail
    go_ret
    exact ⟨⟨_, rfl⟩, HU.out.out hM1 (Nat.le_refl _)⟩
  by_cases hq5 : q = 5
  case pos =>
    subst hq5
    have hD1 := HD.out
    rw [if_neg (by decide), if_neg (by decide), if_neg (by decide), if_neg (by decide), if_neg (by decide), if_pos rfl] at hD1
    subst hD1
    clear HD
    obtain ⟨x0, x1, x2, x3, x4⟩ := HB.out.cells
    go_wp2_with fail
    refine (dKill HB.out.d a.f4 HC.out.2.2.2.2.1).mono ?_
    rintro e wx ⟨rfl, hd, hk⟩
    have HT := Aside0.mk (HB.out.after hd hk)
    clear HB hd hk x0 x1 x2 x3 x4
    obtain ⟨x0, x1, x2, x3, x4⟩ := HT.out.cells
    go_wp2_with fail
    refine (yKill HT.out.d a.f4 HC.out.2.2.2.2.1).mono ?_
    rintro e wy ⟨rfl, hd, hk⟩
    have HU := Aside0.mk (HT.out.after hd hk)
    clear HT hd hk x0 x1 x2 x3 x4
    go_wp2_with fail
    go_ret
    exact ⟨⟨_, rfl⟩, HU.out.out hM1 hN1⟩
  by_cases hq6 : q = 6
  case pos =>
    subst hq6
    have hD1 := HD.out
    rw [if_neg (by decide), if_neg (by decide), if_neg (by decide), if_neg (by decide), if_neg (by decide), if_neg (by decide), if_pos rfl] at hD1
    subst hD1
    clear HD
    obtain ⟨x0, x1, x2, x3, x4⟩ := HB.out.cells
    go_wp2_with fail
    refine (dCrash HB.out.d a.f4 (by have := HC.out.2.2.2.1; omega)).mono ?_
    rintro e wx ⟨rfl, hd, hk⟩
    have HT := Aside0.mk (HB.out.after hd hk)
    clear HB hd hk x0 x1 x2 x3 x4
    obtain ⟨x0, x1, x2, x3, x4⟩ := HT.out.cells
    go_wp2_with fail
    refine (yCrash HT.out.d a.f4 HC.out.2.2.2.2.2.1 (by have := HC.out.2.2.2.2.2.2; omega)).mono ?_
    rintro e wy ⟨rfl, hd, hk⟩
    have HU := Aside0.mk (HT.out.after hd hk)
    clear HT hd hk x0 x1 x2 x3 x4
    go_wp2_with fail
    go_ret
    exact ⟨⟨_, rfl⟩, HU.out.out hM1 hN1⟩
  have hD1 := HD.out
  rw [if_neg hq0, if_neg hq1, if_neg hq2, if_neg hq3, if_neg hq4, if_neg hq5, if_neg hq6] at hD1
  subst hD1
  clear HD
  go_wp2_with fail
  go_ret
  exact ⟨⟨_, rfl⟩, HB.out.out hM1 hN1⟩
end Go.Proofs.Ytcejkfjjildngaa
end

section
/- the disk: a file that takes another's place; plain laws -/
set_option linter.unusedVariables false
set_option linter.unusedSimpArgs false
set_option autoImplicit false
namespace Go.Proofs.Ytcejkfjjildngaa
open Go Go.RowKit Go.Proofs.YtcejkfjjildngaaW.PrintWords Go.Proofs.YtcejkfjjildngaaW.PrintLast Go.Proofs.YtcejkfjjildngaaW.PrintMore Go.Proofs.Ytcejkfjjildngaa.G

def D3 (fs : List FileV) (L : Int) (dead : Bool) : DD := ⟨fs, 10000, true, L, dead⟩
theorem nf_nt : ¬ nf = nt := fun e => by
  have := congrArg (fun b : ByteArray => b.data.toList) e
  simp [nf, nt] at this
theorem find_t1 (F : FileV) (hF : F.n = nf) (L : Int) (dead : Bool) : (D3 [F] L dead).find nt = none := by
  unfold DD.find D3
  rw [List.find?_cons, decide_eq_false (by rw [hF]; exact nf_nt)]
  rfl
theorem find_t2 (F T : FileV) (hF : F.n = nf) (hT : T.n = nt) (L : Int) (dead : Bool) : (D3 [F, T] L dead).find nt = some T := by
  unfold DD.find D3
  rw [List.find?_cons, decide_eq_false (by rw [hF]; exact nf_nt)]
  simp only
  rw [List.find?_cons, decide_eq_true hT]
theorem spend3 (fs : List FileV) (L n : Int) : (D3 fs L false).spend n = if L < n then (L, D3 fs 0 true) else (n, D3 fs (L - n) false) := by
  unfold DD.spend D3
  simp only [Bool.true_eq_false, if_false]
theorem put_t (F : FileV) (hF : F.n = nf) (T : FileV) (hT : T.n = nt) : putF [F] T = [F, T] := by
  rw [putF, if_neg (by rw [hF, hT]; exact nf_nt), putF]
theorem lay_t (F : FileV) (hF : F.n = nf) (b : List Int) (L : Int) (hL : 0 ≤ L) (hr : (F.d.length : Int) + b.length ≤ 10000) :
    (D3 [F] L false).lay nt true b = if L < 1 then (13, D3 [F] 0 true) else if L - 1 < b.length then (13, D3 [F, ⟨nt, b.take (L - 1).toNat, 0⟩] 0 true) else (0, D3 [F, ⟨nt, b, 0⟩] (L - 1 - b.length) false) := by
  have hw : (D3 [F] L false).was nt = ([], 0) := by unfold DD.was; rw [find_t1 F hF]
  unfold DD.lay
  rw [if_neg (fun h => Bool.noConfusion h), if_neg (by rw [show namedB nt = true by kernel_rfl]; decide), hw, if_neg (by
    have : sumL (D3 [F] L false).fs = F.d.length := by unfold sumL D3; simp
    rw [this]
    show ¬ ((F.d.length : Int) - ([] : List Int).length + (if true = true then 0 else ([] : List Int).length : Nat) + b.length > 10000)
    simp only [if_true, List.length_nil]
    omega)]
  simp only [if_true]
  unfold DD.write
  rw [spend3]
  by_cases h1 : L < 1
  · rw [if_pos h1, if_pos h1, if_pos (show L = 0 by omega)]
  · rw [if_neg h1, if_neg h1, if_neg (show ¬ (1 : Int) = 0 by decide)]
    simp only [spend3]
    by_cases h2 : L - 1 < b.length
    · simp only [if_pos h2]
      show (13, D3 (putF [F] ⟨nt, [] ++ b.take (L - 1).toNat, 0⟩) 0 true) = _
      rw [put_t F hF _ rfl, List.nil_append]
    · simp only [if_neg h2]
      rw [if_neg (by omega)]
      show (0, D3 (putF [F] ⟨nt, [] ++ b.take ((b.length : Int)).toNat, 0⟩) (L - 1 - b.length) false) = _
      rw [put_t F hF _ rfl, List.nil_append, Int.toNat_natCast, List.take_length]
theorem sync_t (F T : FileV) (hF : F.n = nf) (hT : T.n = nt) (L : Int) (hL : 0 ≤ L) :
    (D3 [F, T] L false).sync nt = if L < 1 then (13, D3 [F, T] 0 true) else (0, D3 [F, ⟨nt, T.d, T.d.length⟩] (L - 1) false) := by
  unfold DD.sync
  by_cases h1 : L < 1
  · rw [if_pos h1, chg_spent (D := D3 [F, T] L false) (fun h => Bool.noConfusion h) (find_t2 F T hF hT L false) (by rw [spend3, if_pos h1]; show L = 0; omega), spend3, if_pos h1]
  · rw [if_neg h1, chg_done (D := D3 [F, T] L false) (fun h => Bool.noConfusion h) (find_t2 F T hF hT L false) (by rw [spend3, if_neg h1]; show ¬ (1 : Int) = 0; decide), spend3, if_neg h1]
    show (0, D3 (putF [F, T] ⟨T.n, T.d, T.d.length⟩) (L - 1) false) = _
    rw [putF, if_neg (by rw [hF, hT]; exact nf_nt), putF, if_pos rfl, hT]
theorem rename_t (F T : FileV) (hF : F.n = nf) (hT : T.n = nt) (L : Int) (hL : 0 ≤ L) :
    (D3 [F, T] L false).rename nt nf = if L < 1 then (13, D3 [F, T] 0 true) else (0, D3 [⟨nf, T.d, T.s⟩] (L - 1) false) := by
  unfold DD.rename
  rw [show namedB nf = true by kernel_rfl]
  by_cases h1 : L < 1
  · rw [if_pos h1, chg_spent (D := D3 [F, T] L false) (fun h => Bool.noConfusion h) (find_t2 F T hF hT L false) (by rw [spend3, if_pos h1]; show L = 0; omega), spend3, if_pos h1]
  · rw [if_neg h1, chg_done (D := D3 [F, T] L false) (fun h => Bool.noConfusion h) (find_t2 F T hF hT L false) (by rw [spend3, if_neg h1]; show ¬ (1 : Int) = 0; decide), spend3, if_neg h1]
    show (0, D3 (putF (dropF [F, T] nt) ⟨nf, T.d, T.s⟩) (L - 1) false) = _
    have hd : dropF [F, T] nt = [F] := by
      unfold dropF
      rw [List.filter_cons_of_pos (by rw [hF]; simp [nf_nt]), List.filter_cons_of_neg (by rw [hT]; simp), List.filter_nil]
    rw [hd, putF, if_pos hF]
theorem sync_dead (fs : List FileV) (L : Int) (n : ByteArray) : (D3 fs L true).sync n = (13, D3 fs L true) := chg_dead rfl
theorem rename_dead (fs : List FileV) (L : Int) (n m : ByteArray) : (D3 fs L true).rename n m = (13, D3 fs L true) := chg_dead rfl
theorem crash_whole (n : ByteArray) (d : List Int) (keep : Int) : crashF keep ⟨n, d, d.length⟩ = ⟨n, d, d.length⟩ := by
  have h : crashS keep ⟨n, d, d.length⟩ = d.length := by unfold crashS; simp only; omega
  unfold crashF
  rw [h]
  simp
theorem read_head (F : FileV) (hF : F.n = nf) (fs : List FileV) (L : Int) (dies dead : Bool) : (⟨F :: fs, 10000, dies, L, dead⟩ : DD).read nf = (F.d, true) := by
  unfold DD.read DD.find
  rw [List.find?_cons, decide_eq_true hF]
/-- the end of it -/
structure Ren (old now : List Int) (after keep : Int) (Dk : DD) (e f g : Int) (De Df Dg Dz : DD) (x : List Int) : Prop where
  he : Dk.lay nt true now = (e, De)
  hf : De.sync nt = (f, Df)
  hg : Df.rename nt nf = (g, Dg)
  hz : Dg.crash keep = Dz
  hx : Dz.read nf = (x, true)
  be : sumL Dk.fs + now.length ≤ 30000
  bg : sumL Dg.fs ≤ 100000
  bz : sumL Dz.fs ≤ 100000
  done : ((e == 0) && ((f == 0) && (g == 0))) = decide (after ≥ now.length + 3)
  yes : after ≥ now.length + 3 → x = now
  no : ¬ after ≥ now.length + 3 → x = old
theorem ren_facts (old now : List Int) (ha : old.length ≤ 1000) (hb : now.length ≤ 1000) (after keep : Int) : ∃ (Dk : DD) (e f g : Int) (De Df Dg Dz : DD) (x : List Int),
    { D1 10000 ⟨nf, old, old.length⟩ false 0 false with dies := true, left := max after 0 } = Dk ∧ Ren old now after keep Dk e f g De Df Dg Dz x := by
  refine ⟨D3 [⟨nf, old, old.length⟩] (max after 0) false, ?_⟩
  have hlay := lay_t ⟨nf, old, old.length⟩ rfl now (max after 0) (by omega) (show (old.length : Int) + now.length ≤ 10000 by omega)
  have s1 : ∀ d : List Int, sumL [(⟨nf, d, d.length⟩ : FileV)] = d.length := fun d => by simp [sumL]
  have s2 : ∀ (d t : List Int) (s : Int), sumL [(⟨nf, d, d.length⟩ : FileV), ⟨nt, t, s⟩] = d.length + t.length := fun d t s => by simp [sumL]
  have c1 : ∀ (d : List Int) (fs : List FileV) (L : Int) (dead : Bool), (D3 (⟨nf, d, d.length⟩ :: fs) L dead).crash keep = ⟨⟨nf, d, d.length⟩ :: fs.map (crashF keep), 10000, false, L, false⟩ := fun d fs L dead => by
    show (⟨crashF keep ⟨nf, d, d.length⟩ :: fs.map (crashF keep), 10000, false, L, false⟩ : DD) = _
    rw [crash_whole]
  have cl : ∀ (t : List Int) (s : Int), 0 ≤ s → s ≤ t.length → (crashF keep ⟨nt, t, s⟩).d.length ≤ t.length := fun t s h0 h1 => by unfold crashF; exact List.length_take_le' _ _
  by_cases h1 : max after 0 < 1
  · refine ⟨13, 13, 13, (D3 [⟨nf, old, old.length⟩] 0 true), (D3 [⟨nf, old, old.length⟩] 0 true), (D3 [⟨nf, old, old.length⟩] 0 true), (D3 [⟨nf, old, old.length⟩] 0 true).crash keep, old, rfl, ?_⟩
    rw [if_pos h1] at hlay
    exact ⟨hlay, sync_dead _ _ _, rename_dead _ _ _ _, rfl, by rw [c1]; exact read_head _ rfl _ _ _ _, by rw [show (D3 [(⟨nf, old, old.length⟩ : FileV)] (max after 0) false).fs = [⟨nf, old, old.length⟩] from rfl, s1]; omega, by show sumL [(⟨nf, old, old.length⟩ : FileV)] ≤ _; rw [s1]; omega, by rw [c1]; show sumL [(⟨nf, old, old.length⟩ : FileV)] ≤ _; rw [s1]; omega, by rw [decide_eq_false (by omega)]; rfl, fun h => by omega, fun _ => rfl⟩
  rw [if_neg h1] at hlay
  by_cases h2 : max after 0 - 1 < now.length
  · refine ⟨13, 13, 13, (D3 [⟨nf, old, old.length⟩, ⟨nt, now.take (max after 0 - 1).toNat, 0⟩] 0 true), (D3 [⟨nf, old, old.length⟩, ⟨nt, now.take (max after 0 - 1).toNat, 0⟩] 0 true), (D3 [⟨nf, old, old.length⟩, ⟨nt, now.take (max after 0 - 1).toNat, 0⟩] 0 true), (D3 [⟨nf, old, old.length⟩, ⟨nt, now.take (max after 0 - 1).toNat, 0⟩] 0 true).crash keep, old, rfl, ?_⟩
    rw [if_pos h2] at hlay
    have hl := cl (now.take (max after 0 - 1).toNat) 0 (by omega) (by omega)
    rw [List.length_take] at hl
    exact ⟨hlay, sync_dead _ _ _, rename_dead _ _ _ _, rfl, by rw [c1]; exact read_head _ rfl _ _ _ _, by rw [show (D3 [(⟨nf, old, old.length⟩ : FileV)] (max after 0) false).fs = [⟨nf, old, old.length⟩] from rfl, s1]; omega, by show sumL [(⟨nf, old, old.length⟩ : FileV), _] ≤ _; rw [s2, List.length_take]; omega, by
      rw [c1]
      show sumL [(⟨nf, old, old.length⟩ : FileV), crashF keep ⟨nt, now.take (max after 0 - 1).toNat, 0⟩] ≤ _
      unfold sumL
      simp only [List.map_cons, List.map_nil, List.sum_cons, List.sum_nil]
      omega, by rw [decide_eq_false (by omega)]; rfl, fun h => by omega, fun _ => rfl⟩
  rw [if_neg h2] at hlay
  have hsync := sync_t ⟨nf, old, old.length⟩ ⟨nt, now, 0⟩ rfl rfl (max after 0 - 1 - now.length) (by omega)
  by_cases h3 : max after 0 - 1 - now.length < 1
  · refine ⟨0, 13, 13, (D3 [⟨nf, old, old.length⟩, ⟨nt, now, 0⟩] (max after 0 - 1 - now.length) false), (D3 [⟨nf, old, old.length⟩, ⟨nt, now, 0⟩] 0 true), (D3 [⟨nf, old, old.length⟩, ⟨nt, now, 0⟩] 0 true), (D3 [⟨nf, old, old.length⟩, ⟨nt, now, 0⟩] 0 true).crash keep, old, rfl, ?_⟩
    rw [if_pos h3] at hsync
    have hl := cl now 0 (by omega) (by omega)
    exact ⟨hlay, hsync, rename_dead _ _ _ _, rfl, by rw [c1]; exact read_head _ rfl _ _ _ _, by rw [show (D3 [(⟨nf, old, old.length⟩ : FileV)] (max after 0) false).fs = [⟨nf, old, old.length⟩] from rfl, s1]; omega, by show sumL [(⟨nf, old, old.length⟩ : FileV), _] ≤ _; rw [s2]; omega, by
      rw [c1]
      show sumL [(⟨nf, old, old.length⟩ : FileV), crashF keep ⟨nt, now, 0⟩] ≤ _
      unfold sumL
      simp only [List.map_cons, List.map_nil, List.sum_cons, List.sum_nil]
      omega, by rw [decide_eq_false (by omega)]; rfl, fun h => by omega, fun _ => rfl⟩
  rw [if_neg h3] at hsync
  have hren := rename_t ⟨nf, old, old.length⟩ ⟨nt, now, now.length⟩ rfl rfl (max after 0 - 1 - now.length - 1) (by omega)
  by_cases h4 : max after 0 - 1 - now.length - 1 < 1
  · refine ⟨0, 0, 13, (D3 [⟨nf, old, old.length⟩, ⟨nt, now, 0⟩] (max after 0 - 1 - now.length) false), (D3 [⟨nf, old, old.length⟩, ⟨nt, now, now.length⟩] (max after 0 - 1 - now.length - 1) false), (D3 [⟨nf, old, old.length⟩, ⟨nt, now, now.length⟩] 0 true), (D3 [⟨nf, old, old.length⟩, ⟨nt, now, now.length⟩] 0 true).crash keep, old, rfl, ?_⟩
    rw [if_pos h4] at hren
    have hl := cl now now.length (by omega) (by omega)
    exact ⟨hlay, hsync, hren, rfl, by rw [c1]; exact read_head _ rfl _ _ _ _, by rw [show (D3 [(⟨nf, old, old.length⟩ : FileV)] (max after 0) false).fs = [⟨nf, old, old.length⟩] from rfl, s1]; omega, by show sumL [(⟨nf, old, old.length⟩ : FileV), _] ≤ _; rw [s2]; omega, by
      rw [c1]
      show sumL [(⟨nf, old, old.length⟩ : FileV), crashF keep ⟨nt, now, now.length⟩] ≤ _
      unfold sumL
      simp only [List.map_cons, List.map_nil, List.sum_cons, List.sum_nil]
      omega, by rw [decide_eq_false (by omega)]; rfl, fun h => by omega, fun _ => rfl⟩
  · refine ⟨0, 0, 0, (D3 [⟨nf, old, old.length⟩, ⟨nt, now, 0⟩] (max after 0 - 1 - now.length) false), (D3 [⟨nf, old, old.length⟩, ⟨nt, now, now.length⟩] (max after 0 - 1 - now.length - 1) false), (D3 [⟨nf, now, now.length⟩] (max after 0 - 1 - now.length - 1 - 1) false), (D3 [⟨nf, now, now.length⟩] (max after 0 - 1 - now.length - 1 - 1) false).crash keep, now, rfl, ?_⟩
    rw [if_neg h4] at hren
    exact ⟨hlay, hsync, hren, rfl, by rw [c1]; exact read_head _ rfl _ _ _ _, by rw [show (D3 [(⟨nf, old, old.length⟩ : FileV)] (max after 0) false).fs = [⟨nf, old, old.length⟩] from rfl, s1]; omega, by show sumL [(⟨nf, now, now.length⟩ : FileV)] ≤ _; rw [s1]; omega, by rw [c1]; show sumL [(⟨nf, now, now.length⟩ : FileV)] ≤ _; rw [s1]; omega, by rw [decide_eq_true (by omega)]; rfl, fun _ => rfl, fun h => by omega⟩
end Go.Proofs.Ytcejkfjjildngaa
end

section
-- Written by a program of this session (wip/tools/myprint.py), over the kit's print.
namespace Go.Proofs.Ytcejkfjjildngaa.G
open Go.RowKit Go.Proofs.YtcejkfjjildngaaW.PrintWords Go.Proofs.YtcejkfjjildngaaW.PrintLast Go.Proofs.YtcejkfjjildngaaW.PrintMore
attribute [local go_sem] max2_int min2_int max_two min_two max_three min_three max_four min_four   -- for this text's walks alone
set_option linter.unusedVariables false
set_option linter.unusedSimpArgs false

/-! ### rosettelaw19_Few: function 9 -/
def rosettelaw19_Few.l0 : Nat → List (S34) → Int → Int → Option (Bool)
  | 0, _, _, _ => none
  | k + 1, x0, x3, x4 => if x4 < (x0.length : Int) then (if 0 ≤ x4 then (if (((rd_T34 x0 x4).f1).size : Int) > 100 then (some false) else (if (((rd_T34 x0 x4).f2).size : Int) > 100 then (some false) else (rosettelaw19_Few.l0 k x0 (wrap64 (x3 + (((rd_T34 x0 x4).f3).length : Int))) (wrap64 (x4 + 1))))) else (none)) else (if (x0.length : Int) ≤ 100 then (some (decide (x3 ≤ 5000))) else (some false))
def rosettelaw19_Few.f (k : Nat) (l0 : List (S34)) : Option (Bool) := rosettelaw19_Few.l0 k l0 0 0
theorem rosettelaw19_Few.mono_l : ∀ k, (∀ y0 y1 y2, LeO (rosettelaw19_Few.l0 k y0 y1 y2) (rosettelaw19_Few.l0 (k + 1) y0 y1 y2))
  | 0 => fun _ _ _ r h => by simp [rosettelaw19_Few.l0] at h
  | k + 1 => by
    have ih0 := rosettelaw19_Few.mono_l k
    · intro y0 y1 y2
      unfold rosettelaw19_Few.l0
      repeat' first
      | (with_reducible exact ih0 _ _ _)
      | (with_reducible exact LeO.refl _)
      | (with_reducible exact LeO.none _)
      | (with_reducible refine LeO.ite ?_ ?_)
      | (with_reducible refine LeO.bind ?_ (fun _ => ?_))
      | exact ih0 _ _ _
      | exact LeO.none _
      | refine LeO.ite ?_ ?_
      | refine LeO.bind ?_ (fun _ => ?_)
theorem rosettelaw19_Few.mono : ∀ a0 k, LeO (rosettelaw19_Few.f k a0) (rosettelaw19_Few.f (k + 1) a0) := by
  intro a0 k
  have ih0 := rosettelaw19_Few.mono_l k
  unfold rosettelaw19_Few.f
  repeat' first
      | (with_reducible exact ih0 _ _ _)
      | (with_reducible exact LeO.refl _)
      | (with_reducible exact LeO.none _)
      | (with_reducible refine LeO.ite ?_ ?_)
      | (with_reducible refine LeO.bind ?_ (fun _ => ?_))
      | exact ih0 _ _ _
      | exact LeO.none _
      | refine LeO.ite ?_ ?_
      | refine LeO.bind ?_ (fun _ => ?_)
set_option maxHeartbeats 8000000 in
set_option maxRecDepth 100000 in
theorem rosettelaw19_Few.calls (k : Nat) (A0 : Option Addr) (c0 : Nat) (l0 : List (S34)) (r : Bool) (w : World) (hr0 : Kd.C k34 w A0 l0.length l0) (hc0 : l0.length ≤ c0) (h : rosettelaw19_Few.f k l0 = some r) :
    Calls Try.prog 9 #[.slice A0 l0.length c0] w fun e w' => e = .returned (.bool r) ∧ Drawn0 w w' := by
  have HR0 := Aside0.mk hr0
  have HC0 := Aside0.mk hc0
  clear hr0 hc0
  have H : (rosettelaw19_Few.l0 k l0 0 0) = some r := h
  clear h
  have H' := Aside0.mk H
  clear H
  go_enter Try.func9, Try.ntmps9
  go_wp2
  go_loopg [3, 4] k (fun kq v3 v4 w' => ∃ (x3_1 : Int) (x4_1 : Int), v3 = .int .i64 x3_1 ∧ v4 = .int .i64 x4_1 ∧ Aside0 (rosettelaw19_Few.l0 kq l0 x3_1 x4_1 = some r) ∧ Aside0 (kq ≤ k) ∧ Drawn0 w w')
  case atStart => exact ⟨(0), (0), (by first | rfl | (simp; done) | (simp [*]; done)), (by first | rfl | (simp; done) | (simp [*]; done)), H', ⟨Nat.le_refl _⟩, by repeat (first | exact Drawn0.refl _ | apply Drawn0.step)⟩
  case round =>
    clear H'
    obtain ⟨x3_1, x4_1, rfl, rfl, HA, HK1, ⟨m1, rfl⟩⟩ := hrel
    cases gk with
    | zero => exact absurd HA.out (by simp [rosettelaw19_Few.l0])
    | succ k1 =>
      have H := HA.out
      clear HA
      simp only [rosettelaw19_Few.l0] at H
      by_cases c2 : x4_1 < (l0.length : Int)
      · rw [if_pos c2] at H
        have c2b0 : decide (x4_1 < (l0.length : Int)) = true := decide_eq_true c2
        clear c2
        by_cases c3 : 0 ≤ x4_1
        · rw [if_pos c3] at H
          have c3b0 : decide (0 ≤ x4_1) = true := decide_eq_true c3
          clear c3
          by_cases c4 : (((rd_T34 l0 x4_1).f1).size : Int) > 100
          · rw [if_pos c4] at H
            have c4b0 : decide (100 < (((rd_T34 l0 x4_1).f1).size : Int)) = true := decide_eq_true c4
            have c4b1 : decide (100 < ((rd_T34 l0 x4_1).f1).size) = true := decide_eq_true (by omega)
            clear c4
            obtain rfl := Option.some.inj H
            have p228 : 0 ≤ (x4_1 : Int) := of_decide_eq_true (by first | (with_reducible assumption) | assumption)
            have q228 : x4_1 < (l0.length : Int) := of_decide_eq_true (by first | (with_reducible assumption) | assumption)
            obtain ⟨ad228, A228_3, c228_3, e228, hx228_0, hx228_1, hx228_2, hx228_3, hx228_4, hl228_3, hi228_3⟩ := at_T34 HR0.out x4_1 p228 q228
            cases e228
            have HR228_3 := Aside0.mk hi228_3
            have HC228_3 := Aside0.mk hl228_3
            clear hi228_3 hl228_3
            replace p228 := eq_true p228
            replace q228 := eq_true q228
            have p229 : 0 ≤ (x4_1 : Int) := of_decide_eq_true (by first | (with_reducible assumption) | assumption)
            have q229 : x4_1 < (l0.length : Int) := of_decide_eq_true (by first | (with_reducible assumption) | assumption)
            obtain ⟨ad229, A229_3, c229_3, e229, hx229_0, hx229_1, hx229_2, hx229_3, hx229_4, hl229_3, hi229_3⟩ := at_T34 HR0.out x4_1 p229 q229
            obtain rfl : ad228 = ad229 := (by injection e229)
            have HR229_3 := Aside0.mk hi229_3
            have HC229_3 := Aside0.mk hl229_3
            clear hi229_3 hl229_3
            replace p229 := eq_true p229
            replace q229 := eq_true q229
            have ea_ := Option.some.inj (hx228_3.symm.trans hx229_3)
            injection ea_ with ea_ en_ ec_
            subst ea_
            subst ec_
            clear en_
            go_wp2
            go_ret
            exact ⟨by first | rfl | (simp; done) | (simp [*]; done), by repeat (first | exact Drawn0.refl _ | apply Drawn0.step)⟩
          · rw [if_neg c4] at H
            have c4b0 : decide (100 < (((rd_T34 l0 x4_1).f1).size : Int)) = false := decide_eq_false c4
            have c4b1 : decide (100 < ((rd_T34 l0 x4_1).f1).size) = false := decide_eq_false (by omega)
            clear c4
            by_cases c5 : (((rd_T34 l0 x4_1).f2).size : Int) > 100
            · rw [if_pos c5] at H
              have c5b0 : decide (100 < (((rd_T34 l0 x4_1).f2).size : Int)) = true := decide_eq_true c5
              have c5b1 : decide (100 < ((rd_T34 l0 x4_1).f2).size) = true := decide_eq_true (by omega)
              clear c5
              obtain rfl := Option.some.inj H
              have p228 : 0 ≤ (x4_1 : Int) := of_decide_eq_true (by first | (with_reducible assumption) | assumption)
              have q228 : x4_1 < (l0.length : Int) := of_decide_eq_true (by first | (with_reducible assumption) | assumption)
              obtain ⟨ad228, A228_3, c228_3, e228, hx228_0, hx228_1, hx228_2, hx228_3, hx228_4, hl228_3, hi228_3⟩ := at_T34 HR0.out x4_1 p228 q228
              cases e228
              have HR228_3 := Aside0.mk hi228_3
              have HC228_3 := Aside0.mk hl228_3
              clear hi228_3 hl228_3
              replace p228 := eq_true p228
              replace q228 := eq_true q228
              have p229 : 0 ≤ (x4_1 : Int) := of_decide_eq_true (by first | (with_reducible assumption) | assumption)
              have q229 : x4_1 < (l0.length : Int) := of_decide_eq_true (by first | (with_reducible assumption) | assumption)
              obtain ⟨ad229, A229_3, c229_3, e229, hx229_0, hx229_1, hx229_2, hx229_3, hx229_4, hl229_3, hi229_3⟩ := at_T34 HR0.out x4_1 p229 q229
              obtain rfl : ad228 = ad229 := (by injection e229)
              have HR229_3 := Aside0.mk hi229_3
              have HC229_3 := Aside0.mk hl229_3
              clear hi229_3 hl229_3
              replace p229 := eq_true p229
              replace q229 := eq_true q229
              have ea_ := Option.some.inj (hx228_3.symm.trans hx229_3)
              injection ea_ with ea_ en_ ec_
              subst ea_
              subst ec_
              clear en_
              have p230 : 0 ≤ (x4_1 : Int) := of_decide_eq_true (by first | (with_reducible assumption) | assumption)
              have q230 : x4_1 < (l0.length : Int) := of_decide_eq_true (by first | (with_reducible assumption) | assumption)
              obtain ⟨ad230, A230_3, c230_3, e230, hx230_0, hx230_1, hx230_2, hx230_3, hx230_4, hl230_3, hi230_3⟩ := at_T34 HR0.out x4_1 p230 q230
              obtain rfl : ad228 = ad230 := (by injection e230)
              have HR230_3 := Aside0.mk hi230_3
              have HC230_3 := Aside0.mk hl230_3
              clear hi230_3 hl230_3
              replace p230 := eq_true p230
              replace q230 := eq_true q230
              have ea_ := Option.some.inj (hx228_3.symm.trans hx230_3)
              injection ea_ with ea_ en_ ec_
              subst ea_
              subst ec_
              clear en_
              go_wp2
              go_ret
              exact ⟨by first | rfl | (simp; done) | (simp [*]; done), by repeat (first | exact Drawn0.refl _ | apply Drawn0.step)⟩
            · rw [if_neg c5] at H
              have c5b0 : decide (100 < (((rd_T34 l0 x4_1).f2).size : Int)) = false := decide_eq_false c5
              have c5b1 : decide (100 < ((rd_T34 l0 x4_1).f2).size) = false := decide_eq_false (by omega)
              clear c5
              have H' := Aside0.mk H
              clear H
              have p228 : 0 ≤ (x4_1 : Int) := of_decide_eq_true (by first | (with_reducible assumption) | assumption)
              have q228 : x4_1 < (l0.length : Int) := of_decide_eq_true (by first | (with_reducible assumption) | assumption)
              obtain ⟨ad228, A228_3, c228_3, e228, hx228_0, hx228_1, hx228_2, hx228_3, hx228_4, hl228_3, hi228_3⟩ := at_T34 HR0.out x4_1 p228 q228
              cases e228
              have HR228_3 := Aside0.mk hi228_3
              have HC228_3 := Aside0.mk hl228_3
              clear hi228_3 hl228_3
              replace p228 := eq_true p228
              replace q228 := eq_true q228
              have p229 : 0 ≤ (x4_1 : Int) := of_decide_eq_true (by first | (with_reducible assumption) | assumption)
              have q229 : x4_1 < (l0.length : Int) := of_decide_eq_true (by first | (with_reducible assumption) | assumption)
              obtain ⟨ad229, A229_3, c229_3, e229, hx229_0, hx229_1, hx229_2, hx229_3, hx229_4, hl229_3, hi229_3⟩ := at_T34 HR0.out x4_1 p229 q229
              obtain rfl : ad228 = ad229 := (by injection e229)
              have HR229_3 := Aside0.mk hi229_3
              have HC229_3 := Aside0.mk hl229_3
              clear hi229_3 hl229_3
              replace p229 := eq_true p229
              replace q229 := eq_true q229
              have ea_ := Option.some.inj (hx228_3.symm.trans hx229_3)
              injection ea_ with ea_ en_ ec_
              subst ea_
              subst ec_
              clear en_
              have p230 : 0 ≤ (x4_1 : Int) := of_decide_eq_true (by first | (with_reducible assumption) | assumption)
              have q230 : x4_1 < (l0.length : Int) := of_decide_eq_true (by first | (with_reducible assumption) | assumption)
              obtain ⟨ad230, A230_3, c230_3, e230, hx230_0, hx230_1, hx230_2, hx230_3, hx230_4, hl230_3, hi230_3⟩ := at_T34 HR0.out x4_1 p230 q230
              obtain rfl : ad228 = ad230 := (by injection e230)
              have HR230_3 := Aside0.mk hi230_3
              have HC230_3 := Aside0.mk hl230_3
              clear hi230_3 hl230_3
              replace p230 := eq_true p230
              replace q230 := eq_true q230
              have ea_ := Option.some.inj (hx228_3.symm.trans hx230_3)
              injection ea_ with ea_ en_ ec_
              subst ea_
              subst ec_
              clear en_
              go_wp2
              go_roundg k1
              case measure => have := HK1.out; omega
              case rel => exact ⟨(wrap64 (x3_1 + (((rd_T34 l0 x4_1).f3).length : Int))), (wrap64 (x4_1 + 1)), (by first | rfl | (simp; done) | (simp [*]; done)), (by first | rfl | (simp; done) | (simp [*]; done)), H', ⟨by have := HK1.out; omega⟩, by repeat (first | exact Drawn0.refl _ | apply Drawn0.step)⟩
        · rw [if_neg c3] at H
          exact absurd H (by simp)
      · rw [if_neg c2] at H
        have c2b0 : decide (x4_1 < (l0.length : Int)) = false := decide_eq_false c2
        clear c2
        by_cases c6 : (l0.length : Int) ≤ 100
        · rw [if_pos c6] at H
          have c6b0 : decide ((l0.length : Int) ≤ 100) = true := decide_eq_true c6
          have c6b1 : decide (l0.length ≤ 100) = true := decide_eq_true (by omega)
          clear c6
          obtain rfl := Option.some.inj H
          go_wp2
          go_ret
          exact ⟨by first | rfl | (simp; done) | (simp [*]; done), by repeat (first | exact Drawn0.refl _ | apply Drawn0.step)⟩
        · rw [if_neg c6] at H
          have c6b0 : decide ((l0.length : Int) ≤ 100) = false := decide_eq_false c6
          have c6b1 : decide (l0.length ≤ 100) = false := decide_eq_false (by omega)
          clear c6
          obtain rfl := Option.some.inj H
          go_wp2
          go_ret
          exact ⟨by first | rfl | (simp; done) | (simp [*]; done), by repeat (first | exact Drawn0.refl _ | apply Drawn0.step)⟩

end Go.Proofs.Ytcejkfjjildngaa.G
end

section
/- deeds, plain: what they leave of the files -/
set_option linter.unusedVariables false
set_option linter.unusedSimpArgs false
set_option autoImplicit false
namespace Go.Proofs.Ytcejkfjjildngaa
open Go Go.RowKit Go.Proofs.YtcejkfjjildngaaW.PrintWords Go.Proofs.YtcejkfjjildngaaW.PrintLast Go.Proofs.YtcejkfjjildngaaW.PrintMore Go.Proofs.Ytcejkfjjildngaa.G

theorem spend_zero {D : DD} (h : DDOk D) {n : Int} (hn : 0 ≤ n) (hs : (D.spend n).1 < n) : (D.spend n).2.dead = true := by
  unfold DD.spend at hs ⊢
  split
  · rename_i h1; rw [if_pos h1] at hs; exact absurd hs (by show ¬ n < n; omega)
  · split
    · rfl
    · rename_i h1 h2; rw [if_neg h1, if_neg h2] at hs; exact absurd hs (by show ¬ n < n; omega)
theorem spend_dead {D : DD} {n : Int} (h : D.dead = true) : (D.spend n).2.dead = true := by
  unfold DD.spend
  split
  · exact h
  · split
    · rfl
    · exact h
theorem lay_cases {D : DD} (h : DDOk D) (n : ByteArray) (anew : Bool) (b : List Int) : (D.lay n anew b = (13, D) ∧ D.dead = true) ∨ D.lay n anew b = (1, D) ∨ D.lay n anew b = (12, D) ∨
    ∃ e D2, D.lay n anew b = (e, D2) ∧ e ≠ 12 ∧ (e = 13 → D2.dead = true) ∧ D2.room = D.room ∧ (D2.fs = D.fs ∨ ∃ f, D2.fs = putF D.fs f ∧ f.n = n ∧ f.d.length ≤ wasLen D.fs n + b.length) := by
  unfold DD.lay
  by_cases hd : D.dead = true
  · rw [if_pos hd]; exact .inl ⟨rfl, hd⟩
  rw [if_neg hd]
  by_cases hn : namedB n = false
  · rw [if_pos hn]; exact .inr (.inl rfl)
  rw [if_neg hn]
  by_cases hf : (sumL D.fs : Int) - (D.was n).1.length + (if anew = true then 0 else (D.was n).1.length : Nat) + b.length > D.room
  · rw [if_pos hf]; exact .inr (.inr (.inl rfl))
  rw [if_neg hf]
  refine .inr (.inr (.inr ?_))
  have hk : (if anew = true then [] else (D.was n).1 : List Int).length ≤ (D.was n).1.length := by
    split
    · exact Nat.zero_le _
    · exact Nat.le_refl _
  generalize (if anew = true then [] else (D.was n).1 : List Int) = kd at hk ⊢
  generalize (if anew = true then 0 else (D.was n).2 : Int) = ks
  unfold DD.write
  by_cases h0 : (D.spend 1).1 = 0
  · rw [if_pos h0]
    exact ⟨_, _, rfl, by decide, fun _ => spend_zero h (by decide) (by rw [h0]; decide), (spend_fs D 1).2, .inl (spend_fs D 1).1⟩
  rw [if_neg h0]
  refine ⟨_, _, rfl, ?_, ?_, ?_, .inr ⟨⟨n, kd ++ b.take ((D.spend 1).2.spend b.length).1.toNat, ks⟩, ?_, rfl, ?_⟩⟩
  · by_cases hl : ((D.spend 1).2.spend b.length).1 < b.length
    · rw [if_pos hl]; decide
    · rw [if_neg hl]; decide
  · intro he
    by_cases hl : ((D.spend 1).2.spend b.length).1 < b.length
    · exact spend_zero (spend_ok h 1 (by decide)) (by omega) hl
    · rw [if_neg hl] at he; exact absurd he (by decide)
  · exact (spend_fs _ _).2.trans (spend_fs D 1).2
  · show putF _ _ = _
    rw [(spend_fs _ _).1, (spend_fs D 1).1]
  · show (kd ++ b.take _).length ≤ _
    rw [List.length_append, List.length_take, was_len]
    omega
theorem lay_full {D : DD} (h : DDOk D) {n : ByteArray} {anew : Bool} {b : List Int} (he : (D.lay n anew b).1 = 12) : (D.lay n anew b).2 = D := by
  rcases lay_cases h n anew b with ⟨e, -⟩ | e | e | ⟨e1, D2, e, h1, -⟩
  · rw [e]
  · rw [e]
  · rw [e]
  · rw [e] at he; exact absurd he h1
theorem lay_dead {D : DD} (h : DDOk D) {n : ByteArray} {anew : Bool} {b : List Int} (he : (D.lay n anew b).1 = 13) : (D.lay n anew b).2.dead = true := by
  rcases lay_cases h n anew b with ⟨e, h1⟩ | e | e | ⟨e1, D2, e, h0, h1, -⟩
  · rw [e]; exact h1
  · rw [e] at he; exact absurd (show (1 : Int) = 13 from he) (by decide)
  · rw [e] at he; exact absurd (show (12 : Int) = 13 from he) (by decide)
  · rw [e] at he ⊢; exact h1 he
theorem putF_length (f : FileV) : ∀ l : List FileV, (putF l f).length ≤ l.length + 1 := by
  intro l
  induction l with
  | nil => exact Nat.le_refl _
  | cons x l ih =>
    rw [putF]
    split
    · simp
    · simp only [List.length_cons]; omega
structure Grows (D D' : DD) (n : Nat) : Prop where
  sum : sumL D'.fs ≤ sumL D.fs + n
  cnt : D'.fs.length ≤ D.fs.length + 1
  room : D'.room = D.room
theorem Grows.same {D D' : DD} (h : D'.fs = D.fs) (hr : D'.room = D.room) (n : Nat) : Grows D D' n := ⟨by rw [h]; omega, by rw [h]; omega, hr⟩
theorem lay_grows {D : DD} (h : DDOk D) (n : ByteArray) (anew : Bool) (b : List Int) : Grows D (D.lay n anew b).2 b.length := by
  rcases lay_cases h n anew b with ⟨e, -⟩ | e | e | ⟨e1, D2, e, -, -, hr, hf⟩
  · rw [e]; exact .same rfl rfl _
  · rw [e]; exact .same rfl rfl _
  · rw [e]; exact .same rfl rfl _
  · rw [e]
    rcases hf with hf | ⟨f, hf, rfl, hl⟩
    · exact .same hf hr _
    · refine ⟨?_, ?_, hr⟩
      · show sumL D2.fs ≤ _
        rw [hf]
        have := sumL_put f D.fs
        omega
      · show D2.fs.length ≤ _
        rw [hf]
        exact putF_length f D.fs
theorem chg_cases (D : DD) (n : ByteArray) (ok : Bool) (F : FileV → List FileV) : ((D.chg n ok F).2.fs = D.fs ∧ (D.chg n ok F).2.room = D.room) ∨ ∃ f, D.find n = some f ∧ (D.chg n ok F).2.fs = F f ∧ (D.chg n ok F).2.room = D.room ∧ ok = true := by
  unfold DD.chg
  split
  · exact .inl ⟨rfl, rfl⟩
  · cases hf : D.find n with
    | none => exact .inl ⟨rfl, rfl⟩
    | some f =>
      simp only
      split
      · exact .inl ⟨rfl, rfl⟩
      · rename_i hok
        split
        · exact .inl (spend_fs D 1)
        · exact .inr ⟨f, rfl, rfl, (spend_fs D 1).2, by cases ok with | true => rfl | false => exact absurd rfl hok⟩
theorem find_mem {D : DD} {n : ByteArray} {f : FileV} (h : D.find n = some f) : f ∈ D.fs ∧ f.n = n := by
  unfold DD.find at h
  exact ⟨List.mem_of_find?_eq_some h, of_decide_eq_true (List.find?_some (p := fun x : FileV => decide (x.n = n)) h)⟩
theorem find_len {D : DD} {n : ByteArray} {f : FileV} (h : D.find n = some f) : wasLen D.fs n = f.d.length := by
  unfold DD.find at h
  unfold wasLen
  rw [h]
theorem drop_length (n : ByteArray) (l : List FileV) : (dropF l n).length ≤ l.length := List.length_filter_le _ _
theorem act_grows {D : DD} (h : DDOk D) (a : S34) : Grows D (D.act a) a.f3.length := by
  unfold DD.act
  split
  · exact lay_grows h _ _ _
  split
  · exact lay_grows h _ _ _
  split
  · unfold DD.sync
    rcases chg_cases D a.f1 true (fun f => putF D.fs ⟨f.n, f.d, f.d.length⟩) with ⟨e1, e2⟩ | ⟨f, hf, e1, e2, -⟩
    · exact .same e1 e2 _
    · refine ⟨?_, ?_, e2⟩
      · rw [e1]
        have := sumL_put ⟨f.n, f.d, f.d.length⟩ D.fs
        have h2 := find_len hf
        rw [← (find_mem hf).2] at h2
        simp only at this
        omega
      · rw [e1]; exact putF_length _ _
  split
  · unfold DD.remove
    rcases chg_cases D a.f1 true (fun f => dropF D.fs a.f1) with ⟨e1, e2⟩ | ⟨f, hf, e1, e2, -⟩
    · exact .same e1 e2 _
    · refine ⟨?_, ?_, e2⟩
      · rw [e1]; have := sumL_drop a.f1 D.fs; omega
      · rw [e1]; have := drop_length a.f1 D.fs; omega
  split
  · unfold DD.rename
    rcases chg_cases D a.f1 (namedB a.f2) (fun f => putF (dropF D.fs a.f1) ⟨a.f2, f.d, f.s⟩) with ⟨e1, e2⟩ | ⟨f, hf, e1, e2, -⟩
    · exact .same e1 e2 _
    · refine ⟨?_, ?_, e2⟩
      · rw [e1]
        have h1 := sumL_put ⟨a.f2, f.d, f.s⟩ (dropF D.fs a.f1)
        have h2 := sumL_drop_mem (find_mem hf).1
        rw [(find_mem hf).2] at h2
        simp only at h1
        omega
      · rw [e1]
        have h1 := putF_length ⟨a.f2, f.d, f.s⟩ (dropF D.fs a.f1)
        have := drop_length a.f1 D.fs
        omega
  split
  · exact Grows.same (D := D) (D' := { D with dies := true, left := max a.f4 0 }) rfl rfl _
  split
  · unfold DD.crash
    refine ⟨?_, by simp, rfl⟩
    show sumL (D.fs.map (crashF a.f4)) ≤ _
    have : ∀ l : List FileV, sumL (l.map (crashF a.f4)) ≤ sumL l := by
      intro l
      induction l with
      | nil => exact Nat.le_refl _
      | cons x l ih =>
        unfold sumL at *
        simp only [List.map_cons, List.sum_cons]
        have : (crashF a.f4 x).d.length ≤ x.d.length := by unfold crashF; rw [List.length_take]; omega
        omega
    have := this D.fs
    omega
  · exact .same rfl rfl _
/-! ### all files, in their order -/
theorem was_at {D : DD} (h : DDOk D) {f : FileV} (hf : f ∈ D.fs) : D.find f.n = some f := by
  obtain ⟨j, hj⟩ := List.getElem?_of_mem hf
  exact find_at h.names hj
theorem list_len (D : DD) : D.list.length = D.fs.length := by
  unfold DD.list
  rw [List.length_map, sortS_len, List.length_map]
theorem list_sum {D : DD} (h : DDOk D) : ((D.list).map fun x => x.f1.length).sum = sumL D.fs := by
  have h1 : (D.list).map (fun x => x.f1.length) = (sortS (D.fs.map FileV.n)).map (fun n => (D.was n).1.length) := by
    unfold DD.list
    rw [List.map_map]
    rfl
  rw [h1, ((sortS_perm _).map _).sum_nat, List.map_map]
  unfold sumL
  congr 1
  refine List.map_congr_left fun f hf => ?_
  show (D.was f.n).1.length = _
  unfold DD.was
  rw [was_at h hf]
theorem list_ok {D : DD} (h : DDOk D) : ∀ x ∈ D.list, 0 ≤ x.f2 ∧ x.f2 ≤ x.f1.length := by
  intro x hx
  unfold DD.list at hx
  obtain ⟨n, -, rfl⟩ := List.mem_map.1 hx
  have := was_mem h n
  exact ⟨this.1, this.2.1⟩
theorem same_refl (l : List S43) (hl : l.length ≤ 1000000) : ∀ (f i : Nat), i + f = l.length → rosetteref19_Same.l0 (f + 1) l l (i : Int) = some true := by
  intro f
  induction f with
  | zero =>
    intro i hi
    rw [rosetteref19_Same.l0, if_neg (by omega)]
  | succ f ih =>
    intro i hi
    have hw : wrap64 ((i : Int) + 1) = ((i + 1 : Nat) : Int) := by unfold wrap64; omega
    rw [rosetteref19_Same.l0, if_pos (by omega), if_pos (by omega), if_pos (by omega), if_pos rfl, if_pos rfl, if_pos rfl, hw]
    exact ih (i + 1) (by omega)
theorem same_self (l : List S43) (hl : l.length ≤ 1000000) : rosetteref19_Same.f (l.length + 1) l l = some true := by
  unfold rosetteref19_Same.f
  rw [if_pos rfl]
  exact same_refl l hl l.length 0 (by omega)
end Go.Proofs.Ytcejkfjjildngaa
end

section
/- deeds in a law: what Few tells, a deed as it lies, and what all leave -/
set_option linter.unusedVariables false
set_option linter.unusedSimpArgs false
set_option autoImplicit false
namespace Go.Proofs.Ytcejkfjjildngaa
open Go Go.RowKit Go.Proofs.YtcejkfjjildngaaW.PrintWords Go.Proofs.YtcejkfjjildngaaW.PrintLast Go.Proofs.YtcejkfjjildngaaW.PrintMore Go.Proofs.Ytcejkfjjildngaa.G

abbrev Ac := S34
def sumTo (l : List Ac) (j : Nat) : Nat := ((l.take j).map fun a => a.f3.length).sum
theorem sumTo_succ (l : List Ac) (j : Nat) (hj : j < l.length) : sumTo l (j + 1) = sumTo l j + l[j].f3.length := by
  unfold sumTo
  rw [List.take_add_one, List.getElem?_eq_getElem hj, List.map_append, List.sum_append]
  simp only [Option.toList_some, List.map_cons, List.map_nil, List.sum_cons, List.sum_nil, Nat.add_zero]
theorem sumTo_all (l : List Ac) : ∀ j, sumTo l j ≤ (l.map fun a => a.f3.length).sum := by
  intro j
  unfold sumTo
  have h : (l.map fun a => a.f3.length).sum = ((l.take j).map fun a => a.f3.length).sum + ((l.drop j).map fun a => a.f3.length).sum := by
    rw [← List.sum_append, ← List.map_append, List.take_append_drop]
  omega
structure Acts (l : List Ac) : Prop where
  u : ∀ a ∈ l, u8s a.f3 ∧ a.f4 ≤ 9223372036854775807
  nm : ∀ a ∈ l, a.f1.size ≤ 100 ∧ a.f2.size ≤ 100
  len : l.length ≤ 100
  sum : (l.map fun a => a.f3.length).sum ≤ 5000
theorem rd_act (l : List Ac) (j : Nat) (hj : j < l.length) : rd_T34 l (j : Int) = l[j] := by
  show l.getD (j : Int).toNat _ = _
  rw [Int.toNat_natCast, List.getD_eq_getElem?_getD, List.getElem?_eq_getElem hj]
  rfl
theorem few_facts (l : List Ac) (hl : l.length ≤ 140737488351232) (hd : ∀ a ∈ l, a.f3.length ≤ 140737488351232) : ∀ (f i : Nat) (n : Int), i + f = l.length → ∃ r, rosettelaw19_Few.l0 (f + 1) l n (i : Int) = some r ∧
    (r = true → (∀ a ∈ l.drop i, a.f1.size ≤ 100 ∧ a.f2.size ≤ 100) ∧ l.length ≤ 100 ∧ (0 ≤ n → n + ((l.drop i).map fun a => a.f3.length).sum < 9223372036854775807 → n + ((l.drop i).map fun a => a.f3.length).sum ≤ 5000)) := by
  intro f
  induction f with
  | zero =>
    intro i n hi
    rw [rosettelaw19_Few.l0, if_neg (by omega)]
    have e : l.drop i = [] := List.drop_eq_nil_of_le (by omega)
    rw [e]
    by_cases h : (l.length : Int) ≤ 100
    · rw [if_pos h]
      exact ⟨_, rfl, fun hr => ⟨fun a ha => absurd ha (by simp), by omega, fun _ _ => by have := of_decide_eq_true hr; simpa using this⟩⟩
    · rw [if_neg h]
      exact ⟨_, rfl, fun hr => absurd hr (by decide)⟩
  | succ f ih =>
    intro i n hi
    have hil : i < l.length := by omega
    have hw : wrap64 ((i : Int) + 1) = ((i + 1 : Nat) : Int) := by unfold wrap64; omega
    rw [rosettelaw19_Few.l0, if_pos (by omega), if_pos (by omega), rd_act l i hil, hw]
    by_cases h1 : ((l[i].f1).size : Int) > 100
    · rw [if_pos h1]; exact ⟨_, rfl, fun hr => absurd hr (by decide)⟩
    rw [if_neg h1]
    by_cases h2 : ((l[i].f2).size : Int) > 100
    · rw [if_pos h2]; exact ⟨_, rfl, fun hr => absurd hr (by decide)⟩
    rw [if_neg h2]
    obtain ⟨r, hr, hf⟩ := ih (i + 1) (wrap64 (n + (l[i].f3.length : Int))) (by omega)
    refine ⟨r, hr, fun h => ?_⟩
    obtain ⟨g1, g2, g3⟩ := hf h
    have e : l.drop i = l[i] :: l.drop (i + 1) := List.drop_eq_getElem_cons hil
    rw [e]
    refine ⟨fun a ha => ?_, g2, fun h0 hs => ?_⟩
    · rcases List.mem_cons.1 ha with rfl | ha
      · omega
      · exact g1 a ha
    · rw [List.map_cons, List.sum_cons] at hs ⊢
      have hw2 : wrap64 (n + (l[i].f3.length : Int)) = n + (l[i].f3.length : Int) := by unfold wrap64; omega
      rw [hw2] at g3
      have := g3 (by omega) (by omega)
      omega
theorem sum_le (l : List Ac) (m : Nat) (h : ∀ a ∈ l, a.f3.length ≤ m) : (l.map fun a => a.f3.length).sum ≤ l.length * m := by
  induction l with
  | nil => simp
  | cons a l ih =>
    rw [List.map_cons, List.sum_cons, List.length_cons, Nat.succ_mul]
    have := ih (fun a ha => h a (List.mem_cons_of_mem _ ha))
    have := h a (List.mem_cons_self ..)
    omega
theorem few_acts (l : List Ac) (hl : l.length ≤ 140737488351232) (hd : ∀ a ∈ l, a.f3.length ≤ 140737488351232 ∧ u8s a.f3 ∧ a.f4 ≤ 9223372036854775807) : ∃ k r, rosettelaw19_Few.f k l = some r ∧ (r = true → Acts l) := by
  obtain ⟨r, hr, hf⟩ := few_facts l hl (fun a ha => (hd a ha).1) l.length 0 0 (by omega)
  refine ⟨_, r, hr, fun h => ?_⟩
  obtain ⟨g1, g2, g3⟩ := hf h
  rw [List.drop_zero] at g1 g3
  refine ⟨fun a ha => (hd a ha).2, g1, g2, ?_⟩
  have h1 := sum_le l 140737488351232 (fun a ha => (hd a ha).1)
  have h2 : l.length * 140737488351232 ≤ 100 * 140737488351232 := Nat.mul_le_mul_right _ g2
  have := g3 (Int.le_refl _) (by omega)
  omega
/-- a deed as it lies in the row that came in -/
theorem act_at {w W : World} {A : Option Addr} {n : Nat} {xs : List Ac} (h : Kd.C k34 w A n xs) (hb : Below w.heap.size w W) (j : Nat) (hj : j < n) (hx : j < xs.length) : ∃ ad A3 c3, A = some ad ∧ W.cell? (ad.add (j * 5)) = some (.int .i64 xs[j].f0) ∧ W.cell? ⟨(ad.add (j * 5)).block, (ad.add (j * 5)).off + 1, none⟩ = some (.string xs[j].f1) ∧ W.cell? ⟨(ad.add (j * 5)).block, (ad.add (j * 5)).off + 2, none⟩ = some (.string xs[j].f2) ∧ W.cell? ⟨(ad.add (j * 5)).block, (ad.add (j * 5)).off + 3, none⟩ = some (.slice A3 xs[j].f3.length c3) ∧ W.cell? ⟨(ad.add (j * 5)).block, (ad.add (j * 5)).off + 4, none⟩ = some (.int .i64 xs[j].f4) ∧ xs[j].f3.length ≤ c3 ∧ HeldB W (fun k => k < w.heap.size) A3 xs[j].f3 := by
  obtain ⟨ad, A3, c3, hA, z0, z1, z2, z3, z4, hc, hC⟩ := at_T34 h (j : Int) (by omega) (by omega)
  rw [Int.toNat_natCast] at z0 z1 z2 z3 z4
  rw [rd_act xs j hx] at z0 z1 z2 z3 z4 hc hC
  have key : ∀ {a : Addr} {v : Value}, w.cell? a = some v → W.cell? a = some v := fun hz => (hb.cell (World.block_lt_of_cell? _ _ hz)).trans hz
  exact ⟨ad, A3, c3, hA, key z0, key z1, key z2, key z3, key z4, hc, (HeldB.low hC).keep (fun k hk _ => hb.block k hk)⟩
theorem LS.args {w W : World} {g : Nat} {D : DD} (h : LS (fun _ => False) w W g D) : LS (fun k => k < w.heap.size) w W g D := by
  obtain ⟨⟨S, h1, h2, h3⟩, h4, h5⟩ := h
  exact ⟨⟨S, h1, h2, fun k hk hh => by have := h2 k hk; omega⟩, fun k hk => Nat.lt_of_lt_of_le hk h5.size, h5⟩
/-- behind j deeds -/
structure Inv (l : List Ac) (D : DD) (room : Int) (base j : Nat) : Prop where
  sum : sumL D.fs ≤ base + sumTo l j
  cnt : D.fs.length ≤ 1 + j
  room : D.room = max room 0
theorem Inv.act {l : List Ac} {D : DD} {room : Int} {base j : Nat} (h : Inv l D room base j) (hok : DDOk D) (hj : j < l.length) : Inv l (D.act l[j]) room base (j + 1) := by
  have hg := act_grows hok l[j]
  refine ⟨?_, ?_, hg.room.trans h.room⟩
  · have := hg.sum
    have := h.sum
    rw [sumTo_succ l j hj]
    omega
  · have := hg.cnt
    have := h.cnt
    omega
theorem do_at {w W : World} {g gx : Nat} {D : DD} {l : List Ac} {room : Int} {base j : Nat} (h : DX (fun k => k < w.heap.size) w W g D gx (base + sumTo l j) (1 + j)) (hI : Inv l D room base j) (hl : Acts l) (hb0 : base ≤ 1000) (hj : j < l.length) (Ab : Option Addr) (cb : Nat) (hb : HeldB W (fun k => k < w.heap.size) Ab l[j].f3) (hcb : l[j].f3.length ≤ cb) :
    Calls Try.prog 16 #[.pointer (some ⟨g, 0, none⟩), .pointer (some ⟨gx, 0, none⟩), .agg #[.int .i64 l[j].f0, .string l[j].f1, .string l[j].f2, .slice Ab l[j].f3.length cb, .int .i64 l[j].f4]] W fun e w' => IsBool e ∧ DX (fun k => k < w.heap.size) w w' g (D.act l[j]) gx (base + sumTo l (j + 1)) (1 + (j + 1)) ∧ Inv l (D.act l[j]) room base (j + 1) := by
  have hm := List.getElem_mem hj
  have h1 := hl.u _ hm
  have h2 := hl.nm _ hm
  have h3 := sumTo_all l (j + 1)
  have h4 := hl.sum
  have h5 := sumTo_succ l j hj
  have h6 := hI.sum
  have h7 := hl.len
  refine (wdo h l[j] Ab cb hb hcb h1.1 (by omega) (by omega) h1.2 (by omega) (by omega)).mono ?_
  rintro e w' ⟨e1, hd, -⟩
  refine ⟨e1, ?_, hI.act h.ok hj⟩
  rw [h5, ← Nat.add_assoc, ← Nat.add_assoc]
  exact hd
end Go.Proofs.Ytcejkfjjildngaa
end

section
/- deeds at others: a file that was synced is as it was, plain -/
set_option linter.unusedVariables false
set_option linter.unusedSimpArgs false
set_option autoImplicit false
namespace Go.Proofs.Ytcejkfjjildngaa
open Go Go.RowKit Go.Proofs.YtcejkfjjildngaaW.PrintWords Go.Proofs.YtcejkfjjildngaaW.PrintLast Go.Proofs.YtcejkfjjildngaaW.PrintMore Go.Proofs.Ytcejkfjjildngaa.G

theorem find_put_ne {f : FileV} {m : ByteArray} (h : f.n ≠ m) : ∀ l : List FileV, (putF l f).find? (fun x => decide (x.n = m)) = l.find? (fun x => decide (x.n = m)) := by
  intro l
  induction l with
  | nil => rw [putF, List.find?_cons, decide_eq_false h]
  | cons x l ih =>
    rw [putF]
    split
    · rename_i hx
      rw [List.find?_cons, List.find?_cons, decide_eq_false h, decide_eq_false (fun e => h (hx.symm.trans e))]
    · rw [List.find?_cons, List.find?_cons, ih]
theorem find_drop_ne {n m : ByteArray} (h : n ≠ m) : ∀ l : List FileV, (dropF l n).find? (fun x => decide (x.n = m)) = l.find? (fun x => decide (x.n = m)) := by
  intro l
  induction l with
  | nil => rfl
  | cons x l ih =>
    unfold dropF at ih ⊢
    rw [List.filter_cons]
    by_cases hx : x.n = n
    · rw [if_neg (by simp [hx]), ih, List.find?_cons, decide_eq_false (fun e => h (hx.symm.trans e))]
    · rw [if_pos (by simp [hx]), List.find?_cons, List.find?_cons, ih]
theorem lay_apart {D : DD} (h : DDOk D) {n m : ByteArray} (hn : n ≠ m) (anew : Bool) (b : List Int) : (D.lay n anew b).2.find m = D.find m := by
  rcases lay_cases h n anew b with ⟨e, -⟩ | e | e | ⟨e1, D2, e, -, -, -, hf⟩
  · rw [e]
  · rw [e]
  · rw [e]
  · rw [e]
    unfold DD.find
    rcases hf with hf | ⟨f, hf, rfl, -⟩
    · show D2.fs.find? _ = _
      rw [hf]
    · show D2.fs.find? _ = _
      rw [hf]
      exact find_put_ne hn _
theorem act_apart {D : DD} (h : DDOk D) (a : Ac) {m : ByteArray} {b : List Int} (h1 : a.f1 ≠ m) (h2 : a.f2 ≠ m) (hF : D.find m = some ⟨m, b, b.length⟩) : (D.act a).find m = some ⟨m, b, b.length⟩ := by
  unfold DD.act
  split
  · rw [lay_apart h h1]; exact hF
  split
  · rw [lay_apart h h1]; exact hF
  split
  · unfold DD.sync
    rcases chg_cases D a.f1 true (fun f => putF D.fs ⟨f.n, f.d, f.d.length⟩) with ⟨e1, e2⟩ | ⟨f, hf, e1, e2, -⟩
    · unfold DD.find at hF ⊢
      rw [e1]
      exact hF
    · unfold DD.find at hF ⊢
      rw [e1, find_put_ne (f := ⟨f.n, f.d, f.d.length⟩) (fun e => h1 ((find_mem hf).2.symm.trans e))]
      exact hF
  split
  · unfold DD.remove
    rcases chg_cases D a.f1 true (fun f => dropF D.fs a.f1) with ⟨e1, e2⟩ | ⟨f, hf, e1, e2, -⟩
    · unfold DD.find at hF ⊢
      rw [e1]
      exact hF
    · unfold DD.find at hF ⊢
      rw [e1, find_drop_ne h1]
      exact hF
  split
  · unfold DD.rename
    rcases chg_cases D a.f1 (namedB a.f2) (fun f => putF (dropF D.fs a.f1) ⟨a.f2, f.d, f.s⟩) with ⟨e1, e2⟩ | ⟨f, hf, e1, e2, -⟩
    · unfold DD.find at hF ⊢
      rw [e1]
      exact hF
    · unfold DD.find at hF ⊢
      rw [e1, find_put_ne (f := ⟨a.f2, f.d, f.s⟩) h2, find_drop_ne h1]
      exact hF
  split
  · exact hF
  split
  · have e : (D.crash a.f4).find m = (D.find m).map (crashF a.f4) := by
      unfold DD.find DD.crash
      simp only
      rw [List.find?_map]
      rfl
    rw [e, hF]
    exact congrArg some (crash_whole m b a.f4)
  · exact hF
theorem dRead {X : Nat → Prop} {w0 w : World} {g gx M N : Nat} {D : DD} (h : DX X w0 w g D gx M N) (n : ByteArray) (hn : n.size ≤ 1000) (hl : sumL D.fs ≤ 100000) {l : List Int} {is : Bool} (hr : D.read n = (l, is)) :
    Calls Try.prog 17 #[.pointer (some ⟨g, 0, none⟩), .string n] w fun e w' => ∃ A c, e = .returned (.tuple #[.slice A l.length c, .bool is]) ∧ l.length ≤ c ∧ (Kd.int .u8).C w' A l.length l ∧ DX X w0 w' g D gx M N := by
  obtain ⟨S, h1, h2, h3⟩ := h.ls.ex
  have := wRead h1 n hn hl
  rw [hr] at this
  refine this.mono (fun e w' ⟨v, e1, hR, hB⟩ => ?_)
  obtain ⟨A, c, rfl⟩ := Kd.R_slice hR
  exact ⟨A, c, e1, (Kd.R_reads' hR).2.1, (Kd.R_reads' hR).2.2, h.below hB⟩
theorem read_find {D : DD} {m : ByteArray} {b : List Int} (hF : D.find m = some ⟨m, b, b.length⟩) : D.read m = (b, true) := by
  unfold DD.read
  rw [hF]
theorem first_full {room : Int} {b : List Int} (hb : ¬ (b.length : Int) ≤ room) : (⟨[], room, false, 0, false⟩ : DD).lay nf true b = (12, ⟨[], room, false, 0, false⟩) := by
  unfold DD.lay
  rw [if_neg (fun h => Bool.noConfusion h), if_neg (show ¬ namedB nf = false from by rw [show namedB nf = true by kernel_rfl]; decide)]
  have e : (⟨[], room, false, 0, false⟩ : DD).was nf = ([], 0) := rfl
  rw [e, if_pos]
  show ((sumL [] : Nat) : Int) - (([] : List Int).length : Int) + ((0 : Nat) : Int) + b.length > room
  simp [sumL]
  omega
theorem none_sync (room : Int) : (⟨[], room, false, 0, false⟩ : DD).sync nf = (7, ⟨[], room, false, 0, false⟩) := chg_none (fun h => Bool.noConfusion h) rfl
end Go.Proofs.Ytcejkfjjildngaa
end

section
/- DiskApart, walked -/
set_option linter.unusedVariables false
set_option linter.unusedSimpArgs false
set_option autoImplicit false
namespace Go.Proofs.Ytcejkfjjildngaa.G
open Go Go.RowKit Go.Proofs.Ytcejkfjjildngaa Go.Proofs.YtcejkfjjildngaaW.PrintWords Go.Proofs.YtcejkfjjildngaaW.PrintLast Go.Proofs.YtcejkfjjildngaaW.PrintMore

def okA (l : List Ac) : Prop := l.length ≤ 140737488351232 ∧ ∀ a ∈ l, a.f3.length ≤ 140737488351232 ∧ u8s a.f3 ∧ a.f4 ≤ 9223372036854775807
instance (l : List Ac) : Decidable (okA l) := inferInstanceAs (Decidable (_ ∧ ∀ a ∈ l, _ ∧ _ ∧ _))
theorem sum_mono {α : Type} (l : List α) (f g : α → Nat) (h : ∀ x, f x ≤ g x) : (l.map f).sum ≤ (l.map g).sum := by
  induction l with
  | nil => exact Nat.le_refl _
  | cons x l ih => simp only [List.map_cons, List.sum_cons]; have := h x; omega
def sumX (L : List S43) (j : Nat) : Nat := ((L.take j).map fun x => x.f1.length).sum
theorem sumX_succ (L : List S43) (j : Nat) (hj : j < L.length) : sumX L (j + 1) = sumX L j + L[j].f1.length := by
  unfold sumX
  rw [List.take_add_one, List.getElem?_eq_getElem hj, List.map_append, List.sum_append]
  simp only [Option.toList_some, List.map_cons, List.map_nil, List.sum_cons, List.sum_nil, Nat.add_zero]
theorem sumX_le (L : List S43) (j : Nat) : sumX L j ≤ (L.map fun x => x.f1.length).sum := by
  unfold sumX
  have h : (L.map fun x => x.f1.length).sum = ((L.take j).map fun x => x.f1.length).sum + ((L.drop j).map fun x => x.f1.length).sum := by
    rw [← List.sum_append, ← List.map_append, List.take_append_drop]
  omega
theorem rd_file (l : List S43) (j : Nat) (hj : j < l.length) : rd_T43 l (j : Int) = l[j] := by
  show l.getD (j : Int).toNat _ = _
  rw [Int.toNat_natCast, List.getD_eq_getElem?_getD, List.getElem?_eq_getElem hj]
  rfl
def rosettelaw19_DiskApart.f (a0 : Int) (l1 : List Int) (l2 : List Ac) : Option Bool := if a0 ≤ 9223372036854775807 ∧ okA l2 ∧ u8s l1 then some true else none
set_option maxRecDepth 100000 in
set_option maxHeartbeats 8000000 in
theorem rosettelaw19_DiskApart.calls (a0 : Int) (A1 : Option Addr) (c1 : Nat) (l1 : List Int) (A2 : Option Addr) (c2 : Nat) (l2 : List Ac) (r : Bool) (w : World) (hr1 : Kd.C (Kd.int .u8) w A1 l1.length l1) (hc1 : l1.length ≤ c1) (hr2 : Kd.C k34 w A2 l2.length l2) (hc2 : l2.length ≤ c2) (h : rosettelaw19_DiskApart.f a0 l1 l2 = some r) :
    Calls Try.prog 3 #[.int .i64 a0, .slice A1 l1.length c1, .slice A2 l2.length c2] w fun e w' => e = .returned (.bool r) ∧ Below w.heap.size w w' := by
  unfold rosettelaw19_DiskApart.f at h
  split at h
  case isFalse => cases h
  case isTrue hu =>
  obtain rfl := Option.some.inj h
  obtain ⟨kF, rF, hkF, hFew⟩ := few_acts l2 hu.2.1.1 hu.2.1.2
  have HU := Aside0.mk hu
  have HR1 := Aside0.mk (And.intro hr1 hc1)
  have HR2 := Aside0.mk (And.intro hr2 hc2)
  have HFEW := Aside0.mk hFew
  clear h hu hr1 hc1 hr2 hc2 hFew
  go_enter Try.func3, Try.ntmps3
  go_wp2_with fail
  refine (small_any w).mono ?_
  rintro e w1 ⟨rfl, hB1⟩
  go_wp2_with fail
  refine (rosettelaw19_Few.calls kF A2 c2 l2 rF w1 (Kd.C_below HR2.out.1 hB1) HR2.out.2 hkF).mono ?_
  rintro e w1' ⟨rfl, hD1⟩
  have hB1' := hB1.trans ((drawn_below19 hD1).mono hB1.size)
  clear hD1 hkF
  go_wp2_with fail
  refine (lnew a0 HU.out.1 w1').mono ?_
  rintro e w2 ⟨g, rfl, h2⟩
  have H2 := Aside0.mk (h2.weak hB1').args
  clear h2 hB1 hB1'
  cases rF with
  | false =>
    go_wp2_with fail
    go_ret
    exact ⟨rfl, H2.out.bel⟩
  | true =>
  have HA := Aside0.mk (HFEW.out rfl)
  clear HFEW
  have hl2u := HA.out.len
  by_cases hl1 : l1.length > 1000
  case pos =>
    have hl1' : (l1.length : Int) > 1000 := by omega
    go_wp2_with fail
    go_ret
    exact ⟨rfl, H2.out.bel⟩
  have hl1' : ¬ (l1.length : Int) > 1000 := by omega
  have hl1u : l1.length ≤ 1000 := by omega
  go_wp2_with fail
  refine (DX.new H2.out a0).mono ?_
  rintro e w3 ⟨gx, rfl, h3, -⟩
  have H3 := Aside0.mk h3
  clear h3 H2
  have HH1 := Aside0.mk (HeldB.low HR1.out.1)
  go_wp2_with fail
  have hw0 : HeldB w3 (fun k => k < w.heap.size) A1 l1 := HH1.out.keep (fun k hk _ => H3.out.bel.block k hk)
  refine (dWrite H3.out nf (by decide) A1 c1 l1 hw0 HR1.out.2 HU.out.2.2 (by show sumL [] + l1.length ≤ 30000; simp [sumL]; omega)).mono ?_
  clear hw0
  rintro e w4 ⟨rfl, h4, -⟩
  have H4 := Aside0.mk h4
  clear h4 H3
  by_cases hr : (l1.length : Int) ≤ max a0 0
  case neg =>
    rw [first_full hr] at H4 ⊢
    go_wp2_with fail
    refine (dSync H4.out nf (by decide)).mono ?_
    rintro e w5 ⟨rfl, h5, -⟩
    have H5 := Aside0.mk h5
    clear h5 H4
    rw [none_sync]
    go_wp2_with fail
    go_ret
    exact ⟨rfl, H5.out.bel⟩
  have hfl := first_lay (room := max a0 0) (show namedB nf = true by kernel_rfl) l1 hr
  rw [hfl] at H4 ⊢
  clear hfl
  go_wp2_with fail
  refine (dSync H4.out nf (by decide)).mono ?_
  rintro e w5 ⟨rfl, h5, -⟩
  have H5 := Aside0.mk h5
  clear h5 H4
  have hso := sync_one (max a0 0) ⟨nf, l1, 0⟩
  simp only at hso
  rw [hso] at H5 ⊢
  clear hso
  have hg5 : (fun k => k < w.heap.size) = (fun k => k < w.heap.size) := rfl
  clear hg5
  go_wp2_with fail
  have hw0 : HeldB w5 (fun k => k < w.heap.size) A1 l1 := HH1.out.keep (fun k hk _ => H5.out.bel.block k hk)
  refine (yWrite H5.out nf A1 c1 l1 hw0 HR1.out.2 (by decide) (by omega)).mono ?_
  clear hw0
  rintro e w6 ⟨⟨xi, rfl⟩, h6, -⟩
  have H6 := Aside0.mk h6
  clear h6 H5
  go_wp2_with fail
  refine (ySync H6.out nf (by decide)).mono ?_
  rintro e w7 ⟨⟨xj, rfl⟩, h7, -⟩
  have H7 := Aside0.mk (And.intro (show DX (fun k => k < w.heap.size) w w7 g _ gx (l1.length + sumTo l2 0) (1 + 0) from h7.weak (by omega) (by omega)) (And.intro (show Inv l2 (D1 (max a0 0) ⟨nf, l1, l1.length⟩ false 0 false) a0 l1.length 0 from ⟨by show sumL [_] ≤ _; simp [sumL], by show [_].length ≤ _; simp, rfl⟩) (find_one (max a0 0) ⟨nf, l1, l1.length⟩ false 0 false)))
  clear h7 H6
  go_wp2_with fail
  go_loopw [13, 14, 15] (fun i _ _ wr => ∃ (j : Nat) (D : DD), j ≤ l2.length ∧ i = .int .i64 j ∧ Aside0 (DX (fun k => k < w.heap.size) w wr g D gx (l1.length + sumTo l2 j) (1 + j) ∧ Inv l2 D a0 l1.length j ∧ D.find nf = some ⟨nf, l1, l1.length⟩)) (fun i _ _ _ => l2.length - (intOf i).toNat)
  case atStart => exact ⟨0, _, Nat.zero_le _, rfl, H7⟩
  case round =>
    obtain ⟨j, D, hj, rfl, HD⟩ := hrel
    clear H7
    by_cases hlt : j < l2.length
    case neg =>
      obtain rfl : j = l2.length := by omega
      go_wp2_with fail
      go_ret
      exact ⟨rfl, HD.out.1.bel⟩
    obtain ⟨ad, Ab, cb, hA2, z0, z1, z2, z3, z4, hcb, hb⟩ := act_at HR2.out.1 HD.out.1.bel j hlt hlt
    have HC := Aside0.mk (do_at HD.out.1 HD.out.2.1 HA.out (by omega) hlt Ab cb hb hcb)
    have HAP := Aside0.mk (fun (h1 : l2[j].f1 ≠ nf) (h2 : l2[j].f2 ≠ nf) => act_apart HD.out.1.ok l2[j] h1 h2 HD.out.2.2)
    have HSK := Aside0.mk (show DX (fun k => k < w.heap.size) w wr g D gx (l1.length + sumTo l2 (j + 1)) (1 + (j + 1)) ∧ Inv l2 D a0 l1.length (j + 1) from by
      have h_ := sumTo_succ l2 j hlt
      exact ⟨HD.out.1.weak (by omega) (by omega), ⟨by have := HD.out.2.1.sum; omega, by have := HD.out.2.1.cnt; omega, HD.out.2.1.room⟩⟩)
    have HST := Aside0.mk (show sumTo l2 (j + 1) ≤ 5000 from by have := sumTo_all l2 (j + 1); have := HA.out.sum; omega)
    clear hb hcb
    generalize l2[j] = x at z0 z1 z2 z3 z4 HC HAP
    subst hA2
    go_upto_region 16 with fail
    go_cut [79] (fun v wx => ∃ q : Bool, v = .bool q ∧ Aside0 (q = true → x.f1 ≠ nf ∧ x.f2 ≠ nf) ∧ wx = wr)
    case first =>
      have hnf : nf.toList = [102] := by kernel_rfl
      by_cases h1 : x.f1.toList = [102]
      case pos =>
        have h1a : (x.f1.toList == [102]) = true := by simpa using h1
        have h1b : (x.f1.toList != [102]) = false := by simpa using h1
        clear hnf
        go_wp2_with fail
        go_meet
        exact ⟨_, rfl, ⟨fun h => absurd h (by decide)⟩, rfl⟩
      have h1a : (x.f1.toList == [102]) = false := by simpa using h1
      have h1b : (x.f1.toList != [102]) = true := by simpa using h1
      by_cases h2 : x.f2.toList = [102]
      case pos =>
        have h2a : (x.f2.toList == [102]) = true := by simpa using h2
        have h2b : (x.f2.toList != [102]) = false := by simpa using h2
        clear hnf
        go_wp2_with fail
        go_meet
        exact ⟨_, rfl, ⟨fun h => absurd h (by decide)⟩, rfl⟩
      have h2a : (x.f2.toList == [102]) = false := by simpa using h2
      have h2b : (x.f2.toList != [102]) = true := by simpa using h2
      have HNE := Aside0.mk (show x.f1 ≠ nf ∧ x.f2 ≠ nf from ⟨fun e => h1 (e ▸ hnf), fun e => h2 (e ▸ hnf)⟩)
      clear hnf
      go_wp2_with fail
      go_meet
      exact ⟨_, rfl, ⟨fun _ => HNE.out⟩, rfl⟩
    case rest =>
    obtain ⟨q, rfl, HQ, rfl⟩ := hcut
    go_upto_if 79 with fail
    go_cut [] (fun wx => ∃ D', Aside0 (DX (fun k => k < w.heap.size) w wx g D' gx (l1.length + sumTo l2 (j + 1)) (1 + (j + 1)) ∧ Inv l2 D' a0 l1.length (j + 1) ∧ D'.find nf = some ⟨nf, l1, l1.length⟩))
    case first =>
      cases q with
      | false =>
        go_wp2_with fail
        go_meet
        exact ⟨D, ⟨HSK.out.1, HSK.out.2, HD.out.2.2⟩⟩
      | true =>
        have HFIN := Aside0.mk (HAP.out (HQ.out rfl).1 (HQ.out rfl).2)
        go_wp2_with fail
        refine HC.out.mono ?_
        rintro e wd ⟨⟨q2, rfl⟩, hd, hi⟩
        have HD1 := Aside0.mk (And.intro hd (And.intro hi HFIN.out))
        clear hd hi
        go_wp2_with fail
        go_meet
        exact ⟨_, HD1⟩
    case rest =>
    obtain ⟨D', HD'⟩ := hcut
    clear HD HSK HC HAP HQ z0 z1 z2 z3 z4
    go_wp2_with fail
    refine (dRead HD'.out.1 nf (by decide) (by have := HD'.out.2.1.sum; have := HST.out; omega) (read_find HD'.out.2.2)).mono ?_
    rintro e w9 ⟨Ac, cc, rfl, hcc, hcC, h9⟩
    have H9 := Aside0.mk (And.intro h9 (And.intro HD'.out.2.1 HD'.out.2.2))
    have hcv2 : (convert 22 9 (.slice Ac l1.length cc)).run Try.prog w9 = .ok (.string (strOfNums l1)) w9 := Kd.C_string (P := Try.prog) (c := cc) Try.underlying22 Try.underlying5 Try.underlying9 hcC
    have hcv1 : (convert 22 9 (.slice A1 l1.length c1)).run Try.prog w9 = .ok (.string (strOfNums l1)) w9 := Kd.C_string (P := Try.prog) (c := c1) Try.underlying22 Try.underlying5 Try.underlying9 (Kd.C_below HR1.out.1 h9.bel)
    clear h9 hcC
    generalize strOfNums l1 = sx at hcv1 hcv2
    have b3 : (sx.toList != sx.toList) = false := by simp
    go_wp2_with fail
    exact ⟨⟨j + 1, D', by omega, by go_num, H9⟩, by simp [intOf]; omega⟩
end Go.Proofs.Ytcejkfjjildngaa.G
end

section
namespace Go.Proofs.Ytcejkfjjildngaa.G
open Go.RowKit Go.Proofs.Ytcejkfjjildngaa Go.Proofs.Ytcejkfjjildngaa.G Go.Proofs.YtcejkfjjildngaaW.PrintWords Go.Proofs.YtcejkfjjildngaaW.PrintLast

/-- The pure statement of rosettelaw19_DiskApart. -/
def rosettelaw19_DiskApart.Pure : Prop := ∀ (a0 : Int) (l1 : (List Int)) (l2 : (List S34)), (Lit.int .i64 a0).wf = true → ((l1.length ≤ maxLen ∧ l1.length * 1 ≤ 140737488351232) ∧ ∀ x0 ∈ l1, (Lit.int .u8 x0).wf = true) → ((l2.length ≤ maxLen ∧ l2.length * 72 ≤ 140737488351232) ∧ ∀ x0 ∈ l2, ((Lit.int .i64 x0.f0).wf = true ∧ (x0.f1.size ≤ 140737488351232 ∧ (x0.f2.size ≤ 140737488351232 ∧ (((x0.f3.length ≤ maxLen ∧ x0.f3.length * 1 ≤ 140737488351232) ∧ ∀ x1 ∈ x0.f3, (Lit.int .u8 x1).wf = true) ∧ (Lit.int .i64 x0.f4).wf = true))))) → rosettelaw19_DiskApart.f a0 l1 l2 = some true
end Go.Proofs.Ytcejkfjjildngaa.G
end

section
/- The statement DiskApart over numbers and lists: a file that was synced is as it was, whatever is done to others. -/
set_option linter.unusedVariables false
namespace Go.Proofs.Ytcejkfjjildngaa.Pure
open Go Go.RowKit Go.Proofs.Ytcejkfjjildngaa Go.Proofs.Ytcejkfjjildngaa.G Go.Proofs.YtcejkfjjildngaaW.PrintWords Go.Proofs.YtcejkfjjildngaaW.PrintLast

theorem wf_u8 {l : List Int} (h : ∀ x ∈ l, (Lit.int .u8 x).wf = true) : u8s l := fun x hx => by
  have := h x hx
  simp only [Lit.wf, Bool.and_eq_true, decide_eq_true_eq] at this
  have h1 : IntKind.u8.min = 0 := rfl
  have h2 : IntKind.u8.max = 255 := rfl
  omega
theorem wf_i64 {n : Int} (h : (Lit.int .i64 n).wf = true) : -9223372036854775808 ≤ n ∧ n ≤ 9223372036854775807 := by
  simp only [Lit.wf, Bool.and_eq_true, decide_eq_true_eq] at h
  have h1 : IntKind.i64.min = -9223372036854775808 := rfl
  have h2 : IntKind.i64.max = 9223372036854775807 := rfl
  omega
theorem DiskApart : rosettelaw19_DiskApart.Pure := by
  intro a0 l1 l2 h0 h1 h2
  unfold rosettelaw19_DiskApart.f
  rw [if_pos ⟨(wf_i64 h0).2, ⟨by have := h2.1.2; omega, fun a ha => ⟨by have := (h2.2 a ha).2.2.2.1.1.2; omega, wf_u8 (h2.2 a ha).2.2.2.1.2, (wf_i64 (h2.2 a ha).2.2.2.2).2⟩⟩, wf_u8 h1.2⟩]
end Go.Proofs.Ytcejkfjjildngaa.Pure
end
