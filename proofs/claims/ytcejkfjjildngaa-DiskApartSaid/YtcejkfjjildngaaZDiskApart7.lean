import Derived.Test.YtcejkfjjildngaaZDiskApart6
import Derived.Test.YtcejkfjjildngaaZDiskApart4
import Derived.BigQuiet
import Derived.Deep.QuietTactic
import Derived.Deep.CutRange
import Derived.Deep.DeepCutAuto
section
/- the reference's disk: write -/
set_option linter.unusedVariables false
set_option linter.unusedSimpArgs false
set_option autoImplicit false
namespace Go.Proofs.Ytcejkfjjildngaa
open Go Go.RowKit Go.Proofs.YtcejkfjjildngaaW.PrintWords Go.Proofs.YtcejkfjjildngaaW.PrintLast Go.Proofs.YtcejkfjjildngaaW.PrintMore Go.Proofs.Ytcejkfjjildngaa.G

/-- ahead of region 9: the box of the file, its data, the disk -/
structure Bx (S : Nat → Prop) (w W : World) (g : Nat) (F : List S43) (A : Option Addr) (c : Nat) (room left : Int) (is : Bool) (M N : Nat) (Ab : Option Addr) (b : List Int) (nm : ByteArray) (Ad : Option Addr) (l : List Int) (cd : Nat) (s : Int) : Prop where
  x : XP S W g F A c room left is M N
  fr : Fr (fun k => k = g) w W
  box : W.heap[w.heap.size]? = some (.cells #[.string nm, .slice Ad l.length cd, .int .i64 s] 43 (0, 0))
  data : (Kd.int .u8).R 5 W 0 S (.slice Ad l.length cd) l
  s0 : 0 ≤ s
  s1 : s ≤ l.length
  m : l.length ≤ M
  b : HeldB W (fun k => k ≠ g ∧ k < w.heap.size) Ab b
  gl : g < w.heap.size
  sl : ∀ k, S k → k < w.heap.size
theorem Bx.new {S : Nat → Prop} {w : World} {g : Nat} {F : List S43} {A : Option Addr} {c : Nat} {room left : Int} {M N : Nat} {Ab : Option Addr} {b : List Int} (nm : ByteArray) {Ad : Option Addr} {l : List Int} {cd : Nat} {s : Int}
    (h : XP S w g F A c room left false M N) (hb : HeldB w (fun k => k ≠ g ∧ k < w.heap.size) Ab b) (hd : (Kd.int .u8).R 5 w 0 S (.slice Ad l.length cd) l) (s0 : 0 ≤ s) (s1 : s ≤ l.length) (m : l.length ≤ M) :
    Bx S w (w.alloc (.cells #[.string nm, .slice Ad l.length cd, .int .i64 s] 43 (0, 0))) g F A c room left false M N Ab b nm Ad l cd s :=
  have hB : Below w.heap.size w (w.alloc (.cells #[.string nm, .slice Ad l.length cd, .int .i64 s] 43 (0, 0))) := (Below.refl w.heap.size w).alloc (Nat.le_refl _) _
  ⟨h.below hB, Fr.of_below hB, heap_alloc_new w _, Kd.R_below hd hB, s0, s1, m, hb.below hB, h.bound g h.own, h.bound⟩
theorem Bx.below {S : Nat → Prop} {w W W' : World} {g : Nat} {F : List S43} {A : Option Addr} {c : Nat} {room left : Int} {is : Bool} {M N : Nat} {Ab : Option Addr} {b : List Int} {nm : ByteArray} {Ad : Option Addr} {l : List Int} {cd : Nat} {s : Int}
    (h : Bx S w W g F A c room left is M N Ab b nm Ad l cd s) (hB : Below W.heap.size W W') : Bx S w W' g F A c room left is M N Ab b nm Ad l cd s :=
  ⟨h.x.below hB, h.fr.trans (Fr.of_below hB) (fun k hk => .inl hk), (hB.block _ (blk_lt h.box)).trans h.box, Kd.R_below h.data hB, h.s0, h.s1, h.m, h.b.below hB, h.gl, h.sl⟩
theorem Bx.spend {S : Nat → Prop} {w W W' : World} {g : Nat} {F : List S43} {A : Option Addr} {c : Nat} {room left left' : Int} {is is' : Bool} {M N : Nat} {Ab : Option Addr} {b : List Int} {nm : ByteArray} {Ad : Option Addr} {l : List Int} {cd : Nat} {s : Int}
    (h : Bx S w W g F A c room left is M N Ab b nm Ad l cd s) (h1 : XP S W' g F A c room left' is' M N) (hf : Fr (fun k => k = g) W W') : Bx S w W' g F A c room left' is' M N Ab b nm Ad l cd s :=
  ⟨h1, h.fr.trans hf (fun k hk => .inl hk), (hf.block _ (blk_lt h.box) (fun e => by have := h.gl; omega)).trans h.box, h.x.data h.data hf, h.s0, h.s1, h.m, h.b.keep (fun k hk hS => hf.block k hk hS.1), h.gl, h.sl⟩
/-- in the loop: the box, the row that is made -/
structure Wx (S : Nat → Prop) (w W : World) (g B : Nat) (F : List S43) (A : Option Addr) (c : Nat) (room : Int) (M N : Nat) (Ab : Option Addr) (b : List Int) (bx : Array Value) (v : Value) (xs : List Int) : Prop where
  x : ∃ left is, XP S W g F A c room left is M N
  fr : Fr (fun k => k = g) w W
  box : W.heap[w.heap.size]? = some (.cells bx 43 (0, 0))
  row : (Kd.int .u8).R 5 W B (fun _ => True) v xs
  b : HeldB W (fun k => k ≠ g ∧ k < w.heap.size) Ab b
  gl : g < w.heap.size
  sl : ∀ k, S k → k < w.heap.size
  hB : w.heap.size < B
  hW : B ≤ W.heap.size
section
variable {S : Nat → Prop} {w W W' : World} {g B : Nat} {F : List S43} {A : Option Addr} {c : Nat} {room left' : Int} {is' : Bool} {M N : Nat} {Ab : Option Addr} {b : List Int} {bx : Array Value} {v : Value} {xs : List Int}
theorem Wx.spend (h : Wx S w W g B F A c room M N Ab b bx v xs) (h1 : XP S W' g F A c room left' is' M N) (hf : Fr (fun k => k = g) W W') : Wx S w W' g B F A c room M N Ab b bx v xs :=
  ⟨⟨_, _, h1⟩, h.fr.trans hf (fun k hk => .inl hk), (hf.block _ (blk_lt h.box) (fun e => by have := h.gl; omega)).trans h.box,
    Kd.R_mono (Kd.R_move (Kd.R_bound h.row) (fun k hk => hf.block k hk.2.2.1 (fun e => by have := h.gl; have := h.hB; have := hk.2.1; omega))) (fun _ _ => trivial),
    h.b.keep (fun k hk hS => hf.block k hk hS.1), h.gl, h.sl, h.hB, Nat.le_trans h.hW hf.size⟩
theorem Wx.grow (h : Wx S w W g B F A c room M N Ab b bx v xs) {v1 : Value} {xs1 : List Int} (hb : Below B W W') (hr : (Kd.int .u8).R 5 W' B (fun _ => True) v1 xs1) : Wx S w W' g B F A c room M N Ab b bx v1 xs1 := by
  obtain ⟨l1, i1, hx⟩ := h.x
  have hB := h.hB
  have hg := h.gl
  exact ⟨⟨l1, i1, hx.keep (fun k hk => hb.block k (by have := h.sl k hk; omega)) hb.size⟩, h.fr.trans (Fr.mono (S' := fun k => B ≤ k) ⟨hb.os, hb.tape, hb.output, hb.size, fun k hk (hn : ¬ B ≤ k) => hb.block k (by omega)⟩ (fun k hk => hk)) (fun k hk => .inr (by omega)), (hb.block _ hB).trans h.box, hr,
    h.b.keep (fun k hk hS => hb.block k (by have := hS.2; omega)), h.gl, h.sl, h.hB, Nat.le_trans h.hW hb.size⟩
theorem Wx.start {left : Int} {is : Bool} {nm : ByteArray} {Ad : Option Addr} {l : List Int} {cd : Nat} {s : Int} (h : Bx S w W g F A c room left is M N Ab b nm Ad l cd s) (hb : Below W.heap.size W W') (hr : (Kd.int .u8).R 5 W' W.heap.size (fun _ => True) v xs) :
    Wx S w W' g W.heap.size F A c room M N Ab b #[.string nm, .slice Ad l.length cd, .int .i64 s] v xs :=
  ⟨⟨_, _, h.x.below hb⟩, h.fr.trans (Fr.of_below hb) (fun k hk => .inl hk), (hb.block _ (blk_lt h.box)).trans h.box, hr, h.b.below hb, h.gl, h.sl, blk_lt h.box, hb.size⟩
theorem Wx.wide (h : Wx S w W g B F A c room M N Ab b bx v xs) (M' : Nat) (hM : M ≤ M') : ∃ S1 left is, XP S1 W g F A c room left is M' N ∧ (Kd.int .u8).R 5 W 0 S1 v xs ∧ (∀ k, S k → S1 k) ∧ ∀ k, S1 k → S k ∨ w.heap.size ≤ k := by
  obtain ⟨l1, i1, hx⟩ := h.x
  have hB := h.hB
  refine ⟨fun k => S k ∨ (B ≤ k ∧ k < W.heap.size), l1, i1, ?_, Kd.R_mono (Kd.R_lower (Kd.R_bound h.row) (Nat.zero_le _)) (fun k hk => .inr ⟨hk.2.1, hk.2.2.1⟩), fun k hk => .inl hk, fun k hk => hk.imp id (fun hk => by omega)⟩
  have hx := hx.weak hM (Nat.le_refl N)
  exact ⟨fun k hk => hk.elim (hx.bound k) (fun hk => hk.2), .inl hx.own, hx.cells, Kd.R_mono hx.row (fun k hk => .inl hk), hx.files, hx.cnt, hx.left0, hx.left1⟩
end
theorem info_u8x : (Try.prog.info? 5).map (fun i => (i.zero, i.size, i.bytes)) = some (some (.int .u8 0), 1, 1) := by kernel_rfl
set_option maxRecDepth 100000 in
set_option maxHeartbeats 8000000 in
theorem xwrite {S : Nat → Prop} {w : World} {g : Nat} {F : List S43} {A : Option Addr} {c : Nat} {room left : Int} {is : Bool} {M N : Nat} (h : XP S w g F A c room left is M N) (n : ByteArray) (Ab : Option Addr) (cb : Nat) (b : List Int)
    (hb : HeldB w (fun k => k ≠ g ∧ k < w.heap.size) Ab b) (hcb : b.length ≤ cb) (an : Bool) (hN : N ≤ 1000000) (hM : M + b.length ≤ 1000000) :
    Calls Try.prog 30 #[.pointer (some ⟨g, 0, none⟩), .string n, .slice Ab b.length cb, .bool an] w fun e w' => IsInt e ∧ XGrow S w w' g (M + b.length) (N + 1) := by
  obtain ⟨⟨c0, c1, c2, c3⟩, -⟩ := h.at
  have H := Aside0.mk h
  have HB := Aside0.mk (And.intro hb hcb)
  have HSAME := Aside0.mk (show XGrow S w w g (M + b.length) (N + 1) from (h.grow0 (Fr.refl _ _)).weak (Nat.le_add_right _ _) (Nat.le_succ _))
  have HAT := Aside0.mk (xat h n hN)
  clear h hb
  go_enter Try.func30, Try.ntmps30
  cases is with
  | true =>
    go_wp2_with fail
    go_ret
    exact ⟨⟨_, rfl⟩, HSAME.out⟩
  | false =>
  by_cases hs1 : (n.size : Int) < 1
  case pos =>
    go_wp2_with fail
    go_ret
    exact ⟨⟨_, rfl⟩, HSAME.out⟩
  by_cases hs2 : (n.size : Int) > 24
  case pos =>
    go_wp2_with fail
    go_ret
    exact ⟨⟨_, rfl⟩, HSAME.out⟩
  go_wp2_with fail
  refine HAT.out.mono ?_
  rintro e w1 ⟨i, rfl, hi, rfl⟩
  have HAT0 := Aside0.mk (show i < F.length from hi.2)
  clear HAT hi
  go_upto_region 7 with fail
  go_cut [35] from 30 to 35 (fun p wx => ∃ q : Bool, p = .bool q ∧ Aside0 (q = true → 0 ≤ i) ∧ wx = w1.alloc (.cells #[.string n, .slice none 0 0, .int .i64 0] 43 (0, 0)))
  case first =>
    by_cases hi0 : i < 0
    case pos =>
      have hi1 : ¬ i ≥ 0 := by omega
      go_wp2_with fail
      go_meet
      exact ⟨_, rfl, ⟨fun h => absurd h (by decide)⟩, rfl⟩
    have hi1 : i ≥ 0 := by omega
    go_wp2_with fail
    go_meet
    exact ⟨_, rfl, ⟨fun _ => hi1⟩, rfl⟩
  case rest =>
  obtain ⟨q, rfl, HQ, rfl⟩ := hcut
  go_upto_if 35 with fail
  go_cut [] from 36 to 42 (fun wx => ∃ nm Ad l cd s, Aside0 (Bx S w1 wx g F A c room left false M N Ab b nm Ad l cd s))
  case first =>
    cases q with
    | false =>
      go_wp2_with fail
      go_meet
      exact ⟨_, _, _, _, _, ⟨Bx.new n H.out HB.out.1 (l := []) (Ad := none) (cd := 0) (s := 0) (Kd.R_nil _ _ _ _ _) (by decide) (by simp) (Nat.zero_le _)⟩⟩
    | true =>
      obtain ⟨j, rfl⟩ : ∃ j : Nat, i = (j : Int) := ⟨i.toNat, by have := HQ.out rfl; omega⟩
      have hj : j < F.length := by have := HAT0.out; omega
      have hB1 : Below w1.heap.size w1 (w1.alloc (.cells #[.string n, .slice none 0 0, .int .i64 0] 43 (0, 0))) := (Below.refl w1.heap.size w1).alloc (Nat.le_refl _) _
      have h1 := H.out.below hB1
      obtain ⟨⟨c0, -, -, -⟩, -⟩ := h1.at
      obtain ⟨ad, c', vd, hv, z0, z1, z2, hR⟩ := row_elem h1.row j hj
      injection hv with hA _ hc'
      subst hA
      have hFO := H.out.files F[j] (List.getElem_mem hj)
      obtain ⟨Ad, cd, rfl⟩ := Kd.R_slice hR
      have HX := Aside0.mk (And.intro (Kd.R_move hR (fun k hk => (hB1.block k (H.out.bound k hk)).symm) : (Kd.int .u8).R 5 w1 0 S _ _) hFO)
      clear hR hFO hc' h1 hB1
      generalize F[j] = x at z0 z1 z2 HX
      go_wp2_with fail
      go_meet
      exact ⟨_, _, _, _, _, ⟨Bx.new x.f0 H.out HB.out.1 HX.out.1 HX.out.2.s0 HX.out.2.s1 HX.out.2.m⟩⟩
  case rest =>
    obtain ⟨nm, Ad_, l, cd_, sf, HX⟩ := hcut
    clear HB H c0 c1 c2 c3
    obtain ⟨⟨c0, c1, c2, c3⟩, -⟩ := HX.out.x.at
    have k1 := cell_of_row (j := 1) _ _ _ _ _ HX.out.box
    have k2 := cell_of_row (j := 2) _ _ _ _ _ HX.out.box
    have hU : ∀ q, Calls Try.prog 49 #[.pointer (some ⟨g, 0, none⟩), .string n] (wc.drewN q) fun e w' => e = .returned (.int .i64 (usedX n F)) ∧ w' = wc.drewN q := fun q => xused (HX.out.x.below (pw_below_drewN (Below.refl _ _) q)) n hN
    generalize usedX n F = U at hU
    go_upto_region 9 with fail
    go_quiet (first | (go_at_call 49; exact Calls.quiet_of_same (hU _)))
    have HX9 := Aside0.mk (HX.out.below (pw_below_drewN (Below.refl _ _) nq))
    clear HX hU c0 c1 c2 c3 k1 k2
    generalize wc.drewN nq = W at HX9 ⊢
    obtain ⟨⟨c0, c1, c2, c3⟩, -⟩ := HX9.out.x.at
    have k1 := cell_of_row (j := 1) _ _ _ _ _ HX9.out.box
    have k2 := cell_of_row (j := 2) _ _ _ _ _ HX9.out.box
    by_cases hfull : room < wrap64 (wrap64 (U + (l.length : Int)) + (b.length : Int))
    case pos =>
      have hfd : decide (room < wrap64 (wrap64 (U + (l.length : Int)) + (b.length : Int))) = true := decide_eq_true hfull
      go_wp2_with fail
      go_ret
      exact ⟨⟨_, rfl⟩, (HX9.out.x.grow0 HX9.out.fr).weak (Nat.le_add_right _ _) (Nat.le_succ _)⟩
    have hfd : decide (room < wrap64 (wrap64 (U + (l.length : Int)) + (b.length : Int))) = false := decide_eq_false hfull
    have hb0 := HX9.out.m
    go_wp2_with fail
    clear hfull hfd
    refine (xspend HX9.out.x).mono ?_
    rintro e w2 ⟨⟨q1, rfl⟩, left1, is1, h1, hf1⟩
    have H1 := Aside0.mk (HX9.out.spend h1 hf1)
    clear h1 hf1 HX9 c0 c1 c2 c3 k1 k2
    cases q1 with
    | false =>
      go_wp2_with fail
      go_ret
      exact ⟨⟨_, rfl⟩, (H1.out.x.grow0 H1.out.fr).weak (Nat.le_add_right _ _) (Nat.le_succ _)⟩
    | true =>
    have k1 := cell_of_row (j := 1) _ _ _ _ _ H1.out.box
    have k2 := cell_of_row (j := 2) _ _ _ _ _ H1.out.box
    obtain ⟨-, hlc, hlC⟩ := Kd.R_reads' H1.out.data
    have HLC := Aside0.mk hlC
    clear hlC
    have hbm := hM
    have k1' := cell_of_row (j := 1) _ _ _ _ _ ((Below.alloc (Below.refl w2.heap.size w2) (Nat.le_refl _) (.cells #[] 5 (0, 0))).block _ (blk_lt H1.out.box) |>.trans H1.out.box)
    go_upto_region 14 with (at_builtin; refine Kd.R_append_rows (Kd.int .u8) (w0 := w2) w2.heap.size rfl (.tmp 61) (.tmp 63) 22 5 (.int .u8 0) 1 rfl Try.underlying22 info_u8x rfl (by decide) (by decide) (.slice (some ⟨w2.heap.size, 0, none⟩) 0 0) [] l Ad_ l.length cd_ (fun _ => True) (fun _ => False) rfl rfl (kd_R (xs := []) (World.ownsRow_made w2 #[] 0 (Nat.le_refl _) (by decide) rfl)) (Kd.C_alloc HLC.out _) (fun _ _ h => h) (fun _ h => h.elim) (fun _ _ => trivial) ((Below.refl _ _).alloc (Nat.le_refl _) _) (by simp) (by simp only [List.length_nil]; omega) ?_; intro v3 w3 hR3 hB3 hG3 hat3; rw [List.nil_append] at hR3; have HW3 := Aside0.mk (Wx.start H1.out hB3 hR3); obtain ⟨A3, c3_, rfl⟩ := Kd.R_slice hR3; clear hR3 hB3 hG3 hat3)
    have HS0 := Aside0.mk (And.intro H1.out.s0 (And.intro H1.out.s1 H1.out.m))
    clear H1 HLC k1 k2 k1' hlc
    go_wp2_with fail
    go_loopw [11, 12] (fun v i wr => ∃ (j : Nat) (xs : List Int) (Ao : Option Addr) (co : Nat), v = .slice Ao xs.length co ∧ j ≤ b.length ∧ i = .int .i64 j ∧ Aside0 (xs.length = l.length + j) ∧ Aside0 (Wx S w1 wr g w2.heap.size F A c room M N Ab b #[.string nm, .slice Ad_ l.length cd_, .int .i64 sf] (.slice Ao xs.length co) xs)) (fun _ i _ => b.length - (intOf i).toNat)
    case atStart => exact ⟨0, l, A3, c3_, rfl, Nat.zero_le _, rfl, ⟨rfl⟩, HW3⟩
    case round =>
      obtain ⟨j, xs, Ao, co, rfl, hj, rfl, HXL, HW⟩ := hrel
      clear HW3
      have hxl : xs.length ≤ 1000000 := by have := HXL.out; omega
      by_cases hlt : j < b.length
      case neg =>
        obtain rfl : j = b.length := by omega
        obtain ⟨S1, left2, is2, hx, hR, hs, hs'⟩ := HW.out.wide (M + b.length) (Nat.le_add_right _ _)
        have HP := Aside0.mk (xput hx ⟨n, xs, sf⟩ (.slice Ao xs.length co) hR ⟨HS0.out.1, by show sf ≤ (xs.length : Int); have := HS0.out.2.1; have := HXL.out; omega, by show xs.length ≤ _; have := HS0.out.2.2; have := HXL.out; omega, by show n.size ≤ 24; omega⟩ hN)
        have k2 := cell_of_row (j := 2) _ _ _ _ _ HW.out.box
        have HT := Aside0.mk (And.intro hs (And.intro hs' HW.out.fr))
        clear hx hR hs hs' HW
        go_wp2_with fail
        refine HP.out.mono ?_
        rintro e w5 ⟨rfl, h5⟩
        have H5 := Aside0.mk (XGrow.trans HT.out.2.2 HT.out.1 HT.out.2.1 h5)
        clear h5 HP HT
        go_wp2_with fail
        go_ret
        exact ⟨⟨_, rfl⟩, H5.out⟩
      obtain ⟨left2, is2, hx⟩ := HW.out.x
      go_wp2_with fail
      refine (xspend hx).mono ?_
      rintro e w3 ⟨⟨q2, rfl⟩, left3, is3, h3, hf3⟩
      have H3 := Aside0.mk (HW.out.spend h3 hf3)
      clear hx h3 hf3 HW
      cases q2 with
      | false =>
        obtain ⟨S1, left4, is4, hx, hR, hs, hs'⟩ := H3.out.wide (M + b.length) (Nat.le_add_right _ _)
        have HP := Aside0.mk (xput hx ⟨n, xs, sf⟩ (.slice Ao xs.length co) hR ⟨HS0.out.1, by show sf ≤ (xs.length : Int); have := HS0.out.2.1; have := HXL.out; omega, by show xs.length ≤ _; have := HS0.out.2.2; have := HXL.out; omega, by show n.size ≤ 24; omega⟩ hN)
        have k2 := cell_of_row (j := 2) _ _ _ _ _ H3.out.box
        have HT := Aside0.mk (And.intro hs (And.intro hs' H3.out.fr))
        clear hx hR hs hs' H3
        go_wp2_with fail
        refine HP.out.mono ?_
        rintro e w5 ⟨rfl, h5⟩
        have H5 := Aside0.mk (XGrow.trans HT.out.2.2 HT.out.1 HT.out.2.1 h5)
        clear h5 HP HT
        go_wp2_with fail
        go_ret
        exact ⟨⟨_, rfl⟩, H5.out⟩
      | true =>
        obtain ⟨ad, rfl, -, hcell⟩ := H3.out.b (by omega)
        have hcj := hcell j hlt
        have hsz := H3.out.hW
        clear hcell
        generalize rd b j = y at hcj
        go_wp2_with (at_builtin; refine app_num (w0 := w3) w2.heap.size rfl (.tmp 81) (.tmp 86) 22 5 .u8 1 rfl Try.underlying22 info_u8x (by decide) (.slice Ao xs.length co) xs y rfl rfl H3.out.row (Below.refl _ _) hsz (by omega) ?_; intro v4 w4 HR4 hB4; have HW4 := Aside0.mk (H3.out.grow hB4 HR4.out); obtain ⟨A4, c4_, rfl⟩ := Kd.R_slice HR4.out; clear HR4 hB4)
        exact ⟨⟨j + 1, xs ++ [y], A4, c4_, by rw [List.length_append]; rfl, by omega, by go_num, ⟨by have := HXL.out; simp only [List.length_append, List.length_singleton]; omega⟩, HW4⟩, by simp [intOf]; omega⟩
end Go.Proofs.Ytcejkfjjildngaa
end
