import Derived.Test.YtkbpkoiihgkkiaaSmall02
import Derived.Deep.RegionWith
import Derived.SliceStrings
import Derived.OpenShut
import Derived.ProofKit
import Derived.Test.YtkbpkoiihgkkiaaWirePure
set_option linter.unusedVariables false
set_option linter.unusedSimpArgs false
set_option autoImplicit false
namespace Go.Proofs.Ytkbpkoiihgkkiaa
open Go.RowKit Go.Proofs.YtkbpkoiihgkkiaaW.PrintWords Go.Proofs.YtkbpkoiihgkkiaaW.PrintLast Go.Proofs.YtkbpkoiihgkkiaaW.PrintMore Go.Proofs.Ytkbpkoiihgkkiaa.G

/-- a row of one-cell values, as it came in -/
def Row1 (B : Nat) (w : World) (A : Option Addr) (n : Nat) (V : Nat → Value) : Prop :=
  ∀ i, i < n → ∃ a, A = some a ∧ a.block < B ∧ w.cell? (a.add i) = some (V i)
theorem Row1.keep {w w' : World} {A : Option Addr} {n : Nat} {V : Nat → Value} {B : Nat} (h : Row1 B w A n V) (hb : ∀ k, k < B → w'.heap[k]? = w.heap[k]?) : Row1 B w' A n V := by
  intro i hi
  obtain ⟨a, h1, h2, h3⟩ := h i hi
  exact ⟨a, h1, h2, by rw [World.cell?_of_block (w := w) (by rw [add_block]; exact hb _ h2)]; exact h3⟩
theorem Row1.below {w w' : World} {A : Option Addr} {n : Nat} {V : Nat → Value} {B : Nat} (h : Row1 B w A n V) (hb : Below w.heap.size w w') (hB : B ≤ w.heap.size) : Row1 B w' A n V := h.keep fun k hk => hb.block k (by omega)
theorem Row1.grown {w w' : World} {A : Option Addr} {n : Nat} {V : Nat → Value} {B g : Nat} (h : Row1 B w A n V) (hb : w.grownBy w' (some g)) (hB : B ≤ w.heap.size) (hg : B ≤ g) : Row1 B w' A n V := h.keep fun k hk => hb.block k (by omega) (fun e => by cases e; omega)

/-! ### pieces, one behind the other -/
def pre (e : Nat → List Int) : Nat → List Int
  | 0 => []
  | k + 1 => pre e k ++ e k
def suf (e : Nat → List Int) : Nat → Nat → List Int
  | 0, _ => []
  | f + 1, k => e k ++ suf e f (k + 1)
theorem pre_suf (e : Nat → List Int) : ∀ f k, pre e k ++ suf e f k = pre e (k + f) := by
  intro f
  induction f with
  | zero => intro k; simp [suf]
  | succ f ih => intro k; rw [suf, ← List.append_assoc, show pre e k ++ e k = pre e (k + 1) from rfl, ih]; congr 1; omega
theorem suf_all (e : Nat → List Int) (n : Nat) : suf e n 0 = pre e n := by have := pre_suf e n 0; simpa [pre] using this
theorem pre_len (e : Nat → List Int) (m : Nat) (h : ∀ i, (e i).length ≤ m) (k : Nat) : (pre e k).length ≤ m * k := by
  induction k with
  | zero => simp [pre]
  | succ k ih => have := h k; simp only [pre, List.length_append, Nat.mul_succ]; omega
theorem pre_u8s (e : Nat → List Int) (n : Nat) (h : ∀ i, i < n → u8s (e i)) : u8s (pre e n) := by
  induction n with
  | zero => exact u8s_nil
  | succ n ih => exact u8s_append.2 ⟨ih fun i hi => h i (by omega), h n (by omega)⟩
theorem bytes_u8s (s : ByteArray) : u8s (bytesOf s) := by
  intro x hx
  simp only [bytesOf, List.mem_map] at hx
  obtain ⟨b, _, rfl⟩ := hx
  have := b.toNat_lt
  omega
theorem bytes_len (s : ByteArray) : (bytesOf s).length = s.size := by unfold bytesOf; rw [List.length_map, Array.length_toList]; rfl
theorem str_of_bytes (s : ByteArray) : strOfNums (bytesOf s) = s := by
  cases s with
  | mk d =>
    have h : (d.toList.map fun b => UInt8.ofNat ((b.toNat : Int)).toNat) = d.toList := by
      have : (fun b : UInt8 => UInt8.ofNat ((b.toNat : Int)).toNat) = id := funext fun b => by rw [Int.toNat_natCast]; exact UInt8.ofNat_toNat
      rw [this, List.map_id]
    unfold strOfNums bytesOf
    rw [List.map_map]
    show ByteArray.mk (d.toList.map fun b => UInt8.ofNat ((b.toNat : Int)).toNat).toArray = _
    rw [h]

theorem num_ne (a b : Int) (h : a = b) : (a != b) = false := by subst h; simp
set_option maxRecDepth 100000 in
set_option maxHeartbeats 6000000 in
theorem wireBack_any (A0 : Option Addr) (n0 c0 : Nat) (L : Nat → Int) (A1 : Option Addr) (n1 c1 : Nat) (M : Nat → Int) (A2 : Option Addr) (n2 c2 : Nat) (X : Nat → ByteArray) (w : World)
    (h0 : Row1 w.heap.size w A0 n0 (fun i => .int .u64 (L i))) (h1 : Row1 w.heap.size w A1 n1 (fun i => .int .i64 (M i))) (h2 : Row1 w.heap.size w A2 n2 (fun i => .string (X i)))
    (b0 : ∀ i, i < n0 → 0 ≤ L i ∧ L i < 18446744073709551616) (b1 : ∀ i, i < n1 → -9223372036854775808 ≤ M i ∧ M i < 9223372036854775808) (m0 : n0 ≤ 9223372036854775807) (m1 : n1 ≤ 9223372036854775807) (m2 : n2 ≤ 9223372036854775807) :
    Calls Try.prog 5 #[.slice A0 n0 c0, .slice A1 n1 c1, .slice A2 n2 c2] w fun e w' => e = .returned (.bool true) ∧ Below w.heap.size w w' := by
  have H0 := Aside0.mk h0
  have H1 := Aside0.mk h1
  have H2 := Aside0.mk h2
  have B0 := Aside0.mk b0
  have B1 := Aside0.mk b1
  clear h0 h1 h2 b0 b1
  go_enter Try.func5, Try.ntmps5
  go_wp2_with fail
  refine (small_any _).mono ?_
  rintro e w1 ⟨rfl, hB⟩
  have HB1 : Aside0 (Below w.heap.size w w1) := ⟨hB⟩
  have H01 := Aside0.mk (H0.out.below hB (Nat.le_refl _))
  have H11 := Aside0.mk (H1.out.below hB (Nat.le_refl _))
  have H21 := Aside0.mk (H2.out.below hB (Nat.le_refl _))
  clear hB H0 H1 H2
  by_cases hg0 : n0 ≤ 30
  · by_cases hg1 : n1 ≤ 30
    · by_cases hg2 : n2 ≤ 30
      · go_wp2_with fail
        obtain ⟨E1, hE1⟩ : ∃ E, E = fun i => putL (L i) := ⟨_, rfl⟩
        obtain ⟨E2, hE2⟩ : ∃ E, E = fun i => putL (zig (M i)) := ⟨_, rfl⟩
        obtain ⟨E3, hE3⟩ : ∃ E, E = fun i => if i < n2 ∧ (X i).size ≤ 300 then putL ((X i).size : Int) ++ bytesOf (X i) else [] := ⟨_, rfl⟩
        have l1 : ∀ i, (E1 i).length ≤ 10 := fun i => by rw [hE1]; exact putL_len _
        have l2 : ∀ i, (E2 i).length ≤ 10 := fun i => by rw [hE2]; exact putL_len _
        have l3 : ∀ i, (E3 i).length ≤ 310 := fun i => by
          rw [hE3]; simp only; split
          · have := putL_len ((X i).size : Int); rw [List.length_append, bytes_len]; omega
          · simp
        have q1 := pre_len E1 10 l1
        have q2 := pre_len E2 10 l2
        have q3 := pre_len E3 310 l3
        have HE1 := Aside0.mk hE1
        have HE2 := Aside0.mk hE2
        have HE3 := Aside0.mk hE3
        have Q1 := Aside0.mk q1
        have Q2 := Aside0.mk q2
        have Q3 := Aside0.mk q3
        clear hE1 hE2 hE3 q1 q2 q3 l1 l2 l3
        go_loopw [8, 9] (fun v i wr => ∃ k : Nat, k ≤ n0 ∧ i = .int .i64 k ∧ Aside0 ((Kd.int .u8).R 5 wr w.heap.size (fun _ => True) v (pre E1 k)) ∧ Aside0 (Row1 w.heap.size wr A0 n0 (fun i => .int .u64 (L i))) ∧ Aside0 (Row1 w.heap.size wr A1 n1 (fun i => .int .i64 (M i))) ∧ Aside0 (Row1 w.heap.size wr A2 n2 (fun i => .string (X i))) ∧ Below w.heap.size w wr) (fun _ i _ => n0 - (intOf i).toNat)
        case atStart => exact ⟨0, Nat.zero_le _, rfl, ⟨Kd.R_nil _ _ _ _ _⟩, ⟨H01.out⟩, ⟨H11.out⟩, ⟨H21.out⟩, HB1.out⟩
        case round =>
          obtain ⟨k, hk, rfl, HO, H0r, H1r, H2r, hBr⟩ := hrel
          have HBR := Aside0.mk hBr
          clear hBr H01 H11 H21 HB1
          by_cases hlt : k < n0
          · obtain ⟨Ab, cb, rfl, hcb, hCb⟩ := own_C HO.out
            obtain ⟨a, rfl, hal, hc1⟩ := H0r.out k hlt
            have HAL := Aside0.mk hal
            have HCB := Aside0.mk hCb
            clear hal hCb
            go_wp2_with fail
            refine (wire_Put.calls Ab cb (pre E1 k) (L k) (pre E1 (k + 1)) _ HCB.out hcb (by have := Q1.out k; have hb := B0.out k hlt; rw [put_f _ _ hb.1 hb.2 (by omega), pre, HE1.out])).mono ?_
            rintro e w3 ⟨v3, rfl, hR, hB⟩
            have hb := HBR.out
            have HB3 : Aside0 (Below w.heap.size w w3) := ⟨hb.trans (hB.mono hb.size)⟩
            have HO3 : Aside0 ((Kd.int .u8).R 5 w3 w.heap.size (fun _ => True) v3 (pre E1 (k + 1))) := ⟨Kd.R_lower hR hb.size⟩
            have H03 := Aside0.mk (H0r.out.below hB hb.size)
            have H13 := Aside0.mk (H1r.out.below hB hb.size)
            have H23 := Aside0.mk (H2r.out.below hB hb.size)
            clear hR hB hb HO H0r H1r H2r HBR HCB hc1
            go_wp2_with fail
            exact ⟨⟨k + 1, by omega, by simp, ⟨HO3.out⟩, ⟨H03.out⟩, ⟨H13.out⟩, ⟨H23.out⟩, HB3.out⟩, by simp [intOf]; omega⟩
          · obtain rfl : k = n0 := by omega
            go_wp2_with fail
            go_loopw [8, 10] (fun v i wr => ∃ (j : Nat) (xs : List Int), j ≤ n1 ∧ i = .int .i64 j ∧ Aside0 (xs = pre E1 k ++ pre E2 j) ∧ Aside0 ((Kd.int .u8).R 5 wr w.heap.size (fun _ => True) v xs) ∧ Aside0 (Row1 w.heap.size wr A0 k (fun i => .int .u64 (L i))) ∧ Aside0 (Row1 w.heap.size wr A1 n1 (fun i => .int .i64 (M i))) ∧ Aside0 (Row1 w.heap.size wr A2 n2 (fun i => .string (X i))) ∧ Below w.heap.size w wr) (fun _ i _ => n1 - (intOf i).toNat)
            case atStart => exact ⟨0, pre E1 k, Nat.zero_le _, rfl, ⟨by simp [pre]⟩, ⟨HO.out⟩, ⟨H0r.out⟩, ⟨H1r.out⟩, ⟨H2r.out⟩, HBR.out⟩
            case round =>
              clear HO H0r H1r H2r HBR
              obtain ⟨j, xs, hj, rfl, HXS, HO, H0r, H1r, H2r, hBr⟩ := hrel
              have HBR := Aside0.mk hBr
              clear hBr
              by_cases hlt : j < n1
              · obtain ⟨Ab, cb, rfl, hcb, hCb⟩ := own_C HO.out
                obtain ⟨a, rfl, hal, hc1⟩ := H1r.out j hlt
                have HAL := Aside0.mk hal
                have HCB := Aside0.mk hCb
                clear hal hCb
                go_wp2_with fail
                refine (wire_PutInt.calls Ab cb xs (M j) (xs ++ putL (zig (M j))) _ HCB.out hcb (by have := Q1.out k; have := Q2.out j; have hb := B1.out j hlt; exact putInt_f _ _ hb.1 hb.2 (by rw [HXS.out, List.length_append]; omega))).mono ?_
                rintro e w3 ⟨v3, rfl, hR, hB⟩
                have hb := HBR.out
                have HB3 : Aside0 (Below w.heap.size w w3) := ⟨hb.trans (hB.mono hb.size)⟩
                have HO3 : Aside0 ((Kd.int .u8).R 5 w3 w.heap.size (fun _ => True) v3 (xs ++ putL (zig (M j)))) := ⟨Kd.R_lower hR hb.size⟩
                have H03 := Aside0.mk (H0r.out.below hB hb.size)
                have H13 := Aside0.mk (H1r.out.below hB hb.size)
                have H23 := Aside0.mk (H2r.out.below hB hb.size)
                clear hR hB hb HO H0r H1r H2r HBR HCB hc1
                go_wp2_with fail
                exact ⟨⟨j + 1, _, by omega, by simp, ⟨by rw [HXS.out, pre, HE2.out, List.append_assoc]⟩, ⟨HO3.out⟩, ⟨H03.out⟩, ⟨H13.out⟩, ⟨H23.out⟩, HB3.out⟩, by simp [intOf]; omega⟩
              · obtain rfl : j = n1 := by omega
                go_wp2_with fail
                go_loopw [8, 11] (fun v i wr => ∃ (t : Nat) (ys : List Int), t ≤ n2 ∧ i = .int .i64 t ∧ Aside0 (∀ i, i < t → (X i).size ≤ 300) ∧ Aside0 (ys = pre E1 k ++ pre E2 j ++ pre E3 t) ∧ Aside0 ((Kd.int .u8).R 5 wr w.heap.size (fun _ => True) v ys) ∧ Aside0 (Row1 w.heap.size wr A0 k (fun i => .int .u64 (L i))) ∧ Aside0 (Row1 w.heap.size wr A1 j (fun i => .int .i64 (M i))) ∧ Aside0 (Row1 w.heap.size wr A2 n2 (fun i => .string (X i))) ∧ Below w.heap.size w wr) (fun _ i _ => n2 - (intOf i).toNat)
                case atStart => exact ⟨0, xs, Nat.zero_le _, rfl, ⟨fun i hi => by omega⟩, ⟨by rw [HXS.out]; simp [pre]⟩, ⟨HO.out⟩, ⟨H0r.out⟩, ⟨H1r.out⟩, ⟨H2r.out⟩, HBR.out⟩
                case round =>
                  clear HO H0r H1r H2r HBR
                  obtain ⟨t, ys, ht, rfl, HX, HYS, HO, H0r, H1r, H2r, hBr⟩ := hrel
                  have HBR := Aside0.mk hBr
                  clear hBr
                  by_cases hlt : t < n2
                  · obtain ⟨Ab, cb, rfl, hcb, hCb⟩ := own_C HO.out
                    obtain ⟨a, rfl, hal, hc1⟩ := H2r.out t hlt
                    have HAL := Aside0.mk hal
                    have HCB := Aside0.mk hCb
                    clear hal hCb
                    by_cases hx3 : (X t).size ≤ 300
                    · go_wp2_with fail
                      refine (wire_PutText.calls Ab cb ys (X t) (ys ++ putL ((X t).size : Int) ++ bytesOf (X t)) _ HCB.out hcb (by have := Q1.out k; have := Q2.out j; have := Q3.out t; exact putText_f _ _ (by rw [HYS.out, List.length_append, List.length_append]; omega) (by omega))).mono ?_
                      rintro e w3 ⟨v3, rfl, hR, hB⟩
                      have hb := HBR.out
                      have HB3 : Aside0 (Below w.heap.size w w3) := ⟨hb.trans (hB.mono hb.size)⟩
                      have HO3 : Aside0 ((Kd.int .u8).R 5 w3 w.heap.size (fun _ => True) v3 (ys ++ putL ((X t).size : Int) ++ bytesOf (X t))) := ⟨Kd.R_lower hR hb.size⟩
                      have H03 := Aside0.mk (H0r.out.below hB hb.size)
                      have H13 := Aside0.mk (H1r.out.below hB hb.size)
                      have H23 := Aside0.mk (H2r.out.below hB hb.size)
                      clear hR hB hb HO H0r H1r H2r HBR HCB hc1
                      go_wp2_with fail
                      exact ⟨⟨t + 1, _, by omega, by simp, ⟨fun i hi => (Nat.lt_or_ge i t).elim (fun hi2 => HX.out i hi2) (fun hi2 => by have e : i = t := (by omega); rw [e]; exact hx3)⟩, ⟨by rw [HYS.out, pre, HE3.out]; simp only; rw [if_pos ⟨hlt, hx3⟩]; simp only [List.append_assoc]⟩, ⟨HO3.out⟩, ⟨H03.out⟩, ⟨H13.out⟩, ⟨H23.out⟩, HB3.out⟩, by simp [intOf]; omega⟩
                    · go_wp2
                      go_ret
                      exact ⟨rfl, HBR.out⟩
                  · obtain rfl : t = n2 := by omega
                    obtain ⟨Ab, cb, rfl, hcb, hCb⟩ := own_C HO.out
                    have HCB := Aside0.mk hCb
                    have HUB : Aside0 (u8s ys) := ⟨by rw [HYS.out]; exact u8s_append.2 ⟨u8s_append.2 ⟨pre_u8s _ _ fun i hi => by rw [HE1.out]; exact put_u8s _ (B0.out i hi).1, pre_u8s _ _ fun i hi => by rw [HE2.out]; exact put_u8s _ (zig_lt _ (B1.out i hi).1 (B1.out i hi).2).1⟩, pre_u8s _ _ fun i hi => by
                      rw [HE3.out]; simp only; rw [if_pos ⟨hi, HX.out i hi⟩]; exact u8s_append.2 ⟨put_u8s _ (by omega), bytes_u8s _⟩⟩⟩
                    clear hCb HO
                    go_wp2_with fail
                    refine (won Ab cb ys wr HCB.out hcb HUB.out (by have := Q1.out k; have := Q2.out j; have := Q3.out t; rw [HYS.out]; simp only [List.length_append]; omega)).mono ?_
                    rintro e w4 ⟨gs, rfl, hg, hS, hB⟩
                    have hb := HBR.out
                    have HB4 : Aside0 (Below w.heap.size w w4) := ⟨hb.trans (hB.mono hb.size)⟩
                    have H04 := Aside0.mk (H0r.out.below hB hb.size)
                    have H14 := Aside0.mk (H1r.out.below hB hb.size)
                    have H24 := Aside0.mk (H2r.out.below hB hb.size)
                    have HS4 := Aside0.mk hS
                    have HG := Aside0.mk (show w.heap.size ≤ gs from Nat.le_trans hb.size hg)
                    obtain ⟨SS, hSS⟩ : ∃ S, S = (fun k : Nat => wr.heap.size ≤ k ∧ k < gs) := ⟨_, rfl⟩
                    rw [← hSS] at HS4
                    clear hSS
                    clear hB hb hg hS H0r H1r H2r HBR HCB HUB hcb
                    go_wp2_with fail
                    obtain ⟨T1, hT1⟩ : ∃ T, T = pre E2 j ++ pre E3 t := ⟨_, rfl⟩
                    have HT1 := Aside0.mk hT1
                    clear hT1
                    go_loopw [13] (fun i wr => ∃ (q : Nat) (ls : List Int), q ≤ k ∧ i = .int .i64 q ∧ Aside0 (ls = suf E1 (k - q) q ++ T1) ∧ Aside0 (Scn 55 SS wr gs ⟨ls, 0⟩) ∧ Aside0 (Row1 w.heap.size wr A0 k (fun i => .int .u64 (L i))) ∧ Aside0 (Row1 w.heap.size wr A1 j (fun i => .int .i64 (M i))) ∧ Aside0 (Row1 w.heap.size wr A2 t (fun i => .string (X i))) ∧ Below w.heap.size w wr) (fun i _ => k - (intOf i).toNat)
                    case atStart => exact ⟨0, ys, Nat.zero_le _, rfl, ⟨by rw [HYS.out, HT1.out, Nat.sub_zero, suf_all, List.append_assoc]⟩, ⟨HS4.out⟩, ⟨H04.out⟩, ⟨H14.out⟩, ⟨H24.out⟩, HB4.out⟩
                    case round =>
                      clear HS4 H04 H14 H24 HB4
                      obtain ⟨q, ls, hq, rfl, HLS, HS, H0r, H1r, H2r, hBr⟩ := hrel
                      have HBR := Aside0.mk hBr
                      clear hBr
                      by_cases hlt : q < k
                      · have hls := HLS.out
                        rw [show k - q = (k - (q + 1)) + 1 by omega, suf, List.append_assoc, show E1 q = putL (L q) by rw [HE1.out]] at hls
                        have HNUM : Aside0 (Sc.num ⟨ls, 0⟩ = (L q, ⟨suf E1 (k - (q + 1)) (q + 1) ++ T1, 0⟩)) := ⟨by rw [hls]; exact num_back _ _ (B0.out q hlt).1 (B0.out q hlt).2⟩
                        clear hls
                        obtain ⟨a, rfl, hal, hc1⟩ := H0r.out q hlt
                        have HAL := Aside0.mk hal
                        clear hal
                        go_wp2_with fail
                        go_region_with (go_at_call 16; refine Calls.mono (wnum (s := ⟨ls, 0⟩) (g := gs) (S := SS) (by first | exact HS.out | exact HS.out.below (below_drew (Below.refl _ _)) | exact HS.out.below (pw_below_drewN (Below.refl _ _) _))) ?_; rintro e w5 ⟨rfl, hz, hG'⟩; rw [HNUM.out] at hz ⊢; have hG : wr.grownBy w5 (some gs) := ⟨hG'.os, hG'.tape, hG'.output, hG'.size, hG'.block⟩; have hbr := HBR.out; have hgg := HG.out; have hall := HAL.out; have HK : Aside0 (∀ k, k < w.heap.size → w5.heap[k]? = wr.heap[k]?) := ⟨fun k hk => hG.block k (Nat.lt_of_lt_of_le hk hbr.size) (fun e => by cases e; omega)⟩; have hc5 : w5.cell? (a.add q) = some (.int .u64 (L q)) := (by rw [World.cell?_of_block (w := wr) (by rw [add_block]; exact HK.out _ hall)]; exact hc1); have HB5 : Aside0 (Below w.heap.size w w5) := ⟨below_of_grown hbr hG hgg⟩; have HS5 := Aside0.mk hz; have H05 := Aside0.mk (H0r.out.keep HK.out); have H15 := Aside0.mk (H1r.out.keep HK.out); have H25 := Aside0.mk (H2r.out.keep HK.out); clear hG hG' hbr hgg hall HK hz hc1)
                        all_goals go_wp2_with fail
                        all_goals exact ⟨⟨q + 1, _, by omega, by simp, ⟨rfl⟩, ⟨HS5.out⟩, ⟨H05.out⟩, ⟨H15.out⟩, ⟨H25.out⟩, HB5.out⟩, by simp [intOf]; omega⟩
                      · obtain rfl : k = q := by omega
                        go_wp2_with fail
                        obtain ⟨T2, hT2⟩ : ∃ T, T = pre E3 t := ⟨_, rfl⟩
                        have HT2 := Aside0.mk hT2
                        clear hT2
                        go_loopw [14] (fun i wr => ∃ (q : Nat) (ls : List Int), q ≤ j ∧ i = .int .i64 q ∧ Aside0 (ls = suf E2 (j - q) q ++ T2) ∧ Aside0 (Scn 55 SS wr gs ⟨ls, 0⟩) ∧ Aside0 (Row1 w.heap.size wr A0 k (fun i => .int .u64 (L i))) ∧ Aside0 (Row1 w.heap.size wr A1 j (fun i => .int .i64 (M i))) ∧ Aside0 (Row1 w.heap.size wr A2 t (fun i => .string (X i))) ∧ Below w.heap.size w wr) (fun i _ => j - (intOf i).toNat)
                        case atStart => exact ⟨0, ls, Nat.zero_le _, rfl, ⟨by rw [HLS.out, Nat.sub_self, suf, List.nil_append, HT1.out, HT2.out, Nat.sub_zero, suf_all]⟩, ⟨HS.out⟩, ⟨H0r.out⟩, ⟨H1r.out⟩, ⟨H2r.out⟩, HBR.out⟩
                        case round =>
                          clear HS HLS H0r H1r H2r HBR
                          obtain ⟨q, ls, hq, rfl, HLS, HS, H0r, H1r, H2r, hBr⟩ := hrel
                          have HBR := Aside0.mk hBr
                          clear hBr
                          by_cases hlt : q < j
                          · have hls := HLS.out
                            rw [show j - q = (j - (q + 1)) + 1 by omega, suf, List.append_assoc, show E2 q = putL (zig (M q)) by rw [HE2.out]] at hls
                            have HNUM : Aside0 (Sc.int ⟨ls, 0⟩ = (M q, ⟨suf E2 (j - (q + 1)) (q + 1) ++ T2, 0⟩)) := ⟨by rw [hls]; exact int_back _ _ (B1.out q hlt).1 (B1.out q hlt).2⟩
                            clear hls
                            obtain ⟨a, rfl, hal, hc1⟩ := H1r.out q hlt
                            have HAL := Aside0.mk hal
                            clear hal
                            go_wp2_with fail
                            go_region_with (go_at_call 20; refine Calls.mono (wint (s := ⟨ls, 0⟩) (g := gs) (S := SS) (by first | exact HS.out | exact HS.out.below (below_drew (Below.refl _ _)) | exact HS.out.below (pw_below_drewN (Below.refl _ _) _))) ?_; rintro e w5 ⟨rfl, hz, hG'⟩; rw [HNUM.out] at hz ⊢; have hG : wr.grownBy w5 (some gs) := ⟨hG'.os, hG'.tape, hG'.output, hG'.size, hG'.block⟩; have hbr := HBR.out; have hgg := HG.out; have hall := HAL.out; have HK : Aside0 (∀ k, k < w.heap.size → w5.heap[k]? = wr.heap[k]?) := ⟨fun k hk => hG.block k (Nat.lt_of_lt_of_le hk hbr.size) (fun e => by cases e; omega)⟩; have hc5 : w5.cell? (a.add q) = some (.int .i64 (M q)) := (by rw [World.cell?_of_block (w := wr) (by rw [add_block]; exact HK.out _ hall)]; exact hc1); have HB5 : Aside0 (Below w.heap.size w w5) := ⟨below_of_grown hbr hG hgg⟩; have HS5 := Aside0.mk hz; have H05 := Aside0.mk (H0r.out.keep HK.out); have H15 := Aside0.mk (H1r.out.keep HK.out); have H25 := Aside0.mk (H2r.out.keep HK.out); clear hG hG' hbr hgg hall HK hz hc1)
                            all_goals go_wp2_with fail
                            all_goals exact ⟨⟨q + 1, _, by omega, by simp, ⟨rfl⟩, ⟨HS5.out⟩, ⟨H05.out⟩, ⟨H15.out⟩, ⟨H25.out⟩, HB5.out⟩, by simp [intOf]; omega⟩
                          · obtain rfl : j = q := by omega
                            go_wp2_with fail
                            go_loopw [15] (fun i wr => ∃ (q : Nat) (ls : List Int), q ≤ t ∧ i = .int .i64 q ∧ Aside0 (ls = suf E3 (t - q) q) ∧ Aside0 (Scn 55 SS wr gs ⟨ls, 0⟩) ∧ Aside0 (Row1 w.heap.size wr A0 k (fun i => .int .u64 (L i))) ∧ Aside0 (Row1 w.heap.size wr A1 j (fun i => .int .i64 (M i))) ∧ Aside0 (Row1 w.heap.size wr A2 t (fun i => .string (X i))) ∧ Below w.heap.size w wr) (fun i _ => t - (intOf i).toNat)
                            case atStart => exact ⟨0, ls, Nat.zero_le _, rfl, ⟨by rw [HLS.out, Nat.sub_self, suf, List.nil_append, HT2.out, Nat.sub_zero, suf_all]⟩, ⟨HS.out⟩, ⟨H0r.out⟩, ⟨H1r.out⟩, ⟨H2r.out⟩, HBR.out⟩
                            case round =>
                              clear HS HLS H0r H1r H2r HBR
                              obtain ⟨q, ls, hq, rfl, HLS, HS, H0r, H1r, H2r, hBr⟩ := hrel
                              have HBR := Aside0.mk hBr
                              clear hBr
                              by_cases hlt : q < t
                              · have hls := HLS.out
                                rw [show t - q = (t - (q + 1)) + 1 by omega, suf, show E3 q = putL ((X q).size : Int) ++ bytesOf (X q) by rw [HE3.out]; simp only; rw [if_pos ⟨hlt, HX.out q hlt⟩]] at hls
                                have HNUM : Aside0 (Sc.text ⟨ls, 0⟩ 300 = (bytesOf (X q), ⟨suf E3 (t - (q + 1)) (q + 1), 0⟩)) := ⟨by rw [hls, List.append_assoc, ← bytes_len]; exact text_back _ _ 300 (by rw [bytes_len]; have := HX.out q hlt; omega) (by rw [bytes_len]; have := HX.out q hlt; omega)⟩
                                clear hls
                                obtain ⟨a, rfl, hal, hc1⟩ := H2r.out q hlt
                                have HAL := Aside0.mk hal
                                clear hal
                                go_wp2_with fail
                                go_region_with (go_at_call 22; refine Calls.mono (wtext (s := ⟨ls, 0⟩) (g := gs) (S := SS) (by first | exact HS.out | exact HS.out.below (below_drew (Below.refl _ _)) | exact HS.out.below (pw_below_drewN (Below.refl _ _) _)) 300 (by decide)) ?_; rintro e w5 ⟨rfl, hz, hG'⟩; rw [HNUM.out] at hz ⊢; simp only [str_of_bytes]; have hG : wr.grownBy w5 (some gs) := ⟨hG'.os, hG'.tape, hG'.output, hG'.size, hG'.block⟩; have hbr := HBR.out; have hgg := HG.out; have hall := HAL.out; have HK : Aside0 (∀ k, k < w.heap.size → w5.heap[k]? = wr.heap[k]?) := ⟨fun k hk => hG.block k (Nat.lt_of_lt_of_le hk hbr.size) (fun e => by cases e; omega)⟩; have hc5 : w5.cell? (a.add q) = some (.string (X q)) := (by rw [World.cell?_of_block (w := wr) (by rw [add_block]; exact HK.out _ hall)]; exact hc1); have HB5 : Aside0 (Below w.heap.size w w5) := ⟨below_of_grown hbr hG hgg⟩; have HS5 := Aside0.mk hz; have H05 := Aside0.mk (H0r.out.keep HK.out); have H15 := Aside0.mk (H1r.out.keep HK.out); have H25 := Aside0.mk (H2r.out.keep HK.out); clear hG hG' hbr hgg hall HK hz hc1)
                                all_goals go_wp2_with fail
                                all_goals exact ⟨⟨q + 1, _, by omega, by simp, ⟨rfl⟩, ⟨HS5.out⟩, ⟨H05.out⟩, ⟨H15.out⟩, ⟨H25.out⟩, HB5.out⟩, by simp [intOf]; omega⟩
                              · obtain rfl : t = q := by omega
                                go_wp2_with fail
                                have hls := HLS.out
                                rw [Nat.sub_self, suf] at hls
                                subst hls
                                have d1 : Sc.endE ⟨[], 0⟩ = 0 := rfl
                                go_wp2_with (first | (go_at_call 28; have hop := wend HS.out; refine hop.mono ?_; rintro e w5 ⟨rfl, rfl⟩; clear hop) | (go_at_call 26; have hop := wleft HS.out; refine hop.mono ?_; rintro e w5 ⟨rfl, rfl⟩; clear hop))
                                go_ret
                                exact ⟨rfl, HBR.out⟩
      · go_wp2
        go_ret
        exact ⟨rfl, HB1.out⟩
    · go_wp2
      go_ret
      exact ⟨rfl, HB1.out⟩
  · go_wp2
    go_ret
    exact ⟨rfl, HB1.out⟩
theorem wireBack_walk (A0 : Option Addr) (n0 c0 : Nat) (L : Nat → Int) (A1 : Option Addr) (n1 c1 : Nat) (M : Nat → Int) (A2 : Option Addr) (n2 c2 : Nat) (X : Nat → ByteArray) (w : World)
    (h0 : Row1 w.heap.size w A0 n0 (fun i => .int .u64 (L i))) (h1 : Row1 w.heap.size w A1 n1 (fun i => .int .i64 (M i))) (h2 : Row1 w.heap.size w A2 n2 (fun i => .string (X i)))
    (b0 : ∀ i, i < n0 → (Lit.int .u64 (L i)).wf = true) (b1 : ∀ i, i < n1 → (Lit.int .i64 (M i)).wf = true) (m0 : n0 ≤ maxLen) (m1 : n1 ≤ maxLen) (m2 : n2 ≤ maxLen) :
    Calls Try.prog 5 #[.slice A0 n0 c0, .slice A1 n1 c1, .slice A2 n2 c2] w fun e w' => e = .returned (.bool true) ∧ Below w.heap.size w w' :=
  wireBack_any A0 n0 c0 L A1 n1 c1 M A2 n2 c2 X w h0 h1 h2 (fun i hi => by have := Go.bounds_u64 (b0 i hi); omega) (fun i hi => by have := Go.bounds_i64 (b1 i hi); omega) (by simpa [maxLen] using m0) (by simpa [maxLen] using m1) (by simpa [maxLen] using m2)
end Go.Proofs.Ytkbpkoiihgkkiaa
