-- Written by a program of this session (wip/tools/myprint.py), over the kit's print.
import Derived.Test.YtckjmbpagippkaaG0
import Derived.Test.YtckjmbpagippkaaG4
import Derived.Test.YtckjmbpagippkaaG5
namespace Go.Proofs.Ytckjmbpagippkaa.G
open Go.RowKit Go.Proofs.YtckjmbpagippkaaW.PrintWords Go.Proofs.YtckjmbpagippkaaW.PrintLast Go.Proofs.YtckjmbpagippkaaW.PrintMore
attribute [local go_sem] max2_int min2_int max_two min_two max_three min_three max_four min_four   -- for this text's walks alone
set_option linter.unusedVariables false
set_option linter.unusedSimpArgs false

-- BY HAND
def zof (l : List Nat) : List Int := l.map fun (n : Nat) => (n : Int)
theorem zof_append (a b : List Nat) : zof (a ++ b) = zof a ++ zof b := by simp [zof]
theorem zof_nats {l : List Int} (h : u8s l) : zof (nats l) = l := by
  unfold zof nats
  rw [List.map_map]
  conv => rhs; rw [← List.map_id l]
  exact List.map_congr_left fun x hx => by have := h x hx; simp; omega
theorem low_take (n k : Nat) (hk : k < 4) : (CrcM.low n).take (k + 1) = (CrcM.low n).take k ++ [n / 2 ^ (8 * k) % 256] := by
  match k, hk with
  | 0, _ => simp [CrcM.low]
  | 1, _ => simp [CrcM.low]
  | 2, _ => simp [CrcM.low]
  | 3, _ => simp [CrcM.low]
def crc_Seal.f (l0 : List Int) : Option (List Int) := if u8s l0 ∧ l0.length ≤ 140737488351232 then some (zof (CrcM.sealB (nats l0))) else none
theorem sum_some {l : List Int} (h : u8s l) : crc_Sum.f l = some ((CrcM.sum (nats l) : Nat) : Int) := by
  unfold crc_Sum.f crc_Add.f
  rw [if_pos ⟨by omega, by omega, h⟩]
  rfl
theorem info_u8 : (Try.prog.info? 5).map (fun i => (i.zero, i.size, i.bytes)) = some (some (.int .u8 0), 1, 1) := by kernel_rfl
theorem size_u8 : (Try.prog.info? 5).map (·.size) = some 1 := by kernel_rfl
set_option maxRecDepth 100000 in
set_option maxHeartbeats 400000 in
theorem crc_Seal.calls (A0 : Option Addr) (c0 : Nat) (l0 : List Int) (r : List Int) (w : World) (hr0 : Kd.C (Kd.int .u8) w A0 l0.length l0) (hc0 : l0.length ≤ c0) (h : crc_Seal.f l0 = some r) :
    Calls Try.prog 19 #[.slice A0 l0.length c0] w fun e w' => ∃ v0_ : Value, e = .returned (v0_) ∧ Kd.R (Kd.int .u8) 5 w' w.heap.size (fun _ => True) v0_ r ∧ Below w.heap.size w w' := by
  have hh0 := h
  clear h
  unfold crc_Seal.f at hh0
  split at hh0
  · rename_i hh
    obtain ⟨hu, hl⟩ := hh
    have H := Aside0.mk (Option.some.inj hh0)
    have HU := Aside0.mk hu
    have HR := Aside0.mk hr0
    clear hh0 hu hr0
    have hmk := make_cap (P := Try.prog) 22 5 .u8 1 Try.underlying22 info_u8 (l0.length : Int) ((l0.length : Int) + 4) (by omega) (by omega) (by omega) (by omega)
    rw [show ((l0.length : Int) + 4).toNat = l0.length + 4 by omega, Int.toNat_natCast] at hmk
    obtain ⟨n, hn⟩ : ∃ n, n = CrcM.sum (nats l0) := ⟨_, rfl⟩
    have hn32 : n < 4294967296 := by rw [hn]; exact CrcM.sum_lt _ (u8s_nats HU.out)
    have hsum := Aside0.mk (show crc_Sum.f l0 = some (n : Int) by rw [hn]; exact sum_some HU.out)
    have Hn := Aside0.mk hn
    clear hn
    go_enter Try.func19, Try.ntmps19
    go_wp2_with (first
      | ((with_reducible refine copy_made (w0 := w) w.heap.size rfl (.tmp 12) (.tmp 13) 22 22 5 .u8 rfl Try.underlying22 size_u8 w.heap.size l0.length (l0.length + 4) (l0.length + 4) A0 c0 l0 rfl rfl rfl (heap_alloc_new w _) rfl (by omega) (by unfold maxLen; omega) (Kd.C_alloc HR.out _) ((Below.refl _ _).alloc (Nat.le_refl _) _) (Nat.le_refl _) ?_); intro w1 HO1 hB1; clear hmk)
      | (go_at_call 26; refine (crc_Sum.calls _ _ l0 (n : Int) _ (Kd.C_below HR.out hB1) hc0 hsum.out).mono ?_; rintro e w2 ⟨rfl, hB2⟩))
    have hB := hB1.trans (hB2.mono hB1.size)
    have HO2 := Aside0.mk (Kd.R_below HO1.out hB2)
    clear HO1 hB1 hB2
    go_wp2_with fail
    go_loopw [3, 17] (fun v i wr => ∃ k : Nat, k ≤ 4 ∧ i = .int .i64 k ∧ Aside0 ((Kd.int .u8).R 5 wr w.heap.size (fun _ => True) v (l0 ++ zof ((CrcM.low n).take k))) ∧ Below w.heap.size w wr) (fun _ i _ => 4 - (intOf i).toNat)
    case atStart => exact ⟨0, by omega, rfl, ⟨by simpa [zof] using HO2.out⟩, hB⟩
    case round =>
      obtain ⟨k, hk, rfl, HO, hBr⟩ := hrel
      by_cases hlt : k < 4
      · have hlk : (l0 ++ zof ((CrcM.low n).take k)).length ≤ l0.length + 4 := by simp [zof]; omega
        have HLK := Aside0.mk hlk
        clear hlk
        go_wp2_with (at_builtin; refine app_num (w0 := w) w.heap.size rfl (.tmp 20) (.tmp 26) 22 5 .u8 1 rfl Try.underlying22 info_u8 (by decide) u3 (l0 ++ zof ((CrcM.low n).take k)) ((n : Int) / 2 ^ (8 * k) % 256) rfl rfl HO.out hBr hBr.size (by have := HLK.out; omega) ?_; intro v1 w1 HO1 hB1; clear HO hBr)
        go_roundw
        case rel => exact ⟨k + 1, by omega, by go_num, ⟨by have h := HO1.out; rwa [low_take n k hlt, zof_append, ← List.append_assoc, show zof [n / 2 ^ (8 * k) % 256] = [(n : Int) / 2 ^ (8 * k) % 256] by simp [zof]]⟩, hB1⟩
        case measure => simp [intOf]; omega
      · obtain rfl : k = 4 := by omega
        go_wp2_with fail
        go_ret
        refine ⟨u3, rfl, ?_, hBr⟩
        have h := HO.out
        rw [show (CrcM.low n).take 4 = CrcM.low n from rfl] at h
        have e : l0 ++ zof (CrcM.low n) = r := by rw [← H.out, CrcM.sealB, zof_append, zof_nats HU.out, Hn.out]
        rwa [e] at h
  · cases hh0

end Go.Proofs.Ytckjmbpagippkaa.G
