-- Written by a program of this session (wip/tools/myprint.py), over the kit's print.
import Derived.Test.YtckjmbpagippkaaG0
namespace Go.Proofs.Ytckjmbpagippkaa.G
open Go.RowKit Go.Proofs.YtckjmbpagippkaaW.PrintWords Go.Proofs.YtckjmbpagippkaaW.PrintLast Go.Proofs.YtckjmbpagippkaaW.PrintMore
attribute [local go_sem] max2_int min2_int max_two min_two max_three min_three max_four min_four   -- for this text's walks alone
set_option linter.unusedVariables false
set_option linter.unusedSimpArgs false

-- BY HAND

def tabArr (f : Nat → Int) : Array Value := ((List.range 256).map fun i => Value.int .u32 (f i)).toArray
theorem zero28 (w : World) : (zeroValue 54).run Try.prog w = .ok (.agg (tabArr fun _ => 0)) w := by kernel_rfl


def T (k i : Nat) : Int := if i < k then ((CrcM.tk 8 i : Nat) : Int) else 0
theorem tabArr_get (f : Nat → Int) (i : Nat) (h : i < 256) : (tabArr f)[i]? = some (.int .u32 (f i)) := by simp [tabArr, h]
theorem tabArr_size (f : Nat → Int) : (tabArr f).size = 256 := by simp [tabArr]
theorem tabArr_set (f : Nat → Int) (i : Nat) (v : Int) : (tabArr f).setIfInBounds i (.int .u32 v) = tabArr fun j => if j = i then v else f j := by
  apply Array.ext_getElem?
  intro j
  by_cases hj : j < 256
  · rw [tabArr_get _ _ hj, Array.getElem?_setIfInBounds]
    by_cases e : i = j
    · subst e; simp [tabArr_size, hj]
    · rw [if_neg e, tabArr_get _ _ hj, if_neg (fun h => e h.symm)]
  · rw [Array.getElem?_eq_none (by simp [tabArr_size]; omega), Array.getElem?_eq_none (by simp [tabArr_size]; omega)]
theorem T_zero : T 0 = fun _ => 0 := by funext i; simp [T]
theorem T_succ (k : Nat) : (fun j => if j = k then ((CrcM.tk 8 k : Nat) : Int) else T k j) = T (k + 1) := by
  funext j
  unfold T
  by_cases e : j = k
  · subst e; simp
  · rw [if_neg e]
    by_cases h : j < k
    · rw [if_pos h, if_pos (by omega)]
    · rw [if_neg h, if_neg (by omega)]

theorem step_eq (n : Nat) (h : n < 4294967296) :
    bits .xor .u32 ((n : Int) / 2) (bits .and .u32 3988292384 (-bits .and .u32 (n : Int) 1 % 4294967296)) = (CrcM.t1 n : Nat) := by
  rw [show (1 : Int) = ((1 : Nat) : Int) from rfl, u32_and_nat n 1 h (by decide), Nat.and_one_is_mod]
  rw [show (n : Int) / 2 = ((n / 2 : Nat) : Int) by omega]
  unfold CrcM.t1
  rcases Nat.mod_two_eq_zero_or_one n with e | e
  · rw [e, if_neg (by omega)]
    rw [show (-((0 : Nat) : Int)) % 4294967296 = ((0 : Nat) : Int) by decide, show (3988292384 : Int) = ((3988292384 : Nat) : Int) from rfl, u32_and_nat _ _ (by decide) (by decide), Nat.and_zero, u32_xor_nat _ _ (by omega) (by decide), Nat.xor_zero]
  · rw [e, if_pos rfl]
    rw [show (-((1 : Nat) : Int)) % 4294967296 = ((4294967295 : Nat) : Int) by decide, show (3988292384 : Int) = ((3988292384 : Nat) : Int) from rfl, u32_and_nat _ _ (by decide) (by decide), show 3988292384 &&& 4294967295 = 3988292384 by decide, u32_xor_nat _ _ (by omega) (by decide)]

theorem tk_step (j k : Nat) : CrcM.tk (j + 1) k = CrcM.t1 (CrcM.tk j k) := by rw [CrcM.tk_add]; rfl

theorem tabArr_one (f : Nat → Int) : (tabArr f).all (·.oneCell') = true := by
  rw [Array.all_eq_true_iff_forall_mem]
  intro v hv
  simp only [tabArr, List.mem_toArray, List.mem_map] at hv
  obtain ⟨i, _, rfl⟩ := hv
  rfl
theorem size28 : (Try.prog.info? 54).map (·.size) = some 256 := by kernel_rfl

set_option maxRecDepth 100000 in
set_option maxHeartbeats 400000 in
theorem table_any (w : World) : Calls Try.prog 32 #[] w fun e w' => e = .returned (.agg (tabArr (T 256))) ∧ Below w.heap.size w w' := by
  have hz := zero28
  go_enter Try.func32, Try.ntmps32
  go_wp2_with fail
  clear hz
  go_loopw [3] (fun i wr => ∃ k : Nat, k ≤ 256 ∧ i = .int .i64 k ∧ wr.heap[w.heap.size]? = some (.cells (tabArr (T k)) 54 (0, 0)) ∧ Below w.heap.size w wr) (fun i _ => 256 - (intOf i).toNat)
  case atStart => exact ⟨0, by omega, rfl, by rw [T_zero]; exact heap_alloc_new w _, (Below.refl _ _).alloc (Nat.le_refl _) _⟩
  case round =>
    obtain ⟨k, hk, rfl, hb, hB⟩ := hrel
    by_cases hlt : k < 256
    · have hc : wr.cell? ⟨w.heap.size, k, none⟩ = some (.int .u32 (T k k)) := by rw [cell_of_row wr _ _ _ _ _ hb, tabArr_get _ _ hlt]
      have hf : wr.frozen? ⟨w.heap.size, k, none⟩ = false := frozen_of_row wr _ _ _ _ hb
      have HB := Aside0.mk hb
      clear hb
      go_wp2_with fail
      go_loop [2, 8] (fun n i => ∃ j : Nat, j ≤ 8 ∧ i = .int .i64 j ∧ n = .int .u32 (CrcM.tk j k)) (fun _ i => 8 - (intOf i).toNat)
      case atStart => exact ⟨0, by omega, rfl, rfl⟩
      case round =>
        obtain ⟨j, hj, rfl, rfl⟩ := hrel
        by_cases hl : j < 8
        · go_wp2_with fail
          go_round
          case rel => exact ⟨j + 1, by omega, by go_num, by rw [step_eq _ (CrcM.tk_lt _ _ (by omega)), tk_step]⟩
          case measure => simp [intOf]; omega
        · obtain rfl : j = 8 := by omega
          go_wp2_with fail
          go_roundw
          case rel => exact ⟨k + 1, by omega, by go_num, by rw [heap_setCell_same _ _ _ _ _ _ HB.out, tabArr_set, T_succ], hB.setCell (Nat.le_refl _) _⟩
          case measure => simp [intOf]; omega
    · obtain rfl : k = 256 := by omega
      go_wp2_with (first | (with_reducible refine wpList_load_row rfl 54 _ rfl w.heap.size rfl 54 (tabArr (T 256)) (0, 0) _ hb Try.underlying54 rfl (by rw [tabArr_size]; exact size28) ?_) | (with_reducible refine wpList_store_row rfl 54 _ _ rfl w.heap.size (tabArr (T 256)) rfl rfl 54 (tabArr (T 256)) hb (by rw [tabArr_size]; exact size28) rfl (tabArr_one _) ?_))
      rw [setRow_self _ _ _ _ _ hb]
      refine bodyPost_ret (results_cell_row (P := Try.prog) (ty := 54) (p := 0) rfl _ wr w.heap.size 54 (tabArr (T 256)) (0, 0) _ rfl hb Try.underlying54 rfl (by rw [tabArr_size]; exact size28)) rfl ⟨rfl, hB⟩

def u8s (l : List Int) : Prop := ∀ x ∈ l, 0 ≤ x ∧ x < 256
def nats (l : List Int) : List Nat := l.map Int.toNat
instance (l : List Int) : Decidable (u8s l) := inferInstanceAs (Decidable (∀ x ∈ l, 0 ≤ x ∧ x < 256))
theorem u8s_nats {l : List Int} (h : u8s l) : CrcM.Bytes (nats l) := by
  intro c hc
  obtain ⟨x, hx, rfl⟩ := List.mem_map.1 hc
  have := h x hx
  omega
theorem run_take (s : Nat) (l : List Int) (k : Nat) (h : k < l.length) : CrcM.run s (nats (l.take (k + 1))) = CrcM.upd (CrcM.run s (nats (l.take k))) (rd l k).toNat := by
  rw [List.take_succ_eq_append_getElem h, nats, List.map_append]
  simp [nats, CrcM.run, rd, List.getD_eq_getElem?_getD, h]
theorem rd_u8 {l : List Int} (h : u8s l) (k : Nat) (hk : k < l.length) : 0 ≤ rd l k ∧ rd l k < 256 := by
  have := h (l[k]) (List.getElem_mem hk)
  simpa [rd, List.getD_eq_getElem?_getD, hk] using this

theorem not_u32 (a : Nat) (h : a < 4294967296) : bits .xor .u32 IntKind.u32.max (a : Int) = ((a ^^^ CrcM.M : Nat) : Int) := by
  rw [show IntKind.u32.max = ((CrcM.M : Nat) : Int) from rfl, u32_xor_nat _ _ (by decide) h, Nat.xor_comm]

def crc_Add.f (a0 : Int) (l1 : List Int) : Option Int := if 0 ≤ a0 ∧ a0 < 4294967296 ∧ u8s l1 then some ((CrcM.add a0.toNat (nats l1) : Nat) : Int) else none
set_option maxRecDepth 100000 in
set_option maxHeartbeats 400000 in
theorem crc_Add.calls (a0 : Int) (A1 : Option Addr) (c1 : Nat) (l1 : List Int) (r : Int) (w : World) (hr1 : Kd.C (Kd.int .u8) w A1 l1.length l1) (hc1 : l1.length ≤ c1) (h : crc_Add.f a0 l1 = some r) :
    Calls Try.prog 31 #[.int .u32 a0, .slice A1 l1.length c1] w fun e w' => e = .returned (.int .u32 r) ∧ Below w.heap.size w w' := by
  have hz := zero28
  unfold crc_Add.f at h
  split at h
  · rename_i hh
    obtain ⟨h0, h1, hu⟩ := hh
    obtain ⟨a, rfl⟩ := Int.eq_ofNat_of_zero_le h0
    have ha : a < 4294967296 := by omega
    clear h0 h1
    have H := Aside0.mk (Option.some.inj h)
    have HU := Aside0.mk hu
    have HR := Aside0.mk hr1
    clear h hu hr1
    go_enter Try.func31, Try.ntmps31
    go_wp2_with (first | (go_at_call 32; refine (table_any _).mono ?_; rintro e w1 ⟨rfl, hB1⟩) | (with_reducible refine wpList_store_row rfl 54 _ _ rfl w1.heap.size (tabArr (T 256)) rfl rfl 54 (tabArr fun _ => 0) (heap_alloc_new w1 _) (by rw [tabArr_size]; exact size28) rfl (tabArr_one _) ?_))
    have hb : ((w1.alloc (.cells (tabArr fun _ => 0) 54)).setRow w1.heap.size (tabArr (T 256))).heap[w1.heap.size]? = some (.cells (tabArr (T 256)) 54 (0, 0)) := setRow_heap _ _ _ _ _ _ (heap_alloc_new w1 _)
    have hB : Below w.heap.size w ((w1.alloc (.cells (tabArr fun _ => 0) 54)).setRow w1.heap.size (tabArr (T 256))) := by
      refine (hB1.alloc hB1.size _).trans ⟨rfl, rfl, rfl, by simp, fun k hk => setRow_other _ _ _ _ (by have := hB1.size; omega)⟩
    generalize ((w1.alloc (.cells (tabArr fun _ => 0) 54)).setRow w1.heap.size (tabArr (T 256))) = w2 at hb hB ⊢
    clear hz hB1
    have HR2 := Aside0.mk (Kd.C_below HR.out hB)
    have HBl := Aside0.mk hb
    clear hb
    have hlen := Kd.C_max HR.out
    go_wp2_with fail
    go_loop [0, 13] (fun s i => ∃ k : Nat, k ≤ l1.length ∧ i = .int .i64 k ∧ s = .int .u32 (CrcM.run (a ^^^ CrcM.M) (nats (l1.take k)))) (fun _ i => l1.length - (intOf i).toNat)
    case atStart => exact ⟨0, Nat.zero_le _, rfl, by rw [not_u32 a ha]; simp [nats, CrcM.run]⟩
    case round =>
      obtain ⟨k, hk, rfl, rfl⟩ := hrel
      have hrun : CrcM.run (a ^^^ CrcM.M) (nats (l1.take k)) < 4294967296 := CrcM.run_lt _ (u8s_nats (fun x hx => HU.out x (List.mem_of_mem_take hx))) _ (Nat.xor_lt_two_pow (n := 32) ha CrcM.M_lt)
      by_cases hlt : k < l1.length
      · obtain ⟨ad, e, hcell⟩ := Kd.at_int HR2.out (k : Int) (by omega) (by omega)
        obtain rfl := e
        rw [Int.toNat_natCast] at hcell
        obtain ⟨hc0, hc1'⟩ := rd_u8 HU.out k hlt
        have hstep := Aside0.mk (run_take (a ^^^ CrcM.M) l1 k hlt)
        generalize CrcM.run (a ^^^ CrcM.M) (nats (l1.take k)) = s at *
        generalize hc : rd l1 k = c at *
        obtain ⟨c, rfl⟩ := Int.eq_ofNat_of_zero_le hc0
        have Hc := Aside0.mk hc
        clear hc
        obtain ⟨j, hj⟩ : ∃ j, j = (s % 256) ^^^ c := ⟨_, rfl⟩
        have hj256 : j < 256 := by rw [hj]; exact Nat.xor_lt_two_pow (n := 8) (by omega) (by omega)
        have hx : bits .xor .u8 ((s : Int) % 256) (c : Int) = (j : Int) := by
          rw [show (s : Int) % 256 = ((s % 256 : Nat) : Int) by omega, u8_xor_nat _ _ (by omega) (by omega), hj]
        obtain ⟨t, ht⟩ : ∃ t, t = CrcM.tk 8 j := ⟨_, rfl⟩
        have htlt : t < 4294967296 := by rw [ht]; exact CrcM.tk_lt _ _ (by omega)
        have hcc : w2.cell? ⟨w1.heap.size, j, none⟩ = some (.int .u32 (t : Int)) := by
          rw [cell_of_row w2 _ _ _ _ _ HBl.out, tabArr_get _ _ hj256, T, if_pos hj256, ht]
        have hnext : bits .xor .u32 (t : Int) ((s : Int) / 256) = (CrcM.upd s c : Nat) := by
          rw [show (s : Int) / 256 = ((s / 256 : Nat) : Int) by omega, u32_xor_nat _ _ htlt (by omega), ht, hj]
          unfold CrcM.upd
          have e := CrcM.xor_mod s c 8
          simp only [show (2 : Nat) ^ 8 = 256 from rfl, Nat.mod_eq_of_lt (show c < 256 by omega)] at e
          rw [e]
        have Hnext := Aside0.mk hnext
        clear hnext ht hj
        go_wp2_with fail
        go_round
        case rel => exact ⟨k + 1, by omega, by go_num, by rw [hstep.out, Int.toNat_natCast, Hnext.out]⟩
        case measure => simp [intOf]; omega
      · obtain rfl : k = l1.length := by omega
        rw [List.take_length] at hrun ⊢
        go_wp2_with fail
        go_ret
        refine ⟨?_, hB⟩
        rw [← H.out, Int.toNat_natCast, not_u32 _ hrun]
        rfl
  · cases h

end Go.Proofs.Ytckjmbpagippkaa.G
