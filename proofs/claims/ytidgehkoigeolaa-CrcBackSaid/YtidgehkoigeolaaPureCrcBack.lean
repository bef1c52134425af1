/- The statement CrcBack over numbers and lists: what is sealed is opened as it was, and what is opened was sealed so; any bytes. -/
import Derived.Test.YtidgehkoigeolaaG18
import Derived.Test.YtidgehkoigeolaaCrcPure
namespace Go.Proofs.Ytidgehkoigeolaa.Pure
open Go.RowKit Go.Proofs.Ytidgehkoigeolaa.G Go.Proofs.YtidgehkoigeolaaW.PrintWords Go.Proofs.YtidgehkoigeolaaW.PrintLast

theorem CrcBack : rosettelaw01_CrcBack.Pure := by
  intro l0 l1 _ hl0 hw0 _ hl1 hw1
  have hu0 := u8s_wf hw0
  have hu1 := u8s_wf hw1
  have J : rosettelaw01_CrcBack.j0 1 l0 l1 true true = some true := by simp [rosettelaw01_CrcBack.j0]
  refine ⟨1, ?_⟩
  unfold rosettelaw01_CrcBack.f rosettelaw01_small.f
  simp only [Option.bind_some]
  by_cases h1 : (l0.length : Int) > 1000
  · rw [if_pos h1]; exact J
  rw [if_neg h1]
  by_cases h3 : (l1.length : Int) > 1000
  · rw [decide_eq_true h3]; exact J
  rw [decide_eq_false h3]
  simp only [rosettelaw01_CrcBack.j0]
  rw [if_neg (by decide), seal_some hu0 (by omega)]
  simp only [Option.bind_some]
  have hs : u8s (zof (CrcM.sealB (nats l0))) := u8s_zof (CrcM.sealB_bytes _ (u8s_nats hu0))
  rw [open_some' hs (by rw [zof_length, CrcM.sealB_length, nats_length]; omega), open_some' hu1 (by omega)]
  simp only [Option.bind_some]
  rw [nats_zof, CrcM.open_sealB]
  simp only [opened]
  simp only [zof_nats hu0, if_true]
  cases ho : CrcM.openB (nats l1) with
  | none => simp
  | some y =>
    have h := CrcM.open_some _ _ ho
    have hy : CrcM.Bytes y := fun c hc => u8s_nats hu1 c (by rw [← h]; exact List.mem_append_left _ hc)
    have hyl : y.length ≤ l1.length := by have := congrArg List.length h; rw [CrcM.sealB_length, nats_length] at this; omega
    simp only [if_true]
    rw [seal_some (u8s_zof hy) (by rw [zof_length]; omega), nats_zof, h, zof_nats hu1]
    simp
end Go.Proofs.Ytidgehkoigeolaa.Pure
