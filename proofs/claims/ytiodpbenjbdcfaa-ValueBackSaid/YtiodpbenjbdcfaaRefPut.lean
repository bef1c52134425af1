/- the document's own Put, PutInt, PutText over lists -/
import Derived.Test.YtiodpbenjbdcfaaWirePure
import Derived.Test.YtiodpbenjbdcfaaGM0
set_option linter.unusedVariables false
set_option linter.unusedSimpArgs false
set_option autoImplicit false
namespace Go.Proofs.Ytiodpbenjbdcfaa
open Go.RowKit Go.Proofs.YtiodpbenjbdcfaaW.PrintWords Go.Proofs.YtiodpbenjbdcfaaW.PrintLast Go.Proofs.YtiodpbenjbdcfaaW.PrintMore Go.Proofs.Ytiodpbenjbdcfaa.G
theorem rput_f (l : List Int) (n : Int) (h0 : 0 ≤ n) (h1 : n < 18446744073709551616) (hl : l.length ≤ 140737488355300) : rosetteref02_Put.f l n = some (l ++ putL n) := by
  unfold rosetteref02_Put.f
  rw [if_pos ⟨h0, h1, hl⟩]
theorem rputInt_f (l : List Int) (a : Int) (h0 : -9223372036854775808 ≤ a) (h1 : a < 9223372036854775808) (hl : l.length ≤ 140737488355300) : rosetteref02_PutInt.f l a = some (l ++ putL (zig a)) := by
  have hz := zig_lt a h0 h1
  unfold rosetteref02_PutInt.f
  by_cases h : a < 0
  · rw [if_pos h, show IntKind.u64.wrap ((IntKind.u64.wrap (2 * (IntKind.u64.wrap (wrap64 ((-1) - a))))) + 1) = zig a by simp only [IntKind.wrap_u64]; unfold wrap64 zig; rw [if_neg (by omega)]; omega]
    rw [rput_f l _ hz.1 hz.2 hl]
    rfl
  · rw [if_neg h, show IntKind.u64.wrap (2 * (IntKind.u64.wrap a)) = zig a by simp only [IntKind.wrap_u64]; unfold zig; rw [if_pos (by omega)]; omega]
    rw [rput_f l _ hz.1 hz.2 hl]
    rfl
theorem rputText_f (l : List Int) (s : ByteArray) (hl : l.length ≤ 140737488350000) (hs : s.size ≤ 4000) : rosetteref02_PutText.f l s = some (l ++ putL s.size ++ bytesOf s) := by
  unfold rosetteref02_PutText.f
  rw [wrap_size _ (by omega), rput_f l _ (by omega) (by omega) (by omega)]
  have := putL_len (s.size : Int)
  simp only [Option.bind_some]
  rw [if_pos (by simp only [List.length_append]; omega)]
end Go.Proofs.Ytiodpbenjbdcfaa
