/- The program's ValueAt and the reference's ValueAt return the same for every chain, number and key, and the chain reads afterwards as before. No condition. -/
import Derived.Test.YtpdmjnejnplhnaaGreatPuVa
set_option linter.unusedVariables false
set_option linter.unusedSimpArgs false
namespace Go.Proofs.YtpdmjnejnplhnaaGreat.Ev
open Go.Proofs.YtpdmjnejnplhnaaGreat.Eng
open Go.RowKit (wrap64)
theorem law (a0 : laws_Chain) (a1 : Int) (a2 : ByteArray) (h0 : Bnd Y_laws_Chain a0) (h1 : Bnd (.int .i64) a1) (h2 : Bnd .str a2) : laws_FnExactValueAt a0 a1 a2 = some (true, ()) := by
  obtain ⟨r, hr, r0, r1, hs⟩ := szChain_f a0 1048576 (by omega) (by omega) h0
  rw [laws_FnExactValueAt_eq, eta_laws_Chain, hr, Option.bind_some, cond_dec, cond_dec]
  by_cases hk : 1048576 < (ByteArray.size a2 : Int)
  · rw [if_pos hk]
  rw [if_neg hk]
  by_cases h : r < 0
  · rw [if_pos h]
  · have hsm := hs.resolve_left h
    have him := Sm_cvChain hsm
    have hc := chainIn_of him
    rw [if_neg h]
    simp only [toChain_f a0 hsm, Option.bind_some, eta_Chain, spec_ValueAt_f _ a1 a2 hc, impl_ValueAt_f _ a1 a2 hc, decide_true, Bool.not_true, cond_false, eqChain_self _ him]
end Go.Proofs.YtpdmjnejnplhnaaGreat.Ev
