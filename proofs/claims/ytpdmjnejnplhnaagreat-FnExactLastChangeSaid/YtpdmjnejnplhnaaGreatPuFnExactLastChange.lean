/- The program's LastChange and the reference's LastChange return the same for every chain and key, and the chain reads afterwards as before. No condition. -/
import Derived.Test.YtpdmjnejnplhnaaGreatPuVa
set_option linter.unusedVariables false
set_option linter.unusedSimpArgs false
namespace Go.Proofs.YtpdmjnejnplhnaaGreat.Ev
open Go.Proofs.YtpdmjnejnplhnaaGreat.Eng
open Go.RowKit (wrap64)
theorem law (a0 : laws_Chain) (a1 : ByteArray) (h0 : Bnd Y_laws_Chain a0) (h1 : Bnd .str a1) : laws_FnExactLastChange a0 a1 = some (true, ()) := by
  obtain ⟨r, hr, r0, r1, hs⟩ := szChain_f a0 1048576 (by omega) (by omega) h0
  rw [laws_FnExactLastChange_eq, eta_laws_Chain, hr, Option.bind_some, cond_dec, cond_dec]
  by_cases hk : 1048576 < (ByteArray.size a1 : Int)
  · rw [if_pos hk]
  rw [if_neg hk]
  by_cases h : r < 0
  · rw [if_pos h]
  · have hsm := hs.resolve_left h
    have him := Sm_cvChain hsm
    have hc := chainIn_of him
    rw [if_neg h]
    simp only [toChain_f a0 hsm, Option.bind_some, eta_Chain, spec_LastChange_f _ a1 hc, impl_LastChange_f _ a1 hc, decide_true, Bool.not_true, cond_false, eqChain_self _ him]
end Go.Proofs.YtpdmjnejnplhnaaGreat.Ev
