/- The program's StateAt and the reference's StateAt return the same for every chain and number, the chain reads afterwards as before, and what is returned shares no memory with it. No condition. -/
import Derived.Test.YtpdmjnejnplhnaaGreatPuVa
import Derived.Test.YtpdmjnejnplhnaaGreatPuMj
import Derived.Test.YtpdmjnejnplhnaaGreatPuMs
set_option linter.unusedVariables false
set_option linter.unusedSimpArgs false
namespace Go.Proofs.YtpdmjnejnplhnaaGreat.Ev
open Go.Proofs.YtpdmjnejnplhnaaGreat.Eng
open Go.RowKit (wrap64)
theorem markChain_t (c : impl_Chain) (h : Sm_impl_Chain c) : Tot (laws_markChain c 1) (fun r => 0 ≤ r.1) := by
  obtain ⟨h1, h2, h3, h4, h5, h6, _⟩ := h
  have a1 := h1.1.1
  have a2 := h1.2.1.1
  have a3 := h2.1.1
  have a4 := h3.1
  have a5 := h4.1
  have a6 := h5.1
  have a7 := h6.1
  rw [laws_markChain_eq, markState_f c.Base 1 (by omega) (by omega) (by omega) (by omega), Option.bind_some, laws_markConfig_eq]
  refine Tot.bind (Q := fun r => 0 ≤ r.1 ∧ r.1 ≤ 10000000) ((markIntS_t _ _ h2.1 (by dsimp only; omega) (by dsimp only; omega)).bind fun r hr => Tot.val ⟨hr.1, by have := hr.2; dsimp only at this ⊢; omega⟩) fun r2 q2 => ?_
  refine (markReplicaS_t _ _ h3 q2.1 (by omega)).bind fun r3 q3 => ?_
  refine (markBoolS_t _ _ h4 q3.1 (by omega)).bind fun r4 q4 => ?_
  refine (markMessageS_t _ _ h5 q4.1 (by omega)).bind fun r5 q5 => ?_
  exact (markAnswerS_t _ _ h6 q5.1 (by omega)).bind fun r6 q6 => Tot.val q6.1
theorem law (a0 : laws_Chain) (a1 : Int) (h0 : Bnd Y_laws_Chain a0) (h1 : Bnd (.int .i64) a1) : laws_FnExactStateAt a0 a1 = some (true, ()) := by
  obtain ⟨r, hr, r0, r1, hs⟩ := szChain_f a0 1048576 (by omega) (by omega) h0
  rw [laws_FnExactStateAt_eq, eta_laws_Chain, hr, Option.bind_some, cond_dec]
  by_cases h : r < 0
  · rw [if_pos h]
  · have hsm := hs.resolve_left h
    have him := Sm_cvChain hsm
    have hc := chainIn_of him
    obtain ⟨q, hq, hq0⟩ := markChain_t _ him
    have hl := stateAtR_len (cvChain a0) a1
    rw [if_neg h]
    simp only [toChain_f a0 hsm, Option.bind_some, eta_Chain, spec_StateAt_f _ a1 hc, impl_StateAt_f _ a1 hc, eqState_self (stateAtR (cvChain a0) a1).1 ⟨⟨by omega, fun _ _ => trivial⟩, ⟨by omega, fun _ _ => trivial⟩, trivial⟩, Bool.not_true, cond_false, beqB_self', eqChain_self _ him, hq, cond_dec, if_neg (show ¬ q.1 < 0 by omega),
      markState_f (stateAtR (cvChain a0) a1).1 1 (by omega) (by omega) (by omega) (by omega), heldState_f _ (stateAtR (cvChain a0) a1).1.Pairs.length (stateAtR (cvChain a0) a1).1.Known.length _ _ 1 (by omega) (by omega) (by omega) (by omega), if_neg (show ¬ (1 : Int) + 2 * ((stateAtR (cvChain a0) a1).1.Pairs.length : Int) + 3 * ((stateAtR (cvChain a0) a1).1.Known.length : Int) < 0 by omega), decide_true]
end Go.Proofs.YtpdmjnejnplhnaaGreat.Ev
