/- Of a drawn pair: the program's PairDigest is the reference's, and with the next value, 0 after the greatest, the digest is another one. No condition. -/
import Derived.Test.YtkejaolfbejokaaQFnPairDigest0
namespace Go.Proofs.Ytkejaolfbejokaa.Pure
open Go.RowKit Go.Proofs.Ytkejaolfbejokaa.PFnPairDigest Go.Proofs.YtkejaolfbejokaaW.PrintWords Go.Proofs.YtkejaolfbejokaaW.PrintLast Go.Proofs.YtkejaolfbejokaaW.PrintMore Go.Proofs.Ytkejaolfbejokaa.Lim
set_option linter.unusedVariables false
set_option linter.unusedSimpArgs false

theorem drawPairDigest {l : List Int} (hw : ∀ x ∈ l, (Lit.int .u8 x).wf = true) : ∃ s v, spec_DrawPairDigest.fL l = some (s, v) ∧ -1 ≤ v ∧ v ≤ 1000 := by
  have hc := Code.take hw
  obtain ⟨s, q, hs, q0, q1, _⟩ := l20Key_ok hc 0 9 (by omega) (by omega) (by omega)
  obtain ⟨v, q', hv, _, _, v0, v1⟩ := l20Value_ok hc q 9 (by omega) (by omega) (by omega)
  rw [spec_DrawPairDigest.fL_eq, spec_l20Open_f, Option.bind_some]
  dsimp only
  rw [hs, Option.bind_some]
  dsimp only
  rw [hv, Option.bind_some]
  exact ⟨_, _, rfl, v0, v1⟩
theorem FnPairDigest : laws_FnPairDigest.Pure := by
  intro l _ hl hw
  refine (laws_FnPairDigest.fL_is l).rounds ?_
  rw [laws_FnPairDigest.fL_eq]
  by_cases h : (l.length : Int) > 1048576
  · rw [if_pos h]
  · obtain ⟨s, v, hd, v0, v1⟩ := drawPairDigest hw
    rw [if_neg h, hd, Option.bind_some]
    dsimp only
    rw [impl_PairDigest_f, Option.bind_some, spec_PairDigest_f, Option.bind_some, if_pos rfl, laws_alive_f, Option.bind_some, impl_PairDigest_f, Option.bind_some, w64 (by omega) (by omega), Int.tmod_eq_emod_of_nonneg (by omega)]
    have hr := digest_range (bs s) v
    by_cases e : digest (bs s) v < 0
    · rw [if_pos e, if_pos (by omega)]
    · rw [if_neg e, if_pos hr.2]
      have hc : keyOk (bs s) = true ∧ 0 ≤ v ∧ v ≤ 999 := by
        by_cases hc : keyOk (bs s) = true ∧ 0 ≤ v ∧ v ≤ 999
        · exact hc
        · exfalso; apply e; unfold digest; rw [if_neg hc]; omega
      have : ¬ digest (bs s) ((v + 1) % 1000) = digest (bs s) v := by
        unfold digest
        rw [if_pos hc, if_pos ⟨hc.1, by omega, by omega⟩]
        have hu : (v + 1) % 1000 = v + 1 ∨ ((v + 1) % 1000 = 0 ∧ v = 999) := by omega
        generalize (v + 1) % 1000 = u at hu
        generalize 1009 * keyRank (bs s) = A
        rcases hu with rfl | ⟨rfl, rfl⟩
        · omega
        · omega
      simp [this]

end Go.Proofs.Ytkejaolfbejokaa.Pure
