/- Of drawn pairs and intervals: the program's PartDigests is the reference's; there is a digest for each interval, and their sum modulo 99991 is the digest of the list. No condition. -/
import Derived.Test.YtfeeifefmenlmaaQFnPartDigests0
namespace Go.Proofs.Ytfeeifefmenlmaa.Pure
open Go.RowKit Go.Proofs.Ytfeeifefmenlmaa.PFnPartDigests Go.Proofs.YtfeeifefmenlmaaW.PrintWords Go.Proofs.YtfeeifefmenlmaaW.PrintLast Go.Proofs.YtfeeifefmenlmaaW.PrintMore Go.Proofs.Ytfeeifefmenlmaa.Lim
set_option linter.unusedVariables false
set_option linter.unusedSimpArgs false

theorem lawPartDigests_l0 (xs : List S29) (ps : List S83) (x : List Int) (hx : x.length ≤ 6) (hr : ∀ y ∈ x, -1 ≤ y ∧ y ≤ 99990) : ∀ (ys : List Int) (s i : Int), 0 ≤ i → i ≤ x.length → x.drop i.toNat = ys → -i ≤ s → s ≤ 99990 * i →
    laws_FnPartDigests.l0L xs ps x s i = if (x.length : Int) = (ps.length : Int) then some (Int.tmod (s + sumI ys) 99991 == pairsDigest xs) else some false
  | [], s, i, h0, h1, hd, hs, hs2 => by
    have := drop_nil h0 h1 hd
    rw [laws_FnPartDigests.l0L_eq, if_neg (by omega), impl_PairsDigest_f, Option.bind_some]
    simp only [sumI]
    rw [show s + 0 = s by omega]
  | y :: ys, s, i, h0, h1, hd, hs, hs2 => by
    obtain ⟨hy, hl, hd'⟩ := rd_drop h0 hd
    have hm : y ∈ x := by
      have : y ∈ x.drop i.toNat := by rw [hd]; exact List.mem_cons_self
      exact List.mem_of_mem_drop this
    have := hr y hm
    rw [laws_FnPartDigests.l0L_eq, if_pos hl, if_pos h0, hy, w64 (n := s + y) (by omega) (by omega), w64 (by omega) (by omega), lawPartDigests_l0 xs ps x hx hr ys (s + y) (i + 1) (by omega) (by omega) hd' (by omega) (by omega)]
    simp only [sumI]
    rw [show s + y + sumI ys = s + (y + sumI ys) by omega]
theorem sumI_nonneg : ∀ (l : List Int), (∀ y ∈ l, 0 ≤ y) → 0 ≤ sumI l
  | [], _ => by simp [sumI]
  | y :: ys, h => by
    have h1 := h y List.mem_cons_self
    have h2 := sumI_nonneg ys (fun z hz => h z (List.mem_cons_of_mem _ hz))
    simp only [sumI]; omega
theorem FnPartDigests : laws_FnPartDigests.Pure := by
  intro l _ hl hw
  refine (laws_FnPartDigests.fL_is l).rounds ?_
  rw [laws_FnPartDigests.fL_eq]
  by_cases h : (l.length : Int) > 1048576
  · rw [if_pos h]
  · have hc := Code.take hw
    obtain ⟨xs, q, hx, q0, q1, hxl⟩ := l20Pairs_ok hc 0 12 (by omega) (by omega) (by omega)
    obtain ⟨ps, q2, hp, _, _, hpl⟩ := l20Parts_ok hc q 12 (by omega) (by omega) (by omega)
    have hd : spec_DrawPartDigests.fL l = some (xs, ps) := by
      rw [spec_DrawPartDigests.fL_eq, spec_l20Open_f, Option.bind_some]
      dsimp only
      rw [hx, Option.bind_some]
      dsimp only
      rw [hp, Option.bind_some]
    have h6 := partDigests_length xs ps
    rw [if_neg h, hd, Option.bind_some]
    dsimp only
    rw [impl_PartDigests_f, Option.bind_some, spec_PartDigests_f, Option.bind_some, laws_sameInts_f _ _ (by omega), Option.bind_some, if_pos (by simp)]
    by_cases hok : pairsOk xs = true ∧ partOk ps = true
    · have e : partDigests xs ps = pdigs xs ps := by unfold partDigests; rw [if_pos hok]
      have hlen : (pdigs xs ps).length = ps.length := by simp [pdigs]
      have hpn := (partOk_len hok.2).1
      have hrange := pdigs_range xs hok.1 ps
      have hsum := sum_parts xs ps hok.1 hok.2
      have hnn : 0 ≤ sumI (pdigs xs ps) := by
        refine sumI_nonneg _ (fun y hy => ?_)
        simp only [pdigs, List.mem_map] at hy
        obtain ⟨v, hv, rfl⟩ := hy
        have hvi : ivOk v.f0 v.f1 = true := partOk_mem hok.2 v hv
        rw [pairsDigest_ok (pairsIn_ok hok.1 hvi)]
        exact Int.emod_nonneg _ (by omega)
      rw [e] at h6 ⊢
      rw [if_neg (by omega), lawPartDigests_l0 xs ps _ (by omega) hrange (pdigs xs ps) 0 0 (by omega) (by omega) (by simp) (by omega) (by omega), if_pos (by omega), pairsDigest_ok hok.1, ← hsum, show 0 + sumI (pdigs xs ps) = sumI (pdigs xs ps) by omega, Int.tmod_eq_emod_of_nonneg hnn]
      simp
    · have e : partDigests xs ps = [] := by unfold partDigests; rw [if_neg hok]
      rw [e, if_pos (by simp), impl_PairsValid_f, Option.bind_some, laws_alive_f]
      by_cases h1 : pairsOk xs = true
      · rw [if_pos h1, impl_PartitionValid_f, Option.bind_some, if_neg (fun h2 => hok ⟨h1, h2⟩), Option.bind_some]
      · rw [if_neg h1, Option.bind_some]

end Go.Proofs.Ytfeeifefmenlmaa.Pure
