/- The program's DecisionOf and the reference's DecisionOf return the same for every two clusters, and both read afterwards as before. No condition. -/
import Derived.Test.YtoiddibdlmcecaaGreatPuLy
set_option linter.unusedVariables false
set_option linter.unusedSimpArgs false
namespace Go.Proofs.YtoiddibdlmcecaaGreat.Ev
open Go.Proofs.YtoiddibdlmcecaaGreat.Eng
open Go.RowKit (wrap64)
theorem chainIn_sm {c : impl_Chain} (h : Sm_impl_Chain c) : ChainIn c := by
  obtain ⟨⟨_, k, _⟩, _, n, _, b, _⟩ := h
  refine ⟨Nat.le_trans k.1 (by omega), fun r hr => ?_, fun m hm => ?_⟩
  · obtain ⟨_, l, _⟩ := n.2 r hr; exact Nat.le_trans l.1 (by omega)
  · obtain ⟨_, l, _⟩ := b.2 m hm; exact Nat.le_trans l.1 (by omega)
theorem clusterIn_sm {c : impl_Cluster} (h : Sm_impl_Cluster c) : ClusterIn c :=
  ⟨fun s hs => chainIn_sm (h.1.2 s hs).1, fun x hx => Nat.le_trans (h.2.1.2 x hx).1.1 (by omega)⟩
theorem law (a0 a1 : laws_Cluster) (h0 : Bnd Y_laws_Cluster a0) (h1 : Bnd Y_laws_Cluster a1) : laws_FnExactDecisionOf a0 a1 = some (true, ()) := by
  obtain ⟨r, hr, r0, r1, hs⟩ := szCluster_f a0 1048576 (by omega) (by omega) h0
  rw [laws_FnExactDecisionOf_eq]
  rw [hr, Option.bind_some, cond_dec]
  by_cases h : r < 0
  · rw [if_pos h]
  · obtain ⟨q, hq, q0, q1, hs1⟩ := szCluster_f a1 r (by omega) (by omega) h1
    rw [if_neg h, hq, Option.bind_some, cond_dec]
    by_cases h2 : q < 0
    · rw [if_pos h2]
    · have hsm := hs.resolve_left h
      have hsm1 := hs1.resolve_left h2
      have him := Sm_cvCluster hsm
      have him1 := Sm_cvCluster hsm1
      have hc := clusterIn_sm him
      have hc1 := clusterIn_sm him1
      rw [if_neg h2]
      simp only [toCluster_f a0 hsm, toCluster_f a1 hsm1, Option.bind_some, eta_impl_Cluster, spec_DecisionOf_f _ _ hc hc1, impl_DecisionOf_f _ _ hc hc1, eqDecision_self, beqB_dec, decide_true, Bool.not_true, cond_false, eqCluster_self _ him, eqCluster_self _ him1]
end Go.Proofs.YtoiddibdlmcecaaGreat.Ev
