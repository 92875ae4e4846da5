/- The program's MasterOf and the reference's MasterOf return the same for every cluster, which reads afterwards as before, and what is returned shares no memory with it. No condition. -/
import Derived.Test.YtoiddibdlmcecaaGreatPuWt
set_option linter.unusedVariables false
set_option linter.unusedSimpArgs false
namespace Go.Proofs.YtoiddibdlmcecaaGreat.Ev
open Go.Proofs.YtoiddibdlmcecaaGreat.Eng
open Go.RowKit (wrap64)
theorem chainIn_sm {c : impl_Chain} (h : Sm_impl_Chain c) : ChainIn c := by
  obtain ⟨⟨_, k, _⟩, _, n, _, b, _⟩ := h
  refine ⟨Nat.le_trans k.1 (by omega), fun r hr => ?_, fun m hm => ?_⟩
  · obtain ⟨_, l, _⟩ := n.2 r hr; exact Nat.le_trans l.1 (by omega)
  · obtain ⟨_, l, _⟩ := b.2 m hm; exact Nat.le_trans l.1 (by omega)
theorem clusterIn_sm {c : impl_Cluster} (h : Sm_impl_Cluster c) : ClusterIn c :=
  ⟨fun s hs => chainIn_sm (h.1.2 s hs).1, fun x hx => Nat.le_trans (h.2.1.2 x hx).1.1 (by omega)⟩
def masterR (c : impl_Cluster) : impl_Master := if clusterOk c = true then ⟨isort [] (liveFrom 0 c.Shards), c.Shards.length, c.Work, c.Turn⟩ else ⟨[], 0, zPlan, 0⟩
theorem clusterOk_le {c : impl_Cluster} (h : clusterOk c = true) : c.Shards.length ≤ 8 := by
  simp only [clusterOk, Bool.and_eq_true, decide_eq_true_eq] at h; exact h.1.2
theorem impl_MasterOf_f (c : impl_Cluster) (h : ClusterIn c) : impl_MasterOf c = some (masterR c, ()) := by
  rw [impl_MasterOf_eq, impl_ClusterValid_f c h, Option.bind_some]
  unfold masterR
  cases hk : clusterOk c with
  | false => rfl
  | true => rw [impl_liveRoutes_f c (clusterOk_le hk)]; rfl
theorem spec_MasterOf_f (c : impl_Cluster) (h : ClusterIn c) : spec_MasterOf c = some (masterR c, ()) := by
  rw [spec_MasterOf_eq, spec_ClusterValid_f c h, Option.bind_some]
  unfold masterR
  cases hk : clusterOk c with
  | false => rfl
  | true =>
    rw [spec_ClusterRoutes_eq, spec_ClusterValid_f c h, Option.bind_some, hk, spec_l27Routes_f c (clusterOk_le hk)]; rfl
theorem masterR_len (c : impl_Cluster) : (masterR c).Routes.length ≤ 8 := by
  unfold masterR
  split
  · rename_i h
    have h1 := clusterOk_le h
    have h2 := liveFrom_len c.Shards 0
    have h3 := isort_length (liveFrom 0 c.Shards) []
    show (isort [] (liveFrom 0 c.Shards)).length ≤ 8
    simp only [List.length_nil] at h3
    omega
  · exact Nat.zero_le _
theorem eqRoute_self' (a : impl_Route) : laws_eqRoute a a = some (true, ()) := eqRoute_self a
theorem eqMaster_refl (m : impl_Master) (h : m.Routes.length ≤ 8) : laws_eqMaster m m = some (true, ()) := by
  rw [laws_eqMaster_eq, eqRouteS_self m.Routes ⟨by omega, fun _ _ => trivial⟩]; simp [eqPlan_self]
theorem law (a0 : laws_Cluster) (h0 : Bnd Y_laws_Cluster a0) : laws_FnExactMasterOf a0 = some (true, ()) := by
  obtain ⟨r, hr, r0, r1, hs⟩ := szCluster_f a0 1048576 (by omega) (by omega) h0
  have hw := szCluster_w a0 1048576 r (by omega) (by omega) h0 hr
  rw [laws_FnExactMasterOf_eq, hr, Option.bind_some, cond_dec]
  by_cases h : r < 0
  · rw [if_pos h]
  · have hsm := hs.resolve_left h
    have him := Sm_cvCluster hsm
    have hc := clusterIn_sm him
    have hl := masterR_len (cvCluster a0)
    rw [if_neg h]
    obtain ⟨q, hq, hq0⟩ := markCluster_t a0 hsm (hw.resolve_left h)
    simp only [toCluster_f a0 hsm, Option.bind_some, spec_MasterOf_f _ hc, impl_MasterOf_f _ hc, eqMaster_refl _ hl, Bool.not_true, cond_false, eqCluster_self _ him, hq, cond_dec, if_neg (show ¬ q.1 < 0 by omega),
      markMaster_f (masterR (cvCluster a0)) 1 (by omega) (by omega) (by omega), heldMaster_f (masterR (cvCluster a0)).Routes.length _ _ _ 1 (show (masterR (cvCluster a0)).Routes.length ≤ 1000000000 by omega) (by omega) (by omega), if_neg (show ¬ (1 : Int) + 3 * ((masterR (cvCluster a0)).Routes.length : Int) < 0 by omega), decide_true]
end Go.Proofs.YtoiddibdlmcecaaGreat.Ev
