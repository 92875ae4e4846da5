/- What the master of a cluster is; that it is valid; and that of a new cluster. No condition. -/
import Derived.Test.YtlffjoabajdfnaaGreatPuMo
set_option linter.unusedVariables false
set_option linter.unusedSimpArgs false
namespace Go.Proofs.YtlffjoabajdfnaaGreat.Ev
open Go.Proofs.YtlffjoabajdfnaaGreat.Eng
open Go.RowKit (wrap64)
theorem sameRoutes_self (xs : List impl_Route) (hx : xs.length ≤ 1000000000000) : laws_sameRoutes xs xs = some (true, ()) := by
  rw [laws_sameRoutes_eq, decide_eq_true rfl]
  refine refl_loop0 (true, ()) xs.length (fun i => laws_sameRoutes_4 xs xs i) (fun i h0 h1 => ?_)
  rw [laws_sameRoutes_4_eq]
  by_cases hi : i < (xs.length : Int)
  · simp only [cond_dec, if_pos h0, if_pos hi, w64 (n := i + 1) (by omega) (by omega), eqI_dec, sEq_dec, decide_true, Bool.and_self, Bool.not_true, cond_false]
  · simp only [cond_dec, if_neg hi]
theorem sameMaster_self (m : impl_Master) (h : m.Routes.length ≤ 1000000000000) : laws_sameMaster m m = some (true, ()) := by
  rw [laws_sameMaster_eq, sameRoutes_self _ h, Option.bind_some]
  simp only [eqI_dec, sEq_dec, decide_true, Bool.and_self, cond_true]
theorem noMaster_z : laws_noMaster ⟨[], 0, zPlan, 0⟩ = some (true, ()) := by
  rw [laws_noMaster_eq]
  have := sameMaster_self ⟨[], 0, zPlan, 0⟩ (by simp)
  rw [show (impl_Master.mk [] 0 (impl_Plan.mk 0 0 0 es 0 0 0) 0) = ⟨[], 0, zPlan, 0⟩ from rfl, this]; rfl
def masterR (c : impl_Cluster) : impl_Master := if clusterOk c = true then ⟨isort [] (liveFrom 0 c.Shards), c.Shards.length, c.Work, c.Turn⟩ else ⟨[], 0, zPlan, 0⟩
theorem clusterOk_le {c : impl_Cluster} (h : clusterOk c = true) : c.Shards.length ≤ 8 := by
  simp only [clusterOk, Bool.and_eq_true, decide_eq_true_eq] at h; exact h.1.2
theorem impl_MasterOf_f (c : impl_Cluster) (h : ClusterIn c) : impl_MasterOf c = some (masterR c, ()) := by
  rw [impl_MasterOf_eq, impl_ClusterValid_f c h, Option.bind_some]
  unfold masterR
  cases hk : clusterOk c with
  | false => rfl
  | true => rw [impl_liveRoutes_f c (clusterOk_le hk)]; rfl
theorem spec_MasterOf_f (c : impl_Cluster) (h : ClusterIn c) : spec_MasterOf c = some (masterR c, ()) := by
  rw [spec_MasterOf_eq, spec_ClusterValid_f c h, Option.bind_some]
  unfold masterR
  cases hk : clusterOk c with
  | false => rfl
  | true => rw [spec_ClusterRoutes_eq, spec_ClusterValid_f c h, Option.bind_some, hk, spec_l27Routes_f c (clusterOk_le hk)]; rfl
theorem masterR_len (c : impl_Cluster) : (masterR c).Routes.length ≤ 8 := by
  unfold masterR
  split
  · rename_i h
    have h1 := clusterOk_le h
    have h2 := liveFrom_len c.Shards 0
    have h3 := isort_length (liveFrom 0 c.Shards) []
    show (isort [] (liveFrom 0 c.Shards)).length ≤ 8
    simp only [List.length_nil] at h3
    omega
  · exact Nat.zero_le _
theorem masterR_ok {c : impl_Cluster} (h : clusterOk c = true) : masterOk (masterR c) = true := by
  have k := (clusterOk_iff c).1 h
  have n1 := k.n1
  have n8 := k.n8
  unfold masterR masterOk
  rw [if_pos h]
  simp only [Bool.and_eq_true, decide_eq_true_eq, List.all_eq_true]
  exact ⟨⟨⟨⟨k.routes, by omega, by omega⟩, k.turn⟩, fun r hr => (routes_number hr).2⟩, k.work⟩
/-! ### A new cluster -/
def cf2 : impl_Config := ⟨1, [2], false⟩
def st0 : impl_State := ⟨⟨es, es⟩, [], [], false, es⟩
def ch2 : impl_Chain := ⟨st0, cf2, [z_impl_Replica, z_impl_Replica, ⟨cf2, true, []⟩, z_impl_Replica, z_impl_Replica], [true, true, true, true, true], [], []⟩
def cl2 : impl_Cluster := ⟨[⟨true, ch2⟩], List.replicate 4 z_impl_Caller, [], zPlan, 0, 0⟩
theorem copy2 : impl_copyConfig ⟨1, [2], false⟩ = some (cf2, ()) := by
  rw [impl_copyConfig_eq, impl_copyOf_int_eq, ble_row (by simp) (by omega)]; rfl
theorem nc6 (s0 : impl_Chain) (b : impl_State) (n0 : List impl_Replica) (g0 : List impl_Message) (a0 : List impl_Answer) (s3 : List impl_Pair) (s4 : List impl_Session) (s5 : List Int) (s6 : List impl_Replica) (s7 : List Bool) (s8 : List impl_Message) (s9 : List impl_Answer)
    (P : List impl_Pair) (Kn : List impl_Session) (G : List impl_Message) (A : List impl_Answer) : ∀ (j i : Nat) (N : List impl_Replica) (u U : List Bool), i + j = 5 → N.length = 5 → U.length = i →
    impl_NewChain_6 [2] 5 (i : Int) s0 ⟨1, [], false⟩ ⟨b, ⟨1, [], false⟩, n0, [], g0, a0⟩ s3 s4 s5 s6 s7 s8 s9 P Kn [2] N U G A =
      some (⟨⟨b.Span, P, Kn, b.Sealed, b.Cut⟩, cf2, (if i ≤ 2 then N.set 2 ⟨cf2, true, []⟩ else N), U ++ List.replicate j true, G, A⟩, ())
  | 0, i, N, u, U, hj, hN, hU => by
    rw [impl_NewChain_6_eq, cond_dec, if_neg (by omega), if_neg (by omega), List.replicate_zero, List.append_nil]; rfl
  | j + 1, i, N, u, U, hj, hN, hU => by
    rw [impl_NewChain_6_eq, cond_dec, if_pos (by omega), ble_row (by simp; omega) (by omega), cond_true, slices_Contains_f _ _ (by simp), Option.bind_some, copy2, w64 (n := (i : Int) + 1) (by omega) (by omega)]
    have e1 : (i : Int) + 1 = ((i + 1 : Nat) : Int) := by omega
    rw [e1]
    simp only [cond_dec, Option.bind_some]
    have e2 : U ++ List.replicate (j + 1) true = (U ++ [true]) ++ List.replicate j true := by rw [List.replicate_succ, List.append_assoc]; rfl
    by_cases h : (i : Int) ∈ [(2 : Int)]
    · have h2 : i = 2 := by simp at h; omega
      subst h2
      rw [if_pos h, if_pos (by omega), if_pos (by omega)]
      have := nc6 s0 b n0 g0 a0 s3 s4 s5 s6 s7 s8 s9 P Kn G A j 3 (N.set 2 ⟨cf2, true, []⟩) u (U ++ [true]) (by omega) (by simp [hN]) (by simp [hU])
      rw [if_neg (by omega)] at this
      rw [if_pos (by omega), e2]
      exact this
    · have h2 : i ≠ 2 := fun e => h (by simp; omega)
      rw [if_neg h, e2]
      have := nc6 s0 b n0 g0 a0 s3 s4 s5 s6 s7 s8 s9 P Kn G A j (i + 1) N u (U ++ [true]) (by omega) hN (by simp [hU])
      rw [this]
      by_cases hi : i ≤ 2
      · rw [if_pos hi, if_pos (by omega)]
      · rw [if_neg hi, if_neg (by omega)]
theorem conf2 : configOk cf2 = true := by simp [configOk, cf2]; decide
theorem newChain2 : impl_NewChain st0 [2] = some (ch2, ()) := by
  rw [impl_NewChain_eq, impl_copyOf_int_eq, ble_row (by simp) (by omega)]
  simp only [cond_true, Option.bind_some, impl_StateValid_f st0 (by simp [st0]), show stateOk st0 = true from newState_ok, Bool.not_true, cond_false, impl_ConfigValid_f, show configOk ⟨1, [2], false⟩ = true from conf2, impl_copyState_f st0 (by simp [st0]) (by simp [st0]), cond_dec, if_pos (show (72 : Int) * 5 ≤ 281474976710656 by omega)]
  exact nc6 _ _ _ _ _ _ _ _ _ _ _ _ _ _ _ _ 5 0 (List.replicate 5 z_impl_Replica) [] [] rfl rfl rfl
theorem ch2_in : ChainIn ch2 := ⟨by simp [ch2, st0], fun r hr => by simp [ch2] at hr; rcases hr with rfl | rfl | rfl <;> simp [z_impl_Replica], fun m hm => by simp [ch2] at hm⟩
theorem ch2_ok : chainOk ch2 = true := by rfl
theorem newCluster2 : impl_NewCluster [2] = some (cl2, ()) := by
  rw [impl_NewCluster_eq, impl_NewState_eq, impl_IntervalValid_f, show ivOk ⟨es, es⟩ = true from rfl]
  simp only [Option.bind_some, Bool.not_true, cond_false]
  rw [show (impl_State.mk ⟨es, es⟩ [] [] false es) = st0 from rfl, newChain2, Option.bind_some, eta_Chain, impl_ChainValid_f ch2 ch2_in, ch2_ok, Option.bind_some]
  rfl
theorem cl2_in : ClusterIn cl2 := ⟨fun s hs => by simp [cl2] at hs; subst hs; exact ch2_in, fun x hx => by simp [cl2] at hx; subst hx; simp [z_impl_Caller]⟩
theorem cl2_ok : clusterOk cl2 = true := (clusterOk_iff cl2).2 (new_ok ((chainOk_iff ch2).1 ch2_ok) rfl)
theorem master2 : impl_MasterOf cl2 = some (newM, ()) := by
  rw [impl_MasterOf_f cl2 cl2_in]
  unfold masterR
  rw [if_pos cl2_ok]; rfl
theorem law (a0 : List Int) (h0 : Bnd (.sl (.int .u8)) a0) : laws_FnMasterOf a0 = some (true, ()) := by
  have hb : ∀ x ∈ a0, 0 ≤ x ∧ x ≤ 255 := fun x hx => wf8 (h0.2 x hx)
  rw [laws_FnMasterOf_eq, cond_dec]
  by_cases hk : 1048576 < (a0.length : Int)
  · rw [if_pos hk]
  rw [if_neg hk]
  obtain ⟨x, e, hx⟩ := DrawMasterOf_t hb
  have hl := masterR_len x.1
  rw [e, Option.bind_some, impl_MasterOf_f _ hx, Option.bind_some, spec_MasterOf_f _ hx, Option.bind_some, sameMaster_self (masterR x.1) (by omega), Option.bind_some, impl_ClusterValid_f _ hx, Option.bind_some]
  cases hm : clusterOk x.1 with
  | false =>
    have : masterR x.1 = ⟨[], 0, zPlan, 0⟩ := by unfold masterR; rw [if_neg (by rw [hm]; simp)]
    rw [this]
    simp only [Bool.not_true, cond_false, Bool.not_false, cond_true, noMaster_z, Option.bind_some, alive_f]
  | true =>
    simp only [Bool.not_true, cond_false, impl_MasterValid_f _ (show (masterR x.1).Routes.length ≤ 1000000000000 by omega), masterR_ok hm, Option.bind_some, cond_true, newCluster2, master2, impl_NewMaster_f, sameMaster_self newM (by simp [newM]), alive_f]
end Go.Proofs.YtlffjoabajdfnaaGreat.Ev
