/- Clusters: which are valid; the decision between two. No condition. -/
import Derived.Test.YtlffjoabajdfnaaGreatPuSo
set_option linter.unusedVariables false
set_option linter.unusedSimpArgs false
namespace Go.Proofs.YtlffjoabajdfnaaGreat.Ev
open Go.Proofs.YtlffjoabajdfnaaGreat.Eng
open Go.RowKit (wrap64)
/-! ### Clusters -/
theorem beqB_dec (a b : Bool) : beqB a b = decide (a = b) := by cases a <;> cases b <;> rfl
theorem sbool_l (xs zs : List Bool) (hx : xs.length ≤ 1000000000000) (hz : zs.length = xs.length) : ∀ (ys us : List Bool) (i : Int), 0 ≤ i → i ≤ xs.length → xs.drop i.toNat = ys → zs.drop i.toNat = us → slices_Equal_sbool_bool_4 xs zs (xs.length : Int) i = some (decide (ys = us), ())
  | [], us, i, h0, h1, hd, hu => by
    have := drop_nil h0 h1 hd
    rw [slices_Equal_sbool_bool_4_eq, cond_dec, if_neg (by omega)]
    have : us = [] := by rw [← hu]; exact List.drop_eq_nil_of_le (by omega)
    rw [this]; rfl
  | y :: ys, us, i, h0, h1, hd, hu => by
    obtain ⟨hr, hl, hd'⟩ := rd_drop (d := false) h0 hd
    cases us with
    | nil => have := drop_nil (xs := zs) h0 (by omega) hu; omega
    | cons u us =>
      obtain ⟨hr2, hl2, hu'⟩ := rd_drop (d := false) h0 hu
      rw [slices_Equal_sbool_bool_4_eq]
      simp only [cond_dec, if_pos hl, if_pos hl2, if_pos h0, hr, hr2, w64 (n := i + 1) (by omega) (by omega), sbool_l xs zs hx hz ys us (i + 1) (by omega) (by omega) hd' hu', beqB_dec]
      by_cases e : y = u
      · subst e; simp
      · simp [e]
theorem slices_Equal_sbool_f (xs zs : List Bool) (hx : xs.length ≤ 1000000000000) : slices_Equal_sbool_bool xs zs = some (decide (xs = zs), ()) := by
  rw [slices_Equal_sbool_bool_eq]
  by_cases h : xs.length = zs.length
  · rw [decide_eq_true (p := (xs.length : Int) = (zs.length : Int)) (by omega), Bool.not_true, cond_false, sbool_l xs zs hx h.symm xs zs 0 (by omega) (by omega) rfl rfl]
  · rw [decide_eq_false (p := (xs.length : Int) = (zs.length : Int)) (by omega), decide_eq_false (p := xs = zs) (fun e => h (by rw [e]))]; rfl
def firstUp (c : impl_Cluster) : List Bool := (rdAt c.Shards 0 z_impl_Shard).Group.Up
def shardOk (up : List Bool) (s : impl_Shard) : Bool := chainOk s.Group && decide (s.Group.Up = up)
def endOk (c : impl_Cluster) : Bool := workOk c.Work c.Shards.length && (routesOk (isort [] (liveFrom 0 c.Shards)) && (noCaller (rdAt c.Clients 0 z_impl_Caller) && (decide (0 ≤ c.Turn ∧ c.Turn ≤ 999) && decide (0 ≤ c.Clock ∧ c.Clock ≤ 200))))
def clusterOk (c : impl_Cluster) : Bool := decide (1 ≤ c.Shards.length ∧ c.Shards.length ≤ 8) && (decide (c.Clients.length = 4) && (decide (c.Results.length ≤ 40) && (c.Shards.all (shardOk (firstUp c)) && (c.Clients.all callerOk && (c.Results.all resultOk && endOk c)))))
structure ClusterIn (c : impl_Cluster) : Prop where
  shards : ∀ s ∈ c.Shards, ChainIn s.Group
  clients : ∀ x ∈ c.Clients, x.Cache.length ≤ 1000000000000
theorem impl_Cluster_16 (c : impl_Cluster) (h8 : c.Shards.length ≤ 8) (h4 : c.Clients.length = 4) (hr : c.Results.length ≤ 40) : ∀ (ys : List impl_Result) (i : Int), 0 ≤ i → i ≤ c.Results.length → c.Results.drop i.toNat = ys → impl_ClusterValid_16 c.Results (c.Results.length : Int) i c = some (ys.all resultOk && endOk c, ())
  | [], i, h0, h1, hd => by
    have := drop_nil h0 h1 hd
    rw [impl_ClusterValid_16_eq, cond_dec, if_neg (by omega)]
    change (bif !planZero c.Work then _ else _) = _
    have tail : ((impl_liveRoutes c).bind fun r3 => (impl_RoutesValid r3.1).bind fun r4 => (bif r4.1 then (bif decide ((0 : Int) < (List.length c.Clients : Int)) then (impl_noCaller (rdAt c.Clients 0 z_impl_Caller)).bind fun r5 => (bif r5.1 then (bif decide ((0 : Int) ≤ c.Turn) then (bif decide (c.Turn ≤ (999 : Int)) then (impl_timeValid c.Clock).bind fun r6 => some (r6.1, ()) else some (false, ())) else some (false, ())) else some (false, ())) else none) else some (false, ()))) = some ((routesOk (isort [] (liveFrom 0 c.Shards)) && (noCaller (rdAt c.Clients 0 z_impl_Caller) && (decide (0 ≤ c.Turn ∧ c.Turn ≤ 999) && decide (0 ≤ c.Clock ∧ c.Clock ≤ 200)))), ()) := by
      simp only [impl_liveRoutes_f c h8, impl_RoutesValid_f, impl_noCaller_f, impl_timeValid_f, Option.bind_some]
      rw [decide_eq_true (p := (0 : Int) < (c.Clients.length : Int)) (by omega), cond_true, Bool.decide_and (p := 0 ≤ c.Turn) (q := c.Turn ≤ 999)]
      cases routesOk (isort [] (liveFrom 0 c.Shards)) <;> cases noCaller (rdAt c.Clients 0 z_impl_Caller) <;> cases decide (0 ≤ c.Turn) <;> cases decide (c.Turn ≤ 999) <;> rfl
    simp only [impl_PlanValid_f, Option.bind_some]
    rw [tail]
    unfold endOk workOk
    rw [Bool.decide_and (p := c.Work.First < (c.Shards.length : Int)) (q := c.Work.Second < (c.Shards.length : Int))]
    cases planZero c.Work <;> cases planOk c.Work <;> cases decide (c.Work.First < (c.Shards.length : Int)) <;> cases decide (c.Work.Second < (c.Shards.length : Int)) <;> simp
  | y :: ys, i, h0, h1, hd => by
    obtain ⟨hr', hl, hd'⟩ := rd_drop (d := z_impl_Result) h0 hd
    rw [impl_ClusterValid_16_eq]
    simp only [cond_dec, if_pos hl, if_pos h0, hr', w64 (n := i + 1) (by omega) (by omega), impl_Cluster_16 c h8 h4 hr ys (i + 1) (by omega) (by omega) hd', impl_ResultValid_f, Option.bind_some, List.all_cons]
    cases resultOk y <;> rfl
theorem impl_Cluster_10 (c : impl_Cluster) (hc : ClusterIn c) (h8 : c.Shards.length ≤ 8) (h4 : c.Clients.length = 4) (hr : c.Results.length ≤ 40) : ∀ (ys : List impl_Caller) (i : Int), 0 ≤ i → i ≤ c.Clients.length → c.Clients.drop i.toNat = ys → impl_ClusterValid_10 c.Clients (c.Clients.length : Int) i c = some (ys.all callerOk && (c.Results.all resultOk && endOk c), ())
  | [], i, h0, h1, hd => by
    have := drop_nil h0 h1 hd
    rw [impl_ClusterValid_10_eq, cond_dec, if_neg (by omega), impl_Cluster_16 c h8 h4 hr c.Results 0 (by omega) (by omega) rfl]; rfl
  | y :: ys, i, h0, h1, hd => by
    obtain ⟨hr', hl, hd'⟩ := rd_drop (d := z_impl_Caller) h0 hd
    have hm : y.Cache.length ≤ 1000000000000 := by rw [← hr']; exact hc.clients _ (rd_mem h0 hl)
    rw [impl_ClusterValid_10_eq]
    simp only [cond_dec, if_pos hl, if_pos h0, hr', w64 (n := i + 1) (by omega) (by omega), impl_Cluster_10 c hc h8 h4 hr ys (i + 1) (by omega) (by omega) hd', impl_CallerValid_f y hm, Option.bind_some, List.all_cons]
    cases callerOk y <;> rfl
theorem chainOk_up {c : impl_Chain} (h : chainOk c = true) : c.Up.length = 5 := by
  simp only [chainOk, Bool.and_eq_true, decide_eq_true_eq] at h; omega
theorem impl_Cluster_4 (c : impl_Cluster) (hc : ClusterIn c) (h1' : 1 ≤ c.Shards.length) (h8 : c.Shards.length ≤ 8) (h4 : c.Clients.length = 4) (hr : c.Results.length ≤ 40) : ∀ (ys : List impl_Shard) (i : Int), 0 ≤ i → i ≤ c.Shards.length → c.Shards.drop i.toNat = ys → impl_ClusterValid_4 c.Shards (c.Shards.length : Int) i c = some (ys.all (shardOk (firstUp c)) && (c.Clients.all callerOk && (c.Results.all resultOk && endOk c)), ())
  | [], i, h0, h1, hd => by
    have := drop_nil h0 h1 hd
    rw [impl_ClusterValid_4_eq, cond_dec, if_neg (by omega), impl_Cluster_10 c hc h8 h4 hr c.Clients 0 (by omega) (by omega) rfl]; rfl
  | y :: ys, i, h0, h1, hd => by
    obtain ⟨hr', hl, hd'⟩ := rd_drop (d := z_impl_Shard) h0 hd
    have hm : ChainIn y.Group := by rw [← hr']; exact hc.shards _ (rd_mem h0 hl)
    rw [impl_ClusterValid_4_eq]
    simp only [cond_dec, if_pos hl, if_pos h0, hr', eta_Chain, w64 (n := i + 1) (by omega) (by omega), impl_Cluster_4 c hc h1' h8 h4 hr ys (i + 1) (by omega) (by omega) hd', impl_ChainValid_f y.Group hm, Option.bind_some, List.all_cons, shardOk, if_pos (show (0 : Int) < (c.Shards.length : Int) by omega)]
    cases hk : chainOk y.Group with
    | false => rfl
    | true =>
      have := chainOk_up hk
      rw [slices_Equal_sbool_f _ _ (by omega), Option.bind_some]
      unfold firstUp
      cases decide (y.Group.Up = (rdAt c.Shards 0 z_impl_Shard).Group.Up) <;> rfl
theorem impl_ClusterValid_f (c : impl_Cluster) (hc : ClusterIn c) : impl_ClusterValid c = some (clusterOk c, ()) := by
  rw [impl_ClusterValid_eq]
  simp only [cond_dec]
  unfold clusterOk
  by_cases h1 : (c.Shards.length : Int) < 1
  · rw [if_pos h1, decide_eq_false (by omega)]; rfl
  · rw [if_neg h1]
    by_cases h8 : 8 < (c.Shards.length : Int)
    · rw [if_pos h8, decide_eq_false (by omega)]; rfl
    · rw [if_neg h8, decide_eq_true (p := 1 ≤ c.Shards.length ∧ c.Shards.length ≤ 8) (by omega)]
      by_cases h4 : c.Clients.length = 4
      · rw [decide_eq_true (p := (c.Clients.length : Int) = 4) (by omega), decide_eq_true h4]
        by_cases hr : 40 < (c.Results.length : Int)
        · rw [if_pos hr, decide_eq_false (by omega)]; rfl
        · rw [if_neg hr, decide_eq_true (p := c.Results.length ≤ 40) (by omega), impl_Cluster_4 c hc (by omega) (by omega) h4 (by omega) c.Shards 0 (by omega) (by omega) rfl]; rfl
      · rw [decide_eq_false (p := (c.Clients.length : Int) = 4) (by omega), decide_eq_false h4]; rfl
def lstOk (c : impl_Cluster) : Bool := c.Results.all resultOk && routesOk (isort [] (liveFrom 0 c.Shards))
theorem spec_Cluster_19 (c : impl_Cluster) (h8 : c.Shards.length ≤ 8) (hr : c.Results.length ≤ 40) : ∀ (ys : List impl_Result) (i : Int), 0 ≤ i → i ≤ c.Results.length → c.Results.drop i.toNat = ys → spec_ClusterValid_19 i c = some (ys.all resultOk && routesOk (isort [] (liveFrom 0 c.Shards)), ())
  | [], i, h0, h1, hd => by
    have := drop_nil h0 h1 hd
    have hl := liveFrom_len c.Shards 0
    have hs := isort_length (liveFrom 0 c.Shards) []
    have hs0 : ([] : List impl_Route).length = 0 := rfl
    rw [spec_ClusterValid_19_eq, cond_dec, if_neg (by omega), spec_l27Routes_f c h8, Option.bind_some, spec_RoutesValid_f _ (by dsimp only; omega)]; rfl
  | y :: ys, i, h0, h1, hd => by
    obtain ⟨hr', hl, hd'⟩ := rd_drop (d := z_impl_Result) h0 hd
    rw [spec_ClusterValid_19_eq]
    simp only [cond_dec, if_pos hl, if_pos h0, hr', w64 (n := i + 1) (by omega) (by omega), spec_Cluster_19 c h8 hr ys (i + 1) (by omega) (by omega) hd', spec_ResultValid_f, Option.bind_some, List.all_cons]
    cases resultOk y <;> rfl
def zeroAt (i : Int) (x : impl_Caller) : Bool := !decide (i = 0) || (decide (x.Seq = 0) && decide (x.Cache.length = 0))
def callersFrom : Int → List impl_Caller → Bool
  | _, [] => true
  | i, x :: l => callerOk x && (zeroAt i x && callersFrom (i + 1) l)
theorem spec_Cluster_14 (c : impl_Cluster) (hc : ClusterIn c) (h8 : c.Shards.length ≤ 8) (h4 : c.Clients.length = 4) (hr : c.Results.length ≤ 40) : ∀ (ys : List impl_Caller) (i : Int), 0 ≤ i → i ≤ c.Clients.length → c.Clients.drop i.toNat = ys → spec_ClusterValid_14 i c = some (callersFrom i ys && lstOk c, ())
  | [], i, h0, h1, hd => by
    have := drop_nil h0 h1 hd
    rw [spec_ClusterValid_14_eq, cond_dec, if_neg (by omega), spec_Cluster_19 c h8 hr c.Results 0 (by omega) (by omega) rfl]; rfl
  | y :: ys, i, h0, h1, hd => by
    obtain ⟨hr', hl, hd'⟩ := rd_drop (d := z_impl_Caller) h0 hd
    have hm : y.Cache.length ≤ 1000000000000 := by rw [← hr']; exact hc.clients _ (rd_mem h0 hl)
    rw [spec_ClusterValid_14_eq]
    simp only [cond_dec, if_pos hl, if_pos (show i < 4 by omega), if_pos h0, hr', w64 (n := i + 1) (by omega) (by omega), spec_Cluster_14 c hc h8 h4 hr ys (i + 1) (by omega) (by omega) hd', spec_CallerValid_f y hm, Option.bind_some, callersFrom, zeroAt]
    cases callerOk y with
    | false => rfl
    | true =>
      by_cases e : i = 0
      · rw [if_pos e, decide_eq_true e]
        by_cases s : y.Seq = 0
        · rw [decide_eq_true s]
          by_cases q : y.Cache.length = 0
          · rw [if_neg (show ¬ (0 : Int) < (y.Cache.length : Int) by omega), decide_eq_true q]; rfl
          · rw [if_pos (show (0 : Int) < (y.Cache.length : Int) by omega), decide_eq_false q]; rfl
        · rw [decide_eq_false s]; rfl
      · rw [if_neg e, decide_eq_false e]; rfl
theorem spec_Cluster_9 (c : impl_Cluster) (h8 : c.Shards.length ≤ 8) (k : Int) (hk : 0 ≤ k) (hk2 : k < c.Shards.length) (xs zs : List Bool) (hxs : (rdAt c.Shards k.toNat z_impl_Shard).Group.Up = xs) (hzs : (rdAt c.Shards 0 z_impl_Shard).Group.Up = zs) (hx : xs.length = 5) (hz : zs.length = 5) : ∀ (ys us : List Bool) (i : Int), 0 ≤ i → i ≤ xs.length → xs.drop i.toNat = ys → zs.drop i.toNat = us → spec_ClusterValid_9 k i c = if ys = us then spec_ClusterValid_4 (k + 1) c else some (false, ())
  | [], us, i, h0, h1, hd, hu => by
    have := drop_nil h0 h1 hd
    rw [spec_ClusterValid_9_eq, cond_dec, if_neg (by omega), w64 (n := k + 1) (by omega) (by omega)]
    have : us = [] := by rw [← hu]; exact List.drop_eq_nil_of_le (by omega)
    rw [if_pos this.symm]
  | y :: ys, us, i, h0, h1, hd, hu => by
    obtain ⟨hr, hl, hd'⟩ := rd_drop (d := false) h0 hd
    cases us with
    | nil => have := drop_nil (xs := zs) h0 (by omega) hu; omega
    | cons u us =>
      obtain ⟨hr2, hl2, hu'⟩ := rd_drop (d := false) h0 hu
      have ih := spec_Cluster_9 c h8 k hk hk2 xs zs hxs hzs hx hz ys us (i + 1) (by omega) (by omega) hd' hu'
      rw [spec_ClusterValid_9_eq]
      simp only [cond_dec, hxs, hzs, if_pos hl, if_pos hl2, if_pos h0, if_pos hk, if_pos hk2, if_pos (show (0 : Int) < (c.Shards.length : Int) by omega), if_pos (show i < 5 by omega), hr, hr2, w64 (n := i + 1) (by omega) (by omega), ih, beqB_dec]
      by_cases e : y = u
      · subst e; simp
      · simp [e]
theorem spec_Cluster_4 (c : impl_Cluster) (hc : ClusterIn c) (h8 : c.Shards.length ≤ 8) (h4 : c.Clients.length = 4) (hr : c.Results.length ≤ 40) : ∀ (ys : List impl_Shard) (i : Int), 0 ≤ i → i ≤ c.Shards.length → (0 < i → (firstUp c).length = 5) → c.Shards.drop i.toNat = ys → spec_ClusterValid_4 i c = some (ys.all (shardOk (firstUp c)) && (callersFrom 0 c.Clients && lstOk c), ())
  | [], i, h0, h1, hu, hd => by
    have := drop_nil h0 h1 hd
    rw [spec_ClusterValid_4_eq, cond_dec, if_neg (by omega), spec_Cluster_14 c hc h8 h4 hr c.Clients 0 (by omega) (by omega) rfl]; rfl
  | y :: ys, i, h0, h1, hu, hd => by
    obtain ⟨hr', hl, hd'⟩ := rd_drop (d := z_impl_Shard) h0 hd
    have hm : ChainIn y.Group := by rw [← hr']; exact hc.shards _ (rd_mem h0 hl)
    rw [spec_ClusterValid_4_eq]
    simp only [cond_dec, if_pos hl, if_pos h0, hr', eta_Chain, spec_ChainValid_f y.Group hm, Option.bind_some, List.all_cons, shardOk]
    cases hk : chainOk y.Group with
    | false => rfl
    | true =>
      have h5 := chainOk_up hk
      have hf : (firstUp c).length = 5 := by
        by_cases e : 0 < i
        · exact hu e
        · have : i = 0 := by omega
          subst this
          unfold firstUp
          rw [show rdAt c.Shards 0 z_impl_Shard = y from hr']
          exact h5
      rw [Bool.not_true, cond_false, spec_Cluster_9 c h8 i h0 hl y.Group.Up (firstUp c) (by rw [hr']) rfl h5 hf y.Group.Up (firstUp c) 0 (by omega) (by omega) rfl rfl,
        spec_Cluster_4 c hc h8 h4 hr ys (i + 1) (by omega) (by omega) (fun _ => hf) hd']
      by_cases e : y.Group.Up = firstUp c
      · rw [if_pos e, decide_eq_true e]; rfl
      · rw [if_neg e, decide_eq_false e]; rfl
theorem callersFrom_pos : ∀ (l : List impl_Caller) (i : Int), 0 < i → callersFrom i l = l.all callerOk
  | [], i, h => rfl
  | x :: l, i, h => by
    unfold callersFrom zeroAt
    rw [callersFrom_pos l (i + 1) (by omega), decide_eq_false (p := i = 0) (by omega), List.all_cons]; rfl
theorem callersFrom_0 (l : List impl_Caller) (h : l.length = 4) : callersFrom 0 l = (l.all callerOk && noCaller (rdAt l 0 z_impl_Caller)) := by
  cases l with
  | nil => simp at h
  | cons x l =>
    unfold callersFrom zeroAt
    rw [callersFrom_pos l (0 + 1) (by omega), List.all_cons, show rdAt (x :: l) 0 z_impl_Caller = x from rfl]
    cases hx : callerOk x with
    | false => rfl
    | true =>
      rw [noCaller_iff hx]
      cases decide (x.Seq = 0) <;> cases decide (x.Cache.length = 0) <;> cases l.all callerOk <;> rfl
theorem spec_ClusterValid_f (c : impl_Cluster) (hc : ClusterIn c) : spec_ClusterValid c = some (clusterOk c, ()) := by
  rw [spec_ClusterValid_eq]
  simp only [spec_l1In_f, spec_l27Work_f, Option.bind_some]
  unfold clusterOk
  by_cases h1 : 1 ≤ c.Shards.length ∧ c.Shards.length ≤ 8
  · rw [decide_eq_true (p := 1 ≤ (c.Shards.length : Int) ∧ (c.Shards.length : Int) ≤ 8) (by omega), decide_eq_true h1]
    by_cases h4 : c.Clients.length = 4
    · rw [decide_eq_true (p := (c.Clients.length : Int) = 4) (by omega), decide_eq_true h4]
      by_cases hr : c.Results.length ≤ 40
      · rw [decide_eq_false (p := 40 < (c.Results.length : Int)) (by omega), decide_eq_true hr, spec_Cluster_4 c hc h1.2 h4 hr c.Shards 0 (by omega) (by omega) (fun h => by omega) rfl, callersFrom_0 _ h4]
        unfold lstOk endOk
        generalize c.Shards.all (shardOk (firstUp c)) = a
        generalize c.Clients.all callerOk = b
        generalize c.Results.all resultOk = d
        generalize workOk c.Work c.Shards.length = e
        generalize routesOk (isort [] (liveFrom 0 c.Shards)) = f
        generalize noCaller (rdAt c.Clients 0 z_impl_Caller) = g
        generalize decide (0 ≤ c.Turn ∧ c.Turn ≤ 999) = k
        generalize decide (0 ≤ c.Clock ∧ c.Clock ≤ 200) = l
        cases a <;> cases b <;> cases d <;> cases e <;> cases f <;> cases g <;> cases k <;> cases l <;> rfl
      · rw [decide_eq_true (p := 40 < (c.Results.length : Int)) (by omega), decide_eq_false hr]; rfl
    · rw [decide_eq_false (p := (c.Clients.length : Int) = 4) (by omega), decide_eq_false h4]; rfl
  · rw [decide_eq_false (p := 1 ≤ (c.Shards.length : Int) ∧ (c.Shards.length : Int) ≤ 8) (by omega), decide_eq_false h1]; rfl
/-! ### The decision between two -/
end Go.Proofs.YtlffjoabajdfnaaGreat.Ev
