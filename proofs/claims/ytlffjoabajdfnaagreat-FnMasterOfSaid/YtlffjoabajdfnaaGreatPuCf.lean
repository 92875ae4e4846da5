/- Plays of clusters that are drawn, and the decisions they make: all returns. No condition. -/
import Derived.Test.YtlffjoabajdfnaaGreatPuCe
set_option linter.unusedVariables false
set_option linter.unusedSimpArgs false
set_option linter.unusedSectionVars false
namespace Go.Proofs.YtlffjoabajdfnaaGreat.Ev
open Go.Proofs.YtlffjoabajdfnaaGreat.Eng
open Go.RowKit (wrap64)
theorem cfg_pre {M : List Int} (h : configOk ⟨1, M, false⟩ = true) {k : Nat} (hk : 1 ≤ k) (hl : k ≤ M.length) : configOk ⟨1, M.take k, false⟩ = true := by
  have c := (configOk_iff _).1 h
  refine (configOk_iff _).2 ⟨c.e0, c.e1, ?_, ?_, fun h => (by cases h), (List.take_sublist k M).nodup c.nodup, fun x hx => c.nodes x (List.mem_of_mem_take hx)⟩
  · show 1 ≤ (M.take k).length; rw [List.length_take]; omega
  · show (M.take k).length ≤ 4; rw [List.length_take]; have := c.n1; dsimp only at this; omega
theorem few_t {n : Int} {r : spec_l20Rd} (h : Rdr n r) (hn : n ≤ 400000000) : Tot (spec_l20Few r) (fun x => configOk ⟨1, x.1, false⟩ = true ∧ Rdr (n + 6) x.2.1) := by
  rw [spec_l20Few_eq]
  simp only [cond_dec]
  refine (members_v h (by omega)).bind fun x hx => ?_
  have n1 : x.1.length ≤ 4 := ((configOk_iff _).1 hx.1).n1
  have cut : ∀ {r : spec_l20Rd} {m : Int}, Rdr m r → m ≤ 500000000 → m + 1 ≤ n + 6 → (2 : Int) ≤ x.1.length → Tot ((spec_l20Rd_pick r 2).bind fun y => if 0 ≤ wrap64 (1 + y.1) then if wrap64 (1 + y.1) ≤ (x.1.length : Int) then some (cutList x.1 0 (wrap64 (1 + y.1)), (y.2.1, ())) else none else none) (fun x => configOk ⟨1, x.1, false⟩ = true ∧ Rdr (n + 6) x.2.1) := by
    intro r m hr hm hm2 hl
    refine (pick_t hr (by omega) (by omega)).bind fun y hy => ?_
    have y0 := hy.1.1
    have y1 := hy.1.2 (by omega)
    rw [w64 (n := 1 + y.1) (by omega) (by omega), if_pos (by omega), if_pos (by omega), cut_pre _ _ (by omega)]
    exact Tot.val ⟨cfg_pre hx.1 (by omega) (by omega), hy.2.up (by omega)⟩
  refine Tot.ite (fun h3 => cut hx.2 (by omega) (by omega) (by omega)) fun _ => Tot.ite (fun h1 => (pick_t hx.2 (by omega) (by omega)).bind fun y hy => Tot.ite (fun _ => cut hy.2 (by omega) (by omega) (by omega)) fun _ => Tot.val ⟨hx.1, hy.2.up (by omega)⟩) fun _ => Tot.val ⟨hx.1, hx.2.up (by omega)⟩
theorem newState_ok : stateOk ⟨⟨es, es⟩, [], [], false, es⟩ = true := rfl
theorem newState_f : spec_NewState ⟨es, es⟩ = some (⟨⟨es, es⟩, [], [], false, es⟩, ()) := by
  rw [spec_NewState_eq, spec_IntervalValid_f, Option.bind_some]; rfl
theorem newCluster_t (M : List Int) (h : configOk ⟨1, M, false⟩ = true) : Tot (spec_NewCluster M) (fun x => ClOk x.1) := by
  rw [spec_NewCluster_eq, newState_f, Option.bind_some]
  refine (newChain_b _ M newState_ok h).bind fun x hx => ?_
  rw [eta_Chain, spec_ChainValid_f _ hx.1.inn, Option.bind_some, (chainOk_iff _).2 hx.1, Bool.not_true, cond_false, cond_dec, if_pos (by omega)]
  exact Tot.val (new_ok hx.1 (by rw [hx.2]))
/-! ### Plays -/
abbrev ck (c : impl_Cluster) : impl_Cluster := ⟨[], [], [], c.Work, c.Turn, c.Clock⟩
abbrev PlQ (N : Int) (m : Int) (a : impl_Cluster) (x : (impl_Cluster × List impl_Deed × Unit) × spec_l20Rd × Unit) : Prop := (x.1.1 = a ∧ Ds m.toNat x.1.2.1) ∧ Rdr N x.2.1
section
variable (a z : impl_Cluster) (g5 : List impl_Shard) (g6 : List impl_Caller) (g7 : List impl_Result)
def Q5 (N m : Int) (f : Nat) : Prop := ∀ (c : impl_Cluster) (r : spec_l20Rd) (ds : List impl_Deed), ClOk c → Rdr (N - 1000 * f) r → Ds m.toNat ds →
  Tot (spec_l20ClusterPlay_5' m (60 - f) r z (ck a) (ck c) ds g5 g6 g7 a.Shards a.Clients a.Results c.Shards c.Clients c.Results) (PlQ N m a)
variable {N : Int} (hN : N ≤ 100000000) {m : Int} (hm : 0 ≤ m ∧ m ≤ 100)
include hN hm
theorem q9 (f : Nat) (hf : f + 1 ≤ 60) (h5 : Q5 a z g5 g6 g7 N m f) (l : List impl_Deed) (hl : Ds 300 l) : ∀ (j : Nat) (i : Int) (c : impl_Cluster) (r : spec_l20Rd) (ds : List impl_Deed), i + j = l.length → 0 ≤ i → ClOk c → Rdr (N - 1000 * f - 400 + i) r → Ds m.toNat ds →
    Tot (spec_l20ClusterPlay_9' m (60 - (f + 1 : Nat)) i r z (ck a) (ck c) ds l g5 g6 g7 a.Shards a.Clients a.Results c.Shards c.Clients c.Results) (PlQ N m a) := by
  have hlv := hl.1
  have drop : ∀ (i : Int) (c : impl_Cluster) (r : spec_l20Rd) (ds : List impl_Deed), 0 ≤ i → i ≤ l.length → ¬ (i < l.length ∧ (ds.length : Int) < m) → ClOk c → Rdr (N - 1000 * f - 400 + i) r → Ds m.toNat ds → Tot (spec_l20ClusterPlay_9' m (60 - (f + 1 : Nat)) i r z (ck a) (ck c) ds l g5 g6 g7 a.Shards a.Clients a.Results c.Shards c.Clients c.Results) (PlQ N m a) := by
    intro i c r ds h0 h1 hno hc hr hd
    have e : wrap64 ((60 - (f + 1 : Nat) : Int) + 1) = 60 - f := by rw [w64 (by omega) (by omega)]; omega
    rw [spec_l20ClusterPlay_9'_eq, e]
    simp only [cond_dec]
    have k := h5 c r ds hc (hr.up (by omega)) hd
    by_cases hi : i < (l.length : Int)
    · rw [if_pos hi, if_neg (fun h => hno ⟨hi, h⟩)]; exact k
    · rw [if_neg hi]; exact k
  intro j
  induction j with
  | zero => intro i c r ds hj h0 hc hr hd; exact drop i c r ds h0 (by omega) (fun h => by omega) hc hr hd
  | succ j ih =>
    intro i c r ds hj h0 hc hr hd
    by_cases hlt : (ds.length : Int) < m
    · have hi : i < (l.length : Int) := by omega
      have hdd := hl.2 _ (rd_mem (d := z_impl_Deed) h0 hi)
      rw [spec_l20ClusterPlay_9'_eq]
      simp only [cond_dec, if_pos hi, if_pos hlt, if_pos h0, w64 (n := i + 1) (by omega) (by omega), eta_Cluster]
      refine (clusterStep_t c _ hc hdd).bind fun x hx => ?_
      have hds : Ds m.toNat (ds ++ [rdAt l i.toNat z_impl_Deed]) := ⟨by simp; omega, (hd.app (Ds.one hdd)).2⟩
      refine Tot.bif (fun _ => ?_) fun _ => ?_
      · rw [ble_row2 (by simp; omega) (by omega), cond_true]
        exact ih (i + 1) x.1.1 r _ (by omega) (by omega) hx (hr.up (by omega)) hds
      · refine (pick_t hr (by omega) (by omega)).bind fun y hy => Tot.ite (fun _ => ?_) fun _ => ih (i + 1) x.1.1 _ _ (by omega) (by omega) hx (hy.2.up (by omega)) hd
        rw [ble_row2 (by simp; omega) (by omega), cond_true]
        exact ih (i + 1) x.1.1 _ _ (by omega) (by omega) hx (hy.2.up (by omega)) hds
    · exact drop i c r ds h0 (by omega) (fun h => hlt h.2) hc hr hd
theorem q5_all : ∀ f : Nat, f ≤ 60 → Q5 a z g5 g6 g7 N m f
  | 0, hf, c, r, ds, hc, hr, hd => by
    rw [spec_l20ClusterPlay_5'_eq]
    simp only [cond_dec]
    refine Tot.ite (fun _ => ?_) fun _ => Tot.val ⟨⟨rfl, hd⟩, hr.up (by omega)⟩
    rw [if_neg (by omega)]
    exact Tot.val ⟨⟨rfl, hd⟩, hr.up (by omega)⟩
  | f + 1, hf, c, r, ds, hc, hr, hd => by
    rw [spec_l20ClusterPlay_5'_eq]
    simp only [cond_dec, eta_Cluster]
    refine Tot.ite (fun _ => ?_) fun _ => Tot.val ⟨⟨rfl, hd⟩, hr.up (by omega)⟩
    rw [if_pos (by omega)]
    refine (deeds_t hr (by omega) c hc).bind fun x hx => ?_
    exact q9 a z g5 g6 g7 hN hm f hf (q5_all f (by omega)) x.1 hx.1 x.1.length 0 c _ ds (by omega) (by omega) hc (hx.2.up (by omega)) hd
end
section
variable (a z s1' : impl_Cluster) (g5 : List impl_Shard) (g6 : List impl_Caller) (g7 : List impl_Result) (ha : ClOk a)
variable {N : Int} (hN : N ≤ 100000000) {m : Int} (hm : 0 ≤ m ∧ m ≤ 100)
include ha hN hm
theorem q_first : ∀ (f : Nat) (r : spec_l20Rd), f ≤ 60 → Rdr (N - 1000 * f) r → Tot (spec_l20ClusterPlay_5 m (60 - f) r z (ck a) (ck a) [] g5 g6 g7 a.Shards a.Clients a.Results) (PlQ N m a)
  | 0, r, hf, hr => by
    rw [spec_l20ClusterPlay_5_eq]
    simp only [cond_dec]
    refine Tot.ite (fun _ => ?_) fun _ => Tot.val ⟨⟨rfl, Ds.nil.up (by omega)⟩, hr.up (by omega)⟩
    rw [if_neg (by omega)]
    exact Tot.val ⟨⟨rfl, Ds.nil.up (by omega)⟩, hr.up (by omega)⟩
  | f + 1, r, hf, hr => by
    rw [spec_l20ClusterPlay_5_eq]
    simp only [cond_dec, eta_Cluster]
    refine Tot.ite (fun hlt => ?_) fun _ => Tot.val ⟨⟨rfl, Ds.nil.up (by omega)⟩, hr.up (by omega)⟩
    rw [if_pos (by omega)]
    refine (deeds_t hr (by omega) a ha).bind fun x hx => ?_
    have hxl := hx.1.1
    have e : wrap64 ((60 - (f + 1 : Nat) : Int) + 1) = 60 - f := by rw [w64 (by omega) (by omega)]; omega
    rw [spec_l20ClusterPlay_9_eq, e]
    simp only [cond_dec]
    refine Tot.ite (fun hi => ?_) fun _ => q_first f _ (by omega) (hx.2.up (by omega))
    have hdd := hx.1.2 _ (rd_mem (d := z_impl_Deed) (i := 0) (by omega) hi)
    have q := fun j i => q9 a z g5 g6 g7 hN hm f hf (q5_all a z g5 g6 g7 hN hm f (by omega)) x.1 hx.1 j i
    rw [if_pos hlt, if_pos (by omega)]
    simp only [if_pos hi, eta_Cluster, w64 (n := 0 + 1) (by omega) (by omega)]
    refine (clusterStep_t a _ ha hdd).bind fun y hy => ?_
    have hds : Ds m.toNat ([] ++ [rdAt x.1 (Int.toNat 0) z_impl_Deed]) := ⟨by simp at hlt ⊢; omega, (Ds.one hdd).2⟩
    have hj : (0 + 1 : Int) + (x.1.length - 1 : Nat) = x.1.length := by omega
    refine Tot.bif (fun _ => ?_) fun _ => ?_
    · rw [if_pos (by omega), ble_row2 (by simp) (by omega), cond_true]
      exact q _ _ y.1.1 _ _ hj (by omega) hy (hx.2.up (by omega)) hds
    · refine (pick_t hx.2 (by omega) (by omega)).bind fun w hw => Tot.ite (fun _ => ?_) fun _ => q _ _ y.1.1 _ _ hj (by omega) hy (hw.2.up (by omega)) (Ds.nil.up (by omega))
      rw [if_pos (by omega), ble_row2 (by simp) (by omega), cond_true]
      exact q _ _ y.1.1 _ _ hj (by omega) hy (hw.2.up (by omega)) hds
end
theorem clPlay_t {n : Int} {r : spec_l20Rd} (h : Rdr n r) (hn : n ≤ 50000000) (m : Int) (hm : 0 ≤ m ∧ m ≤ 100) : Tot (spec_l20ClusterPlay r m) (fun x => (ClOk x.1.1 ∧ Ds m.toNat x.1.2.1) ∧ Rdr (n + 61000) x.2.1) := by
  rw [spec_l20ClusterPlay_eq]
  refine (few_t h (by omega)).bind fun q hq => (newCluster_t q.1 hq.1).bind fun w hw => ?_
  exact (q_first w.1 _ _ _ _ hw (N := n + 61000) (by omega) hm 60 _ (by omega) (hq.2.up (by omega))).mono fun x hx => ⟨⟨by rw [hx.1.1]; exact hw, hx.1.2⟩, hx.2⟩
theorem clusterPlay_t (c : impl_Cluster) (ds : List impl_Deed) (h : ClOk c) (hd : Ds 60 ds) : Tot (spec_ClusterPlay c ds) (fun x => ClOk x.1) := by
  have hl := hd.1
  have go : ∀ (j : Nat) (i : Int) (c : impl_Cluster) (z : impl_Cluster) (s2 : List impl_Shard) (s3 : List impl_Caller) (s4 : List impl_Result), i + j = ds.length → 0 ≤ i → ClOk c → Tot (spec_ClusterPlay_5 ds i z (ck c) s2 s3 s4 c.Shards c.Clients c.Results) (fun x => ClOk x.1) := by
    intro j
    induction j with
    | zero =>
      intro i c z s2 s3 s4 hj h0 hc
      rw [spec_ClusterPlay_5_eq, cond_dec, if_neg (by omega)]
      exact Tot.val hc
    | succ j ih =>
      intro i c z s2 s3 s4 hj h0 hc
      have hi : i < (ds.length : Int) := by omega
      have hdd := hd.2 _ (rd_mem (d := z_impl_Deed) h0 hi)
      rw [spec_ClusterPlay_5_eq]
      simp only [cond_dec, if_pos hi, if_pos h0, hdd.valid, Option.bind_some, Bool.not_true, cond_false, w64 (n := i + 1) (by omega) (by omega), eta_Cluster]
      exact (clusterStep_t c _ hc hdd).bind fun x hx => ih (i + 1) x.1.1 _ _ _ _ (by omega) (by omega) hx
  rw [spec_ClusterPlay_eq, spec_ClusterValid_f c h.inn, Option.bind_some, (clusterOk_iff c).2 h, Bool.not_true, cond_false, cond_dec, if_neg (by omega), l27Copy_f c h, Option.bind_some]
  exact go ds.length 0 c _ _ _ _ (by omega) (by omega) h
/-! ### Decisions -/
/-! ### Plans and decisions, with faults -/
theorem plan9_t {n m : Int} {r : spec_l20Rd} (h : Rdr n r) (hn : n ≤ 100000000) (hm : m ≤ 1000000) (s1 s2 : impl_Plan) : Tot (spec_l20Plan_9 m r s1 s2) (fun x => Rdr (n + 5) x.2.1) := by
  have fin : ∀ {r : spec_l20Rd} {s1 s2 : impl_Plan}, Rdr (n + 5) r → Tot (spec_l20Plan_23 r s1 s2) (fun x => Rdr (n + 5) x.2.1) := fun hr => by rw [spec_l20Plan_23_eq]; exact Tot.val hr
  rw [spec_l20Plan_9_eq]
  simp only [cond_dec, List.length_cons, List.length_nil]
  refine (odd_t h (by omega) hm).bind fun x hx => Tot.bif (fun _ => ?_) fun _ => fin (hx.up (by omega))
  refine (pick_t hx (by omega) (by omega)).bind fun y hy => ?_
  have two : ∀ {f : Int × spec_l20Rd × Unit → Option (impl_Plan × spec_l20Rd × Unit)}, (∀ z : Int × spec_l20Rd × Unit, Rdr (n + 5) z.2.1 → Tot (f z) (fun x => Rdr (n + 5) x.2.1)) → Tot ((spec_l20Rd_pick y.2.1 2).bind fun z => if 0 ≤ z.1 then if z.1 < (((0 + 1 + 1 : Nat)) : Int) then f z else none else none) (fun x => Rdr (n + 5) x.2.1) := by
    intro f k
    refine (pick_t hy.2 (by omega) (by omega)).bind fun z hz => ?_
    have z1 := hz.1.2 (by omega)
    rw [if_pos hz.1.1, if_pos (by omega)]
    exact k z (hz.2.up (by omega))
  refine Tot.ite (fun _ => two fun z hz => fin hz) fun _ => Tot.ite (fun _ => two fun z hz => fin hz) fun _ => Tot.ite (fun _ => fin (hy.2.up (by omega))) fun _ => Tot.ite (fun _ => fin (hy.2.up (by omega))) fun _ => Tot.ite (fun _ => fin (hy.2.up (by omega))) fun _ => fin (hy.2.up (by omega))
theorem plan_t {n m k : Int} {r : spec_l20Rd} (h : Rdr n r) (hn : n ≤ 90000000) (hm : m ≤ 1000000) (hk : k ≤ 1000000) : Tot (spec_l20Plan r k m) (fun x => Rdr (n + 30) x.2.1) := by
  rw [spec_l20Plan_eq]
  simp only [cond_dec]
  refine (pick_t h (by omega) hk).bind fun x hx => (key_t hx.2 (by omega) (by omega)).bind fun y hy => (pick_t hy (by omega) (by omega)).bind fun z hz => Tot.ite (fun _ => ?_) fun _ => Tot.ite (fun _ => ?_) fun _ => ?_
  · exact (pick_t hz.2 (by omega) hk).bind fun a ha => (pick_t ha.2 (by omega) (by omega)).bind fun b hb => (plan9_t hb.2 (by omega) hm _ _).mono fun x hx => hx.up (by omega)
  · exact (pick_t hz.2 (by omega) (by omega)).bind fun a ha => (pick_t ha.2 (by omega) hk).bind fun b hb => (pick_t hb.2 (by omega) (by omega)).bind fun c hc => (pick_t hc.2 (by omega) (by omega)).bind fun d hd => (plan9_t hd.2 (by omega) hm _ _).mono fun x hx => hx.up (by omega)
  · exact (plan9_t hz.2 (by omega) hm _ _).mono fun x hx => hx.up (by omega)
end Go.Proofs.YtlffjoabajdfnaaGreat.Ev
