/- Clusters that are drawn, odd ones too. No condition. -/
import Derived.Test.YtlffjoabajdfnaaGreatPuMd
import Derived.Test.YtlffjoabajdfnaaGreatPuDy
set_option linter.unusedVariables false
set_option linter.unusedSimpArgs false
set_option linter.unusedSectionVars false
namespace Go.Proofs.YtlffjoabajdfnaaGreat.Ev
open Go.Proofs.YtlffjoabajdfnaaGreat.Eng
open Go.RowKit (wrap64)
theorem cache3_t {n m : Int} (hn : n ≤ 100000000) (hm : m ≤ 1000000) : ∀ (k : Nat) (r : spec_l20Rd) (l : List impl_Route), k ≤ 10 → Rdr (n + 21 * (10 - k)) r → l.length ≤ 8 → Tot (spec_l20Cache_3 m (k : Int) r l) (fun x => x.1.length ≤ 16 ∧ Rdr (n + 300) x.2.1)
  | 0, r, l, hk, hr, hl => by
    rw [spec_l20Cache_3_eq, cond_dec, if_neg (by omega)]
    simp only [cond_dec]
    refine (odd_t hr (by omega) hm).bind fun x hx => Tot.bif (fun _ => ?_) fun _ => Tot.val ⟨by show l.length ≤ 16; omega, hx.up (by omega)⟩
    refine (pick_t hx (by omega) (by omega)).bind fun y hy => Tot.ite (fun _ => ?_) fun _ => Tot.ite (fun _ => ?_) fun _ => ?_
    · exact Tot.ok (ble_row (by simp; omega) (by omega)) (Tot.val ⟨by simp; omega, hy.2.up (by omega)⟩)
    · exact Tot.ok (ble_row (by omega) (by omega)) (Tot.val ⟨by simp; omega, hy.2.up (by omega)⟩)
    · refine (pick_t hy.2 (by omega) (by omega)).bind fun z hz => (span_t hz.2 (by omega) (by omega)).bind fun w hw => ?_
      exact Tot.ok (ble_row (by simp; omega) (by omega)) (Tot.val ⟨by simp; omega, hw.up (by omega)⟩)
  | k + 1, r, l, hk, hr, hl => by
    rw [spec_l20Cache_3_eq, cond_dec, if_pos (by omega), w64 (n := ((k + 1 : Nat) : Int) - 1) (by omega) (by omega), show ((k + 1 : Nat) : Int) - 1 = (k : Int) by omega]
    refine (pick_t hr (by omega) (by omega)).bind fun x hx => (span_t hx.2 (by omega) (by omega)).bind fun y hy => (learn_t l _ (by omega)).bind fun z hz => ?_
    exact cache3_t hn hm k _ _ (by omega) (hy.up (by omega)) (cacheOk_len hz)
theorem cache_t {n m : Int} {r : spec_l20Rd} (h : Rdr n r) (hn : n ≤ 90000000) (hm : m ≤ 1000000) : Tot (spec_l20Cache r m) (fun x => x.1.length ≤ 16 ∧ Rdr (n + 301) x.2.1) := by
  rw [spec_l20Cache_eq]
  refine (pick_t h (by omega) (by omega)).bind fun x hx => ?_
  have x0 := hx.1.1
  have x1 := hx.1.2 (by omega)
  obtain ⟨k, hk⟩ : ∃ k : Nat, x.1 = (k : Int) := ⟨x.1.toNat, by omega⟩
  rw [hk]
  exact (cache3_t (n := n + 1) (by omega) hm k _ _ (by omega) (hx.2.up (by omega)) (by simp)).mono fun y hy => ⟨hy.1, hy.2.up (by omega)⟩
theorem caller20_t {n m : Int} {r : spec_l20Rd} (h : Rdr n r) (hn : n ≤ 80000000) (hm : m ≤ 1000000) : Tot (spec_l20Client r m) (fun x => x.1.Cache.length ≤ 16 ∧ Rdr (n + 1000) x.2.1) := by
  have c6 : ∀ {r : spec_l20Rd} {s1 s2 : impl_Caller} {s3 s4 : List impl_Route}, Rdr (n + 400) r → s4.length ≤ 16 → Tot (spec_l20Client_6 m r s1 s2 s3 s4) (fun x => x.1.Cache.length ≤ 16 ∧ Rdr (n + 1000) x.2.1) := by
    intro r s1 s2 s3 s4 hr hl
    rw [spec_l20Client_6_eq]
    simp only [cond_dec, List.length_cons, List.length_nil]
    refine (odd_t hr (by omega) hm).bind fun x hx => Tot.bif (fun _ => ?_) fun _ => Tot.val ⟨hl, hx.up (by omega)⟩
    refine (pick_t hx (by omega) (by omega)).bind fun y hy => Tot.ite (fun _ => ?_) fun _ => Tot.ite (fun _ => ?_) fun _ => Tot.ite (fun _ => ?_) fun _ => Tot.ite (fun _ => ?_) fun _ => Tot.ite (fun _ => ?_) fun _ => ?_
    · exact (cache_t hy.2 (by omega) (by omega)).bind fun z hz => Tot.val ⟨hz.1, hz.2.up (by omega)⟩
    · refine (pick_t hy.2 (by omega) (by omega)).bind fun z hz => ?_
      have z1 := hz.1.2 (by omega)
      rw [if_pos hz.1.1, if_pos (by omega)]
      exact Tot.val ⟨hl, hz.2.up (by omega)⟩
    · exact Tot.val ⟨hl, hy.2.up (by omega)⟩
    · exact Tot.val ⟨hl, hy.2.up (by omega)⟩
    · refine (pick_t hy.2 (by omega) (by omega)).bind fun z hz => ?_
      have z1 := hz.1.2 (by omega)
      rw [if_pos hz.1.1, if_pos (by omega)]
      exact Tot.val ⟨hl, hz.2.up (by omega)⟩
    · exact Tot.val ⟨hl, hy.2.up (by omega)⟩
  rw [spec_l20Client_eq]
  simp only [cond_dec]
  refine (cache_t h (by omega) (by omega)).bind fun a ha => (pick_t ha.2 (by omega) (by omega)).bind fun b hb => (pick_t hb.2 (by omega) (by omega)).bind fun c hc => Tot.ite (fun _ => ?_) fun _ => ?_
  · refine (pick_t hc.2 (by omega) (by omega)).bind fun d hd => (cmd_t hd.2 (by omega) (by omega)).bind fun e he => (pick_t he (by omega) (by omega)).bind fun f hf => (pick_t hf.2 (by omega) (by omega)).bind fun g hg => Tot.ite (fun _ => c6 (hg.2.up (by omega)) ha.1) fun _ => c6 (hg.2.up (by omega)) ha.1
  · exact (pick_t hc.2 (by omega) (by omega)).bind fun d hd => Tot.ite (fun _ => c6 (hd.2.up (by omega)) ha.1) fun _ => c6 (hd.2.up (by omega)) ha.1
theorem chainIn_of3 {c d : impl_Chain} (h : ChainIn c) (h1 : d.Base = c.Base) (h2 : d.Nodes = c.Nodes) (h3 : d.Bag = c.Bag) : ChainIn d :=
  ⟨by rw [h1]; exact h.known, by rw [h2]; exact h.logs, by rw [h3]; exact h.bags⟩
theorem cluster_t {n m : Int} {r : spec_l20Rd} (h : Rdr n r) (hn : n ≤ 1000000) (hm : m ≤ 1000000) : Tot (spec_l20Cluster r m) (fun x => ClusterIn x.1 ∧ Rdr (n + 100000) x.2.1) := by
  rw [spec_l20Cluster_eq]
  simp only [cond_dec, List.length_cons, List.length_nil]
  refine (pick_t h (by omega) (by omega)).bind fun a ha => (pick_t ha.2 (by omega) (by omega)).bind fun b hb => (pick_t hb.2 (by omega) (by omega)).bind fun c hc => ?_
  have a0 := ha.1.1
  have a1 := ha.1.2 (by omega)
  have b0 := hb.1.1
  have b1 := hb.1.2 (by omega)
  have c1 := hc.1.2 (by omega)
  rw [if_pos hc.1.1, if_pos (by omega), w64 (n := 10 + b.1) (by omega) (by omega)]
  have hk : 0 ≤ rdAt [a.1, 10 + b.1] (Int.toNat c.1) (0 : Int) ∧ rdAt [a.1, 10 + b.1] (Int.toNat c.1) (0 : Int) ≤ 40 :=
    rd_all (P := fun x : Int => 0 ≤ x ∧ x ≤ 40) hc.1.1 (by simp; omega) (by intro x hx; simp at hx; rcases hx with rfl | rfl <;> omega)
  refine (clPlay_t hc.2 (by omega) _ (by omega)).bind fun p hp => ?_
  have hd : Ds 60 p.1.2.1 := ⟨by have := hp.1.2.1; omega, hp.1.2.2⟩
  refine (clusterPlay_t _ _ hp.1.1 hd).bind fun q hq => ?_
  have hin := hq.inn
  have hs1 := hq.n1
  have hs8 := hq.n8
  have fin : ∀ {r : spec_l20Rd} {s1 s2 : impl_Cluster} {s3 : List impl_Shard} {s4 : List impl_Caller} {s5 : List impl_Result} {S : List impl_Shard} {C : List impl_Caller} {R : List impl_Result}, Rdr (n + 100000) r →
      (∀ s ∈ S, ChainIn s.Group) → (∀ x ∈ C, x.Cache.length ≤ 1000000000000) → Tot (spec_l20Cluster_23 r s1 s2 s3 s4 s5 S C R) (fun x => ClusterIn x.1 ∧ Rdr (n + 100000) x.2.1) := by
    intro r s1 s2 s3 s4 s5 S C R hr h1 h2
    rw [spec_l20Cluster_23_eq]
    exact Tot.val ⟨⟨h1, h2⟩, hr⟩
  refine (odd_t hp.2 (by omega) hm).bind fun x hx => Tot.bif (fun _ => ?_) fun _ => fin (hx.up (by omega)) hin.shards hin.clients
  refine (pick_t hx (by omega) (by omega)).bind fun y hy => (pick_t hy.2 (by omega) (by omega)).bind fun z hz => ?_
  have y0 := hy.1.1
  have y1 := hy.1.2 (by omega)
  have at_ : ChainIn (rdAt q.1.Shards (Int.toNat y.1) z_impl_Shard).Group := hin.shards _ (rd_mem y0 y1)
  have put : ∀ (s' : impl_Shard), s'.Group.Base = (rdAt q.1.Shards (Int.toNat y.1) z_impl_Shard).Group.Base → s'.Group.Nodes = (rdAt q.1.Shards (Int.toNat y.1) z_impl_Shard).Group.Nodes → s'.Group.Bag = (rdAt q.1.Shards (Int.toNat y.1) z_impl_Shard).Group.Bag →
      ∀ s ∈ List.set q.1.Shards (Int.toNat y.1) s', ChainIn s.Group := fun s' e1 e2 e3 s hs => by
    rcases mem_set hs with rfl | hs
    · exact chainIn_of3 at_ e1 e2 e3
    · exact hin.shards s hs
  refine Tot.ite (fun _ => ?_) fun _ => Tot.ite (fun _ => ?_) fun _ => Tot.ite (fun _ => ?_) fun _ => Tot.ite (fun _ => ?_) fun _ => Tot.ite (fun _ => ?_) fun _ => Tot.ite (fun _ => ?_) fun _ => Tot.ite (fun _ => ?_) fun _ => Tot.ite (fun _ => ?_) fun _ => ?_
  · rw [if_pos y0, if_pos y1, if_pos y0, if_pos y1]
    exact fin (hz.2.up (by omega)) (put _ rfl rfl rfl) hin.clients
  · refine (config_t hz.2 (by omega) (by omega)).bind fun w hw => ?_
    rw [if_pos y0, if_pos y1]
    exact fin (hw.2.up (by omega)) (put _ rfl rfl rfl) hin.clients
  · rw [if_pos y0, if_pos y1]
    refine (pick_t hz.2 (by omega) (by omega)).bind fun w hw => ?_
    have w1 := hw.1.2 (by omega)
    have hu : (rdAt q.1.Shards (Int.toNat y.1) z_impl_Shard).Group.Up.length = 5 := (hq.at_ (j := y.1.toNat) (by omega)).1.u5
    rw [if_pos hw.1.1, if_pos (by omega)]
    exact fin (hw.2.up (by omega)) (put _ rfl rfl rfl) hin.clients
  · refine (pick_t hz.2 (by omega) (by omega)).bind fun w hw => (caller20_t hw.2 (by omega) (by omega)).bind fun v hv => ?_
    have w1 := hw.1.2 (by omega)
    have hc4 := hq.c4
    rw [if_pos hw.1.1, if_pos (by omega)]
    refine fin (hv.2.up (by omega)) hin.shards fun s hs => ?_
    rcases mem_set hs with rfl | hs
    · have := hv.1; omega
    · exact hin.clients s hs
  · refine (pick_t hz.2 (by omega) (by omega)).bind fun w hw => (cmd_t hw.2 (by omega) (by omega)).bind fun v hv => (pick_t hv (by omega) (by omega)).bind fun u hu => ?_
    have hr := hq.r40
    exact Tot.ok (ble_row (by simp; omega) (by omega)) (fin (hu.2.up (by omega)) hin.shards hin.clients)
  · exact (plan_t hz.2 (by omega) (by omega) (by omega)).bind fun w hw => fin (hw.up (by omega)) hin.shards hin.clients
  · refine (pick_t hz.2 (by omega) (by omega)).bind fun w hw => ?_
    have w1 := hw.1.2 (by omega)
    rw [if_pos hw.1.1, if_pos (by omega)]
    exact fin (hw.2.up (by omega)) hin.shards hin.clients
  · refine (pick_t hz.2 (by omega) (by omega)).bind fun w hw => ?_
    have w1 := hw.1.2 (by omega)
    rw [if_pos hw.1.1, if_pos (by omega)]
    exact fin (hw.2.up (by omega)) hin.shards hin.clients
  · have hc4 := hq.c4
    rw [if_pos (by omega)]
    exact fin (hz.2.up (by omega)) hin.shards fun s hs => hin.clients s (List.mem_of_mem_take (List.mem_of_mem_drop hs))
theorem DrawMasterOf_t {l : List Int} (h : ∀ x ∈ l, 0 ≤ x ∧ x ≤ 255) : Tot (spec_DrawMasterOf l) (fun x => ClusterIn x.1) := by
  rw [spec_DrawMasterOf_eq]
  exact (spec_l20Open_t h).bind fun o ho => (cluster_t ho (by omega) (by omega)).bind fun x hx => Tot.val hx.1
end Go.Proofs.YtlffjoabajdfnaaGreat.Ev
