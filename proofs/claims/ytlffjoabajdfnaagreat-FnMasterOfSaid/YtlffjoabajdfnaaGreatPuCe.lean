/- Plays of clusters that are drawn: all returns. No condition. -/
import Derived.Test.YtlffjoabajdfnaaGreatPuCd
set_option linter.unusedVariables false
set_option linter.unusedSimpArgs false
set_option linter.unusedSectionVars false
namespace Go.Proofs.YtlffjoabajdfnaaGreat.Ev
open Go.Proofs.YtlffjoabajdfnaaGreat.Eng
open Go.RowKit (wrap64)
theorem first_member {c : impl_Cluster} (h : ClOk c) {i : Int} (h0 : 0 ≤ i) (hi : i < c.Shards.length) : (0 : Int) < (rdAt c.Shards i.toNat z_impl_Shard).Group.Conf.Members.length ∧ 0 ≤ rdAt (rdAt c.Shards i.toNat z_impl_Shard).Group.Conf.Members 0 0 ∧ rdAt (rdAt c.Shards i.toNat z_impl_Shard).Group.Conf.Members 0 0 ≤ 4 := by
  have hcf := (configOk_iff _).1 (h.at_ (j := i.toNat) (by omega)).1.conf
  have m0 := hcf.n0
  have := members_at hcf (i := 0) (by omega) (by omega)
  exact ⟨by omega, this⟩
theorem ask_d {n : Int} {r : spec_l20Rd} (h : Rdr n r) (hn : n ≤ 300000000) (c : impl_Cluster) (hc : ClOk c) (w : Int) (hw : 1 ≤ w ∧ w ≤ 3) : Tot (spec_l20Ask r c w) (fun x => Ds 200 x.1 ∧ Rdr (n + 20) x.2.1) := by
  have n1 := hc.n1
  have n8 := hc.n8
  have c4 := hc.c4
  have hwl : w < (c.Clients.length : Int) := by omega
  have hw0 : 0 ≤ w := by omega
  have hcl := hc.clients _ (rd_mem (d := z_impl_Caller) hw0 hwl)
  have hca := cacheOk_len (callerOk_cache hcl)
  have a13 : ∀ {r : spec_l20Rd} {l : List impl_Deed}, Ds 150 l → Rdr (n + 20) r → Tot (spec_l20Ask_13 w r l) (fun x => Ds 200 x.1 ∧ Rdr (n + 20) x.2.1) := by
    intro r l hl hr
    have := hl.1
    rw [spec_l20Ask_13_eq, ble_row2 (by simp; omega) (by omega)]
    exact Tot.val ⟨(hl.app (Ds.one (dClient (by omega) hw))).up (by omega), hr⟩
  have a10 : ∀ {i : Int} {r : spec_l20Rd} {l : List impl_Deed}, 0 ≤ i → i < c.Shards.length → Ds 10 l → Rdr (n + 18) r → Tot (spec_l20Ask_10 w i r c l) (fun x => Ds 200 x.1 ∧ Rdr (n + 20) x.2.1) := by
    intro i r l h0 hi hl hr
    have hlv := hl.1
    obtain ⟨f1, f2⟩ := first_member hc h0 hi
    rw [spec_l20Ask_10_eq]
    simp only [cond_dec, if_pos h0, if_pos hi, if_pos f1]
    rw [ble_row2 (by simp; omega) (by omega), cond_true]
    have hl2 := hl.app (Ds.one (dSend hw f2))
    refine (pick_t hr (by omega) (by omega)).bind fun x hx => Tot.ite (fun _ => ?_) fun _ => a13 (hl2.up (by omega)) (hx.2.up (by omega))
    refine (quick_t hx.2 (by omega) c hc i h0 hi).bind fun y hy => ?_
    have hyv := hy.1.1
    rw [ble_row2 (by simp; omega) (by omega), cond_true]
    exact a13 ((hl2.app hy.1).up (by omega)) (hy.2.up (by omega))
  have a8 : ∀ {r : spec_l20Rd} {k : impl_Command} {l : List impl_Deed}, keyOk k.Key = true → Ds 5 l → Rdr (n + 16) r → Tot (spec_l20Ask_8 w r c k l) (fun x => Ds 200 x.1 ∧ Rdr (n + 20) x.2.1) := by
    intro r k l hk hl hr
    have hlv := hl.1
    rw [spec_l20Ask_8_eq, clusterRoutes_f c hc, Option.bind_some]
    refine (routeOf_c _ _ hc.routes hk).bind fun x ⟨y, hy, hx⟩ => ?_
    have := routes_number hy
    rw [ble_row2 (by simp; omega) (by omega), cond_true]
    exact a10 (by omega) (by omega) ((hl.app (Ds.one (dClient (by omega) hw))).up (by omega)) (hr.up (by omega))
  rw [spec_l20Ask_eq]
  simp only [cond_dec, if_pos hw0, if_pos hwl, spec_l1In_f, Option.bind_some, w64 (n := (c.Shards.length : Int) - 1) (by omega) (by omega)]
  refine (cmd_w h (by omega)).bind fun x hx => Tot.bif (fun hb => ?_) fun _ => ?_
  · have hk := wish_key (callerOk_busy hcl hb).2
    refine (cacheFind_t _ _ (by omega)).bind fun y _ => (pick_t hx.2 (by omega) (by omega)).bind fun z hz => Tot.ite (fun _ => a8 hk (Ds.nil.up (by omega)) (hz.2.up (by omega))) fun _ => Tot.bif (fun _ => a8 hk (Ds.nil.up (by omega)) (hz.2.up (by omega))) fun hin => ?_
    rw [Bool.not_eq_false', decide_eq_true_eq] at hin
    exact a10 hin.1 (by omega) (Ds.nil.up (by omega)) (hz.2.up (by omega))
  · have hk := wish_key hx.1
    rw [ble_row2 (by simp) (by omega), cond_true]
    have h1 := Ds.one (dAsk hw hx.1)
    refine (cacheFind_t _ _ (by omega)).bind fun y _ => (pick_t hx.2 (by omega) (by omega)).bind fun z hz => Tot.ite (fun _ => a8 hk (h1.up (by omega)) (hz.2.up (by omega))) fun _ => Tot.bif (fun _ => a8 hk (h1.up (by omega)) (hz.2.up (by omega))) fun hin => ?_
    rw [Bool.not_eq_false', decide_eq_true_eq] at hin
    exact a10 hin.1 (by omega) (h1.up (by omega)) (hz.2.up (by omega))
theorem other5 {a p : Int} (ha : 0 ≤ a ∧ a ≤ 4) (hp : 0 ≤ p ∧ p < 4) : (0 ≤ Int.tmod (wrap64 (wrap64 (a + 1) + p)) 5 ∧ Int.tmod (wrap64 (wrap64 (a + 1) + p)) 5 ≤ 4) ∧ ¬ a = Int.tmod (wrap64 (wrap64 (a + 1) + p)) 5 := by
  rw [w64 (n := a + 1) (by omega) (by omega), w64 (n := a + 1 + p) (by omega) (by omega), Int.tmod_eq_emod_of_nonneg (by omega)]
  omega
theorem work_d {n : Int} {r : spec_l20Rd} (h : Rdr n r) (hn : n ≤ 300000000) (c : impl_Cluster) (hc : ClOk c) : Tot (spec_l20Work r c) (fun x => Ds 300 x.1 ∧ Rdr (n + 20) x.2.1) := by
  have n1 := hc.n1
  have n8 := hc.n8
  have w20 : ∀ {r : spec_l20Rd} {l : List impl_Deed}, Ds 250 l → Rdr (n + 20) r → Tot (spec_l20Work_20 r l) (fun x => Ds 300 x.1 ∧ Rdr (n + 20) x.2.1) := by
    intro r l hl hr
    have := hl.1
    rw [spec_l20Work_20_eq, ble_row2 (by simp; omega) (by omega)]
    exact Tot.val ⟨(hl.app (Ds.one dNext)).up (by omega), hr⟩
  have w12 : ∀ {i : Int} {r : spec_l20Rd} {p : impl_Plan} {l : List impl_Deed}, 0 ≤ i → i < c.Shards.length → Ds 1 l → Rdr (n + 15) r → (p.Kind = 2 → 0 ≤ p.Second ∧ p.Second < c.Shards.length) → Tot (spec_l20Work_12 i r c (rdAt c.Shards i.toNat z_impl_Shard).Group p l) (fun x => Ds 300 x.1 ∧ Rdr (n + 20) x.2.1) := by
    intro i r p l h0 hi hl hr hp
    have hlv := hl.1
    have hg := (hc.at_ (j := i.toNat) (by omega)).1
    obtain ⟨f1, f2⟩ := first_member hc h0 hi
    rw [spec_l20Work_12_eq]
    simp only [cond_dec, eta_Chain, if_pos f1]
    refine Tot.ite (fun _ => ?_) fun _ => ?_
    · rw [ble_row2 (by simp; omega) (by omega), cond_true]
      refine (flow_t _ hg 4).bind fun y hy => (chained_t i (by omega) y.1 hy.1.2 hy.2).bind fun z hz => ?_
      have hzv := hz.1
      rw [ble_row2 (by simp; omega) (by omega), cond_true, ble_row2 (by simp; omega) (by omega), cond_true]
      exact Tot.val ⟨(((hl.app (Ds.one dNext)).app hz).app (Ds.one dNext)).up (by omega), hr.up (by omega)⟩
    · rw [ble_row2 (by simp; omega) (by omega), cond_true]
      refine (quick_t hr (by omega) c hc i h0 hi).bind fun y hy => ?_
      have hyv := hy.1.1
      rw [ble_row2 (by simp; omega) (by omega), cond_true]
      have l1 := (hl.app (Ds.one (dSeal f2 (i := i) (by omega)))).app hy.1
      refine Tot.ite (fun k2 => ?_) fun _ => w20 (l1.up (by omega)) (hy.2.up (by omega))
      obtain ⟨s0, s1⟩ := hp k2
      obtain ⟨g1, g2⟩ := first_member hc s0 s1
      rw [if_pos s0, if_pos s1, if_pos g1, ble_row2 (by simp; omega) (by omega), cond_true]
      refine (quick_t hy.2 (by omega) c hc p.Second s0 s1).bind fun z hz => ?_
      have hzv := hz.1.1
      rw [ble_row2 (by simp; omega) (by omega), cond_true]
      exact w20 (((l1.app (Ds.one (dSeal g2 (i := p.Second) (by omega)))).app hz.1).up (by omega)) (hz.2.up (by omega))
  have w8 : ∀ {i : Int} {r : spec_l20Rd} {p : impl_Plan}, 0 ≤ i → i < c.Shards.length → Rdr (n + 10) r → planOk p = true → p.Step = 0 → (p.Kind = 2 → 0 ≤ p.Second ∧ p.Second < c.Shards.length) → Tot (spec_l20Work_8 i r c (rdAt c.Shards i.toNat z_impl_Shard).Group p) (fun x => Ds 300 x.1 ∧ Rdr (n + 20) x.2.1) := by
    intro i r p h0 hi hr hp hs hp2
    have hcf := (configOk_iff _).1 (hc.at_ (j := i.toNat) (by omega)).1.conf
    have m0 := hcf.n0
    have m4 := hcf.n1
    rw [spec_l20Work_8_eq]
    simp only [cond_dec]
    refine (pick_t hr (by omega) (by omega)).bind fun x hx => Tot.ite (fun _ => ?_) fun _ => w12 h0 hi (Ds.one (dPlan hp hs)) (hx.2.up (by omega)) hp2
    refine (pick_t hx.2 (by omega) (by omega)).bind fun y hy => ?_
    have y1 := hy.1.2 (by omega)
    rw [if_pos hy.1.1, if_pos y1]
    refine (pick_t hy.2 (by omega) (by omega)).bind fun z hz => ?_
    have hm := members_at hcf hy.1.1 y1
    obtain ⟨o1, o2⟩ := other5 hm ⟨hz.1.1, hz.1.2 (by omega)⟩
    refine w12 h0 hi (Ds.one (dPlan ?_ rfl)) (hz.2.up (by omega)) (fun e => by cases e)
    unfold planOk
    dsimp only
    rw [decide_eq_true (p := 0 ≤ i ∧ i ≤ 7) (by omega), if_neg (by omega), if_neg (by omega), if_pos rfl, decide_eq_true (p := 0 ≤ _ ∧ _) ⟨hm.1, hm.2, o1.1, o1.2, o2, by omega, by omega, rfl⟩]
    simp
  have hrt := hc.routes
  have hl6 : (isort [] (liveFrom 0 c.Shards)).length ≤ 8 := by
    rw [isort_length]; have := liveFrom_len c.Shards 0; simp; omega
  have hl1 := routes_ne hrt
  rw [spec_l20Work_eq, clusterRoutes_f c hc, Option.bind_some]
  have hnum : ∀ {i : Int}, 0 ≤ i → i < (isort [] (liveFrom 0 c.Shards)).length → 0 ≤ (rdAt (isort [] (liveFrom 0 c.Shards)) i.toNat z_impl_Route).Number ∧ (rdAt (isort [] (liveFrom 0 c.Shards)) i.toNat z_impl_Route).Number < c.Shards.length := fun h0 h1 => routes_number (rd_mem h0 h1)
  have hne : ∀ {i : Int}, 0 ≤ i → i + 1 < (isort [] (liveFrom 0 c.Shards)).length → ¬ (rdAt (isort [] (liveFrom 0 c.Shards)) (i + 1).toNat z_impl_Route).Number = (rdAt (isort [] (liveFrom 0 c.Shards)) i.toNat z_impl_Route).Number := by
    intro i h0 h1 e
    simp only [routesOk, Bool.and_eq_true, nums_iff] at hrt
    have hnd := hrt.2.1
    generalize isort [] (liveFrom 0 c.Shards) = l at *
    have g : ∀ j : Nat, (hj : j < l.length) → (rdAt l j z_impl_Route).Number = (l.map fun r => r.Number)[j]'(by simpa using hj) := by
      intro j hj
      unfold rdAt
      rw [List.getD_eq_getElem?_getD, List.getElem?_eq_getElem hj, List.getElem_map]; rfl
    rw [g _ (by omega), g _ (by omega)] at e
    exact List.pairwise_iff_getElem.1 hnd _ _ _ _ (show i.toNat < (i + 1).toNat by omega) e.symm
  generalize isort [] (liveFrom 0 c.Shards) = l at *
  dsimp only
  refine (pick_t h (by omega) (by omega)).bind fun x hx => ?_
  have x0 := hx.1.1
  have x1 := hx.1.2 (by omega)
  have nx := hnum x0 x1
  simp only [cond_dec, if_pos x0, if_pos x1, if_pos nx.1, if_pos nx.2, w64 (n := x.1 + 1) (by omega) (by omega)]
  refine (pick_t hx.2 (by omega) (by omega)).bind fun y hy => ?_
  have y1 := hy.1.2 (by omega)
  rw [if_pos hy.1.1, if_pos (by simp; omega)]
  have hkey : keyOk (rdAt [lit [98], lit [99], lit [100], lit [102], lit [109], lit [115]] y.1.toNat es) = true := by
    refine rd_all (P := fun x => keyOk x = true) hy.1.1 (by simp; omega) fun x hx => ?_
    simp only [List.mem_cons, List.not_mem_nil, or_false] at hx
    rcases hx with rfl | rfl | rfl | rfl | rfl | rfl <;> rfl
  have p1 : planOk (impl_Plan.mk 1 (rdAt l x.1.toNat z_impl_Route).Number 0 (rdAt [lit [98], lit [99], lit [100], lit [102], lit [109], lit [115]] y.1.toNat es) 0 0 0) = true := by
    unfold planOk
    dsimp only
    rw [decide_eq_true (p := 0 ≤ (rdAt l x.1.toNat z_impl_Route).Number ∧ (rdAt l x.1.toNat z_impl_Route).Number ≤ 7) (by omega), if_pos rfl, hkey]
    simp
  refine Tot.ite (fun hx1 => ?_) fun _ => w8 nx.1 nx.2 (hy.2.up (by omega)) p1 rfl (fun e => by cases e)
  refine (pick_t hy.2 (by omega) (by omega)).bind fun z hz => Tot.ite (fun _ => ?_) fun _ => w8 nx.1 nx.2 (hz.2.up (by omega)) p1 rfl (fun e => by cases e)
  have nx2 := hnum (i := x.1 + 1) (by omega) hx1
  rw [if_pos (by omega), if_pos hx1]
  refine w8 (p := impl_Plan.mk 2 (rdAt l x.1.toNat z_impl_Route).Number (rdAt l (x.1 + 1).toNat z_impl_Route).Number es 0 0 0) nx.1 nx.2 (hz.2.up (by omega)) ?_ rfl (fun _ => nx2)
  have ne := hne x0 hx1
  unfold planOk
  dsimp only
  rw [decide_eq_true (p := 0 ≤ (rdAt l x.1.toNat z_impl_Route).Number ∧ (rdAt l x.1.toNat z_impl_Route).Number ≤ 7) (by omega), if_neg (by omega), if_pos rfl, decide_eq_true (p := 0 ≤ (rdAt l (x.1 + 1).toNat z_impl_Route).Number ∧ _) ⟨nx2.1, by omega, ne⟩]
  simp
theorem deeds_t {n : Int} {r : spec_l20Rd} (h : Rdr n r) (hn : n ≤ 200000000) (c : impl_Cluster) (hc : ClOk c) : Tot (spec_l20Deeds r c) (fun x => Ds 300 x.1 ∧ Rdr (n + 100) x.2.1) := by
  have n1 := hc.n1
  have n8 := hc.n8
  rw [spec_l20Deeds_eq]
  refine (pick_t h (by omega) (by omega)).bind fun u hu => (pick_t hu.2 (by omega) (by omega)).bind fun s hs => ?_
  have u0 := hu.1.1
  have u1 := hu.1.2 (by omega)
  have s0 := hs.1.1
  have s1 := hs.1.2 (by omega)
  obtain ⟨f1, f2⟩ := first_member hc s0 s1
  have hg := (hc.at_ (j := s.1.toNat) (by omega)).1
  simp only [cond_dec, if_pos s0, if_pos s1, if_pos f1, w64 (n := 1 + u.1) (by omega) (by omega), eta_Chain]
  refine (pick_t hs.2 (by omega) (by omega)).bind fun k hk => ?_
  have hw : 1 ≤ 1 + u.1 ∧ 1 + u.1 ≤ 3 := by omega
  have ask := (ask_d hk.2 (by omega) c hc (1 + u.1) hw).mono fun x hx => (⟨hx.1.up (by omega), hx.2.up (by omega)⟩ : Ds 300 x.1 ∧ Rdr (n + 100) x.2.1)
  have work := (work_d hk.2 (by omega) c hc).mono fun x hx => (⟨hx.1, hx.2.up (by omega)⟩ : Ds 300 x.1 ∧ Rdr (n + 100) x.2.1)
  refine Tot.ite (fun _ => ask.bind fun x hx => Tot.val hx) fun _ => Tot.ite (fun _ => ask.bind fun x hx => Tot.val hx) fun _ => Tot.ite (fun _ => ask.bind fun x hx => Tot.val hx) fun _ => Tot.ite (fun _ => ask.bind fun x hx => Tot.val hx) fun _ => Tot.ite (fun _ => work.bind fun x hx => Tot.val hx) fun _ => Tot.ite (fun _ => work.bind fun x hx => Tot.val hx) fun _ => ?_
  refine Tot.ite (fun _ => ?_) fun _ => Tot.ite (fun _ => ?_) fun _ => Tot.ite (fun _ => ?_) fun _ => Tot.ite (fun _ => ?_) fun _ => Tot.ite (fun _ => ?_) fun _ => Tot.ite (fun _ => ?_) fun _ => Tot.ite (fun _ => ?_) fun _ => Tot.ite (fun _ => ?_) fun _ => ?_
  · exact (cmd_w hk.2 (by omega)).bind fun x hx => Tot.val ⟨((Ds.one (dAsk hw hx.1)).app (Ds.one (dClient (.inl rfl) hw))).up (by omega), hx.2.up (by omega)⟩
  · refine (pick_t hk.2 (by omega) (by omega)).bind fun x hx => (pick_t hx.2 (by omega) (by omega)).bind fun y hy => ?_
    have x0 := hx.1.1
    have x1 := hx.1.2 (by omega)
    have y0 := hy.1.1
    have y1 := hy.1.2 (by omega)
    have e2 : wrap64 (Int.tdiv y.1 2) = y.1 / 2 := by rw [Int.tdiv_eq_ediv_of_nonneg y0, w64 (by omega) (by omega)]
    rw [e2, if_pos (by omega), if_pos (by simp; omega)]
    refine Tot.val ⟨(Ds.one (dSend hw ?_)).up (by omega), hy.2.up (by omega)⟩
    refine rd_all (P := fun x => 0 ≤ x ∧ x ≤ 4) (by omega) (by simp; omega) fun z hz => ?_
    simp only [List.mem_cons, List.not_mem_nil, or_false] at hz
    rcases hz with rfl | rfl
    · exact f2
    · exact ⟨x0, by omega⟩
  · exact Tot.val ⟨(Ds.one (dClient (by omega) hw)).up (by omega), hk.2.up (by omega)⟩
  · exact Tot.val ⟨(Ds.one (dClient (by omega) hw)).up (by omega), hk.2.up (by omega)⟩
  · exact Tot.val ⟨(Ds.one dNext).up (by omega), hk.2.up (by omega)⟩
  · exact Tot.val ⟨(Ds.one (dSeal f2 (i := s.1) (by omega))).up (by omega), hk.2.up (by omega)⟩
  · exact (quick_t hk.2 (by omega) c hc s.1 s0 s1).bind fun x hx => Tot.val ⟨hx.1.up (by omega), hx.2.up (by omega)⟩
  · refine (pick_t hk.2 (by omega) (by omega)).bind fun x hx => ?_
    have x0 := hx.1.1
    have x1 := hx.1.2 (by omega)
    refine (chained_t s.1 (by omega) _ (by simp) fun e he => ?_).bind fun y hy => Tot.val ⟨hy.up (by omega), hx.2.up (by omega)⟩
    simp only [List.mem_cons, List.not_mem_nil, or_false] at he
    rcases he with rfl | rfl
    · exact ev0 (by omega) (by omega) (by omega)
    · exact ev0 (by omega) f2 (by omega)
  · refine (event_t hk.2 (by omega) _ hg 1 (by omega)).bind fun x hx => (event_t hx.2 (by omega) _ hg 1 (by omega)).bind fun y hy => (chained_t s.1 (by omega) _ (by simp) fun e he => ?_).bind fun z hz => Tot.val ⟨hz.up (by omega), hy.2.up (by omega)⟩
    simp only [List.mem_cons, List.not_mem_nil, or_false] at he
    rcases he with rfl | rfl
    · exact hx.1
    · exact hy.1
/-! ### New clusters -/
theorem zCaller_ok : callerOk z_impl_Caller = true := by
  have e : cacheOk [] = true := rfl
  simp [callerOk, z_impl_Caller, z_impl_Command, e, cmdZero, eqI_dec, sEq_dec]; rfl
theorem zCaller_no : noCaller z_impl_Caller = true := by simp [noCaller, z_impl_Caller, z_impl_Command, cmdZero, eqI_dec, sEq_dec]; rfl
theorem new_ok {g : impl_Chain} (hg : ChOk g) (hs : g.Base.Span = ⟨es, es⟩) : ClOk ⟨[impl_Shard.mk true g], List.replicate (Int.toNat 4) z_impl_Caller, [], zPlan, 0, 0⟩ := by
  refine ⟨by simp, by simp, rfl, by simp, fun s h => ?_, fun x h => ?_, fun x h => (by cases h), workOk_zero _, ?_, zCaller_no, by dsimp only; omega, by dsimp only; omega⟩
  · rw [List.mem_singleton.1 h]; exact ⟨hg, rfl⟩
  · rw [List.eq_of_mem_replicate h]; exact zCaller_ok
  · show routesOk (isort [] (if true = true then [impl_Route.mk 0 g.Base.Span] else [])) = true
    rw [hs]; rfl
end Go.Proofs.YtlffjoabajdfnaaGreat.Ev
