/- Plays of clusters that are drawn: the deeds are valid, and all returns. No condition. -/
import Derived.Test.YtlffjoabajdfnaaGreatPuCt
set_option linter.unusedVariables false
set_option linter.unusedSimpArgs false
set_option linter.unusedSectionVars false
namespace Go.Proofs.YtlffjoabajdfnaaGreat.Ev
open Go.Proofs.YtlffjoabajdfnaaGreat.Eng
open Go.RowKit (wrap64)
/-! ### Deeds that are drawn -/
abbrev zCmd : impl_Command := impl_Command.mk 0 es 0 0
abbrev zEvent : impl_Event := impl_Event.mk 0 0 0 (impl_Entry.mk 0 0 zCmd)
theorem cmd_w {n : Int} {r : spec_l20Rd} (h : Rdr n r) (hn : n ≤ 700000000) : Tot (spec_l20Cmd r 0) (fun x => wishOk x.1 = true ∧ Rdr (n + 14) x.2.1) := by
  rw [spec_l20Cmd_eq]
  simp only [cond_dec, odd0, Option.bind_some, cond_false]
  have rest : ∀ {k : ByteArray} {r' : spec_l20Rd}, keyOk k = true → Rdr (n + 8) r' → Tot ((spec_l20Rd_pick r' 8).bind fun v => if v.1 = 0 then some (impl_Command.mk 1 k 0 0, v.2.1, ()) else if v.1 = 1 then some (impl_Command.mk 3 k 0 0, v.2.1, ()) else if v.1 = 2 then (spec_l20Rd_pick v.2.1 5).bind fun a => (spec_l20Rd_pick a.2.1 5).bind fun b => some (impl_Command.mk 4 k b.1 (wrap64 (a.1 - 1)), b.2.1, ()) else (spec_l20Value v.2.1 0).bind fun a => some (impl_Command.mk 2 k (Int.tmod a.1 1000) 0, a.2.1, ())) (fun x => wishOk x.1 = true ∧ Rdr (n + 14) x.2.1) := by
    intro k r' hk hr
    refine (pick_t hr (by omega) (by omega)).bind fun v hv => Tot.ite (fun _ => Tot.val ⟨?_, hv.2.up (by omega)⟩) fun _ => Tot.ite (fun _ => Tot.val ⟨?_, hv.2.up (by omega)⟩) fun _ => Tot.ite (fun _ => ?_) fun _ => ?_
    · simp [wishOk, cmdOk, hk]
    · simp [wishOk, cmdOk, hk]
    · refine (pick_t hv.2 (by omega) (by omega)).bind fun a ha => (pick_t ha.2 (by omega) (by omega)).bind fun b hb => Tot.val ⟨?_, hb.2.up (by omega)⟩
      have a1 := ha.1.2 (by omega)
      have a0 := ha.1.1
      have b1 := hb.1.2 (by omega)
      have b0 := hb.1.1
      rw [w64 (n := a.1 - 1) (by omega) (by omega)]
      simp [wishOk, cmdOk, hk]; omega
    · refine (value_v hv.2 (by omega)).bind fun a ha => Tot.val ⟨?_, ha.2.up (by omega)⟩
      rw [tmod_le ha.1.1 ha.1.2]
      simp [wishOk, cmdOk, hk]; omega
  refine (key_v h (by omega)).bind fun y hy => (pick_t hy.2 (by omega) (by omega)).bind fun z hz => Tot.ite (fun _ => ?_) fun _ => rest hy.1 (hz.2.up (by omega))
  refine (pick_t hz.2 (by omega) (by omega)).bind fun u hu => ?_
  have := hu.1.2 (by omega)
  refine Tot.chk hu.1.1 (Tot.chk (by simp; omega) (rest (rd_all (P := fun x => keyOk x = true) hu.1.1 (by simp; omega) ?_) (hu.2.up (by omega))))
  intro x hx
  simp only [List.mem_cons, List.not_mem_nil, or_false] at hx
  rcases hx with rfl | rfl | rfl | rfl <;> rfl
theorem dClient {k w : Int} (hk : k = 2 ∨ k = 4 ∨ k = 5) (hw : 1 ≤ w ∧ w ≤ 3) : DeedOk ⟨k, w, 0, 0, zCmd, zEvent, zPlan⟩ := by
  refine ⟨?_, by dsimp only; omega, fun _ => hw, fun h => ?_, fun h => ?_, fun h => ?_⟩
  · rcases hk with rfl | rfl | rfl <;> simp [spec_DeedValid_eq, spec_DeedValid_4_eq, spec_DeedValid_6_eq, spec_DeedValid_8_eq, spec_DeedValid_10_eq, spec_DeedValid_12_eq, spec_l1In_f, eqI_dec, sEq_dec, hw.1, hw.2]
  all_goals (dsimp only at h; omega)
theorem dAsk {w : Int} {c : impl_Command} (hw : 1 ≤ w ∧ w ≤ 3) (hc : wishOk c = true) : DeedOk ⟨1, w, 0, 0, c, zEvent, zPlan⟩ := by
  refine ⟨?_, by dsimp only; omega, fun _ => hw, fun h => ?_, fun h => ?_, fun h => ?_⟩
  · simp [spec_DeedValid_eq, spec_DeedValid_4_eq, spec_DeedValid_6_eq, spec_DeedValid_8_eq, spec_DeedValid_10_eq, spec_DeedValid_12_eq, spec_l1In_f, spec_l25Wish_f, eqI_dec, sEq_dec, hw.1, hw.2, hc]
  all_goals (dsimp only at h; omega)
theorem dSend {w n : Int} (hw : 1 ≤ w ∧ w ≤ 3) (hn : 0 ≤ n ∧ n ≤ 4) : DeedOk ⟨3, w, n, 0, zCmd, zEvent, zPlan⟩ := by
  refine ⟨?_, by dsimp only; omega, fun _ => hw, fun _ => hn, fun h => ?_, fun h => ?_⟩
  · simp [spec_DeedValid_eq, spec_DeedValid_4_eq, spec_DeedValid_6_eq, spec_DeedValid_8_eq, spec_DeedValid_10_eq, spec_DeedValid_12_eq, spec_l1In_f, eqI_dec, sEq_dec, hw.1, hw.2, hn.1, hn.2]
  all_goals (dsimp only at h; omega)
theorem dChain {i : Int} {e : impl_Event} (hi : 0 ≤ i ∧ i ≤ 7) (he : EvOk e) (h1 : e.Kind ≠ 1) : DeedOk ⟨6, 0, 0, i, zCmd, e, zPlan⟩ := by
  refine ⟨?_, by dsimp only; omega, fun h => ?_, fun h => ?_, fun _ => ⟨he, hi.1⟩, fun h => ?_⟩
  · simp [spec_DeedValid_eq, spec_DeedValid_4_eq, spec_DeedValid_6_eq, spec_DeedValid_8_eq, spec_DeedValid_10_eq, spec_DeedValid_12_eq, spec_l1In_f, eventValid_t he, eqI_dec, sEq_dec, hi.1, hi.2, h1]
  all_goals (dsimp only at h; omega)
theorem dSeal {n i : Int} (hn : 0 ≤ n ∧ n ≤ 4) (hi : 0 ≤ i ∧ i ≤ 7) : DeedOk ⟨8, 0, n, i, zCmd, zEvent, zPlan⟩ := by
  refine ⟨?_, by dsimp only; omega, fun h => ?_, fun _ => hn, fun h => ?_, fun h => ?_⟩
  · simp [spec_DeedValid_eq, spec_DeedValid_4_eq, spec_DeedValid_6_eq, spec_DeedValid_8_eq, spec_DeedValid_10_eq, spec_DeedValid_12_eq, spec_l1In_f, eqI_dec, sEq_dec, hn.1, hn.2, hi.1, hi.2]
  all_goals (dsimp only at h; omega)
theorem dNext : DeedOk ⟨9, 0, 0, 0, zCmd, zEvent, zPlan⟩ := by
  refine ⟨?_, by dsimp only; omega, fun h => ?_, fun h => ?_, fun h => ?_, fun h => ?_⟩
  · simp [spec_DeedValid_eq, spec_DeedValid_4_eq, spec_DeedValid_6_eq, spec_DeedValid_8_eq, spec_DeedValid_10_eq, spec_DeedValid_12_eq, spec_l1In_f, eqI_dec, sEq_dec]
  all_goals (dsimp only at h; omega)
theorem dPlan {p : impl_Plan} (hp : planOk p = true) (hs : p.Step = 0) : DeedOk ⟨7, 0, 0, 0, zCmd, zEvent, p⟩ := by
  refine ⟨?_, by dsimp only; omega, fun h => ?_, fun h => ?_, fun h => ?_, fun _ => hp⟩
  · simp [spec_DeedValid_eq, spec_DeedValid_4_eq, spec_DeedValid_6_eq, spec_DeedValid_8_eq, spec_DeedValid_10_eq, spec_DeedValid_12_eq, spec_l1In_f, spec_PlanValid_f, eqI_dec, sEq_dec, hp, hs]
  all_goals (dsimp only at h; omega)
def Ds (n : Nat) (l : List impl_Deed) : Prop := l.length ≤ n ∧ ∀ d ∈ l, DeedOk d
theorem Ds.nil : Ds 0 [] := ⟨Nat.le_refl _, fun d h => by cases h⟩
theorem Ds.app {m n : Nat} {k l : List impl_Deed} (h1 : Ds m k) (h2 : Ds n l) : Ds (m + n) (k ++ l) := ⟨by have := h1.1; have := h2.1; simp; omega, fun d hd => (List.mem_append.1 hd).elim (h1.2 d) (h2.2 d)⟩
theorem Ds.one {d : impl_Deed} (h : DeedOk d) : Ds 1 [d] := ⟨Nat.le_refl _, fun x hx => by rw [List.mem_singleton.1 hx]; exact h⟩
theorem Ds.up {m n : Nat} {l : List impl_Deed} (h : Ds m l) (hn : m ≤ n) : Ds n l := ⟨Nat.le_trans h.1 hn, h.2⟩
theorem chained_t (i : Int) (hi : 0 ≤ i ∧ i ≤ 7) (ev : List impl_Event) (hl : ev.length ≤ 100) (he : ∀ e ∈ ev, EvOk e) : Tot (spec_l20Chained i ev) (fun x => Ds 100 x.1) := by
  have go : ∀ (j : Nat) (k : Int) (out : List impl_Deed), k + j = ev.length → 0 ≤ k → Ds k.toNat out → Tot (spec_l20Chained_3 i ev k out) (fun x => Ds 100 x.1) := by
    intro j
    induction j with
    | zero =>
      intro k out hj h0 ho
      rw [spec_l20Chained_3_eq, cond_dec, if_neg (by omega)]
      exact Tot.val (ho.up (by omega))
    | succ j ih =>
      intro k out hj h0 ho
      have hk : k < (ev.length : Int) := by omega
      have hov := ho.1
      rw [spec_l20Chained_3_eq]
      simp only [cond_dec, if_pos hk, if_pos h0, w64 (n := k + 1) (by omega) (by omega)]
      refine Tot.bif (fun h1 => ?_) fun _ => ih (k + 1) out (by omega) (by omega) (ho.up (by omega))
      rw [Bool.not_eq_true', decide_eq_false_iff_not] at h1
      rw [ble_row2 (by simp; omega) (by omega), cond_true]
      exact ih (k + 1) _ (by omega) (by omega) ((ho.app (Ds.one (dChain hi (he _ (rd_mem h0 hk)) h1))).up (by omega))
  rw [spec_l20Chained_eq]
  exact go ev.length 0 [] (by omega) (by omega) Ds.nil
theorem quick_t {n : Int} {r : spec_l20Rd} (h : Rdr n r) (hn : n ≤ 400000000) (c : impl_Cluster) (hc : ClOk c) (i : Int) (h0 : 0 ≤ i) (hi : i < c.Shards.length) : Tot (spec_l20Quick r c i) (fun x => Ds 100 x.1 ∧ Rdr (n + 1) x.2.1) := by
  have n8 := hc.n8
  have hg := (hc.at_ (j := i.toNat) (by omega)).1
  have hcf := (configOk_iff _).1 hg.conf
  have m0 := hcf.n0
  have m4 := hcf.n1
  have hbg := hg.bag.1
  rw [spec_l20Quick_eq]
  simp only [cond_dec, if_pos h0, if_pos hi, eta_Chain]
  refine (pick_t h (by omega) (by omega)).bind fun x hx => Tot.ite (fun _ => ?_) fun _ => ?_
  · exact (flow_t _ hg 4).bind fun y hy => (chained_t i (by omega) y.1 hy.1.2 hy.2).bind fun z hz => Tot.val ⟨hz, hx.2⟩
  · generalize hM : (rdAt c.Shards i.toNat z_impl_Shard).Group.Conf = K at hcf m0 m4 ⊢
    have hp : 0 ≤ mn (((rdAt c.Shards i.toNat z_impl_Shard).Group.Bag.length : Nat) : Int) 9 ∧ mn (((rdAt c.Shards i.toNat z_impl_Shard).Group.Bag.length : Nat) : Int) 9 ≤ 9 := by unfold mn; split <;> omega
    generalize mn (((rdAt c.Shards i.toNat z_impl_Shard).Group.Bag.length : Nat) : Int) 9 = p at hp ⊢
    have go : ∀ (j : Nat) (k : Int) (ev : List impl_Event), k + j = K.Members.length → 0 ≤ k → ev.length ≤ 2 * k → (∀ e ∈ ev, EvOk e) → Tot (spec_l20Quick_8 i K.Members p k x.2.1 ev) (fun x => Ds 100 x.1 ∧ Rdr (n + 1) x.2.1) := by
      have last : ∀ (k : Int) (ev : List impl_Event), ¬ k + 1 < K.Members.length → 0 ≤ k → k ≤ K.Members.length → ev.length ≤ 2 * k → (∀ e ∈ ev, EvOk e) → Tot (spec_l20Quick_8 i K.Members p k x.2.1 ev) (fun x => Ds 100 x.1 ∧ Rdr (n + 1) x.2.1) := by
        intro k ev hk h0 hkl hl he
        rw [spec_l20Quick_8_eq, w64 (n := k + 1) (by omega) (by omega), w64 (n := (K.Members.length : Int) - 1) (by omega) (by omega)]
        simp only [cond_dec, if_neg hk]
        rw [if_pos (by omega), if_pos (by omega), ble_row (by simp; omega) (by omega), cond_true]
        refine (chained_t i (by omega) _ (by simp; omega) fun e hm => ?_).bind fun z hz => Tot.val ⟨hz, hx.2⟩
        rcases List.mem_append.1 hm with hm | hm
        · exact he e hm
        · rw [List.mem_singleton.1 hm]; exact ev0 (by omega) (members_at hcf (by omega) (by omega)) (by omega)
      intro j
      induction j with
      | zero => intro k ev hj h0 hl he; exact last k ev (by omega) h0 (by omega) hl he
      | succ j ih =>
        intro k ev hj h0 hl he
        by_cases hk : k + 1 < (K.Members.length : Int)
        · have hk2 : k < (K.Members.length : Int) := by omega
          rw [spec_l20Quick_8_eq, w64 (n := k + 1) (by omega) (by omega)]
          simp only [cond_dec, if_pos hk, if_pos h0, if_pos hk2]
          rw [ble_row (by simp; omega) (by omega), cond_true]
          refine ih (k + 1) _ (by omega) (by omega) (by simp; omega) fun e hm => ?_
          rcases List.mem_append.1 hm with hm | hm
          · exact he e hm
          · simp only [List.mem_cons, List.not_mem_nil, or_false] at hm
            rcases hm with rfl | rfl
            · exact ev0 (by omega) (members_at hcf h0 hk2) (by omega)
            · exact ev0 (by omega) (by omega) hp
        · exact last k ev hk h0 (by omega) hl he
    exact go K.Members.length 0 [] (by omega) (by omega) (by simp) fun e h => by cases h
/-! ### Routes of a cluster -/
theorem isort_mem : ∀ (l acc : List impl_Route) (x : impl_Route), x ∈ isort acc l → x ∈ acc ∨ x ∈ l
  | [], acc, x, h => .inl h
  | r :: l, acc, x, h => by
    unfold isort at h
    rcases isort_mem l (ins r acc) x h with h | h
    · exact (ins_mem r acc x h).elim (fun e => .inr (e ▸ List.mem_cons_self)) .inl
    · exact .inr (List.mem_cons_of_mem _ h)
theorem live_mem : ∀ (l : List impl_Shard) (i : Int) (x : impl_Route), x ∈ liveFrom i l → i ≤ x.Number ∧ x.Number < i + l.length
  | [], i, x, h => by cases h
  | s :: l, i, x, h => by
    rw [liveFrom_cons] at h
    have rcs : x ∈ liveFrom (i + 1) l → i ≤ x.Number ∧ x.Number < i + ((s :: l).length : Int) := fun h => by
      have := live_mem l (i + 1) x h
      rw [List.length_cons]; omega
    split at h
    · rcases List.mem_cons.1 h with rfl | h
      · rw [List.length_cons]; dsimp only; omega
      · exact rcs h
    · exact rcs h
theorem routes_number {c : impl_Cluster} {x : impl_Route} (h : x ∈ isort [] (liveFrom 0 c.Shards)) : 0 ≤ x.Number ∧ x.Number < c.Shards.length := by
  rcases isort_mem _ _ _ h with h | h
  · cases h
  · have := live_mem _ _ _ h; omega
theorem clusterRoutes_f (c : impl_Cluster) (h : ClOk c) : spec_ClusterRoutes c = some (isort [] (liveFrom 0 c.Shards), ()) := by
  rw [spec_ClusterRoutes_eq, spec_ClusterValid_f c h.inn, Option.bind_some, (clusterOk_iff c).2 h, Bool.not_true, cond_false, spec_l27Routes_f c h.n8, Option.bind_some]
theorem cover (k : ByteArray) : ∀ (vs : List impl_Interval) (v : impl_Interval), ivOk v = true → chainFrom v vs = true → sLt k v.Low = false → (rdAt (v :: vs) vs.length z_impl_Interval).High = es → ∃ x ∈ v :: vs, ivOk x = true ∧ inIv x k = true
  | [], v, hv, hc, hk, hl => ⟨v, by simp, hv, by
      have hl : v.High = es := hl
      unfold inIv; rw [hk, hl]; simp⟩
  | y :: ys, v, hv, hc, hk, hl => by
    simp only [chainFrom, joinOk, Bool.and_eq_true, Bool.not_eq_true', decide_eq_false_iff_not, decide_eq_true_eq] at hc
    obtain ⟨⟨⟨⟨h1, h2⟩, h3⟩, h4⟩, h5⟩ := hc
    cases e : sLt k v.High with
    | true => exact ⟨v, by simp, hv, by unfold inIv; rw [hk, e]; simp⟩
    | false =>
      obtain ⟨x, hx, h⟩ := cover k ys y h2 h5 (by rw [← h4]; exact e) hl
      exact ⟨x, List.mem_cons_of_mem _ hx, h⟩
theorem routes_cover {l : List impl_Route} (h : routesOk l = true) {k : ByteArray} (hk : keyOk k = true) : ∃ x ∈ l, ivOk x.Span = true ∧ inIv x.Span k = true := by
  simp only [routesOk, Bool.and_eq_true] at h
  have hp := h.1.2
  unfold partOk at hp
  cases hs : spans l with
  | nil => rw [hs] at hp; cases hp
  | cons v vs =>
    rw [hs] at hp
    simp only [Bool.and_eq_true, decide_eq_true_eq] at hp
    obtain ⟨⟨⟨⟨_, h1⟩, h2⟩, h3⟩, h4⟩ := hp
    obtain ⟨x, hx, h⟩ := cover k vs v h1 h4 (by rw [h2]; exact sLt_no k) (by simpa using h3)
    rw [← hs] at hx
    unfold spans at hx
    obtain ⟨r, hr, rfl⟩ := List.mem_map.1 hx
    exact ⟨r, hr, h⟩
theorem routes_ne {l : List impl_Route} (h : routesOk l = true) : 1 ≤ l.length := by
  simp only [routesOk, Bool.and_eq_true] at h
  have hp := h.1.2
  cases l with
  | nil => cases hp
  | cons x l => simp
theorem routeOf_c (l : List impl_Route) (k : ByteArray) (h : routesOk l = true) (hk : keyOk k = true) : Tot (spec_RouteOf l k) (fun x => ∃ r ∈ l, x.1 = r.Number) := by
  have hl : l.length ≤ 6 := by simp only [routesOk, Bool.and_eq_true, decide_eq_true_eq] at h; exact h.1.1
  rw [spec_RouteOf_eq, spec_RoutesValid_f l (by omega), h, Option.bind_some, spec_KeyValid_f, hk, Option.bind_some]
  simp only [Bool.not_true, cond_false]
  have go : ∀ (ys : List impl_Route) (i : Int), 0 ≤ i → i ≤ l.length → l.drop i.toNat = ys → (∃ x ∈ ys, ivOk x.Span = true ∧ inIv x.Span k = true) → Tot (spec_RouteOf_4 l k i) (fun x => ∃ r ∈ l, x.1 = r.Number) := by
    intro ys
    induction ys with
    | nil => intro i h0 h1 hd ⟨x, hx, _⟩; cases hx
    | cons y ys ih =>
      intro i h0 h1 hd ⟨x, hx, hx2⟩
      obtain ⟨hr, hlt, hd'⟩ := rd_drop (d := z_impl_Route) h0 hd
      rw [spec_RouteOf_4_eq]
      simp only [cond_dec, if_pos hlt, if_pos h0, hr, spec_IntervalHas_f, Option.bind_some, hk, Bool.and_true, w64 (n := i + 1) (by omega) (by omega)]
      refine Tot.bif (fun _ => Tot.val ⟨y, hr ▸ rd_mem h0 hlt, rfl⟩) fun hno => ih (i + 1) (by omega) (by omega) hd' ?_
      rcases List.mem_cons.1 hx with rfl | hx
      · rw [hx2.1, hx2.2] at hno; cases hno
      · exact ⟨x, hx, hx2⟩
  exact go l 0 (by omega) (by omega) rfl (routes_cover h hk)
theorem wish_key {c : impl_Command} (h : wishOk c = true) : keyOk c.Key = true := by
  simp only [wishOk, Bool.and_eq_true, Bool.not_eq_true', decide_eq_false_iff_not] at h
  exact cmdOk_key h.1 h.2
end Go.Proofs.YtlffjoabajdfnaaGreat.Ev
