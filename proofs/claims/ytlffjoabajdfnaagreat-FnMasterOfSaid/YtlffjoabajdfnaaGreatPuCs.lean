/- Steps of a cluster, as the specification makes them: they return, and valid clusters stay valid. No condition. -/
import Derived.Test.YtlffjoabajdfnaaGreatPuCa
import Derived.Test.YtlffjoabajdfnaaGreatPuVa
set_option linter.unusedVariables false
set_option linter.unusedSimpArgs false
set_option linter.unusedSectionVars false
namespace Go.Proofs.YtlffjoabajdfnaaGreat.Ev
open Go.Proofs.YtlffjoabajdfnaaGreat.Eng
open Go.RowKit (wrap64)
/-! ### What is valid, part by part -/
structure ClOk (c : impl_Cluster) : Prop where
  n1 : 1 ≤ c.Shards.length
  n8 : c.Shards.length ≤ 8
  c4 : c.Clients.length = 4
  r40 : c.Results.length ≤ 40
  shards : ∀ s ∈ c.Shards, ChOk s.Group ∧ s.Group.Up = firstUp c
  clients : ∀ x ∈ c.Clients, callerOk x = true
  results : ∀ x ∈ c.Results, resultOk x = true
  work : workOk c.Work c.Shards.length = true
  routes : routesOk (isort [] (liveFrom 0 c.Shards)) = true
  zero : noCaller (rdAt c.Clients 0 z_impl_Caller) = true
  turn : 0 ≤ c.Turn ∧ c.Turn ≤ 999
  clock : 0 ≤ c.Clock ∧ c.Clock ≤ 200
theorem clusterOk_iff (c : impl_Cluster) : clusterOk c = true ↔ ClOk c := by
  simp only [clusterOk, endOk, Bool.and_eq_true, decide_eq_true_eq, List.all_eq_true, shardOk, chainOk_iff]
  constructor
  · rintro ⟨h1, h2, h3, h4, h5, h6, h7, h8, h9, h10, h11⟩
    exact ⟨h1.1, h1.2, h2, h3, h4, h5, h6, h7, h8, h9, h10, h11⟩
  · rintro ⟨a1, a2, h2, h3, h4, h5, h6, h7, h8, h9, h10, h11⟩
    exact ⟨⟨a1, a2⟩, h2, h3, h4, h5, h6, h7, h8, h9, h10, h11⟩
theorem ClOk.inn {c : impl_Cluster} (h : ClOk c) : ClusterIn c :=
  ⟨fun s hs => (h.shards s hs).1.inn, fun x hx => by have := cacheOk_len (callerOk_cache (h.clients x hx)); omega⟩
theorem ble_row2 {n m : Nat} (h : n ≤ 1000000000) (hm : m ≤ 1000) : Nat.ble (n * m) maxRow = true := Nat.ble_eq_true_of_le (by
  unfold maxRow
  have := Nat.mul_le_mul h hm
  omega)
theorem eta_Cluster (c : impl_Cluster) : impl_Cluster.mk c.Shards c.Clients c.Results c.Work c.Turn c.Clock = c := rfl
theorem rd_setN {α : Type} {d : α} {l : List α} {i j : Nat} {y : α} (hj : j < l.length) : rdAt (List.set l i y) j d = if i = j then y else rdAt l j d := by
  unfold rdAt
  rw [List.getD_eq_getElem?_getD, List.getD_eq_getElem?_getD, List.getElem?_set]
  by_cases e : i = j
  · subst e; simp [hj]
  · simp [e]
theorem mem_rd {α : Type} {d : α} {l : List α} {x : α} (h : x ∈ l) : ∃ j : Nat, j < l.length ∧ rdAt l j d = x := by
  obtain ⟨j, hj, e⟩ := List.getElem_of_mem h
  refine ⟨j, hj, ?_⟩
  unfold rdAt
  rw [List.getD_eq_getElem?_getD, List.getElem?_eq_getElem hj]; exact e
theorem rd_mem' {α : Type} {d : α} {l : List α} {j : Nat} (h : j < l.length) : rdAt l j d ∈ l := by
  have := rd_mem (d := d) (xs := l) (i := (j : Int)) (by omega) (by omega)
  simpa using this
theorem live_congr : ∀ (l l' : List impl_Shard) (i : Int), l'.length = l.length → (∀ j : Nat, j < l.length → (rdAt l' j z_impl_Shard).Live = (rdAt l j z_impl_Shard).Live ∧ (rdAt l' j z_impl_Shard).Group.Base = (rdAt l j z_impl_Shard).Group.Base) → liveFrom i l' = liveFrom i l
  | [], [], i, _, _ => rfl
  | [], y :: l', i, h, _ => by cases h
  | x :: l, [], i, h, _ => by cases h
  | x :: l, y :: l', i, h, k => by
    have h0 := k 0 (by simp)
    have ih := live_congr l l' (i + 1) (by simpa using h) fun j hj => k (j + 1) (by simp; omega)
    have e1 : y.Live = x.Live := h0.1
    have e2 : y.Group.Base = x.Group.Base := h0.2
    rw [liveFrom_cons, liveFrom_cons, ih, e1, e2]
structure Grp (c : impl_Cluster) (S : List impl_Shard) (U : List Bool) : Prop where
  len : S.length = c.Shards.length
  at_ : ∀ j : Nat, j < c.Shards.length → (rdAt S j z_impl_Shard).Live = (rdAt c.Shards j z_impl_Shard).Live ∧ Step (rdAt c.Shards j z_impl_Shard).Group (rdAt S j z_impl_Shard).Group ∧ (rdAt S j z_impl_Shard).Group.Up = U
theorem ClOk.groups {c : impl_Cluster} (h : ClOk c) {S : List impl_Shard} {U : List Bool} (g : Grp c S U) : ClOk ⟨S, c.Clients, c.Results, c.Work, c.Turn, c.Clock⟩ := by
  have n1 := h.n1
  have hl := g.len
  refine ⟨by show 1 ≤ S.length; omega, by show S.length ≤ 8; rw [hl]; exact h.n8, h.c4, h.r40, fun s hs => ?_, h.clients, h.results, by show workOk c.Work S.length = true; rw [hl]; exact h.work, ?_, h.zero, h.turn, h.clock⟩
  · obtain ⟨j, hj, rfl⟩ := mem_rd (d := z_impl_Shard) hs
    have a := g.at_ j (hl ▸ hj)
    have b := g.at_ 0 (by omega)
    exact ⟨a.2.1.ok, a.2.2.trans b.2.2.symm⟩
  · rw [live_congr c.Shards S 0 hl fun j hj => ⟨(g.at_ j hj).1, (g.at_ j hj).2.1.base⟩]; exact h.routes
theorem ClOk.at_ {c : impl_Cluster} (h : ClOk c) {j : Nat} (hj : j < c.Shards.length) : ChOk (rdAt c.Shards j z_impl_Shard).Group ∧ (rdAt c.Shards j z_impl_Shard).Group.Up = firstUp c := h.shards _ (rd_mem' hj)
theorem ClOk.setGroup {c : impl_Cluster} (h : ClOk c) {i : Nat} (hi : i < c.Shards.length) {g : impl_Chain} (hs : Step (rdAt c.Shards i z_impl_Shard).Group g) (hu : g.Up = (rdAt c.Shards i z_impl_Shard).Group.Up) :
    ClOk ⟨List.set c.Shards i ⟨(rdAt c.Shards i z_impl_Shard).Live, g⟩, c.Clients, c.Results, c.Work, c.Turn, c.Clock⟩ := by
  refine h.groups (U := firstUp c) ⟨List.length_set .., fun j hj => ?_⟩
  have ha := h.at_ hj
  rw [rd_setN hj]
  by_cases e : i = j
  · subst e; rw [if_pos rfl]; exact ⟨rfl, hs, hu.trans ha.2⟩
  · rw [if_neg e]; exact ⟨rfl, Step.refl ha.1, ha.2⟩
theorem ClOk.setClient {c : impl_Cluster} (h : ClOk c) {i : Nat} (hi : 1 ≤ i) {x : impl_Caller} (hx : callerOk x = true) : ClOk ⟨c.Shards, List.set c.Clients i x, c.Results, c.Work, c.Turn, c.Clock⟩ := by
  have c4 := h.c4
  refine ⟨h.n1, h.n8, by show (List.set c.Clients i x).length = 4; rw [List.length_set]; exact c4, h.r40, h.shards, fun y hy => ?_, h.results, h.work, h.routes, ?_, h.turn, h.clock⟩
  · rcases mem_set hy with rfl | hy
    · exact hx
    · exact h.clients y hy
  · show noCaller (rdAt (List.set c.Clients i x) 0 z_impl_Caller) = true
    rw [rd_setN (by omega), if_neg (by omega)]; exact h.zero
theorem ClOk.setWork {c : impl_Cluster} (h : ClOk c) {p : impl_Plan} (hp : workOk p c.Shards.length = true) {t : Int} (ht : 0 ≤ t ∧ t ≤ 999) : ClOk ⟨c.Shards, c.Clients, c.Results, p, t, c.Clock⟩ :=
  ⟨h.n1, h.n8, h.c4, h.r40, h.shards, h.clients, h.results, hp, h.routes, h.zero, ht, h.clock⟩
theorem workOk_zero (n : Int) : workOk zPlan n = true := by simp [workOk, planZero, eqI_dec, sEq_dec]
theorem ClOk.plan {c : impl_Cluster} (h : ClOk c) (hk : c.Work.Kind ≠ 0) : planOk c.Work = true ∧ c.Work.First < c.Shards.length ∧ c.Work.Second < c.Shards.length := by
  have := h.work
  unfold workOk at this
  rw [Bool.or_eq_true] at this
  rcases this with h1 | h1
  · exact absurd (planZero_kind h1) hk
  · rw [Bool.and_eq_true, decide_eq_true_eq] at h1; exact ⟨h1.1, h1.2.1, h1.2.2⟩
theorem planOk_says {p : impl_Plan} (h : planOk p = true) : (0 ≤ p.First ∧ p.First ≤ 7) ∧ (0 ≤ p.Second ∧ p.Second ≤ 7) ∧ (p.Kind = 1 ∨ p.Kind = 2 ∨ p.Kind = 3) ∧ (p.Key = es ∨ keyOk p.Key = true) ∧ (p.Kind = 3 → (0 ≤ p.From ∧ p.From ≤ 4) ∧ (0 ≤ p.To ∧ p.To ≤ 4)) := by
  unfold planOk at h
  rw [Bool.and_eq_true, decide_eq_true_eq] at h
  obtain ⟨h1, h2⟩ := h
  by_cases k1 : p.Kind = 1
  · rw [if_pos k1, Bool.and_eq_true, decide_eq_true_eq] at h2
    exact ⟨h1, by omega, .inl k1, .inr h2.1, fun e => by omega⟩
  · rw [if_neg k1] at h2
    by_cases k2 : p.Kind = 2
    · rw [if_pos k2] at h2
      simp only [Bool.and_eq_true, decide_eq_true_eq] at h2
      exact ⟨h1, by omega, .inr (.inl k2), .inl h2.1.2, fun e => by omega⟩
    · rw [if_neg k2] at h2
      by_cases k3 : p.Kind = 3
      · rw [if_pos k3] at h2
        simp only [Bool.and_eq_true, decide_eq_true_eq] at h2
        exact ⟨h1, by omega, .inr (.inr k3), .inl h2.2, fun _ => by omega⟩
      · rw [if_neg k3] at h2; cases h2
/-! ### Copies -/
theorem l25Copy_f (c : impl_Caller) (h : c.Cache.length ≤ 1000) : spec_l25Copy c = some (c, ()) := by rw [spec_l25Copy_eq, ble_row (by simp; omega) (by omega)]; rfl
theorem l27Copy_7_f (c : impl_Cluster) (h : ClOk c) (s1 s2 : impl_Cluster) (s3 : List impl_Shard) (s4 : List impl_Caller) (s5 : List impl_Result) (S : List impl_Shard) (R : List impl_Result) : ∀ (ys : List impl_Caller) (i : Int) (out : List impl_Caller), 0 ≤ i → i ≤ c.Clients.length → c.Clients.drop i.toNat = ys → out.length = i.toNat →
    spec_l27Copy_7 i c s1 s2 s3 s4 s5 S out R = some (⟨S, out ++ ys, R, s2.Work, s2.Turn, s2.Clock⟩, ())
  | [], i, out, h0, h1, hd, ho => by
    have := drop_nil h0 h1 hd
    rw [spec_l27Copy_7_eq, cond_dec, if_neg (by omega)]; simp
  | y :: ys, i, out, h0, h1, hd, ho => by
    have c4 := h.c4
    obtain ⟨hr, hl, hd'⟩ := rd_drop (d := z_impl_Caller) h0 hd
    have hm : y ∈ c.Clients := by rw [← hr]; exact rd_mem h0 hl
    have hc := cacheOk_len (callerOk_cache (h.clients y hm))
    rw [spec_l27Copy_7_eq]
    simp only [cond_dec, if_pos hl, if_pos h0, hr, w64 (n := i + 1) (by omega) (by omega)]
    rw [l25Copy_f y (by omega), Option.bind_some, ble_row (by simp; omega) (by omega), cond_true, l27Copy_7_f c h s1 _ s3 s4 s5 S R ys (i + 1) _ (by omega) (by omega) hd' (by simp; omega)]
    simp
theorem l27Copy_3_f (c : impl_Cluster) (h : ClOk c) (s1 s2 : impl_Cluster) (s3 : List impl_Shard) (s4 : List impl_Caller) (s5 : List impl_Result) (R : List impl_Result) : ∀ (ys : List impl_Shard) (i : Int) (s2 : impl_Cluster) (out : List impl_Shard), 0 ≤ i → i ≤ c.Shards.length → c.Shards.drop i.toNat = ys → out.length = i.toNat →
    spec_l27Copy_3 i c s1 s2 s3 s4 s5 out [] R = some (⟨out ++ ys, c.Clients, R, s2.Work, s2.Turn, s2.Clock⟩, ())
  | [], i, s2, out, h0, h1, hd, ho => by
    have := drop_nil h0 h1 hd
    rw [spec_l27Copy_3_eq, cond_dec, if_neg (by omega), l27Copy_7_f c h s1 _ s3 s4 s5 _ R c.Clients 0 [] (by omega) (by omega) rfl rfl]; simp
  | y :: ys, i, s2', out, h0, h1, hd, ho => by
    have n8 := h.n8
    obtain ⟨hr, hl, hd'⟩ := rd_drop (d := z_impl_Shard) h0 hd
    have hm : y ∈ c.Shards := by rw [← hr]; exact rd_mem h0 hl
    rw [spec_l27Copy_3_eq]
    simp only [cond_dec, if_pos hl, if_pos h0, hr, w64 (n := i + 1) (by omega) (by omega), eta_Chain]
    rw [l19Copy_f y.Group (h.shards y hm).1, Option.bind_some, ble_row2 (by simp; omega) (by omega)]
    simp only [cond_true, eta_Chain]
    rw [l27Copy_3_f c h s1 s2 s3 s4 s5 R ys (i + 1) _ _ (by omega) (by omega) hd' (by simp; omega)]
    simp
end Go.Proofs.YtlffjoabajdfnaaGreat.Ev
