/- Decisions: what both ApplyDecisions say. No condition. -/
import Derived.Test.YtlffjoabajdfnaaGreatPuE
set_option linter.unusedVariables false
set_option linter.unusedSimpArgs false
namespace Go.Proofs.YtlffjoabajdfnaaGreat.Ev
open Go.Proofs.YtlffjoabajdfnaaGreat.Eng
open Go.RowKit (wrap64)
abbrev zMaster : impl_Master := impl_Master.mk ([] : List impl_Route) (0 : Int) zPlan (0 : Int)
def fin (ok : Bool) (m next : impl_Master) : impl_Master × Bool × Unit := if ok = true ∧ masterOk next = true then (next, true, ()) else (m, false, ())
theorem fin_false (m next : impl_Master) : fin false m next = (m, false, ()) := by unfold fin; simp
theorem spec_28_f (x : Bool) (s0 s1 s2 : impl_Master) (s3 s4 s5 : List impl_Route) (h : s5.length ≤ 1000000000000) :
    spec_ApplyDecision_28 x s0 s1 s2 s3 s4 s5 = some (fin x (impl_Master.mk s4 s1.Shards s1.Work s1.Turn) (impl_Master.mk s5 s2.Shards s2.Work s2.Turn), ()) := by
  rw [spec_ApplyDecision_28_eq, spec_MasterValid_f _ h, Option.bind_some]
  unfold fin
  cases x with
  | false => simp
  | true => cases hm : masterOk (impl_Master.mk s5 s2.Shards s2.Work s2.Turn) <;> simp
theorem impl_copyMaster_f (m : impl_Master) (h : m.Routes.length ≤ 1000000000000) : impl_copyMaster m = some (m, ()) := by
  rw [impl_copyMaster_eq, impl_copyOf_f _ h]; rfl
theorem impl_17_f (x : Bool) (s0 : impl_Master) (s1 : impl_Decision) (s2 s3 : impl_Master) (s4 s5 : List impl_Route) (h0 : s0.Routes.length ≤ 1000000000000) (h : s5.length ≤ 1000000000000) :
    impl_ApplyDecision_17 x s0 s1 s2 s3 s4 s5 = some (fin (x && (decide (s1.Kind = 1) || planZero s1.Begun)) s0 (impl_Master.mk s5 s3.Shards s3.Work s3.Turn), ()) := by
  rw [impl_ApplyDecision_17_eq]
  change (bif !x then _ else (bif _ then (bif !planZero s1.Begun then _ else _) else _)) = _
  simp only [impl_MasterValid_f (impl_Master.mk s5 s3.Shards s3.Work s3.Turn) h, impl_copyMaster_f s0 h0, Option.bind_some]
  unfold fin
  cases x with
  | false => simp
  | true =>
    by_cases hk : s1.Kind = 1
    · cases hm : masterOk (impl_Master.mk s5 s3.Shards s3.Work s3.Turn) <;> simp [hk]
    · cases hp : planZero s1.Begun <;> cases hm : masterOk (impl_Master.mk s5 s3.Shards s3.Work s3.Turn) <;> simp [hk]
/-! ### Kind 1 -/
def ok1 (m : impl_Master) (b : impl_Plan) : Bool := planOk b && decide (b.Step = 0) && decide (b.First < m.Shards ∧ b.Second < m.Shards) && planZero m.Work && decide (m.Turn < 999)
def next1 (m : impl_Master) (b : impl_Plan) : impl_Master := impl_Master.mk m.Routes m.Shards b (wrap64 (m.Turn + 1))
theorem impl_beginsWork_f (m : impl_Master) (b : impl_Plan) : ∃ nx, impl_beginsWork m b = some (ok1 m b, (nx, ())) ∧ (ok1 m b = true → nx = next1 m b) ∧ nx.Routes = m.Routes := by
  rw [impl_beginsWork_eq, impl_PlanValid_f, Option.bind_some]
  change ∃ nx, (bif _ then _ else (bif _ then _ else (bif _ then _ else (bif _ then _ else (bif !planZero m.Work then _ else _))))) = _ ∧ _
  unfold ok1
  simp only [cond_dec]
  cases planOk b with
  | false => exact ⟨m, rfl, fun h => by simp at h, rfl⟩
  | true =>
    simp only [Bool.not_true, cond_false, Bool.true_and]
    by_cases h1 : b.Step = 0
    · rw [decide_eq_true h1, Bool.not_true, cond_false, Bool.true_and]
      by_cases h2 : m.Shards ≤ b.First
      · rw [if_pos h2, decide_eq_false (p := b.First < m.Shards ∧ b.Second < m.Shards) (by omega)]
        exact ⟨m, rfl, fun h => by simp at h, rfl⟩
      · rw [if_neg h2]
        by_cases h3 : m.Shards ≤ b.Second
        · rw [if_pos h3, decide_eq_false (p := b.First < m.Shards ∧ b.Second < m.Shards) (by omega)]
          exact ⟨m, rfl, fun h => by simp at h, rfl⟩
        · rw [if_neg h3, decide_eq_true (p := b.First < m.Shards ∧ b.Second < m.Shards) (by omega)]
          cases planZero m.Work with
          | false => exact ⟨m, rfl, fun h => by simp at h, rfl⟩
          | true =>
            by_cases h4 : 999 ≤ m.Turn
            · rw [if_pos h4, decide_eq_false (p := m.Turn < 999) (by omega)]
              exact ⟨m, rfl, fun h => by simp at h, rfl⟩
            · rw [if_neg h4, decide_eq_true (p := m.Turn < 999) (by omega)]
              exact ⟨next1 m b, rfl, fun _ => rfl, rfl⟩
    · rw [decide_eq_false h1, Bool.not_false, cond_true]
      exact ⟨m, rfl, fun h => by simp at h, rfl⟩
theorem planZero_not {b : impl_Plan} (h : planOk b = true) : planZero b = false := by
  cases hz : planZero b with
  | false => rfl
  | true =>
    have := planZero_kind hz
    unfold planOk at h
    simp [this] at h
theorem work_zero {m : impl_Master} (h : masterOk m = true) : planZero m.Work = decide (m.Work.Kind = 0) := by
  simp only [masterOk, Bool.and_eq_true] at h
  have hw := h.2
  unfold workOk at hw
  cases hz : planZero m.Work with
  | true => rw [decide_eq_true (planZero_kind hz)]
  | false =>
    rw [hz, Bool.false_or, Bool.and_eq_true] at hw
    have hp := hw.1
    unfold planOk at hp
    by_cases hk : m.Work.Kind = 0
    · simp [hk] at hp
    · rw [decide_eq_false hk]
theorem ok1_eq {m : impl_Master} {b : impl_Plan} (h : masterOk m = true) : (planOk b && decide (b.Step = 0) && workOk b m.Shards && decide (m.Work.Kind = 0) && decide (m.Turn < 999)) = ok1 m b := by
  unfold ok1 workOk
  rw [work_zero h]
  cases hp : planOk b with
  | false => rfl
  | true => rw [planZero_not hp]; rfl
/-! ### Kind 3 -/
theorem nums_not : ∀ (l : List impl_Route) (pre : List Int), numsFrom pre l = true → ∀ x ∈ l, x.Number ∉ pre
  | [], _, _, x, hx => by cases hx
  | y :: ys, pre, h, x, hx => by
    simp only [numsFrom, Bool.and_eq_true, Bool.not_eq_true', decide_eq_false_iff_not] at h
    rcases List.mem_cons.1 hx with rfl | hx
    · exact h.1.2
    · exact fun hm => nums_not ys _ h.2 x hx (List.mem_append_left _ hm)
theorem place_of : ∀ (l : List impl_Route) (pre : List Int) (i : Int) (j : Nat) (n : Int), numsFrom pre l = true → j < l.length → (rdAt l j z_impl_Route).Number = n → placeFrom n l i = i + j
  | [], _, _, _, _, _, hj, _ => by simp at hj
  | y :: ys, pre, i, 0, n, h, hj, hn => by
    have : y.Number = n := hn
    simp [placeFrom, this]
  | y :: ys, pre, i, j + 1, n, h, hj, hn => by
    have hn' : (rdAt ys j z_impl_Route).Number = n := hn
    have hj' : j < ys.length := by simpa using hj
    simp only [numsFrom, Bool.and_eq_true] at h
    have hm : rdAt ys j z_impl_Route ∈ ys := by rw [rd_eq hj']; exact List.getElem_mem _
    have hne : ¬ y.Number = n := fun e => nums_not ys _ h.2 _ hm (by rw [hn', ← e]; simp)
    simp only [placeFrom, if_neg hne]
    rw [place_of ys _ (i + 1) j n h.2 hj' hn']
    omega
theorem place_at : ∀ (l : List impl_Route) (i : Int) (n : Int), 0 ≤ i → 0 ≤ placeFrom n l i → i ≤ placeFrom n l i ∧ (rdAt l (placeFrom n l i - i).toNat z_impl_Route).Number = n
  | [], i, n, hi, h => by simp [placeFrom] at h
  | y :: ys, i, n, hi, h => by
    simp only [placeFrom] at h ⊢
    by_cases e : y.Number = n
    · rw [if_pos e]
      refine ⟨Int.le_refl _, ?_⟩
      rw [Int.sub_self]
      exact e
    · rw [if_neg e] at h ⊢
      obtain ⟨h1, h2⟩ := place_at ys (i + 1) n (by omega) h
      refine ⟨by omega, ?_⟩
      rw [show (placeFrom n ys (i + 1) - i).toNat = (placeFrom n ys (i + 1) - (i + 1)).toNat + 1 by omega]
      exact h2
theorem splitR_len (l : List impl_Route) (n : Int) (k : ByteArray) (a b : Int) (h : l.length ≤ 1000000000) : (splitR l n k a b).1.length ≤ 1000000000000 := by
  have c1 := cutList_len l 0 (placeFrom n l 0)
  have c2 := cutList_len l (placeFrom n l 0 + 1) l.length
  unfold splitR
  dsimp only
  split
  · simp
  · split
    · show l.length ≤ _; omega
    · split
      · show l.length ≤ _; omega
      · split
        · simp only [replaced, List.length_append, List.length_cons, List.length_nil]; omega
        · show l.length ≤ _; omega
theorem mergeR_len (l : List impl_Route) (n a : Int) (h : l.length ≤ 1000000000) : (mergeR l n a).1.length ≤ 1000000000000 := by
  have c1 := cutList_len l 0 (placeFrom n l 0)
  have c2 := cutList_len l (placeFrom n l 0 + 2) l.length
  unfold mergeR
  dsimp only
  split
  · simp
  · split
    · show l.length ≤ _; omega
    · split
      · show l.length ≤ _; omega
      · split
        · simp only [replaced, List.length_append, List.length_cons, List.length_nil]; omega
        · show l.length ≤ _; omega
theorem mergeR_ok {l : List impl_Route} {n a : Int} (h : (mergeR l n a).2.1 = true) : routesOk l = true ∧ 0 ≤ placeFrom n l 0 ∧ placeFrom n l 0 ≠ (l.length : Int) - 1 := by
  unfold mergeR at h
  dsimp only at h
  split at h
  · cases h
  · rename_i h1
    split at h
    · cases h
    · rename_i h2
      split at h
      · cases h
      · rename_i h3
        exact ⟨by simpa using h1, by omega, h3⟩
def adj (m : impl_Master) : Bool := decide (placeFrom m.Work.Second m.Routes 0 = placeFrom m.Work.First m.Routes 0 + 1)
theorem adj_eq {m : impl_Master} {a : Int} (h : (mergeR m.Routes m.Work.First a).2.1 = true) :
    decide ((rdAt m.Routes (placeFrom m.Work.First m.Routes 0 + 1).toNat z_impl_Route).Number = m.Work.Second) = adj m := by
  obtain ⟨h1, h2, h3⟩ := mergeR_ok h
  obtain ⟨_, h5⟩ := placeFrom_lt m.Work.First m.Routes 0 (by omega)
  obtain ⟨_, _, h6⟩ := routesOk_len h1
  unfold adj
  rw [decide_eq_decide]
  constructor
  · intro e
    have := place_of m.Routes [] 0 (placeFrom m.Work.First m.Routes 0 + 1).toNat m.Work.Second h6 (by omega) e
    omega
  · intro e
    have := (place_at m.Routes 0 m.Work.Second (by omega) (by omega)).2
    rw [e, Int.sub_zero] at this
    exact this
/-! ### ApplyDecision -/
def applyR (m : impl_Master) (d : impl_Decision) : impl_Master × Bool × Unit :=
  if masterOk m = false then (zMaster, false, ()) else
  if d.Kind = 1 then fin (ok1 m d.Begun) m (next1 m d.Begun) else
  if d.Kind = 2 then fin (decide (m.Work.Kind = 1) && (splitR m.Routes m.Work.First m.Work.Key m.Shards (wrap64 (m.Shards + 1))).2.1 && planZero d.Begun) m
    (impl_Master.mk (splitR m.Routes m.Work.First m.Work.Key m.Shards (wrap64 (m.Shards + 1))).1 (wrap64 (m.Shards + 2)) zPlan m.Turn) else
  if d.Kind = 3 then fin (decide (m.Work.Kind = 2) && (mergeR m.Routes m.Work.First m.Shards).2.1 && adj m && planZero d.Begun) m
    (impl_Master.mk (mergeR m.Routes m.Work.First m.Shards).1 (wrap64 (m.Shards + 1)) zPlan m.Turn) else
  if d.Kind = 4 then fin (decide (m.Work.Kind = 3) && decide (m.Work.Step = 0) && planZero d.Begun) m
    (impl_Master.mk m.Routes m.Shards (impl_Plan.mk m.Work.Kind m.Work.First m.Work.Second m.Work.Key m.Work.From m.Work.To 1) m.Turn) else
  if d.Kind = 5 then fin (decide (m.Work.Kind = 3) && planZero d.Begun) m (impl_Master.mk m.Routes m.Shards zPlan m.Turn) else (m, false, ())
theorem impl_ApplyDecision_f (m : impl_Master) (d : impl_Decision) (hx : m.Routes.length ≤ 1000000000) : impl_ApplyDecision m d = some (applyR m d, ()) := by
  have hm1 : m.Routes.length ≤ 1000000000000 := by omega
  rw [impl_ApplyDecision_eq, impl_MasterValid_f m hm1, Option.bind_some]
  unfold applyR
  cases hm : masterOk m with
  | false => rfl
  | true =>
    obtain ⟨hl, _, _⟩ := masterOk_len hm
    simp only [Bool.not_true, cond_false, impl_copyMaster_f m hm1, Option.bind_some, cond_dec]
    rw [if_neg (show ¬ (true = false) by simp)]
    by_cases k1 : d.Kind = 1
    · rw [if_pos k1, if_pos k1]
      obtain ⟨nx, e1, e2, e3⟩ := impl_beginsWork_f m d.Begun
      rw [e1, Option.bind_some, impl_17_f _ _ _ _ _ _ _ hm1 (by rw [e3]; exact hm1), decide_eq_true k1]
      cases ho : ok1 m d.Begun with
      | false => simp [fin_false]
      | true =>
        rw [e2 ho]; rfl
    · rw [if_neg k1, if_neg k1]
      by_cases k2 : d.Kind = 2
      · rw [if_pos k2, if_pos k2, impl_splitsRoutes_eq]
        simp only [impl_SplitRoute_f m.Routes _ _ _ _ hx, Option.bind_some]
        by_cases hk : m.Work.Kind = 1
        · rw [decide_eq_true hk, Bool.not_true, cond_false, Option.bind_some, impl_17_f _ _ _ _ _ _ _ hm1 (splitR_len _ _ _ _ _ hx), decide_eq_false k1]; rfl
        · rw [decide_eq_false hk, Bool.not_false, cond_true, Option.bind_some, impl_17_f _ _ _ _ _ _ _ hm1 hm1]; simp [fin_false]
      · rw [if_neg k2, if_neg k2]
        by_cases k3 : d.Kind = 3
        · rw [if_pos k3, if_pos k3, impl_mergesRoutes_eq]
          obtain ⟨p1, p2⟩ := placeFrom_lt m.Work.First m.Routes 0 (by omega)
          simp only [impl_routePlace_f m.Routes _ hm1, impl_MergeRoutes_f m.Routes _ _ hx, Option.bind_some, cond_dec, w64 (n := placeFrom m.Work.First m.Routes 0 + 1) (by omega) (by omega)]
          change Option.bind (bif _ then _ else (if _ then _ else (bif !adj m then _ else _))) _ = _
          by_cases hk : m.Work.Kind = 2
          · rw [decide_eq_true hk, Bool.not_true, cond_false]
            by_cases hp : placeFrom m.Work.First m.Routes 0 < 0
            · rw [if_pos hp, Option.bind_some, impl_17_f _ _ _ _ _ _ _ hm1 hm1]
              cases hr : (mergeR m.Routes m.Work.First m.Shards).2.1 with
              | false => simp [fin_false]
              | true => have := (mergeR_ok hr).2.1; omega
            · rw [if_neg hp]
              cases ha : adj m with
              | false => rw [Bool.not_false, cond_true, Option.bind_some, impl_17_f _ _ _ _ _ _ _ hm1 hm1]; simp [fin_false]
              | true =>
                rw [Bool.not_true, cond_false, Option.bind_some, impl_17_f _ _ _ _ _ _ _ hm1 (mergeR_len _ _ _ hx), decide_eq_false k1]
                simp
          · rw [decide_eq_false hk, Bool.not_false, cond_true, Option.bind_some, impl_17_f _ _ _ _ _ _ _ hm1 hm1]; simp [fin_false]
        · rw [if_neg k3, if_neg k3]
          by_cases k4 : d.Kind = 4
          · rw [if_pos k4, if_pos k4]
            by_cases hk : m.Work.Kind = 3
            · rw [if_pos hk, impl_17_f _ _ _ _ _ _ _ hm1 hm1, decide_eq_false k1, decide_eq_true hk]; rfl
            · rw [if_neg hk, impl_17_f _ _ _ _ _ _ _ hm1 hm1, decide_eq_false hk]; simp [fin_false]
          · rw [if_neg k4, if_neg k4]
            by_cases k5 : d.Kind = 5
            · rw [if_pos k5, if_pos k5, impl_17_f _ _ _ _ _ _ _ hm1 hm1, decide_eq_false k1]; rfl
            · rw [if_neg k5, if_neg k5, impl_17_f _ _ _ _ _ _ _ hm1 hm1]; simp [fin_false]
theorem spec_10_f (x : Bool) (m : impl_Master) (d : impl_Decision) (s2 s3 s4 : impl_Master) (s5 s6 s7 : List impl_Route) (h : s7.length ≤ 1000000000000) :
    spec_ApplyDecision_10 x m d s2 s3 s4 s5 s6 s7 = some (fin x (impl_Master.mk s6 s3.Shards s3.Work s3.Turn) (impl_Master.mk s7 s4.Shards d.Begun (wrap64 (m.Turn + 1))), ()) := by
  rw [spec_ApplyDecision_10_eq, spec_ApplyDecision_11_eq, spec_28_f _ _ _ _ _ _ _ h]
theorem spec_26_f (x : Bool) (d : impl_Decision) (s1 s2 s3 : impl_Master) (p : impl_Plan) (s5 s6 s7 : List impl_Route) (h : s7.length ≤ 1000000000000) :
    spec_ApplyDecision_26 x d s1 s2 s3 p s5 s6 s7 = some (if d.Kind = 5 then fin (decide (p.Kind = 3) && x) (impl_Master.mk s6 s2.Shards s2.Work s2.Turn) (impl_Master.mk s7 s3.Shards zPlan s3.Turn) else (impl_Master.mk s6 s2.Shards s2.Work s2.Turn, false, ()), ()) := by
  rw [spec_ApplyDecision_26_eq, spec_28_f _ _ _ _ _ _ _ h]
  simp only [cond_dec]
  by_cases h1 : d.Kind = 5 <;> by_cases h2 : p.Kind = 3 <;> simp [h1, h2, fin_false]
theorem spec_23_f (x : Bool) (d : impl_Decision) (s1 s2 s3 : impl_Master) (p : impl_Plan) (s5 s6 s7 : List impl_Route) (h : s7.length ≤ 1000000000000) :
    spec_ApplyDecision_23 x d s1 s2 s3 p s5 s6 s7 = some (if d.Kind = 4 then fin (decide (p.Kind = 3) && decide (p.Step = 0) && x) (impl_Master.mk s6 s2.Shards s2.Work s2.Turn) (impl_Master.mk s7 s3.Shards (impl_Plan.mk p.Kind p.First p.Second p.Key p.From p.To 1) s3.Turn) else
      if d.Kind = 5 then fin (decide (p.Kind = 3) && x) (impl_Master.mk s6 s2.Shards s2.Work s2.Turn) (impl_Master.mk s7 s3.Shards zPlan s3.Turn) else (impl_Master.mk s6 s2.Shards s2.Work s2.Turn, false, ()), ()) := by
  rw [spec_ApplyDecision_23_eq, spec_28_f _ _ _ _ _ _ _ h, spec_26_f _ _ _ _ _ _ _ _ _ h]
  simp only [cond_dec]
  by_cases h1 : d.Kind = 4
  · have h5 : ¬ d.Kind = 5 := by omega
    by_cases h2 : p.Kind = 3 <;> by_cases h3 : p.Step = 0 <;> simp [h1, h2, h3, fin_false]
  · simp [h1]
theorem spec_ApplyDecision_f (m : impl_Master) (d : impl_Decision) (hx : m.Routes.length ≤ 1000000000) : spec_ApplyDecision m d = some (applyR m d, ()) := by
  have hm1 : m.Routes.length ≤ 1000000000000 := by omega
  rw [spec_ApplyDecision_eq, spec_MasterValid_f m hm1, Option.bind_some]
  unfold applyR
  cases hm : masterOk m with
  | false => rfl
  | true =>
    obtain ⟨hl, _, _⟩ := masterOk_len hm
    rw [if_neg (show ¬ (true = false) by simp), ble_row (by simp; omega) (by omega)]
    simp only [Bool.not_true, cond_false, cond_true, Option.bind_some]
    have e0 : impl_Master.mk m.Routes m.Shards m.Work m.Turn = m := rfl
    have s17 : ∀ x, ¬ d.Kind = 1 → (d.Kind = 2 → ¬ m.Work.Kind = 1) → x = planZero d.Begun → spec_ApplyDecision_17 x m d zMaster (impl_Master.mk [] m.Shards m.Work m.Turn) (impl_Master.mk [] m.Shards zPlan m.Turn) m.Work [] m.Routes m.Routes =
        some (if d.Kind = 2 then (m, false, ()) else
          if d.Kind = 3 then fin (decide (m.Work.Kind = 2) && (mergeR m.Routes m.Work.First m.Shards).2.1 && adj m && planZero d.Begun) m (impl_Master.mk (mergeR m.Routes m.Work.First m.Shards).1 (wrap64 (m.Shards + 1)) zPlan m.Turn) else
          if d.Kind = 4 then fin (decide (m.Work.Kind = 3) && decide (m.Work.Step = 0) && planZero d.Begun) m (impl_Master.mk m.Routes m.Shards (impl_Plan.mk m.Work.Kind m.Work.First m.Work.Second m.Work.Key m.Work.From m.Work.To 1) m.Turn) else
          if d.Kind = 5 then fin (decide (m.Work.Kind = 3) && planZero d.Begun) m (impl_Master.mk m.Routes m.Shards zPlan m.Turn) else (m, false, ()), ()) := by
      intro x k1 k2 hx0
      obtain ⟨p1, p2⟩ := placeFrom_lt m.Work.First m.Routes 0 (by omega)
      rw [spec_ApplyDecision_17_eq, spec_23_f _ _ _ _ _ _ _ _ _ hm1, spec_l23Index_f m.Routes _ hm1, spec_MergeRoutes_f m.Routes _ _ hx]
      simp only [Option.bind_some, cond_dec, spec_28_f _ _ _ _ _ _ _ (mergeR_len _ _ _ hx), w64 (n := placeFrom m.Work.First m.Routes 0 + 1) (by omega) (by omega), e0]
      by_cases k3 : d.Kind = 3
      · have k2' : ¬ d.Kind = 2 := by omega
        have k4 : ¬ d.Kind = 4 := by omega
        have k5 : ¬ d.Kind = 5 := by omega
        rw [if_pos k3, if_neg k2', if_pos k3, if_neg k4, if_neg k5]
        by_cases hk : m.Work.Kind = 2
        · rw [if_pos hk, decide_eq_true hk, hx0]
          cases hz : planZero d.Begun with
          | false => simp [fin_false]
          | true =>
            cases hr : (mergeR m.Routes m.Work.First m.Shards).2.1 with
            | false => simp [fin_false]
            | true =>
              obtain ⟨h1, h2, h3⟩ := mergeR_ok hr
              rw [if_pos (show 0 ≤ placeFrom m.Work.First m.Routes 0 + 1 by omega), if_pos (show placeFrom m.Work.First m.Routes 0 + 1 < (m.Routes.length : Int) by omega), adj_eq hr]
              simp
        · rw [if_neg hk, decide_eq_false hk]; simp [fin_false]
      · rw [if_neg k3]
        by_cases k2' : d.Kind = 2
        · have k4 : ¬ d.Kind = 4 := by omega
          have k5 : ¬ d.Kind = 5 := by omega
          simp [k2']
        · rw [if_neg k2', if_neg k3, hx0]
    by_cases k1 : d.Kind = 1
    · rw [cond_dec, if_pos k1, if_pos k1]
      simp only [spec_PlanValid_f, spec_l27Work_f, Option.bind_some, spec_10_f _ _ _ _ _ _ _ _ _ hm1, cond_dec, e0]
      rw [← ok1_eq hm]
      cases planOk d.Begun with
      | false => simp [fin_false, next1]
      | true =>
        by_cases a1 : d.Begun.Step = 0
        · cases workOk d.Begun m.Shards with
          | false => simp [fin_false, next1]
          | true => by_cases a2 : m.Work.Kind = 0 <;> simp [a1, a2, fin_false, next1]
        · simp [a1, fin_false, next1]
    · rw [cond_dec, if_neg k1, if_neg k1]
      by_cases k2 : d.Kind = 2
      · rw [cond_dec, if_pos k2, if_pos k2]
        by_cases hk : m.Work.Kind = 1
        · rw [cond_dec, if_pos hk, spec_SplitRoute_f m.Routes _ _ _ _ hx, Option.bind_some]
          change (bif planZero d.Begun then _ else _) = _
          simp only [spec_28_f _ _ _ _ _ _ _ (splitR_len _ _ _ _ _ hx), e0]
          rw [decide_eq_true hk]
          cases planZero d.Begun with
          | false => simp [fin_false]
          | true => simp
        · rw [cond_dec, if_neg hk, decide_eq_false hk]
          refine (s17 _ k1 (fun _ => hk) rfl).trans ?_
          simp [k2, fin_false]
      · rw [cond_dec, if_neg k2, if_neg k2]
        refine (s17 _ k1 (fun h => absurd h k2) rfl).trans ?_
        rw [if_neg k2]
end Go.Proofs.YtlffjoabajdfnaaGreat.Ev
