/- Partitions, routes, plans, masters. No condition. -/
import Derived.Test.YtlffjoabajdfnaaGreatPuB
set_option linter.unusedVariables false
set_option linter.unusedSimpArgs false
namespace Go.Proofs.YtlffjoabajdfnaaGreat.Ev
open Go.Proofs.YtlffjoabajdfnaaGreat.Eng
open Go.RowKit (wrap64)
def chainFrom : impl_Interval → List impl_Interval → Bool
  | _, [] => true
  | p, y :: ys => joinOk p y && chainFrom y ys
def partOk (l : List impl_Interval) : Bool :=
  match l with
  | [] => false
  | v :: vs => decide (l.length ≤ 6) && ivOk v && decide (v.Low = es) && decide ((rdAt l (l.length - 1) z_impl_Interval).High = es) && chainFrom v vs
theorem joinOk_right {a b : impl_Interval} (h : ivOk b = false) : joinOk a b = false := by
  unfold joinOk; rw [h]; simp
theorem joinR_ok (a b : impl_Interval) : (joinR a b).2.1 = joinOk a b := by
  unfold joinR; cases joinOk a b <;> rfl
theorem impl_PartitionValid_l (xs : List impl_Interval) (hx : xs.length ≤ 6) : ∀ (ys : List impl_Interval) (i : Int), 1 ≤ i → i ≤ xs.length → xs.drop i.toNat = ys →
    impl_PartitionValid_5 xs xs (xs.length : Int) i = some (chainFrom (rdAt xs (i - 1).toNat z_impl_Interval) ys, ())
  | [], i, h0, h1, hd => by
    have := drop_nil (by omega) h1 hd
    rw [impl_PartitionValid_5_eq, cond_dec, if_neg (by omega)]; rfl
  | y :: ys, i, h0, h1, hd => by
    obtain ⟨hr, hl, hd'⟩ := rd_drop (d := z_impl_Interval) (by omega) hd
    have ih := impl_PartitionValid_l xs hx ys (i + 1) (by omega) (by omega) hd'
    rw [show i + 1 - 1 = i by omega, hr] at ih
    rw [impl_PartitionValid_5_eq]
    simp only [cond_dec, if_pos hl, if_pos (show (0 : Int) ≤ i by omega), hr, impl_IntervalValid_f, Option.bind_some, w64 (n := i - 1) (by omega) (by omega), w64 (n := i + 1) (by omega) (by omega), if_pos (show (0 : Int) < i by omega), if_pos (show 0 ≤ i - 1 by omega),
      if_pos (show i - 1 < (xs.length : Int) by omega), impl_IntervalJoin_f, joinR_ok, ih, chainFrom]
    cases hv : ivOk y with
    | false => rw [joinOk_right hv]; rfl
    | true => cases joinOk (rdAt xs (i - 1).toNat z_impl_Interval) y <;> rfl
theorem impl_PartitionValid_f (xs : List impl_Interval) : impl_PartitionValid xs = some (partOk xs, ()) := by
  rw [impl_PartitionValid_eq]
  unfold partOk
  cases xs with
  | nil => rfl
  | cons v vs =>
    have hlen : ((v :: vs).length : Int) = (vs.length : Int) + 1 := by simp
    have hv : rdAt (v :: vs) 0 z_impl_Interval = v := rfl
    simp only [cond_dec, if_neg (show ¬ ((v :: vs).length : Int) < 1 by omega)]
    by_cases h6 : (6 : Int) < ((v :: vs).length : Int)
    · rw [if_pos h6, decide_eq_false (by omega)]; rfl
    · have hl := fun h => impl_PartitionValid_l (v :: vs) (by omega) vs 1 (by omega) (by omega) h
      rw [show (1 : Int) - 1 = 0 by omega, show Int.toNat 0 = 0 from rfl, hv] at hl
      have hl := hl (by simp)
      have e1 : ((v :: vs).length : Int) - 1 = (((v :: vs).length - 1 : Nat) : Int) := by omega
      rw [if_neg h6, decide_eq_true (p := (v :: vs).length ≤ 6) (by omega)]
      simp only [e1, w64 (n := (((v :: vs).length - 1 : Nat) : Int)) (by omega) (by omega), Int.toNat_natCast, if_pos (show (0 : Int) < ((v :: vs).length : Int) by omega), hv, sEq_dec, if_pos (show (0 : Int) ≤ (((v :: vs).length - 1 : Nat) : Int) by omega), if_pos (show (((v :: vs).length - 1 : Nat) : Int) < ((v :: vs).length : Int) by omega)]
      rw [impl_PartitionValid_5_eq]
      simp only [cond_dec, if_pos (show (0 : Int) < ((v :: vs).length : Int) by omega), if_pos (show (0 : Int) ≤ 0 by omega), show Int.toNat 0 = 0 from rfl, hv, impl_IntervalValid_f, Option.bind_some, if_neg (show ¬ (0 : Int) < 0 by omega), show (0 : Int) + 1 = 1 by omega, w64 (n := 1) (by omega) (by omega), hl]
      by_cases h1 : v.Low = es <;> by_cases h2 : (rdAt (v :: vs) ((v :: vs).length - 1) z_impl_Interval).High = es <;> cases ivOk v <;> simp only [h1, h2, decide_true, decide_false, Bool.not_true, Bool.not_false, cond_true, cond_false, Bool.true_and, Bool.false_and, Bool.and_false, Bool.and_true]
theorem spec_PartitionValid_l (xs : List impl_Interval) (hx : xs.length ≤ 6) : ∀ (ys : List impl_Interval) (i : Int), 1 ≤ i → i ≤ xs.length → xs.drop i.toNat = ys →
    spec_PartitionValid_4 xs i = some (chainFrom (rdAt xs (i - 1).toNat z_impl_Interval) ys, ())
  | [], i, h0, h1, hd => by
    have := drop_nil (by omega) h1 hd
    rw [spec_PartitionValid_4_eq, cond_dec, if_neg (by omega)]; rfl
  | y :: ys, i, h0, h1, hd => by
    obtain ⟨hr, hl, hd'⟩ := rd_drop (d := z_impl_Interval) (by omega) hd
    have ih := spec_PartitionValid_l xs hx ys (i + 1) (by omega) (by omega) hd'
    rw [show i + 1 - 1 = i by omega, hr] at ih
    rw [spec_PartitionValid_4_eq]
    simp only [cond_dec, if_pos hl, if_pos (show (0 : Int) ≤ i by omega), hr, Option.bind_some, w64 (n := i - 1) (by omega) (by omega), w64 (n := i + 1) (by omega) (by omega), if_pos (show 0 ≤ i - 1 by omega),
      if_pos (show i - 1 < (xs.length : Int) by omega), spec_IntervalJoin_f, joinR_ok, ih, chainFrom]
    cases joinOk (rdAt xs (i - 1).toNat z_impl_Interval) y <;> rfl
theorem spec_PartitionValid_f (xs : List impl_Interval) : spec_PartitionValid xs = some (partOk xs, ()) := by
  rw [spec_PartitionValid_eq, spec_l1In_f, Option.bind_some]
  unfold partOk
  cases xs with
  | nil => rfl
  | cons v vs =>
    have hlen : ((v :: vs).length : Int) = (vs.length : Int) + 1 := by simp
    have hv : rdAt (v :: vs) 0 z_impl_Interval = v := rfl
    by_cases h6 : (6 : Int) < ((v :: vs).length : Int)
    · rw [decide_eq_false (p := (1 : Int) ≤ ((v :: vs).length : Int) ∧ ((v :: vs).length : Int) ≤ 6) (by omega), decide_eq_false (p := (v :: vs).length ≤ 6) (by omega)]; rfl
    · have hl := fun h => spec_PartitionValid_l (v :: vs) (by omega) vs 1 (by omega) (by omega) h
      rw [show (1 : Int) - 1 = 0 by omega, show Int.toNat 0 = 0 from rfl, hv] at hl
      have hl := hl (by simp)
      have e1 : ((v :: vs).length : Int) - 1 = (((v :: vs).length - 1 : Nat) : Int) := by omega
      rw [decide_eq_true (p := (1 : Int) ≤ ((v :: vs).length : Int) ∧ ((v :: vs).length : Int) ≤ 6) (by omega), decide_eq_true (p := (v :: vs).length ≤ 6) (by omega)]
      simp only [cond_dec, Bool.not_true, cond_false, e1, w64 (n := (((v :: vs).length - 1 : Nat) : Int)) (by omega) (by omega), Int.toNat_natCast, if_pos (show (0 : Int) < ((v :: vs).length : Int) by omega), hv, sEq_dec, if_pos (show (0 : Int) ≤ (((v :: vs).length - 1 : Nat) : Int) by omega), if_pos (show (((v :: vs).length - 1 : Nat) : Int) < ((v :: vs).length : Int) by omega),
        spec_IntervalValid_f, Option.bind_some, hl]
      by_cases h1 : v.Low = es <;> by_cases h2 : (rdAt (v :: vs) ((v :: vs).length - 1) z_impl_Interval).High = es <;> cases ivOk v <;> simp only [h1, h2, decide_true, decide_false, Bool.not_true, Bool.not_false, cond_true, cond_false, Bool.true_and, Bool.false_and, Bool.and_false, Bool.and_true]
/-! ### Routes -/
def numsFrom : List Int → List impl_Route → Bool
  | _, [] => true
  | pre, y :: ys => decide (0 ≤ y.Number ∧ y.Number ≤ 7) && !decide (y.Number ∈ pre) && numsFrom (pre ++ [y.Number]) ys
def spans (l : List impl_Route) : List impl_Interval := l.map fun r => r.Span
def routesOk (l : List impl_Route) : Bool := decide (l.length ≤ 6) && partOk (spans l) && numsFrom [] l
theorem impl_spansOf_l (xs : List impl_Route) (hx : xs.length ≤ 100000000000) : ∀ (ys : List impl_Route) (i : Int) (out : List impl_Interval), 0 ≤ i → i ≤ xs.length → (out.length : Int) ≤ i → xs.drop i.toNat = ys →
    impl_spansOf_3 xs (xs.length : Int) i out = some (out ++ spans ys, ())
  | [], i, out, h0, h1, hl, hd => by
    have := drop_nil h0 h1 hd
    rw [impl_spansOf_3_eq, cond_dec, if_neg (by omega)]; simp [spans]
  | y :: ys, i, out, h0, h1, ho, hd => by
    obtain ⟨hr, hl, hd'⟩ := rd_drop (d := z_impl_Route) h0 hd
    have ih := impl_spansOf_l xs hx ys (i + 1) (out ++ [y.Span]) (by omega) (by omega) (by simp; omega) hd'
    rw [impl_spansOf_3_eq]
    simp only [cond_dec, if_pos hl, if_pos h0, hr, w64 (n := i + 1) (by omega) (by omega), ih, ble_row (n := out.length + [y.Span].length) (m := 32) (by simp; omega) (by omega), cond_true]
    simp [spans]
theorem impl_spansOf_f (xs : List impl_Route) (hx : xs.length ≤ 100000000000) : impl_spansOf xs = some (spans xs, ()) := by
  rw [impl_spansOf_eq, impl_spansOf_l xs hx xs 0 [] (by omega) (by omega) (by simp) (by simp)]; simp
def placeFrom (n : Int) : List impl_Route → Int → Int
  | [], _ => -1
  | y :: ys, i => if y.Number = n then i else placeFrom n ys (i + 1)
theorem impl_routePlace_l (xs : List impl_Route) (n : Int) (hx : xs.length ≤ 1000000000000) : ∀ (ys : List impl_Route) (i : Int), 0 ≤ i → i ≤ xs.length → xs.drop i.toNat = ys → impl_routePlace_2 n xs (xs.length : Int) i = some (placeFrom n ys i, ())
  | [], i, h0, h1, hd => by
    have := drop_nil h0 h1 hd
    rw [impl_routePlace_2_eq, cond_dec, if_neg (by omega)]; rfl
  | y :: ys, i, h0, h1, hd => by
    obtain ⟨hr, hl, hd'⟩ := rd_drop (d := z_impl_Route) h0 hd
    have ih := impl_routePlace_l xs n hx ys (i + 1) (by omega) (by omega) hd'
    rw [impl_routePlace_2_eq]
    simp only [cond_dec, if_pos hl, if_pos h0, hr, w64 (n := i + 1) (by omega) (by omega), ih, placeFrom]
    by_cases e : y.Number = n
    · rw [if_pos e, if_pos e]
    · rw [if_neg e, if_neg e]
theorem impl_routePlace_f (xs : List impl_Route) (n : Int) (hx : xs.length ≤ 1000000000000) : impl_routePlace xs n = some (placeFrom n xs 0, ()) := by
  rw [impl_routePlace_eq]; exact impl_routePlace_l xs n hx xs 0 (by omega) (by omega) (by simp)
theorem placeFrom_ge (n : Int) : ∀ (ys : List impl_Route) (i : Int), 0 ≤ i → (0 ≤ placeFrom n ys i ↔ n ∈ ys.map fun r => r.Number)
  | [], i, _ => by simp [placeFrom]
  | y :: ys, i, h => by
    have ih := placeFrom_ge n ys (i + 1) (by omega)
    simp only [placeFrom, List.map_cons, List.mem_cons]
    by_cases e : y.Number = n
    · rw [if_pos e]; simp [e, h]
    · rw [if_neg e, ih]
      have e' : ¬ n = y.Number := fun h => e h.symm
      simp [e']
theorem impl_shardNumber_f (a : Int) : impl_shardNumber a = some (decide (0 ≤ a ∧ a ≤ 7), ()) := by
  rw [impl_shardNumber_eq, cond_dec]
  by_cases h : 0 ≤ a
  · rw [if_pos h, show decide (a < 8) = decide (0 ≤ a ∧ a ≤ 7) by rw [decide_eq_decide]; omega]
  · rw [if_neg h, decide_eq_false (by omega)]
theorem cutList_take {α : Type} (xs : List α) (i : Int) : cutList xs 0 i = xs.take i.toNat := by simp [cutList]
theorem impl_numbersDiffer_l (xs : List impl_Route) (hx : xs.length ≤ 1000000000000) : ∀ (ys : List impl_Route) (i : Int), 0 ≤ i → i ≤ xs.length → xs.drop i.toNat = ys →
    impl_numbersDiffer_2 xs xs (xs.length : Int) i = some (numsFrom ((xs.take i.toNat).map fun r => r.Number) ys, ())
  | [], i, h0, h1, hd => by
    have := drop_nil h0 h1 hd
    rw [impl_numbersDiffer_2_eq, cond_dec, if_neg (by omega)]; rfl
  | y :: ys, i, h0, h1, hd => by
    obtain ⟨hr, hl, hd'⟩ := rd_drop (d := z_impl_Route) h0 hd
    have htk := take_at hd
    have ih := impl_numbersDiffer_l xs hx ys (i + 1) (by omega) (by omega) hd'
    rw [show (i + 1).toNat = i.toNat + 1 by omega, htk, List.map_append] at ih
    have hp := placeFrom_ge y.Number (xs.take i.toNat) 0 (by omega)
    rw [impl_numbersDiffer_2_eq]
    simp only [cond_dec, if_pos hl, if_pos h0, hr, impl_shardNumber_f, Option.bind_some, if_pos (show i ≤ (xs.length : Int) by omega), cutList_take, impl_routePlace_f (xs.take i.toNat) y.Number (by rw [List.length_take]; omega), w64 (n := i + 1) (by omega) (by omega), ih, numsFrom, List.map_cons, List.map_nil]
    by_cases h2 : 0 ≤ y.Number ∧ y.Number ≤ 7
    · rw [decide_eq_true h2]
      by_cases h3 : y.Number ∈ (xs.take i.toNat).map fun r => r.Number
      · rw [if_pos (hp.2 h3), decide_eq_true h3]; rfl
      · rw [if_neg (fun e => h3 (hp.1 e)), decide_eq_false h3]; rfl
    · rw [decide_eq_false h2]; rfl
theorem impl_numbersDiffer_f (xs : List impl_Route) (hx : xs.length ≤ 1000000000000) : impl_numbersDiffer xs = some (numsFrom [] xs, ()) := by
  rw [impl_numbersDiffer_eq, impl_numbersDiffer_l xs hx xs 0 (by omega) (by omega) (by simp)]; simp
theorem impl_RoutesValid_f (xs : List impl_Route) : impl_RoutesValid xs = some (routesOk xs, ()) := by
  rw [impl_RoutesValid_eq, cond_dec]
  unfold routesOk
  by_cases h : (xs.length : Int) ≤ 6
  · rw [if_pos h, impl_spansOf_f xs (by omega), Option.bind_some, impl_PartitionValid_f, Option.bind_some, impl_numbersDiffer_f xs (by omega), Option.bind_some, decide_eq_true (by omega)]
    cases partOk (spans xs) <;> rfl
  · rw [if_neg h, decide_eq_false (by omega)]; rfl
theorem spec_RoutesValid_l1 (xs : List impl_Route) (out : List impl_Interval) (ho : out.length ≤ 100) (hx : xs.length ≤ 1000000000000) (k : Int) (y : impl_Route) (h0 : 0 ≤ k) (hk : k < xs.length) (hy : rdAt xs k.toNat z_impl_Route = y) :
    ∀ (zs : List impl_Route) (j : Int), 0 ≤ j → j ≤ k → (xs.take k.toNat).drop j.toNat = zs → spec_RoutesValid_8 xs k j out = if y.Number ∈ zs.map (fun r => r.Number) then some (false, ()) else spec_RoutesValid_3 xs (k + 1) (out ++ [y.Span])
  | [], j, h1, h2, hd => by
    have hl : (xs.take k.toNat).length = k.toNat := by rw [List.length_take]; omega
    have := drop_nil h1 (by omega) hd
    rw [spec_RoutesValid_8_eq]
    simp only [cond_dec, if_neg (show ¬ j < k by omega), if_pos h0, if_pos hk, hy, w64 (n := k + 1) (by omega) (by omega), ble_row (n := out.length + [y.Span].length) (m := 32) (by simp; omega) (by omega), cond_true]
    rw [if_neg (by simp)]
  | z :: zs, j, h1, h2, hd => by
    have hl : (xs.take k.toNat).length = k.toNat := by rw [List.length_take]; omega
    obtain ⟨hr, hlt, hd'⟩ := rd_drop (d := z_impl_Route) h1 hd
    have hr' : rdAt xs j.toNat z_impl_Route = z := by
      rw [← hr]; unfold rdAt
      rw [List.getD_eq_getElem?_getD, List.getD_eq_getElem?_getD, List.getElem?_take, if_pos (by omega)]
    have ih := spec_RoutesValid_l1 xs out ho hx k y h0 hk hy zs (j + 1) (by omega) (by omega) hd'
    rw [spec_RoutesValid_8_eq]
    simp only [cond_dec, if_pos (show j < k by omega), if_pos h1, if_pos (show j < (xs.length : Int) by omega), if_pos h0, if_pos hk, hr', hy, w64 (n := j + 1) (by omega) (by omega), ih]
    by_cases e : z.Number = y.Number
    · rw [if_pos e, if_pos (by simp [e])]
    · rw [if_neg e]
      have e' : ¬ y.Number = z.Number := fun h => e h.symm
      simp [e']
theorem spec_RoutesValid_l (xs : List impl_Route) (hx : xs.length ≤ 1000000000000) : ∀ (ys : List impl_Route) (i : Int), 0 ≤ i → i ≤ 6 → i ≤ xs.length → xs.drop i.toNat = ys →
    spec_RoutesValid_3 xs i (spans (xs.take i.toNat)) = some (decide (xs.length ≤ 6) && partOk (spans xs) && numsFrom ((xs.take i.toNat).map fun r => r.Number) ys, ())
  | [], i, h0, h6, h1, hd => by
    have := drop_nil h0 h1 hd
    rw [spec_RoutesValid_3_eq, cond_dec, if_neg (by omega), List.take_of_length_le (by omega), spec_PartitionValid_f, Option.bind_some, decide_eq_true (by omega)]; simp [numsFrom]
  | y :: ys, i, h0, h6, h1, hd => by
    obtain ⟨hr, hl, hd'⟩ := rd_drop (d := z_impl_Route) h0 hd
    have htk := take_at hd
    rw [spec_RoutesValid_3_eq, cond_dec, if_pos hl]
    by_cases c : (6 : Int) ≤ i
    · rw [cond_dec, if_pos c, decide_eq_false (by omega)]; rfl
    · simp only [cond_dec, if_neg c, if_pos h0, if_pos hl, hr, spec_l1In_f, Option.bind_some]
      by_cases h2 : 0 ≤ y.Number ∧ y.Number ≤ 7
      · have e2 : spans (xs.take i.toNat) ++ [y.Span] = spans (xs.take (i.toNat + 1)) := by rw [htk]; simp [spans]
        have ih := spec_RoutesValid_l xs hx ys (i + 1) (by omega) (by omega) (by omega) hd'
        rw [show (i + 1).toNat = i.toNat + 1 by omega] at ih
        rw [decide_eq_true h2, Bool.not_true, cond_false, spec_RoutesValid_l1 xs (spans (xs.take i.toNat)) (by simp [spans]; omega) hx i y h0 hl hr (xs.take i.toNat) 0 (by omega) h0 (by simp), e2, ih, htk]
        simp only [numsFrom, List.map_append, List.map_cons, List.map_nil]
        by_cases h3 : y.Number ∈ (xs.take i.toNat).map fun r => r.Number
        · rw [if_pos h3, decide_eq_true h3]; simp
        · rw [if_neg h3, decide_eq_false h3, decide_eq_true h2]; simp
      · simp only [decide_eq_false h2, Bool.not_false, cond_true, numsFrom]; simp
theorem spec_RoutesValid_f (xs : List impl_Route) (hx : xs.length ≤ 1000000000000) : spec_RoutesValid xs = some (routesOk xs, ()) := by
  have h := spec_RoutesValid_l xs hx xs 0 (by omega) (by omega) (by omega) (by simp)
  rw [spec_RoutesValid_eq]
  exact h
end Go.Proofs.YtlffjoabajdfnaaGreat.Ev
