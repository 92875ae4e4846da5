/- Decisions: the program's and the reference's ApplyDecision say the same. No condition. -/
import Derived.Test.YtlffjoabajdfnaaGreatPuD
set_option linter.unusedVariables false
set_option linter.unusedSimpArgs false
namespace Go.Proofs.YtlffjoabajdfnaaGreat.Ev
open Go.Proofs.YtlffjoabajdfnaaGreat.Eng
open Go.RowKit (wrap64)
theorem impl_copyOf_f (l : List impl_Route) (h : l.length ≤ 1000000000000) : impl_copyOf_Route l = some (l, ()) := by
  rw [impl_copyOf_Route_eq, ble_row h (by omega)]; rfl
def replaced (l : List impl_Route) (i w : Int) (xs : List impl_Route) : List impl_Route := (cutList l 0 i ++ xs) ++ cutList l (i + w) l.length
theorem impl_replaced_f (l : List impl_Route) (i w : Int) (xs : List impl_Route) (hl : l.length ≤ 1000) (hx : xs.length ≤ 1000) (h0 : 0 ≤ i) (hw : 0 ≤ w) (h1 : i + w ≤ l.length) : impl_replaced_Route l i w xs = some (replaced l i w xs, ()) := by
  have c1 := cutList_len l 0 i
  have c2 := cutList_len l (i + w) l.length
  rw [impl_replaced_Route_eq]
  simp only [cond_dec, w64 (n := (l.length : Int) - w) (by omega) (by omega), w64 (n := (l.length : Int) - w + (xs.length : Int)) (by omega) (by omega), w64 (n := i + w) (by omega) (by omega), if_pos (show 0 ≤ (l.length : Int) - w + (xs.length : Int) by omega),
    if_pos (show 40 * ((l.length : Int) - w + (xs.length : Int)) ≤ 281474976710656 by omega), if_pos h0, if_pos (show i ≤ (l.length : Int) by omega), if_pos (show 0 ≤ i + w by omega), if_pos h1,
    ble_row (n := ([] : List impl_Route).length + (cutList l 0 i).length) (m := 40) (by simp; omega) (by omega), ble_row (n := (cutList l 0 i).length + xs.length) (m := 40) (by omega) (by omega), ble_row (n := (cutList l 0 i ++ xs).length + (cutList l (i + w) l.length).length) (m := 40) (by simp; omega) (by omega), cond_true]
  rfl
theorem routesOk_len {l : List impl_Route} (h : routesOk l = true) : l.length ≤ 6 ∧ partOk (spans l) = true ∧ numsFrom [] l = true := by
  simp only [routesOk, Bool.and_eq_true, decide_eq_true_eq] at h
  exact ⟨h.1.1, h.1.2, h.2⟩
theorem tail_ok (l L : List impl_Route) : (bif !routesOk L then some ((l, false, ()), ()) else some ((L, true, ()), ())) = some ((if routesOk L = true then (L, true, ()) else (l, false, ()) : List impl_Route × Bool × Unit), ()) := by cases routesOk L <;> rfl
/-! ### SplitRoute -/
def splitR (l : List impl_Route) (n : Int) (k : ByteArray) (a b : Int) : List impl_Route × Bool × Unit :=
  if routesOk l = false then ([], false, ()) else
  if placeFrom n l 0 < 0 then (l, false, ()) else
  if cutOk (rdAt l (placeFrom n l 0).toNat z_impl_Route).Span k = false then (l, false, ()) else
  let v := (rdAt l (placeFrom n l 0).toNat z_impl_Route).Span
  let l' := replaced l (placeFrom n l 0) 1 [⟨a, v.Low, k⟩, ⟨b, k, v.High⟩]
  if routesOk l' = true then (l', true, ()) else (l, false, ())
theorem impl_SplitRoute_f (l : List impl_Route) (n : Int) (k : ByteArray) (a b : Int) (hx : l.length ≤ 1000000000) : impl_SplitRoute l n k a b = some (splitR l n k a b, ()) := by
  rw [impl_SplitRoute_eq, impl_RoutesValid_f, Option.bind_some]
  unfold splitR
  cases hr : routesOk l with
  | false => rfl
  | true =>
    obtain ⟨hl, _, _⟩ := routesOk_len hr
    obtain ⟨p1, p2⟩ := placeFrom_lt n l 0 (by omega)
    simp only [Bool.not_true, cond_false, impl_routePlace_f l n (by omega), Option.bind_some, cond_dec, impl_copyOf_f l (by omega), impl_IntervalCut_f]
    rw [if_neg (show ¬ (true = false) by simp)]
    by_cases hp : placeFrom n l 0 < 0
    · rw [if_pos hp, if_pos hp]
    · rw [if_neg hp, if_neg hp, if_pos (by omega), if_pos (by omega)]
      unfold cutR
      cases hc : cutOk (rdAt l (placeFrom n l 0).toNat z_impl_Route).Span k with
      | false => rfl
      | true =>
        simp only [if_true, Bool.not_true, cond_false]
        rw [if_neg (show ¬ (true = false) by simp), impl_replaced_f l _ 1 _ (by omega) (by simp) (by omega) (by omega) (by omega)]
        simp only [Option.bind_some, impl_RoutesValid_f]
        cases routesOk (replaced l (placeFrom n l 0) 1 [⟨a, (rdAt l (placeFrom n l 0).toNat z_impl_Route).Span.Low, k⟩, ⟨b, k, (rdAt l (placeFrom n l 0).toNat z_impl_Route).Span.High⟩]) <;> rfl
theorem spec_SplitRoute_f (l : List impl_Route) (n : Int) (k : ByteArray) (a b : Int) (hx : l.length ≤ 1000000000) : spec_SplitRoute l n k a b = some (splitR l n k a b, ()) := by
  rw [spec_SplitRoute_eq, spec_RoutesValid_f l (by omega), Option.bind_some]
  unfold splitR
  cases hr : routesOk l with
  | false => rfl
  | true =>
    obtain ⟨hl, _, _⟩ := routesOk_len hr
    obtain ⟨p1, p2⟩ := placeFrom_lt n l 0 (by omega)
    have c1 := cutList_len l 0 (placeFrom n l 0)
    have c2 := cutList_len l (placeFrom n l 0 + 1) l.length
    simp only [Bool.not_true, cond_false, spec_l23Index_f l n (by omega), Option.bind_some, cond_dec, spec_IntervalCut_f, ble_row (n := ([] : List impl_Route).length + l.length) (m := 40) (by simp; omega) (by omega), cond_true]
    rw [if_neg (show ¬ (true = false) by simp)]
    by_cases hp : placeFrom n l 0 < 0
    · rw [if_pos hp, if_pos hp]
    · rw [if_neg hp, if_neg hp]
      simp only [w64 (n := placeFrom n l 0 + 1) (by omega) (by omega), if_pos (show 0 ≤ placeFrom n l 0 by omega), if_pos (show placeFrom n l 0 < (l.length : Int) by omega), if_pos (show placeFrom n l 0 ≤ (l.length : Int) by omega), if_pos (show 0 ≤ placeFrom n l 0 + 1 by omega), if_pos (show placeFrom n l 0 + 1 ≤ (l.length : Int) by omega),
        ble_row (n := ([] : List impl_Route).length + (cutList l 0 (placeFrom n l 0)).length) (m := 40) (by simp; omega) (by omega), cond_true]
      unfold cutR
      cases hc : cutOk (rdAt l (placeFrom n l 0).toNat z_impl_Route).Span k with
      | false =>
        simp only [if_true, Bool.false_eq_true, if_false, Bool.not_false]
        rw [ble_row (by simp; omega) (by omega), ble_row (by simp; omega) (by omega)]
        rfl
      | true =>
        simp only [if_true, Bool.not_true, cond_false]
        rw [if_neg (show ¬ (true = false) by simp), ble_row (by simp; omega) (by omega), ble_row (by simp; omega) (by omega), spec_RoutesValid_f _ (by simp; omega)]
        simp only [Option.bind_some, cond_true]
        exact tail_ok l _
/-! ### MergeRoutes -/
theorem chain_join : ∀ (i : Nat) (v : impl_Interval) (vs : List impl_Interval) (p y : impl_Interval) (ys : List impl_Interval), chainFrom v vs = true → (v :: vs).drop i = p :: y :: ys → joinOk p y = true
  | 0, v, vs, p, y, ys, h, hd => by
    simp only [List.drop_zero, List.cons.injEq] at hd
    obtain ⟨rfl, rfl⟩ := hd
    simp only [chainFrom, Bool.and_eq_true] at h
    exact h.1
  | i + 1, v, vs, p, y, ys, h, hd => by
    cases vs with
    | nil => simp at hd
    | cons u us =>
      simp only [chainFrom, Bool.and_eq_true] at h
      exact chain_join i u us p y ys h.2 (by simpa using hd)
theorem rd_eq {α : Type} {d : α} {xs : List α} {i : Nat} (h : i < xs.length) : rdAt xs i d = xs[i] := by
  unfold rdAt; rw [List.getD_eq_getElem?_getD, List.getElem?_eq_getElem h]; rfl
theorem routes_join {l : List impl_Route} (h : routesOk l = true) {i : Nat} (hi : i + 1 < l.length) : joinOk (rdAt l i z_impl_Route).Span (rdAt l (i + 1) z_impl_Route).Span = true := by
  obtain ⟨_, h2, _⟩ := routesOk_len h
  have hd : (spans l).drop i = (rdAt l i z_impl_Route).Span :: (rdAt l (i + 1) z_impl_Route).Span :: (spans l).drop (i + 2) := by
    have hl : (spans l).length = l.length := by simp [spans]
    rw [List.drop_eq_getElem_cons (by omega), List.drop_eq_getElem_cons (by omega), rd_eq (by omega), rd_eq (by omega)]
    simp [spans]
  unfold partOk at h2
  split at h2
  · cases h2
  · rename_i v vs hs
    simp only [Bool.and_eq_true] at h2
    rw [hs] at hd
    exact chain_join i v vs _ _ _ h2.2 hd
def mergeR (l : List impl_Route) (n a : Int) : List impl_Route × Bool × Unit :=
  if routesOk l = false then ([], false, ()) else
  if placeFrom n l 0 < 0 then (l, false, ()) else
  if placeFrom n l 0 = (l.length : Int) - 1 then (l, false, ()) else
  let l' := replaced l (placeFrom n l 0) 2 [⟨a, (rdAt l (placeFrom n l 0).toNat z_impl_Route).Span.Low, (rdAt l (placeFrom n l 0 + 1).toNat z_impl_Route).Span.High⟩]
  if routesOk l' = true then (l', true, ()) else (l, false, ())
theorem impl_MergeRoutes_f (l : List impl_Route) (n a : Int) (hx : l.length ≤ 1000000000) : impl_MergeRoutes l n a = some (mergeR l n a, ()) := by
  rw [impl_MergeRoutes_eq, impl_RoutesValid_f, Option.bind_some]
  unfold mergeR
  cases hr : routesOk l with
  | false => rfl
  | true =>
    obtain ⟨hl, _, _⟩ := routesOk_len hr
    obtain ⟨p1, p2⟩ := placeFrom_lt n l 0 (by omega)
    simp only [Bool.not_true, cond_false, impl_routePlace_f l n (by omega), Option.bind_some, cond_dec, impl_copyOf_f l (by omega), impl_IntervalJoin_f, w64 (n := (l.length : Int) - 1) (by omega) (by omega)]
    rw [if_neg (show ¬ (true = false) by simp)]
    by_cases hp : placeFrom n l 0 < 0
    · rw [if_pos hp, if_pos hp]
    · rw [if_neg hp, if_neg hp]
      by_cases hq : placeFrom n l 0 = (l.length : Int) - 1
      · rw [if_pos hq, if_pos hq]
      · have hj := routes_join hr (i := (placeFrom n l 0).toNat) (by omega)
        rw [show (placeFrom n l 0).toNat + 1 = (placeFrom n l 0 + 1).toNat by omega] at hj
        rw [if_neg hq, if_neg hq]
        simp only [w64 (n := placeFrom n l 0 + 1) (by omega) (by omega), if_pos (show 0 ≤ placeFrom n l 0 by omega), if_pos (show placeFrom n l 0 < (l.length : Int) by omega), if_pos (show 0 ≤ placeFrom n l 0 + 1 by omega), if_pos (show placeFrom n l 0 + 1 < (l.length : Int) by omega), joinR, hj, if_true, Bool.not_true, cond_false]
        rw [impl_replaced_f l _ 2 _ (by omega) (by simp) (by omega) (by omega) (by omega)]
        simp only [Option.bind_some, impl_RoutesValid_f]
        cases routesOk (replaced l (placeFrom n l 0) 2 [⟨a, (rdAt l (placeFrom n l 0).toNat z_impl_Route).Span.Low, (rdAt l (placeFrom n l 0 + 1).toNat z_impl_Route).Span.High⟩]) <;> rfl
theorem spec_MergeRoutes_f (l : List impl_Route) (n a : Int) (hx : l.length ≤ 1000000000) : spec_MergeRoutes l n a = some (mergeR l n a, ()) := by
  rw [spec_MergeRoutes_eq, spec_RoutesValid_f l (by omega), Option.bind_some]
  unfold mergeR
  cases hr : routesOk l with
  | false => rfl
  | true =>
    obtain ⟨hl, _, _⟩ := routesOk_len hr
    obtain ⟨p1, p2⟩ := placeFrom_lt n l 0 (by omega)
    have c1 := cutList_len l 0 (placeFrom n l 0)
    have c2 := cutList_len l (placeFrom n l 0 + 2) l.length
    simp only [Bool.not_true, cond_false, spec_l23Index_f l n (by omega), Option.bind_some, cond_dec, spec_IntervalJoin_f, w64 (n := (l.length : Int) - 1) (by omega) (by omega), ble_row (n := ([] : List impl_Route).length + l.length) (m := 40) (by simp; omega) (by omega), cond_true]
    rw [if_neg (show ¬ (true = false) by simp)]
    by_cases hp : placeFrom n l 0 < 0
    · rw [if_pos hp, if_pos hp]
    · rw [if_neg hp, if_neg hp]
      by_cases hq : placeFrom n l 0 = (l.length : Int) - 1
      · rw [if_pos hq, if_pos hq]
      · have hj := routes_join hr (i := (placeFrom n l 0).toNat) (by omega)
        rw [show (placeFrom n l 0).toNat + 1 = (placeFrom n l 0 + 1).toNat by omega] at hj
        rw [if_neg hq, if_neg hq]
        simp only [w64 (n := placeFrom n l 0 + 1) (by omega) (by omega), w64 (n := placeFrom n l 0 + 2) (by omega) (by omega), if_pos (show 0 ≤ placeFrom n l 0 by omega), if_pos (show placeFrom n l 0 < (l.length : Int) by omega), if_pos (show placeFrom n l 0 ≤ (l.length : Int) by omega), if_pos (show 0 ≤ placeFrom n l 0 + 1 by omega), if_pos (show placeFrom n l 0 + 1 < (l.length : Int) by omega),
          if_pos (show 0 ≤ placeFrom n l 0 + 2 by omega), if_pos (show placeFrom n l 0 + 2 ≤ (l.length : Int) by omega), joinR, hj, if_true,
          ble_row (n := ([] : List impl_Route).length + (cutList l 0 (placeFrom n l 0)).length) (m := 40) (by simp; omega) (by omega), cond_true]
        rw [ble_row (by simp; omega) (by omega), ble_row (by simp; omega) (by omega), spec_RoutesValid_f _ (by simp; omega)]
        simp only [Option.bind_some, cond_true]
        exact tail_ok l _
end Go.Proofs.YtlffjoabajdfnaaGreat.Ev
