/- Caches, the directory's order, clusters: which are valid. No condition. -/
import Derived.Test.YtlffjoabajdfnaaGreatPuCh
import Derived.Test.YtlffjoabajdfnaaGreatPuD
set_option linter.unusedVariables false
set_option linter.unusedSimpArgs false
namespace Go.Proofs.YtlffjoabajdfnaaGreat.Ev
open Go.Proofs.YtlffjoabajdfnaaGreat.Eng
open Go.RowKit (wrap64)
/-! ### Caches -/
theorem filter_len (a : Int) : ∀ l : List Int, l.Nodup → l.length ≤ (l.filter fun x => decide (x ≠ a)).length + 1
  | [], _ => by simp
  | x :: l, h => by
    rw [List.nodup_cons] at h
    have ih := filter_len a l h.2
    by_cases e : x = a
    · subst e
      have : l.filter (fun y => decide (y ≠ x)) = l := List.filter_eq_self.2 fun y hy => decide_eq_true fun (he : y = x) => h.1 (he ▸ hy)
      rw [List.filter_cons_of_neg (by simp), this]; simp
    · rw [List.filter_cons_of_pos (by simpa using e)]; simp only [List.length_cons]; omega
theorem pigeon : ∀ (n : Nat) (l : List Int), l.Nodup → (∀ x ∈ l, 0 ≤ x ∧ x < n) → l.length ≤ n
  | 0, l, h, hb => by
    cases l with
    | nil => simp
    | cons x l => have := hb x List.mem_cons_self; omega
  | n + 1, l, h, hb => by
    have h1 := filter_len (n : Int) l h
    have h2 := pigeon n (l.filter fun x => decide (x ≠ (n : Int))) (h.filter _) fun x hx => by
      rw [List.mem_filter] at hx
      have := hb x hx.1
      have := of_decide_eq_true hx.2
      omega
    omega
theorem numsFrom_nodup : ∀ (l : List impl_Route) (pre : List Int), numsFrom pre l = true → (l.map fun r => r.Number).Nodup ∧ (∀ x : Int, x ∈ l.map (fun r => r.Number) → 0 ≤ x ∧ x < ((8 : Nat) : Int)) ∧ ∀ x : Int, x ∈ l.map (fun r => r.Number) → x ∉ pre
  | [], pre, _ => ⟨List.nodup_nil, (fun x hx => by cases hx), (fun x hx => by cases hx)⟩
  | y :: l, pre, h => by
    simp only [numsFrom, Bool.and_eq_true, Bool.not_eq_true', decide_eq_false_iff_not, decide_eq_true_eq] at h
    obtain ⟨i1, i2, i3⟩ := numsFrom_nodup l _ h.2
    rw [List.map_cons]
    refine ⟨List.nodup_cons.2 ⟨fun hm => i3 _ hm (by simp), i1⟩, fun x hx => ?_, fun x hx => ?_⟩
    · rcases List.mem_cons.1 hx with rfl | hx
      · omega
      · exact i2 x hx
    · rcases List.mem_cons.1 hx with rfl | hx
      · exact h.1.2
      · exact fun hp => i3 x hx (List.mem_append_left _ hp)
theorem numsFrom_len {l : List impl_Route} (h : numsFrom [] l = true) : l.length ≤ 8 := by
  obtain ⟨a, b, _⟩ := numsFrom_nodup l [] h
  have := pigeon 8 _ a b
  rwa [List.length_map] at this
def gapOk : Option ByteArray → ByteArray → Bool
  | none, _ => true
  | some h, lo => !decide (h = es) && !sLt lo h
def gapFrom : Option ByteArray → List impl_Route → Bool
  | _, [] => true
  | p, y :: ys => ivOk y.Span && gapOk p y.Span.Low && gapFrom (some y.Span.High) ys
def cacheOk (l : List impl_Route) : Bool := numsFrom [] l && gapFrom none l
theorem impl_CacheValid_l (xs : List impl_Route) (hx : xs.length ≤ 8) : ∀ (ys : List impl_Route) (i : Int) (p : Option ByteArray), 0 ≤ i → i ≤ xs.length → xs.drop i.toNat = ys → (i = 0 → p = none) → (0 < i → p = some (rdAt xs (Int.toNat (i - 1)) z_impl_Route).Span.High) → impl_CacheValid_4 xs xs (xs.length : Int) i = some (gapFrom p ys, ())
  | [], i, p, h0, h1, hd, hp0, hp1 => by
    have := drop_nil h0 h1 hd
    rw [impl_CacheValid_4_eq, cond_dec, if_neg (by omega)]; rfl
  | y :: ys, i, p, h0, h1, hd, hp0, hp1 => by
    obtain ⟨hr, hl, hd'⟩ := rd_drop (d := z_impl_Route) h0 hd
    have ih := impl_CacheValid_l xs hx ys (i + 1) (some y.Span.High) (by omega) (by omega) hd' (fun h => by omega) (fun _ => by rw [show i + 1 - 1 = i by omega, hr])
    rw [impl_CacheValid_4_eq]
    simp only [cond_dec, if_pos hl, if_pos h0, hr, w64 (n := i + 1) (by omega) (by omega), w64 (n := i - 1) (by omega) (by omega), ih, impl_IntervalValid_f, Option.bind_some, gapFrom, sLe_not]
    cases ivOk y.Span with
    | false => rfl
    | true =>
      by_cases hi : 0 < i
      · simp only [if_pos hi, if_pos (show 0 ≤ i - 1 by omega), if_pos (show i - 1 < (xs.length : Int) by omega), hp1 hi, gapOk, sEq_dec]
        generalize (rdAt xs (Int.toNat (i - 1)) z_impl_Route).Span.High = q
        by_cases e : q = es
        · simp [e]
        · cases sLt y.Span.Low q <;> simp [e]
      · rw [if_neg hi, hp0 (by omega)]; rfl
theorem impl_CacheValid_f (xs : List impl_Route) (hx : xs.length ≤ 1000000000000) : impl_CacheValid xs = some (cacheOk xs, ()) := by
  rw [impl_CacheValid_eq, cond_dec, impl_numbersDiffer_f xs hx, Option.bind_some]
  unfold cacheOk
  cases hn : numsFrom [] xs with
  | false => by_cases h : 8 < (xs.length : Int) <;> simp [h]
  | true =>
    have := numsFrom_len hn
    rw [if_neg (by omega), impl_CacheValid_l xs this xs 0 none (by omega) (by omega) rfl (fun _ => rfl) (fun h => by omega)]; rfl
theorem spec_CacheValid_7_f (xs : List impl_Route) (hx : xs.length ≤ 1000000000000) (i : Int) (hi0 : 0 ≤ i) (hi : i < xs.length) (p : Option ByteArray) (hp0 : i = 0 → p = none) (hp1 : 0 < i → p = some (rdAt xs (Int.toNat (i - 1)) z_impl_Route).Span.High) : ∀ (zs : List impl_Route) (j : Int), 0 ≤ j → j ≤ i → (xs.take i.toNat).drop j.toNat = zs →
    spec_CacheValid_7 xs i j = if (rdAt xs i.toNat z_impl_Route).Number ∈ zs.map (fun r => r.Number) then some (false, ()) else (bif gapOk p (rdAt xs i.toNat z_impl_Route).Span.Low then spec_CacheValid_2 xs (i + 1) else some (false, ()))
  | [], j, h0, h1, hd => by
    have := drop_nil h0 (by rw [List.length_take]; omega) hd
    rw [List.length_take] at this
    rw [spec_CacheValid_7_eq, cond_dec, if_neg (by omega), if_neg (by simp)]
    simp only [cond_dec, w64 (n := i + 1) (by omega) (by omega), w64 (n := i - 1) (by omega) (by omega), sLe_not, if_pos hi0, if_pos hi]
    simp only [sEq_dec, cond_dec]
    by_cases hi : 0 < i
    · simp only [if_pos hi, if_pos (show 0 ≤ i - 1 by omega), if_pos (show i - 1 < (xs.length : Int) by omega), hp1 hi, gapOk]
      generalize (rdAt xs (Int.toNat (i - 1)) z_impl_Route).Span.High = q
      by_cases e : q = es
      · simp [e]
      · cases sLt (rdAt xs i.toNat z_impl_Route).Span.Low q <;> simp [e]
    · rw [if_neg hi, hp0 (by omega)]; rfl
  | z :: zs, j, h0, h1, hd => by
    obtain ⟨hr, hl, hd'⟩ := rd_drop (d := z_impl_Route) h0 hd
    rw [List.length_take] at hl
    rw [rd_take _ _ _ (by omega)] at hr
    have ih := spec_CacheValid_7_f xs hx i hi0 hi p hp0 hp1 zs (j + 1) (by omega) (by omega) hd'
    rw [spec_CacheValid_7_eq]
    simp only [cond_dec, if_pos (show j < i by omega), if_pos h0, if_pos (show j < (xs.length : Int) by omega), if_pos hi0, if_pos hi, hr, w64 (n := j + 1) (by omega) (by omega), ih, List.map_cons]
    by_cases e : z.Number = (rdAt xs i.toNat z_impl_Route).Number
    · rw [if_pos e, if_pos (by rw [e]; exact List.mem_cons_self)]
    · rw [if_neg e]
      by_cases e2 : (rdAt xs i.toNat z_impl_Route).Number ∈ zs.map (fun r => r.Number)
      · rw [if_pos e2, if_pos (List.mem_cons_of_mem _ e2)]
      · rw [if_neg e2, if_neg (fun h => (List.mem_cons.1 h).elim (fun h => e h.symm) e2)]
theorem spec_CacheValid_l (xs : List impl_Route) (hx : xs.length ≤ 1000000000000) : ∀ (ys : List impl_Route) (i : Int) (p : Option ByteArray), 0 ≤ i → i ≤ xs.length → xs.drop i.toNat = ys → (i = 0 → p = none) → (0 < i → p = some (rdAt xs (Int.toNat (i - 1)) z_impl_Route).Span.High) →
    spec_CacheValid_2 xs i = some (numsFrom ((xs.take i.toNat).map fun r => r.Number) ys && gapFrom p ys, ())
  | [], i, p, h0, h1, hd, hp0, hp1 => by
    have := drop_nil h0 h1 hd
    rw [spec_CacheValid_2_eq, cond_dec, if_neg (by omega)]; rfl
  | y :: ys, i, p, h0, h1, hd, hp0, hp1 => by
    obtain ⟨hr, hl, hd'⟩ := rd_drop (d := z_impl_Route) h0 hd
    have ih := spec_CacheValid_l xs hx ys (i + 1) (some y.Span.High) (by omega) (by omega) hd' (fun h => by omega) (fun _ => by rw [show i + 1 - 1 = i by omega, hr])
    have h7 := spec_CacheValid_7_f xs hx i h0 hl p hp0 hp1 _ 0 (by omega) h0 rfl
    rw [hr] at h7
    rw [take_next h0 hd, List.map_append] at ih
    rw [spec_CacheValid_2_eq]
    simp only [cond_dec, if_pos hl, if_pos h0, hr, spec_IntervalValid_f, spec_l1In_f, Option.bind_some, h7, ih, numsFrom, gapFrom, List.map_cons, List.map_nil, Int.toNat_zero, List.drop_zero]
    cases ivOk y.Span with
    | false => simp
    | true =>
      by_cases e : 0 ≤ y.Number ∧ y.Number ≤ 7
      · rw [decide_eq_true e]
        by_cases e2 : y.Number ∈ (xs.take i.toNat).map (fun r => r.Number)
        · rw [if_pos e2, decide_eq_true e2]; simp
        · rw [if_neg e2, decide_eq_false e2]
          cases gapOk p y.Span.Low <;> simp
      · rw [decide_eq_false e]; simp
theorem spec_CacheValid_f (xs : List impl_Route) (hx : xs.length ≤ 1000000000000) : spec_CacheValid xs = some (cacheOk xs, ()) := by
  rw [spec_CacheValid_eq, spec_CacheValid_l xs hx xs 0 none (by omega) (by omega) rfl (fun _ => rfl) (fun h => by omega)]; rfl
/-! ### Clients, results -/
theorem impl_timeValid_f (a : Int) : impl_timeValid a = some (decide (0 ≤ a ∧ a ≤ 200), ()) := by
  rw [impl_timeValid_eq, cond_dec]
  by_cases h : 0 ≤ a
  · rw [if_pos h, Bool.decide_and, decide_eq_true h]; rfl
  · rw [if_neg h, decide_eq_false (by omega)]
theorem impl_replyValid_f (a : Int) : impl_replyValid a = some (decide (-4 ≤ a ∧ a ≤ 999), ()) := by
  rw [impl_replyValid_eq, cond_dec]
  by_cases h : -4 ≤ a
  · rw [if_pos h, Bool.decide_and, decide_eq_true h]; rfl
  · rw [if_neg h, decide_eq_false (by omega)]
theorem impl_clientNumber_f (a : Int) : impl_clientNumber a = some (decide (1 ≤ a ∧ a ≤ 3), ()) := by
  rw [impl_clientNumber_eq, cond_dec]
  by_cases h : 1 ≤ a
  · rw [if_pos h]; congr 2; rw [decide_eq_decide]; omega
  · rw [if_neg h, decide_eq_false (by omega)]
def wishOk (c : impl_Command) : Bool := cmdOk c && !decide (c.Kind = 5)
theorem impl_wishValid_f (c : impl_Command) : impl_wishValid c = some (wishOk c, ()) := by
  rw [impl_wishValid_eq, impl_CommandValid_f, Option.bind_some]; unfold wishOk; cases cmdOk c <;> rfl
theorem spec_l25Wish_f (c : impl_Command) : spec_l25Wish c = some (wishOk c, ()) := by
  rw [spec_l25Wish_eq, spec_CommandValid_f, Option.bind_some]; unfold wishOk; cases cmdOk c <;> rfl
def cmdZero (c : impl_Command) : Bool := ((((true) && (eqI c.Old (0 : Int))) && (eqI c.Value (0 : Int))) && (sEq c.Key es)) && (eqI c.Kind (0 : Int))
def callerOk (c : impl_Caller) : Bool := cacheOk c.Cache && decide (0 ≤ c.Seq ∧ c.Seq ≤ 999) && (if c.Busy = true then decide (1 ≤ c.Seq) && wishOk c.Wish && decide (0 ≤ c.Called ∧ c.Called ≤ 200) else cmdZero c.Wish && decide (c.Called = 0))
theorem impl_CallerValid_f (c : impl_Caller) (h : c.Cache.length ≤ 1000000000000) : impl_CallerValid c = some (callerOk c, ()) := by
  rw [impl_CallerValid_eq]
  change (impl_CacheValid c.Cache).bind (fun r1 => (bif !r1.1 then _ else (bif _ then _ else (bif _ then _ else (bif _ then (bif cmdZero c.Wish then _ else _) else _))))) = _
  simp only [cond_dec, impl_CacheValid_f _ h, impl_wishValid_f, impl_timeValid_f, Option.bind_some]
  unfold callerOk
  cases cacheOk c.Cache with
  | false => rfl
  | true =>
    by_cases h1 : c.Seq < 0
    · rw [if_pos h1, decide_eq_false (p := 0 ≤ c.Seq ∧ c.Seq ≤ 999) (by omega)]; rfl
    · rw [if_neg h1]
      by_cases h2 : 999 < c.Seq
      · rw [if_pos h2, decide_eq_false (p := 0 ≤ c.Seq ∧ c.Seq ≤ 999) (by omega)]; rfl
      · rw [if_neg h2, decide_eq_true (p := 0 ≤ c.Seq ∧ c.Seq ≤ 999) (by omega)]
        cases c.Busy with
        | false => cases cmdZero c.Wish <;> simp
        | true => by_cases h3 : 1 ≤ c.Seq <;> cases wishOk c.Wish <;> simp [h3]
theorem spec_CallerValid_f (c : impl_Caller) (h : c.Cache.length ≤ 1000000000000) : spec_CallerValid c = some (callerOk c, ()) := by
  rw [spec_CallerValid_eq]
  change (spec_CacheValid c.Cache).bind (fun r1 => (bif !r1.1 then _ else (spec_l1In _ _ _).bind fun r2 => (bif !r2.1 then _ else (bif _ then _ else (bif cmdZero c.Wish then _ else _))))) = _
  simp only [cond_dec, spec_CacheValid_f _ h, spec_l25Wish_f, spec_l1In_f, Option.bind_some]
  unfold callerOk
  cases cacheOk c.Cache with
  | false => rfl
  | true =>
    cases decide (0 ≤ c.Seq ∧ c.Seq ≤ 999) with
    | false => rfl
    | true =>
      cases c.Busy with
      | false => cases cmdZero c.Wish <;> simp
      | true => by_cases h3 : 1 ≤ c.Seq <;> cases wishOk c.Wish <;> simp [h3]
def noCaller (c : impl_Caller) : Bool := decide (c.Cache.length = 0) && decide (c.Seq = 0) && !c.Busy && cmdZero c.Wish && decide (c.Called = 0)
theorem impl_noCaller_f (c : impl_Caller) : impl_noCaller c = some (noCaller c, ()) := by
  rw [impl_noCaller_eq]
  change (bif _ then (bif _ then (bif _ then (bif cmdZero c.Wish then _ else _) else _) else _) else _) = _
  rw [len0]
  unfold noCaller
  cases decide (c.Cache.length = 0) <;> cases decide (c.Seq = 0) <;> cases c.Busy <;> cases cmdZero c.Wish <;> rfl
theorem noCaller_iff {c : impl_Caller} (h : callerOk c = true) : noCaller c = (decide (c.Seq = 0) && decide (c.Cache.length = 0)) := by
  unfold callerOk at h
  unfold noCaller
  by_cases h1 : c.Seq = 0
  · cases hb : c.Busy with
    | true => rw [hb] at h; simp [h1] at h
    | false =>
      rw [hb] at h
      simp only [Bool.and_eq_true, Bool.false_eq_true, if_false] at h
      rw [h.2.1, h.2.2, decide_eq_true h1]; simp
  · rw [decide_eq_false h1]; simp
def resultOk (r : impl_Result) : Bool := decide (1 ≤ r.Client ∧ r.Client ≤ 3) && decide (1 ≤ r.Seq ∧ r.Seq ≤ 999) && wishOk r.Wish && decide (-4 ≤ r.Reply ∧ r.Reply ≤ 999) && decide (0 ≤ r.Returned ∧ r.Returned ≤ 200) && decide (0 ≤ r.Called ∧ r.Called ≤ r.Returned)
theorem impl_ResultValid_f (r : impl_Result) : impl_ResultValid r = some (resultOk r, ()) := by
  rw [impl_ResultValid_eq]
  simp only [impl_clientNumber_f, impl_seqValid_f, impl_wishValid_f, impl_replyValid_f, impl_timeValid_f, Option.bind_some]
  unfold resultOk
  rw [Bool.decide_and (p := 0 ≤ r.Called) (q := r.Called ≤ r.Returned)]
  cases decide (1 ≤ r.Client ∧ r.Client ≤ 3) <;> cases decide (1 ≤ r.Seq ∧ r.Seq ≤ 999) <;> cases wishOk r.Wish <;> cases decide (-4 ≤ r.Reply ∧ r.Reply ≤ 999) <;> cases decide (0 ≤ r.Returned ∧ r.Returned ≤ 200) <;> cases decide (0 ≤ r.Called) <;> cases decide (r.Called ≤ r.Returned) <;> rfl
theorem spec_ResultValid_f (r : impl_Result) : spec_ResultValid r = some (resultOk r, ()) := by
  rw [spec_ResultValid_eq]
  simp only [spec_l1In_f, spec_l25Wish_f, Option.bind_some]
  unfold resultOk
  cases decide (1 ≤ r.Client ∧ r.Client ≤ 3) <;> cases decide (1 ≤ r.Seq ∧ r.Seq ≤ 999) <;> cases wishOk r.Wish <;> cases decide (-4 ≤ r.Reply ∧ r.Reply ≤ 999) <;> cases decide (0 ≤ r.Returned ∧ r.Returned ≤ 200) <;> rfl
/-! ### Routes put in order -/
def ins (r : impl_Route) : List impl_Route → List impl_Route
  | [] => [r]
  | y :: ys => if sLt r.Span.Low y.Span.Low = true then r :: y :: ys else y :: ins r ys
def isort : List impl_Route → List impl_Route → List impl_Route
  | acc, [] => acc
  | acc, r :: l => isort (ins r acc) l
theorem ins_length (r : impl_Route) : ∀ l, (ins r l).length = l.length + 1
  | [] => rfl
  | y :: ys => by
    unfold ins
    split
    · rfl
    · simp only [List.length_cons, ins_length r ys]
theorem isort_length : ∀ (l acc : List impl_Route), (isort acc l).length = acc.length + l.length
  | [], acc => rfl
  | r :: l, acc => by unfold isort; rw [isort_length l, ins_length]; simp only [List.length_cons]; omega
def Asc (l : List impl_Route) : Prop := l.Pairwise fun a b => sLt b.Span.Low a.Span.Low = false
theorem le_tr {a b c : ByteArray} (h : sLt b a = false) (h2 : sLt c b = false) : sLt c a = false := by
  cases e : sLt c a with
  | false => rfl
  | true =>
    cases e2 : sLt a b with
    | true => have := sLt_tr e e2; rw [h2] at this; cases this
    | false => rw [sLt_total e2 h] at e; rw [h2] at e; cases e
theorem ins_mem (r : impl_Route) : ∀ l x, x ∈ ins r l → x = r ∨ x ∈ l
  | [], x, h => .inl (List.mem_singleton.1 h)
  | y :: ys, x, h => by
    unfold ins at h
    split at h
    · rcases List.mem_cons.1 h with h | h
      · exact .inl h
      · exact .inr h
    · rcases List.mem_cons.1 h with h | h
      · exact .inr (h ▸ List.mem_cons_self)
      · exact (ins_mem r ys x h).imp id (List.mem_cons_of_mem _)
theorem ins_asc (r : impl_Route) : ∀ l, Asc l → Asc (ins r l)
  | [], h => List.pairwise_singleton _ _
  | y :: ys, h => by
    have h' := List.pairwise_cons.1 h
    unfold ins
    split
    · rename_i c
      refine List.pairwise_cons.2 ⟨fun z hz => ?_, h⟩
      rcases List.mem_cons.1 hz with rfl | hz
      · exact sLt_asym c
      · exact le_tr (sLt_asym c) (h'.1 z hz)
    · rename_i c
      refine List.pairwise_cons.2 ⟨fun z hz => ?_, ins_asc r ys h'.2⟩
      rcases ins_mem r ys z hz with rfl | hz
      · simpa using c
      · exact h'.1 z hz
theorem ins_split (r : impl_Route) (B : List impl_Route) (hB : ∀ y ∈ B, sLt r.Span.Low y.Span.Low = true) : ∀ A : List impl_Route, (∀ y ∈ A, sLt r.Span.Low y.Span.Low = false) → ins r (A ++ B) = A ++ r :: B
  | [], _ => by
    cases B with
    | nil => rfl
    | cons y B => simp only [List.nil_append, ins]; rw [if_pos (hB y List.mem_cons_self)]
  | x :: A, h => by
    simp only [List.cons_append, ins]
    rw [if_neg (by rw [h x List.mem_cons_self]; simp), ins_split r B hB A fun y hy => h y (List.mem_cons_of_mem _ hy)]
theorem impl_live1_f (a b : impl_Route) : impl_liveRoutes_c1 a b = some (cmpS a.Span.Low b.Span.Low, ()) := by
  rw [impl_liveRoutes_c1_eq, cmp_Compare_string_f]; rfl
theorem rd_mid {α : Type} {d : α} (A B : List α) (y : α) : rdAt (A ++ y :: B) A.length d = y := by
  unfold rdAt
  rw [List.getD_eq_getElem?_getD, List.getElem?_append_right (Nat.le_refl _)]; simp
theorem set_mid {α : Type} (A B : List α) (y z : α) : (A ++ y :: B).set A.length z = A ++ z :: B := by
  rw [List.set_append_right _ _ (Nat.le_refl _)]; simp
theorem split_last {α : Type} : ∀ (l : List α), l ≠ [] → ∃ A y, l = A ++ [y] := fun l h => ⟨l.dropLast, l.getLast h, (List.dropLast_concat_getLast h).symm⟩
theorem insertion_in (n : Int) (x : impl_Route) (i : Int) (hi : 0 ≤ i) (hi2 : i ≤ 100) (Z : List impl_Route) : ∀ (m : Nat) (A B : List impl_Route), A.length = m → m ≤ 100 → Asc A → (∀ y ∈ B, sLt x.Span.Low y.Span.Low = true) →
    slices_insertionSortCmpFunc_Route_4 0 n i (m : Int) (A ++ x :: (B ++ Z)) = slices_insertionSortCmpFunc_Route_1 0 n (i + 1) (ins x (A ++ B) ++ Z)
  | 0, A, B, hA, hm, ha, hB => by
    have := List.eq_nil_of_length_eq_zero hA
    subst this
    rw [slices_insertionSortCmpFunc_Route_4_eq, cond_dec, if_neg (by omega), w64 (n := i + 1) (by omega) (by omega)]
    have := ins_split x B hB [] fun y hy => by cases hy
    rw [this]; rfl
  | m + 1, A, B, hA, hm, ha, hB => by
    obtain ⟨A', y, rfl⟩ := split_last A (fun h => by rw [h] at hA; simp at hA)
    have hA' : A'.length = m := by simp at hA; exact hA
    have e1 : (A' ++ [y]) ++ x :: (B ++ Z) = A' ++ y :: (x :: (B ++ Z)) := by simp
    have r1 : rdAt ((A' ++ [y]) ++ x :: (B ++ Z)) (Int.toNat ((m + 1 : Nat) : Int)) z_impl_Route = x := by
      have := rd_mid (d := z_impl_Route) (A' ++ [y]) (B ++ Z) x
      rwa [show (A' ++ [y]).length = Int.toNat ((m + 1 : Nat) : Int) by simp; omega] at this
    have r2 : rdAt ((A' ++ [y]) ++ x :: (B ++ Z)) (Int.toNat (m : Int)) z_impl_Route = y := by
      rw [e1]
      have := rd_mid (d := z_impl_Route) A' (x :: (B ++ Z)) y
      rwa [show A'.length = Int.toNat (m : Int) by omega] at this
    have s1 : List.set ((A' ++ [y]) ++ x :: (B ++ Z)) (Int.toNat ((m + 1 : Nat) : Int)) y = (A' ++ [y]) ++ y :: (B ++ Z) := by
      have := set_mid (A' ++ [y]) (B ++ Z) x y
      rwa [show (A' ++ [y]).length = Int.toNat ((m + 1 : Nat) : Int) by simp; omega] at this
    have s2 : List.set ((A' ++ [y]) ++ y :: (B ++ Z)) (Int.toNat (m : Int)) x = A' ++ x :: (y :: B ++ Z) := by
      rw [show (A' ++ [y]) ++ y :: (B ++ Z) = A' ++ y :: (y :: (B ++ Z)) by simp]
      have := set_mid A' (y :: (B ++ Z)) y x
      rwa [show A'.length = Int.toNat (m : Int) by omega] at this
    have len : (((A' ++ [y]) ++ x :: (B ++ Z)).length : Int) = m + 2 + (B ++ Z).length := by simp; omega
    have len2 : (((A' ++ [y]) ++ y :: (B ++ Z)).length : Int) = m + 2 + (B ++ Z).length := by simp; omega
    rw [slices_insertionSortCmpFunc_Route_4_eq]
    simp only [cond_dec, w64 (n := ((m + 1 : Nat) : Int) - 1) (by omega) (by omega), show ((m + 1 : Nat) : Int) - 1 = (m : Int) by omega, w64 (n := (m : Int)) (by omega) (by omega), w64 (n := i + 1) (by omega) (by omega), r1, r2, s1, s2, impl_live1_f, Option.bind_some, cmpS_lt, len, len2]
    have ha' := List.pairwise_append.1 ha
    rw [if_pos (by omega), if_pos (by omega), if_pos (by omega), if_pos (by omega), if_pos (by omega)]
    by_cases c : sLt x.Span.Low y.Span.Low = true
    · rw [if_pos c, if_pos (by omega), if_pos (by omega), if_pos (by omega), if_pos (by omega), if_pos (by omega), if_pos (by omega), if_pos (by omega), if_pos (by omega)]
      rw [insertion_in n x i hi hi2 Z m A' (y :: B) hA' (by omega) ha'.1 fun z hz => by
        rcases List.mem_cons.1 hz with rfl | hz
        · exact c
        · exact hB z hz]
      rw [show (A' ++ [y]) ++ B = A' ++ y :: B by simp]
    · rw [if_neg c]
      have hall : ∀ z ∈ A' ++ [y], sLt x.Span.Low z.Span.Low = false := fun z hz => by
        rcases List.mem_append.1 hz with hz | hz
        · exact le_tr (ha'.2.2 z hz y (List.mem_singleton.2 rfl)) (by simpa using c)
        · rw [List.mem_singleton.1 hz]; simpa using c
      rw [ins_split x B hB _ hall]; simp
theorem insertion_out (n : Int) : ∀ (Z : List impl_Route) (P : List impl_Route) (i : Int), i = P.length → i + Z.length = n → 1 ≤ i → n ≤ 50 → Asc P → slices_insertionSortCmpFunc_Route_1 0 n i (P ++ Z) = some ((), (isort P Z, ()))
  | [], P, i, hi, hn, h1, h5, ha => by
    have : i + 0 = n := hn
    rw [slices_insertionSortCmpFunc_Route_1_eq, cond_dec, if_neg (by omega)]; simp [isort]
  | z :: Z, P, i, hi, hn, h1, h5, ha => by
    have hn' : i + ((Z.length + 1 : Nat) : Int) = n := hn
    rw [slices_insertionSortCmpFunc_Route_1_eq, cond_dec, if_pos (by omega)]
    have := insertion_in n z i (by omega) (by omega) Z P.length P [] rfl (by omega) ha fun y hy => by cases hy
    rw [← hi] at this
    rw [show P ++ z :: Z = P ++ z :: ([] ++ Z) from rfl, this, List.append_nil, insertion_out n Z (ins z P) (i + 1) (by rw [ins_length]; omega) (by omega) (by omega) h5 (ins_asc z P ha)]
    rfl
theorem sort_f (l : List impl_Route) (h : l.length ≤ 19) : slices_SortStableFunc_Route_Route l () = some ((), (isort [] l, ())) := by
  rw [slices_SortStableFunc_Route_Route_eq, slices_stableCmpFunc_Route_eq, slices_stableCmpFunc_Route_2_eq]
  simp only [cond_dec]
  rw [if_neg (by omega), slices_insertionSortCmpFunc_Route_eq, w64 (n := 0 + 1) (by omega) (by omega), show (0 : Int) + 1 = 1 from rfl]
  have hins : slices_insertionSortCmpFunc_Route_1 0 (l.length : Int) 1 l = some ((), (isort [] l, ())) := by
    cases l with
    | nil => rw [slices_insertionSortCmpFunc_Route_1_eq, cond_dec, if_neg (by simp)]; rfl
    | cons x l => exact insertion_out _ l [x] 1 (by simp) (by simp; omega) (by omega) (by simp at h ⊢; omega) (List.pairwise_singleton _ _)
  rw [hins, Option.bind_some, slices_stableCmpFunc_Route_7_eq, cond_dec, if_neg (by omega)]; rfl
def liveFrom : Int → List impl_Shard → List impl_Route
  | _, [] => []
  | i, s :: l => if s.Live = true then ⟨i, s.Group.Base.Span⟩ :: liveFrom (i + 1) l else liveFrom (i + 1) l
theorem liveFrom_cons (i : Int) (s : impl_Shard) (l : List impl_Shard) : liveFrom i (s :: l) = if s.Live = true then ⟨i, s.Group.Base.Span⟩ :: liveFrom (i + 1) l else liveFrom (i + 1) l := rfl
theorem liveFrom_len : ∀ (l : List impl_Shard) (i : Int), (liveFrom i l).length ≤ l.length
  | [], i => Nat.le_refl _
  | s :: l, i => by
    have := liveFrom_len l (i + 1)
    rw [liveFrom_cons]
    split <;> simp only [List.length_cons] <;> omega
theorem impl_live_l (xs : List impl_Shard) (hx : xs.length ≤ 8) : ∀ (ys : List impl_Shard) (i : Int) (out : List impl_Route), 0 ≤ i → i ≤ xs.length → xs.drop i.toNat = ys → out.length ≤ i.toNat → impl_liveRoutes_3 xs (xs.length : Int) i out = some (isort [] (out ++ liveFrom i ys), ())
  | [], i, out, h0, h1, hd, ho => by
    have := drop_nil h0 h1 hd
    rw [impl_liveRoutes_3_eq, cond_dec, if_neg (by omega), sort_f out (by omega)]; simp [liveFrom]
  | y :: ys, i, out, h0, h1, hd, ho => by
    obtain ⟨hr, hl, hd'⟩ := rd_drop (d := z_impl_Shard) h0 hd
    rw [impl_liveRoutes_3_eq]
    simp only [cond_dec, if_pos hl, if_pos h0, hr, w64 (n := i + 1) (by omega) (by omega)]
    rw [ble_row (by simp; omega) (by omega), cond_true, impl_live_l xs hx ys (i + 1) _ (by omega) (by omega) hd' (by simp; omega), impl_live_l xs hx ys (i + 1) _ (by omega) (by omega) hd' (by omega)]
    rw [liveFrom_cons]
    cases y.Live <;> simp
theorem impl_liveRoutes_f (c : impl_Cluster) (h : c.Shards.length ≤ 8) : impl_liveRoutes c = some (isort [] (liveFrom 0 c.Shards), ()) := by
  rw [impl_liveRoutes_eq, impl_live_l c.Shards h c.Shards 0 [] (by omega) (by omega) rfl (by simp)]; rfl
theorem spec_9_f (c : impl_Cluster) (i : Int) (hi0 : 0 ≤ i) (hi : i ≤ 100) (r : impl_Route) : ∀ (B A : List impl_Route) (s3 : List impl_Route), s3 = [] → A.length + B.length ≤ 1000 → (∀ y ∈ A, sLt r.Span.Low y.Span.Low = false) → spec_l27Routes_9 i (A.length : Int) c (A ++ B) r s3 = spec_l27Routes_3 (i + 1) c (A ++ ins r B)
  | B, A, s3, hs, hl, hA => by
    subst hs
    have ca : cutList (A ++ B) 0 (A.length : Int) = A := by rw [cut_to]; simp
    have cb : cutList (A ++ B) (A.length : Int) ((A ++ B).length : Int) = B := by rw [cut_all]; simp
    have len : ((A ++ B).length : Int) = A.length + B.length := by simp
    have b1 : Nat.ble ((([] : List impl_Route).length + A.length) * 40) maxRow = true := ble_row (by simp; omega) (by omega)
    have b2 : Nat.ble ((([] ++ A : List impl_Route).length + [r].length) * 40) maxRow = true := ble_row (by simp; omega) (by omega)
    have b3 : Nat.ble (((([] ++ A) ++ [r] : List impl_Route).length + B.length) * 40) maxRow = true := ble_row (by simp; omega) (by omega)
    rw [spec_l27Routes_9_eq]
    simp only [ca, cb, b1, b2, b3, cond_true, cond_dec, w64 (n := i + 1) (by omega) (by omega), w64 (n := (A.length : Int) + 1) (by omega) (by omega), sLe_not, if_pos (show (0 : Int) ≤ (A.length : Int) by omega), if_pos (show (A.length : Int) ≤ ((A ++ B).length : Int) by omega)]
    cases B with
    | nil => rw [if_neg (by simp)]; simp [ins]
    | cons y B =>
      rw [if_pos (by simp; omega), if_pos (by simp; omega), Int.toNat_natCast, rd_mid]
      unfold ins
      cases hy : sLt r.Span.Low y.Span.Low with
      | true => simp
      | false =>
        have ih := spec_9_f c i hi0 hi r B (A ++ [y]) [] rfl (by simp at hl ⊢; omega) fun z hz => by
          rcases List.mem_append.1 hz with hz | hz
          · exact hA z hz
          · rw [List.mem_singleton.1 hz]; exact hy
        rw [List.append_assoc, List.append_assoc] at ih
        rw [Bool.not_false, cond_true, if_neg (by simp)]
        rw [show ((A ++ [y]).length : Int) = (A.length : Int) + 1 by simp] at ih
        exact ih
termination_by B => B.length
theorem spec_live_l (c : impl_Cluster) (hx : c.Shards.length ≤ 8) : ∀ (ys : List impl_Shard) (i : Int) (out : List impl_Route), 0 ≤ i → i ≤ c.Shards.length → c.Shards.drop i.toNat = ys → out.length ≤ i.toNat → spec_l27Routes_3 i c out = some (isort out (liveFrom i ys), ())
  | [], i, out, h0, h1, hd, ho => by
    have := drop_nil h0 h1 hd
    rw [spec_l27Routes_3_eq, cond_dec, if_neg (by omega)]; rfl
  | y :: ys, i, out, h0, h1, hd, ho => by
    obtain ⟨hr, hl, hd'⟩ := rd_drop (d := z_impl_Shard) h0 hd
    have h9 := spec_9_f c i h0 (by omega) ⟨i, y.Group.Base.Span⟩ out [] [] rfl (by simp; omega) fun z hz => by cases hz
    rw [spec_l27Routes_3_eq]
    simp only [cond_dec, if_pos hl, if_pos h0, hr, w64 (n := i + 1) (by omega) (by omega)]
    rw [liveFrom_cons]
    cases y.Live with
    | false =>
      rw [Bool.not_false, cond_true, if_neg (by simp)]
      exact spec_live_l c hx ys (i + 1) out (by omega) (by omega) hd' (by omega)
    | true =>
      rw [Bool.not_true, cond_false, if_pos rfl]
      refine Eq.trans h9 ?_
      rw [List.nil_append, spec_live_l c hx ys (i + 1) _ (by omega) (by omega) hd' (by rw [ins_length]; omega)]
      rfl
theorem spec_l27Routes_f (c : impl_Cluster) (h : c.Shards.length ≤ 8) : spec_l27Routes c = some (isort [] (liveFrom 0 c.Shards), ()) := by
  rw [spec_l27Routes_eq, spec_live_l c h c.Shards 0 [] (by omega) (by omega) rfl (by simp)]
end Go.Proofs.YtlffjoabajdfnaaGreat.Ev
