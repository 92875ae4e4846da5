/- Commands, entries, states: which are valid. No condition. -/
import Derived.Test.YtlffjoabajdfnaaGreatPuSe
set_option linter.unusedVariables false
set_option linter.unusedSimpArgs false
namespace Go.Proofs.YtlffjoabajdfnaaGreat.Ev
open Go.Proofs.YtlffjoabajdfnaaGreat.Eng
open Go.RowKit (wrap64)
def cmdOk (c : impl_Command) : Bool :=
  decide (1 ≤ c.Kind ∧ c.Kind ≤ 5) && (keyOk c.Key || (decide (c.Kind = 5) && decide (c.Key = es))) &&
    (if c.Kind = 2 then decide (0 ≤ c.Value ∧ c.Value ≤ 999) && decide (c.Old = 0) else if c.Kind = 4 then decide (0 ≤ c.Value ∧ c.Value ≤ 999) && decide (-1 ≤ c.Old ∧ c.Old ≤ 999) else decide (c.Value = 0) && decide (c.Old = 0))
theorem and_cond (a b : Bool) : (bif a then b else false) = (a && b) := by cases a <;> rfl
theorem some_cond (a : Bool) (x y : Bool) : (bif a then some (x, ()) else some (y, ())) = some ((bif a then x else y), ()) := by cases a <;> rfl
theorem some_ite (p : Prop) [Decidable p] (x y : Bool) : (if p then some (x, ()) else some (y, ())) = some ((if p then x else y), ()) := by by_cases h : p <;> simp [h]
theorem kinds (k : Int) : k = 1 ∨ k = 2 ∨ k = 3 ∨ k = 4 ∨ k = 5 ∨ (¬ (1 ≤ k ∧ k ≤ 5)) := by omega
theorem impl_CommandValid_f (c : impl_Command) : impl_CommandValid c = some (cmdOk c, ()) := by
  obtain ⟨k, s, v, o⟩ := c
  rw [impl_CommandValid_eq]
  simp only [cond_dec, impl_KeyValid_f, impl_valueValid_f, Option.bind_some, sEq_dec, some_ite, some_cond]
  unfold cmdOk
  dsimp only
  have h4 : (if o = -1 then true else decide (0 ≤ o ∧ o ≤ 999)) = decide (-1 ≤ o ∧ o ≤ 999) := by
    by_cases h : o = -1
    · rw [if_pos h, decide_eq_true (by omega)]
    · rw [if_neg h, decide_eq_decide]; omega
  rcases kinds k with rfl | rfl | rfl | rfl | rfl | h
  · cases hk : keyOk s <;> by_cases hv : v = 0 <;> simp [hv]
  · cases hk : keyOk s <;> by_cases hv : 0 ≤ v ∧ v ≤ 999 <;> simp [hv]
  · cases hk : keyOk s <;> by_cases hv : v = 0 <;> simp [hv]
  · rw [h4]; cases hk : keyOk s <;> by_cases hv : 0 ≤ v ∧ v ≤ 999 <;> simp [hv]
  · cases hk : keyOk s <;> by_cases hv : v = 0 <;> by_cases hs : s = es <;> simp [hv, hs]
  · rw [decide_eq_false h]
    by_cases h1 : k < 1
    · simp [h1]
    · simp [h1, show 5 < k by omega]
theorem spec_CommandValid_f (c : impl_Command) : spec_CommandValid c = some (cmdOk c, ()) := by
  obtain ⟨k, s, v, o⟩ := c
  rw [spec_CommandValid_eq]
  simp only [cond_dec, spec_KeyValid_f, spec_l1In_f, Option.bind_some, sEq_dec, some_ite, some_cond]
  unfold cmdOk
  dsimp only
  rcases kinds k with rfl | rfl | rfl | rfl | rfl | h
  · cases hk : keyOk s <;> by_cases hv : v = 0 <;> simp [hv]
  · cases hk : keyOk s <;> by_cases hv : 0 ≤ v ∧ v ≤ 999 <;> simp [hv]
  · cases hk : keyOk s <;> by_cases hv : v = 0 <;> simp [hv]
  · cases hk : keyOk s <;> by_cases hv : 0 ≤ v ∧ v ≤ 999 <;> simp [hv]
  · cases hk : keyOk s <;> by_cases hv : v = 0 <;> by_cases hs : s = es <;> simp [hv, hs]
  · rw [decide_eq_false h]
    cases hk : keyOk s <;> simp [show ¬ k = 1 by omega, show ¬ k = 2 by omega, show ¬ k = 3 by omega, show ¬ k = 4 by omega, show ¬ k = 5 by omega]
/-! ### Entries -/
def entryOk (e : impl_Entry) : Bool := decide (0 ≤ e.Client ∧ e.Client ≤ 3) && decide (1 ≤ e.Seq ∧ e.Seq ≤ 999) && cmdOk e.Cmd
theorem impl_EntryValid_f (e : impl_Entry) : impl_EntryValid e = some (entryOk e, ()) := by
  rw [impl_EntryValid_eq]
  simp only [cond_dec, impl_seqValid_f, impl_CommandValid_f, Option.bind_some, some_ite, some_cond]
  unfold entryOk
  by_cases h1 : 0 ≤ e.Client
  · by_cases h2 : e.Client < 4
    · rw [if_pos h1, if_pos h2, decide_eq_true (p := 0 ≤ e.Client ∧ e.Client ≤ 3) (by omega)]
      by_cases h3 : 1 ≤ e.Seq ∧ e.Seq ≤ 999 <;> simp [h3]
    · rw [if_pos h1, if_neg h2, decide_eq_false (p := 0 ≤ e.Client ∧ e.Client ≤ 3) (by omega)]; rfl
  · rw [if_neg h1, decide_eq_false (p := 0 ≤ e.Client ∧ e.Client ≤ 3) (by omega)]; rfl
theorem spec_EntryValid_f (e : impl_Entry) : spec_EntryValid e = some (entryOk e, ()) := by
  rw [spec_EntryValid_eq]
  simp only [spec_l1In_f, spec_CommandValid_f, Option.bind_some, some_cond, and_cond]
  unfold entryOk
  rw [Bool.and_assoc]
def entriesOk (l : List impl_Entry) : Bool := decide (l.length ≤ 24) && l.all entryOk
theorem impl_entriesValid_l (xs : List impl_Entry) (hx : xs.length ≤ 24) : ∀ (ys : List impl_Entry) (i : Int), 0 ≤ i → i ≤ xs.length → xs.drop i.toNat = ys → impl_entriesValid_4 xs (xs.length : Int) i = some (ys.all entryOk, ())
  | [], i, h0, h1, hd => by
    have := drop_nil h0 h1 hd
    rw [impl_entriesValid_4_eq, cond_dec, if_neg (by omega)]; rfl
  | y :: ys, i, h0, h1, hd => by
    obtain ⟨hr, hl, hd'⟩ := rd_drop (d := z_impl_Entry) h0 hd
    rw [impl_entriesValid_4_eq]
    simp only [cond_dec, if_pos hl, if_pos h0, hr, w64 (n := i + 1) (by omega) (by omega), impl_EntryValid_f, Option.bind_some, impl_entriesValid_l xs hx ys (i + 1) (by omega) (by omega) hd', List.all_cons]
    cases entryOk y <;> rfl
theorem impl_entriesValid_f (xs : List impl_Entry) : impl_entriesValid xs = some (entriesOk xs, ()) := by
  rw [impl_entriesValid_eq, cond_dec]
  unfold entriesOk
  by_cases h : 24 < (xs.length : Int)
  · rw [if_pos h, decide_eq_false (by omega)]; rfl
  · rw [if_neg h, decide_eq_true (by omega), impl_entriesValid_l xs (by omega) xs 0 (by omega) (by omega) rfl]; rfl
theorem spec_l10Log_l (xs : List impl_Entry) (hx : xs.length ≤ 1000000000000) : ∀ (ys : List impl_Entry) (i : Int), 0 ≤ i → i ≤ xs.length → i ≤ 24 → xs.drop i.toNat = ys → spec_l10Log_2 xs i = some (decide (xs.length ≤ 24) && ys.all entryOk, ())
  | [], i, h0, h1, h24, hd => by
    have := drop_nil h0 h1 hd
    rw [spec_l10Log_2_eq, cond_dec, if_neg (by omega), decide_eq_true (by omega)]; rfl
  | y :: ys, i, h0, h1, h24, hd => by
    obtain ⟨hr, hl, hd'⟩ := rd_drop (d := z_impl_Entry) h0 hd
    rw [spec_l10Log_2_eq]
    simp only [cond_dec, if_pos hl, if_pos h0, hr]
    by_cases h : 24 ≤ i
    · rw [if_pos h, decide_eq_false (by omega)]; rfl
    · rw [if_neg h, w64 (n := i + 1) (by omega) (by omega), spec_EntryValid_f, Option.bind_some, spec_l10Log_l xs hx ys (i + 1) (by omega) (by omega) (by omega) hd', List.all_cons]
      cases entryOk y <;> simp
theorem spec_l10Log_f (xs : List impl_Entry) (hx : xs.length ≤ 1000000000000) : spec_l10Log xs = some (entriesOk xs, ()) := by
  rw [spec_l10Log_eq, spec_l10Log_l xs hx xs 0 (by omega) (by omega) (by omega) rfl]; rfl
/-! ### States -/
def inIv (v : impl_Interval) (k : ByteArray) : Bool := !sLt k v.Low && (decide (v.High = es) || sLt k v.High)
theorem impl_inside_f (v : impl_Interval) (k : ByteArray) : impl_inside v k = some (inIv v k, ()) := by
  rw [impl_inside_eq, sLe_not, sEq_dec]
  unfold inIv
  cases sLt k v.Low <;> by_cases h : v.High = es <;> simp [h]
theorem spec_IntervalHas_f (v : impl_Interval) (k : ByteArray) : spec_IntervalHas v k = some (ivOk v && keyOk k && inIv v k, ()) := by
  rw [spec_IntervalHas_eq, spec_IntervalValid_f, Option.bind_some, spec_KeyValid_f, Option.bind_some, sEq_dec]
  unfold inIv
  cases ivOk v <;> cases keyOk k <;> cases sLt k v.Low <;> by_cases h : v.High = es <;> simp [h]
theorem cutR_ok (v : impl_Interval) (k : ByteArray) : (cutR v k).2.2.1 = cutOk v k := by
  unfold cutR
  by_cases h : cutOk v k = true
  · rw [if_pos h, h]
  · rw [if_neg h]; simp only [Bool.not_eq_true] at h; rw [h]
def stateOk (s : impl_State) : Bool := ivOk s.Span && pairsOk s.Pairs && sessOk s.Known && s.Pairs.all (fun p => inIv s.Span p.Key) && (decide (s.Cut = es) || (s.Sealed && cutOk s.Span s.Cut))
theorem pairsFrom_key : ∀ (l : List impl_Pair) (p : Option ByteArray), pairsFrom p l = true → ∀ y ∈ l, keyOk y.Key = true ∧ 0 ≤ y.Value ∧ y.Value ≤ 999
  | [], _, _, y, h => by cases h
  | x :: l, p, hp, y, hy => by
    simp only [pairsFrom, pairItem, Bool.and_eq_true, decide_eq_true_eq] at hp
    rcases List.mem_cons.1 hy with rfl | hy
    · exact hp.1.1
    · exact pairsFrom_key l _ hp.2 y hy
theorem pairsOk_key {l : List impl_Pair} (h : pairsOk l = true) : ∀ y ∈ l, keyOk y.Key = true ∧ 0 ≤ y.Value ∧ y.Value ≤ 999 := by
  simp only [pairsOk, Bool.and_eq_true] at h
  exact pairsFrom_key l none h.2
theorem impl_StateValid_l (s : impl_State) (hx : s.Pairs.length ≤ 48) : ∀ (ys : List impl_Pair) (i : Int), 0 ≤ i → i ≤ s.Pairs.length → s.Pairs.drop i.toNat = ys → impl_StateValid_4 s.Pairs (s.Pairs.length : Int) i s = some (ys.all (fun p => inIv s.Span p.Key) && (decide (s.Cut = es) || (s.Sealed && cutOk s.Span s.Cut)), ())
  | [], i, h0, h1, hd => by
    have := drop_nil h0 h1 hd
    rw [impl_StateValid_4_eq, cond_dec, if_neg (by omega), sEq_dec, impl_IntervalCut_f, Option.bind_some, cutR_ok]
    by_cases h : s.Cut = es <;> cases s.Sealed <;> simp [h]
  | y :: ys, i, h0, h1, hd => by
    obtain ⟨hr, hl, hd'⟩ := rd_drop (d := z_impl_Pair) h0 hd
    rw [impl_StateValid_4_eq]
    simp only [cond_dec, if_pos hl, if_pos h0, hr, w64 (n := i + 1) (by omega) (by omega), impl_inside_f, Option.bind_some, impl_StateValid_l s hx ys (i + 1) (by omega) (by omega) hd', List.all_cons]
    cases inIv s.Span y.Key <;> simp
theorem impl_StateValid_f (s : impl_State) (hk : s.Known.length ≤ 1000000000000) : impl_StateValid s = some (stateOk s, ()) := by
  rw [impl_StateValid_eq, impl_IntervalValid_f, Option.bind_some, impl_PairsValid_f, Option.bind_some, impl_SessionsValid_f _ hk, Option.bind_some]
  unfold stateOk
  cases h1 : ivOk s.Span with
  | false => rfl
  | true =>
    cases h2 : pairsOk s.Pairs with
    | false => rfl
    | true =>
      cases h3 : sessOk s.Known with
      | false => rfl
      | true =>
        have := pairsOk_le h2
        simp only [Bool.not_true, cond_false, Bool.true_and]
        exact impl_StateValid_l s this s.Pairs 0 (by omega) (by omega) rfl
theorem spec_StateValid_l (s : impl_State) (h1' : ivOk s.Span = true) (h2' : ∀ y ∈ s.Pairs, keyOk y.Key = true) (hx : s.Pairs.length ≤ 48) : ∀ (ys : List impl_Pair) (i : Int), 0 ≤ i → i ≤ s.Pairs.length → s.Pairs.drop i.toNat = ys → spec_StateValid_4 i s = some (ys.all (fun p => inIv s.Span p.Key) && (decide (s.Cut = es) || (s.Sealed && cutOk s.Span s.Cut)), ())
  | [], i, h0, h1, hd => by
    have := drop_nil h0 h1 hd
    rw [spec_StateValid_4_eq, cond_dec, if_neg (by omega), sEq_dec, spec_IntervalCut_f, Option.bind_some, cutR_ok]
    by_cases h : s.Cut = es <;> cases s.Sealed <;> simp [h]
  | y :: ys, i, h0, h1, hd => by
    obtain ⟨hr, hl, hd'⟩ := rd_drop (d := z_impl_Pair) h0 hd
    have hm : y ∈ s.Pairs := by rw [← hr]; exact rd_mem h0 hl
    rw [spec_StateValid_4_eq]
    simp only [cond_dec, if_pos hl, if_pos h0, hr, w64 (n := i + 1) (by omega) (by omega), spec_IntervalHas_f, h1', h2' y hm, Bool.true_and, Option.bind_some, spec_StateValid_l s h1' h2' hx ys (i + 1) (by omega) (by omega) hd', List.all_cons]
    cases inIv s.Span y.Key <;> simp
theorem spec_StateValid_f (s : impl_State) (hk : s.Known.length ≤ 1000000000000) : spec_StateValid s = some (stateOk s, ()) := by
  rw [spec_StateValid_eq, spec_IntervalValid_f, Option.bind_some, spec_PairsValid_f, Option.bind_some, spec_SessionsValid_f _ hk, Option.bind_some]
  unfold stateOk
  cases h1 : ivOk s.Span with
  | false => rfl
  | true =>
    cases h2 : pairsOk s.Pairs with
    | false => rfl
    | true =>
      cases h3 : sessOk s.Known with
      | false => rfl
      | true =>
        have := pairsOk_le h2
        simp only [Bool.not_true, cond_false, Bool.true_and]
        exact spec_StateValid_l s h1 (fun y hy => (pairsOk_key h2 y hy).1) this s.Pairs 0 (by omega) (by omega) rfl
theorem impl_copyOf_Pair_f (l : List impl_Pair) (h : l.length ≤ 1000000000) : impl_copyOf_Pair l = some (l, ()) := by
  rw [impl_copyOf_Pair_eq, ble_row (by omega) (by omega)]; rfl
theorem impl_copyState_f (s : impl_State) (h1 : s.Pairs.length ≤ 1000000000) (h2 : s.Known.length ≤ 1000000000) : impl_copyState s = some (s, ()) := by
  rw [impl_copyState_eq, impl_copyOf_Pair_f _ h1, Option.bind_some, impl_copyOf_Session_f _ h2]; rfl
theorem spec_l10Copy_f (s : impl_State) (h1 : s.Pairs.length ≤ 1000000000) (h2 : s.Known.length ≤ 1000000000) : spec_l10Copy s = some (s, ()) := by
  rw [spec_l10Copy_eq, ble_row (by simp; omega) (by omega), cond_true, ble_row (by simp; omega) (by omega)]; rfl
theorem stateOk_len {s : impl_State} (h : stateOk s = true) : s.Pairs.length ≤ 48 ∧ s.Known.length ≤ 4 := by
  simp only [stateOk, Bool.and_eq_true] at h
  exact ⟨pairsOk_le h.1.1.1.2, sessOk_len h.1.1.2⟩
end Go.Proofs.YtlffjoabajdfnaaGreat.Ev
