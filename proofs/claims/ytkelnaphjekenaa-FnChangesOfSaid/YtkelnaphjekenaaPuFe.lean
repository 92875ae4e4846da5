/- Feeds: which are valid, what they do to pairs, and what a log's feed is. No condition. -/
import Derived.Test.YtkelnaphjekenaaPuRe
import Derived.Test.YtkelnaphjekenaaPuPi
set_option linter.unusedVariables false
set_option linter.unusedSimpArgs false
namespace Go.Proofs.Ytkelnaphjekenaa.Ev
open Go.Proofs.Ytkelnaphjekenaa.Eng
open Go.RowKit (wrap64)

/-- A change alone is valid. -/
def feedItem (y : impl_Change) : Bool := decide (0 ≤ y.Index ∧ y.Index ≤ 23 ∧ -1 ≤ y.Old ∧ y.Old ≤ 999 ∧ -1 ≤ y.Next ∧ y.Next ≤ 999 ∧ ¬ y.Old = y.Next) && keyOk y.Key
/-- Changes are valid, and ascend from an index on. -/
def feedFrom : Int → List impl_Change → Bool
  | _, [] => true
  | p, y :: ys => feedItem y && decide (p < y.Index) && feedFrom y.Index ys
def feedOk (l : List impl_Change) : Bool := decide (l.length ≤ 24) && feedFrom (-1) l
theorem some_false {b : Bool} (h : b = true → False) : some (false, ()) = some (b, ()) := by
  cases b with
  | false => rfl
  | true => exact (h rfl).elim
theorem impl_FeedValid_l (xs : List impl_Change) (hx : xs.length ≤ 24) : ∀ (ys : List impl_Change) (i p : Int), 0 ≤ i → i ≤ xs.length → xs.drop i.toNat = ys → (i = 0 → p = -1) → (0 < i → p = (rdAt xs (Int.toNat (i - 1)) z_impl_Change).Index) → impl_FeedValid_4 xs xs (xs.length : Int) i = some (feedFrom p ys, ())
  | [], i, p, h0, h1, hd, hp0, hp1 => by
    have := drop_nil h0 h1 hd
    rw [impl_FeedValid_4_eq, cond_dec, if_neg (by omega)]; rfl
  | y :: ys, i, p, h0, h1, hd, hp0, hp1 => by
    obtain ⟨hr, hl, hd'⟩ := rd_drop (d := z_impl_Change) h0 hd
    have hnext := impl_FeedValid_l xs hx ys (i + 1) y.Index (by omega) (by omega) hd' (fun h => by omega) (fun _ => by rw [show i + 1 - 1 = i by omega, hr])
    have last : feedItem y = true → impl_FeedValid_10 xs i xs (xs.length : Int) i y = some (feedFrom p (y :: ys), ()) := by
      intro hi
      rw [impl_FeedValid_10_eq]
      simp only [cond_dec, w64 (n := i - 1) (by omega) (by omega), w64 (n := i + 1) (by omega) (by omega), hnext, feedFrom, hi, Bool.true_and]
      by_cases c5 : 0 < i
      · rw [if_pos c5, if_pos (by omega), if_pos (by omega), ← hp1 c5]
        by_cases c6 : y.Index ≤ p
        · rw [if_pos c6, decide_eq_false (by omega)]; rfl
        · rw [if_neg c6, decide_eq_true (by omega)]; rfl
      · have := hp0 (by omega)
        have h3 : 0 ≤ y.Index := by simp only [feedItem, Bool.and_eq_true, decide_eq_true_eq] at hi; omega
        rw [if_neg c5, decide_eq_true (by omega)]; rfl
    rw [impl_FeedValid_4_eq]
    simp only [cond_dec, if_pos hl, if_pos h0, hr, impl_KeyValid_f, Option.bind_some, impl_valueValid_f]
    by_cases c1 : y.Index < 0
    · rw [if_pos c1]; exact some_false (fun e => by simp only [feedFrom, feedItem, Bool.and_eq_true, decide_eq_true_eq] at e; omega)
    · rw [if_neg c1]
      by_cases c2 : 24 ≤ y.Index
      · rw [if_pos c2]; exact some_false (fun e => by simp only [feedFrom, feedItem, Bool.and_eq_true, decide_eq_true_eq] at e; omega)
      · rw [if_neg c2]
        cases c3 : keyOk y.Key with
        | false => exact some_false (fun e => by simp only [feedFrom, feedItem, Bool.and_eq_true, decide_eq_true_eq] at e; rw [c3] at e; exact absurd e.1.1.2 (by simp))
        | true =>
          rw [Bool.not_true, cond_false]
          by_cases c4 : y.Old = y.Next
          · rw [if_pos c4]; exact some_false (fun e => by simp only [feedFrom, feedItem, Bool.and_eq_true, decide_eq_true_eq] at e; omega)
          · rw [if_neg c4]
            have no : ¬ (-1 ≤ y.Old ∧ y.Old ≤ 999 ∧ -1 ≤ y.Next ∧ y.Next ≤ 999) → some (false, ()) = some (feedFrom p (y :: ys), ()) := fun h => some_false (fun e => by simp only [feedFrom, feedItem, Bool.and_eq_true, decide_eq_true_eq] at e; omega)
            have yes : (-1 ≤ y.Old ∧ y.Old ≤ 999 ∧ -1 ≤ y.Next ∧ y.Next ≤ 999) → feedItem y = true := fun h => by
              unfold feedItem; rw [c3, decide_eq_true (by omega)]; rfl
            by_cases d1 : y.Old = -1
            · rw [decide_eq_true d1, Bool.not_true, cond_false]
              by_cases d2 : y.Next = -1
              · omega
              · rw [decide_eq_false d2, Bool.not_false, cond_true]
                by_cases d3 : 0 ≤ y.Next ∧ y.Next ≤ 999
                · rw [decide_eq_true d3, Bool.not_true, cond_false]; exact last (yes (by omega))
                · rw [decide_eq_false d3, Bool.not_false, cond_true]; exact no (by omega)
            · rw [decide_eq_false d1, Bool.not_false, cond_true]
              by_cases d3 : 0 ≤ y.Old ∧ y.Old ≤ 999
              · rw [decide_eq_true d3, Bool.not_true, cond_false]
                by_cases d2 : y.Next = -1
                · rw [decide_eq_true d2, Bool.not_true, cond_false]; exact last (yes (by omega))
                · rw [decide_eq_false d2, Bool.not_false, cond_true]
                  by_cases d4 : 0 ≤ y.Next ∧ y.Next ≤ 999
                  · rw [decide_eq_true d4, Bool.not_true, cond_false]; exact last (yes (by omega))
                  · rw [decide_eq_false d4, Bool.not_false, cond_true]; exact no (by omega)
              · rw [decide_eq_false d3, Bool.not_false, cond_true]; exact no (by omega)
theorem impl_FeedValid_f (xs : List impl_Change) : impl_FeedValid xs = some (feedOk xs, ()) := by
  rw [impl_FeedValid_eq, cond_dec]
  unfold feedOk
  by_cases h : 24 < (xs.length : Int)
  · rw [if_pos h, decide_eq_false (by omega)]; rfl
  · rw [if_neg h, decide_eq_true (by omega), impl_FeedValid_l xs (by omega) xs 0 (-1) (by omega) (by omega) rfl (fun _ => rfl) (fun h => by omega)]; rfl

/-! ### A feed applied -/
/-- The pairs after one change. -/
def stepC (l : List impl_Pair) (c : impl_Change) : List impl_Pair × Bool := if c.Next = -1 then pairDrop l c.Key else pairPut l c.Key c.Next
def applyFrom : List impl_Pair → List impl_Change → List impl_Pair × Bool
  | l, [] => (l, true)
  | l, c :: cs => if pairGet l c.Key = c.Old then (if (stepC l c).2 = true then applyFrom (stepC l c).1 cs else ([], false)) else ([], false)
def applyFeed (l : List impl_Pair) (cs : List impl_Change) : List impl_Pair × Bool := if pairsOk l = true ∧ feedOk cs = true then applyFrom l cs else ([], false)
theorem impl_ApplyFeed_l (xs : List impl_Change) (hx : xs.length ≤ 24) : ∀ (ys : List impl_Change) (i : Int) (l : List impl_Pair), 0 ≤ i → i ≤ xs.length → xs.drop i.toNat = ys → impl_ApplyFeed_5 xs (xs.length : Int) i l = some (((applyFrom l ys).1, ((applyFrom l ys).2, ())), ())
  | [], i, l, h0, h1, hd => by
    have := drop_nil h0 h1 hd
    rw [impl_ApplyFeed_5_eq, cond_dec, if_neg (by omega)]; rfl
  | y :: ys, i, l, h0, h1, hd => by
    obtain ⟨hr, hl, hd'⟩ := rd_drop (d := z_impl_Change) h0 hd
    have ih := fun l => impl_ApplyFeed_l xs hx ys (i + 1) l (by omega) (by omega) hd'
    rw [impl_ApplyFeed_5_eq]
    simp only [cond_dec, if_pos hl, if_pos h0, hr, impl_PairGet_f, impl_PairDrop_f, impl_PairPut_f, Option.bind_some, w64 (n := i + 1) (by omega) (by omega), ih, applyFrom]
    by_cases e1 : pairGet l y.Key = y.Old
    · rw [decide_eq_true e1, Bool.not_true, cond_false, if_pos e1]
      unfold stepC
      by_cases e2 : y.Next = -1
      · simp only [if_pos e2]
        cases (pairDrop l y.Key).2 <;> simp
      · simp only [if_neg e2]
        cases (pairPut l y.Key y.Next).2 <;> simp
    · rw [decide_eq_false e1, Bool.not_false, cond_true, if_neg e1]
theorem feedOk_len {l : List impl_Change} (h : feedOk l = true) : l.length ≤ 24 := by
  simp only [feedOk, Bool.and_eq_true, decide_eq_true_eq] at h; exact h.1
theorem impl_ApplyFeed_f (l : List impl_Pair) (cs : List impl_Change) : impl_ApplyFeed l cs = some (((applyFeed l cs).1, ((applyFeed l cs).2, ())), ()) := by
  rw [impl_ApplyFeed_eq, impl_PairsValid_f, Option.bind_some, impl_FeedValid_f, Option.bind_some]
  unfold applyFeed
  cases h1 : pairsOk l with
  | false => simp
  | true =>
    have := pairsOk_le h1
    cases h2 : feedOk cs with
    | false => simp
    | true =>
      have := feedOk_len h2
      simp only [Bool.not_true, cond_false, impl_copyOf_Pair_f l (by omega), Option.bind_some, and_self, if_true]
      rw [impl_ApplyFeed_l cs this cs 0 l (by omega) (by omega) rfl]

/-! ### A log's feed -/
def chOne (s : impl_State) (i : Int) (e : impl_Entry) : List impl_Change :=
  if pairGet s.Pairs e.Cmd.Key = pairGet (applyE s e).1.Pairs e.Cmd.Key then [] else [⟨i, e.Cmd.Key, pairGet s.Pairs e.Cmd.Key, pairGet (applyE s e).1.Pairs e.Cmd.Key⟩]
def chFrom : impl_State → Int → List impl_Entry → List impl_Change
  | _, _, [] => []
  | s, i, e :: l => chOne s i e ++ chFrom (applyE s e).1 (i + 1) l
def chR (s : impl_State) (l : List impl_Entry) : List impl_Change := if stateOk s = true ∧ entriesOk l = true then chFrom s 0 l else []
theorem chOne_len (s : impl_State) (i : Int) (e : impl_Entry) : (chOne s i e).length ≤ 1 := by unfold chOne; split <;> simp
theorem impl_ChangesOf_l (xs : List impl_Entry) (hx : xs.length ≤ 24) : ∀ (ys : List impl_Entry) (i : Int) (out : List impl_Change) (s1 : impl_State) (p : List impl_Pair) (k : List impl_Session), 0 ≤ i → i ≤ xs.length → xs.drop i.toNat = ys → out.length ≤ i.toNat → k.length ≤ 1000 →
    impl_ChangesOf_6 xs (xs.length : Int) i out s1 p k = some (out ++ chFrom (impl_State.mk s1.Span p k s1.Sealed s1.Cut) i ys, ())
  | [], i, out, s1, p, k, h0, h1, hd, ho, hk => by
    have := drop_nil h0 h1 hd
    rw [impl_ChangesOf_6_eq, cond_dec, if_neg (by omega)]; simp [chFrom]
  | y :: ys, i, out, s1, p, k, h0, h1, hd, ho, hk => by
    obtain ⟨hr, hl, hd'⟩ := rd_drop (d := z_impl_Entry) h0 hd
    have hln := applyE_len (impl_State.mk s1.Span p k s1.Sealed s1.Cut) y
    have ih := fun (out : List impl_Change) (h : out.length ≤ (i + 1).toNat) => impl_ChangesOf_l xs hx ys (i + 1) out (impl_State.mk (applyE (impl_State.mk s1.Span p k s1.Sealed s1.Cut) y).1.Span [] [] (applyE (impl_State.mk s1.Span p k s1.Sealed s1.Cut) y).1.Sealed (applyE (impl_State.mk s1.Span p k s1.Sealed s1.Cut) y).1.Cut) (applyE (impl_State.mk s1.Span p k s1.Sealed s1.Cut) y).1.Pairs (applyE (impl_State.mk s1.Span p k s1.Sealed s1.Cut) y).1.Known (by omega) (by omega) hd' h (Nat.le_trans hln.2 (by omega))
    rw [impl_ChangesOf_6_eq]
    simp only [cond_dec, if_pos hl, if_pos h0, hr, w64 (n := i + 1) (by omega) (by omega), impl_PairGet_f, Option.bind_some, impl_ApplyEntry_f _ _ (show (impl_State.mk s1.Span p k s1.Sealed s1.Cut).Known.length ≤ 1000000000000 by show k.length ≤ _; omega)]
    rw [ble_row (by simp; omega) (by omega), cond_true]
    simp only [chFrom, chOne]
    by_cases e : pairGet p y.Cmd.Key = pairGet (applyE (impl_State.mk s1.Span p k s1.Sealed s1.Cut) y).1.Pairs y.Cmd.Key
    · rw [decide_eq_true e, Bool.not_true, cond_false, if_pos e, ih out (by omega)]; rfl
    · rw [decide_eq_false e, Bool.not_false, cond_true, if_neg e, ih _ (by simp; omega), List.append_assoc]
theorem impl_ChangesOf_f (s : impl_State) (l : List impl_Entry) (hk : s.Known.length ≤ 1000000000000) : impl_ChangesOf s l = some (chR s l, ()) := by
  rw [impl_ChangesOf_eq, impl_StateValid_f s hk, Option.bind_some, impl_entriesValid_f, Option.bind_some]
  unfold chR
  cases h1 : stateOk s with
  | false => simp
  | true =>
    have hl := stateOk_len h1
    cases h2 : entriesOk l with
    | false => simp
    | true =>
      have := entriesOk_len h2
      simp only [Bool.not_true, cond_false, impl_copyState_f s (by omega) (by omega), Option.bind_some, and_self, if_true]
      rw [impl_ChangesOf_l l this l 0 [] _ _ _ (by omega) (by omega) rfl (by simp) (by omega)]; rfl
theorem spec_ChangesOf_l (xs : List impl_Entry) (hx : xs.length ≤ 24) : ∀ (ys : List impl_Entry) (i : Int) (out : List impl_Change) (s1 : impl_State) (p : List impl_Pair) (k : List impl_Session), 0 ≤ i → i ≤ xs.length → xs.drop i.toNat = ys → out.length ≤ i.toNat → k.length ≤ 1000 → p.length ≤ 1000 →
    spec_ChangesOf_6 xs i out s1 p k = some (out ++ chFrom (impl_State.mk s1.Span p k s1.Sealed s1.Cut) i ys, ())
  | [], i, out, s1, p, k, h0, h1, hd, ho, hk, hp => by
    have := drop_nil h0 h1 hd
    rw [spec_ChangesOf_6_eq, cond_dec, if_neg (by omega)]; simp [chFrom]
  | y :: ys, i, out, s1, p, k, h0, h1, hd, ho, hk, hp => by
    obtain ⟨hr, hl, hd'⟩ := rd_drop (d := z_impl_Entry) h0 hd
    have hln := applyE_len (impl_State.mk s1.Span p k s1.Sealed s1.Cut) y
    have ih := fun (out : List impl_Change) (h : out.length ≤ (i + 1).toNat) => spec_ChangesOf_l xs hx ys (i + 1) out (impl_State.mk (applyE (impl_State.mk s1.Span p k s1.Sealed s1.Cut) y).1.Span [] [] (applyE (impl_State.mk s1.Span p k s1.Sealed s1.Cut) y).1.Sealed (applyE (impl_State.mk s1.Span p k s1.Sealed s1.Cut) y).1.Cut) (applyE (impl_State.mk s1.Span p k s1.Sealed s1.Cut) y).1.Pairs (applyE (impl_State.mk s1.Span p k s1.Sealed s1.Cut) y).1.Known (by omega) (by omega) hd' h (Nat.le_trans hln.2 (by omega)) (Nat.le_trans hln.1 (by omega))
    rw [spec_ChangesOf_6_eq]
    simp only [cond_dec, if_pos hl, if_pos h0, hr, w64 (n := i + 1) (by omega) (by omega), spec_PairGet_f p _ (show p.length ≤ 1000000000000 by omega), Option.bind_some, spec_ApplyEntry_f _ _ (show (impl_State.mk s1.Span p k s1.Sealed s1.Cut).Known.length ≤ 1000000000000 by show k.length ≤ _; omega),
      spec_PairGet_f (applyE (impl_State.mk s1.Span p k s1.Sealed s1.Cut) y).1.Pairs _ (show _ ≤ 1000000000000 by omega)]
    rw [ble_row (by simp; omega) (by omega), cond_true]
    simp only [chFrom, chOne]
    by_cases e : pairGet p y.Cmd.Key = pairGet (applyE (impl_State.mk s1.Span p k s1.Sealed s1.Cut) y).1.Pairs y.Cmd.Key
    · rw [decide_eq_true e, Bool.not_true, cond_false, if_pos e, ih out (by omega)]; rfl
    · rw [decide_eq_false e, Bool.not_false, cond_true, if_neg e, ih _ (by simp; omega), List.append_assoc]
theorem spec_ChangesOf_f (s : impl_State) (l : List impl_Entry) (hk : s.Known.length ≤ 1000000000000) (hl' : l.length ≤ 1000000000000) : spec_ChangesOf s l = some (chR s l, ()) := by
  rw [spec_ChangesOf_eq, spec_StateValid_f s hk, Option.bind_some, spec_l10Log_f l hl', Option.bind_some]
  unfold chR
  cases h1 : stateOk s with
  | false => simp
  | true =>
    have hl := stateOk_len h1
    cases h2 : entriesOk l with
    | false => simp
    | true =>
      have := entriesOk_len h2
      simp only [Bool.not_true, cond_false, spec_l10Copy_f s (by omega) (by omega), Option.bind_some, and_self, if_true]
      rw [spec_ChangesOf_l l this l 0 [] _ _ _ (by omega) (by omega) rfl (by simp) (by omega) (by omega)]; rfl

/-! ### What a valid entry does to a valid state -/
theorem pairGet_range {l : List impl_Pair} (k : ByteArray) : -1 ≤ pairGet l k ∧ pairGet l k ≤ 999 := by
  unfold pairGet
  cases h1 : pairsOk l with
  | false => simp
  | true =>
    cases h : hit k l with
    | false => simp
    | true =>
      have := (pairsOk_key h1 _ (rd_mem (d := z_impl_Pair) (xs := l) (i := (place k l : Int)) (by omega) (by have := hit_lt h; omega))).2
      simp only [if_true]
      omega
/-- The pairs after a command are those of before, changed at the command's key alone. -/
theorem put_same {l : List impl_Pair} {k : ByteArray} (hl : pairsOk l = true) (hk : keyOk k = true) (hv : pairGet l k ≠ -1) : pairPut l k (pairGet l k) = (l, true) := by
  rcases pairs_split k l ((pairsOk_iff _).1 hl).2.2 with ⟨A, B, v, rfl, h1, h2⟩ | ⟨A, B, rfl, h1, h2⟩
  · have hv := (pairItem_of hl).2
    rw [pairGet_hit hl h1 h2, pairPut_hit hl hk hv h1 h2]
  · exact absurd (pairGet_no h1 h2) hv
theorem put_get {l : List impl_Pair} {k : ByteArray} {v : Int} (hl : pairsOk l = true) (hk : keyOk k = true) (hv : 0 ≤ v ∧ v ≤ 999) (hr : pairGet l k ≠ -1 ∨ l.length < 48) : (pairPut l k v).2 = true ∧ pairsOk (pairPut l k v).1 = true ∧ pairGet (pairPut l k v).1 k = v ∧ ∀ y ∈ (pairPut l k v).1, y.Key = k ∨ y ∈ l := by
  rcases pairs_split k l ((pairsOk_iff _).1 hl).2.2 with ⟨A, B, u, rfl, h1, h2⟩ | ⟨A, B, rfl, h1, h2⟩
  · have hs := pairsOk_set (u := v) hl hv h1 h2
    rw [pairPut_hit hl hk hv h1 h2]
    refine ⟨rfl, hs, pairGet_hit hs h1 h2, fun y hy => ?_⟩
    rcases List.mem_append.1 hy with hy | hy
    · exact .inr (List.mem_append_left _ hy)
    · rcases List.mem_cons.1 hy with rfl | hy
      · exact .inl rfl
      · exact .inr (List.mem_append_right _ (List.mem_cons_of_mem _ hy))
  · have hlt : (A ++ B).length < 48 := hr.resolve_left (fun h => h (pairGet_no h1 h2))
    have hs := pairsOk_ins hl hk hv h1 h2 hlt
    rw [pairPut_no hl hk hv h1 h2, if_neg (by omega)]
    refine ⟨rfl, hs, pairGet_hit hs h1 h2, fun y hy => ?_⟩
    rcases List.mem_append.1 hy with hy | hy
    · exact .inr (List.mem_append_left _ hy)
    · rcases List.mem_cons.1 hy with rfl | hy
      · exact .inl rfl
      · exact .inr (List.mem_append_right _ hy)
theorem drop_get {l : List impl_Pair} {k : ByteArray} (hl : pairsOk l = true) : pairsOk (pairDrop l k).1 = true ∧ pairGet (pairDrop l k).1 k = -1 ∧ (∀ y ∈ (pairDrop l k).1, y ∈ l) ∧ (pairGet l k ≠ -1 → (pairDrop l k).2 = true) ∧ (pairGet l k = -1 → (pairDrop l k).1 = l) := by
  rcases pairs_split k l ((pairsOk_iff _).1 hl).2.2 with ⟨A, B, u, rfl, h1, h2⟩ | ⟨A, B, rfl, h1, h2⟩
  · have hv := (pairItem_of hl).2
    rw [pairDrop_hit hl h1 h2]
    refine ⟨pairsOk_del hl, pairGet_no h1 h2, fun y hy => ?_, fun _ => rfl, fun h => ?_⟩
    · rcases List.mem_append.1 hy with hy | hy
      · exact List.mem_append_left _ hy
      · exact List.mem_append_right _ (List.mem_cons_of_mem _ hy)
    · rw [pairGet_hit hl h1 h2] at h; omega
  · rw [pairDrop_no hl h1 h2]
    exact ⟨hl, pairGet_no h1 h2, fun y hy => hy, fun h => absurd (pairGet_no h1 h2) h, fun _ => rfl⟩
/-- A command on valid pairs: valid pairs, within the same keys or the command's; and the change of its key's value is what happened. -/
structure Did (l l' : List impl_Pair) (k : ByteArray) (r : Int) : Prop where
  ok : pairsOk l' = true
  mem : ∀ y ∈ l', y.Key = k ∨ y ∈ l
  same : pairGet l k = pairGet l' k → l' = l
  diff : pairGet l k ≠ pairGet l' k → (if pairGet l' k = -1 then pairDrop l k else pairPut l k (pairGet l' k)) = (l', true)
  reply : -2 ≤ r ∧ r ≤ 999
theorem did_none {l : List impl_Pair} {k : ByteArray} {r : Int} (hl : pairsOk l = true) (hr : -2 ≤ r ∧ r ≤ 999) : Did l l k r := ⟨hl, fun _ h => .inr h, fun _ => rfl, fun h => absurd rfl h, hr⟩
theorem applyC_did {l : List impl_Pair} {c : impl_Command} (hl : pairsOk l = true) (hc : cmdOk c = true) (h5 : c.Kind ≠ 5) : Did l (applyC l c).1 c.Key (applyC l c).2 := by
  have hk := cmdOk_key hc h5
  have hg := pairGet_range (l := l) c.Key
  have h48 := pairsOk_le hl
  unfold applyC
  rw [if_pos ⟨hl, hc, h5⟩]
  by_cases h3 : c.Kind = 3
  · rw [if_pos h3]
    obtain ⟨d1, d2, d3, d4, d5⟩ := drop_get (k := c.Key) hl
    refine ⟨d1, fun y hy => .inr (d3 y hy), fun h => d5 (by rw [h]; exact d2), fun h => ?_, by dsimp only; omega⟩
    rw [d2] at h
    rw [if_pos d2]
    exact Prod.ext rfl (d4 h)
  · rw [if_neg h3]
    by_cases h1 : c.Kind = 1 ∨ (c.Kind = 4 ∧ c.Old ≠ pairGet l c.Key)
    · rw [if_pos h1]; exact did_none hl (by dsimp only; omega)
    · rw [if_neg h1]
      by_cases h8 : pairGet l c.Key = -1 ∧ 8 ≤ l.length
      · rw [if_pos h8]; exact did_none hl (by dsimp only; omega)
      · rw [if_neg h8]
        have hv : 0 ≤ c.Value ∧ c.Value ≤ 999 := by
          simp only [cmdOk, Bool.and_eq_true, Bool.or_eq_true, decide_eq_true_eq] at hc
          have hk2 := hc.1.1
          have hd := hc.2
          by_cases k2 : c.Kind = 2
          · rw [if_pos k2] at hd; simp only [Bool.and_eq_true, decide_eq_true_eq] at hd; exact hd.1
          · by_cases k4 : c.Kind = 4
            · rw [if_neg k2, if_pos k4] at hd; simp only [Bool.and_eq_true, decide_eq_true_eq] at hd; exact hd.1
            · exfalso
              have : c.Kind ≠ 1 := fun h => h1 (.inl h)
              omega
        have hr : pairGet l c.Key ≠ -1 ∨ l.length < 48 := by
          by_cases g : pairGet l c.Key = -1
          · right
            have : ¬ 8 ≤ l.length := fun h => h8 ⟨g, h⟩
            omega
          · exact .inl g
        obtain ⟨p1, p2, p3, p4⟩ := put_get hl hk hv hr
        refine ⟨p2, p4, fun h => ?_, fun h => ?_, by dsimp only; omega⟩
        · have h : pairGet l c.Key = c.Value := h.trans p3
          show (pairPut l c.Key c.Value).1 = l
          rw [← h, put_same hl hk (by omega)]
        · show (if pairGet (pairPut l c.Key c.Value).1 c.Key = -1 then _ else pairPut l c.Key (pairGet (pairPut l c.Key c.Value).1 c.Key)) = _
          rw [p3, if_neg (by omega)]
          exact Prod.ext rfl p1
theorem sessPut_ok {l : List impl_Session} {s : impl_Session} (hl : sessOk l = true) (hs : sessItem s = true) : sessOk (sessPut l s).1 = true := by
  unfold sessPut
  rw [if_pos ⟨hl, hs⟩]
  have hp := (sessOk_iff l).1 hl
  rcases sess_split s.Client l hp.2 with ⟨A, B, y, rfl, k0, k1, k2⟩ | ⟨A, B, rfl, k1, k2⟩
  · obtain ⟨h1, h2⟩ := shit_app k0 k1 k2
    rw [if_pos h2]
    split
    · exact hl
    · rw [h1]
      have e : (A ++ y :: B).take A.length ++ s :: (A ++ y :: B).drop (A.length + 1) = A ++ s :: B := by simp
      show sessOk ((A ++ y :: B).take A.length ++ s :: (A ++ y :: B).drop (A.length + 1)) = true
      rw [e]
      refine (sessOk_iff _).2 ⟨fun z hz => ?_, ?_⟩
      · rcases List.mem_append.1 hz with hz | hz
        · exact hp.1 z (List.mem_append_left _ hz)
        · rcases List.mem_cons.1 hz with rfl | hz
          · exact hs
          · exact hp.1 z (List.mem_append_right _ (List.mem_cons_of_mem _ hz))
      · have hq := hp.2
        rw [List.pairwise_append, List.pairwise_cons] at hq ⊢
        refine ⟨hq.1, ⟨k2, hq.2.1.2⟩, fun x hx z hz => ?_⟩
        rcases List.mem_cons.1 hz with rfl | hz
        · exact k1 x hx
        · exact hq.2.2 x hx z (List.mem_cons_of_mem _ hz)
  · obtain ⟨h1, h2⟩ := snohit_app k1 k2
    rw [if_neg (by rw [h2]; simp), h1]
    have e : (A ++ B).take A.length ++ s :: (A ++ B).drop A.length = A ++ s :: B := by simp
    show sessOk ((A ++ B).take A.length ++ s :: (A ++ B).drop A.length) = true
    rw [e]
    refine (sessOk_iff _).2 ⟨fun z hz => ?_, ?_⟩
    · rcases List.mem_append.1 hz with hz | hz
      · exact hp.1 z (List.mem_append_left _ hz)
      · rcases List.mem_cons.1 hz with rfl | hz
        · exact hs
        · exact hp.1 z (List.mem_append_right _ hz)
    · have hq := hp.2
      rw [List.pairwise_append] at hq
      rw [List.pairwise_append, List.pairwise_cons]
      refine ⟨hq.1, ⟨k2, hq.2.1⟩, fun x hx z hz => ?_⟩
      rcases List.mem_cons.1 hz with rfl | hz
      · exact k1 x hx
      · exact hq.2.2 x hx z hz
theorem stateOk_iff (s : impl_State) : stateOk s = true ↔ ivOk s.Span = true ∧ pairsOk s.Pairs = true ∧ sessOk s.Known = true ∧ (∀ p ∈ s.Pairs, inIv s.Span p.Key = true) ∧ (s.Cut = es ∨ (s.Sealed = true ∧ cutOk s.Span s.Cut = true)) := by
  simp only [stateOk, Bool.and_eq_true, Bool.or_eq_true, List.all_eq_true, decide_eq_true_eq, and_assoc]
/-- A valid state after a valid entry: valid, and its pairs as one change tells. -/
theorem applyE_did {s : impl_State} {e : impl_Entry} (hs : stateOk s = true) (he : entryOk e = true) : stateOk (applyE s e).1 = true ∧ Did s.Pairs (applyE s e).1.Pairs e.Cmd.Key 0 ∧ (pairGet s.Pairs e.Cmd.Key ≠ pairGet (applyE s e).1.Pairs e.Cmd.Key → keyOk e.Cmd.Key = true) := by
  obtain ⟨h1, h2, h3, h4, h5⟩ := (stateOk_iff s).1 hs
  obtain ⟨e1, e2, e3⟩ := entryOk_says he
  have same : stateOk s = true ∧ Did s.Pairs s.Pairs e.Cmd.Key 0 ∧ (pairGet s.Pairs e.Cmd.Key ≠ pairGet s.Pairs e.Cmd.Key → keyOk e.Cmd.Key = true) := ⟨hs, did_none h2 (by omega), fun h => absurd rfl h⟩
  unfold applyE
  rw [if_pos ⟨hs, he⟩]
  by_cases c1 : (sessOf s.Known e.Client).Seq = e.Seq
  · rw [if_pos c1]; exact same
  · rw [if_neg c1]
    by_cases c2 : e.Seq < (sessOf s.Known e.Client).Seq
    · rw [if_pos c2]; exact same
    · rw [if_neg c2]
      by_cases c3 : s.Sealed = true ∨ takes s e.Cmd = false
      · rw [if_pos c3]; exact same
      · rw [if_neg c3]
        have c4 : s.Sealed = false := by cases h : s.Sealed <;> simp [h] at c3 ⊢
        have c5 : takes s e.Cmd = true := by cases h : takes s e.Cmd <;> simp [h] at c3 ⊢
        unfold applyE1
        by_cases k5 : e.Cmd.Kind = 5
        · rw [if_pos k5]
          unfold takes at c5
          rw [if_pos k5, Bool.or_eq_true, decide_eq_true_eq] at c5
          have hsi : sessItem ⟨e.Client, e.Seq, 0⟩ = true := (sessItem_iff _).2 ⟨e1, e2, by dsimp only; omega⟩
          exact ⟨(stateOk_iff _).2 ⟨h1, h2, sessPut_ok h3 hsi, h4, c5.imp id fun h => ⟨rfl, h⟩⟩, did_none h2 (by omega), fun h => absurd rfl h⟩
        · rw [if_neg k5]
          have d := applyC_did h2 e3 k5
          have hsi : sessItem ⟨e.Client, e.Seq, (applyC s.Pairs e.Cmd).2⟩ = true := (sessItem_iff _).2 ⟨e1, e2, d.reply⟩
          unfold takes at c5
          rw [if_neg k5] at c5
          refine ⟨(stateOk_iff _).2 ⟨h1, d.ok, sessPut_ok h3 hsi, fun p hp => ?_, ?_⟩, ⟨d.ok, d.mem, d.same, d.diff, by omega⟩, fun _ => cmdOk_key e3 k5⟩
          · rcases d.mem p hp with h | h
            · rw [h]; exact c5
            · exact h4 p h
          · rcases h5 with h | h
            · exact .inl h
            · rw [c4] at h; exact absurd h.1 (by simp)
/-- The state after entries. -/
def endOf (s : impl_State) : List impl_Entry → impl_State
  | [] => s
  | e :: l => endOf (applyE s e).1 l
theorem runE_end : ∀ (l : List impl_Entry) (s : impl_State) (out : List Int), (runE l s out).1 = endOf s l
  | [], s, out => rfl
  | e :: l, s, out => by unfold runE endOf; exact runE_end l _ _
theorem endOf_ok : ∀ (l : List impl_Entry) (s : impl_State), stateOk s = true → (∀ e ∈ l, entryOk e = true) → stateOk (endOf s l) = true
  | [], s, hs, h => hs
  | e :: l, s, hs, h => by unfold endOf; exact endOf_ok l _ (applyE_did hs (h e List.mem_cons_self)).1 fun x hx => h x (List.mem_cons_of_mem _ hx)
theorem endOf_app : ∀ (a b : List impl_Entry) (s : impl_State), endOf s (a ++ b) = endOf (endOf s a) b
  | [], b, s => rfl
  | e :: a, b, s => by simp only [List.cons_append, endOf]; exact endOf_app a b _
theorem chFrom_app : ∀ (a b : List impl_Entry) (s : impl_State) (i : Int), chFrom s i (a ++ b) = chFrom s i a ++ chFrom (endOf s a) (i + a.length) b
  | [], b, s, i => by simp [chFrom, endOf]
  | e :: a, b, s, i => by
    simp only [List.cons_append, chFrom, endOf, chFrom_app a b, List.append_assoc, List.length_cons]
    rw [show i + 1 + (a.length : Int) = i + ((a.length + 1 : Nat) : Int) by omega]
def shift (n : Int) (c : impl_Change) : impl_Change := ⟨c.Index + n, c.Key, c.Old, c.Next⟩
theorem chFrom_shift (n : Int) : ∀ (l : List impl_Entry) (s : impl_State) (i : Int), chFrom s (i + n) l = (chFrom s i l).map (shift n)
  | [], s, i => rfl
  | e :: l, s, i => by
    have := chFrom_shift n l (applyE s e).1 (i + 1)
    simp only [chFrom, List.map_append]
    rw [show i + n + 1 = i + 1 + n by omega, this]
    congr 1
    unfold chOne
    split <;> rfl
theorem chFrom_feed : ∀ (l : List impl_Entry) (s : impl_State) (i p : Int), stateOk s = true → (∀ e ∈ l, entryOk e = true) → 0 ≤ i → i + l.length ≤ 24 → p < i → feedFrom p (chFrom s i l) = true ∧ (chFrom s i l).length ≤ l.length
  | [], s, i, p, hs, hl, h0, h1, hp => ⟨rfl, Nat.le_refl _⟩
  | e :: l, s, i, p, hs, hl, h0, h1, hp => by
    obtain ⟨d1, d2, d3⟩ := applyE_did hs (hl e List.mem_cons_self)
    have hl' : ∀ x ∈ l, entryOk x = true := fun x hx => hl x (List.mem_cons_of_mem _ hx)
    have h2 : i + ((l.length + 1 : Nat) : Int) ≤ 24 := h1
    simp only [chFrom, chOne]
    by_cases c : pairGet s.Pairs e.Cmd.Key = pairGet (applyE s e).1.Pairs e.Cmd.Key
    · rw [if_pos c]
      have := chFrom_feed l _ (i + 1) p d1 hl' (by omega) (by omega) (by omega)
      exact ⟨this.1, by simp only [List.nil_append, List.length_cons]; omega⟩
    · rw [if_neg c]
      have := chFrom_feed l _ (i + 1) i d1 hl' (by omega) (by omega) (by omega)
      have g1 := pairGet_range (l := s.Pairs) e.Cmd.Key
      have g2 := pairGet_range (l := (applyE s e).1.Pairs) e.Cmd.Key
      refine ⟨?_, by simp only [List.cons_append, List.nil_append, List.length_cons]; omega⟩
      simp only [List.cons_append, List.nil_append, feedFrom, feedItem, Bool.and_eq_true, decide_eq_true_eq]
      exact ⟨⟨⟨⟨by omega, by omega, by omega, by omega, by omega, by omega, c⟩, d3 c⟩, hp⟩, this.1⟩
theorem chFrom_apply : ∀ (l : List impl_Entry) (s : impl_State) (i : Int), stateOk s = true → (∀ e ∈ l, entryOk e = true) → applyFrom s.Pairs (chFrom s i l) = ((endOf s l).Pairs, true)
  | [], s, i, hs, hl => rfl
  | e :: l, s, i, hs, hl => by
    obtain ⟨d1, d2, d3⟩ := applyE_did hs (hl e List.mem_cons_self)
    have ih := chFrom_apply l (applyE s e).1 (i + 1) d1 fun x hx => hl x (List.mem_cons_of_mem _ hx)
    simp only [chFrom, chOne, endOf]
    by_cases c : pairGet s.Pairs e.Cmd.Key = pairGet (applyE s e).1.Pairs e.Cmd.Key
    · rw [if_pos c, List.nil_append, ← d2.same c]; exact ih
    · rw [if_neg c]
      have hd : stepC s.Pairs ⟨i, e.Cmd.Key, pairGet s.Pairs e.Cmd.Key, pairGet (applyE s e).1.Pairs e.Cmd.Key⟩ = ((applyE s e).1.Pairs, true) := d2.diff c
      simp only [List.cons_append, List.nil_append, applyFrom, if_true, hd]
      exact ih
end Go.Proofs.Ytkelnaphjekenaa.Ev
