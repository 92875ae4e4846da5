/- Keys and intervals: the program's functions and the reference's say the same. No condition. -/
import Derived.Test.YtlffjoabajdfnaaGreatPuA
set_option linter.unusedVariables false
set_option linter.unusedSimpArgs false
namespace Go.Proofs.YtlffjoabajdfnaaGreat.Ev
open Go.Proofs.YtlffjoabajdfnaaGreat.Eng
open Go.RowKit (wrap64)
theorem spec_l1In_f (a lo hi : Int) : spec_l1In a lo hi = some (decide (lo ≤ a ∧ a ≤ hi), ()) := by
  rw [spec_l1In_eq, cond_dec]
  by_cases h : lo ≤ a
  · rw [if_pos h, Bool.decide_and, decide_eq_true h]; rfl
  · rw [if_neg h, Bool.decide_and, decide_eq_false h]; rfl
def letters (l : List Int) : Bool := l.all fun b => decide (97 ≤ b ∧ b ≤ 122)
def keyOk (s : ByteArray) : Bool := decide (1 ≤ s.size ∧ s.size ≤ 4) && letters (bs s)
theorem letters_cons {b : Int} {l : List Int} : letters (b :: l) = (decide (97 ≤ b ∧ b ≤ 122) && letters l) := rfl
theorem impl_lettersOnly_f : ∀ (l : List Int) (s : ByteArray), bs s = l → impl_lettersOnly s = some (letters l, ())
  | [], s, h => by
    rw [impl_lettersOnly_eq, sEq_dec, decide_eq_true ((es_bs s).2 h)]; rfl
  | b :: l, s, h => by
    have hs : s.size = l.length + 1 := by rw [← bs_length, h]; rfl
    have hn : ¬ s = es := by rw [es_bs, h]; simp
    have hd : bs (s.extract 1 s.size) = l := by rw [bs_drop s 1 s.size (Nat.le_refl _), h]; rfl
    have hb : bt s 0 = b := by rw [bt_bs, h]; rfl
    have hr := impl_lettersOnly_f l _ hd
    rw [impl_lettersOnly_eq, sEq_dec, decide_eq_false hn, hb]
    simp only [cond_dec, cond_false, if_pos (show (0 : Int) < (s.size : Int) by omega), if_pos (show (1 : Int) ≤ (s.size : Int) by omega), show Int.toNat (1 : Int) = 1 from rfl, Int.toNat_natCast, hr, Option.bind_some, letters_cons]
    by_cases h1 : 97 ≤ b
    · rw [if_pos h1]
      by_cases h2 : b ≤ 122
      · rw [if_pos h2, decide_eq_true (And.intro h1 h2)]; rfl
      · rw [if_neg h2, decide_eq_false (by omega)]; rfl
    · rw [if_neg h1, decide_eq_false (by omega)]; rfl
theorem impl_KeyValid_f (s : ByteArray) : impl_KeyValid s = some (keyOk s, ()) := by
  rw [impl_KeyValid_eq, impl_lettersOnly_f _ s rfl]
  simp only [cond_dec, Option.bind_some]
  unfold keyOk
  by_cases h1 : (s.size : Int) < 1
  · rw [if_pos h1, decide_eq_false (by omega)]; rfl
  · rw [if_neg h1]
    by_cases h2 : (4 : Int) < (s.size : Int)
    · rw [if_pos h2, decide_eq_false (by omega)]; rfl
    · rw [if_neg h2, decide_eq_true (by omega)]; rfl
theorem spec_KeyValid_l (s : ByteArray) (hs : s.size ≤ 1000) : ∀ (ys : List Int) (i : Int), 0 ≤ i → i ≤ s.size → (bs s).drop i.toNat = ys → spec_KeyValid_4 s i = some (letters ys, ())
  | [], i, h0, h1, hd => by
    have := drop_nil h0 (by rw [bs_length]; exact h1) hd
    rw [bs_length] at this
    rw [spec_KeyValid_4_eq, cond_dec, if_neg (by omega)]; rfl
  | y :: ys, i, h0, h1, hd => by
    obtain ⟨hr, hl, hd'⟩ := rd_drop (d := (0 : Int)) h0 hd
    rw [bs_length] at hl
    have ih := spec_KeyValid_l s hs ys (i + 1) (by omega) (by omega) hd'
    rw [spec_KeyValid_4_eq]
    simp only [cond_dec, if_pos hl, if_pos h0, bt_bs, hr, w64 (n := i + 1) (by omega) (by omega), ih, letters_cons]
    by_cases e1 : y < 97
    · rw [if_pos e1, decide_eq_false (by omega)]; rfl
    · rw [if_neg e1]
      by_cases e2 : 122 < y
      · rw [if_pos e2, decide_eq_false (by omega)]; rfl
      · rw [if_neg e2, decide_eq_true (by omega)]; rfl
theorem spec_KeyValid_f (s : ByteArray) : spec_KeyValid s = some (keyOk s, ()) := by
  rw [spec_KeyValid_eq, spec_l1In_f, Option.bind_some]
  unfold keyOk
  by_cases h : 1 ≤ (s.size : Int) ∧ (s.size : Int) ≤ 4
  · rw [decide_eq_true h, decide_eq_true (by omega), spec_KeyValid_l s (by omega) (bs s) 0 (by omega) (by omega) (by simp)]; rfl
  · rw [decide_eq_false h, decide_eq_false (by omega)]; rfl
def lowOf (lo : ByteArray) : ByteArray := if lo = es then lit [97] else lo
def ivOk (x : impl_Interval) : Bool :=
  (decide (x.Low = es) || keyOk x.Low) && (decide (x.High = es) || keyOk x.High) && (decide (x.High = es) || sLt (lowOf x.Low) x.High)
theorem impl_lowestKey_f (x : impl_Interval) : impl_lowestKey x = some (lowOf x.Low, ()) := by
  rw [impl_lowestKey_eq, sEq_dec, cond_dec]
  unfold lowOf
  by_cases h : x.Low = es
  · rw [if_pos h, if_pos h]
  · rw [if_neg h, if_neg h]
theorem impl_IntervalValid_f (x : impl_Interval) : impl_IntervalValid x = some (ivOk x, ()) := by
  rw [impl_IntervalValid_eq]
  simp only [impl_KeyValid_f, impl_lowestKey_f, Option.bind_some, sEq_dec]
  unfold ivOk
  by_cases h1 : x.Low = es <;> by_cases h2 : x.High = es <;> simp only [h1, h2, decide_true, decide_false, Bool.not_true, Bool.not_false, cond_true, cond_false, Bool.true_or, Bool.false_or, Bool.true_and, Bool.and_true, if_true, if_false] <;>
    cases keyOk x.Low <;> cases keyOk x.High <;> simp
theorem less_a (hi : ByteArray) (h : keyOk hi = true) : (sLt es hi && !decide (hi = lit [97])) = sLt (lit [97]) hi := by
  simp only [keyOk, Bool.and_eq_true, decide_eq_true_eq] at h
  obtain ⟨⟨hn, _⟩, hl⟩ := h
  have hb : bs hi = hi.toList.map fun b => (b.toNat : Int) := by rw [toList_data]; rfl
  have e1 : es.toList = [] := by rw [toList_data]; rfl
  have e2 : (lit [97]).toList = [97] := by rw [toList_data]; rfl
  have e3 : decide (hi = lit [97]) = decide (hi.toList = [97]) := by rw [decide_eq_decide, ← toList_eq_iff, e2]
  rw [← bs_length] at hn
  unfold sLt
  rw [e1, e2, e3]
  rw [hb] at hl hn
  cases e : hi.toList with
  | nil => rw [e] at hn; simp at hn
  | cons b l =>
    rw [e] at hl
    simp only [List.map_cons, letters_cons, Bool.and_eq_true, decide_eq_true_eq] at hl
    have h1 := hl.1
    simp only [Op.bytesLess]
    by_cases hb97 : b = 97
    · subst hb97
      cases l with
      | nil => simp [Op.bytesLess]
      | cons c l => simp [Op.bytesLess]
    · have hlt : (97 : UInt8) < b := by
        rw [UInt8.lt_iff_toNat_lt]
        have : b.toNat ≠ (97 : UInt8).toNat := fun e => hb97 (UInt8.toNat_inj.1 e)
        have e97 : (97 : UInt8).toNat = 97 := rfl
        omega
      simp [hlt, hb97]
theorem spec_IntervalValid_f (x : impl_Interval) : spec_IntervalValid x = some (ivOk x, ()) := by
  rw [spec_IntervalValid_eq]
  simp only [spec_KeyValid_f, Option.bind_some, sEq_dec]
  unfold ivOk lowOf
  by_cases h1 : x.Low = es
  · by_cases h2 : x.High = es
    · simp [h1, h2]
    · cases hk : keyOk x.High with
      | false => simp [h1, h2]
      | true =>
        simp only [h1, h2, decide_true, decide_false, Bool.not_true, Bool.not_false, cond_true, cond_false, Bool.true_or, Bool.false_or, Bool.true_and, Bool.and_true, if_true, ← less_a x.High hk]
        cases sLt es x.High <;> simp
  · by_cases h2 : x.High = es
    · cases keyOk x.Low <;> simp [h1, h2]
    · cases keyOk x.Low <;> cases keyOk x.High <;> cases hh : sLt x.Low x.High <;> simp [h1, h2, hh]
def joinOk (a b : impl_Interval) : Bool := ivOk a && ivOk b && !decide (a.High = es) && decide (a.High = b.Low)
def joinR (a b : impl_Interval) : impl_Interval × Bool × Unit := if joinOk a b = true then (⟨a.Low, b.High⟩, true, ()) else (z_impl_Interval, false, ())
theorem impl_IntervalJoin_f (a b : impl_Interval) : impl_IntervalJoin a b = some (joinR a b, ()) := by
  rw [impl_IntervalJoin_eq]
  simp only [impl_IntervalValid_f, Option.bind_some, sEq_dec]
  unfold joinR joinOk
  cases ivOk a <;> cases ivOk b <;> by_cases h1 : a.High = es <;> by_cases h2 : a.High = b.Low <;> simp [h1, h2] <;> first | rfl | (simp [← h2, h1]; done) | skip
  all_goals first | rfl | skip
theorem spec_IntervalJoin_f (a b : impl_Interval) : spec_IntervalJoin a b = some (joinR a b, ()) := by
  rw [spec_IntervalJoin_eq]
  simp only [spec_IntervalValid_f, Option.bind_some, sEq_dec]
  unfold joinR joinOk
  cases ivOk a <;> cases ivOk b <;> by_cases h1 : a.High = es <;> by_cases h2 : a.High = b.Low <;> simp [h1, h2] <;> first | rfl | (simp [← h2, h1]; done) | skip
  all_goals first | rfl | skip
def cutOk (a : impl_Interval) (k : ByteArray) : Bool := ivOk a && keyOk k && ivOk ⟨a.Low, k⟩ && ivOk ⟨k, a.High⟩
def cutR (a : impl_Interval) (k : ByteArray) : impl_Interval × impl_Interval × Bool × Unit := if cutOk a k = true then (⟨a.Low, k⟩, ⟨k, a.High⟩, true, ()) else (z_impl_Interval, z_impl_Interval, false, ())
theorem impl_IntervalCut_f (a : impl_Interval) (k : ByteArray) : impl_IntervalCut a k = some (cutR a k, ()) := by
  rw [impl_IntervalCut_eq]
  simp only [impl_IntervalValid_f, impl_KeyValid_f, Option.bind_some]
  unfold cutR cutOk
  cases ivOk a <;> cases keyOk k <;> cases ivOk ⟨a.Low, k⟩ <;> cases ivOk ⟨k, a.High⟩ <;> rfl
theorem spec_IntervalCut_f (a : impl_Interval) (k : ByteArray) : spec_IntervalCut a k = some (cutR a k, ()) := by
  rw [spec_IntervalCut_eq]
  simp only [spec_IntervalValid_f, spec_KeyValid_f, Option.bind_some]
  unfold cutR cutOk
  cases ivOk a <;> cases keyOk k <;> cases ivOk ⟨a.Low, k⟩ <;> cases ivOk ⟨k, a.High⟩ <;> rfl
theorem impl_nodeValid_f (a : Int) : impl_nodeValid a = some (decide (0 ≤ a ∧ a ≤ 4), ()) := by
  rw [impl_nodeValid_eq, cond_dec]
  by_cases h : 0 ≤ a
  · rw [if_pos h, show decide (a < 5) = decide (0 ≤ a ∧ a ≤ 4) by rw [decide_eq_decide]; omega]
  · rw [if_neg h, decide_eq_false (by omega)]
end Go.Proofs.YtlffjoabajdfnaaGreat.Ev
