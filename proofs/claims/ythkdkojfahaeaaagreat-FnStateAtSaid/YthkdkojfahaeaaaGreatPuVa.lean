/- States, values and changes after a number of answers: the program's functions and the reference's say the same. No condition. -/
import Derived.Test.YthkdkojfahaeaaaGreatPuCh
set_option linter.unusedVariables false
set_option linter.unusedSimpArgs false
namespace Go.Proofs.YthkdkojfahaeaaaGreat.Ev
open Go.Proofs.YthkdkojfahaeaaaGreat.Eng
open Go.RowKit (wrap64)
def asked (l : List impl_Answer) : List impl_Entry := l.map fun a => a.Asked
theorem impl_askedOf_l (xs : List impl_Answer) (hx : xs.length ≤ 1000000000) : ∀ (ys : List impl_Answer) (i : Int) (out : List impl_Entry), 0 ≤ i → i ≤ xs.length → xs.drop i.toNat = ys → out.length = i.toNat → impl_askedOf_3 xs (xs.length : Int) i out = some (out ++ asked ys, ())
  | [], i, out, h0, h1, hd, ho => by
    have := drop_nil h0 h1 hd
    rw [impl_askedOf_3_eq, cond_dec, if_neg (by omega)]; simp [asked]
  | y :: ys, i, out, h0, h1, hd, ho => by
    obtain ⟨hr, hl, hd'⟩ := rd_drop (d := z_impl_Answer) h0 hd
    rw [impl_askedOf_3_eq]
    simp only [cond_dec, if_pos hl, if_pos h0, hr, w64 (n := i + 1) (by omega) (by omega)]
    rw [ble_row (by simp; omega) (by omega), cond_true, impl_askedOf_l xs hx ys (i + 1) _ (by omega) (by omega) hd' (by simp; omega)]
    simp [asked]
theorem impl_askedOf_f (xs : List impl_Answer) (hx : xs.length ≤ 1000000000) : impl_askedOf xs = some (asked xs, ()) := by
  rw [impl_askedOf_eq, impl_askedOf_l xs hx xs 0 [] (by omega) (by omega) rfl rfl]; rfl
theorem answersOk_len {l : List impl_Answer} (h : answersOk l = true) : l.length ≤ 24 := by
  simp only [answersOk, Bool.and_eq_true, decide_eq_true_eq] at h; exact h.1
theorem chainOk_answers {c : impl_Chain} (h : chainOk c = true) : c.Answers.length ≤ 24 := by
  simp only [chainOk, Bool.and_eq_true] at h; exact answersOk_len h.2
theorem spec_AnsweredLog_l (c : impl_Chain) (hc : ChainIn c) (h : chainOk c = true) : ∀ (ys : List impl_Answer) (i : Int) (out : List impl_Entry), 0 ≤ i → i ≤ c.Answers.length → c.Answers.drop i.toNat = ys → out.length = i.toNat → spec_AnsweredLog_3 i c out = some (out ++ asked ys, ())
  | [], i, out, h0, h1, hd, ho => by
    have := drop_nil h0 h1 hd
    rw [spec_AnsweredLog_3_eq, cond_dec, if_neg (by omega)]; simp [asked]
  | y :: ys, i, out, h0, h1, hd, ho => by
    have hx := chainOk_answers h
    obtain ⟨hr, hl, hd'⟩ := rd_drop (d := z_impl_Answer) h0 hd
    rw [spec_AnsweredLog_3_eq]
    simp only [cond_dec, if_pos hl, if_pos h0, hr, w64 (n := i + 1) (by omega) (by omega), eta_Chain, spec_ChainValid_f c hc, h, Option.bind_some, cond_true]
    rw [ble_row (by simp; omega) (by omega), cond_true, spec_AnsweredLog_l c hc h ys (i + 1) _ (by omega) (by omega) hd' (by simp; omega)]
    simp [asked]
theorem spec_AnsweredLog_f (c : impl_Chain) (hc : ChainIn c) (h : chainOk c = true) : spec_AnsweredLog c = some (asked c.Answers, ()) := by
  rw [spec_AnsweredLog_eq, eta_Chain, spec_AnsweredLog_l c hc h c.Answers 0 [] (by omega) (by omega) rfl rfl]; rfl
def stateAtR (c : impl_Chain) (n : Int) : impl_State × Bool := if chainOk c = true ∧ 0 ≤ n ∧ n ≤ (c.Answers.length : Int) then ((replayR c.Base (asked (c.Answers.take n.toNat))).1, true) else (zState, false)
theorem impl_StateAt_f (c : impl_Chain) (n : Int) (hc : ChainIn c) : impl_StateAt c n = some (((stateAtR c n).1, ((stateAtR c n).2, ())), ()) := by
  rw [impl_StateAt_eq, eta_Chain, impl_ChainValid_f c hc, Option.bind_some]
  unfold stateAtR
  cases h : chainOk c with
  | false => simp
  | true =>
    have hx := chainOk_answers h
    simp only [Bool.not_true, cond_false, cond_dec]
    by_cases h1 : n < 0
    · rw [if_pos h1, if_neg (fun h => by omega)]
    · rw [if_neg h1]
      by_cases h2 : (c.Answers.length : Int) < n
      · rw [if_pos h2, if_neg (fun h => by omega)]
      · rw [if_neg h2, if_pos (by omega), if_pos (by omega), if_pos ⟨trivial, by omega, by omega⟩, cut_pre _ n (by omega), impl_askedOf_f _ (by simp; omega), Option.bind_some, impl_Replay_f _ _ hc.known]; rfl
theorem spec_StateAt_f (c : impl_Chain) (n : Int) (hc : ChainIn c) : spec_StateAt c n = some (((stateAtR c n).1, ((stateAtR c n).2, ())), ()) := by
  rw [spec_StateAt_eq, eta_Chain, spec_ChainValid_f c hc, Option.bind_some]
  unfold stateAtR
  cases h : chainOk c with
  | false => simp
  | true =>
    have hx := chainOk_answers h
    simp only [Bool.not_true, cond_false, cond_dec, spec_l1In_f, Option.bind_some, spec_AnsweredLog_f c hc h]
    by_cases h1 : 0 ≤ n ∧ n ≤ (c.Answers.length : Int)
    · rw [decide_eq_true h1, Bool.not_true, cond_false, if_pos h1.1, if_pos (by simp [asked]; omega), if_pos ⟨trivial, h1.1, h1.2⟩, cut_pre _ n h1.1, spec_Replay_f _ _ hc.known (by simp [asked]; omega), Option.bind_some]
      unfold asked
      rw [List.map_take]
    · rw [decide_eq_false h1, Bool.not_false, cond_true, if_neg (fun h => h1 h.2)]
theorem stateAtR_len (c : impl_Chain) (n : Int) : (stateAtR c n).1.Pairs.length ≤ 48 ∧ (stateAtR c n).1.Known.length ≤ 5 := by
  unfold stateAtR
  split
  · exact replayR_len _ _
  · exact ⟨by simp, by simp⟩
end Go.Proofs.YthkdkojfahaeaaaGreat.Ev
