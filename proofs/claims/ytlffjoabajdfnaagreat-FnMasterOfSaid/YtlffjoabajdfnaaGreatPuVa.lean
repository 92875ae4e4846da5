/- States, values and changes after a number of answers: the program's functions and the reference's say the same. No condition. -/
import Derived.Test.YtlffjoabajdfnaaGreatPuCh
set_option linter.unusedVariables false
set_option linter.unusedSimpArgs false
namespace Go.Proofs.YtlffjoabajdfnaaGreat.Ev
open Go.Proofs.YtlffjoabajdfnaaGreat.Eng
open Go.RowKit (wrap64)
def asked (l : List impl_Answer) : List impl_Entry := l.map fun a => a.Asked
theorem answersOk_len {l : List impl_Answer} (h : answersOk l = true) : l.length ≤ 24 := by
  simp only [answersOk, Bool.and_eq_true, decide_eq_true_eq] at h; exact h.1
theorem chainOk_answers {c : impl_Chain} (h : chainOk c = true) : c.Answers.length ≤ 24 := by
  simp only [chainOk, Bool.and_eq_true] at h; exact answersOk_len h.2
theorem spec_AnsweredLog_l (c : impl_Chain) (hc : ChainIn c) (h : chainOk c = true) : ∀ (ys : List impl_Answer) (i : Int) (out : List impl_Entry), 0 ≤ i → i ≤ c.Answers.length → c.Answers.drop i.toNat = ys → out.length = i.toNat → spec_AnsweredLog_3 i c out = some (out ++ asked ys, ())
  | [], i, out, h0, h1, hd, ho => by
    have := drop_nil h0 h1 hd
    rw [spec_AnsweredLog_3_eq, cond_dec, if_neg (by omega)]; simp [asked]
  | y :: ys, i, out, h0, h1, hd, ho => by
    have hx := chainOk_answers h
    obtain ⟨hr, hl, hd'⟩ := rd_drop (d := z_impl_Answer) h0 hd
    rw [spec_AnsweredLog_3_eq]
    simp only [cond_dec, if_pos hl, if_pos h0, hr, w64 (n := i + 1) (by omega) (by omega), eta_Chain, spec_ChainValid_f c hc, h, Option.bind_some, cond_true]
    rw [ble_row (by simp; omega) (by omega), cond_true, spec_AnsweredLog_l c hc h ys (i + 1) _ (by omega) (by omega) hd' (by simp; omega)]
    simp [asked]
theorem spec_AnsweredLog_f (c : impl_Chain) (hc : ChainIn c) (h : chainOk c = true) : spec_AnsweredLog c = some (asked c.Answers, ()) := by
  rw [spec_AnsweredLog_eq, eta_Chain, spec_AnsweredLog_l c hc h c.Answers 0 [] (by omega) (by omega) rfl rfl]; rfl
end Go.Proofs.YtlffjoabajdfnaaGreat.Ev
