/- Lemmas for FnExactTokenStep: what each function comes to. No condition. -/
import Derived.Test.YtpeifepnaecjiaaLFnExactTokenStep
namespace Go.Proofs.Ytpeifepnaecjiaa.Pure
open Go.RowKit Go.Proofs.Ytpeifepnaecjiaa.PFnExactTokenStep Go.Proofs.YtpeifepnaecjiaaW.PrintWords Go.Proofs.YtpeifepnaecjiaaW.PrintLast Go.Proofs.YtpeifepnaecjiaaW.PrintMore Go.Proofs.Ytpeifepnaecjiaa.Lim
set_option linter.unusedVariables false
set_option linter.unusedSimpArgs false

/-! #### basic -/
theorem w64 {n : Int} (h1 : -9223372036854775808 ≤ n) (h2 : n ≤ 9223372036854775807) : wrap64 n = n := by unfold wrap64; omega
theorem wf64 {n : Int} (h : (Lit.int .i64 n).wf = true) : -9223372036854775808 ≤ n ∧ n ≤ 9223372036854775807 := by
  simp only [Lit.wf, IntKind.min, IntKind.max, IntKind.signed, IntKind.bits, Bool.and_eq_true, decide_eq_true_eq, if_true] at h
  omega
theorem wf8 {n : Int} (h : (Lit.int .u8 n).wf = true) : 0 ≤ n ∧ n ≤ 255 := by
  simp only [Lit.wf, IntKind.min, IntKind.max, IntKind.signed, IntKind.bits, Bool.and_eq_true, decide_eq_true_eq] at h
  simp at h
  omega
theorem mn_eq (a b : Int) : mn a b = if a ≤ b then a else b := by unfold mn; split <;> split <;> omega
theorem mx_eq (a b : Int) : mx a b = if a ≤ b then b else a := by unfold mx; split <;> split <;> omega
theorem rd_drop {xs : List Int} {i : Int} {y : Int} {ys : List Int} (h0 : 0 ≤ i) (h : xs.drop i.toNat = y :: ys) : rd xs i = y ∧ i < xs.length ∧ xs.drop (i + 1).toNat = ys := by
  have h1 : i.toNat < xs.length := by
    by_cases e : i.toNat < xs.length
    · exact e
    · rw [List.drop_eq_nil_of_le (by omega)] at h; cases h
  rw [List.drop_eq_getElem_cons h1] at h
  injection h with ha hb
  refine ⟨?_, by omega, ?_⟩
  · unfold rd; rw [List.getD_eq_getElem?_getD, List.getElem?_eq_getElem h1]; exact ha
  · rw [show (i + 1).toNat = i.toNat + 1 by omega]; exact hb
theorem drop_nil {α : Type} {xs : List α} {i : Int} (h0 : 0 ≤ i) (hi : i ≤ xs.length) (h : xs.drop i.toNat = []) : i = xs.length := by
  have := congrArg List.length h
  simp at this
  omega
theorem rdOf_drop {α : Type} {d : α} {xs : List α} {i : Int} {y : α} {ys : List α} (h0 : 0 ≤ i) (h : xs.drop i.toNat = y :: ys) : rdOf d xs i = y ∧ i < xs.length ∧ xs.drop (i + 1).toNat = ys := by
  have h1 : i.toNat < xs.length := by
    by_cases e : i.toNat < xs.length
    · exact e
    · rw [List.drop_eq_nil_of_le (by omega)] at h; cases h
  rw [List.drop_eq_getElem_cons h1] at h
  injection h with ha hb
  refine ⟨?_, by omega, ?_⟩
  · unfold rdOf; rw [List.getD_eq_getElem?_getD, List.getElem?_eq_getElem h1]; exact ha
  · rw [show (i + 1).toNat = i.toNat + 1 by omega]; exact hb

/-! #### spec_l1In -/
theorem spec_l1In_f (a lo hi : Int) : spec_l1In.f a lo hi = some (decide (lo ≤ a ∧ a ≤ hi)) := by
  unfold spec_l1In.f
  by_cases h : a ≥ lo
  · rw [if_pos h]; congr 1; rw [decide_eq_decide]; omega
  · rw [if_neg h]; congr 1; rw [eq_comm, decide_eq_false_iff_not]; omega

/-! #### TokenStep -/
def tokStep (t : Int) (s : Bool) : Int × Bool :=
  if t < 0 ∨ 10 < t then (-1, false) else if s = true then (if t + 1 ≤ 10 then t + 1 else 10, false) else if 3 ≤ t then (t - 3, true) else (t, false)
theorem spec_TokenStep_f (t : Int) (s : Bool) : spec_TokenStep.f t s = some (tokStep t s) := by
  unfold spec_TokenStep.f tokStep
  rw [spec_l1In_f, Option.bind_some]
  by_cases h : 0 ≤ t ∧ t ≤ 10
  · have hc : ¬ (t < 0 ∨ 10 < t) := by omega
    rw [if_pos (by simpa using h), if_neg hc, w64 (n := t + 1) (by omega) (by omega), w64 (n := t - 3) (by omega) (by omega), mn_eq]
    cases s
    · by_cases h3 : t < 3
      · rw [if_neg (by simp), if_pos h3, if_neg (by simp), if_neg (by omega)]
      · rw [if_neg (by simp), if_neg h3, if_neg (by simp), if_pos (by omega)]
    · rw [if_pos rfl, if_pos rfl]
      congr 2
      split <;> split <;> omega
  · rw [if_neg (by simpa using h), if_pos (by omega)]
theorem impl_TokenStep_f (t : Int) (s : Bool) : impl_TokenStep.fL t s = some (tokStep t s) := by
  rw [impl_TokenStep.fL_eq, impl_TokenStep.j0L_eq, impl_TokenStep.j0L_eq]
  unfold tokStep
  by_cases h0 : t < 0
  · rw [if_pos h0, if_pos rfl, if_pos (by omega)]
  · rw [if_neg h0]
    by_cases h1 : t > 10
    · rw [if_pos (by simpa using h1), if_pos (by omega)]
    · have hc : ¬ (t < 0 ∨ 10 < t) := by omega
      rw [if_neg (by simpa using h1), if_neg hc, w64 (n := t + 1) (by omega) (by omega), w64 (n := t - 3) (by omega) (by omega), mn_eq]
      cases s
      · by_cases h3 : t ≥ 3
        · rw [if_neg (by simp), if_pos h3, if_neg (by simp), if_pos (by omega)]
        · rw [if_neg (by simp), if_neg h3, if_neg (by simp), if_neg (by omega)]
      · rw [if_pos rfl, if_pos rfl]
theorem tokStep_range (t : Int) (s : Bool) (h0 : 0 ≤ t) (h1 : t ≤ 10) : 0 ≤ (tokStep t s).1 ∧ (tokStep t s).1 ≤ 10 := by
  unfold tokStep
  split
  · omega
  · split
    · dsimp only; split <;> omega
    · split <;> (dsimp only; omega)

end Go.Proofs.Ytpeifepnaecjiaa.Pure
