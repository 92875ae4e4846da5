/- Lemmas for FnExactBackoff: what each function comes to. No condition. -/
import Derived.Test.YtpeifepnaecjiaaLFnExactBackoff
namespace Go.Proofs.Ytpeifepnaecjiaa.Pure
open Go.RowKit Go.Proofs.Ytpeifepnaecjiaa.PFnExactBackoff Go.Proofs.YtpeifepnaecjiaaW.PrintWords Go.Proofs.YtpeifepnaecjiaaW.PrintLast Go.Proofs.YtpeifepnaecjiaaW.PrintMore Go.Proofs.Ytpeifepnaecjiaa.Lim
set_option linter.unusedVariables false
set_option linter.unusedSimpArgs false

/-! #### basic -/
theorem w64 {n : Int} (h1 : -9223372036854775808 ≤ n) (h2 : n ≤ 9223372036854775807) : wrap64 n = n := by unfold wrap64; omega
theorem wf64 {n : Int} (h : (Lit.int .i64 n).wf = true) : -9223372036854775808 ≤ n ∧ n ≤ 9223372036854775807 := by
  simp only [Lit.wf, IntKind.min, IntKind.max, IntKind.signed, IntKind.bits, Bool.and_eq_true, decide_eq_true_eq, if_true] at h
  omega
theorem wf8 {n : Int} (h : (Lit.int .u8 n).wf = true) : 0 ≤ n ∧ n ≤ 255 := by
  simp only [Lit.wf, IntKind.min, IntKind.max, IntKind.signed, IntKind.bits, Bool.and_eq_true, decide_eq_true_eq] at h
  simp at h
  omega
theorem mn_eq (a b : Int) : mn a b = if a ≤ b then a else b := by unfold mn; split <;> split <;> omega
theorem mx_eq (a b : Int) : mx a b = if a ≤ b then b else a := by unfold mx; split <;> split <;> omega
theorem rd_drop {xs : List Int} {i : Int} {y : Int} {ys : List Int} (h0 : 0 ≤ i) (h : xs.drop i.toNat = y :: ys) : rd xs i = y ∧ i < xs.length ∧ xs.drop (i + 1).toNat = ys := by
  have h1 : i.toNat < xs.length := by
    by_cases e : i.toNat < xs.length
    · exact e
    · rw [List.drop_eq_nil_of_le (by omega)] at h; cases h
  rw [List.drop_eq_getElem_cons h1] at h
  injection h with ha hb
  refine ⟨?_, by omega, ?_⟩
  · unfold rd; rw [List.getD_eq_getElem?_getD, List.getElem?_eq_getElem h1]; exact ha
  · rw [show (i + 1).toNat = i.toNat + 1 by omega]; exact hb
theorem drop_nil {α : Type} {xs : List α} {i : Int} (h0 : 0 ≤ i) (hi : i ≤ xs.length) (h : xs.drop i.toNat = []) : i = xs.length := by
  have := congrArg List.length h
  simp at this
  omega
theorem rdOf_drop {α : Type} {d : α} {xs : List α} {i : Int} {y : α} {ys : List α} (h0 : 0 ≤ i) (h : xs.drop i.toNat = y :: ys) : rdOf d xs i = y ∧ i < xs.length ∧ xs.drop (i + 1).toNat = ys := by
  have h1 : i.toNat < xs.length := by
    by_cases e : i.toNat < xs.length
    · exact e
    · rw [List.drop_eq_nil_of_le (by omega)] at h; cases h
  rw [List.drop_eq_getElem_cons h1] at h
  injection h with ha hb
  refine ⟨?_, by omega, ?_⟩
  · unfold rdOf; rw [List.getD_eq_getElem?_getD, List.getElem?_eq_getElem h1]; exact ha
  · rw [show (i + 1).toNat = i.toNat + 1 by omega]; exact hb

/-! #### spec_l1In -/
theorem spec_l1In_f (a lo hi : Int) : spec_l1In.f a lo hi = some (decide (lo ≤ a ∧ a ≤ hi)) := by
  unfold spec_l1In.f
  by_cases h : a ≥ lo
  · rw [if_pos h]; congr 1; rw [decide_eq_decide]; omega
  · rw [if_neg h]; congr 1; rw [eq_comm, decide_eq_false_iff_not]; omega

/-! #### Backoff -/
def bk : Nat → Int → Int
  | 0, w => w
  | n + 1, w => bk n (if 2 * w ≤ 32 then 2 * w else 32)
def backoff (t : Int) : Int := if 1 ≤ t ∧ t ≤ 10 then bk (t - 1).toNat 1 else -1
theorem nx_range (w : Int) (h3 : 1 ≤ w) : 1 ≤ (if 2 * w ≤ 32 then 2 * w else 32) ∧ (if 2 * w ≤ 32 then 2 * w else 32) ≤ 32 := by split <;> omega
theorem spec_Backoff_l0 : ∀ (n : Nat) (t w i : Int), t = i + n → 0 ≤ i → i ≤ 100 → n ≤ 100 - i → 1 ≤ w → w ≤ 32 → spec_Backoff.l0L t w i = some (bk n w)
  | 0, t, w, i, ht, h0, h1, h2, h3, h4 => by rw [spec_Backoff.l0L_eq, if_neg (by omega)]; rfl
  | n + 1, t, w, i, ht, h0, h1, h2, h3, h4 => by
    have hn := nx_range w h3
    have e' : (if 32 ≤ 2 * w then (32 : Int) else 2 * w) = (if 2 * w ≤ 32 then 2 * w else 32) := by split <;> split <;> omega
    rw [spec_Backoff.l0L_eq, if_pos (by omega), w64 (n := 2 * w) (by omega) (by omega), w64 (n := i + 1) (by omega) (by omega), mn_eq, e',
      spec_Backoff_l0 n t (if 2 * w ≤ 32 then 2 * w else 32) (i + 1) (by omega) (by omega) (by omega) (by omega) hn.1 hn.2]; rfl
theorem spec_Backoff_f (t : Int) : spec_Backoff.fL t = some (backoff t) := by
  rw [spec_Backoff.fL_eq, spec_l1In_f, Option.bind_some]
  unfold backoff
  by_cases h : 1 ≤ t ∧ t ≤ 10
  · rw [if_pos (by simpa using h), if_pos h, spec_Backoff_l0 (t - 1).toNat t 1 1 (by omega) (by omega) (by omega) (by omega) (by omega) (by omega)]
  · rw [if_neg (by simpa using h), if_neg h]
theorem impl_Backoff_l0 : ∀ (n : Nat) (w t i : Int), t = i + n → 0 ≤ i → i ≤ 100 → n ≤ 100 - i → 1 ≤ w → w ≤ 32 → impl_Backoff.l0L w t i = some (bk n w)
  | 0, w, t, i, ht, h0, h1, h2, h3, h4 => by rw [impl_Backoff.l0L_eq, if_neg (by omega)]; rfl
  | n + 1, w, t, i, ht, h0, h1, h2, h3, h4 => by
    have hn := nx_range w h3
    rw [impl_Backoff.l0L_eq, if_pos (by omega), w64 (n := 2 * w) (by omega) (by omega), w64 (n := i + 1) (by omega) (by omega), mn_eq,
      impl_Backoff_l0 n (if 2 * w ≤ 32 then 2 * w else 32) t (i + 1) (by omega) (by omega) (by omega) (by omega) hn.1 hn.2]; rfl
theorem impl_Backoff_f (t : Int) (hl : -9223372036854775808 ≤ t) (hh : t ≤ 9223372036854775807) : impl_Backoff.fL t = some (backoff t) := by
  rw [impl_Backoff.fL_eq, impl_Backoff.j0L_eq, impl_Backoff.j0L_eq]
  unfold backoff
  by_cases h1 : t < 1
  · rw [if_pos h1, if_pos rfl, if_neg (by omega)]
  · rw [if_neg h1]
    by_cases h2 : t > 10
    · rw [if_pos (by simpa using h2), if_neg (by omega)]
    · rw [if_neg (by simpa using h2), if_pos (by omega), w64 (by omega) (by omega), impl_Backoff_l0 (t - 1).toNat 1 (t - 1) 0 (by omega) (by omega) (by omega) (by omega) (by omega) (by omega)]

end Go.Proofs.Ytpeifepnaecjiaa.Pure
