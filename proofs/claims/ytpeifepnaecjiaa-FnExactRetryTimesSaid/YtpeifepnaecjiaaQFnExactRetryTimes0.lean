/- Lemmas for FnExactRetryTimes: what each function comes to. No condition. -/
import Derived.Test.YtpeifepnaecjiaaLFnExactRetryTimes
namespace Go.Proofs.Ytpeifepnaecjiaa.Pure
open Go.RowKit Go.Proofs.Ytpeifepnaecjiaa.PFnExactRetryTimes Go.Proofs.YtpeifepnaecjiaaW.PrintWords Go.Proofs.YtpeifepnaecjiaaW.PrintLast Go.Proofs.YtpeifepnaecjiaaW.PrintMore Go.Proofs.Ytpeifepnaecjiaa.Lim
set_option linter.unusedVariables false
set_option linter.unusedSimpArgs false

/-! #### basic -/
theorem w64 {n : Int} (h1 : -9223372036854775808 ≤ n) (h2 : n ≤ 9223372036854775807) : wrap64 n = n := by unfold wrap64; omega
theorem wf64 {n : Int} (h : (Lit.int .i64 n).wf = true) : -9223372036854775808 ≤ n ∧ n ≤ 9223372036854775807 := by
  simp only [Lit.wf, IntKind.min, IntKind.max, IntKind.signed, IntKind.bits, Bool.and_eq_true, decide_eq_true_eq, if_true] at h
  omega
theorem wf8 {n : Int} (h : (Lit.int .u8 n).wf = true) : 0 ≤ n ∧ n ≤ 255 := by
  simp only [Lit.wf, IntKind.min, IntKind.max, IntKind.signed, IntKind.bits, Bool.and_eq_true, decide_eq_true_eq] at h
  simp at h
  omega
theorem mn_eq (a b : Int) : mn a b = if a ≤ b then a else b := by unfold mn; split <;> split <;> omega
theorem mx_eq (a b : Int) : mx a b = if a ≤ b then b else a := by unfold mx; split <;> split <;> omega
theorem rd_drop {xs : List Int} {i : Int} {y : Int} {ys : List Int} (h0 : 0 ≤ i) (h : xs.drop i.toNat = y :: ys) : rd xs i = y ∧ i < xs.length ∧ xs.drop (i + 1).toNat = ys := by
  have h1 : i.toNat < xs.length := by
    by_cases e : i.toNat < xs.length
    · exact e
    · rw [List.drop_eq_nil_of_le (by omega)] at h; cases h
  rw [List.drop_eq_getElem_cons h1] at h
  injection h with ha hb
  refine ⟨?_, by omega, ?_⟩
  · unfold rd; rw [List.getD_eq_getElem?_getD, List.getElem?_eq_getElem h1]; exact ha
  · rw [show (i + 1).toNat = i.toNat + 1 by omega]; exact hb
theorem drop_nil {α : Type} {xs : List α} {i : Int} (h0 : 0 ≤ i) (hi : i ≤ xs.length) (h : xs.drop i.toNat = []) : i = xs.length := by
  have := congrArg List.length h
  simp at this
  omega
theorem rdOf_drop {α : Type} {d : α} {xs : List α} {i : Int} {y : α} {ys : List α} (h0 : 0 ≤ i) (h : xs.drop i.toNat = y :: ys) : rdOf d xs i = y ∧ i < xs.length ∧ xs.drop (i + 1).toNat = ys := by
  have h1 : i.toNat < xs.length := by
    by_cases e : i.toNat < xs.length
    · exact e
    · rw [List.drop_eq_nil_of_le (by omega)] at h; cases h
  rw [List.drop_eq_getElem_cons h1] at h
  injection h with ha hb
  refine ⟨?_, by omega, ?_⟩
  · unfold rdOf; rw [List.getD_eq_getElem?_getD, List.getElem?_eq_getElem h1]; exact ha
  · rw [show (i + 1).toNat = i.toNat + 1 by omega]; exact hb

/-! #### spec_l1In -/
theorem spec_l1In_f (a lo hi : Int) : spec_l1In.f a lo hi = some (decide (lo ≤ a ∧ a ≤ hi)) := by
  unfold spec_l1In.f
  by_cases h : a ≥ lo
  · rw [if_pos h]; congr 1; rw [decide_eq_decide]; omega
  · rw [if_neg h]; congr 1; rw [eq_comm, decide_eq_false_iff_not]; omega

/-! #### Backoff -/
def bk : Nat → Int → Int
  | 0, w => w
  | n + 1, w => bk n (if 2 * w ≤ 32 then 2 * w else 32)
def backoff (t : Int) : Int := if 1 ≤ t ∧ t ≤ 10 then bk (t - 1).toNat 1 else -1
theorem nx_range (w : Int) (h3 : 1 ≤ w) : 1 ≤ (if 2 * w ≤ 32 then 2 * w else 32) ∧ (if 2 * w ≤ 32 then 2 * w else 32) ≤ 32 := by split <;> omega
theorem spec_Backoff_l0 : ∀ (n : Nat) (t w i : Int), t = i + n → 0 ≤ i → i ≤ 100 → n ≤ 100 - i → 1 ≤ w → w ≤ 32 → spec_Backoff.l0L t w i = some (bk n w)
  | 0, t, w, i, ht, h0, h1, h2, h3, h4 => by rw [spec_Backoff.l0L_eq, if_neg (by omega)]; rfl
  | n + 1, t, w, i, ht, h0, h1, h2, h3, h4 => by
    have hn := nx_range w h3
    have e' : (if 32 ≤ 2 * w then (32 : Int) else 2 * w) = (if 2 * w ≤ 32 then 2 * w else 32) := by split <;> split <;> omega
    rw [spec_Backoff.l0L_eq, if_pos (by omega), w64 (n := 2 * w) (by omega) (by omega), w64 (n := i + 1) (by omega) (by omega), mn_eq, e',
      spec_Backoff_l0 n t (if 2 * w ≤ 32 then 2 * w else 32) (i + 1) (by omega) (by omega) (by omega) (by omega) hn.1 hn.2]; rfl
theorem spec_Backoff_f (t : Int) : spec_Backoff.fL t = some (backoff t) := by
  rw [spec_Backoff.fL_eq, spec_l1In_f, Option.bind_some]
  unfold backoff
  by_cases h : 1 ≤ t ∧ t ≤ 10
  · rw [if_pos (by simpa using h), if_pos h, spec_Backoff_l0 (t - 1).toNat t 1 1 (by omega) (by omega) (by omega) (by omega) (by omega) (by omega)]
  · rw [if_neg (by simpa using h), if_neg h]
theorem impl_Backoff_l0 : ∀ (n : Nat) (w t i : Int), t = i + n → 0 ≤ i → i ≤ 100 → n ≤ 100 - i → 1 ≤ w → w ≤ 32 → impl_Backoff.l0L w t i = some (bk n w)
  | 0, w, t, i, ht, h0, h1, h2, h3, h4 => by rw [impl_Backoff.l0L_eq, if_neg (by omega)]; rfl
  | n + 1, w, t, i, ht, h0, h1, h2, h3, h4 => by
    have hn := nx_range w h3
    rw [impl_Backoff.l0L_eq, if_pos (by omega), w64 (n := 2 * w) (by omega) (by omega), w64 (n := i + 1) (by omega) (by omega), mn_eq,
      impl_Backoff_l0 n (if 2 * w ≤ 32 then 2 * w else 32) t (i + 1) (by omega) (by omega) (by omega) (by omega) hn.1 hn.2]; rfl
theorem impl_Backoff_f (t : Int) (hl : -9223372036854775808 ≤ t) (hh : t ≤ 9223372036854775807) : impl_Backoff.fL t = some (backoff t) := by
  rw [impl_Backoff.fL_eq, impl_Backoff.j0L_eq, impl_Backoff.j0L_eq]
  unfold backoff
  by_cases h1 : t < 1
  · rw [if_pos h1, if_pos rfl, if_neg (by omega)]
  · rw [if_neg h1]
    by_cases h2 : t > 10
    · rw [if_pos (by simpa using h2), if_neg (by omega)]
    · rw [if_neg (by simpa using h2), if_pos (by omega), w64 (by omega) (by omega), impl_Backoff_l0 (t - 1).toNat 1 (t - 1) 0 (by omega) (by omega) (by omega) (by omega) (by omega) (by omega)]

/-! #### RetryTimes -/
/-- The times from try number n on, many of them at most, from a time on. -/
def times : Nat → Int → Int → List Int
  | 0, _, _ => []
  | m + 1, t, n => if t ≤ 200 then t :: times m (t + backoff n) (n + 1) else []
def retryTimes (t many : Int) : List Int := if 0 ≤ t ∧ t ≤ 200 ∧ 0 ≤ many ∧ many ≤ 10 then times many.toNat t 1 else []
theorem backoff_range (n : Int) (h1 : 1 ≤ n) (h2 : n ≤ 10) : 1 ≤ backoff n ∧ backoff n ≤ 32 := by
  have : ∀ n : Nat, 1 ≤ n → n ≤ 10 → 1 ≤ backoff n ∧ backoff n ≤ 32 := by
    intro n h1 h2
    have : n = 1 ∨ n = 2 ∨ n = 3 ∨ n = 4 ∨ n = 5 ∨ n = 6 ∨ n = 7 ∨ n = 8 ∨ n = 9 ∨ n = 10 := by omega
    rcases this with rfl | rfl | rfl | rfl | rfl | rfl | rfl | rfl | rfl | rfl <;> decide
  have h := this n.toNat (by omega) (by omega)
  rwa [show ((n.toNat : Nat) : Int) = n by omega] at h
theorem spec_RetryTimes_l0 (many : Int) (hm : many ≤ 10) : ∀ (m : Nat) (out : List Int) (t n : Int), n + m = many + 1 → 1 ≤ n → 0 ≤ t → t ≤ 1000 → (out.length : Int) ≤ n → spec_RetryTimes.l0L many out t n = some (out ++ times m t n)
  | 0, out, t, n, h, h1, h2, h3, h4 => by rw [spec_RetryTimes.l0L_eq, if_neg (by omega)]; simp [times]
  | m + 1, out, t, n, h, h1, h2, h3, h4 => by
    rw [spec_RetryTimes.l0L_eq, if_pos (by omega)]
    simp only [times]
    by_cases e : t ≤ 200
    · have hb := backoff_range n h1 (by omega)
      rw [if_pos e, if_pos e, if_pos (by omega), spec_Backoff_f, Option.bind_some, w64 (by omega) (by omega), w64 (by omega) (by omega),
        spec_RetryTimes_l0 many hm m _ _ (n + 1) (by omega) (by omega) (by omega) (by omega) (by simp; omega)]
      simp
    · rw [if_neg e, if_neg e]; simp
theorem spec_RetryTimes_f (t many : Int) : spec_RetryTimes.fL t many = some (retryTimes t many) := by
  rw [spec_RetryTimes.fL_eq, Option.bind_some, spec_l1In_f, Option.bind_some, spec_l1In_f, Option.bind_some, spec_RetryTimes.j0L_eq, spec_RetryTimes.j0L_eq]
  unfold retryTimes
  by_cases h : 0 ≤ t ∧ t ≤ 200
  · rw [if_pos (by simpa using h)]
    by_cases h1 : 0 ≤ many ∧ many ≤ 10
    · rw [if_neg (by simpa using h1), if_pos (by omega), spec_RetryTimes_l0 many h1.2 many.toNat [] t 1 (by omega) (by omega) h.1 (by omega) (by simp)]; simp
    · rw [if_pos (by simpa only [Bool.not_eq_true', decide_eq_false_iff_not] using h1), if_neg (by omega)]
  · rw [if_neg (by simpa using h), if_pos rfl, if_neg (by omega)]
theorem impl_RetryTimes_l0 (many : Int) (hm : many ≤ 10) : ∀ (m : Nat) (out : List Int) (t n : Int), n + m = many + 1 → 1 ≤ n → 0 ≤ t → t ≤ 1000 → (out.length : Int) ≤ n → impl_RetryTimes.l0L many out t n = some (out ++ times m t n)
  | 0, out, t, n, h, h1, h2, h3, h4 => by rw [impl_RetryTimes.l0L_eq, if_neg (by omega)]; simp [times]
  | m + 1, out, t, n, h, h1, h2, h3, h4 => by
    rw [impl_RetryTimes.l0L_eq, if_pos (by omega)]
    simp only [times]
    by_cases e : t ≤ 200
    · have hb := backoff_range n h1 (by omega)
      rw [if_pos e, if_pos e, if_pos (by omega), impl_Backoff_f n (by omega) (by omega), Option.bind_some, w64 (by omega) (by omega), w64 (by omega) (by omega),
        impl_RetryTimes_l0 many hm m _ _ (n + 1) (by omega) (by omega) (by omega) (by omega) (by simp; omega)]
      simp
    · rw [if_neg e, if_neg e]; simp
theorem impl_timeValid_f (t : Int) : impl_timeValid.f t = some (decide (0 ≤ t ∧ t ≤ 200)) := by
  unfold impl_timeValid.f
  by_cases h : t ≥ 0
  · rw [if_pos h]; congr 1; rw [decide_eq_decide]; omega
  · rw [if_neg h]; congr 1; rw [eq_comm, decide_eq_false_iff_not]; omega
theorem impl_RetryTimes_f (t many : Int) : impl_RetryTimes.fL t many = some (retryTimes t many) := by
  rw [impl_RetryTimes.fL_eq, impl_timeValid_f, Option.bind_some, impl_RetryTimes.j0L_eq, impl_RetryTimes.j0L_eq]
  unfold retryTimes
  by_cases h : 0 ≤ t ∧ t ≤ 200
  · rw [if_pos (by simpa using h)]
    by_cases h1 : many < 0
    · rw [if_pos h1, if_pos rfl, if_neg (by omega)]
    · rw [if_neg h1]
      by_cases h2 : many > 10
      · rw [if_pos (by simpa using h2), if_neg (by omega)]
      · rw [if_neg (by simpa using h2), if_pos (by omega), impl_RetryTimes_l0 many (by omega) many.toNat [] t 1 (by omega) (by omega) h.1 (by omega) (by simp)]; simp
  · rw [if_neg (by simpa using h), if_pos rfl, if_neg (by omega)]
theorem times_length : ∀ (m : Nat) (t n : Int), (times m t n).length ≤ m
  | 0, _, _ => by simp [times]
  | m + 1, t, n => by
    have := times_length m (t + backoff n) (n + 1)
    simp only [times]; split <;> simp; omega
theorem retryTimes_length (t many : Int) : (retryTimes t many).length ≤ 10 := by
  unfold retryTimes
  split
  · have := times_length many.toNat t 1; omega
  · simp

/-! #### eqIntS -/
theorem laws_eqIntS_l0 (xs zs : List Int) (hx : xs.length ≤ 1000000000000000) (hl : xs.length = zs.length) : ∀ (ys ws : List Int) (i : Int), 0 ≤ i → i ≤ xs.length → xs.drop i.toNat = ys → zs.drop i.toNat = ws → laws_eqIntS.l0L xs zs i = some (decide (ys = ws))
  | [], ws, i, h0, h1, hd, hw => by
    have := drop_nil h0 h1 hd
    rw [laws_eqIntS.l0L_eq, if_neg (by omega)]
    rw [List.drop_eq_nil_of_le (by omega)] at hw
    rw [← hw]; rfl
  | y :: ys, [], i, h0, h1, hd, hw => by
    have := drop_nil h0 (by omega) hw
    obtain ⟨hr, hlt, hd'⟩ := rd_drop h0 hd
    omega
  | y :: ys, w :: ws, i, h0, h1, hd, hw => by
    obtain ⟨hr, hlt, hd'⟩ := rd_drop h0 hd
    obtain ⟨hr2, hlt2, hw'⟩ := rd_drop h0 hw
    rw [laws_eqIntS.l0L_eq, if_pos hlt, if_pos h0, if_pos hlt2, hr, hr2, w64 (by omega) (by omega)]
    by_cases e : y = w
    · rw [if_pos e, laws_eqIntS_l0 xs zs hx hl ys ws (i + 1) (by omega) (by omega) hd' hw']
      simp [e]
    · rw [if_neg e]; simp [e]
theorem laws_eqIntS_f (xs zs : List Int) (hx : xs.length ≤ 1000000000000000) : laws_eqIntS.fL xs zs = some (decide (xs = zs)) := by
  rw [laws_eqIntS.fL_eq]
  by_cases h : (xs.length : Int) = (zs.length : Int)
  · rw [if_pos h]; exact laws_eqIntS_l0 xs zs hx (by omega) xs zs 0 (by omega) (by omega) (by simp) (by simp)
  · rw [if_neg h, decide_eq_false (fun e => h (by rw [e]))]

/-! #### intS -/
theorem set_at {α : Type} {xs : List α} {i : Nat} {y z : α} {ys : List α} (h : xs.drop i = y :: ys) : (xs.set i z).take (i + 1) = xs.take i ++ [z] ∧ (xs.set i z).drop (i + 1) = ys ∧ (xs.set i z).length = xs.length := by
  have h1 : i < xs.length := by
    by_cases e : i < xs.length
    · exact e
    · rw [List.drop_eq_nil_of_le (by omega)] at h; cases h
  rw [List.drop_eq_getElem_cons h1] at h
  injection h with ha hb
  refine ⟨?_, ?_, by simp⟩
  · rw [List.take_succ_eq_append_getElem (by simpa using h1), List.take_set_of_le (by omega)]; simp
  · rw [List.drop_set_of_lt (by omega)]; exact hb
theorem drop_take_cons {α : Type} {xs pre : List α} {i : Nat} {y : α} {ys : List α} (h : xs.drop i = y :: ys) : xs.take (i + 1) = xs.take i ++ [y] ∧ i < xs.length ∧ xs.drop (i + 1) = ys := by
  have h1 : i < xs.length := by
    by_cases e : i < xs.length
    · exact e
    · rw [List.drop_eq_nil_of_le (by omega)] at h; cases h
  rw [List.drop_eq_getElem_cons h1] at h
  injection h with ha hb
  exact ⟨by rw [List.take_succ_eq_append_getElem h1, ha], h1, hb⟩

/-! #### markIntS -/
def upFrom : Nat → Int → List Int
  | 0, _ => []
  | n + 1, k => k :: upFrom n (k + 1)
theorem laws_markIntS_l0 (n : Nat) (hn : n ≤ 1000000000000) : ∀ (ys zs : List Int) (k i : Int), 0 ≤ i → i ≤ zs.length → zs.length = n → zs.drop i.toNat = ys → 0 ≤ k → k ≤ 1000000000000 + i → laws_markIntS.l0L zs k i = some (k + ys.length, zs.take i.toNat ++ upFrom ys.length k)
  | [], zs, k, i, h0, h1, hl, hd, hk, hk2 => by
    have := drop_nil h0 h1 hd
    rw [laws_markIntS.l0L_eq, if_neg (by omega), List.take_of_length_le (by omega)]; simp [upFrom]
  | y :: ys, zs, k, i, h0, h1, hl, hd, hk, hk2 => by
    obtain ⟨hr, hlt, hd'⟩ := rd_drop h0 hd
    obtain ⟨s1, s2, s3⟩ := set_at (z := k) hd
    rw [laws_markIntS.l0L_eq, if_pos hlt, if_pos h0, w64 (by omega) (by omega), w64 (by omega) (by omega),
      laws_markIntS_l0 n hn ys _ (k + 1) (i + 1) (by omega) (by omega) (by omega) (by rw [show (i + 1).toNat = i.toNat + 1 by omega]; exact s2) (by omega) (by omega),
      show (i + 1).toNat = i.toNat + 1 by omega, s1]
    simp only [List.length_cons, upFrom, List.append_assoc, List.singleton_append]
    congr 2
    omega
theorem laws_markIntS_f (xs : List Int) (k : Int) (hx : xs.length ≤ 1000000000000) (hk : 0 ≤ k) (hk2 : k ≤ 1000000000000) : laws_markIntS.fL xs k = some (k + xs.length, upFrom xs.length k) := by
  rw [laws_markIntS.fL_eq, laws_markIntS_l0 xs.length hx xs xs k 0 (by omega) (by omega) rfl (by simp) hk (by omega)]
  simp
theorem laws_heldIntS_l0 (zs : List Int) (hn : zs.length ≤ 1000000000000) : ∀ (n : Nat) (k i : Int), 0 ≤ i → i ≤ zs.length → zs.drop i.toNat = upFrom n k → 0 ≤ k → k ≤ 1000000000000 + i → laws_heldIntS.l0L zs k i = some (k + n)
  | 0, k, i, h0, h1, hd, hk, hk2 => by
    have := drop_nil h0 h1 hd
    rw [laws_heldIntS.l0L_eq, if_neg (by omega)]; simp
  | n + 1, k, i, h0, h1, hd, hk, hk2 => by
    obtain ⟨hr, hlt, hd'⟩ := rd_drop h0 hd
    rw [laws_heldIntS.l0L_eq, if_pos hlt, if_pos h0, if_pos hr, w64 (by omega) (by omega), w64 (by omega) (by omega),
      laws_heldIntS_l0 zs hn n (k + 1) (i + 1) (by omega) (by omega) hd' (by omega) (by omega)]
    congr 1
    omega
theorem upFrom_length : ∀ (n : Nat) (k : Int), (upFrom n k).length = n
  | 0, _ => rfl
  | n + 1, k => by simp [upFrom, upFrom_length n]
theorem laws_heldIntS_f (n : Nat) (k : Int) (hn : n ≤ 1000000000000) (hk : 0 ≤ k) (hk2 : k ≤ 1000000000000) : laws_heldIntS.fL (upFrom n k) k = some (k + n) := by
  rw [laws_heldIntS.fL_eq]
  exact laws_heldIntS_l0 _ (by rw [upFrom_length]; exact hn) n k 0 (by omega) (by omega) (by simp) hk (by omega)

end Go.Proofs.Ytpeifepnaecjiaa.Pure
