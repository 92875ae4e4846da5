/- Lemmas for FnExactTokenRun: what each function comes to. No condition. -/
import Derived.Test.YtpeifepnaecjiaaLFnExactTokenRun
namespace Go.Proofs.Ytpeifepnaecjiaa.Pure
open Go.RowKit Go.Proofs.Ytpeifepnaecjiaa.PFnExactTokenRun Go.Proofs.YtpeifepnaecjiaaW.PrintWords Go.Proofs.YtpeifepnaecjiaaW.PrintLast Go.Proofs.YtpeifepnaecjiaaW.PrintMore Go.Proofs.Ytpeifepnaecjiaa.Lim
set_option linter.unusedVariables false
set_option linter.unusedSimpArgs false

/-! #### basic -/
theorem w64 {n : Int} (h1 : -9223372036854775808 ≤ n) (h2 : n ≤ 9223372036854775807) : wrap64 n = n := by unfold wrap64; omega
theorem wf64 {n : Int} (h : (Lit.int .i64 n).wf = true) : -9223372036854775808 ≤ n ∧ n ≤ 9223372036854775807 := by
  simp only [Lit.wf, IntKind.min, IntKind.max, IntKind.signed, IntKind.bits, Bool.and_eq_true, decide_eq_true_eq, if_true] at h
  omega
theorem wf8 {n : Int} (h : (Lit.int .u8 n).wf = true) : 0 ≤ n ∧ n ≤ 255 := by
  simp only [Lit.wf, IntKind.min, IntKind.max, IntKind.signed, IntKind.bits, Bool.and_eq_true, decide_eq_true_eq] at h
  simp at h
  omega
theorem mn_eq (a b : Int) : mn a b = if a ≤ b then a else b := by unfold mn; split <;> split <;> omega
theorem mx_eq (a b : Int) : mx a b = if a ≤ b then b else a := by unfold mx; split <;> split <;> omega
theorem rd_drop {xs : List Int} {i : Int} {y : Int} {ys : List Int} (h0 : 0 ≤ i) (h : xs.drop i.toNat = y :: ys) : rd xs i = y ∧ i < xs.length ∧ xs.drop (i + 1).toNat = ys := by
  have h1 : i.toNat < xs.length := by
    by_cases e : i.toNat < xs.length
    · exact e
    · rw [List.drop_eq_nil_of_le (by omega)] at h; cases h
  rw [List.drop_eq_getElem_cons h1] at h
  injection h with ha hb
  refine ⟨?_, by omega, ?_⟩
  · unfold rd; rw [List.getD_eq_getElem?_getD, List.getElem?_eq_getElem h1]; exact ha
  · rw [show (i + 1).toNat = i.toNat + 1 by omega]; exact hb
theorem drop_nil {α : Type} {xs : List α} {i : Int} (h0 : 0 ≤ i) (hi : i ≤ xs.length) (h : xs.drop i.toNat = []) : i = xs.length := by
  have := congrArg List.length h
  simp at this
  omega
theorem rdOf_drop {α : Type} {d : α} {xs : List α} {i : Int} {y : α} {ys : List α} (h0 : 0 ≤ i) (h : xs.drop i.toNat = y :: ys) : rdOf d xs i = y ∧ i < xs.length ∧ xs.drop (i + 1).toNat = ys := by
  have h1 : i.toNat < xs.length := by
    by_cases e : i.toNat < xs.length
    · exact e
    · rw [List.drop_eq_nil_of_le (by omega)] at h; cases h
  rw [List.drop_eq_getElem_cons h1] at h
  injection h with ha hb
  refine ⟨?_, by omega, ?_⟩
  · unfold rdOf; rw [List.getD_eq_getElem?_getD, List.getElem?_eq_getElem h1]; exact ha
  · rw [show (i + 1).toNat = i.toNat + 1 by omega]; exact hb

/-! #### spec_l1In -/
theorem spec_l1In_f (a lo hi : Int) : spec_l1In.f a lo hi = some (decide (lo ≤ a ∧ a ≤ hi)) := by
  unfold spec_l1In.f
  by_cases h : a ≥ lo
  · rw [if_pos h]; congr 1; rw [decide_eq_decide]; omega
  · rw [if_neg h]; congr 1; rw [eq_comm, decide_eq_false_iff_not]; omega

/-! #### TokenStep -/
def tokStep (t : Int) (s : Bool) : Int × Bool :=
  if t < 0 ∨ 10 < t then (-1, false) else if s = true then (if t + 1 ≤ 10 then t + 1 else 10, false) else if 3 ≤ t then (t - 3, true) else (t, false)
theorem spec_TokenStep_f (t : Int) (s : Bool) : spec_TokenStep.f t s = some (tokStep t s) := by
  unfold spec_TokenStep.f tokStep
  rw [spec_l1In_f, Option.bind_some]
  by_cases h : 0 ≤ t ∧ t ≤ 10
  · have hc : ¬ (t < 0 ∨ 10 < t) := by omega
    rw [if_pos (by simpa using h), if_neg hc, w64 (n := t + 1) (by omega) (by omega), w64 (n := t - 3) (by omega) (by omega), mn_eq]
    cases s
    · by_cases h3 : t < 3
      · rw [if_neg (by simp), if_pos h3, if_neg (by simp), if_neg (by omega)]
      · rw [if_neg (by simp), if_neg h3, if_neg (by simp), if_pos (by omega)]
    · rw [if_pos rfl, if_pos rfl]
      congr 2
      split <;> split <;> omega
  · rw [if_neg (by simpa using h), if_pos (by omega)]
theorem impl_TokenStep_f (t : Int) (s : Bool) : impl_TokenStep.fL t s = some (tokStep t s) := by
  rw [impl_TokenStep.fL_eq, impl_TokenStep.j0L_eq, impl_TokenStep.j0L_eq]
  unfold tokStep
  by_cases h0 : t < 0
  · rw [if_pos h0, if_pos rfl, if_pos (by omega)]
  · rw [if_neg h0]
    by_cases h1 : t > 10
    · rw [if_pos (by simpa using h1), if_pos (by omega)]
    · have hc : ¬ (t < 0 ∨ 10 < t) := by omega
      rw [if_neg (by simpa using h1), if_neg hc, w64 (n := t + 1) (by omega) (by omega), w64 (n := t - 3) (by omega) (by omega), mn_eq]
      cases s
      · by_cases h3 : t ≥ 3
        · rw [if_neg (by simp), if_pos h3, if_neg (by simp), if_pos (by omega)]
        · rw [if_neg (by simp), if_neg h3, if_neg (by simp), if_neg (by omega)]
      · rw [if_pos rfl, if_pos rfl]
theorem tokStep_range (t : Int) (s : Bool) (h0 : 0 ≤ t) (h1 : t ≤ 10) : 0 ≤ (tokStep t s).1 ∧ (tokStep t s).1 ≤ 10 := by
  unfold tokStep
  split
  · omega
  · split
    · dsimp only; split <;> omega
    · split <;> (dsimp only; omega)

/-! #### TokenRun -/
def tokRun : List Bool → Int → Int → Int × Int
  | [], t, n => (t, n)
  | b :: bs, t, n => tokRun bs (tokStep t b).1 (if (tokStep t b).2 = true then n + 1 else n)
def tokenRun (t : Int) (l : List Bool) : Int × Int := if 0 ≤ t ∧ t ≤ 10 ∧ l.length ≤ 200 then tokRun l t 0 else (-1, -1)
theorem spec_TokenRun_l0 (xs : List Bool) (hx : xs.length ≤ 1000) : ∀ (ys : List Bool) (i t n : Int), 0 ≤ i → i ≤ xs.length → xs.drop i.toNat = ys → 0 ≤ t → t ≤ 10 → 0 ≤ n → n ≤ i → spec_TokenRun.l0L t xs n i = some (tokRun ys t n)
  | [], i, t, n, h0, h1, hd, h2, h3, h4, h5 => by
    have := drop_nil h0 h1 hd
    rw [spec_TokenRun.l0L_eq, if_neg (by omega)]; rfl
  | y :: ys, i, t, n, h0, h1, hd, h2, h3, h4, h5 => by
    obtain ⟨hr, hl, hd'⟩ := rdOf_drop (d := false) h0 hd
    have ht := tokStep_range t y h2 h3
    rw [spec_TokenRun.l0L_eq, if_pos hl, if_pos h0, hr, spec_TokenStep_f, Option.bind_some, w64 (n := i + 1) (by omega) (by omega), w64 (n := n + 1) (by omega) (by omega)]
    simp only [tokRun]
    by_cases e : (tokStep t y).2 = true
    · rw [if_pos e, if_pos e]; exact spec_TokenRun_l0 xs hx ys (i + 1) _ _ (by omega) (by omega) hd' ht.1 ht.2 (by omega) (by omega)
    · rw [if_neg e, if_neg e]; exact spec_TokenRun_l0 xs hx ys (i + 1) _ _ (by omega) (by omega) hd' ht.1 ht.2 (by omega) (by omega)
theorem spec_TokenRun_f (t : Int) (xs : List Bool) : spec_TokenRun.fL t xs = some (tokenRun t xs) := by
  rw [spec_TokenRun.fL_eq, spec_l1In_f, Option.bind_some, spec_TokenRun.j0L_eq, spec_TokenRun.j0L_eq]
  unfold tokenRun
  by_cases h : 0 ≤ t ∧ t ≤ 10
  · rw [if_pos (by simpa using h)]
    by_cases h1 : (xs.length : Int) > 200
    · rw [if_pos (by simpa using h1), if_neg (by omega)]
    · rw [if_neg (by simpa using h1), if_pos (by omega)]
      exact spec_TokenRun_l0 xs (by omega) xs 0 t 0 (by omega) (by omega) (by simp) h.1 h.2 (by omega) (by omega)
  · rw [if_neg (by simpa using h), if_pos rfl, if_neg (by omega)]
theorem impl_TokenRun_l0 (xs : List Bool) (hx : xs.length ≤ 1000) : ∀ (ys : List Bool) (i t n : Int), 0 ≤ i → i ≤ xs.length → xs.drop i.toNat = ys → 0 ≤ t → t ≤ 10 → 0 ≤ n → n ≤ i → impl_TokenRun.l0L t n xs (xs.length : Int) i = some (tokRun ys t n)
  | [], i, t, n, h0, h1, hd, h2, h3, h4, h5 => by
    have := drop_nil h0 h1 hd
    rw [impl_TokenRun.l0L_eq, if_neg (by omega)]; rfl
  | y :: ys, i, t, n, h0, h1, hd, h2, h3, h4, h5 => by
    obtain ⟨hr, hl, hd'⟩ := rdOf_drop (d := false) h0 hd
    have ht := tokStep_range t y h2 h3
    rw [impl_TokenRun.l0L_eq, if_pos hl, if_pos h0, if_pos hl, hr, impl_TokenStep_f, Option.bind_some, w64 (n := i + 1) (by omega) (by omega), w64 (n := n + 1) (by omega) (by omega)]
    simp only [tokRun]
    by_cases e : (tokStep t y).2 = true
    · rw [if_pos e, if_pos e]; exact impl_TokenRun_l0 xs hx ys (i + 1) _ _ (by omega) (by omega) hd' ht.1 ht.2 (by omega) (by omega)
    · rw [if_neg e, if_neg e]; exact impl_TokenRun_l0 xs hx ys (i + 1) _ _ (by omega) (by omega) hd' ht.1 ht.2 (by omega) (by omega)
theorem impl_TokenRun_f (t : Int) (xs : List Bool) : impl_TokenRun.fL t xs = some (tokenRun t xs) := by
  rw [impl_TokenRun.fL_eq, impl_TokenRun.j0L_eq, impl_TokenRun.j0L_eq]
  unfold tokenRun
  by_cases h0 : t < 0
  · rw [if_pos h0, if_pos rfl, if_neg (by omega)]
  · rw [if_neg h0]
    by_cases h : t > 10
    · rw [if_pos h, if_pos rfl, if_neg (by omega)]
    · rw [if_neg h]
      by_cases h1 : (xs.length : Int) > 200
      · rw [if_pos (by simpa using h1), if_neg (by omega)]
      · rw [if_neg (by simpa using h1), if_pos (by omega)]
        exact impl_TokenRun_l0 xs (by omega) xs 0 t 0 (by omega) (by omega) (by simp) (by omega) (by omega) (by omega) (by omega)

/-! #### intS -/
theorem set_at {α : Type} {xs : List α} {i : Nat} {y z : α} {ys : List α} (h : xs.drop i = y :: ys) : (xs.set i z).take (i + 1) = xs.take i ++ [z] ∧ (xs.set i z).drop (i + 1) = ys ∧ (xs.set i z).length = xs.length := by
  have h1 : i < xs.length := by
    by_cases e : i < xs.length
    · exact e
    · rw [List.drop_eq_nil_of_le (by omega)] at h; cases h
  rw [List.drop_eq_getElem_cons h1] at h
  injection h with ha hb
  refine ⟨?_, ?_, by simp⟩
  · rw [List.take_succ_eq_append_getElem (by simpa using h1), List.take_set_of_le (by omega)]; simp
  · rw [List.drop_set_of_lt (by omega)]; exact hb
theorem drop_take_cons {α : Type} {xs pre : List α} {i : Nat} {y : α} {ys : List α} (h : xs.drop i = y :: ys) : xs.take (i + 1) = xs.take i ++ [y] ∧ i < xs.length ∧ xs.drop (i + 1) = ys := by
  have h1 : i < xs.length := by
    by_cases e : i < xs.length
    · exact e
    · rw [List.drop_eq_nil_of_le (by omega)] at h; cases h
  rw [List.drop_eq_getElem_cons h1] at h
  injection h with ha hb
  exact ⟨by rw [List.take_succ_eq_append_getElem h1, ha], h1, hb⟩

/-! #### loops -/
theorem getD_drop {α : Type} {xs : List α} {d : α} {i : Int} {y : α} {ys : List α} (h0 : 0 ≤ i) (h : xs.drop i.toNat = y :: ys) : xs.getD i.toNat d = y ∧ i < xs.length ∧ xs.drop (i + 1).toNat = ys := by
  have h1 : i.toNat < xs.length := by
    by_cases e : i.toNat < xs.length
    · exact e
    · rw [List.drop_eq_nil_of_le (by omega)] at h; cases h
  rw [List.drop_eq_getElem_cons h1] at h
  injection h with ha hb
  refine ⟨?_, by omega, ?_⟩
  · rw [List.getD_eq_getElem?_getD, List.getElem?_eq_getElem h1]; exact ha
  · rw [show (i + 1).toNat = i.toNat + 1 by omega]; exact hb
/-- A copy, element by element, into a list of the same length. -/
theorem copy_loop {α : Type} (ys : List α) (d : α) (n : Nat) (hn : n = ys.length) (L : List α → Int → Option (List α))
    (hL : ∀ (zs : List α) (i : Int), 0 ≤ i → i ≤ n → zs.length = n → L zs i = if i < (n : Int) then L (zs.set i.toNat (ys.getD i.toNat d)) (i + 1) else some zs) :
    ∀ (ws zs : List α) (i : Int), 0 ≤ i → i ≤ n → ys.drop i.toNat = ws → zs.length = n → zs.take i.toNat = ys.take i.toNat → L zs i = some ys
  | [], zs, i, h0, h1, hd, hl, ht => by
    have := drop_nil h0 (by omega) hd
    rw [hL zs i h0 h1 hl, if_neg (by omega)]
    rw [List.take_of_length_le (by omega), List.take_of_length_le (by omega)] at ht
    rw [ht]
  | w :: ws, zs, i, h0, h1, hd, hl, ht => by
    obtain ⟨hr, hlt, hd'⟩ := getD_drop (d := d) h0 hd
    obtain ⟨t1, _, _⟩ := drop_take_cons (pre := ys) hd
    have hz : zs.drop i.toNat = zs[i.toNat]'(by omega) :: zs.drop (i.toNat + 1) := List.drop_eq_getElem_cons (by omega)
    obtain ⟨s1, s2, s3⟩ := set_at (z := w) hz
    rw [hL zs i h0 h1 hl, if_pos (by omega), hr]
    exact copy_loop ys d n hn L hL ws _ (i + 1) (by omega) (by omega) hd' (by omega) (by rw [show (i + 1).toNat = i.toNat + 1 by omega, s1, t1, ht])
/-- A comparison, element by element, of lists of the same length. -/
theorem eq_loop {α : Type} [DecidableEq α] (xs zs : List α) (d : α) (hl : xs.length = zs.length) (L : Int → Option Bool)
    (hL : ∀ i : Int, 0 ≤ i → i ≤ xs.length → L i = if i < (xs.length : Int) then (if xs.getD i.toNat d = zs.getD i.toNat d then L (i + 1) else some false) else some true) :
    ∀ (ys ws : List α) (i : Int), 0 ≤ i → i ≤ xs.length → xs.drop i.toNat = ys → zs.drop i.toNat = ws → L i = some (decide (ys = ws))
  | [], ws, i, h0, h1, hd, hw => by
    have := drop_nil h0 h1 hd
    rw [hL i h0 h1, if_neg (by omega)]
    rw [List.drop_eq_nil_of_le (by omega)] at hw
    rw [← hw]; rfl
  | y :: ys, [], i, h0, h1, hd, hw => by
    have := drop_nil h0 (by omega) hw
    obtain ⟨hr, hlt, hd'⟩ := getD_drop (d := d) h0 hd
    omega
  | y :: ys, w :: ws, i, h0, h1, hd, hw => by
    obtain ⟨hr, hlt, hd'⟩ := getD_drop (d := d) h0 hd
    obtain ⟨hr2, hlt2, hw'⟩ := getD_drop (d := d) h0 hw
    rw [hL i h0 h1, if_pos hlt, hr, hr2]
    by_cases e : y = w
    · rw [if_pos e, eq_loop xs zs d hl L hL ys ws (i + 1) (by omega) (by omega) hd' hw']
      simp [e]
    · rw [if_neg e]; simp [e]
theorem eq_loop0 {α : Type} [DecidableEq α] (xs zs : List α) (d : α) (hl : xs.length = zs.length) (L : Int → Option Bool)
    (hL : ∀ i : Int, 0 ≤ i → i ≤ xs.length → L i = if i < (xs.length : Int) then (if xs.getD i.toNat d = zs.getD i.toNat d then L (i + 1) else some false) else some true) : L 0 = some (decide (xs = zs)) :=
  eq_loop xs zs d hl L hL xs zs 0 (by omega) (by omega) (by simp) (by simp)
theorem copy_loop0 {α : Type} (ys zs : List α) (d : α) (n : Nat) (hn : n = ys.length) (hz : zs.length = n) (L : List α → Int → Option (List α))
    (hL : ∀ (zs : List α) (i : Int), 0 ≤ i → i ≤ n → zs.length = n → L zs i = if i < (n : Int) then L (zs.set i.toNat (ys.getD i.toNat d)) (i + 1) else some zs) : L zs 0 = some ys :=
  copy_loop ys d n hn L hL ys zs 0 (by omega) (by omega) (by simp) hz (by simp)
/-- Marks: an element for each number, c numbers an element. -/
def marks {α : Type} (el : Int → α) (c : Int) : Nat → Int → List α
  | 0, _ => []
  | n + 1, k => el k :: marks el c n (k + c)
theorem marks_length {α : Type} (el : Int → α) (c : Int) : ∀ (n : Nat) (k : Int), (marks el c n k).length = n
  | 0, _ => rfl
  | n + 1, k => by simp [marks, marks_length el c n]
theorem mark_loop {α : Type} (el : Int → α) (c : Int) (hc : 0 ≤ c) (hc2 : c ≤ 1000) (n : Nat) (hn : n ≤ 1000000000) (L : List α → Int → Int → Option (Int × List α))
    (hL : ∀ (zs : List α) (k i : Int), 0 ≤ i → i ≤ n → zs.length = n → 0 ≤ k → k ≤ 100000000000 + 1000 * n → L zs k i = if i < (n : Int) then L (zs.set i.toNat (el k)) (k + c) (i + 1) else some (k, zs)) :
    ∀ (ys zs : List α) (k i : Int), 0 ≤ i → i ≤ n → zs.length = n → zs.drop i.toNat = ys → 0 ≤ k → k ≤ 100000000000 + 1000 * i → L zs k i = some (k + c * ys.length, zs.take i.toNat ++ marks el c ys.length k)
  | [], zs, k, i, h0, h1, hl, hd, hk, hk2 => by
    have := drop_nil h0 (by omega) hd
    rw [hL zs k i h0 h1 hl hk (by omega), if_neg (by omega), List.take_of_length_le (by omega)]; simp [marks]
  | y :: ys, zs, k, i, h0, h1, hl, hd, hk, hk2 => by
    obtain ⟨hr, hlt, hd'⟩ := getD_drop (d := y) h0 hd
    obtain ⟨s1, s2, s3⟩ := set_at (z := el k) hd
    rw [hL zs k i h0 h1 hl hk (by omega), if_pos (by omega),
      mark_loop el c hc hc2 n hn L hL ys _ (k + c) (i + 1) (by omega) (by omega) (by omega) (by rw [show (i + 1).toNat = i.toNat + 1 by omega]; exact s2) (by omega) (by omega),
      show (i + 1).toNat = i.toNat + 1 by omega, s1]
    simp only [List.length_cons, marks, List.append_assoc, List.singleton_append]
    congr 2
    rw [show ((ys.length + 1 : Nat) : Int) = (ys.length : Int) + 1 by omega, Int.mul_add]
    omega
theorem mark_loop0 {α : Type} (el : Int → α) (c : Int) (hc : 0 ≤ c) (hc2 : c ≤ 1000) (zs : List α) (hn : zs.length ≤ 1000000000) (k : Int) (hk : 0 ≤ k) (hk2 : k ≤ 100000000000) (L : List α → Int → Int → Option (Int × List α))
    (hL : ∀ (ws : List α) (k i : Int), 0 ≤ i → i ≤ zs.length → ws.length = zs.length → 0 ≤ k → k ≤ 100000000000 + 1000 * zs.length → L ws k i = if i < (zs.length : Int) then L (ws.set i.toNat (el k)) (k + c) (i + 1) else some (k, ws)) :
    L zs k 0 = some (k + c * zs.length, marks el c zs.length k) := by
  have := mark_loop el c hc hc2 zs.length hn L hL zs zs k 0 (by omega) (by omega) rfl (by simp) hk (by omega)
  simpa using this
theorem held_loop {α : Type} (el : Int → α) (d : α) (c : Int) (hc : 0 ≤ c) (hc2 : c ≤ 1000) (zs : List α) (hn : zs.length ≤ 1000000000) (L : Int → Int → Option Int)
    (hL : ∀ k i : Int, 0 ≤ i → i ≤ zs.length → 0 ≤ k → k ≤ 100000000000 + 1000 * zs.length → (i < zs.length → zs.getD i.toNat d = el k) → L k i = if i < (zs.length : Int) then L (k + c) (i + 1) else some k) :
    ∀ (n : Nat) (k i : Int), 0 ≤ i → i ≤ zs.length → zs.drop i.toNat = marks el c n k → 0 ≤ k → k ≤ 100000000000 + 1000 * i → L k i = some (k + c * n)
  | 0, k, i, h0, h1, hd, hk, hk2 => by
    have := drop_nil h0 h1 hd
    rw [hL k i h0 h1 hk (by omega) (fun h => by omega), if_neg (by omega)]; simp
  | n + 1, k, i, h0, h1, hd, hk, hk2 => by
    obtain ⟨hr, hlt, hd'⟩ := getD_drop (d := d) h0 hd
    rw [hL k i h0 h1 hk (by omega) (fun _ => hr), if_pos hlt, held_loop el d c hc hc2 zs hn L hL n (k + c) (i + 1) (by omega) (by omega) hd' (by omega) (by omega)]
    congr 1
    rw [show ((n + 1 : Nat) : Int) = (n : Int) + 1 by omega, Int.mul_add]
    omega
theorem held_loop0 {α : Type} (el : Int → α) (d : α) (c : Int) (hc : 0 ≤ c) (hc2 : c ≤ 1000) (n : Nat) (hn : n ≤ 1000000000) (k : Int) (hk : 0 ≤ k) (hk2 : k ≤ 100000000000) (L : Int → Int → Option Int)
    (hL : ∀ k' i : Int, 0 ≤ i → i ≤ n → 0 ≤ k' → k' ≤ 100000000000 + 1000 * n → (i < n → (marks el c n k).getD i.toNat d = el k') → L k' i = if i < (n : Int) then L (k' + c) (i + 1) else some k') :
    L k 0 = some (k + c * n) := by
  have hm := marks_length el c n k
  refine held_loop el d c hc hc2 (marks el c n k) (by omega) L (fun k' i => ?_) n k 0 (by omega) (by omega) (by simp) hk (by omega)
  rw [hm]
  exact hL k' i

/-! #### refl_loop -/
theorem refl_loop (n : Nat) (L : Int → Option Bool) (hL : ∀ i : Int, 0 ≤ i → i ≤ n → L i = if i < (n : Int) then L (i + 1) else some true) : ∀ (m : Nat) (i : Int), i + m = n → 0 ≤ i → L i = some true
  | 0, i, h, h0 => by rw [hL i h0 (by omega), if_neg (by omega)]
  | m + 1, i, h, h0 => by rw [hL i h0 (by omega), if_pos (by omega)]; exact refl_loop n L hL m (i + 1) (by omega) (by omega)
theorem refl_loop0 (n : Nat) (L : Int → Option Bool) (hL : ∀ i : Int, 0 ≤ i → i ≤ n → L i = if i < (n : Int) then L (i + 1) else some true) : L 0 = some true := refl_loop n L hL n 0 (by omega) (by omega)

/-! #### boolS -/
theorem laws_toBoolS_f (xs : List Bool) (hx : xs.length ≤ 35184372088832) : laws_toBoolS.fL xs = some xs := by
  rw [laws_toBoolS.fL_eq, if_pos (by omega), if_pos (by omega)]
  refine copy_loop0 xs _ false xs.length rfl (by simp) (fun zs i => laws_toBoolS.l0L xs zs i) (fun zs i h0 h1 hl => ?_)
  rw [laws_toBoolS.l0L_eq]
  by_cases h : i < (xs.length : Int)
  · rw [if_pos h, if_pos h0, if_pos (by omega), w64 (by omega) (by omega), if_pos h]; rfl
  · rw [if_neg h, if_neg h]
theorem laws_eqBoolS_refl (xs : List Bool) (hx : xs.length ≤ 1000000000000) : laws_eqBoolS.fL xs xs = some true := by
  rw [laws_eqBoolS.fL_eq, if_pos rfl]
  refine refl_loop0 xs.length (fun i => laws_eqBoolS.l0L xs xs i) (fun i h0 h1 => ?_)
  rw [laws_eqBoolS.l0L_eq]
  by_cases h : i < (xs.length : Int)
  · rw [if_pos h, if_pos h0, if_pos h, if_neg (by simp), w64 (by omega) (by omega), if_pos h]
  · rw [if_neg h, if_neg h]

end Go.Proofs.Ytpeifepnaecjiaa.Pure
