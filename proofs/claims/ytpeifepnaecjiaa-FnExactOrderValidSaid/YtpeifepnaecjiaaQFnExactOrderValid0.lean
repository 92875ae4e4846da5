/- Lemmas for FnExactOrderValid: what each function comes to. No condition. -/
import Derived.Test.YtpeifepnaecjiaaLFnExactOrderValid
namespace Go.Proofs.Ytpeifepnaecjiaa.Pure
open Go.RowKit Go.Proofs.Ytpeifepnaecjiaa.PFnExactOrderValid Go.Proofs.YtpeifepnaecjiaaW.PrintWords Go.Proofs.YtpeifepnaecjiaaW.PrintLast Go.Proofs.YtpeifepnaecjiaaW.PrintMore Go.Proofs.Ytpeifepnaecjiaa.Lim
set_option linter.unusedVariables false
set_option linter.unusedSimpArgs false

/-! #### basic -/
theorem w64 {n : Int} (h1 : -9223372036854775808 ≤ n) (h2 : n ≤ 9223372036854775807) : wrap64 n = n := by unfold wrap64; omega
theorem wf64 {n : Int} (h : (Lit.int .i64 n).wf = true) : -9223372036854775808 ≤ n ∧ n ≤ 9223372036854775807 := by
  simp only [Lit.wf, IntKind.min, IntKind.max, IntKind.signed, IntKind.bits, Bool.and_eq_true, decide_eq_true_eq, if_true] at h
  omega
theorem wf8 {n : Int} (h : (Lit.int .u8 n).wf = true) : 0 ≤ n ∧ n ≤ 255 := by
  simp only [Lit.wf, IntKind.min, IntKind.max, IntKind.signed, IntKind.bits, Bool.and_eq_true, decide_eq_true_eq] at h
  simp at h
  omega
theorem mn_eq (a b : Int) : mn a b = if a ≤ b then a else b := by unfold mn; split <;> split <;> omega
theorem mx_eq (a b : Int) : mx a b = if a ≤ b then b else a := by unfold mx; split <;> split <;> omega
theorem rd_drop {xs : List Int} {i : Int} {y : Int} {ys : List Int} (h0 : 0 ≤ i) (h : xs.drop i.toNat = y :: ys) : rd xs i = y ∧ i < xs.length ∧ xs.drop (i + 1).toNat = ys := by
  have h1 : i.toNat < xs.length := by
    by_cases e : i.toNat < xs.length
    · exact e
    · rw [List.drop_eq_nil_of_le (by omega)] at h; cases h
  rw [List.drop_eq_getElem_cons h1] at h
  injection h with ha hb
  refine ⟨?_, by omega, ?_⟩
  · unfold rd; rw [List.getD_eq_getElem?_getD, List.getElem?_eq_getElem h1]; exact ha
  · rw [show (i + 1).toNat = i.toNat + 1 by omega]; exact hb
theorem drop_nil {α : Type} {xs : List α} {i : Int} (h0 : 0 ≤ i) (hi : i ≤ xs.length) (h : xs.drop i.toNat = []) : i = xs.length := by
  have := congrArg List.length h
  simp at this
  omega
theorem rdOf_drop {α : Type} {d : α} {xs : List α} {i : Int} {y : α} {ys : List α} (h0 : 0 ≤ i) (h : xs.drop i.toNat = y :: ys) : rdOf d xs i = y ∧ i < xs.length ∧ xs.drop (i + 1).toNat = ys := by
  have h1 : i.toNat < xs.length := by
    by_cases e : i.toNat < xs.length
    · exact e
    · rw [List.drop_eq_nil_of_le (by omega)] at h; cases h
  rw [List.drop_eq_getElem_cons h1] at h
  injection h with ha hb
  refine ⟨?_, by omega, ?_⟩
  · unfold rdOf; rw [List.getD_eq_getElem?_getD, List.getElem?_eq_getElem h1]; exact ha
  · rw [show (i + 1).toNat = i.toNat + 1 by omega]; exact hb

/-! #### spec_l1In -/
theorem spec_l1In_f (a lo hi : Int) : spec_l1In.f a lo hi = some (decide (lo ≤ a ∧ a ≤ hi)) := by
  unfold spec_l1In.f
  by_cases h : a ≥ lo
  · rw [if_pos h]; congr 1; rw [decide_eq_decide]; omega
  · rw [if_neg h]; congr 1; rw [eq_comm, decide_eq_false_iff_not]; omega

/-! #### index_int -/
/-- Where v is first, from an index on; -1 if nowhere. -/
def idx (v : Int) : List Int → Int → Int
  | [], _ => -1
  | y :: ys, i => if v = y then i else idx v ys (i + 1)
theorem slices_Index_l0 (xs : List Int) (v : Int) (hx : xs.length ≤ 1000000000000000) : ∀ (ys : List Int) (i : Int), 0 ≤ i → i ≤ xs.length → xs.drop i.toNat = ys → slices_Index_int_int.l0L xs v (xs.length : Int) i = some (idx v ys i)
  | [], i, h0, h1, hd => by
    have := drop_nil h0 h1 hd
    rw [slices_Index_int_int.l0L_eq, if_neg (by omega)]; rfl
  | y :: ys, i, h0, h1, hd => by
    obtain ⟨hr, hl, hd'⟩ := rd_drop h0 hd
    rw [slices_Index_int_int.l0L_eq, if_pos hl, if_pos h0, if_pos hl, hr, w64 (by omega) (by omega)]
    simp only [idx]
    by_cases e : v = y
    · rw [if_pos e, if_pos e]
    · rw [if_neg e, if_neg e]; exact slices_Index_l0 xs v hx ys (i + 1) (by omega) (by omega) hd'
theorem slices_Index_f (xs : List Int) (v : Int) (hx : xs.length ≤ 1000000000000000) : slices_Index_int_int.fL xs v = some (idx v xs 0) := by
  rw [slices_Index_int_int.fL_eq]; exact slices_Index_l0 xs v hx xs 0 (by omega) (by omega) (by simp)
theorem idx_ge (v : Int) : ∀ (ys : List Int) (i : Int), 0 ≤ i → (idx v ys i ≥ 0 ↔ v ∈ ys)
  | [], i, _ => by simp [idx]
  | y :: ys, i, h => by
    have ih := idx_ge v ys (i + 1) (by omega)
    simp only [idx, List.mem_cons]
    by_cases e : v = y
    · rw [if_pos e]; simp [e, h]
    · rw [if_neg e, ih]; simp [e]
theorem slices_Contains_f (xs : List Int) (v : Int) (hx : xs.length ≤ 1000000000000000) : slices_Contains_int_int.fL xs v = some (decide (v ∈ xs)) := by
  rw [slices_Contains_int_int.fL_eq, slices_Index_f xs v hx, Option.bind_some]
  congr 1
  rw [decide_eq_decide]
  exact idx_ge v xs 0 (by omega)

/-! #### OrderValid -/
/-- The rest of an order is right, behind what was before. -/
def okFrom (many : Int) : List Int → List Int → Bool
  | _, [] => true
  | pre, y :: ys => decide (0 ≤ y ∧ y < many) && !decide (y ∈ pre) && okFrom many (pre ++ [y]) ys
def orderOk (many : Int) (l : List Int) : Bool := decide (l.length ≤ 5 ∧ (l.length : Int) = many) && okFrom many [] l
theorem take_snoc_drop {α : Type} {xs : List α} {i : Nat} {y : α} {ys : List α} (h : xs.drop i = y :: ys) : xs.take (i + 1) = xs.take i ++ [y] := by
  have h1 : i < xs.length := by
    by_cases e : i < xs.length
    · exact e
    · rw [List.drop_eq_nil_of_le (by omega)] at h; cases h
  rw [List.drop_eq_getElem_cons h1] at h
  injection h with ha hb
  rw [List.take_succ_eq_append_getElem h1, ha]
theorem impl_OrderValid_l0 (many : Int) (xs : List Int) (hx : xs.length ≤ 5) : ∀ (ys : List Int) (i : Int), 0 ≤ i → i ≤ xs.length → xs.drop i.toNat = ys → impl_OrderValid.l0L many xs xs (xs.length : Int) i = some (okFrom many (xs.take i.toNat) ys)
  | [], i, h0, h1, hd => by
    have := drop_nil h0 h1 hd
    rw [impl_OrderValid.l0L_eq, if_neg (by omega)]; rfl
  | y :: ys, i, h0, h1, hd => by
    obtain ⟨hr, hl, hd'⟩ := rd_drop h0 hd
    have ht := take_snoc_drop hd
    have hle : i ≤ (xs.length : Int) := h1
    rw [impl_OrderValid.l0L_eq, if_pos hl, if_pos h0, if_pos hl, hr, if_pos hle, slices_Contains_f _ _ (by rw [List.length_take]; omega), Option.bind_some, w64 (by omega) (by omega)]
    simp only [okFrom]
    by_cases e1 : y < 0
    · rw [if_pos e1, decide_eq_false (p := 0 ≤ y ∧ y < many) (by omega)]; rfl
    · rw [if_neg e1]
      by_cases e2 : y ≥ many
      · rw [if_pos e2, decide_eq_false (p := 0 ≤ y ∧ y < many) (by omega)]; rfl
      · rw [if_neg e2, decide_eq_true (p := 0 ≤ y ∧ y < many) (by omega)]
        by_cases e3 : y ∈ xs.take i.toNat
        · rw [decide_eq_true e3, if_pos rfl]; rfl
        · rw [decide_eq_false e3, if_neg (by simp), impl_OrderValid_l0 many xs hx ys (i + 1) (by omega) (by omega) hd', show (i + 1).toNat = i.toNat + 1 by omega, ht]; rfl
theorem impl_OrderValid_f (many : Int) (xs : List Int) : impl_OrderValid.fL many xs = some (orderOk many xs) := by
  rw [impl_OrderValid.fL_eq, impl_OrderValid.j0L_eq, impl_OrderValid.j0L_eq]
  unfold orderOk
  by_cases h1 : (xs.length : Int) > 5
  · rw [if_pos h1, if_pos rfl, decide_eq_false (by omega)]; rfl
  · rw [if_neg h1]
    by_cases h2 : (xs.length : Int) = many
    · rw [if_neg (by simpa using h2), decide_eq_true (by omega), impl_OrderValid_l0 many xs (by omega) xs 0 (by omega) (by omega) (by simp)]; rfl
    · rw [if_pos (by simpa using h2), decide_eq_false (by omega)]; rfl
theorem spec_OrderValid_l1 (many : Int) (xs : List Int) (hx : xs.length ≤ 5) (k y : Int) (h0 : 0 ≤ k) (hk : k < xs.length) (hy : rd xs k = y) : ∀ (zs : List Int) (j : Int), 0 ≤ j → j ≤ k → (xs.take k.toNat).drop j.toNat = zs → spec_OrderValid.l1L many xs k j = if y ∈ zs then some false else spec_OrderValid.l0L many xs (k + 1)
  | [], j, h1, h2, hd => by
    have hl : (xs.take k.toNat).length = k.toNat := by rw [List.length_take]; omega
    have := drop_nil h1 (by omega) hd
    rw [spec_OrderValid.l1L_eq, if_neg (by omega), w64 (by omega) (by omega), if_neg (by simp)]
  | z :: zs, j, h1, h2, hd => by
    have hl : (xs.take k.toNat).length = k.toNat := by rw [List.length_take]; omega
    obtain ⟨hr, hlt, hd'⟩ := rd_drop h1 hd
    have hr' : rd xs j = z := by
      rw [← hr]; unfold rd
      rw [List.getD_eq_getElem?_getD, List.getD_eq_getElem?_getD, List.getElem?_take, if_pos (by omega)]
    rw [spec_OrderValid.l1L_eq, if_pos (by omega), if_pos h1, if_pos (by omega), if_pos h0, if_pos hk, hr', hy, w64 (by omega) (by omega)]
    by_cases e : z = y
    · rw [if_pos e, if_pos (by simp [e])]
    · rw [if_neg e, spec_OrderValid_l1 many xs hx k y h0 hk hy zs (j + 1) (by omega) (by omega) hd']
      have e' : ¬ y = z := fun h => e h.symm
      simp [e']
theorem spec_OrderValid_l0 (many : Int) (hm : many ≤ 5) (hm0 : 0 ≤ many) (xs : List Int) (hx : xs.length ≤ 5) : ∀ (ys : List Int) (i : Int), 0 ≤ i → i ≤ xs.length → xs.drop i.toNat = ys → spec_OrderValid.l0L many xs i = some (okFrom many (xs.take i.toNat) ys)
  | [], i, h0, h1, hd => by
    have := drop_nil h0 h1 hd
    rw [spec_OrderValid.l0L_eq, if_neg (by omega)]; rfl
  | y :: ys, i, h0, h1, hd => by
    obtain ⟨hr, hl, hd'⟩ := rd_drop h0 hd
    have ht := take_snoc_drop hd
    rw [spec_OrderValid.l0L_eq, if_pos hl, if_pos h0, hr, spec_l1In_f, Option.bind_some, w64 (by omega) (by omega)]
    simp only [okFrom]
    by_cases e1 : 0 ≤ y ∧ y < many
    · rw [if_pos (by simp; omega), decide_eq_true e1, spec_OrderValid_l1 many xs hx i y h0 hl hr (xs.take i.toNat) 0 (by omega) h0 (by simp), spec_OrderValid_l0 many hm hm0 xs hx ys (i + 1) (by omega) (by omega) hd', show (i + 1).toNat = i.toNat + 1 by omega, ht]
      by_cases e3 : y ∈ xs.take i.toNat
      · rw [decide_eq_true e3, if_pos e3]; rfl
      · rw [decide_eq_false e3, if_neg e3]; rfl
    · rw [if_neg (by simp; omega), decide_eq_false e1]; rfl
theorem spec_OrderValid_f (many : Int) (xs : List Int) : spec_OrderValid.fL many xs = some (orderOk many xs) := by
  rw [spec_OrderValid.fL_eq, spec_OrderValid.j0L_eq, spec_OrderValid.j0L_eq]
  unfold orderOk
  by_cases h1 : many > 5
  · rw [if_pos h1, if_pos rfl, decide_eq_false (by omega)]; rfl
  · rw [if_neg h1]
    by_cases h2 : (xs.length : Int) = many
    · rw [if_neg (by simpa using h2), decide_eq_true (by omega), spec_OrderValid_l0 many (by omega) (by omega) xs (by omega) xs 0 (by omega) (by omega) (by simp)]; rfl
    · rw [if_pos (by simpa using h2), decide_eq_false (by omega)]; rfl
theorem okFrom_iff (many : Int) : ∀ (ys pre : List Int), okFrom many pre ys = true ↔ (∀ y ∈ ys, 0 ≤ y ∧ y < many) ∧ ys.Nodup ∧ ∀ y ∈ ys, y ∉ pre
  | [], pre => by simp [okFrom]
  | y :: ys, pre => by
    simp only [okFrom, Bool.and_eq_true, decide_eq_true_eq, Bool.not_eq_true', decide_eq_false_iff_not, okFrom_iff many ys, List.mem_cons, List.nodup_cons, List.mem_append, List.not_mem_nil, or_false]
    constructor
    · rintro ⟨⟨h1, h2⟩, h3, h4, h5⟩
      refine ⟨?_, ⟨?_, h4⟩, ?_⟩
      · rintro z (rfl | hz)
        · exact h1
        · exact h3 z hz
      · exact fun hm => (h5 y hm) (.inr rfl)
      · rintro z (rfl | hz)
        · exact h2
        · exact fun hp => h5 z hz (.inl hp)
    · rintro ⟨h1, ⟨h2, h3⟩, h4⟩
      refine ⟨⟨h1 y (.inl rfl), h4 y (.inl rfl)⟩, fun z hz => h1 z (.inr hz), h3, ?_⟩
      rintro z hz (hp | rfl)
      · exact h4 z (.inr hz) hp
      · exact h2 hz
theorem orderOk_iff (many : Int) (l : List Int) : orderOk many l = true ↔ l.length ≤ 5 ∧ (l.length : Int) = many ∧ (∀ y ∈ l, 0 ≤ y ∧ y < many) ∧ l.Nodup := by
  unfold orderOk
  rw [Bool.and_eq_true, decide_eq_true_eq, okFrom_iff]
  simp [and_assoc]

/-! #### intS -/
theorem set_at {α : Type} {xs : List α} {i : Nat} {y z : α} {ys : List α} (h : xs.drop i = y :: ys) : (xs.set i z).take (i + 1) = xs.take i ++ [z] ∧ (xs.set i z).drop (i + 1) = ys ∧ (xs.set i z).length = xs.length := by
  have h1 : i < xs.length := by
    by_cases e : i < xs.length
    · exact e
    · rw [List.drop_eq_nil_of_le (by omega)] at h; cases h
  rw [List.drop_eq_getElem_cons h1] at h
  injection h with ha hb
  refine ⟨?_, ?_, by simp⟩
  · rw [List.take_succ_eq_append_getElem (by simpa using h1), List.take_set_of_le (by omega)]; simp
  · rw [List.drop_set_of_lt (by omega)]; exact hb
theorem drop_take_cons {α : Type} {xs pre : List α} {i : Nat} {y : α} {ys : List α} (h : xs.drop i = y :: ys) : xs.take (i + 1) = xs.take i ++ [y] ∧ i < xs.length ∧ xs.drop (i + 1) = ys := by
  have h1 : i < xs.length := by
    by_cases e : i < xs.length
    · exact e
    · rw [List.drop_eq_nil_of_le (by omega)] at h; cases h
  rw [List.drop_eq_getElem_cons h1] at h
  injection h with ha hb
  exact ⟨by rw [List.take_succ_eq_append_getElem h1, ha], h1, hb⟩

/-! #### toIntS -/
theorem laws_toIntS_l0 (xs : List Int) (hx : xs.length ≤ 1000000000000000) : ∀ (ys zs : List Int) (i : Int), 0 ≤ i → i ≤ xs.length → xs.drop i.toNat = ys → zs.length = xs.length → zs.take i.toNat = xs.take i.toNat → laws_toIntS.l0L xs zs i = some xs
  | [], zs, i, h0, h1, hd, hl, ht => by
    have := drop_nil h0 h1 hd
    rw [laws_toIntS.l0L_eq, if_neg (by omega)]
    rw [List.take_of_length_le (by omega), List.take_of_length_le (by omega)] at ht
    rw [ht]
  | y :: ys, zs, i, h0, h1, hd, hl, ht => by
    obtain ⟨hr, hlt, hd'⟩ := rd_drop h0 hd
    obtain ⟨t1, _, _⟩ := drop_take_cons (pre := xs) hd
    have hz : zs.drop i.toNat = zs[i.toNat]'(by omega) :: zs.drop (i.toNat + 1) := List.drop_eq_getElem_cons (by omega)
    obtain ⟨s1, s2, s3⟩ := set_at (z := y) hz
    rw [laws_toIntS.l0L_eq, if_pos hlt, if_pos h0, if_pos (by omega), hr, w64 (by omega) (by omega)]
    exact laws_toIntS_l0 xs hx ys _ (i + 1) (by omega) (by omega) hd' (by omega) (by rw [show (i + 1).toNat = i.toNat + 1 by omega, s1, t1, ht])
theorem laws_toIntS_f (xs : List Int) (hx : xs.length ≤ 35184372088832) : laws_toIntS.fL xs = some xs := by
  rw [laws_toIntS.fL_eq, if_pos (by omega), if_pos (by omega)]
  exact laws_toIntS_l0 xs (by omega) xs _ 0 (by omega) (by omega) (by simp) (by simp) (by simp)

/-! #### eqIntS -/
theorem laws_eqIntS_l0 (xs zs : List Int) (hx : xs.length ≤ 1000000000000000) (hl : xs.length = zs.length) : ∀ (ys ws : List Int) (i : Int), 0 ≤ i → i ≤ xs.length → xs.drop i.toNat = ys → zs.drop i.toNat = ws → laws_eqIntS.l0L xs zs i = some (decide (ys = ws))
  | [], ws, i, h0, h1, hd, hw => by
    have := drop_nil h0 h1 hd
    rw [laws_eqIntS.l0L_eq, if_neg (by omega)]
    rw [List.drop_eq_nil_of_le (by omega)] at hw
    rw [← hw]; rfl
  | y :: ys, [], i, h0, h1, hd, hw => by
    have := drop_nil h0 (by omega) hw
    obtain ⟨hr, hlt, hd'⟩ := rd_drop h0 hd
    omega
  | y :: ys, w :: ws, i, h0, h1, hd, hw => by
    obtain ⟨hr, hlt, hd'⟩ := rd_drop h0 hd
    obtain ⟨hr2, hlt2, hw'⟩ := rd_drop h0 hw
    rw [laws_eqIntS.l0L_eq, if_pos hlt, if_pos h0, if_pos hlt2, hr, hr2, w64 (by omega) (by omega)]
    by_cases e : y = w
    · rw [if_pos e, laws_eqIntS_l0 xs zs hx hl ys ws (i + 1) (by omega) (by omega) hd' hw']
      simp [e]
    · rw [if_neg e]; simp [e]
theorem laws_eqIntS_f (xs zs : List Int) (hx : xs.length ≤ 1000000000000000) : laws_eqIntS.fL xs zs = some (decide (xs = zs)) := by
  rw [laws_eqIntS.fL_eq]
  by_cases h : (xs.length : Int) = (zs.length : Int)
  · rw [if_pos h]; exact laws_eqIntS_l0 xs zs hx (by omega) xs zs 0 (by omega) (by omega) (by simp) (by simp)
  · rw [if_neg h, decide_eq_false (fun e => h (by rw [e]))]

end Go.Proofs.Ytpeifepnaecjiaa.Pure
