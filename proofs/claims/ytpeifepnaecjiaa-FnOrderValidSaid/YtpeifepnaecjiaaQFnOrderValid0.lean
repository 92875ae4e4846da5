/- Lemmas for FnOrderValid: what each function comes to. No condition. -/
import Derived.Test.YtpeifepnaecjiaaLFnOrderValid
namespace Go.Proofs.Ytpeifepnaecjiaa.Pure
open Go.RowKit Go.Proofs.Ytpeifepnaecjiaa.PFnOrderValid Go.Proofs.YtpeifepnaecjiaaW.PrintWords Go.Proofs.YtpeifepnaecjiaaW.PrintLast Go.Proofs.YtpeifepnaecjiaaW.PrintMore Go.Proofs.Ytpeifepnaecjiaa.Lim
set_option linter.unusedVariables false
set_option linter.unusedSimpArgs false

/-! #### basic -/
theorem w64 {n : Int} (h1 : -9223372036854775808 ≤ n) (h2 : n ≤ 9223372036854775807) : wrap64 n = n := by unfold wrap64; omega
theorem wf64 {n : Int} (h : (Lit.int .i64 n).wf = true) : -9223372036854775808 ≤ n ∧ n ≤ 9223372036854775807 := by
  simp only [Lit.wf, IntKind.min, IntKind.max, IntKind.signed, IntKind.bits, Bool.and_eq_true, decide_eq_true_eq, if_true] at h
  omega
theorem wf8 {n : Int} (h : (Lit.int .u8 n).wf = true) : 0 ≤ n ∧ n ≤ 255 := by
  simp only [Lit.wf, IntKind.min, IntKind.max, IntKind.signed, IntKind.bits, Bool.and_eq_true, decide_eq_true_eq] at h
  simp at h
  omega
theorem mn_eq (a b : Int) : mn a b = if a ≤ b then a else b := by unfold mn; split <;> split <;> omega
theorem mx_eq (a b : Int) : mx a b = if a ≤ b then b else a := by unfold mx; split <;> split <;> omega
theorem rd_drop {xs : List Int} {i : Int} {y : Int} {ys : List Int} (h0 : 0 ≤ i) (h : xs.drop i.toNat = y :: ys) : rd xs i = y ∧ i < xs.length ∧ xs.drop (i + 1).toNat = ys := by
  have h1 : i.toNat < xs.length := by
    by_cases e : i.toNat < xs.length
    · exact e
    · rw [List.drop_eq_nil_of_le (by omega)] at h; cases h
  rw [List.drop_eq_getElem_cons h1] at h
  injection h with ha hb
  refine ⟨?_, by omega, ?_⟩
  · unfold rd; rw [List.getD_eq_getElem?_getD, List.getElem?_eq_getElem h1]; exact ha
  · rw [show (i + 1).toNat = i.toNat + 1 by omega]; exact hb
theorem drop_nil {α : Type} {xs : List α} {i : Int} (h0 : 0 ≤ i) (hi : i ≤ xs.length) (h : xs.drop i.toNat = []) : i = xs.length := by
  have := congrArg List.length h
  simp at this
  omega
theorem rdOf_drop {α : Type} {d : α} {xs : List α} {i : Int} {y : α} {ys : List α} (h0 : 0 ≤ i) (h : xs.drop i.toNat = y :: ys) : rdOf d xs i = y ∧ i < xs.length ∧ xs.drop (i + 1).toNat = ys := by
  have h1 : i.toNat < xs.length := by
    by_cases e : i.toNat < xs.length
    · exact e
    · rw [List.drop_eq_nil_of_le (by omega)] at h; cases h
  rw [List.drop_eq_getElem_cons h1] at h
  injection h with ha hb
  refine ⟨?_, by omega, ?_⟩
  · unfold rdOf; rw [List.getD_eq_getElem?_getD, List.getElem?_eq_getElem h1]; exact ha
  · rw [show (i + 1).toNat = i.toNat + 1 by omega]; exact hb

/-! #### spec_l1In -/
theorem spec_l1In_f (a lo hi : Int) : spec_l1In.f a lo hi = some (decide (lo ≤ a ∧ a ≤ hi)) := by
  unfold spec_l1In.f
  by_cases h : a ≥ lo
  · rw [if_pos h]; congr 1; rw [decide_eq_decide]; omega
  · rw [if_neg h]; congr 1; rw [eq_comm, decide_eq_false_iff_not]; omega

/-! #### index_int -/
/-- Where v is first, from an index on; -1 if nowhere. -/
def idx (v : Int) : List Int → Int → Int
  | [], _ => -1
  | y :: ys, i => if v = y then i else idx v ys (i + 1)
theorem slices_Index_l0 (xs : List Int) (v : Int) (hx : xs.length ≤ 1000000000000000) : ∀ (ys : List Int) (i : Int), 0 ≤ i → i ≤ xs.length → xs.drop i.toNat = ys → slices_Index_int_int.l0L xs v (xs.length : Int) i = some (idx v ys i)
  | [], i, h0, h1, hd => by
    have := drop_nil h0 h1 hd
    rw [slices_Index_int_int.l0L_eq, if_neg (by omega)]; rfl
  | y :: ys, i, h0, h1, hd => by
    obtain ⟨hr, hl, hd'⟩ := rd_drop h0 hd
    rw [slices_Index_int_int.l0L_eq, if_pos hl, if_pos h0, if_pos hl, hr, w64 (by omega) (by omega)]
    simp only [idx]
    by_cases e : v = y
    · rw [if_pos e, if_pos e]
    · rw [if_neg e, if_neg e]; exact slices_Index_l0 xs v hx ys (i + 1) (by omega) (by omega) hd'
theorem slices_Index_f (xs : List Int) (v : Int) (hx : xs.length ≤ 1000000000000000) : slices_Index_int_int.fL xs v = some (idx v xs 0) := by
  rw [slices_Index_int_int.fL_eq]; exact slices_Index_l0 xs v hx xs 0 (by omega) (by omega) (by simp)
theorem idx_ge (v : Int) : ∀ (ys : List Int) (i : Int), 0 ≤ i → (idx v ys i ≥ 0 ↔ v ∈ ys)
  | [], i, _ => by simp [idx]
  | y :: ys, i, h => by
    have ih := idx_ge v ys (i + 1) (by omega)
    simp only [idx, List.mem_cons]
    by_cases e : v = y
    · rw [if_pos e]; simp [e, h]
    · rw [if_neg e, ih]; simp [e]
theorem slices_Contains_f (xs : List Int) (v : Int) (hx : xs.length ≤ 1000000000000000) : slices_Contains_int_int.fL xs v = some (decide (v ∈ xs)) := by
  rw [slices_Contains_int_int.fL_eq, slices_Index_f xs v hx, Option.bind_some]
  congr 1
  rw [decide_eq_decide]
  exact idx_ge v xs 0 (by omega)

/-! #### OrderValid -/
/-- The rest of an order is right, behind what was before. -/
def okFrom (many : Int) : List Int → List Int → Bool
  | _, [] => true
  | pre, y :: ys => decide (0 ≤ y ∧ y < many) && !decide (y ∈ pre) && okFrom many (pre ++ [y]) ys
def orderOk (many : Int) (l : List Int) : Bool := decide (l.length ≤ 5 ∧ (l.length : Int) = many) && okFrom many [] l
theorem take_snoc_drop {α : Type} {xs : List α} {i : Nat} {y : α} {ys : List α} (h : xs.drop i = y :: ys) : xs.take (i + 1) = xs.take i ++ [y] := by
  have h1 : i < xs.length := by
    by_cases e : i < xs.length
    · exact e
    · rw [List.drop_eq_nil_of_le (by omega)] at h; cases h
  rw [List.drop_eq_getElem_cons h1] at h
  injection h with ha hb
  rw [List.take_succ_eq_append_getElem h1, ha]
theorem impl_OrderValid_l0 (many : Int) (xs : List Int) (hx : xs.length ≤ 5) : ∀ (ys : List Int) (i : Int), 0 ≤ i → i ≤ xs.length → xs.drop i.toNat = ys → impl_OrderValid.l0L many xs xs (xs.length : Int) i = some (okFrom many (xs.take i.toNat) ys)
  | [], i, h0, h1, hd => by
    have := drop_nil h0 h1 hd
    rw [impl_OrderValid.l0L_eq, if_neg (by omega)]; rfl
  | y :: ys, i, h0, h1, hd => by
    obtain ⟨hr, hl, hd'⟩ := rd_drop h0 hd
    have ht := take_snoc_drop hd
    have hle : i ≤ (xs.length : Int) := h1
    rw [impl_OrderValid.l0L_eq, if_pos hl, if_pos h0, if_pos hl, hr, if_pos hle, slices_Contains_f _ _ (by rw [List.length_take]; omega), Option.bind_some, w64 (by omega) (by omega)]
    simp only [okFrom]
    by_cases e1 : y < 0
    · rw [if_pos e1, decide_eq_false (p := 0 ≤ y ∧ y < many) (by omega)]; rfl
    · rw [if_neg e1]
      by_cases e2 : y ≥ many
      · rw [if_pos e2, decide_eq_false (p := 0 ≤ y ∧ y < many) (by omega)]; rfl
      · rw [if_neg e2, decide_eq_true (p := 0 ≤ y ∧ y < many) (by omega)]
        by_cases e3 : y ∈ xs.take i.toNat
        · rw [decide_eq_true e3, if_pos rfl]; rfl
        · rw [decide_eq_false e3, if_neg (by simp), impl_OrderValid_l0 many xs hx ys (i + 1) (by omega) (by omega) hd', show (i + 1).toNat = i.toNat + 1 by omega, ht]; rfl
theorem impl_OrderValid_f (many : Int) (xs : List Int) : impl_OrderValid.fL many xs = some (orderOk many xs) := by
  rw [impl_OrderValid.fL_eq, impl_OrderValid.j0L_eq, impl_OrderValid.j0L_eq]
  unfold orderOk
  by_cases h1 : (xs.length : Int) > 5
  · rw [if_pos h1, if_pos rfl, decide_eq_false (by omega)]; rfl
  · rw [if_neg h1]
    by_cases h2 : (xs.length : Int) = many
    · rw [if_neg (by simpa using h2), decide_eq_true (by omega), impl_OrderValid_l0 many xs (by omega) xs 0 (by omega) (by omega) (by simp)]; rfl
    · rw [if_pos (by simpa using h2), decide_eq_false (by omega)]; rfl
theorem spec_OrderValid_l1 (many : Int) (xs : List Int) (hx : xs.length ≤ 5) (k y : Int) (h0 : 0 ≤ k) (hk : k < xs.length) (hy : rd xs k = y) : ∀ (zs : List Int) (j : Int), 0 ≤ j → j ≤ k → (xs.take k.toNat).drop j.toNat = zs → spec_OrderValid.l1L many xs k j = if y ∈ zs then some false else spec_OrderValid.l0L many xs (k + 1)
  | [], j, h1, h2, hd => by
    have hl : (xs.take k.toNat).length = k.toNat := by rw [List.length_take]; omega
    have := drop_nil h1 (by omega) hd
    rw [spec_OrderValid.l1L_eq, if_neg (by omega), w64 (by omega) (by omega), if_neg (by simp)]
  | z :: zs, j, h1, h2, hd => by
    have hl : (xs.take k.toNat).length = k.toNat := by rw [List.length_take]; omega
    obtain ⟨hr, hlt, hd'⟩ := rd_drop h1 hd
    have hr' : rd xs j = z := by
      rw [← hr]; unfold rd
      rw [List.getD_eq_getElem?_getD, List.getD_eq_getElem?_getD, List.getElem?_take, if_pos (by omega)]
    rw [spec_OrderValid.l1L_eq, if_pos (by omega), if_pos h1, if_pos (by omega), if_pos h0, if_pos hk, hr', hy, w64 (by omega) (by omega)]
    by_cases e : z = y
    · rw [if_pos e, if_pos (by simp [e])]
    · rw [if_neg e, spec_OrderValid_l1 many xs hx k y h0 hk hy zs (j + 1) (by omega) (by omega) hd']
      have e' : ¬ y = z := fun h => e h.symm
      simp [e']
theorem spec_OrderValid_l0 (many : Int) (hm : many ≤ 5) (hm0 : 0 ≤ many) (xs : List Int) (hx : xs.length ≤ 5) : ∀ (ys : List Int) (i : Int), 0 ≤ i → i ≤ xs.length → xs.drop i.toNat = ys → spec_OrderValid.l0L many xs i = some (okFrom many (xs.take i.toNat) ys)
  | [], i, h0, h1, hd => by
    have := drop_nil h0 h1 hd
    rw [spec_OrderValid.l0L_eq, if_neg (by omega)]; rfl
  | y :: ys, i, h0, h1, hd => by
    obtain ⟨hr, hl, hd'⟩ := rd_drop h0 hd
    have ht := take_snoc_drop hd
    rw [spec_OrderValid.l0L_eq, if_pos hl, if_pos h0, hr, spec_l1In_f, Option.bind_some, w64 (by omega) (by omega)]
    simp only [okFrom]
    by_cases e1 : 0 ≤ y ∧ y < many
    · rw [if_pos (by simp; omega), decide_eq_true e1, spec_OrderValid_l1 many xs hx i y h0 hl hr (xs.take i.toNat) 0 (by omega) h0 (by simp), spec_OrderValid_l0 many hm hm0 xs hx ys (i + 1) (by omega) (by omega) hd', show (i + 1).toNat = i.toNat + 1 by omega, ht]
      by_cases e3 : y ∈ xs.take i.toNat
      · rw [decide_eq_true e3, if_pos e3]; rfl
      · rw [decide_eq_false e3, if_neg e3]; rfl
    · rw [if_neg (by simp; omega), decide_eq_false e1]; rfl
theorem spec_OrderValid_f (many : Int) (xs : List Int) : spec_OrderValid.fL many xs = some (orderOk many xs) := by
  rw [spec_OrderValid.fL_eq, spec_OrderValid.j0L_eq, spec_OrderValid.j0L_eq]
  unfold orderOk
  by_cases h1 : many > 5
  · rw [if_pos h1, if_pos rfl, decide_eq_false (by omega)]; rfl
  · rw [if_neg h1]
    by_cases h2 : (xs.length : Int) = many
    · rw [if_neg (by simpa using h2), decide_eq_true (by omega), spec_OrderValid_l0 many (by omega) (by omega) xs (by omega) xs 0 (by omega) (by omega) (by simp)]; rfl
    · rw [if_pos (by simpa using h2), decide_eq_false (by omega)]; rfl
theorem okFrom_iff (many : Int) : ∀ (ys pre : List Int), okFrom many pre ys = true ↔ (∀ y ∈ ys, 0 ≤ y ∧ y < many) ∧ ys.Nodup ∧ ∀ y ∈ ys, y ∉ pre
  | [], pre => by simp [okFrom]
  | y :: ys, pre => by
    simp only [okFrom, Bool.and_eq_true, decide_eq_true_eq, Bool.not_eq_true', decide_eq_false_iff_not, okFrom_iff many ys, List.mem_cons, List.nodup_cons, List.mem_append, List.not_mem_nil, or_false]
    constructor
    · rintro ⟨⟨h1, h2⟩, h3, h4, h5⟩
      refine ⟨?_, ⟨?_, h4⟩, ?_⟩
      · rintro z (rfl | hz)
        · exact h1
        · exact h3 z hz
      · exact fun hm => (h5 y hm) (.inr rfl)
      · rintro z (rfl | hz)
        · exact h2
        · exact fun hp => h5 z hz (.inl hp)
    · rintro ⟨h1, ⟨h2, h3⟩, h4⟩
      refine ⟨⟨h1 y (.inl rfl), h4 y (.inl rfl)⟩, fun z hz => h1 z (.inr hz), h3, ?_⟩
      rintro z hz (hp | rfl)
      · exact h4 z (.inr hz) hp
      · exact h2 hz
theorem orderOk_iff (many : Int) (l : List Int) : orderOk many l = true ↔ l.length ≤ 5 ∧ (l.length : Int) = many ∧ (∀ y ∈ l, 0 ≤ y ∧ y < many) ∧ l.Nodup := by
  unfold orderOk
  rw [Bool.and_eq_true, decide_eq_true_eq, okFrom_iff]
  simp [and_assoc]

/-! #### bytes -/
/-- A string's bytes as numbers. -/
def bs (s : ByteArray) : List Int := s.data.toList.map fun b => (b.toNat : Int)
theorem bs_length (s : ByteArray) : (bs s).length = s.size := by simp [bs]
theorem bt_bs (s : ByteArray) (i : Int) : bt s i = rd (bs s) i := by
  unfold bt rd bs
  rw [List.getD_eq_getElem?_getD, List.getElem?_map]
  by_cases h : i.toNat < s.size
  · rw [dif_pos h, List.getElem?_eq_getElem (by simpa using h)]; simp; rfl
  · rw [dif_neg h, List.getElem?_eq_none (by simpa using h)]; rfl
theorem bs_range (s : ByteArray) : ∀ b ∈ bs s, 0 ≤ b ∧ b ≤ 255 := by
  intro b hb
  simp only [bs, List.mem_map] at hb
  obtain ⟨c, _, rfl⟩ := hb
  have := c.toNat_lt
  omega
theorem bs_inj {s t : ByteArray} (h : bs s = bs t) : s = t := by
  have h1 : s.data.toList = t.data.toList := by
    refine List.map_inj_right (f := fun b : UInt8 => (b.toNat : Int)) ?_ |>.1 h
    intro x y hxy
    exact UInt8.toNat_inj.1 (by omega)
  cases s; cases t
  simp only [ByteArray.mk.injEq]
  exact Array.ext' h1
theorem toList_loop (s : ByteArray) (i : Nat) (r : List UInt8) : ByteArray.toList.loop s i r = r.reverse ++ s.data.toList.drop i := by
  unfold ByteArray.toList.loop
  split
  next h =>
    rw [toList_loop s (i + 1) (s.get! i :: r)]
    have h' : i < s.data.toList.length := by simpa using h
    rw [List.drop_eq_getElem_cons h']
    have : s.get! i = s.data.toList[i] := by
      show s.data[i]! = _
      rw [getElem!_pos s.data i (by simpa using h)]; simp
    rw [this]; simp
  next h =>
    rw [List.drop_eq_nil_of_le (by simpa using h)]; simp
  termination_by s.size - i
theorem toList_data (s : ByteArray) : s.toList = s.data.toList := by
  unfold ByteArray.toList; rw [toList_loop]; simp
theorem toList_nil (s : ByteArray) : s.toList = [] ↔ bs s = [] := by rw [toList_data]; simp [bs]
theorem bs_drop (s : ByteArray) (i j : Nat) (hj : s.size ≤ j) : bs (s.extract i j) = (bs s).drop i := by
  unfold bs
  rw [ByteArray.data_extract, ← List.map_drop]
  congr 1
  rw [Array.toList_extract]
  have : s.data.toList.length = s.size := by simp
  simp only [List.extract]
  rw [List.take_of_length_le (by rw [List.length_drop]; omega)]
theorem bs_take (s : ByteArray) (j : Nat) : bs (s.extract 0 j) = (bs s).take j := by
  unfold bs
  rw [ByteArray.data_extract, ← List.map_take]
  congr 1
  rw [Array.toList_extract]
  simp [List.extract]

/-! #### keys -/
def letters (l : List Int) : Bool := l.all fun b => decide (97 ≤ b ∧ b ≤ 122)
/-- KeyValid, over the bytes. -/
def keyOk (l : List Int) : Bool := decide (1 ≤ l.length ∧ l.length ≤ 4) && letters l
theorem rd_zero {l : List Int} {b : Int} {t : List Int} (h : l = b :: t) : rd l 0 = b := by subst h; rfl
theorem impl_lettersOnly_f : ∀ (l : List Int) (s : ByteArray), bs s = l → impl_lettersOnly.fL s = some (letters l)
  | [], s, h => by rw [impl_lettersOnly.fL_eq, if_pos ((toList_nil s).2 h)]; rfl
  | b :: l, s, h => by
    have hs : s.size = l.length + 1 := by rw [← bs_length, h]; rfl
    have hn : ¬ s.toList = [] := by rw [toList_nil, h]; simp
    have hd : bs (s.extract 1 s.size) = l := by rw [bs_drop s 1 s.size (Nat.le_refl _), h]; rfl
    rw [impl_lettersOnly.fL_eq, if_neg hn, if_pos (by omega), bt_bs, rd_zero h, if_pos (by omega : (1 : Int) ≤ (s.size : Int)), impl_lettersOnly_f l _ hd, Option.bind_some]
    unfold letters
    rw [List.all_cons]
    by_cases h1 : b ≥ 97
    · rw [if_pos h1]
      by_cases h2 : b ≤ 122
      · rw [if_pos h2, show decide (97 ≤ b ∧ b ≤ 122) = true from decide_eq_true ⟨h1, h2⟩]; rfl
      · rw [if_neg h2, show decide (97 ≤ b ∧ b ≤ 122) = false from decide_eq_false (by omega)]; rfl
    · rw [if_neg h1, show decide (97 ≤ b ∧ b ≤ 122) = false from decide_eq_false (by omega)]; rfl
theorem impl_KeyValid_f (s : ByteArray) : impl_KeyValid.fL s = some (keyOk (bs s)) := by
  rw [impl_KeyValid.fL_eq, impl_lettersOnly_f _ s rfl, Option.bind_some]
  unfold keyOk
  rw [bs_length]
  by_cases h1 : (s.size : Int) < 1
  · rw [if_pos h1, decide_eq_false (by omega)]; rfl
  · rw [if_neg h1]
    by_cases h2 : (s.size : Int) > 4
    · rw [if_pos h2, decide_eq_false (by omega)]; rfl
    · rw [if_neg h2, decide_eq_true (by omega)]; rfl
theorem keyOk_len {l : List Int} (h : keyOk l = true) : 1 ≤ l.length ∧ l.length ≤ 4 := by
  simp only [keyOk, Bool.and_eq_true, decide_eq_true_eq] at h; exact h.1
theorem keyOk_letters {l : List Int} (h : keyOk l = true) : letters l = true := by
  simp only [keyOk, Bool.and_eq_true, decide_eq_true_eq] at h; exact h.2
theorem letters_cons {b : Int} {l : List Int} (h : letters (b :: l) = true) : (97 ≤ b ∧ b ≤ 122) ∧ letters l = true := by
  simp only [letters, List.all_cons, Bool.and_eq_true, decide_eq_true_eq] at h
  exact ⟨h.1, by simp only [letters]; exact h.2⟩

/-! #### keyrank -/
/-- How many keys begin with the letters of a place, from a depth on. -/
def kfrom (d : Int) : Int := if d ≥ 4 then 1 else if d = 3 then 27 else if d = 2 then 703 else 18279
def rankBelow : List Int → Int → Int
  | [], _ => 0
  | b :: l, d => 1 + (b - 97) * kfrom d + rankBelow l (d + 1)
def keyRank (l : List Int) : Int := if keyOk l = true then rankBelow l 1 - 1 else -1
theorem impl_keysFrom_f (d : Int) (h1 : 1 ≤ d) (h2 : d ≤ 10) : impl_keysFrom.fL d = some (kfrom d) := by
  have h4 : ∀ e : Int, e ≥ 4 → impl_keysFrom.fL e = some 1 := fun e he => by rw [impl_keysFrom.fL_eq, if_pos he]
  have h3 : impl_keysFrom.fL 3 = some 27 := by
    rw [impl_keysFrom.fL_eq, if_neg (by omega), w64 (by omega) (by omega), show (3 : Int) + 1 = 4 from rfl, h4 4 (by omega)]; simp [wrap64]
  have h2' : impl_keysFrom.fL 2 = some 703 := by
    rw [impl_keysFrom.fL_eq, if_neg (by omega), w64 (by omega) (by omega), show (2 : Int) + 1 = 3 from rfl, h3]; simp [wrap64]
  have h1' : impl_keysFrom.fL 1 = some 18279 := by
    rw [impl_keysFrom.fL_eq, if_neg (by omega), w64 (by omega) (by omega), show (1 : Int) + 1 = 2 from rfl, h2']; simp [wrap64]
  unfold kfrom
  by_cases e : d ≥ 4
  · rw [h4 d e, if_pos e]
  · rw [if_neg e]
    by_cases e3 : d = 3
    · rw [if_pos e3, e3, h3]
    · rw [if_neg e3]
      by_cases e2 : d = 2
      · rw [if_pos e2, e2, h2']
      · rw [if_neg e2, show d = 1 by omega, h1']
theorem kfrom_range (d : Int) : 1 ≤ kfrom d ∧ kfrom d ≤ 18279 := by unfold kfrom; split <;> (try split) <;> (try split) <;> omega
theorem rankBelow_range : ∀ (l : List Int) (d : Int), letters l = true → 0 ≤ rankBelow l d ∧ rankBelow l d ≤ 500000 * l.length
  | [], d, _ => by simp [rankBelow]
  | b :: l, d, h => by
    obtain ⟨hb, hl⟩ := letters_cons h
    have hr := rankBelow_range l (d + 1) hl
    have hk := kfrom_range d
    have m1 : 0 ≤ (b - 97) * kfrom d := Int.mul_nonneg (by omega) (by omega)
    have m2 : (b - 97) * kfrom d ≤ 25 * 18279 := Int.mul_le_mul (by omega) hk.2 (by omega) (by omega)
    simp only [rankBelow, List.length_cons]
    omega
theorem impl_rankBelow_f : ∀ (l : List Int) (s : ByteArray) (d : Int), bs s = l → letters l = true → l.length ≤ 4 → 1 ≤ d → d + l.length ≤ 6 → impl_rankBelow.fL s d = some (rankBelow l d)
  | [], s, d, h, _, _, _, _ => by rw [impl_rankBelow.fL_eq, if_pos ((toList_nil s).2 h)]; rfl
  | b :: l, s, d, h, hl, hn, hd, hd2 => by
    simp only [List.length_cons] at hn hd2
    obtain ⟨hb, hl'⟩ := letters_cons hl
    have hs : s.size = l.length + 1 := by rw [← bs_length, h]; rfl
    have hnn : ¬ s.toList = [] := by rw [toList_nil, h]; simp
    have hdr : bs (s.extract 1 s.size) = l := by rw [bs_drop s 1 s.size (Nat.le_refl _), h]; rfl
    have hk := kfrom_range d
    have hr := rankBelow_range l (d + 1) hl'
    have m1 : 0 ≤ (b - 97) * kfrom d := Int.mul_nonneg (by omega) (by omega)
    have m2 : (b - 97) * kfrom d ≤ 25 * 18279 := Int.mul_le_mul (by omega) hk.2 (by omega) (by omega)
    rw [impl_rankBelow.fL_eq, if_neg hnn, if_pos (by omega), impl_keysFrom_f d hd (by omega), Option.bind_some, if_pos (by omega), w64 (n := d + 1) (by omega) (by omega),
      impl_rankBelow_f l _ (d + 1) hdr hl' (by omega) (by omega) (by omega), Option.bind_some, bt_bs, rd_zero h, Int.emod_eq_of_lt (a := b - 97) (by omega) (by omega),
      w64 (n := (b - 97) * kfrom d) (by omega) (by omega), w64 (n := 1 + (b - 97) * kfrom d) (by omega) (by omega), w64 (by omega) (by omega)]
    rfl
theorem impl_KeyRank_f (s : ByteArray) : impl_KeyRank.fL s = some (keyRank (bs s)) := by
  rw [impl_KeyRank.fL_eq, impl_KeyValid_f, Option.bind_some]
  unfold keyRank
  by_cases h : keyOk (bs s) = true
  · have hn := keyOk_len h
    have hr := rankBelow_range (bs s) 1 (keyOk_letters h)
    rw [if_pos h, if_pos h, impl_rankBelow_f _ s 1 rfl (keyOk_letters h) hn.2 (by omega) (by omega), Option.bind_some, w64 (by omega) (by omega)]
  · rw [if_neg h, if_neg h]
theorem laws_alive_f : laws_alive.fL = some true := by
  rw [laws_alive.fL_eq, impl_KeyRank_f, impl_KeyRank_f]
  rfl

/-! #### reader -/
theorem spec_l20Open_f (l : List Int) : spec_l20Open.f l = some (l.take 2000, 0) := by
  unfold spec_l20Open.f
  by_cases h : (l.length : Int) > 2000
  · rw [if_pos h, if_pos (by omega)]
  · rw [if_neg h, List.take_of_length_le (by omega)]
/-- The bytes of a code. -/
def Code (b : List Int) : Prop := b.length ≤ 2000 ∧ ∀ x ∈ b, 0 ≤ x ∧ x ≤ 255
theorem Code.take {l : List Int} (h : ∀ x ∈ l, (Lit.int .u8 x).wf = true) : Code (l.take 2000) :=
  ⟨by rw [List.length_take]; omega, fun x hx => wf8 (h x (List.mem_of_mem_take hx))⟩
theorem Code.get {b : List Int} (h : Code b) (i : Int) (hi : i.toNat < b.length) : 0 ≤ rd b i ∧ rd b i ≤ 255 := by
  unfold rd
  rw [List.getD_eq_getElem?_getD, List.getElem?_eq_getElem hi]
  exact h.2 _ (List.getElem_mem hi)
theorem xor_range (a b : Int) (h0 : 0 ≤ a) (h1 : a ≤ 4611686018427387903) (h2 : 0 ≤ b) (h3 : b ≤ 4611686018427387903) : 0 ≤ Go.bits .xor .i64 a b ∧ Go.bits .xor .i64 a b ≤ 4611686018427387903 := by
  obtain ⟨x, rfl⟩ := Int.eq_ofNat_of_zero_le h0
  obtain ⟨y, rfl⟩ := Int.eq_ofNat_of_zero_le h2
  have hx : x ^^^ y < 2 ^ 62 := Nat.xor_lt_two_pow (by omega) (by omega)
  have g1 : (BitVec.ofInt 64 (x : Int)).toNat = x := by
    rw [BitVec.ofInt_natCast, BitVec.toNat_ofNat]; exact Nat.mod_eq_of_lt (by omega)
  have g2 : (BitVec.ofInt 64 (y : Int)).toNat = y := by
    rw [BitVec.ofInt_natCast, BitVec.toNat_ofNat]; exact Nat.mod_eq_of_lt (by omega)
  have e : Go.bits .xor .i64 (x : Int) (y : Int) = ((x ^^^ y : Nat) : Int) := by
    show IntKind.i64.wrap ((BitVec.ofInt 64 (x : Int) ^^^ BitVec.ofInt 64 (y : Int)).toNat : Int) = _
    rw [BitVec.toNat_xor, g1, g2, IntKind.wrap_i64]
    omega
  rw [e]
  omega
theorem tmod_range {a n : Int} (h0 : 0 ≤ a) (hn : 1 ≤ n) : 0 ≤ Int.tmod a n ∧ Int.tmod a n < n := by
  rw [Int.tmod_eq_emod_of_nonneg h0]
  exact ⟨Int.emod_nonneg _ (by omega), Int.emod_lt_of_pos _ (by omega)⟩
theorem pick_ok {b : List Int} (hb : Code b) (p n : Int) (h0 : 0 ≤ p) (h1 : p ≤ 1000000000000) (hn : n ≤ 1000000) :
    ∃ v, spec_l20Rd_pick.fL b p n = some (v, p + 1) ∧ 0 ≤ v ∧ (1 ≤ n → v < n) ∧ (n < 1 → v = 0) := by
  rw [spec_l20Rd_pick.fL_eq, spec_l20Rd_pick.j0L_eq, spec_l20Rd_pick.j0L_eq, w64 (n := p + 1) (by omega) (by omega), w64 (n := p + 1 - 1) (by omega) (by omega), show p + 1 - 1 = p by omega]
  by_cases e : n < 1
  · rw [if_pos e, if_pos rfl]; exact ⟨0, rfl, by omega, fun h => by omega, fun _ => rfl⟩
  · rw [if_neg e]
    by_cases e0 : (b.length : Int) = 0
    · rw [if_pos (by simpa using e0)]; exact ⟨0, rfl, by omega, fun h => by omega, fun _ => rfl⟩
    · rw [if_neg (by simpa using e0)]
      by_cases e1 : p < b.length
      · have hr := hb.get p (by omega)
        rw [if_pos e1, if_pos h0, if_neg (by omega), w64 (n := rd b p) (by omega) (by omega)]
        have := tmod_range hr.1 (n := n) (by omega)
        exact ⟨_, rfl, this.1, fun _ => this.2, fun h => by omega⟩
      · have hl := hb.1
        have t1 := tmod_range h0 (n := (b.length : Int)) (by omega)
        have t2 := tmod_range (a := p * 7 + 3) (by omega) (n := (b.length : Int)) (by omega)
        have r1 := hb.get (Int.tmod p b.length) (by omega)
        have r2 := hb.get (Int.tmod (p * 7 + 3) b.length) (by omega)
        have td : Int.tdiv p b.length = p / b.length := Int.tdiv_eq_ediv_of_nonneg h0
        have d0 : 0 ≤ p / (b.length : Int) := Int.ediv_nonneg h0 (by omega)
        have d1 : p / (b.length : Int) ≤ p := Int.ediv_le_self _ h0
        rw [if_neg e1, if_neg e0, w64 (n := p * 7) (by omega) (by omega), w64 (n := p * 7 + 3) (by omega) (by omega), if_pos t1.1, if_pos t1.2, if_pos t2.1, if_pos t2.2, if_neg (by omega)]
        generalize rd b (Int.tmod p b.length) = A at *
        generalize rd b (Int.tmod (p * 7 + 3) b.length) = B at *
        rw [td]
        generalize p / (b.length : Int) = D at *
        rw [w64 (n := A) (by omega) (by omega), w64 (n := B) (by omega) (by omega), w64 (n := D) (by omega) (by omega), w64 (n := A * 131) (by omega) (by omega), w64 (n := B * 1117) (by omega) (by omega), w64 (n := p * 29) (by omega) (by omega), w64 (n := D * 53) (by omega) (by omega),
          w64 (n := A * 131 + B * 1117) (by omega) (by omega), w64 (n := A * 131 + B * 1117 + p * 29) (by omega) (by omega), w64 (n := A * 131 + B * 1117 + p * 29 + D * 53) (by omega) (by omega)]
        generalize hX : A * 131 + B * 1117 + p * 29 + D * 53 = X
        have q0 : 0 ≤ X := by omega
        have q1 : X ≤ 1000000000000000 := by omega
        have e64 : Int.tdiv X 64 = X / 64 := Int.tdiv_eq_ediv_of_nonneg q0
        rw [e64, w64 (n := X / 64) (by omega) (by omega)]
        have hx := xor_range X (X / 64) q0 (by omega) (by omega) (by omega)
        have := tmod_range hx.1 (n := n) (by omega)
        exact ⟨_, rfl, this.1, fun _ => this.2, fun h => by omega⟩

/-! #### odd -/
theorem odd_ok {b : List Int} (hb : Code b) (p n : Int) (h0 : 0 ≤ p) (h1 : p ≤ 1000000000000) (hn : n ≤ 1000000) :
    ∃ v q, spec_l20Rd_odd.fL b p n = some (v, q) ∧ p ≤ q ∧ q ≤ p + 1 := by
  rw [spec_l20Rd_odd.fL_eq]
  by_cases e : n > 0
  · obtain ⟨v, hv, _⟩ := pick_ok hb p n h0 h1 hn
    rw [if_pos e, hv]
    exact ⟨_, _, rfl, by dsimp only; omega, by dsimp only; omega⟩
  · rw [if_neg e]
    exact ⟨_, _, rfl, by omega, by omega⟩

end Go.Proofs.Ytpeifepnaecjiaa.Pure
