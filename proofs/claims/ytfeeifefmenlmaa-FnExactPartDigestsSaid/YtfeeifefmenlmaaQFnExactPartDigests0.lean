/- Lemmas for FnExactPartDigests: what each function comes to. No condition. -/
import Derived.Test.YtfeeifefmenlmaaLFnExactPartDigests
namespace Go.Proofs.Ytfeeifefmenlmaa.Pure
open Go.RowKit Go.Proofs.Ytfeeifefmenlmaa.PFnExactPartDigests Go.Proofs.YtfeeifefmenlmaaW.PrintWords Go.Proofs.YtfeeifefmenlmaaW.PrintLast Go.Proofs.YtfeeifefmenlmaaW.PrintMore Go.Proofs.Ytfeeifefmenlmaa.Lim
set_option linter.unusedVariables false
set_option linter.unusedSimpArgs false

/-! #### basic -/
theorem w64 {n : Int} (h1 : -9223372036854775808 ≤ n) (h2 : n ≤ 9223372036854775807) : wrap64 n = n := by unfold wrap64; omega
theorem wf64 {n : Int} (h : (Lit.int .i64 n).wf = true) : -9223372036854775808 ≤ n ∧ n ≤ 9223372036854775807 := by
  simp only [Lit.wf, IntKind.min, IntKind.max, IntKind.signed, IntKind.bits, Bool.and_eq_true, decide_eq_true_eq, if_true] at h
  omega
theorem wf8 {n : Int} (h : (Lit.int .u8 n).wf = true) : 0 ≤ n ∧ n ≤ 255 := by
  simp only [Lit.wf, IntKind.min, IntKind.max, IntKind.signed, IntKind.bits, Bool.and_eq_true, decide_eq_true_eq] at h
  simp at h
  omega
theorem mn_eq (a b : Int) : mn a b = if a ≤ b then a else b := by unfold mn; split <;> split <;> omega
theorem mx_eq (a b : Int) : mx a b = if a ≤ b then b else a := by unfold mx; split <;> split <;> omega
theorem rd_drop {xs : List Int} {i : Int} {y : Int} {ys : List Int} (h0 : 0 ≤ i) (h : xs.drop i.toNat = y :: ys) : rd xs i = y ∧ i < xs.length ∧ xs.drop (i + 1).toNat = ys := by
  have h1 : i.toNat < xs.length := by
    by_cases e : i.toNat < xs.length
    · exact e
    · rw [List.drop_eq_nil_of_le (by omega)] at h; cases h
  rw [List.drop_eq_getElem_cons h1] at h
  injection h with ha hb
  refine ⟨?_, by omega, ?_⟩
  · unfold rd; rw [List.getD_eq_getElem?_getD, List.getElem?_eq_getElem h1]; exact ha
  · rw [show (i + 1).toNat = i.toNat + 1 by omega]; exact hb
theorem drop_nil {α : Type} {xs : List α} {i : Int} (h0 : 0 ≤ i) (hi : i ≤ xs.length) (h : xs.drop i.toNat = []) : i = xs.length := by
  have := congrArg List.length h
  simp at this
  omega
theorem rdOf_drop {α : Type} {d : α} {xs : List α} {i : Int} {y : α} {ys : List α} (h0 : 0 ≤ i) (h : xs.drop i.toNat = y :: ys) : rdOf d xs i = y ∧ i < xs.length ∧ xs.drop (i + 1).toNat = ys := by
  have h1 : i.toNat < xs.length := by
    by_cases e : i.toNat < xs.length
    · exact e
    · rw [List.drop_eq_nil_of_le (by omega)] at h; cases h
  rw [List.drop_eq_getElem_cons h1] at h
  injection h with ha hb
  refine ⟨?_, by omega, ?_⟩
  · unfold rdOf; rw [List.getD_eq_getElem?_getD, List.getElem?_eq_getElem h1]; exact ha
  · rw [show (i + 1).toNat = i.toNat + 1 by omega]; exact hb

/-! #### bytes -/
/-- A string's bytes as numbers. -/
def bs (s : ByteArray) : List Int := s.data.toList.map fun b => (b.toNat : Int)
theorem bs_length (s : ByteArray) : (bs s).length = s.size := by simp [bs]
theorem bt_bs (s : ByteArray) (i : Int) : bt s i = rd (bs s) i := by
  unfold bt rd bs
  rw [List.getD_eq_getElem?_getD, List.getElem?_map]
  by_cases h : i.toNat < s.size
  · rw [dif_pos h, List.getElem?_eq_getElem (by simpa using h)]; simp; rfl
  · rw [dif_neg h, List.getElem?_eq_none (by simpa using h)]; rfl
theorem bs_range (s : ByteArray) : ∀ b ∈ bs s, 0 ≤ b ∧ b ≤ 255 := by
  intro b hb
  simp only [bs, List.mem_map] at hb
  obtain ⟨c, _, rfl⟩ := hb
  have := c.toNat_lt
  omega
theorem bs_inj {s t : ByteArray} (h : bs s = bs t) : s = t := by
  have h1 : s.data.toList = t.data.toList := by
    refine List.map_inj_right (f := fun b : UInt8 => (b.toNat : Int)) ?_ |>.1 h
    intro x y hxy
    exact UInt8.toNat_inj.1 (by omega)
  cases s; cases t
  simp only [ByteArray.mk.injEq]
  exact Array.ext' h1
theorem toList_loop (s : ByteArray) (i : Nat) (r : List UInt8) : ByteArray.toList.loop s i r = r.reverse ++ s.data.toList.drop i := by
  unfold ByteArray.toList.loop
  split
  next h =>
    rw [toList_loop s (i + 1) (s.get! i :: r)]
    have h' : i < s.data.toList.length := by simpa using h
    rw [List.drop_eq_getElem_cons h']
    have : s.get! i = s.data.toList[i] := by
      show s.data[i]! = _
      rw [getElem!_pos s.data i (by simpa using h)]; simp
    rw [this]; simp
  next h =>
    rw [List.drop_eq_nil_of_le (by simpa using h)]; simp
  termination_by s.size - i
theorem toList_data (s : ByteArray) : s.toList = s.data.toList := by
  unfold ByteArray.toList; rw [toList_loop]; simp
theorem toList_nil (s : ByteArray) : s.toList = [] ↔ bs s = [] := by rw [toList_data]; simp [bs]
theorem bs_drop (s : ByteArray) (i j : Nat) (hj : s.size ≤ j) : bs (s.extract i j) = (bs s).drop i := by
  unfold bs
  rw [ByteArray.data_extract, ← List.map_drop]
  congr 1
  rw [Array.toList_extract]
  have : s.data.toList.length = s.size := by simp
  simp only [List.extract]
  rw [List.take_of_length_le (by rw [List.length_drop]; omega)]
theorem bs_take (s : ByteArray) (j : Nat) : bs (s.extract 0 j) = (bs s).take j := by
  unfold bs
  rw [ByteArray.data_extract, ← List.map_take]
  congr 1
  rw [Array.toList_extract]
  simp [List.extract]

/-! #### keys -/
def letters (l : List Int) : Bool := l.all fun b => decide (97 ≤ b ∧ b ≤ 122)
/-- KeyValid, over the bytes. -/
def keyOk (l : List Int) : Bool := decide (1 ≤ l.length ∧ l.length ≤ 4) && letters l
theorem rd_zero {l : List Int} {b : Int} {t : List Int} (h : l = b :: t) : rd l 0 = b := by subst h; rfl
theorem impl_lettersOnly_f : ∀ (l : List Int) (s : ByteArray), bs s = l → impl_lettersOnly.fL s = some (letters l)
  | [], s, h => by rw [impl_lettersOnly.fL_eq, if_pos ((toList_nil s).2 h)]; rfl
  | b :: l, s, h => by
    have hs : s.size = l.length + 1 := by rw [← bs_length, h]; rfl
    have hn : ¬ s.toList = [] := by rw [toList_nil, h]; simp
    have hd : bs (s.extract 1 s.size) = l := by rw [bs_drop s 1 s.size (Nat.le_refl _), h]; rfl
    rw [impl_lettersOnly.fL_eq, if_neg hn, if_pos (by omega), bt_bs, rd_zero h, if_pos (by omega : (1 : Int) ≤ (s.size : Int)), impl_lettersOnly_f l _ hd, Option.bind_some]
    unfold letters
    rw [List.all_cons]
    by_cases h1 : b ≥ 97
    · rw [if_pos h1]
      by_cases h2 : b ≤ 122
      · rw [if_pos h2, show decide (97 ≤ b ∧ b ≤ 122) = true from decide_eq_true ⟨h1, h2⟩]; rfl
      · rw [if_neg h2, show decide (97 ≤ b ∧ b ≤ 122) = false from decide_eq_false (by omega)]; rfl
    · rw [if_neg h1, show decide (97 ≤ b ∧ b ≤ 122) = false from decide_eq_false (by omega)]; rfl
theorem impl_KeyValid_f (s : ByteArray) : impl_KeyValid.fL s = some (keyOk (bs s)) := by
  rw [impl_KeyValid.fL_eq, impl_lettersOnly_f _ s rfl, Option.bind_some]
  unfold keyOk
  rw [bs_length]
  by_cases h1 : (s.size : Int) < 1
  · rw [if_pos h1, decide_eq_false (by omega)]; rfl
  · rw [if_neg h1]
    by_cases h2 : (s.size : Int) > 4
    · rw [if_pos h2, decide_eq_false (by omega)]; rfl
    · rw [if_neg h2, decide_eq_true (by omega)]; rfl
theorem keyOk_len {l : List Int} (h : keyOk l = true) : 1 ≤ l.length ∧ l.length ≤ 4 := by
  simp only [keyOk, Bool.and_eq_true, decide_eq_true_eq] at h; exact h.1
theorem keyOk_letters {l : List Int} (h : keyOk l = true) : letters l = true := by
  simp only [keyOk, Bool.and_eq_true, decide_eq_true_eq] at h; exact h.2
theorem letters_cons {b : Int} {l : List Int} (h : letters (b :: l) = true) : (97 ≤ b ∧ b ≤ 122) ∧ letters l = true := by
  simp only [letters, List.all_cons, Bool.and_eq_true, decide_eq_true_eq] at h
  exact ⟨h.1, by simp only [letters]; exact h.2⟩

/-! #### kfrom -/
/-- How many keys begin with the letters of a place, from a depth on. -/
def kfrom (d : Int) : Int := if d ≥ 4 then 1 else if d = 3 then 27 else if d = 2 then 703 else 18279
theorem kfrom_range (d : Int) : 1 ≤ kfrom d ∧ kfrom d ≤ 18279 := by unfold kfrom; split <;> (try split) <;> (try split) <;> omega

/-! #### keyrank -/
def rankBelow : List Int → Int → Int
  | [], _ => 0
  | b :: l, d => 1 + (b - 97) * kfrom d + rankBelow l (d + 1)
def keyRank (l : List Int) : Int := if keyOk l = true then rankBelow l 1 - 1 else -1
theorem impl_keysFrom_f (d : Int) (h1 : 1 ≤ d) (h2 : d ≤ 10) : impl_keysFrom.fL d = some (kfrom d) := by
  have h4 : ∀ e : Int, e ≥ 4 → impl_keysFrom.fL e = some 1 := fun e he => by rw [impl_keysFrom.fL_eq, if_pos he]
  have h3 : impl_keysFrom.fL 3 = some 27 := by
    rw [impl_keysFrom.fL_eq, if_neg (by omega), w64 (by omega) (by omega), show (3 : Int) + 1 = 4 from rfl, h4 4 (by omega)]; simp [wrap64]
  have h2' : impl_keysFrom.fL 2 = some 703 := by
    rw [impl_keysFrom.fL_eq, if_neg (by omega), w64 (by omega) (by omega), show (2 : Int) + 1 = 3 from rfl, h3]; simp [wrap64]
  have h1' : impl_keysFrom.fL 1 = some 18279 := by
    rw [impl_keysFrom.fL_eq, if_neg (by omega), w64 (by omega) (by omega), show (1 : Int) + 1 = 2 from rfl, h2']; simp [wrap64]
  unfold kfrom
  by_cases e : d ≥ 4
  · rw [h4 d e, if_pos e]
  · rw [if_neg e]
    by_cases e3 : d = 3
    · rw [if_pos e3, e3, h3]
    · rw [if_neg e3]
      by_cases e2 : d = 2
      · rw [if_pos e2, e2, h2']
      · rw [if_neg e2, show d = 1 by omega, h1']
theorem rankBelow_range : ∀ (l : List Int) (d : Int), letters l = true → 0 ≤ rankBelow l d ∧ rankBelow l d ≤ 500000 * l.length
  | [], d, _ => by simp [rankBelow]
  | b :: l, d, h => by
    obtain ⟨hb, hl⟩ := letters_cons h
    have hr := rankBelow_range l (d + 1) hl
    have hk := kfrom_range d
    have m1 : 0 ≤ (b - 97) * kfrom d := Int.mul_nonneg (by omega) (by omega)
    have m2 : (b - 97) * kfrom d ≤ 25 * 18279 := Int.mul_le_mul (by omega) hk.2 (by omega) (by omega)
    simp only [rankBelow, List.length_cons]
    omega
theorem impl_rankBelow_f : ∀ (l : List Int) (s : ByteArray) (d : Int), bs s = l → letters l = true → l.length ≤ 4 → 1 ≤ d → d + l.length ≤ 6 → impl_rankBelow.fL s d = some (rankBelow l d)
  | [], s, d, h, _, _, _, _ => by rw [impl_rankBelow.fL_eq, if_pos ((toList_nil s).2 h)]; rfl
  | b :: l, s, d, h, hl, hn, hd, hd2 => by
    simp only [List.length_cons] at hn hd2
    obtain ⟨hb, hl'⟩ := letters_cons hl
    have hs : s.size = l.length + 1 := by rw [← bs_length, h]; rfl
    have hnn : ¬ s.toList = [] := by rw [toList_nil, h]; simp
    have hdr : bs (s.extract 1 s.size) = l := by rw [bs_drop s 1 s.size (Nat.le_refl _), h]; rfl
    have hk := kfrom_range d
    have hr := rankBelow_range l (d + 1) hl'
    have m1 : 0 ≤ (b - 97) * kfrom d := Int.mul_nonneg (by omega) (by omega)
    have m2 : (b - 97) * kfrom d ≤ 25 * 18279 := Int.mul_le_mul (by omega) hk.2 (by omega) (by omega)
    rw [impl_rankBelow.fL_eq, if_neg hnn, if_pos (by omega), impl_keysFrom_f d hd (by omega), Option.bind_some, if_pos (by omega), w64 (n := d + 1) (by omega) (by omega),
      impl_rankBelow_f l _ (d + 1) hdr hl' (by omega) (by omega) (by omega), Option.bind_some, bt_bs, rd_zero h, Int.emod_eq_of_lt (a := b - 97) (by omega) (by omega),
      w64 (n := (b - 97) * kfrom d) (by omega) (by omega), w64 (n := 1 + (b - 97) * kfrom d) (by omega) (by omega), w64 (by omega) (by omega)]
    rfl
theorem impl_KeyRank_f (s : ByteArray) : impl_KeyRank.fL s = some (keyRank (bs s)) := by
  rw [impl_KeyRank.fL_eq, impl_KeyValid_f, Option.bind_some]
  unfold keyRank
  by_cases h : keyOk (bs s) = true
  · have hn := keyOk_len h
    have hr := rankBelow_range (bs s) 1 (keyOk_letters h)
    rw [if_pos h, if_pos h, impl_rankBelow_f _ s 1 rfl (keyOk_letters h) hn.2 (by omega) (by omega), Option.bind_some, w64 (by omega) (by omega)]
  · rw [if_neg h, if_neg h]

/-! #### spec_l1Weight -/
theorem spec_l1Weight_f (d : Int) (h0 : 0 ≤ d) : spec_l1Weight.f d = some (kfrom (d + 1)) := by
  unfold spec_l1Weight.f kfrom
  by_cases h1 : d = 0
  · subst h1; rfl
  · by_cases h2 : d = 1
    · subst h2; rfl
    · by_cases h3 : d = 2
      · subst h3; rfl
      · rw [if_neg h1, if_neg h2, if_neg h3, if_pos (by omega)]

/-! #### spec_l1In -/
theorem spec_l1In_f (a lo hi : Int) : spec_l1In.f a lo hi = some (decide (lo ≤ a ∧ a ≤ hi)) := by
  unfold spec_l1In.f
  by_cases h : a ≥ lo
  · rw [if_pos h]; congr 1; rw [decide_eq_decide]; omega
  · rw [if_neg h]; congr 1; rw [eq_comm, decide_eq_false_iff_not]; omega

/-! #### spec_KeyValid -/
theorem spec_KeyValid_l0 (s : ByteArray) (hs : s.size ≤ 1000) : ∀ (ys : List Int) (i : Int), 0 ≤ i → i ≤ s.size → (bs s).drop i.toNat = ys → spec_KeyValid.l0L s i = some (letters ys)
  | [], i, h0, h1, hd => by
    have := drop_nil h0 (by rw [bs_length]; exact h1) hd
    rw [bs_length] at this
    rw [spec_KeyValid.l0L_eq, if_neg (by omega)]; rfl
  | y :: ys, i, h0, h1, hd => by
    obtain ⟨hr, hl, hd'⟩ := rd_drop h0 hd
    rw [bs_length] at hl
    rw [spec_KeyValid.l0L_eq, if_pos hl, if_pos h0, bt_bs, hr, w64 (by omega) (by omega)]
    unfold letters
    rw [List.all_cons]
    by_cases e1 : y < 97
    · rw [if_pos e1, decide_eq_false (by omega)]; rfl
    · rw [if_neg e1]
      by_cases e2 : y > 122
      · rw [if_pos e2, decide_eq_false (by omega)]; rfl
      · rw [if_neg e2, decide_eq_true (by omega), spec_KeyValid_l0 s hs ys (i + 1) (by omega) (by omega) hd']; rfl
theorem spec_KeyValid_f (s : ByteArray) : spec_KeyValid.fL s = some (keyOk (bs s)) := by
  rw [spec_KeyValid.fL_eq, spec_l1In_f, Option.bind_some]
  unfold keyOk
  rw [bs_length]
  by_cases h : 1 ≤ (s.size : Int) ∧ (s.size : Int) ≤ 4
  · rw [if_pos (by simpa using h), decide_eq_true (by omega), spec_KeyValid_l0 s (by omega) (bs s) 0 (by omega) (by omega) (by simp)]; rfl
  · rw [if_neg (by simpa using h), decide_eq_false (by omega)]; rfl

/-! #### valueValid -/
theorem impl_valueValid_f (v : Int) : impl_valueValid.f v = some (decide (0 ≤ v ∧ v ≤ 999)) := by
  unfold impl_valueValid.f
  by_cases h : v ≥ 0
  · rw [if_pos h]; congr 1; rw [decide_eq_decide]; omega
  · rw [if_neg h]; congr 1; rw [eq_comm, decide_eq_false_iff_not]; omega

/-! #### PairDigest -/
def digest (k : List Int) (v : Int) : Int := if keyOk k = true ∧ 0 ≤ v ∧ v ≤ 999 then (1009 * keyRank k + 7 * v + 3) % 99991 else -1
theorem keyRank_range (l : List Int) : -1 ≤ keyRank l ∧ keyRank l ≤ 2000000 := by
  unfold keyRank
  by_cases h : keyOk l = true
  · have hn := keyOk_len h
    have hr := rankBelow_range l 1 (keyOk_letters h)
    rw [if_pos h]; omega
  · rw [if_neg h]; omega
theorem keyRank_nonneg {l : List Int} (h : keyOk l = true) : 0 ≤ keyRank l := by
  have hn := keyOk_len h
  unfold keyRank
  rw [if_pos h]
  cases l with
  | nil => simp at hn
  | cons b l =>
    obtain ⟨hb, hl⟩ := letters_cons (keyOk_letters h)
    have hr := rankBelow_range l (1 + 1) hl
    have hk := kfrom_range 1
    have m1 : 0 ≤ (b - 97) * kfrom 1 := Int.mul_nonneg (by omega) (by omega)
    simp only [rankBelow]
    omega
theorem digest_range (k : List Int) (v : Int) : -1 ≤ digest k v ∧ digest k v < 99991 := by
  unfold digest
  split <;> omega
theorem impl_PairDigest_f (s : ByteArray) (v : Int) : impl_PairDigest.fL s v = some (digest (bs s) v) := by
  rw [impl_PairDigest.fL_eq, impl_KeyValid_f, Option.bind_some, impl_valueValid_f, Option.bind_some, impl_KeyRank_f, Option.bind_some]
  unfold digest
  by_cases h : keyOk (bs s) = true
  · have h0 := keyRank_nonneg h
    have h1 := keyRank_range (bs s)
    rw [if_pos h]
    by_cases hv : 0 ≤ v ∧ v ≤ 999
    · rw [if_pos (by simpa using hv), if_pos ⟨h, hv⟩, w64 (n := 1009 * keyRank (bs s)) (by omega) (by omega), w64 (n := 7 * v) (by omega) (by omega), w64 (n := 1009 * keyRank (bs s) + 7 * v) (by omega) (by omega), w64 (by omega) (by omega), Int.tmod_eq_emod_of_nonneg (by omega)]
    · rw [if_neg (by simpa using hv), if_neg (fun e => hv e.2)]
  · rw [if_neg h, if_neg (fun e => h e.1)]
theorem spec_KeyRank_l0 (s : ByteArray) (hs : s.size ≤ 4) : ∀ (ys : List Int) (i n : Int), 0 ≤ i → i ≤ s.size → (bs s).drop i.toNat = ys → letters ys = true → -1 ≤ n → n ≤ 500000 * i → spec_KeyRank.l0L s n i = some (n + rankBelow ys (i + 1))
  | [], i, n, h0, h1, hd, hl, hn, hn2 => by
    have := drop_nil h0 (by rw [bs_length]; exact h1) hd
    rw [bs_length] at this
    rw [spec_KeyRank.l0L_eq, if_neg (by omega)]; simp [rankBelow]
  | y :: ys, i, n, h0, h1, hd, hl, hn, hn2 => by
    obtain ⟨hr, hlt, hd'⟩ := rd_drop h0 hd
    rw [bs_length] at hlt
    obtain ⟨hy, hl'⟩ := letters_cons hl
    have hk := kfrom_range (i + 1)
    have m1 : 0 ≤ (y - 97) * kfrom (i + 1) := Int.mul_nonneg (by omega) (by omega)
    have m2 : (y - 97) * kfrom (i + 1) ≤ 25 * 18279 := Int.mul_le_mul (by omega) hk.2 (by omega) (by omega)
    rw [spec_KeyRank.l0L_eq, if_pos hlt, if_pos h0, spec_l1Weight_f i h0, Option.bind_some, bt_bs, hr, Int.emod_eq_of_lt (a := y - 97) (by omega) (by omega), w64 (n := n + 1) (by omega) (by omega), w64 (n := (y - 97) * kfrom (i + 1)) (by omega) (by omega),
      w64 (n := n + 1 + (y - 97) * kfrom (i + 1)) (by omega) (by omega), w64 (n := i + 1) (by omega) (by omega), spec_KeyRank_l0 s hs ys (i + 1) _ (by omega) (by omega) hd' hl' (by omega) (by omega)]
    simp only [rankBelow]
    congr 1
    omega
theorem spec_KeyRank_f (s : ByteArray) : spec_KeyRank.fL s = some (keyRank (bs s)) := by
  rw [spec_KeyRank.fL_eq, spec_KeyValid_f, Option.bind_some]
  unfold keyRank
  by_cases h : keyOk (bs s) = true
  · have hn := keyOk_len h
    rw [bs_length] at hn
    rw [if_pos h, if_pos h, spec_KeyRank_l0 s (by omega) (bs s) 0 (-1) (by omega) (by omega) (by simp) (keyOk_letters h) (by omega) (by omega)]
    congr 1
    rw [show (0 : Int) + 1 = 1 from rfl]
    omega
  · rw [if_neg h, if_neg h]
theorem spec_PairDigest_f (s : ByteArray) (v : Int) : spec_PairDigest.fL s v = some (digest (bs s) v) := by
  rw [spec_PairDigest.fL_eq, spec_KeyValid_f, Option.bind_some, spec_l1In_f, Option.bind_some, spec_KeyRank_f, Option.bind_some]
  unfold digest
  by_cases h : keyOk (bs s) = true
  · have h0 := keyRank_nonneg h
    have h1 := keyRank_range (bs s)
    rw [if_pos h]
    by_cases hv : 0 ≤ v ∧ v ≤ 999
    · rw [if_pos (by simpa using hv), if_pos ⟨h, hv⟩, w64 (n := 1009 * keyRank (bs s)) (by omega) (by omega), w64 (n := 7 * v) (by omega) (by omega), w64 (n := 1009 * keyRank (bs s) + 7 * v) (by omega) (by omega), w64 (by omega) (by omega), Int.tmod_eq_emod_of_nonneg (by omega)]
    · rw [if_neg (by simpa using hv), if_neg (fun e => hv e.2)]
  · rw [if_neg h, if_neg (fun e => h e.1)]

/-! #### pairs -/
def klt (a b : ByteArray) : Bool := Op.bytesLess a.toList b.toList
/-- A pair alone is valid. -/
def pairItem (y : S29) : Bool := keyOk (bs y.f0) && decide (0 ≤ y.f1 ∧ y.f1 ≤ 999)
/-- The key is greater than the one before, if there is one. -/
def above : Option ByteArray → ByteArray → Bool
  | none, _ => true
  | some q, k => klt q k
def pairsFrom : Option ByteArray → List S29 → Bool
  | _, [] => true
  | p, y :: ys => pairItem y && above p y.f0 && pairsFrom (some y.f0) ys
def pairsOk (l : List S29) : Bool := decide (l.length ≤ 48) && pairsFrom none l
theorem getD_cons {α : Type} {xs : List α} {d : α} {i : Int} {y : α} {ys : List α} (h0 : 0 ≤ i) (h : xs.drop i.toNat = y :: ys) : xs.getD i.toNat d = y ∧ i < xs.length ∧ xs.drop (i + 1).toNat = ys := by
  have h1 : i.toNat < xs.length := by
    by_cases e : i.toNat < xs.length
    · exact e
    · rw [List.drop_eq_nil_of_le (by omega)] at h; cases h
  rw [List.drop_eq_getElem_cons h1] at h
  injection h with ha hb
  refine ⟨?_, by omega, ?_⟩
  · rw [List.getD_eq_getElem?_getD, List.getElem?_eq_getElem h1]; exact ha
  · rw [show (i + 1).toNat = i.toNat + 1 by omega]; exact hb
theorem impl_PairsValid_l0 (xs : List S29) (hx : xs.length ≤ 48) : ∀ (ys : List S29) (i : Int) (p : Option ByteArray), 0 ≤ i → i ≤ xs.length → xs.drop i.toNat = ys → (i = 0 → p = none) → (0 < i → p = some (rd_T29 xs (i - 1)).f0) → impl_PairsValid.l0L xs xs (xs.length : Int) i = some (pairsFrom p ys)
  | [], i, p, h0, h1, hd, hp0, hp1 => by
    have := drop_nil h0 h1 hd
    rw [impl_PairsValid.l0L_eq, if_neg (by omega)]; rfl
  | y :: ys, i, p, h0, h1, hd, hp0, hp1 => by
    obtain ⟨hr0, hl, hd'⟩ := getD_cons (d := z29) h0 hd
    have hr : rd_T29 xs i = y := hr0
    have hnext := impl_PairsValid_l0 xs hx ys (i + 1) (some y.f0) (by omega) (by omega) hd' (fun h => by omega) (fun _ => by rw [show i + 1 - 1 = i by omega, hr])
    rw [impl_PairsValid.l0L_eq, if_pos hl, if_pos h0, if_pos hl, hr, impl_KeyValid_f, Option.bind_some, impl_valueValid_f, Option.bind_some]
    simp only [impl_PairsValid.j1L_eq, w64 (n := i - 1) (by omega) (by omega), w64 (n := i + 1) (by omega) (by omega), if_true, pairsFrom, pairItem]
    cases hk : keyOk (bs y.f0) with
    | false => simp
    | true =>
      by_cases hv : 0 ≤ y.f1 ∧ y.f1 ≤ 999
      · rw [decide_eq_true hv]
        by_cases hi : i > 0
        · rw [if_pos rfl, if_neg (by simp), if_pos hi, if_pos (by omega), if_pos (by omega), hp1 hi, hnext]
          simp only [above, klt]
          cases Op.bytesLess (rd_T29 xs (i - 1)).f0.toList y.f0.toList <;> simp
        · rw [if_pos rfl, if_neg (by simp), if_neg hi, hp0 (by omega), hnext]
          simp [above]
      · rw [decide_eq_false hv]; simp
theorem impl_PairsValid_f (xs : List S29) : impl_PairsValid.fL xs = some (pairsOk xs) := by
  rw [impl_PairsValid.fL_eq]
  unfold pairsOk
  by_cases h : (xs.length : Int) > 48
  · rw [if_pos h, decide_eq_false (by omega)]; rfl
  · rw [if_neg h, decide_eq_true (by omega), impl_PairsValid_l0 xs (by omega) xs 0 none (by omega) (by omega) (by simp) (fun _ => rfl) (fun h => by omega)]; rfl

/-! #### spec_pairs -/
theorem spec_PairsValid_l0 (xs : List S29) (hx : xs.length ≤ 48) : ∀ (ys : List S29) (i : Int) (p : Option ByteArray), 0 ≤ i → i ≤ xs.length → xs.drop i.toNat = ys → (i = 0 → p = none) → (0 < i → p = some (rd_T29 xs (i - 1)).f0) → spec_PairsValid.l0L xs i = some (pairsFrom p ys)
  | [], i, p, h0, h1, hd, hp0, hp1 => by
    have := drop_nil h0 h1 hd
    rw [spec_PairsValid.l0L_eq, if_neg (by omega)]; rfl
  | y :: ys, i, p, h0, h1, hd, hp0, hp1 => by
    obtain ⟨hr0, hl, hd'⟩ := getD_cons (d := z29) h0 hd
    have hr : rd_T29 xs i = y := hr0
    have hnext := spec_PairsValid_l0 xs hx ys (i + 1) (some y.f0) (by omega) (by omega) hd' (fun h => by omega) (fun _ => by rw [show i + 1 - 1 = i by omega, hr])
    rw [spec_PairsValid.l0L_eq, if_pos hl, if_pos h0, hr, spec_KeyValid_f, Option.bind_some, spec_l1In_f, Option.bind_some]
    simp only [w64 (n := i - 1) (by omega) (by omega), w64 (n := i + 1) (by omega) (by omega), pairsFrom, pairItem]
    cases hk : keyOk (bs y.f0) with
    | false => simp
    | true =>
      by_cases hv : 0 ≤ y.f1 ∧ y.f1 ≤ 999
      · rw [decide_eq_true hv]
        by_cases hi : i > 0
        · rw [if_pos rfl, if_pos rfl, if_pos hi, if_pos (by omega), if_pos (by omega), hp1 hi, hnext]
          simp only [above, klt]
          cases Op.bytesLess (rd_T29 xs (i - 1)).f0.toList y.f0.toList <;> simp
        · rw [if_pos rfl, if_pos rfl, if_neg hi, hp0 (by omega), hnext]
          simp [above]
      · rw [decide_eq_false hv]; simp
theorem spec_PairsValid_f (xs : List S29) : spec_PairsValid.fL xs = some (pairsOk xs) := by
  rw [spec_PairsValid.fL_eq]
  unfold pairsOk
  by_cases h : (xs.length : Int) > 48
  · rw [if_pos h, decide_eq_false (by omega)]; rfl
  · rw [if_neg h, decide_eq_true (by omega), spec_PairsValid_l0 xs (by omega) xs 0 none (by omega) (by omega) (by simp) (fun _ => rfl) (fun h => by omega)]; rfl

/-! #### PairsDigest -/
def dsum : List S29 → Int
  | [] => 0
  | y :: ys => digest (bs y.f0) y.f1 + dsum ys
def pairsDigest (l : List S29) : Int := if pairsOk l = true then dsum l % 99991 else -1
theorem pairsOk_len {l : List S29} (h : pairsOk l = true) : l.length ≤ 48 := by
  simp only [pairsOk, Bool.and_eq_true, decide_eq_true_eq] at h; exact h.1
theorem pairsOk_from {l : List S29} (h : pairsOk l = true) : pairsFrom none l = true := by
  simp only [pairsOk, Bool.and_eq_true, decide_eq_true_eq] at h; exact h.2
theorem pairsFrom_cons {p : Option ByteArray} {y : S29} {ys : List S29} (h : pairsFrom p (y :: ys) = true) : pairItem y = true ∧ above p y.f0 = true ∧ pairsFrom (some y.f0) ys = true := by
  simp only [pairsFrom, Bool.and_eq_true] at h; exact ⟨h.1.1, h.1.2, h.2⟩
theorem digest_item {y : S29} (h : pairItem y = true) : digest (bs y.f0) y.f1 = (1009 * keyRank (bs y.f0) + 7 * y.f1 + 3) % 99991 ∧ 0 ≤ y.f1 ∧ y.f1 ≤ 999 := by
  simp only [pairItem, Bool.and_eq_true, decide_eq_true_eq] at h
  exact ⟨by unfold digest; rw [if_pos ⟨h.1, h.2⟩], h.2.1, h.2.2⟩
theorem digest_item_range {y : S29} (h : pairItem y = true) : 0 ≤ digest (bs y.f0) y.f1 ∧ digest (bs y.f0) y.f1 ≤ 99990 := by
  rw [(digest_item h).1]; omega
theorem impl_PairsDigest_l0 (xs : List S29) (hx : xs.length ≤ 48) : ∀ (ys : List S29) (i n : Int) (p : Option ByteArray), 0 ≤ i → i ≤ xs.length → xs.drop i.toNat = ys → pairsFrom p ys = true → 0 ≤ n → n ≤ 99990 * i → impl_PairsDigest.l0L n xs (xs.length : Int) i = some ((n + dsum ys) % 99991)
  | [], i, n, p, h0, h1, hd, hp, hn, hn2 => by
    have := drop_nil h0 h1 hd
    rw [impl_PairsDigest.l0L_eq, if_neg (by omega), Int.tmod_eq_emod_of_nonneg hn]; simp [dsum]
  | y :: ys, i, n, p, h0, h1, hd, hp, hn, hn2 => by
    obtain ⟨hr0, hl, hd'⟩ := getD_cons (d := z29) h0 hd
    have hr : rd_T29 xs i = y := hr0
    obtain ⟨hy, _, hys⟩ := pairsFrom_cons hp
    have hg := digest_item_range hy
    rw [impl_PairsDigest.l0L_eq, if_pos hl, if_pos h0, if_pos hl, hr, impl_PairDigest_f, Option.bind_some, w64 (by omega) (by omega), w64 (n := i + 1) (by omega) (by omega),
      impl_PairsDigest_l0 xs hx ys (i + 1) _ _ (by omega) (by omega) hd' hys (by omega) (by omega)]
    simp only [dsum]
    congr 2
    omega
theorem impl_PairsDigest_f (xs : List S29) : impl_PairsDigest.fL xs = some (pairsDigest xs) := by
  rw [impl_PairsDigest.fL_eq, impl_PairsValid_f, Option.bind_some]
  unfold pairsDigest
  by_cases h : pairsOk xs = true
  · rw [if_pos h, if_pos h, impl_PairsDigest_l0 xs (pairsOk_len h) xs 0 0 none (by omega) (by omega) (by simp) (pairsOk_from h) (by omega) (by omega)]; simp
  · rw [if_neg h, if_neg h]
theorem spec_PairsDigest_l0 (xs : List S29) (hx : xs.length ≤ 48) : ∀ (ys : List S29) (i n : Int) (p : Option ByteArray), 0 ≤ i → i ≤ xs.length → xs.drop i.toNat = ys → pairsFrom p ys = true → 0 ≤ n → n ≤ 99990 → spec_PairsDigest.l0L xs n i = some ((n + dsum ys) % 99991)
  | [], i, n, p, h0, h1, hd, hp, hn, hn2 => by
    have := drop_nil h0 h1 hd
    rw [spec_PairsDigest.l0L_eq, if_neg (by omega)]; simp [dsum]; omega
  | y :: ys, i, n, p, h0, h1, hd, hp, hn, hn2 => by
    obtain ⟨hr0, hl, hd'⟩ := getD_cons (d := z29) h0 hd
    have hr : rd_T29 xs i = y := hr0
    obtain ⟨hy, _, hys⟩ := pairsFrom_cons hp
    have hg := digest_item_range hy
    rw [spec_PairsDigest.l0L_eq, if_pos hl, if_pos h0, hr, spec_PairDigest_f, Option.bind_some, w64 (n := n + _) (by omega) (by omega), w64 (n := i + 1) (by omega) (by omega), Int.tmod_eq_emod_of_nonneg (by omega),
      spec_PairsDigest_l0 xs hx ys (i + 1) _ _ (by omega) (by omega) hd' hys (by omega) (by omega)]
    simp only [dsum]
    congr 1
    omega
theorem spec_PairsDigest_f (xs : List S29) : spec_PairsDigest.fL xs = some (pairsDigest xs) := by
  rw [spec_PairsDigest.fL_eq, spec_PairsValid_f, Option.bind_some]
  unfold pairsDigest
  by_cases h : pairsOk xs = true
  · rw [if_pos h, if_pos h, spec_PairsDigest_l0 xs (pairsOk_len h) xs 0 0 none (by omega) (by omega) (by simp) (pairsOk_from h) (by omega) (by omega)]; simp
  · rw [if_neg h, if_neg h]

/-! #### pairmap -/
theorem toList_eq {a b : ByteArray} : a.toList = b.toList ↔ a = b := by
  rw [toList_data, toList_data]
  exact ⟨fun h => ByteArray.ext (Array.toList_inj.mp h), fun h => by rw [h]⟩
/-- Where a key is or belongs: how many pairs stand before it. -/
def place (k : ByteArray) : List S29 → Nat
  | [] => 0
  | y :: ys => if klt y.f0 k = true then place k ys + 1 else 0
theorem place_le (k : ByteArray) : ∀ l, place k l ≤ l.length
  | [] => Nat.le_refl _
  | y :: ys => by
    have := place_le k ys
    simp only [place, List.length_cons]
    split <;> omega
/-- Is the key there? -/
def hit (k : ByteArray) (l : List S29) : Bool := decide (place k l < l.length ∧ (rd_T29 l (place k l : Int)).f0 = k)
theorem hit_lt {k : ByteArray} {l : List S29} (h : hit k l = true) : place k l < l.length := (of_decide_eq_true h).1
theorem hit_key {k : ByteArray} {l : List S29} (h : hit k l = true) : (rd_T29 l (place k l : Int)).f0 = k := (of_decide_eq_true h).2
def pairGet (l : List S29) (k : ByteArray) : Int := if pairsOk l = true then (if hit k l = true then (rd_T29 l (place k l : Int)).f1 else -1) else -1
def pairDrop (l : List S29) (k : ByteArray) : List S29 × Bool := if pairsOk l = true then (if hit k l = true then (l.take (place k l) ++ l.drop (place k l + 1), true) else (l, false)) else ([], false)
def pairPut (l : List S29) (k : ByteArray) (v : Int) : List S29 × Bool :=
  if pairsOk l = true ∧ keyOk (bs k) = true ∧ 0 ≤ v ∧ v ≤ 999 then
    (if hit k l = true then (l.take (place k l) ++ ⟨k, v⟩ :: l.drop (place k l + 1), true) else if 48 ≤ l.length then (l, false) else (l.take (place k l) ++ ⟨k, v⟩ :: l.drop (place k l), true))
  else ([], false)
theorem pairsOk_le {l : List S29} (h : pairsOk l = true) : l.length ≤ 48 := by
  simp only [pairsOk, Bool.and_eq_true, decide_eq_true_eq] at h; exact h.1
theorem pairPut_length (l : List S29) (k : ByteArray) (v : Int) : (pairPut l k v).1.length ≤ 48 := by
  unfold pairPut
  split
  · rename_i h
    have h1 := pairsOk_le h.1
    have h2 := place_le k l
    split
    · rename_i h3
      have := hit_lt h3
      simp; omega
    · split
      · exact h1
      · simp; omega
  · simp
theorem pairDrop_length (l : List S29) (k : ByteArray) : (pairDrop l k).1.length ≤ 48 := by
  unfold pairDrop
  split
  · rename_i h
    have h1 := pairsOk_le h
    split
    · simp; omega
    · exact h1
  · simp
theorem set_split {α : Type} (y : α) : ∀ (l : List α) (n : Nat), n < l.length → l.set n y = l.take n ++ y :: l.drop (n + 1)
  | [], n, h => by simp at h
  | x :: l, 0, h => by simp
  | x :: l, n + 1, h => by simp at h; simp [set_split y l n h]

/-! #### Interval -/
theorem toList_eq_iff (a b : ByteArray) : a.toList = b.toList ↔ a = b := by
  rw [toList_data, toList_data]
  constructor
  · intro h
    cases a; cases b
    simp only [ByteArray.mk.injEq]
    exact Array.ext' h
  · intro h; rw [h]
/-- The least key of an interval with this lower bound. -/
def low (lo : ByteArray) : ByteArray := if lo.toList = [] then (⟨#[97]⟩ : ByteArray) else lo
def ivOk (lo hi : ByteArray) : Bool :=
  (decide (lo.toList = []) || keyOk (bs lo)) && (decide (hi.toList = []) || keyOk (bs hi)) && (decide (hi.toList = []) || Op.bytesLess (low lo).toList hi.toList)
theorem impl_lowestKey_f (lo hi : ByteArray) : impl_lowestKey.f lo hi = some (low lo) := by
  unfold impl_lowestKey.f low
  split <;> rfl
theorem impl_IntervalValid_f (lo hi : ByteArray) : impl_IntervalValid.fL lo hi = some (ivOk lo hi) := by
  rw [impl_IntervalValid.fL_eq, impl_KeyValid_f, impl_KeyValid_f, impl_lowestKey_f]
  simp only [Option.bind_some]
  unfold ivOk
  by_cases h1 : lo.toList = []
  · rw [if_pos h1, decide_eq_true h1]
    by_cases h2 : hi.toList = []
    · rw [if_pos h2, decide_eq_true h2]; rfl
    · rw [if_neg h2, decide_eq_false h2]
      cases keyOk (bs hi) <;> simp
  · rw [if_neg h1, decide_eq_false h1]
    by_cases h2 : hi.toList = []
    · rw [if_pos h2, decide_eq_true h2]
      cases keyOk (bs lo) <;> simp
    · rw [if_neg h2, decide_eq_false h2]
      cases keyOk (bs lo) <;> cases keyOk (bs hi) <;> simp
def joinOk (a b c d : ByteArray) : Bool := ivOk a b && ivOk c d && !decide (b.toList = []) && decide (b.toList = c.toList)
theorem impl_IntervalJoin_f (a b c d : ByteArray) : impl_IntervalJoin.fL a b c d = some (if joinOk a b c d = true then (a, d, true) else ((⟨#[]⟩ : ByteArray), (⟨#[]⟩ : ByteArray), false)) := by
  rw [impl_IntervalJoin.fL_eq, impl_IntervalValid_f, impl_IntervalValid_f]
  simp only [Option.bind_some]
  unfold joinOk
  cases ivOk a b with
  | false => simp
  | true =>
    cases ivOk c d with
    | false => simp
    | true =>
      by_cases h1 : b.toList = []
      · rw [decide_eq_true h1]; simp [h1]
      · rw [decide_eq_false h1]
        by_cases h2 : b.toList = c.toList
        · rw [decide_eq_true h2]
          rw [if_pos rfl, if_pos rfl, if_neg h1, if_pos h2]; simp
        · rw [decide_eq_false h2]
          rw [if_pos rfl, if_pos rfl, if_neg h1, if_neg h2]; simp

/-! #### bless -/
theorem bless_irrefl : ∀ x : List UInt8, Op.bytesLess x x = false
  | [] => by simp [Op.bytesLess]
  | a :: x => by simp [Op.bytesLess, bless_irrefl x, UInt8.lt_irrefl]
theorem bless_total : ∀ x y : List UInt8, Op.bytesLess x y = false → Op.bytesLess y x = false → x = y
  | [], [], _, _ => rfl
  | [], b :: y, h, _ => by simp [Op.bytesLess] at h
  | a :: x, [], _, h => by simp [Op.bytesLess] at h
  | a :: x, b :: y, h, h2 => by
    simp only [Op.bytesLess, Bool.or_eq_false_iff, decide_eq_false_iff_not, Bool.and_eq_false_iff] at h h2
    have e : a = b := by
      apply UInt8.toNat_inj.1
      have h1 : ¬ a.toNat < b.toNat := fun c => h.1 (UInt8.lt_iff_toNat_lt.2 c)
      have h3 : ¬ b.toNat < a.toNat := fun c => h2.1 (UInt8.lt_iff_toNat_lt.2 c)
      omega
    subst e
    have hx : Op.bytesLess x y = false := by rcases h.2 with h | h; · simp at h
                                             · exact h
    have hy : Op.bytesLess y x = false := by rcases h2.2 with h | h; · simp at h
                                             · exact h
    rw [bless_total x y hx hy]
theorem bless_trans : ∀ x y z : List UInt8, Op.bytesLess x y = true → Op.bytesLess y z = true → Op.bytesLess x z = true
  | [], _, [], h, h2 => by cases h2' : Op.bytesLess ([] : List UInt8) [] <;> simp_all [Op.bytesLess]
  | [], _, c :: z, _, _ => by simp [Op.bytesLess]
  | a :: x, [], _, h, _ => by simp [Op.bytesLess] at h
  | a :: x, b :: y, [], _, h => by simp [Op.bytesLess] at h
  | a :: x, b :: y, c :: z, h, h2 => by
    simp only [Op.bytesLess, Bool.or_eq_true, decide_eq_true_eq, Bool.and_eq_true, beq_iff_eq] at h h2 ⊢
    simp only [UInt8.lt_iff_toNat_lt] at h h2 ⊢
    rcases h with h | ⟨e, h⟩
    · rcases h2 with h2 | ⟨e2, h2⟩
      · left; omega
      · left; subst e2; exact h
    · rcases h2 with h2 | ⟨e2, h2⟩
      · left; subst e; exact h2
      · right; exact ⟨e.trans e2, bless_trans x y z h h2⟩

/-! #### PairsIn -/
theorem klt_tr {a b c : ByteArray} (h : klt a b = true) (h2 : klt b c = true) : klt a c = true := bless_trans _ _ _ h h2
/-- All keys of a list that ascend from p on are greater than p's. -/
theorem from_all : ∀ (l : List S29) (p : ByteArray), pairsFrom (some p) l = true → ∀ y ∈ l, klt p y.f0 = true
  | [], p, _, y, hy => by cases hy
  | x :: xs, p, h, y, hy => by
    simp only [pairsFrom, Bool.and_eq_true] at h
    have hx : klt p x.f0 = true := h.1.2
    rcases List.mem_cons.1 hy with rfl | hy
    · exact hx
    · exact klt_tr hx (from_all xs x.f0 h.2 y hy)
/-- Is a key between the bounds? -/
def inIv (lo hi k : ByteArray) : Bool := !klt k lo && (decide (hi.toList = []) || klt k hi)
def pairsIn (l : List S29) (lo hi : ByteArray) : List S29 := if pairsOk l = true ∧ ivOk lo hi = true then l.filter (fun y => inIv lo hi y.f0) else []
theorem filter_none {l : List S29} {f : S29 → Bool} (h : ∀ y ∈ l, f y = false) : l.filter f = [] := by
  rw [List.filter_eq_nil_iff]; intro y hy; rw [h y hy]; simp
theorem filter_klt (k : ByteArray) : ∀ (l : List S29) (p : Option ByteArray), pairsFrom p l = true → l.filter (fun y => klt y.f0 k) = l.take (place k l) ∧ l.filter (fun y => !klt y.f0 k) = l.drop (place k l)
  | [], p, _ => by simp
  | x :: xs, p, h => by
    simp only [pairsFrom, Bool.and_eq_true] at h
    have ha := from_all xs x.f0 h.2
    cases e : klt x.f0 k with
    | true =>
      obtain ⟨h1, h2⟩ := filter_klt k xs _ h.2
      simp only [place, if_pos e, List.filter_cons, e, Bool.not_true, if_true, List.take_succ_cons, List.drop_succ_cons, h1, h2]
      simp
    | false =>
      have hall : ∀ y ∈ xs, klt y.f0 k = false := by
        intro y hy
        cases hb : klt y.f0 k with
        | false => rfl
        | true => rw [klt_tr (ha y hy) hb] at e; cases e
      have hp : place k (x :: xs) = 0 := by simp only [place]; rw [if_neg (by rw [e]; simp)]
      rw [hp]
      constructor
      · exact filter_none (fun y hy => by rcases List.mem_cons.1 hy with rfl | hy; · exact e
                                          · exact hall y hy)
      · show _ = x :: xs
        rw [List.filter_eq_self]
        intro y hy
        rcases List.mem_cons.1 hy with rfl | hy
        · rw [e]; rfl
        · rw [hall y hy]; rfl
theorem place_take (k : ByteArray) : ∀ (l : List S29) (n : Nat), place k (l.take n) = min (place k l) n
  | [], n => by simp [place]
  | x :: xs, 0 => by simp [place]
  | x :: xs, n + 1 => by
    simp only [List.take_succ_cons, place]
    split
    · rw [place_take k xs n]; omega
    · simp
theorem place_mono {a b : ByteArray} (h : klt a b = true ∨ a = b) : ∀ l : List S29, place a l ≤ place b l
  | [] => Nat.le_refl _
  | x :: xs => by
    have ih := place_mono h xs
    simp only [place]
    by_cases e : klt x.f0 a = true
    · have : klt x.f0 b = true := by
        rcases h with h | rfl
        · exact klt_tr e h
        · exact e
      rw [if_pos e, if_pos this]; omega
    · rw [if_neg e]; omega
theorem klt_nil {a lo : ByteArray} (h : lo.toList = []) : klt a lo = false := by
  unfold klt; rw [h]; cases a.toList <;> simp [Op.bytesLess]
theorem place_nil {lo : ByteArray} (h : lo.toList = []) (l : List S29) : place lo l = 0 := by
  cases l with
  | nil => rfl
  | cons x xs => simp only [place]; rw [if_neg (by rw [klt_nil h]; simp)]
theorem place_le_iv {lo hi : ByteArray} (h : ivOk lo hi = true) (hh : ¬ hi.toList = []) (l : List S29) : place lo l ≤ place hi l := by
  by_cases e : lo.toList = []
  · rw [place_nil e]; omega
  · simp only [ivOk, low, Bool.and_eq_true, Bool.or_eq_true, decide_eq_true_eq] at h
    rw [if_neg e] at h
    rcases h.2 with h | h
    · exact absurd h hh
    · exact place_mono (.inl h) l
/-- The pairs in an interval stand side by side. -/
theorem pairsIn_cut {l : List S29} {lo hi : ByteArray} (h1 : pairsOk l = true) (h2 : ivOk lo hi = true) : pairsIn l lo hi = (l.take (if hi.toList = [] then l.length else place hi l)).drop (place lo l) := by
  have hf : pairsFrom none l = true := by simp only [pairsOk, Bool.and_eq_true, decide_eq_true_eq] at h1; exact h1.2
  unfold pairsIn
  rw [if_pos ⟨h1, h2⟩]
  by_cases e : hi.toList = []
  · rw [if_pos e, List.take_length, ← (filter_klt lo l none hf).2]
    congr 1; funext y
    unfold inIv
    rw [decide_eq_true e]; simp
  · have hm := place_le_iv h2 e l
    have htf : pairsFrom none (l.take (place hi l)) = true := by
      have : ∀ (n : Nat) (p : Option ByteArray) (l : List S29), pairsFrom p l = true → pairsFrom p (l.take n) = true := by
        intro n
        induction n with
        | zero => intro p l _; simp [pairsFrom]
        | succ n ih =>
          intro p l hl
          cases l with
          | nil => simp [pairsFrom]
          | cons y ys =>
            simp only [pairsFrom, Bool.and_eq_true] at hl
            simp only [List.take_succ_cons, pairsFrom, hl.1.1, hl.1.2, ih _ ys hl.2, Bool.and_true]
      exact this _ _ _ hf
    have h3 := (filter_klt lo _ none htf).2
    rw [place_take, Nat.min_eq_left hm] at h3
    rw [if_neg e, ← h3, ← (filter_klt hi l none hf).1, List.filter_filter]
    congr 1; funext y
    unfold inIv
    rw [decide_eq_false e]; simp
theorem pairsIn_length (l : List S29) (lo hi : ByteArray) : (pairsIn l lo hi).length ≤ 48 := by
  unfold pairsIn
  split
  · rename_i h
    have := pairsOk_le h.1
    have h2 := List.length_filter_le (fun y : S29 => inIv lo hi y.f0) l
    omega
  · simp

/-! #### Partition -/
/-- Each one begins where the one before it ends. -/
def chainFrom : S83 → List S83 → Bool
  | _, [] => true
  | p, y :: ys => joinOk p.f0 p.f1 y.f0 y.f1 && chainFrom y ys
def partOk (l : List S83) : Bool :=
  match l with
  | [] => false
  | v :: vs => decide (l.length ≤ 6) && ivOk v.f0 v.f1 && decide (v.f0.toList = []) && decide ((rd_T83 l ((l.length : Int) - 1)).f1.toList = []) && chainFrom v vs
theorem getD_iv {α : Type} {xs : List α} {d : α} {i : Int} {y : α} {ys : List α} (h0 : 0 ≤ i) (h : xs.drop i.toNat = y :: ys) : xs.getD i.toNat d = y ∧ i < xs.length ∧ xs.drop (i + 1).toNat = ys := by
  have h1 : i.toNat < xs.length := by
    by_cases e : i.toNat < xs.length
    · exact e
    · rw [List.drop_eq_nil_of_le (by omega)] at h; cases h
  rw [List.drop_eq_getElem_cons h1] at h
  injection h with ha hb
  refine ⟨?_, by omega, ?_⟩
  · rw [List.getD_eq_getElem?_getD, List.getElem?_eq_getElem h1]; exact ha
  · rw [show (i + 1).toNat = i.toNat + 1 by omega]; exact hb
theorem bne_nilB (l : List UInt8) : (l != []) = !decide (l = []) := by cases l <;> simp
theorem joinOk_right {a b c d : ByteArray} (h : ivOk c d = false) : joinOk a b c d = false := by
  unfold joinOk; rw [h]; simp
theorem impl_PartitionValid_l0 (xs : List S83) (hx : xs.length ≤ 6) : ∀ (ys : List S83) (i : Int), 1 ≤ i → i ≤ xs.length → xs.drop i.toNat = ys → impl_PartitionValid.l0L xs xs (xs.length : Int) i = some (chainFrom (rd_T83 xs (i - 1)) ys)
  | [], i, h0, h1, hd => by
    have := drop_nil (by omega) h1 hd
    rw [impl_PartitionValid.l0L_eq, if_neg (by omega)]; rfl
  | y :: ys, i, h0, h1, hd => by
    obtain ⟨hr0, hl, hd'⟩ := getD_iv (d := z83) (by omega) hd
    have hr : rd_T83 xs i = y := hr0
    have ih := impl_PartitionValid_l0 xs hx ys (i + 1) (by omega) (by omega) hd'
    rw [show i + 1 - 1 = i by omega, hr] at ih
    rw [impl_PartitionValid.l0L_eq, if_pos hl, if_pos (by omega), if_pos hl, hr, impl_IntervalValid_f, Option.bind_some, w64 (n := i - 1) (by omega) (by omega), w64 (n := i + 1) (by omega) (by omega), if_pos (show i > 0 by omega), if_pos (show 0 ≤ i - 1 by omega), if_pos (show i - 1 < (xs.length : Int) by omega), impl_IntervalJoin_f, Option.bind_some, ih]
    simp only [chainFrom]
    cases hv : ivOk y.f0 y.f1 with
    | false => rw [joinOk_right hv]; simp
    | true => cases joinOk (rd_T83 xs (i - 1)).f0 (rd_T83 xs (i - 1)).f1 y.f0 y.f1 <;> simp
theorem impl_PartitionValid_f (xs : List S83) : impl_PartitionValid.fL xs = some (partOk xs) := by
  have jt : impl_PartitionValid.j0L xs true = some false := by rw [impl_PartitionValid.j0L_eq, if_pos rfl]
  rw [impl_PartitionValid.fL_eq, jt]
  unfold partOk
  cases xs with
  | nil => rfl
  | cons v vs =>
    have hlen : ((v :: vs).length : Int) = (vs.length : Int) + 1 := by simp
    have hv : rd_T83 (v :: vs) 0 = v := rfl
    rw [if_neg (by omega)]
    by_cases h6 : ((v :: vs).length : Int) > 6
    · rw [if_pos h6]
      dsimp only
      rw [decide_eq_false (by omega)]; simp
    · rw [if_neg h6, if_pos (by omega), hv]
      dsimp only
      rw [decide_eq_true (p := (v :: vs).length ≤ 6) (by omega)]
      by_cases h1 : v.f0.toList = []
      · rw [if_pos h1, decide_eq_true h1, w64 (by omega) (by omega), if_pos (by omega), if_pos (by omega), bne_nilB]
        by_cases h2 : (rd_T83 (v :: vs) (((v :: vs).length : Int) - 1)).f1.toList = []
        · rw [decide_eq_true h2, Bool.not_true, impl_PartitionValid.j0L_eq, if_neg (by simp), impl_PartitionValid.l0L_eq, if_pos (by omega), if_pos (by omega), if_pos (by omega), hv, impl_IntervalValid_f, Option.bind_some, if_neg (show ¬ ((0 : Int) > 0) by omega), w64 (n := 0 + 1) (by omega) (by omega),
            impl_PartitionValid_l0 (v :: vs) (by omega) vs (0 + 1) (by omega) (by omega) (by simp)]
          rw [show (0 : Int) + 1 - 1 = 0 by omega, hv]
          cases ivOk v.f0 v.f1 <;> simp
        · rw [decide_eq_false h2, Bool.not_false, jt]; simp
      · rw [if_neg h1, decide_eq_false h1]; simp

/-! #### PartDigests -/
/-- The digests of the pairs in each interval. -/
def pdigs (l : List S29) (ps : List S83) : List Int := ps.map fun v => pairsDigest (pairsIn l v.f0 v.f1)
def partDigests (l : List S29) (ps : List S83) : List Int := if pairsOk l = true ∧ partOk ps = true then pdigs l ps else []
theorem partOk_len {ps : List S83} (h : partOk ps = true) : 1 ≤ ps.length ∧ ps.length ≤ 6 := by
  cases ps with
  | nil => cases h
  | cons v vs =>
    simp only [partOk, Bool.and_eq_true, decide_eq_true_eq] at h
    exact ⟨by simp, h.1.1.1.1⟩
theorem partDigests_length (l : List S29) (ps : List S83) : (partDigests l ps).length ≤ 6 := by
  unfold partDigests
  split
  · rename_i h
    have := partOk_len h.2
    simp only [pdigs, List.length_map]; omega
  · simp
/-- Where two lists of numbers differ. -/
def diffAt : Int → List Int → List Int → List Int
  | i, x :: xs, y :: ys => if x = y then diffAt (i + 1) xs ys else i :: diffAt (i + 1) xs ys
  | _, _, _ => []
def diffParts (a b : List S29) (ps : List S83) : List Int := diffAt 0 (partDigests a ps) (partDigests b ps)
theorem diffAt_length : ∀ (xs ys : List Int) (i : Int), (diffAt i xs ys).length ≤ xs.length
  | [], ys, i => by cases ys <;> simp [diffAt]
  | x :: xs, [], i => by simp [diffAt]
  | x :: xs, y :: ys, i => by
    have := diffAt_length xs ys (i + 1)
    simp only [diffAt]
    split <;> simp <;> omega
theorem diffParts_length (a b : List S29) (ps : List S83) : (diffParts a b ps).length ≤ 6 := by
  have := diffAt_length (partDigests a ps) (partDigests b ps) 0
  have h2 := partDigests_length a ps
  unfold diffParts; omega

/-! #### impl_pairmap -/
theorem cmp_Compare_f (a b : ByteArray) : cmp_Compare_string.f a b = some (if klt a b = true then -1 else if klt b a = true then 1 else 0) := by
  have h : ∀ s : ByteArray, cmp_isNaN_string.f s = some false := fun s => by unfold cmp_isNaN_string.f; simp
  unfold cmp_Compare_string.f klt
  rw [h, h]
  simp only [Option.bind_some, Bool.false_eq_true, if_false]
  split
  · rfl
  · split <;> rfl
theorem impl_pairPlace1_f (a : ByteArray) (v : Int) (b : ByteArray) : impl_pairPlace_1.f a v b = some (if klt a b = true then -1 else if klt b a = true then 1 else 0) := by
  unfold impl_pairPlace_1.f
  rw [cmp_Compare_f]; rfl
theorem klt_trans {a b c : ByteArray} (h : klt a b = true) (h2 : klt b c = true) : klt a c = true := bless_trans _ _ _ h h2
theorem klt_irrefl (a : ByteArray) : klt a a = false := bless_irrefl _
theorem klt_total {a b : ByteArray} (h : klt a b = false) (h2 : klt b a = false) : a = b := toList_eq.1 (bless_total _ _ h h2)
/-- All keys of a list that ascend from p on are greater than p's. -/
theorem pairsFrom_all : ∀ (l : List S29) (p : ByteArray), pairsFrom (some p) l = true → ∀ y ∈ l, klt p y.f0 = true
  | [], p, _, y, hy => by cases hy
  | x :: xs, p, h, y, hy => by
    simp only [pairsFrom, Bool.and_eq_true] at h
    have hx : klt p x.f0 = true := h.1.2
    rcases List.mem_cons.1 hy with rfl | hy
    · exact hx
    · exact klt_trans hx (pairsFrom_all xs x.f0 h.2 y hy)
/-- In a list that ascends: before the place keys are less, behind it they are not. -/
theorem place_split (k : ByteArray) : ∀ (l : List S29) (p : Option ByteArray), pairsFrom p l = true → ∀ (i : Nat) (h : i < l.length), klt (l[i]).f0 k = decide (i < place k l)
  | [], p, _, i, h => by simp at h
  | x :: xs, p, hp, i, h => by
    simp only [pairsFrom, Bool.and_eq_true] at hp
    have ha := pairsFrom_all xs x.f0 hp.2
    by_cases e : klt x.f0 k = true
    · simp only [place, if_pos e]
      cases i with
      | zero => simpa using e
      | succ i =>
        have := place_split k xs _ hp.2 i (by simpa using h)
        simp only [List.getElem_cons_succ, this, decide_eq_decide]
        omega
    · simp only [place, if_neg e]
      cases i with
      | zero => simpa using e
      | succ i =>
        simp only [List.getElem_cons_succ, Nat.not_lt_zero, decide_false]
        cases hb : klt (xs[i]'(by simpa using h)).f0 k with
        | false => rfl
        | true => exact absurd (klt_trans (ha _ (List.getElem_mem _)) hb) e
theorem rd_getElem (l : List S29) (i : Int) (h : i.toNat < l.length) : rd_T29 l i = l[i.toNat] := by
  unfold rd_T29
  rw [List.getD_eq_getElem?_getD, List.getElem?_eq_getElem h]; rfl
theorem half_ (a b : Int) (ha : 0 ≤ a) (hb : 0 ≤ b) (ha2 : a ≤ 1000000) (hb2 : b ≤ 1000000) : wrap64 (IntKind.u64.wrap (wrap64 (a + b)) / 2) = (a + b) / 2 := by
  have e : IntKind.u64.wrap (a + b) = a + b := by
    simp only [IntKind.wrap, IntKind.signed, IntKind.bits, Bool.false_and, Bool.false_eq_true, if_false]
    omega
  rw [w64 (n := a + b) (by omega) (by omega), e, w64 (by omega) (by omega)]
theorem impl_search_l0 (xs : List S29) (k : ByteArray) (hok : pairsOk xs = true) : ∀ (n : Nat) (i j : Int), j - i ≤ n → 0 ≤ i → i ≤ (place k xs : Int) → (place k xs : Int) ≤ j → j ≤ xs.length →
    impl_Pair_string.l0L xs k (xs.length : Int) i j = some ((place k xs : Int), hit k xs)
  | n, i, j, hn, h0, hi, hj, hl => by
    have h48 := pairsOk_le hok
    have hp := place_le k xs
    rw [impl_Pair_string.l0L_eq]
    by_cases e : i < j
    · match n with
      | 0 => omega
      | n + 1 =>
        have hr := rd_getElem xs ((i + j) / 2) (by omega)
        have hs := place_split k xs none (by simp only [pairsOk, Bool.and_eq_true, decide_eq_true_eq] at hok; exact hok.2) ((i + j) / 2).toNat (by omega)
        rw [if_pos e, half_ i j (by omega) (by omega) (by omega) (by omega), if_pos (by omega), if_pos (by omega), impl_pairPlace1_f, Option.bind_some, hr, hs]
        by_cases c : ((i + j) / 2).toNat < place k xs
        · rw [decide_eq_true c, if_pos rfl, if_pos (by omega), w64 (by omega) (by omega)]
          exact impl_search_l0 xs k hok n _ j (by omega) (by omega) (by omega) hj hl
        · rw [decide_eq_false c, if_neg (show ¬ (false = true) by simp)]
          have c2 : ¬ (if klt k (xs[((i + j) / 2).toNat]'(by omega)).f0 = true then (1 : Int) else 0) < 0 := by split <;> omega
          rw [if_neg c2]
          exact impl_search_l0 xs k hok n i _ (by omega) h0 hi (by omega) (by omega)
    · have hij : i = (place k xs : Int) := by omega
      rw [if_neg e, hij]
      by_cases c : (place k xs : Int) < (xs.length : Int)
      · have hr := rd_getElem xs (place k xs : Int) (by omega)
        have hs := place_split k xs none (by simp only [pairsOk, Bool.and_eq_true, decide_eq_true_eq] at hok; exact hok.2) (place k xs) (by omega)
        rw [if_pos c, if_pos (by omega), if_pos c, impl_pairPlace1_f, Option.bind_some]
        have hrd : rd_T29 xs (place k xs : Int) = xs[place k xs]'(by omega) := by rw [hr]; rfl
        rw [hrd, hs, decide_eq_false (by omega), if_neg (show ¬ (false = true) by simp)]
        have : hit k xs = ((if klt k (xs[place k xs]'(by omega)).f0 = true then (1 : Int) else 0) == 0) := by
          unfold hit
          rw [hrd]
          cases hb : klt k (xs[place k xs]'(by omega)).f0 with
          | true =>
            rw [if_pos rfl, decide_eq_false]
            · rfl
            · rintro ⟨_, he⟩; rw [he, klt_irrefl] at hb; cases hb
          | false =>
            rw [if_neg (by simp), decide_eq_true ⟨by omega, klt_total (by rw [hs]; simp) hb⟩]; rfl
        rw [this]
      · rw [if_neg c]
        have : hit k xs = false := by unfold hit; rw [decide_eq_false (fun h => c (by omega))]
        rw [this]
theorem impl_pairPlace_f (xs : List S29) (k : ByteArray) (hok : pairsOk xs = true) : impl_pairPlace.fL xs k = some ((place k xs : Int), hit k xs) := by
  have hp := place_le k xs
  rw [impl_pairPlace.fL_eq, impl_Pair_string.fL_eq, impl_search_l0 xs k hok xs.length 0 (xs.length : Int) (by omega) (by omega) (by omega) (by omega) (by omega), Option.bind_some]

/-! #### impl_copyPairs -/
theorem impl_copyOf_f (xs : List S29) (hx : xs.length ≤ 1000000000000) : impl_Pair.f xs = some xs := by
  unfold impl_Pair.f
  rw [if_pos (by simp; omega)]; simp

/-! #### impl_PairsIn -/
theorem impl_PairsIn_f (xs : List S29) (lo hi : ByteArray) : impl_PairsIn.fL xs lo hi = some (pairsIn xs lo hi) := by
  have hj : impl_PairsIn.j0L xs true lo hi = some [] := by rw [impl_PairsIn.j0L_eq, if_pos rfl]
  rw [impl_PairsIn.fL_eq, impl_PairsValid_f, Option.bind_some]
  by_cases h1 : pairsOk xs = true
  · have h48 := pairsOk_le h1
    have p1 := place_le lo xs
    have p2 := place_le hi xs
    rw [if_pos h1, impl_IntervalValid_f, Option.bind_some]
    by_cases h2 : ivOk lo hi = true
    · rw [pairsIn_cut h1 h2, h2, Bool.not_true, impl_PairsIn.j0L_eq, if_neg (by simp), impl_pairPlace_f xs lo h1, Option.bind_some]
      dsimp only
      by_cases e : hi.toList = []
      · rw [if_pos e, if_pos e, if_pos (by omega), if_pos (by omega), if_pos (by omega), Int.toNat_natCast, Int.toNat_natCast, impl_copyOf_f _ (by simp; omega), Option.bind_some]
      · have hm := place_le_iv h2 e xs
        rw [if_neg e, if_neg e, impl_pairPlace_f xs hi h1, Option.bind_some]
        dsimp only
        rw [if_pos (by omega), if_pos (by omega), if_pos (by omega), Int.toNat_natCast, Int.toNat_natCast, impl_copyOf_f _ (by simp; omega), Option.bind_some]
    · rw [show ivOk lo hi = false by simpa using h2, Bool.not_false, hj]; unfold pairsIn; rw [if_neg (fun h => h2 h.2)]
  · rw [if_neg h1, hj]; unfold pairsIn; rw [if_neg (fun h => h1 h.1)]

/-! #### impl_PartDigests -/
theorem impl_PartDigests_l0 (l : List S29) (ps : List S83) (hx : ps.length ≤ 6) : ∀ (ys : List S83) (out : List Int) (i : Int), 0 ≤ i → i ≤ ps.length → (out.length : Int) ≤ i → ps.drop i.toNat = ys → impl_PartDigests.l0L l out ps (ps.length : Int) i = some (out ++ pdigs l ys)
  | [], out, i, h0, h1, ho, hd => by
    have := drop_nil h0 h1 hd
    rw [impl_PartDigests.l0L_eq, if_neg (by omega)]; simp [pdigs]
  | y :: ys, out, i, h0, h1, ho, hd => by
    obtain ⟨hr0, hl, hd'⟩ := getD_iv (d := z83) h0 hd
    have hr : rd_T83 ps i = y := hr0
    rw [impl_PartDigests.l0L_eq, if_pos hl, if_pos h0, if_pos hl, hr, impl_PairsIn_f, Option.bind_some, impl_PairsDigest_f, Option.bind_some, if_pos (by omega), w64 (by omega) (by omega), impl_PartDigests_l0 l ps hx ys _ (i + 1) (by omega) (by omega) (by simp; omega) hd']
    simp [pdigs]
theorem impl_PartDigests_f (l : List S29) (ps : List S83) : impl_PartDigests.fL l ps = some (partDigests l ps) := by
  have hj : impl_PartDigests.j0L l ps true = some [] := by rw [impl_PartDigests.j0L_eq, if_pos rfl]
  rw [impl_PartDigests.fL_eq, impl_PairsValid_f, Option.bind_some]
  unfold partDigests
  by_cases h1 : pairsOk l = true
  · rw [if_pos h1, impl_PartitionValid_f, Option.bind_some]
    by_cases h2 : partOk ps = true
    · rw [if_pos ⟨h1, h2⟩, h2, Bool.not_true, impl_PartDigests.j0L_eq, if_neg (by simp), impl_PartDigests_l0 l ps (partOk_len h2).2 ps [] 0 (by omega) (by omega) (by simp) (by simp), List.nil_append]
    · rw [show partOk ps = false by simpa using h2, Bool.not_false, hj, if_neg (fun h => by simp at h)]
  · rw [if_neg h1, hj, if_neg (fun h => h1 h.1)]

/-! #### spec_Interval -/
theorem less_a (hi : ByteArray) (h : keyOk (bs hi) = true) : (Op.bytesLess [] hi.toList && (hi.toList != [97])) = Op.bytesLess [97] hi.toList := by
  have hl : letters (bs hi) = true := keyOk_letters h
  have hn := (keyOk_len h).1
  have hb : bs hi = hi.toList.map fun b => (b.toNat : Int) := by rw [toList_data]; rfl
  rw [hb] at hl hn
  cases e : hi.toList with
  | nil => rw [e] at hn; simp at hn
  | cons b l =>
    rw [e] at hl
    obtain ⟨h1, _⟩ := letters_cons hl
    have h1 : 97 ≤ (b.toNat : Int) ∧ (b.toNat : Int) ≤ 122 := h1
    simp only [Op.bytesLess]
    by_cases hb97 : b = 97
    · subst hb97
      cases l with
      | nil => simp [Op.bytesLess]
      | cons c l => simp [Op.bytesLess]
    · have hlt : (97 : UInt8) < b := by
        rw [UInt8.lt_iff_toNat_lt]
        have : b.toNat ≠ (97 : UInt8).toNat := fun e => hb97 (UInt8.toNat_inj.1 e)
        have e97 : (97 : UInt8).toNat = 97 := rfl
        omega
      simp [hlt, hb97]
theorem spec_IntervalValid_f (lo hi : ByteArray) : spec_IntervalValid.fL lo hi = some (ivOk lo hi) := by
  rw [spec_IntervalValid.fL_eq, spec_KeyValid_f, spec_KeyValid_f]
  simp only [Option.bind_some]
  unfold ivOk low
  by_cases h1 : lo.toList = []
  · rw [if_pos h1, if_pos h1, decide_eq_true h1]
    by_cases h2 : hi.toList = []
    · rw [if_pos h2, decide_eq_true h2]; rfl
    · rw [if_neg h2, decide_eq_false h2]
      cases hk : keyOk (bs hi) with
      | false => simp
      | true =>
        have e97 : (⟨#[97]⟩ : ByteArray).toList = [97] := by rw [toList_data]
        rw [h1, e97, ← less_a hi hk]
        cases Op.bytesLess [] hi.toList <;> simp
  · rw [if_neg h1, if_neg h1, decide_eq_false h1]
    by_cases h2 : hi.toList = []
    · rw [if_pos h2, decide_eq_true h2]
      cases keyOk (bs lo) <;> simp
    · rw [if_neg h2, decide_eq_false h2]
      cases keyOk (bs lo) <;> cases keyOk (bs hi) <;> cases Op.bytesLess lo.toList hi.toList <;> simp
theorem spec_IntervalJoin_f (a b c d : ByteArray) : spec_IntervalJoin.fL a b c d = some (if joinOk a b c d = true then (a, d, true) else ((⟨#[]⟩ : ByteArray), (⟨#[]⟩ : ByteArray), false)) := by
  rw [spec_IntervalJoin.fL_eq, spec_IntervalValid_f, spec_IntervalValid_f]
  simp only [Option.bind_some]
  unfold joinOk
  cases ivOk a b with
  | false => simp
  | true =>
    cases ivOk c d with
    | false => simp
    | true =>
      by_cases h1 : b.toList = []
      · rw [decide_eq_true h1]; simp [h1]
      · rw [decide_eq_false h1]
        by_cases h2 : b.toList = c.toList
        · rw [decide_eq_true h2]
          rw [if_pos rfl, if_pos rfl, if_neg h1, if_pos h2]; simp
        · rw [decide_eq_false h2]
          rw [if_pos rfl, if_pos rfl, if_neg h1, if_neg h2]; simp

/-! #### spec_PairsIn -/
theorem eta_pair (y : S29) : (⟨y.f0, y.f1⟩ : S29) = y := rfl
theorem spec_IntervalHas_f (lo hi k : ByteArray) (h1 : ivOk lo hi = true) (h2 : keyOk (bs k) = true) : spec_IntervalHas.fL lo hi k = some (inIv lo hi k) := by
  rw [spec_IntervalHas.fL_eq, spec_IntervalValid_f, Option.bind_some, if_pos h1, spec_KeyValid_f, Option.bind_some, if_pos h2]
  unfold inIv klt
  cases Op.bytesLess k.toList lo.toList with
  | true => simp
  | false =>
    rw [if_neg (by simp)]
    by_cases e : hi.toList = []
    · rw [if_pos e, decide_eq_true e]; rfl
    · rw [if_neg e, decide_eq_false e]; simp
theorem spec_PairScan_l0 (xs : List S29) (lo hi : ByteArray) (hx : xs.length ≤ 48) (h1 : ivOk lo hi = true) : ∀ (ys : List S29) (out : List S29) (i : Int) (p : Option ByteArray), 0 ≤ i → i ≤ xs.length → (out.length : Int) ≤ i → xs.drop i.toNat = ys → pairsFrom p ys = true → spec_PairScan.l0L xs 48 out i lo hi = some (out ++ ys.filter (fun y => inIv lo hi y.f0))
  | [], out, i, p, h0, hi1, ho, hd, hp => by
    have := drop_nil h0 hi1 hd
    rw [spec_PairScan.l0L_eq, if_neg (by omega), spec_PairScan.j2L_eq, if_neg (by simp)]; simp
  | y :: ys, out, i, p, h0, hi1, ho, hd, hp => by
    obtain ⟨hr0, hl, hd'⟩ := getD_cons (d := z29) h0 hd
    have hr : rd_T29 xs i = y := hr0
    simp only [pairsFrom, Bool.and_eq_true] at hp
    have hk : keyOk (bs y.f0) = true := by
      have := hp.1.1; simp only [pairItem, Bool.and_eq_true] at this; exact this.1
    rw [spec_PairScan.l0L_eq, if_pos hl, decide_eq_true (by omega), spec_PairScan.j2L_eq, if_pos rfl, if_pos h0, if_pos hl, hr, spec_IntervalHas_f lo hi y.f0 h1 hk, Option.bind_some, w64 (by omega) (by omega), List.filter_cons, eta_pair]
    cases e : inIv lo hi y.f0 with
    | true =>
      rw [if_pos rfl, if_pos (by omega), if_pos (by rfl), spec_PairScan_l0 xs lo hi hx h1 ys (out ++ [y]) (i + 1) _ (by omega) (by omega) (by simp; omega) hd' hp.2]; simp
    | false =>
      rw [if_neg (by simp), if_neg (by simp), spec_PairScan_l0 xs lo hi hx h1 ys out (i + 1) _ (by omega) (by omega) (by omega) hd' hp.2]
theorem spec_PairsIn_f (xs : List S29) (lo hi : ByteArray) : spec_PairsIn.fL xs lo hi = some (pairsIn xs lo hi) := by
  have hj : spec_PairScan.j0L xs 48 [] true lo hi = some [] := by rw [spec_PairScan.j0L_eq, if_pos rfl]
  rw [spec_PairsIn.fL_eq, spec_PairScan.fL_eq, Option.bind_some, spec_PairsValid_f, Option.bind_some]
  unfold pairsIn
  by_cases h1 : pairsOk xs = true
  · have h48 := pairsOk_le h1
    have hf : pairsFrom none xs = true := by simp only [pairsOk, Bool.and_eq_true, decide_eq_true_eq] at h1; exact h1.2
    rw [if_pos h1, spec_IntervalValid_f, Option.bind_some]
    by_cases h2 : ivOk lo hi = true
    · rw [if_pos h2, if_pos ⟨h1, h2⟩, spec_l1In_f, Option.bind_some, decide_eq_true (by omega), Bool.not_true, spec_PairScan.j0L_eq, if_neg (by simp), spec_PairScan_l0 xs lo hi h48 h2 xs [] 0 none (by omega) (by omega) (by simp) (by simp) hf, Option.bind_some, List.nil_append]
    · rw [if_neg h2, hj, if_neg (fun h => h2 h.2)]; rfl
  · rw [if_neg h1, hj, if_neg (fun h => h1 h.1)]; rfl

/-! #### spec_Partition -/
theorem spec_PartitionValid_l0 (xs : List S83) (hx : xs.length ≤ 6) : ∀ (ys : List S83) (i : Int), 1 ≤ i → i ≤ xs.length → xs.drop i.toNat = ys → spec_PartitionValid.l0L xs i = some (chainFrom (rd_T83 xs (i - 1)) ys)
  | [], i, h0, h1, hd => by
    have := drop_nil (by omega) h1 hd
    rw [spec_PartitionValid.l0L_eq, if_neg (by omega)]; rfl
  | y :: ys, i, h0, h1, hd => by
    obtain ⟨hr0, hl, hd'⟩ := getD_iv (d := z83) (by omega) hd
    have hr : rd_T83 xs i = y := hr0
    have ih := spec_PartitionValid_l0 xs hx ys (i + 1) (by omega) (by omega) hd'
    rw [show i + 1 - 1 = i by omega, hr] at ih
    rw [spec_PartitionValid.l0L_eq, if_pos hl, w64 (n := i - 1) (by omega) (by omega), w64 (n := i + 1) (by omega) (by omega), if_pos (by omega), if_pos (by omega), if_pos (by omega), hr, spec_IntervalJoin_f, Option.bind_some, ih]
    simp only [chainFrom]
    cases joinOk (rd_T83 xs (i - 1)).f0 (rd_T83 xs (i - 1)).f1 y.f0 y.f1 <;> simp
theorem spec_PartitionValid_f (xs : List S83) : spec_PartitionValid.fL xs = some (partOk xs) := by
  have jt : spec_PartitionValid.j0L xs true = some false := by rw [spec_PartitionValid.j0L_eq, if_pos rfl]
  rw [spec_PartitionValid.fL_eq, jt, spec_l1In_f, Option.bind_some]
  unfold partOk
  cases xs with
  | nil => rfl
  | cons v vs =>
    have hlen : ((v :: vs).length : Int) = (vs.length : Int) + 1 := by simp
    have hv : rd_T83 (v :: vs) 0 = v := rfl
    by_cases h6 : ((v :: vs).length : Int) > 6
    · rw [if_neg (by simp only [decide_eq_true_eq]; omega)]
      dsimp only
      rw [decide_eq_false (by omega)]; simp
    · rw [if_pos (by simp only [decide_eq_true_eq]; omega), if_pos (by omega), hv, spec_IntervalValid_f, Option.bind_some]
      dsimp only
      rw [decide_eq_true (p := (v :: vs).length ≤ 6) (by omega)]
      cases hi : ivOk v.f0 v.f1 with
      | false => simp
      | true =>
        by_cases h1 : v.f0.toList = []
        · rw [if_pos rfl, if_pos h1, decide_eq_true h1, w64 (by omega) (by omega), if_pos (by omega), if_pos (by omega), bne_nilB]
          by_cases h2 : (rd_T83 (v :: vs) (((v :: vs).length : Int) - 1)).f1.toList = []
          · rw [decide_eq_true h2, Bool.not_true, spec_PartitionValid.j0L_eq, if_neg (by simp), spec_PartitionValid_l0 (v :: vs) (by omega) vs 1 (by omega) (by omega) (by simp)]
            rw [show (1 : Int) - 1 = 0 by omega, hv]; simp
          · rw [decide_eq_false h2, Bool.not_false, jt]; simp
        · rw [if_pos rfl, if_neg h1, decide_eq_false h1]; simp

/-! #### spec_PartDigests -/
theorem spec_PartDigests_l0 (l : List S29) (ps : List S83) (hx : ps.length ≤ 6) : ∀ (ys : List S83) (out : List Int) (i : Int), 0 ≤ i → i ≤ ps.length → (out.length : Int) ≤ i → ps.drop i.toNat = ys → spec_PartDigests.l0L l ps out i = some (out ++ pdigs l ys)
  | [], out, i, h0, h1, ho, hd => by
    have := drop_nil h0 h1 hd
    rw [spec_PartDigests.l0L_eq, if_neg (by omega)]; simp [pdigs]
  | y :: ys, out, i, h0, h1, ho, hd => by
    obtain ⟨hr0, hl, hd'⟩ := getD_iv (d := z83) h0 hd
    have hr : rd_T83 ps i = y := hr0
    rw [spec_PartDigests.l0L_eq, if_pos hl, if_pos h0, hr, spec_PairsIn_f, Option.bind_some, spec_PairsDigest_f, Option.bind_some, if_pos (by omega), w64 (by omega) (by omega), spec_PartDigests_l0 l ps hx ys _ (i + 1) (by omega) (by omega) (by simp; omega) hd']
    simp [pdigs]
theorem spec_PartDigests_f (l : List S29) (ps : List S83) : spec_PartDigests.fL l ps = some (partDigests l ps) := by
  have hj : spec_PartDigests.j0L l ps [] true = some [] := by rw [spec_PartDigests.j0L_eq, if_pos rfl]
  rw [spec_PartDigests.fL_eq, Option.bind_some, spec_PairsValid_f, Option.bind_some]
  unfold partDigests
  by_cases h1 : pairsOk l = true
  · rw [if_pos h1, spec_PartitionValid_f, Option.bind_some]
    by_cases h2 : partOk ps = true
    · rw [if_pos ⟨h1, h2⟩, h2, Bool.not_true, spec_PartDigests.j0L_eq, if_neg (by simp), spec_PartDigests_l0 l ps (partOk_len h2).2 ps [] 0 (by omega) (by omega) (by simp) (by simp), List.nil_append]
    · rw [show partOk ps = false by simpa using h2, Bool.not_false, hj, if_neg (fun h => by simp at h)]
  · rw [if_neg h1, hj, if_neg (fun h => h1 h.1)]

/-! #### intS -/
theorem set_at {α : Type} {xs : List α} {i : Nat} {y z : α} {ys : List α} (h : xs.drop i = y :: ys) : (xs.set i z).take (i + 1) = xs.take i ++ [z] ∧ (xs.set i z).drop (i + 1) = ys ∧ (xs.set i z).length = xs.length := by
  have h1 : i < xs.length := by
    by_cases e : i < xs.length
    · exact e
    · rw [List.drop_eq_nil_of_le (by omega)] at h; cases h
  rw [List.drop_eq_getElem_cons h1] at h
  injection h with ha hb
  refine ⟨?_, ?_, by simp⟩
  · rw [List.take_succ_eq_append_getElem (by simpa using h1), List.take_set_of_le (by omega)]; simp
  · rw [List.drop_set_of_lt (by omega)]; exact hb
theorem drop_take_cons {α : Type} {xs pre : List α} {i : Nat} {y : α} {ys : List α} (h : xs.drop i = y :: ys) : xs.take (i + 1) = xs.take i ++ [y] ∧ i < xs.length ∧ xs.drop (i + 1) = ys := by
  have h1 : i < xs.length := by
    by_cases e : i < xs.length
    · exact e
    · rw [List.drop_eq_nil_of_le (by omega)] at h; cases h
  rw [List.drop_eq_getElem_cons h1] at h
  injection h with ha hb
  exact ⟨by rw [List.take_succ_eq_append_getElem h1, ha], h1, hb⟩

/-! #### loops -/
theorem getD_drop {α : Type} {xs : List α} {d : α} {i : Int} {y : α} {ys : List α} (h0 : 0 ≤ i) (h : xs.drop i.toNat = y :: ys) : xs.getD i.toNat d = y ∧ i < xs.length ∧ xs.drop (i + 1).toNat = ys := by
  have h1 : i.toNat < xs.length := by
    by_cases e : i.toNat < xs.length
    · exact e
    · rw [List.drop_eq_nil_of_le (by omega)] at h; cases h
  rw [List.drop_eq_getElem_cons h1] at h
  injection h with ha hb
  refine ⟨?_, by omega, ?_⟩
  · rw [List.getD_eq_getElem?_getD, List.getElem?_eq_getElem h1]; exact ha
  · rw [show (i + 1).toNat = i.toNat + 1 by omega]; exact hb
/-- A copy, element by element, into a list of the same length. -/
theorem copy_loop {α : Type} (ys : List α) (d : α) (n : Nat) (hn : n = ys.length) (L : List α → Int → Option (List α))
    (hL : ∀ (zs : List α) (i : Int), 0 ≤ i → i ≤ n → zs.length = n → L zs i = if i < (n : Int) then L (zs.set i.toNat (ys.getD i.toNat d)) (i + 1) else some zs) :
    ∀ (ws zs : List α) (i : Int), 0 ≤ i → i ≤ n → ys.drop i.toNat = ws → zs.length = n → zs.take i.toNat = ys.take i.toNat → L zs i = some ys
  | [], zs, i, h0, h1, hd, hl, ht => by
    have := drop_nil h0 (by omega) hd
    rw [hL zs i h0 h1 hl, if_neg (by omega)]
    rw [List.take_of_length_le (by omega), List.take_of_length_le (by omega)] at ht
    rw [ht]
  | w :: ws, zs, i, h0, h1, hd, hl, ht => by
    obtain ⟨hr, hlt, hd'⟩ := getD_drop (d := d) h0 hd
    obtain ⟨t1, _, _⟩ := drop_take_cons (pre := ys) hd
    have hz : zs.drop i.toNat = zs[i.toNat]'(by omega) :: zs.drop (i.toNat + 1) := List.drop_eq_getElem_cons (by omega)
    obtain ⟨s1, s2, s3⟩ := set_at (z := w) hz
    rw [hL zs i h0 h1 hl, if_pos (by omega), hr]
    exact copy_loop ys d n hn L hL ws _ (i + 1) (by omega) (by omega) hd' (by omega) (by rw [show (i + 1).toNat = i.toNat + 1 by omega, s1, t1, ht])
/-- A comparison, element by element, of lists of the same length. -/
theorem eq_loop {α : Type} [DecidableEq α] (xs zs : List α) (d : α) (hl : xs.length = zs.length) (L : Int → Option Bool)
    (hL : ∀ i : Int, 0 ≤ i → i ≤ xs.length → L i = if i < (xs.length : Int) then (if xs.getD i.toNat d = zs.getD i.toNat d then L (i + 1) else some false) else some true) :
    ∀ (ys ws : List α) (i : Int), 0 ≤ i → i ≤ xs.length → xs.drop i.toNat = ys → zs.drop i.toNat = ws → L i = some (decide (ys = ws))
  | [], ws, i, h0, h1, hd, hw => by
    have := drop_nil h0 h1 hd
    rw [hL i h0 h1, if_neg (by omega)]
    rw [List.drop_eq_nil_of_le (by omega)] at hw
    rw [← hw]; rfl
  | y :: ys, [], i, h0, h1, hd, hw => by
    have := drop_nil h0 (by omega) hw
    obtain ⟨hr, hlt, hd'⟩ := getD_drop (d := d) h0 hd
    omega
  | y :: ys, w :: ws, i, h0, h1, hd, hw => by
    obtain ⟨hr, hlt, hd'⟩ := getD_drop (d := d) h0 hd
    obtain ⟨hr2, hlt2, hw'⟩ := getD_drop (d := d) h0 hw
    rw [hL i h0 h1, if_pos hlt, hr, hr2]
    by_cases e : y = w
    · rw [if_pos e, eq_loop xs zs d hl L hL ys ws (i + 1) (by omega) (by omega) hd' hw']
      simp [e]
    · rw [if_neg e]; simp [e]
theorem eq_loop0 {α : Type} [DecidableEq α] (xs zs : List α) (d : α) (hl : xs.length = zs.length) (L : Int → Option Bool)
    (hL : ∀ i : Int, 0 ≤ i → i ≤ xs.length → L i = if i < (xs.length : Int) then (if xs.getD i.toNat d = zs.getD i.toNat d then L (i + 1) else some false) else some true) : L 0 = some (decide (xs = zs)) :=
  eq_loop xs zs d hl L hL xs zs 0 (by omega) (by omega) (by simp) (by simp)
theorem copy_loop0 {α : Type} (ys zs : List α) (d : α) (n : Nat) (hn : n = ys.length) (hz : zs.length = n) (L : List α → Int → Option (List α))
    (hL : ∀ (zs : List α) (i : Int), 0 ≤ i → i ≤ n → zs.length = n → L zs i = if i < (n : Int) then L (zs.set i.toNat (ys.getD i.toNat d)) (i + 1) else some zs) : L zs 0 = some ys :=
  copy_loop ys d n hn L hL ys zs 0 (by omega) (by omega) (by simp) hz (by simp)
/-- Marks: an element for each number, c numbers an element. -/
def marks {α : Type} (el : Int → α) (c : Int) : Nat → Int → List α
  | 0, _ => []
  | n + 1, k => el k :: marks el c n (k + c)
theorem marks_length {α : Type} (el : Int → α) (c : Int) : ∀ (n : Nat) (k : Int), (marks el c n k).length = n
  | 0, _ => rfl
  | n + 1, k => by simp [marks, marks_length el c n]
theorem mark_loop {α : Type} (el : Int → α) (c : Int) (hc : 0 ≤ c) (hc2 : c ≤ 1000) (n : Nat) (hn : n ≤ 1000000000) (L : List α → Int → Int → Option (Int × List α))
    (hL : ∀ (zs : List α) (k i : Int), 0 ≤ i → i ≤ n → zs.length = n → 0 ≤ k → k ≤ 100000000000 + 1000 * n → L zs k i = if i < (n : Int) then L (zs.set i.toNat (el k)) (k + c) (i + 1) else some (k, zs)) :
    ∀ (ys zs : List α) (k i : Int), 0 ≤ i → i ≤ n → zs.length = n → zs.drop i.toNat = ys → 0 ≤ k → k ≤ 100000000000 + 1000 * i → L zs k i = some (k + c * ys.length, zs.take i.toNat ++ marks el c ys.length k)
  | [], zs, k, i, h0, h1, hl, hd, hk, hk2 => by
    have := drop_nil h0 (by omega) hd
    rw [hL zs k i h0 h1 hl hk (by omega), if_neg (by omega), List.take_of_length_le (by omega)]; simp [marks]
  | y :: ys, zs, k, i, h0, h1, hl, hd, hk, hk2 => by
    obtain ⟨hr, hlt, hd'⟩ := getD_drop (d := y) h0 hd
    obtain ⟨s1, s2, s3⟩ := set_at (z := el k) hd
    rw [hL zs k i h0 h1 hl hk (by omega), if_pos (by omega),
      mark_loop el c hc hc2 n hn L hL ys _ (k + c) (i + 1) (by omega) (by omega) (by omega) (by rw [show (i + 1).toNat = i.toNat + 1 by omega]; exact s2) (by omega) (by omega),
      show (i + 1).toNat = i.toNat + 1 by omega, s1]
    simp only [List.length_cons, marks, List.append_assoc, List.singleton_append]
    congr 2
    rw [show ((ys.length + 1 : Nat) : Int) = (ys.length : Int) + 1 by omega, Int.mul_add]
    omega
theorem mark_loop0 {α : Type} (el : Int → α) (c : Int) (hc : 0 ≤ c) (hc2 : c ≤ 1000) (zs : List α) (hn : zs.length ≤ 1000000000) (k : Int) (hk : 0 ≤ k) (hk2 : k ≤ 100000000000) (L : List α → Int → Int → Option (Int × List α))
    (hL : ∀ (ws : List α) (k i : Int), 0 ≤ i → i ≤ zs.length → ws.length = zs.length → 0 ≤ k → k ≤ 100000000000 + 1000 * zs.length → L ws k i = if i < (zs.length : Int) then L (ws.set i.toNat (el k)) (k + c) (i + 1) else some (k, ws)) :
    L zs k 0 = some (k + c * zs.length, marks el c zs.length k) := by
  have := mark_loop el c hc hc2 zs.length hn L hL zs zs k 0 (by omega) (by omega) rfl (by simp) hk (by omega)
  simpa using this
theorem held_loop {α : Type} (el : Int → α) (d : α) (c : Int) (hc : 0 ≤ c) (hc2 : c ≤ 1000) (zs : List α) (hn : zs.length ≤ 1000000000) (L : Int → Int → Option Int)
    (hL : ∀ k i : Int, 0 ≤ i → i ≤ zs.length → 0 ≤ k → k ≤ 100000000000 + 1000 * zs.length → (i < zs.length → zs.getD i.toNat d = el k) → L k i = if i < (zs.length : Int) then L (k + c) (i + 1) else some k) :
    ∀ (n : Nat) (k i : Int), 0 ≤ i → i ≤ zs.length → zs.drop i.toNat = marks el c n k → 0 ≤ k → k ≤ 100000000000 + 1000 * i → L k i = some (k + c * n)
  | 0, k, i, h0, h1, hd, hk, hk2 => by
    have := drop_nil h0 h1 hd
    rw [hL k i h0 h1 hk (by omega) (fun h => by omega), if_neg (by omega)]; simp
  | n + 1, k, i, h0, h1, hd, hk, hk2 => by
    obtain ⟨hr, hlt, hd'⟩ := getD_drop (d := d) h0 hd
    rw [hL k i h0 h1 hk (by omega) (fun _ => hr), if_pos hlt, held_loop el d c hc hc2 zs hn L hL n (k + c) (i + 1) (by omega) (by omega) hd' (by omega) (by omega)]
    congr 1
    rw [show ((n + 1 : Nat) : Int) = (n : Int) + 1 by omega, Int.mul_add]
    omega
theorem held_loop0 {α : Type} (el : Int → α) (d : α) (c : Int) (hc : 0 ≤ c) (hc2 : c ≤ 1000) (n : Nat) (hn : n ≤ 1000000000) (k : Int) (hk : 0 ≤ k) (hk2 : k ≤ 100000000000) (L : Int → Int → Option Int)
    (hL : ∀ k' i : Int, 0 ≤ i → i ≤ n → 0 ≤ k' → k' ≤ 100000000000 + 1000 * n → (i < n → (marks el c n k).getD i.toNat d = el k') → L k' i = if i < (n : Int) then L (k' + c) (i + 1) else some k') :
    L k 0 = some (k + c * n) := by
  have hm := marks_length el c n k
  refine held_loop el d c hc hc2 (marks el c n k) (by omega) L (fun k' i => ?_) n k 0 (by omega) (by omega) (by simp) hk (by omega)
  rw [hm]
  exact hL k' i
theorem getD_map' {α β : Type} (f : α → β) (xs : List α) (i : Nat) (d : α) (e : β) (h : i < xs.length) : (xs.map f).getD i e = f (xs.getD i d) := by
  simp [List.getD_eq_getElem?_getD, List.getElem?_eq_getElem h]

/-! #### refl_loop -/
theorem refl_loop (n : Nat) (L : Int → Option Bool) (hL : ∀ i : Int, 0 ≤ i → i ≤ n → L i = if i < (n : Int) then L (i + 1) else some true) : ∀ (m : Nat) (i : Int), i + m = n → 0 ≤ i → L i = some true
  | 0, i, h, h0 => by rw [hL i h0 (by omega), if_neg (by omega)]
  | m + 1, i, h, h0 => by rw [hL i h0 (by omega), if_pos (by omega)]; exact refl_loop n L hL m (i + 1) (by omega) (by omega)
theorem refl_loop0 (n : Nat) (L : Int → Option Bool) (hL : ∀ i : Int, 0 ≤ i → i ≤ n → L i = if i < (n : Int) then L (i + 1) else some true) : L 0 = some true := refl_loop n L hL n 0 (by omega) (by omega)

/-! #### pairS -/
/-- A pair of the law's own, as the program's. -/
def cvPair (x : S104) : S29 := ⟨x.f0, x.f1⟩
theorem toPairS_f (xs : List S104) (hx : xs.length ≤ 1048576) : laws_toPairS.fL xs = some (xs.map cvPair) := by
  rw [laws_toPairS.fL_eq, if_pos (by omega), if_pos (by omega)]
  refine copy_loop0 (xs.map cvPair) _ z29 xs.length (by simp) (by simp) (fun zs i => laws_toPairS.l0L xs zs i) (fun zs i h0 h1 hl => ?_)
  rw [laws_toPairS.l0L_eq]
  unfold laws_toPair.f
  by_cases h : i < (xs.length : Int)
  · rw [if_pos h, if_pos h0, Option.bind_some, if_pos (by omega), w64 (by omega) (by omega), if_pos h, getD_map' cvPair xs i.toNat z104 _ (by omega)]; rfl
  · rw [if_neg h, if_neg h]
theorem eqPair_refl (a : ByteArray) (b : Int) : laws_eqPair.f a b a b = some true := by unfold laws_eqPair.f; simp
theorem eqPairS_refl (xs : List S29) (hx : xs.length ≤ 1000000000000) : laws_eqPairS.fL xs xs = some true := by
  rw [laws_eqPairS.fL_eq, if_pos rfl]
  refine refl_loop0 xs.length (fun i => laws_eqPairS.l0L xs xs i) (fun i h0 h1 => ?_)
  rw [laws_eqPairS.l0L_eq]
  by_cases h : i < (xs.length : Int)
  · rw [if_pos h, if_pos h0, if_pos h, eqPair_refl, Option.bind_some, if_pos rfl, w64 (by omega) (by omega), if_pos h]
  · rw [if_neg h, if_neg h]
theorem szPair_f (s : ByteArray) (b k : Int) (hs : s.size ≤ 9223372036854775807) (h0 : 0 ≤ k) (h1 : k ≤ 1048576) : ∃ r, laws_szPair.f s b k = some r ∧ -1 ≤ r ∧ r ≤ k := by
  unfold laws_szPair.f
  rw [w64 (by omega) (by omega)]
  by_cases h : k - (s.size : Int) < 0
  · rw [if_pos h]; exact ⟨_, rfl, by omega, by omega⟩
  · rw [if_neg h]; exact ⟨_, rfl, by omega, by omega⟩
theorem szPairS_l0 (xs : List S104) (hx : xs.length ≤ 1048576) (hB : ∀ x ∈ xs, x.f0.size ≤ 9223372036854775807) : ∀ (n : Nat) (i k : Int), i + n = xs.length → 0 ≤ i → 0 ≤ k → k ≤ 1048576 → ∃ r, laws_szPairS.l0L xs k i = some r ∧ r ≤ k
  | 0, i, k, hi, h0, h1, h2 => by rw [laws_szPairS.l0L_eq, if_neg (by omega)]; exact ⟨_, rfl, by omega⟩
  | n + 1, i, k, hi, h0, h1, h2 => by
    have hm : rd_T104 xs i ∈ xs := by
      unfold rd_T104
      rw [List.getD_eq_getElem?_getD, List.getElem?_eq_getElem (show i.toNat < xs.length by omega)]
      exact List.getElem_mem _
    obtain ⟨r, hr, r0, r1⟩ := szPair_f (rd_T104 xs i).f0 (rd_T104 xs i).f1 k (hB _ hm) h1 h2
    rw [laws_szPairS.l0L_eq, if_pos (by omega), if_pos h0, hr, Option.bind_some, w64 (by omega) (by omega)]
    by_cases h : r < 0
    · rw [if_pos h]; exact ⟨_, rfl, by omega⟩
    · rw [if_neg h]
      obtain ⟨q, hq, hq2⟩ := szPairS_l0 xs hx hB n (i + 1) r (by omega) (by omega) (by omega) (by omega)
      exact ⟨q, hq, by omega⟩
/-- The size is told; if there is room, the list is short. -/
theorem szPairS_f (xs : List S104) (k : Int) (h0 : 0 ≤ k) (h1 : k ≤ 1048576) (hl : xs.length ≤ 9223372036854775807) (hB : ∀ x ∈ xs, x.f0.size ≤ 9223372036854775807) : ∃ r, laws_szPairS.fL xs k = some r ∧ r ≤ k ∧ (r < 0 ∨ xs.length ≤ 1048576) := by
  rw [laws_szPairS.fL_eq, w64 (by omega) (by omega)]
  by_cases h : k - (xs.length : Int) < 0
  · rw [if_pos h]; exact ⟨_, rfl, by omega, .inl (by omega)⟩
  · rw [if_neg h]
    obtain ⟨r, hr, hle⟩ := szPairS_l0 xs (by omega) hB xs.length 0 (k - xs.length) (by omega) (by omega) (by omega) (by omega)
    exact ⟨r, hr, by omega, .inr (by omega)⟩

/-! #### intervalS -/
/-- An interval of the law's own, as the program's. -/
def cvInterval (x : S121) : S83 := ⟨x.f0, x.f1⟩
theorem getD_mapI {α β : Type} (f : α → β) (xs : List α) (i : Nat) (d : α) (e : β) (h : i < xs.length) : (xs.map f).getD i e = f (xs.getD i d) := by
  simp [List.getD_eq_getElem?_getD, List.getElem?_eq_getElem h]
theorem toIntervalS_f (xs : List S121) (hx : xs.length ≤ 1048576) : laws_toIntervalS.fL xs = some (xs.map cvInterval) := by
  rw [laws_toIntervalS.fL_eq, if_pos (by omega), if_pos (by omega)]
  refine copy_loop0 (xs.map cvInterval) _ z83 xs.length (by simp) (by simp) (fun zs i => laws_toIntervalS.l0L xs zs i) (fun zs i h0 h1 hl => ?_)
  rw [laws_toIntervalS.l0L_eq]
  unfold laws_toInterval.f
  by_cases h : i < (xs.length : Int)
  · rw [if_pos h, if_pos h0, Option.bind_some, if_pos (by omega), w64 (by omega) (by omega), if_pos h, getD_mapI cvInterval xs i.toNat z121 _ (by omega)]; rfl
  · rw [if_neg h, if_neg h]
theorem eqInterval_refl (a b : ByteArray) : laws_eqInterval.f a b a b = some true := by unfold laws_eqInterval.f; simp
theorem eqIntervalS_refl (xs : List S83) (hx : xs.length ≤ 1000000000000) : laws_eqIntervalS.fL xs xs = some true := by
  rw [laws_eqIntervalS.fL_eq, if_pos rfl]
  refine refl_loop0 xs.length (fun i => laws_eqIntervalS.l0L xs xs i) (fun i h0 h1 => ?_)
  rw [laws_eqIntervalS.l0L_eq]
  by_cases h : i < (xs.length : Int)
  · rw [if_pos h, if_pos h0, if_pos h, eqInterval_refl, Option.bind_some, if_pos rfl, w64 (by omega) (by omega), if_pos h]
  · rw [if_neg h, if_neg h]
theorem szInterval_f (s t : ByteArray) (k : Int) (hs : s.size ≤ 9223372036854775807) (ht : t.size ≤ 9223372036854775807) (h0 : 0 ≤ k) (h1 : k ≤ 1048576) : ∃ r, laws_szInterval.f s t k = some r ∧ -1 ≤ r ∧ r ≤ k := by
  unfold laws_szInterval.f
  rw [w64 (n := k - (s.size : Int)) (by omega) (by omega)]
  by_cases h : k - (s.size : Int) < 0
  · rw [if_pos h]; exact ⟨_, rfl, by omega, by omega⟩
  · rw [if_neg h, w64 (by omega) (by omega)]
    by_cases h2 : k - (s.size : Int) - (t.size : Int) < 0
    · rw [if_pos h2]; exact ⟨_, rfl, by omega, by omega⟩
    · rw [if_neg h2]; exact ⟨_, rfl, by omega, by omega⟩
theorem szIntervalS_l0 (xs : List S121) (hx : xs.length ≤ 1048576) (hB : ∀ x ∈ xs, x.f0.size ≤ 9223372036854775807 ∧ x.f1.size ≤ 9223372036854775807) : ∀ (n : Nat) (i k : Int), i + n = xs.length → 0 ≤ i → 0 ≤ k → k ≤ 1048576 → ∃ r, laws_szIntervalS.l0L xs k i = some r ∧ r ≤ k
  | 0, i, k, hi, h0, h1, h2 => by rw [laws_szIntervalS.l0L_eq, if_neg (by omega)]; exact ⟨_, rfl, by omega⟩
  | n + 1, i, k, hi, h0, h1, h2 => by
    have hm : rd_T121 xs i ∈ xs := by
      unfold rd_T121
      rw [List.getD_eq_getElem?_getD, List.getElem?_eq_getElem (show i.toNat < xs.length by omega)]
      exact List.getElem_mem _
    obtain ⟨r, hr, r0, r1⟩ := szInterval_f (rd_T121 xs i).f0 (rd_T121 xs i).f1 k (hB _ hm).1 (hB _ hm).2 h1 h2
    rw [laws_szIntervalS.l0L_eq, if_pos (by omega), if_pos h0, hr, Option.bind_some, w64 (by omega) (by omega)]
    by_cases h : r < 0
    · rw [if_pos h]; exact ⟨_, rfl, by omega⟩
    · rw [if_neg h]
      obtain ⟨q, hq, hq2⟩ := szIntervalS_l0 xs hx hB n (i + 1) r (by omega) (by omega) (by omega) (by omega)
      exact ⟨q, hq, by omega⟩
theorem szIntervalS_f (xs : List S121) (k : Int) (h0 : 0 ≤ k) (h1 : k ≤ 1048576) (hl : xs.length ≤ 9223372036854775807) (hB : ∀ x ∈ xs, x.f0.size ≤ 9223372036854775807 ∧ x.f1.size ≤ 9223372036854775807) : ∃ r, laws_szIntervalS.fL xs k = some r ∧ r ≤ k ∧ (r < 0 ∨ xs.length ≤ 1048576) := by
  rw [laws_szIntervalS.fL_eq, w64 (by omega) (by omega)]
  by_cases h : k - (xs.length : Int) < 0
  · rw [if_pos h]; exact ⟨_, rfl, by omega, .inl (by omega)⟩
  · rw [if_neg h]
    obtain ⟨r, hr, hle⟩ := szIntervalS_l0 xs (by omega) hB xs.length 0 (k - xs.length) (by omega) (by omega) (by omega) (by omega)
    exact ⟨r, hr, by omega, .inr (by omega)⟩

/-! #### markText -/
theorem son_size (xs : List Int) : (strOfNums xs).size = xs.length := by simp [strOfNums, ByteArray.size]
theorem markText_l0 : ∀ (n : Nat) (k : Int) (s : ByteArray), 0 ≤ k → k < 10 ^ n → k ≤ 9223372036854775807 → s.size + n ≤ 1000 → ∃ r, laws_markText.l0L k s = some r
  | 0, k, s, h0, h1, h2, hs => by
    rw [laws_markText.l0L_eq, if_neg (by simp at h1; omega), if_pos (by omega)]; exact ⟨_, rfl⟩
  | n + 1, k, s, h0, h1, h2, hs => by
    by_cases e : k > 0
    · have hd : Int.tdiv k 10 = k / 10 := Int.tdiv_eq_ediv_of_nonneg h0
      have hp : (10 : Int) ^ (n + 1) = 10 ^ n * 10 := Int.pow_succ 10 n
      have h3 : k / 10 < 10 ^ n := by omega
      rw [laws_markText.l0L_eq, if_pos e, Option.bind_some, if_pos (by rw [son_size]; simp; omega), hd, w64 (n := k / 10) (by omega) (by omega)]
      exact markText_l0 n (k / 10) _ (by omega) h3 (by omega) (by rw [ByteArray.size_append, son_size]; simp; omega)
    · rw [laws_markText.l0L_eq, if_neg e, if_pos (by omega)]; exact ⟨_, rfl⟩
theorem markText_ok (k : Int) (h0 : 0 ≤ k) (h1 : k ≤ 9223372036854775807) : ∃ r, laws_markText.fL k = some r := by
  rw [laws_markText.fL_eq]
  by_cases e : k ≤ 0
  · rw [if_pos e]; exact ⟨_, rfl⟩
  · rw [if_neg e]; exact markText_l0 30 k _ h0 (by omega) h1 (show 0 + 30 ≤ 1000 by omega)
/-- The text of a mark. -/
noncomputable def mt (k : Int) : ByteArray := (laws_markText.fL k).getD (⟨#[]⟩ : ByteArray)
theorem mt_eq (k : Int) (h0 : 0 ≤ k) (h1 : k ≤ 9223372036854775807) : laws_markText.fL k = some (mt k) := by
  obtain ⟨r, hr⟩ := markText_ok k h0 h1
  unfold mt
  rw [hr]; rfl

/-! #### markPair -/
noncomputable def elPair (k : Int) : S29 := ⟨mt k, k + 1⟩
theorem rd_set_pair (xs : List S29) (i : Int) (y : S29) (h0 : 0 ≤ i) (h : i < xs.length) : rd_T29 (xs.set i.toNat y) i = y := by
  unfold rd_T29
  rw [List.getD_eq_getElem?_getD, List.getElem?_set_self (by omega)]; rfl
theorem markPairS_f (xs : List S29) (k : Int) (hx : xs.length ≤ 1000000000) (hk : 0 ≤ k) (hk2 : k ≤ 100000000000) : laws_markPairS.fL xs k = some (k + 2 * xs.length, marks elPair 2 xs.length k) := by
  rw [laws_markPairS.fL_eq]
  refine mark_loop0 elPair 2 (by omega) (by omega) xs hx k hk hk2 (fun zs k i => laws_markPairS.l0L zs k i) (fun zs k i h0 h1 hl hk hk2 => ?_)
  rw [laws_markPairS.l0L_eq]
  by_cases h : i < (xs.length : Int)
  · have hz : i < (zs.length : Int) := by omega
    rw [if_pos hz, mt_eq k (by omega) (by omega), Option.bind_some, if_pos h0, Option.bind_some, w64 (n := k + 1) (by omega) (by omega), w64 (n := k + 1 + 1) (by omega) (by omega), w64 (n := i + 1) (by omega) (by omega), if_pos h]
    rw [rd_set_pair zs i _ h0 hz, List.set_set, show k + 1 + 1 = k + 2 by omega]
    rfl
  · rw [if_neg (by omega), if_neg h]

/-! #### markInterval -/
noncomputable def elInterval (k : Int) : S83 := ⟨mt k, mt (k + 1)⟩
theorem rd_set_interval (xs : List S83) (i : Int) (y : S83) (h0 : 0 ≤ i) (h : i < xs.length) : rd_T83 (xs.set i.toNat y) i = y := by
  unfold rd_T83
  rw [List.getD_eq_getElem?_getD, List.getElem?_set_self (by omega)]; rfl
theorem markIntervalS_f (xs : List S83) (k : Int) (hx : xs.length ≤ 1000000000) (hk : 0 ≤ k) (hk2 : k ≤ 100000000000) : laws_markIntervalS.fL xs k = some (k + 2 * xs.length, marks elInterval 2 xs.length k) := by
  rw [laws_markIntervalS.fL_eq]
  refine mark_loop0 elInterval 2 (by omega) (by omega) xs hx k hk hk2 (fun zs k i => laws_markIntervalS.l0L zs k i) (fun zs k i h0 h1 hl hk hk2 => ?_)
  rw [laws_markIntervalS.l0L_eq]
  by_cases h : i < (xs.length : Int)
  · have hz : i < (zs.length : Int) := by omega
    rw [if_pos hz, mt_eq k (by omega) (by omega), Option.bind_some, if_pos h0, Option.bind_some, w64 (n := k + 1) (by omega) (by omega), mt_eq (k + 1) (by omega) (by omega), Option.bind_some, w64 (n := k + 1 + 1) (by omega) (by omega), w64 (n := i + 1) (by omega) (by omega), if_pos h]
    rw [rd_set_interval zs i _ h0 hz, List.set_set, show k + 1 + 1 = k + 2 by omega]
    rfl
  · rw [if_neg (by omega), if_neg h]

/-! #### markIntS -/
def upFrom : Nat → Int → List Int
  | 0, _ => []
  | n + 1, k => k :: upFrom n (k + 1)
theorem laws_markIntS_l0 (n : Nat) (hn : n ≤ 1000000000000) : ∀ (ys zs : List Int) (k i : Int), 0 ≤ i → i ≤ zs.length → zs.length = n → zs.drop i.toNat = ys → 0 ≤ k → k ≤ 1000000000000 + i → laws_markIntS.l0L zs k i = some (k + ys.length, zs.take i.toNat ++ upFrom ys.length k)
  | [], zs, k, i, h0, h1, hl, hd, hk, hk2 => by
    have := drop_nil h0 h1 hd
    rw [laws_markIntS.l0L_eq, if_neg (by omega), List.take_of_length_le (by omega)]; simp [upFrom]
  | y :: ys, zs, k, i, h0, h1, hl, hd, hk, hk2 => by
    obtain ⟨hr, hlt, hd'⟩ := rd_drop h0 hd
    obtain ⟨s1, s2, s3⟩ := set_at (z := k) hd
    rw [laws_markIntS.l0L_eq, if_pos hlt, if_pos h0, w64 (by omega) (by omega), w64 (by omega) (by omega),
      laws_markIntS_l0 n hn ys _ (k + 1) (i + 1) (by omega) (by omega) (by omega) (by rw [show (i + 1).toNat = i.toNat + 1 by omega]; exact s2) (by omega) (by omega),
      show (i + 1).toNat = i.toNat + 1 by omega, s1]
    simp only [List.length_cons, upFrom, List.append_assoc, List.singleton_append]
    congr 2
    omega
theorem laws_markIntS_f (xs : List Int) (k : Int) (hx : xs.length ≤ 1000000000000) (hk : 0 ≤ k) (hk2 : k ≤ 1000000000000) : laws_markIntS.fL xs k = some (k + xs.length, upFrom xs.length k) := by
  rw [laws_markIntS.fL_eq, laws_markIntS_l0 xs.length hx xs xs k 0 (by omega) (by omega) rfl (by simp) hk (by omega)]
  simp
theorem laws_heldIntS_l0 (zs : List Int) (hn : zs.length ≤ 1000000000000) : ∀ (n : Nat) (k i : Int), 0 ≤ i → i ≤ zs.length → zs.drop i.toNat = upFrom n k → 0 ≤ k → k ≤ 1000000000000 + i → laws_heldIntS.l0L zs k i = some (k + n)
  | 0, k, i, h0, h1, hd, hk, hk2 => by
    have := drop_nil h0 h1 hd
    rw [laws_heldIntS.l0L_eq, if_neg (by omega)]; simp
  | n + 1, k, i, h0, h1, hd, hk, hk2 => by
    obtain ⟨hr, hlt, hd'⟩ := rd_drop h0 hd
    rw [laws_heldIntS.l0L_eq, if_pos hlt, if_pos h0, if_pos hr, w64 (by omega) (by omega), w64 (by omega) (by omega),
      laws_heldIntS_l0 zs hn n (k + 1) (i + 1) (by omega) (by omega) hd' (by omega) (by omega)]
    congr 1
    omega
theorem upFrom_length : ∀ (n : Nat) (k : Int), (upFrom n k).length = n
  | 0, _ => rfl
  | n + 1, k => by simp [upFrom, upFrom_length n]
theorem laws_heldIntS_f (n : Nat) (k : Int) (hn : n ≤ 1000000000000) (hk : 0 ≤ k) (hk2 : k ≤ 1000000000000) : laws_heldIntS.fL (upFrom n k) k = some (k + n) := by
  rw [laws_heldIntS.fL_eq]
  exact laws_heldIntS_l0 _ (by rw [upFrom_length]; exact hn) n k 0 (by omega) (by omega) (by simp) hk (by omega)

/-! #### eqIntS -/
theorem laws_eqIntS_l0 (xs zs : List Int) (hx : xs.length ≤ 1000000000000000) (hl : xs.length = zs.length) : ∀ (ys ws : List Int) (i : Int), 0 ≤ i → i ≤ xs.length → xs.drop i.toNat = ys → zs.drop i.toNat = ws → laws_eqIntS.l0L xs zs i = some (decide (ys = ws))
  | [], ws, i, h0, h1, hd, hw => by
    have := drop_nil h0 h1 hd
    rw [laws_eqIntS.l0L_eq, if_neg (by omega)]
    rw [List.drop_eq_nil_of_le (by omega)] at hw
    rw [← hw]; rfl
  | y :: ys, [], i, h0, h1, hd, hw => by
    have := drop_nil h0 (by omega) hw
    obtain ⟨hr, hlt, hd'⟩ := rd_drop h0 hd
    omega
  | y :: ys, w :: ws, i, h0, h1, hd, hw => by
    obtain ⟨hr, hlt, hd'⟩ := rd_drop h0 hd
    obtain ⟨hr2, hlt2, hw'⟩ := rd_drop h0 hw
    rw [laws_eqIntS.l0L_eq, if_pos hlt, if_pos h0, if_pos hlt2, hr, hr2, w64 (by omega) (by omega)]
    by_cases e : y = w
    · rw [if_pos e, laws_eqIntS_l0 xs zs hx hl ys ws (i + 1) (by omega) (by omega) hd' hw']
      simp [e]
    · rw [if_neg e]; simp [e]
theorem laws_eqIntS_f (xs zs : List Int) (hx : xs.length ≤ 1000000000000000) : laws_eqIntS.fL xs zs = some (decide (xs = zs)) := by
  rw [laws_eqIntS.fL_eq]
  by_cases h : (xs.length : Int) = (zs.length : Int)
  · rw [if_pos h]; exact laws_eqIntS_l0 xs zs hx (by omega) xs zs 0 (by omega) (by omega) (by simp) (by simp)
  · rw [if_neg h, decide_eq_false (fun e => h (by rw [e]))]

end Go.Proofs.Ytfeeifefmenlmaa.Pure
