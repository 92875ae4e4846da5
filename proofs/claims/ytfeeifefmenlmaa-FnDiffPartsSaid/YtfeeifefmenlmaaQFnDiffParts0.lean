/- Lemmas for FnDiffParts: what each function comes to. No condition. -/
import Derived.Test.YtfeeifefmenlmaaLFnDiffParts
namespace Go.Proofs.Ytfeeifefmenlmaa.Pure
open Go.RowKit Go.Proofs.Ytfeeifefmenlmaa.PFnDiffParts Go.Proofs.YtfeeifefmenlmaaW.PrintWords Go.Proofs.YtfeeifefmenlmaaW.PrintLast Go.Proofs.YtfeeifefmenlmaaW.PrintMore Go.Proofs.Ytfeeifefmenlmaa.Lim
set_option linter.unusedVariables false
set_option linter.unusedSimpArgs false

/-! #### basic -/
theorem w64 {n : Int} (h1 : -9223372036854775808 ≤ n) (h2 : n ≤ 9223372036854775807) : wrap64 n = n := by unfold wrap64; omega
theorem wf64 {n : Int} (h : (Lit.int .i64 n).wf = true) : -9223372036854775808 ≤ n ∧ n ≤ 9223372036854775807 := by
  simp only [Lit.wf, IntKind.min, IntKind.max, IntKind.signed, IntKind.bits, Bool.and_eq_true, decide_eq_true_eq, if_true] at h
  omega
theorem wf8 {n : Int} (h : (Lit.int .u8 n).wf = true) : 0 ≤ n ∧ n ≤ 255 := by
  simp only [Lit.wf, IntKind.min, IntKind.max, IntKind.signed, IntKind.bits, Bool.and_eq_true, decide_eq_true_eq] at h
  simp at h
  omega
theorem mn_eq (a b : Int) : mn a b = if a ≤ b then a else b := by unfold mn; split <;> split <;> omega
theorem mx_eq (a b : Int) : mx a b = if a ≤ b then b else a := by unfold mx; split <;> split <;> omega
theorem rd_drop {xs : List Int} {i : Int} {y : Int} {ys : List Int} (h0 : 0 ≤ i) (h : xs.drop i.toNat = y :: ys) : rd xs i = y ∧ i < xs.length ∧ xs.drop (i + 1).toNat = ys := by
  have h1 : i.toNat < xs.length := by
    by_cases e : i.toNat < xs.length
    · exact e
    · rw [List.drop_eq_nil_of_le (by omega)] at h; cases h
  rw [List.drop_eq_getElem_cons h1] at h
  injection h with ha hb
  refine ⟨?_, by omega, ?_⟩
  · unfold rd; rw [List.getD_eq_getElem?_getD, List.getElem?_eq_getElem h1]; exact ha
  · rw [show (i + 1).toNat = i.toNat + 1 by omega]; exact hb
theorem drop_nil {α : Type} {xs : List α} {i : Int} (h0 : 0 ≤ i) (hi : i ≤ xs.length) (h : xs.drop i.toNat = []) : i = xs.length := by
  have := congrArg List.length h
  simp at this
  omega
theorem rdOf_drop {α : Type} {d : α} {xs : List α} {i : Int} {y : α} {ys : List α} (h0 : 0 ≤ i) (h : xs.drop i.toNat = y :: ys) : rdOf d xs i = y ∧ i < xs.length ∧ xs.drop (i + 1).toNat = ys := by
  have h1 : i.toNat < xs.length := by
    by_cases e : i.toNat < xs.length
    · exact e
    · rw [List.drop_eq_nil_of_le (by omega)] at h; cases h
  rw [List.drop_eq_getElem_cons h1] at h
  injection h with ha hb
  refine ⟨?_, by omega, ?_⟩
  · unfold rdOf; rw [List.getD_eq_getElem?_getD, List.getElem?_eq_getElem h1]; exact ha
  · rw [show (i + 1).toNat = i.toNat + 1 by omega]; exact hb

/-! #### bytes -/
/-- A string's bytes as numbers. -/
def bs (s : ByteArray) : List Int := s.data.toList.map fun b => (b.toNat : Int)
theorem bs_length (s : ByteArray) : (bs s).length = s.size := by simp [bs]
theorem bt_bs (s : ByteArray) (i : Int) : bt s i = rd (bs s) i := by
  unfold bt rd bs
  rw [List.getD_eq_getElem?_getD, List.getElem?_map]
  by_cases h : i.toNat < s.size
  · rw [dif_pos h, List.getElem?_eq_getElem (by simpa using h)]; simp; rfl
  · rw [dif_neg h, List.getElem?_eq_none (by simpa using h)]; rfl
theorem bs_range (s : ByteArray) : ∀ b ∈ bs s, 0 ≤ b ∧ b ≤ 255 := by
  intro b hb
  simp only [bs, List.mem_map] at hb
  obtain ⟨c, _, rfl⟩ := hb
  have := c.toNat_lt
  omega
theorem bs_inj {s t : ByteArray} (h : bs s = bs t) : s = t := by
  have h1 : s.data.toList = t.data.toList := by
    refine List.map_inj_right (f := fun b : UInt8 => (b.toNat : Int)) ?_ |>.1 h
    intro x y hxy
    exact UInt8.toNat_inj.1 (by omega)
  cases s; cases t
  simp only [ByteArray.mk.injEq]
  exact Array.ext' h1
theorem toList_loop (s : ByteArray) (i : Nat) (r : List UInt8) : ByteArray.toList.loop s i r = r.reverse ++ s.data.toList.drop i := by
  unfold ByteArray.toList.loop
  split
  next h =>
    rw [toList_loop s (i + 1) (s.get! i :: r)]
    have h' : i < s.data.toList.length := by simpa using h
    rw [List.drop_eq_getElem_cons h']
    have : s.get! i = s.data.toList[i] := by
      show s.data[i]! = _
      rw [getElem!_pos s.data i (by simpa using h)]; simp
    rw [this]; simp
  next h =>
    rw [List.drop_eq_nil_of_le (by simpa using h)]; simp
  termination_by s.size - i
theorem toList_data (s : ByteArray) : s.toList = s.data.toList := by
  unfold ByteArray.toList; rw [toList_loop]; simp
theorem toList_nil (s : ByteArray) : s.toList = [] ↔ bs s = [] := by rw [toList_data]; simp [bs]
theorem bs_drop (s : ByteArray) (i j : Nat) (hj : s.size ≤ j) : bs (s.extract i j) = (bs s).drop i := by
  unfold bs
  rw [ByteArray.data_extract, ← List.map_drop]
  congr 1
  rw [Array.toList_extract]
  have : s.data.toList.length = s.size := by simp
  simp only [List.extract]
  rw [List.take_of_length_le (by rw [List.length_drop]; omega)]
theorem bs_take (s : ByteArray) (j : Nat) : bs (s.extract 0 j) = (bs s).take j := by
  unfold bs
  rw [ByteArray.data_extract, ← List.map_take]
  congr 1
  rw [Array.toList_extract]
  simp [List.extract]

/-! #### keys -/
def letters (l : List Int) : Bool := l.all fun b => decide (97 ≤ b ∧ b ≤ 122)
/-- KeyValid, over the bytes. -/
def keyOk (l : List Int) : Bool := decide (1 ≤ l.length ∧ l.length ≤ 4) && letters l
theorem rd_zero {l : List Int} {b : Int} {t : List Int} (h : l = b :: t) : rd l 0 = b := by subst h; rfl
theorem impl_lettersOnly_f : ∀ (l : List Int) (s : ByteArray), bs s = l → impl_lettersOnly.fL s = some (letters l)
  | [], s, h => by rw [impl_lettersOnly.fL_eq, if_pos ((toList_nil s).2 h)]; rfl
  | b :: l, s, h => by
    have hs : s.size = l.length + 1 := by rw [← bs_length, h]; rfl
    have hn : ¬ s.toList = [] := by rw [toList_nil, h]; simp
    have hd : bs (s.extract 1 s.size) = l := by rw [bs_drop s 1 s.size (Nat.le_refl _), h]; rfl
    rw [impl_lettersOnly.fL_eq, if_neg hn, if_pos (by omega), bt_bs, rd_zero h, if_pos (by omega : (1 : Int) ≤ (s.size : Int)), impl_lettersOnly_f l _ hd, Option.bind_some]
    unfold letters
    rw [List.all_cons]
    by_cases h1 : b ≥ 97
    · rw [if_pos h1]
      by_cases h2 : b ≤ 122
      · rw [if_pos h2, show decide (97 ≤ b ∧ b ≤ 122) = true from decide_eq_true ⟨h1, h2⟩]; rfl
      · rw [if_neg h2, show decide (97 ≤ b ∧ b ≤ 122) = false from decide_eq_false (by omega)]; rfl
    · rw [if_neg h1, show decide (97 ≤ b ∧ b ≤ 122) = false from decide_eq_false (by omega)]; rfl
theorem impl_KeyValid_f (s : ByteArray) : impl_KeyValid.fL s = some (keyOk (bs s)) := by
  rw [impl_KeyValid.fL_eq, impl_lettersOnly_f _ s rfl, Option.bind_some]
  unfold keyOk
  rw [bs_length]
  by_cases h1 : (s.size : Int) < 1
  · rw [if_pos h1, decide_eq_false (by omega)]; rfl
  · rw [if_neg h1]
    by_cases h2 : (s.size : Int) > 4
    · rw [if_pos h2, decide_eq_false (by omega)]; rfl
    · rw [if_neg h2, decide_eq_true (by omega)]; rfl
theorem keyOk_len {l : List Int} (h : keyOk l = true) : 1 ≤ l.length ∧ l.length ≤ 4 := by
  simp only [keyOk, Bool.and_eq_true, decide_eq_true_eq] at h; exact h.1
theorem keyOk_letters {l : List Int} (h : keyOk l = true) : letters l = true := by
  simp only [keyOk, Bool.and_eq_true, decide_eq_true_eq] at h; exact h.2
theorem letters_cons {b : Int} {l : List Int} (h : letters (b :: l) = true) : (97 ≤ b ∧ b ≤ 122) ∧ letters l = true := by
  simp only [letters, List.all_cons, Bool.and_eq_true, decide_eq_true_eq] at h
  exact ⟨h.1, by simp only [letters]; exact h.2⟩

/-! #### kfrom -/
/-- How many keys begin with the letters of a place, from a depth on. -/
def kfrom (d : Int) : Int := if d ≥ 4 then 1 else if d = 3 then 27 else if d = 2 then 703 else 18279
theorem kfrom_range (d : Int) : 1 ≤ kfrom d ∧ kfrom d ≤ 18279 := by unfold kfrom; split <;> (try split) <;> (try split) <;> omega

/-! #### keyrank -/
def rankBelow : List Int → Int → Int
  | [], _ => 0
  | b :: l, d => 1 + (b - 97) * kfrom d + rankBelow l (d + 1)
def keyRank (l : List Int) : Int := if keyOk l = true then rankBelow l 1 - 1 else -1
theorem impl_keysFrom_f (d : Int) (h1 : 1 ≤ d) (h2 : d ≤ 10) : impl_keysFrom.fL d = some (kfrom d) := by
  have h4 : ∀ e : Int, e ≥ 4 → impl_keysFrom.fL e = some 1 := fun e he => by rw [impl_keysFrom.fL_eq, if_pos he]
  have h3 : impl_keysFrom.fL 3 = some 27 := by
    rw [impl_keysFrom.fL_eq, if_neg (by omega), w64 (by omega) (by omega), show (3 : Int) + 1 = 4 from rfl, h4 4 (by omega)]; simp [wrap64]
  have h2' : impl_keysFrom.fL 2 = some 703 := by
    rw [impl_keysFrom.fL_eq, if_neg (by omega), w64 (by omega) (by omega), show (2 : Int) + 1 = 3 from rfl, h3]; simp [wrap64]
  have h1' : impl_keysFrom.fL 1 = some 18279 := by
    rw [impl_keysFrom.fL_eq, if_neg (by omega), w64 (by omega) (by omega), show (1 : Int) + 1 = 2 from rfl, h2']; simp [wrap64]
  unfold kfrom
  by_cases e : d ≥ 4
  · rw [h4 d e, if_pos e]
  · rw [if_neg e]
    by_cases e3 : d = 3
    · rw [if_pos e3, e3, h3]
    · rw [if_neg e3]
      by_cases e2 : d = 2
      · rw [if_pos e2, e2, h2']
      · rw [if_neg e2, show d = 1 by omega, h1']
theorem rankBelow_range : ∀ (l : List Int) (d : Int), letters l = true → 0 ≤ rankBelow l d ∧ rankBelow l d ≤ 500000 * l.length
  | [], d, _ => by simp [rankBelow]
  | b :: l, d, h => by
    obtain ⟨hb, hl⟩ := letters_cons h
    have hr := rankBelow_range l (d + 1) hl
    have hk := kfrom_range d
    have m1 : 0 ≤ (b - 97) * kfrom d := Int.mul_nonneg (by omega) (by omega)
    have m2 : (b - 97) * kfrom d ≤ 25 * 18279 := Int.mul_le_mul (by omega) hk.2 (by omega) (by omega)
    simp only [rankBelow, List.length_cons]
    omega
theorem impl_rankBelow_f : ∀ (l : List Int) (s : ByteArray) (d : Int), bs s = l → letters l = true → l.length ≤ 4 → 1 ≤ d → d + l.length ≤ 6 → impl_rankBelow.fL s d = some (rankBelow l d)
  | [], s, d, h, _, _, _, _ => by rw [impl_rankBelow.fL_eq, if_pos ((toList_nil s).2 h)]; rfl
  | b :: l, s, d, h, hl, hn, hd, hd2 => by
    simp only [List.length_cons] at hn hd2
    obtain ⟨hb, hl'⟩ := letters_cons hl
    have hs : s.size = l.length + 1 := by rw [← bs_length, h]; rfl
    have hnn : ¬ s.toList = [] := by rw [toList_nil, h]; simp
    have hdr : bs (s.extract 1 s.size) = l := by rw [bs_drop s 1 s.size (Nat.le_refl _), h]; rfl
    have hk := kfrom_range d
    have hr := rankBelow_range l (d + 1) hl'
    have m1 : 0 ≤ (b - 97) * kfrom d := Int.mul_nonneg (by omega) (by omega)
    have m2 : (b - 97) * kfrom d ≤ 25 * 18279 := Int.mul_le_mul (by omega) hk.2 (by omega) (by omega)
    rw [impl_rankBelow.fL_eq, if_neg hnn, if_pos (by omega), impl_keysFrom_f d hd (by omega), Option.bind_some, if_pos (by omega), w64 (n := d + 1) (by omega) (by omega),
      impl_rankBelow_f l _ (d + 1) hdr hl' (by omega) (by omega) (by omega), Option.bind_some, bt_bs, rd_zero h, Int.emod_eq_of_lt (a := b - 97) (by omega) (by omega),
      w64 (n := (b - 97) * kfrom d) (by omega) (by omega), w64 (n := 1 + (b - 97) * kfrom d) (by omega) (by omega), w64 (by omega) (by omega)]
    rfl
theorem impl_KeyRank_f (s : ByteArray) : impl_KeyRank.fL s = some (keyRank (bs s)) := by
  rw [impl_KeyRank.fL_eq, impl_KeyValid_f, Option.bind_some]
  unfold keyRank
  by_cases h : keyOk (bs s) = true
  · have hn := keyOk_len h
    have hr := rankBelow_range (bs s) 1 (keyOk_letters h)
    rw [if_pos h, if_pos h, impl_rankBelow_f _ s 1 rfl (keyOk_letters h) hn.2 (by omega) (by omega), Option.bind_some, w64 (by omega) (by omega)]
  · rw [if_neg h, if_neg h]

/-! #### spec_l1Weight -/
theorem spec_l1Weight_f (d : Int) (h0 : 0 ≤ d) : spec_l1Weight.f d = some (kfrom (d + 1)) := by
  unfold spec_l1Weight.f kfrom
  by_cases h1 : d = 0
  · subst h1; rfl
  · by_cases h2 : d = 1
    · subst h2; rfl
    · by_cases h3 : d = 2
      · subst h3; rfl
      · rw [if_neg h1, if_neg h2, if_neg h3, if_pos (by omega)]

/-! #### spec_l1In -/
theorem spec_l1In_f (a lo hi : Int) : spec_l1In.f a lo hi = some (decide (lo ≤ a ∧ a ≤ hi)) := by
  unfold spec_l1In.f
  by_cases h : a ≥ lo
  · rw [if_pos h]; congr 1; rw [decide_eq_decide]; omega
  · rw [if_neg h]; congr 1; rw [eq_comm, decide_eq_false_iff_not]; omega

/-! #### spec_KeyValid -/
theorem spec_KeyValid_l0 (s : ByteArray) (hs : s.size ≤ 1000) : ∀ (ys : List Int) (i : Int), 0 ≤ i → i ≤ s.size → (bs s).drop i.toNat = ys → spec_KeyValid.l0L s i = some (letters ys)
  | [], i, h0, h1, hd => by
    have := drop_nil h0 (by rw [bs_length]; exact h1) hd
    rw [bs_length] at this
    rw [spec_KeyValid.l0L_eq, if_neg (by omega)]; rfl
  | y :: ys, i, h0, h1, hd => by
    obtain ⟨hr, hl, hd'⟩ := rd_drop h0 hd
    rw [bs_length] at hl
    rw [spec_KeyValid.l0L_eq, if_pos hl, if_pos h0, bt_bs, hr, w64 (by omega) (by omega)]
    unfold letters
    rw [List.all_cons]
    by_cases e1 : y < 97
    · rw [if_pos e1, decide_eq_false (by omega)]; rfl
    · rw [if_neg e1]
      by_cases e2 : y > 122
      · rw [if_pos e2, decide_eq_false (by omega)]; rfl
      · rw [if_neg e2, decide_eq_true (by omega), spec_KeyValid_l0 s hs ys (i + 1) (by omega) (by omega) hd']; rfl
theorem spec_KeyValid_f (s : ByteArray) : spec_KeyValid.fL s = some (keyOk (bs s)) := by
  rw [spec_KeyValid.fL_eq, spec_l1In_f, Option.bind_some]
  unfold keyOk
  rw [bs_length]
  by_cases h : 1 ≤ (s.size : Int) ∧ (s.size : Int) ≤ 4
  · rw [if_pos (by simpa using h), decide_eq_true (by omega), spec_KeyValid_l0 s (by omega) (bs s) 0 (by omega) (by omega) (by simp)]; rfl
  · rw [if_neg (by simpa using h), decide_eq_false (by omega)]; rfl

/-! #### valueValid -/
theorem impl_valueValid_f (v : Int) : impl_valueValid.f v = some (decide (0 ≤ v ∧ v ≤ 999)) := by
  unfold impl_valueValid.f
  by_cases h : v ≥ 0
  · rw [if_pos h]; congr 1; rw [decide_eq_decide]; omega
  · rw [if_neg h]; congr 1; rw [eq_comm, decide_eq_false_iff_not]; omega

/-! #### PairDigest -/
def digest (k : List Int) (v : Int) : Int := if keyOk k = true ∧ 0 ≤ v ∧ v ≤ 999 then (1009 * keyRank k + 7 * v + 3) % 99991 else -1
theorem keyRank_range (l : List Int) : -1 ≤ keyRank l ∧ keyRank l ≤ 2000000 := by
  unfold keyRank
  by_cases h : keyOk l = true
  · have hn := keyOk_len h
    have hr := rankBelow_range l 1 (keyOk_letters h)
    rw [if_pos h]; omega
  · rw [if_neg h]; omega
theorem keyRank_nonneg {l : List Int} (h : keyOk l = true) : 0 ≤ keyRank l := by
  have hn := keyOk_len h
  unfold keyRank
  rw [if_pos h]
  cases l with
  | nil => simp at hn
  | cons b l =>
    obtain ⟨hb, hl⟩ := letters_cons (keyOk_letters h)
    have hr := rankBelow_range l (1 + 1) hl
    have hk := kfrom_range 1
    have m1 : 0 ≤ (b - 97) * kfrom 1 := Int.mul_nonneg (by omega) (by omega)
    simp only [rankBelow]
    omega
theorem digest_range (k : List Int) (v : Int) : -1 ≤ digest k v ∧ digest k v < 99991 := by
  unfold digest
  split <;> omega
theorem impl_PairDigest_f (s : ByteArray) (v : Int) : impl_PairDigest.fL s v = some (digest (bs s) v) := by
  rw [impl_PairDigest.fL_eq, impl_KeyValid_f, Option.bind_some, impl_valueValid_f, Option.bind_some, impl_KeyRank_f, Option.bind_some]
  unfold digest
  by_cases h : keyOk (bs s) = true
  · have h0 := keyRank_nonneg h
    have h1 := keyRank_range (bs s)
    rw [if_pos h]
    by_cases hv : 0 ≤ v ∧ v ≤ 999
    · rw [if_pos (by simpa using hv), if_pos ⟨h, hv⟩, w64 (n := 1009 * keyRank (bs s)) (by omega) (by omega), w64 (n := 7 * v) (by omega) (by omega), w64 (n := 1009 * keyRank (bs s) + 7 * v) (by omega) (by omega), w64 (by omega) (by omega), Int.tmod_eq_emod_of_nonneg (by omega)]
    · rw [if_neg (by simpa using hv), if_neg (fun e => hv e.2)]
  · rw [if_neg h, if_neg (fun e => h e.1)]
theorem spec_KeyRank_l0 (s : ByteArray) (hs : s.size ≤ 4) : ∀ (ys : List Int) (i n : Int), 0 ≤ i → i ≤ s.size → (bs s).drop i.toNat = ys → letters ys = true → -1 ≤ n → n ≤ 500000 * i → spec_KeyRank.l0L s n i = some (n + rankBelow ys (i + 1))
  | [], i, n, h0, h1, hd, hl, hn, hn2 => by
    have := drop_nil h0 (by rw [bs_length]; exact h1) hd
    rw [bs_length] at this
    rw [spec_KeyRank.l0L_eq, if_neg (by omega)]; simp [rankBelow]
  | y :: ys, i, n, h0, h1, hd, hl, hn, hn2 => by
    obtain ⟨hr, hlt, hd'⟩ := rd_drop h0 hd
    rw [bs_length] at hlt
    obtain ⟨hy, hl'⟩ := letters_cons hl
    have hk := kfrom_range (i + 1)
    have m1 : 0 ≤ (y - 97) * kfrom (i + 1) := Int.mul_nonneg (by omega) (by omega)
    have m2 : (y - 97) * kfrom (i + 1) ≤ 25 * 18279 := Int.mul_le_mul (by omega) hk.2 (by omega) (by omega)
    rw [spec_KeyRank.l0L_eq, if_pos hlt, if_pos h0, spec_l1Weight_f i h0, Option.bind_some, bt_bs, hr, Int.emod_eq_of_lt (a := y - 97) (by omega) (by omega), w64 (n := n + 1) (by omega) (by omega), w64 (n := (y - 97) * kfrom (i + 1)) (by omega) (by omega),
      w64 (n := n + 1 + (y - 97) * kfrom (i + 1)) (by omega) (by omega), w64 (n := i + 1) (by omega) (by omega), spec_KeyRank_l0 s hs ys (i + 1) _ (by omega) (by omega) hd' hl' (by omega) (by omega)]
    simp only [rankBelow]
    congr 1
    omega
theorem spec_KeyRank_f (s : ByteArray) : spec_KeyRank.fL s = some (keyRank (bs s)) := by
  rw [spec_KeyRank.fL_eq, spec_KeyValid_f, Option.bind_some]
  unfold keyRank
  by_cases h : keyOk (bs s) = true
  · have hn := keyOk_len h
    rw [bs_length] at hn
    rw [if_pos h, if_pos h, spec_KeyRank_l0 s (by omega) (bs s) 0 (-1) (by omega) (by omega) (by simp) (keyOk_letters h) (by omega) (by omega)]
    congr 1
    rw [show (0 : Int) + 1 = 1 from rfl]
    omega
  · rw [if_neg h, if_neg h]
theorem spec_PairDigest_f (s : ByteArray) (v : Int) : spec_PairDigest.fL s v = some (digest (bs s) v) := by
  rw [spec_PairDigest.fL_eq, spec_KeyValid_f, Option.bind_some, spec_l1In_f, Option.bind_some, spec_KeyRank_f, Option.bind_some]
  unfold digest
  by_cases h : keyOk (bs s) = true
  · have h0 := keyRank_nonneg h
    have h1 := keyRank_range (bs s)
    rw [if_pos h]
    by_cases hv : 0 ≤ v ∧ v ≤ 999
    · rw [if_pos (by simpa using hv), if_pos ⟨h, hv⟩, w64 (n := 1009 * keyRank (bs s)) (by omega) (by omega), w64 (n := 7 * v) (by omega) (by omega), w64 (n := 1009 * keyRank (bs s) + 7 * v) (by omega) (by omega), w64 (by omega) (by omega), Int.tmod_eq_emod_of_nonneg (by omega)]
    · rw [if_neg (by simpa using hv), if_neg (fun e => hv e.2)]
  · rw [if_neg h, if_neg (fun e => h e.1)]

/-! #### pairs -/
def klt (a b : ByteArray) : Bool := Op.bytesLess a.toList b.toList
/-- A pair alone is valid. -/
def pairItem (y : S29) : Bool := keyOk (bs y.f0) && decide (0 ≤ y.f1 ∧ y.f1 ≤ 999)
/-- The key is greater than the one before, if there is one. -/
def above : Option ByteArray → ByteArray → Bool
  | none, _ => true
  | some q, k => klt q k
def pairsFrom : Option ByteArray → List S29 → Bool
  | _, [] => true
  | p, y :: ys => pairItem y && above p y.f0 && pairsFrom (some y.f0) ys
def pairsOk (l : List S29) : Bool := decide (l.length ≤ 48) && pairsFrom none l
theorem getD_cons {α : Type} {xs : List α} {d : α} {i : Int} {y : α} {ys : List α} (h0 : 0 ≤ i) (h : xs.drop i.toNat = y :: ys) : xs.getD i.toNat d = y ∧ i < xs.length ∧ xs.drop (i + 1).toNat = ys := by
  have h1 : i.toNat < xs.length := by
    by_cases e : i.toNat < xs.length
    · exact e
    · rw [List.drop_eq_nil_of_le (by omega)] at h; cases h
  rw [List.drop_eq_getElem_cons h1] at h
  injection h with ha hb
  refine ⟨?_, by omega, ?_⟩
  · rw [List.getD_eq_getElem?_getD, List.getElem?_eq_getElem h1]; exact ha
  · rw [show (i + 1).toNat = i.toNat + 1 by omega]; exact hb

/-! #### spec_pairs -/
theorem spec_PairsValid_l0 (xs : List S29) (hx : xs.length ≤ 48) : ∀ (ys : List S29) (i : Int) (p : Option ByteArray), 0 ≤ i → i ≤ xs.length → xs.drop i.toNat = ys → (i = 0 → p = none) → (0 < i → p = some (rd_T29 xs (i - 1)).f0) → spec_PairsValid.l0L xs i = some (pairsFrom p ys)
  | [], i, p, h0, h1, hd, hp0, hp1 => by
    have := drop_nil h0 h1 hd
    rw [spec_PairsValid.l0L_eq, if_neg (by omega)]; rfl
  | y :: ys, i, p, h0, h1, hd, hp0, hp1 => by
    obtain ⟨hr0, hl, hd'⟩ := getD_cons (d := z29) h0 hd
    have hr : rd_T29 xs i = y := hr0
    have hnext := spec_PairsValid_l0 xs hx ys (i + 1) (some y.f0) (by omega) (by omega) hd' (fun h => by omega) (fun _ => by rw [show i + 1 - 1 = i by omega, hr])
    rw [spec_PairsValid.l0L_eq, if_pos hl, if_pos h0, hr, spec_KeyValid_f, Option.bind_some, spec_l1In_f, Option.bind_some]
    simp only [w64 (n := i - 1) (by omega) (by omega), w64 (n := i + 1) (by omega) (by omega), pairsFrom, pairItem]
    cases hk : keyOk (bs y.f0) with
    | false => simp
    | true =>
      by_cases hv : 0 ≤ y.f1 ∧ y.f1 ≤ 999
      · rw [decide_eq_true hv]
        by_cases hi : i > 0
        · rw [if_pos rfl, if_pos rfl, if_pos hi, if_pos (by omega), if_pos (by omega), hp1 hi, hnext]
          simp only [above, klt]
          cases Op.bytesLess (rd_T29 xs (i - 1)).f0.toList y.f0.toList <;> simp
        · rw [if_pos rfl, if_pos rfl, if_neg hi, hp0 (by omega), hnext]
          simp [above]
      · rw [decide_eq_false hv]; simp
theorem spec_PairsValid_f (xs : List S29) : spec_PairsValid.fL xs = some (pairsOk xs) := by
  rw [spec_PairsValid.fL_eq]
  unfold pairsOk
  by_cases h : (xs.length : Int) > 48
  · rw [if_pos h, decide_eq_false (by omega)]; rfl
  · rw [if_neg h, decide_eq_true (by omega), spec_PairsValid_l0 xs (by omega) xs 0 none (by omega) (by omega) (by simp) (fun _ => rfl) (fun h => by omega)]; rfl

/-! #### impl_PairsValid -/
theorem impl_PairsValid_l0 (xs : List S29) (hx : xs.length ≤ 48) : ∀ (ys : List S29) (i : Int) (p : Option ByteArray), 0 ≤ i → i ≤ xs.length → xs.drop i.toNat = ys → (i = 0 → p = none) → (0 < i → p = some (rd_T29 xs (i - 1)).f0) → impl_PairsValid.l0L xs xs (xs.length : Int) i = some (pairsFrom p ys)
  | [], i, p, h0, h1, hd, hp0, hp1 => by
    have := drop_nil h0 h1 hd
    rw [impl_PairsValid.l0L_eq, if_neg (by omega)]; rfl
  | y :: ys, i, p, h0, h1, hd, hp0, hp1 => by
    obtain ⟨hr0, hl, hd'⟩ := getD_cons (d := z29) h0 hd
    have hr : rd_T29 xs i = y := hr0
    have hnext := impl_PairsValid_l0 xs hx ys (i + 1) (some y.f0) (by omega) (by omega) hd' (fun h => by omega) (fun _ => by rw [show i + 1 - 1 = i by omega, hr])
    rw [impl_PairsValid.l0L_eq, if_pos hl, if_pos h0, if_pos hl, hr, impl_KeyValid_f, Option.bind_some, impl_valueValid_f, Option.bind_some]
    simp only [impl_PairsValid.j1L_eq, w64 (n := i - 1) (by omega) (by omega), w64 (n := i + 1) (by omega) (by omega), if_true, pairsFrom, pairItem]
    cases hk : keyOk (bs y.f0) with
    | false => simp
    | true =>
      by_cases hv : 0 ≤ y.f1 ∧ y.f1 ≤ 999
      · rw [decide_eq_true hv]
        by_cases hi : i > 0
        · rw [if_pos rfl, if_neg (by simp), if_pos hi, if_pos (by omega), if_pos (by omega), hp1 hi, hnext]
          simp only [above, klt]
          cases Op.bytesLess (rd_T29 xs (i - 1)).f0.toList y.f0.toList <;> simp
        · rw [if_pos rfl, if_neg (by simp), if_neg hi, hp0 (by omega), hnext]
          simp [above]
      · rw [decide_eq_false hv]; simp
theorem impl_PairsValid_f (xs : List S29) : impl_PairsValid.fL xs = some (pairsOk xs) := by
  rw [impl_PairsValid.fL_eq]
  unfold pairsOk
  by_cases h : (xs.length : Int) > 48
  · rw [if_pos h, decide_eq_false (by omega)]; rfl
  · rw [if_neg h, decide_eq_true (by omega), impl_PairsValid_l0 xs (by omega) xs 0 none (by omega) (by omega) (by simp) (fun _ => rfl) (fun h => by omega)]; rfl

/-! #### PairsDigest -/
def dsum : List S29 → Int
  | [] => 0
  | y :: ys => digest (bs y.f0) y.f1 + dsum ys
def pairsDigest (l : List S29) : Int := if pairsOk l = true then dsum l % 99991 else -1
theorem pairsOk_len {l : List S29} (h : pairsOk l = true) : l.length ≤ 48 := by
  simp only [pairsOk, Bool.and_eq_true, decide_eq_true_eq] at h; exact h.1
theorem pairsOk_from {l : List S29} (h : pairsOk l = true) : pairsFrom none l = true := by
  simp only [pairsOk, Bool.and_eq_true, decide_eq_true_eq] at h; exact h.2
theorem pairsFrom_cons {p : Option ByteArray} {y : S29} {ys : List S29} (h : pairsFrom p (y :: ys) = true) : pairItem y = true ∧ above p y.f0 = true ∧ pairsFrom (some y.f0) ys = true := by
  simp only [pairsFrom, Bool.and_eq_true] at h; exact ⟨h.1.1, h.1.2, h.2⟩
theorem digest_item {y : S29} (h : pairItem y = true) : digest (bs y.f0) y.f1 = (1009 * keyRank (bs y.f0) + 7 * y.f1 + 3) % 99991 ∧ 0 ≤ y.f1 ∧ y.f1 ≤ 999 := by
  simp only [pairItem, Bool.and_eq_true, decide_eq_true_eq] at h
  exact ⟨by unfold digest; rw [if_pos ⟨h.1, h.2⟩], h.2.1, h.2.2⟩
theorem digest_item_range {y : S29} (h : pairItem y = true) : 0 ≤ digest (bs y.f0) y.f1 ∧ digest (bs y.f0) y.f1 ≤ 99990 := by
  rw [(digest_item h).1]; omega
theorem impl_PairsDigest_l0 (xs : List S29) (hx : xs.length ≤ 48) : ∀ (ys : List S29) (i n : Int) (p : Option ByteArray), 0 ≤ i → i ≤ xs.length → xs.drop i.toNat = ys → pairsFrom p ys = true → 0 ≤ n → n ≤ 99990 * i → impl_PairsDigest.l0L n xs (xs.length : Int) i = some ((n + dsum ys) % 99991)
  | [], i, n, p, h0, h1, hd, hp, hn, hn2 => by
    have := drop_nil h0 h1 hd
    rw [impl_PairsDigest.l0L_eq, if_neg (by omega), Int.tmod_eq_emod_of_nonneg hn]; simp [dsum]
  | y :: ys, i, n, p, h0, h1, hd, hp, hn, hn2 => by
    obtain ⟨hr0, hl, hd'⟩ := getD_cons (d := z29) h0 hd
    have hr : rd_T29 xs i = y := hr0
    obtain ⟨hy, _, hys⟩ := pairsFrom_cons hp
    have hg := digest_item_range hy
    rw [impl_PairsDigest.l0L_eq, if_pos hl, if_pos h0, if_pos hl, hr, impl_PairDigest_f, Option.bind_some, w64 (by omega) (by omega), w64 (n := i + 1) (by omega) (by omega),
      impl_PairsDigest_l0 xs hx ys (i + 1) _ _ (by omega) (by omega) hd' hys (by omega) (by omega)]
    simp only [dsum]
    congr 2
    omega
theorem impl_PairsDigest_f (xs : List S29) : impl_PairsDigest.fL xs = some (pairsDigest xs) := by
  rw [impl_PairsDigest.fL_eq, impl_PairsValid_f, Option.bind_some]
  unfold pairsDigest
  by_cases h : pairsOk xs = true
  · rw [if_pos h, if_pos h, impl_PairsDigest_l0 xs (pairsOk_len h) xs 0 0 none (by omega) (by omega) (by simp) (pairsOk_from h) (by omega) (by omega)]; simp
  · rw [if_neg h, if_neg h]
theorem spec_PairsDigest_l0 (xs : List S29) (hx : xs.length ≤ 48) : ∀ (ys : List S29) (i n : Int) (p : Option ByteArray), 0 ≤ i → i ≤ xs.length → xs.drop i.toNat = ys → pairsFrom p ys = true → 0 ≤ n → n ≤ 99990 → spec_PairsDigest.l0L xs n i = some ((n + dsum ys) % 99991)
  | [], i, n, p, h0, h1, hd, hp, hn, hn2 => by
    have := drop_nil h0 h1 hd
    rw [spec_PairsDigest.l0L_eq, if_neg (by omega)]; simp [dsum]; omega
  | y :: ys, i, n, p, h0, h1, hd, hp, hn, hn2 => by
    obtain ⟨hr0, hl, hd'⟩ := getD_cons (d := z29) h0 hd
    have hr : rd_T29 xs i = y := hr0
    obtain ⟨hy, _, hys⟩ := pairsFrom_cons hp
    have hg := digest_item_range hy
    rw [spec_PairsDigest.l0L_eq, if_pos hl, if_pos h0, hr, spec_PairDigest_f, Option.bind_some, w64 (n := n + _) (by omega) (by omega), w64 (n := i + 1) (by omega) (by omega), Int.tmod_eq_emod_of_nonneg (by omega),
      spec_PairsDigest_l0 xs hx ys (i + 1) _ _ (by omega) (by omega) hd' hys (by omega) (by omega)]
    simp only [dsum]
    congr 1
    omega
theorem spec_PairsDigest_f (xs : List S29) : spec_PairsDigest.fL xs = some (pairsDigest xs) := by
  rw [spec_PairsDigest.fL_eq, spec_PairsValid_f, Option.bind_some]
  unfold pairsDigest
  by_cases h : pairsOk xs = true
  · rw [if_pos h, if_pos h, spec_PairsDigest_l0 xs (pairsOk_len h) xs 0 0 none (by omega) (by omega) (by simp) (pairsOk_from h) (by omega) (by omega)]; simp
  · rw [if_neg h, if_neg h]

/-! #### pairmap -/
theorem toList_eq {a b : ByteArray} : a.toList = b.toList ↔ a = b := by
  rw [toList_data, toList_data]
  exact ⟨fun h => ByteArray.ext (Array.toList_inj.mp h), fun h => by rw [h]⟩
/-- Where a key is or belongs: how many pairs stand before it. -/
def place (k : ByteArray) : List S29 → Nat
  | [] => 0
  | y :: ys => if klt y.f0 k = true then place k ys + 1 else 0
theorem place_le (k : ByteArray) : ∀ l, place k l ≤ l.length
  | [] => Nat.le_refl _
  | y :: ys => by
    have := place_le k ys
    simp only [place, List.length_cons]
    split <;> omega
/-- Is the key there? -/
def hit (k : ByteArray) (l : List S29) : Bool := decide (place k l < l.length ∧ (rd_T29 l (place k l : Int)).f0 = k)
theorem hit_lt {k : ByteArray} {l : List S29} (h : hit k l = true) : place k l < l.length := (of_decide_eq_true h).1
theorem hit_key {k : ByteArray} {l : List S29} (h : hit k l = true) : (rd_T29 l (place k l : Int)).f0 = k := (of_decide_eq_true h).2
def pairGet (l : List S29) (k : ByteArray) : Int := if pairsOk l = true then (if hit k l = true then (rd_T29 l (place k l : Int)).f1 else -1) else -1
def pairDrop (l : List S29) (k : ByteArray) : List S29 × Bool := if pairsOk l = true then (if hit k l = true then (l.take (place k l) ++ l.drop (place k l + 1), true) else (l, false)) else ([], false)
def pairPut (l : List S29) (k : ByteArray) (v : Int) : List S29 × Bool :=
  if pairsOk l = true ∧ keyOk (bs k) = true ∧ 0 ≤ v ∧ v ≤ 999 then
    (if hit k l = true then (l.take (place k l) ++ ⟨k, v⟩ :: l.drop (place k l + 1), true) else if 48 ≤ l.length then (l, false) else (l.take (place k l) ++ ⟨k, v⟩ :: l.drop (place k l), true))
  else ([], false)
theorem pairsOk_le {l : List S29} (h : pairsOk l = true) : l.length ≤ 48 := by
  simp only [pairsOk, Bool.and_eq_true, decide_eq_true_eq] at h; exact h.1
theorem pairPut_length (l : List S29) (k : ByteArray) (v : Int) : (pairPut l k v).1.length ≤ 48 := by
  unfold pairPut
  split
  · rename_i h
    have h1 := pairsOk_le h.1
    have h2 := place_le k l
    split
    · rename_i h3
      have := hit_lt h3
      simp; omega
    · split
      · exact h1
      · simp; omega
  · simp
theorem pairDrop_length (l : List S29) (k : ByteArray) : (pairDrop l k).1.length ≤ 48 := by
  unfold pairDrop
  split
  · rename_i h
    have h1 := pairsOk_le h
    split
    · simp; omega
    · exact h1
  · simp
theorem set_split {α : Type} (y : α) : ∀ (l : List α) (n : Nat), n < l.length → l.set n y = l.take n ++ y :: l.drop (n + 1)
  | [], n, h => by simp at h
  | x :: l, 0, h => by simp
  | x :: l, n + 1, h => by simp at h; simp [set_split y l n h]

/-! #### pairsum -/
theorem pairsFrom_weak {p : Option ByteArray} {l : List S29} (h : pairsFrom p l = true) : pairsFrom none l = true := by
  cases l with
  | nil => rfl
  | cons y ys =>
    obtain ⟨h1, _, h3⟩ := pairsFrom_cons h
    simp only [pairsFrom, above, h1, h3, Bool.and_true]
theorem pairsFrom_take : ∀ (n : Nat) (p : Option ByteArray) (l : List S29), pairsFrom p l = true → pairsFrom p (l.take n) = true
  | 0, p, l, _ => by simp [pairsFrom]
  | n + 1, p, [], _ => by simp [pairsFrom]
  | n + 1, p, y :: ys, h => by
    obtain ⟨h1, h2, h3⟩ := pairsFrom_cons h
    simp only [List.take_succ_cons, pairsFrom, h1, h2, pairsFrom_take n _ ys h3, Bool.and_true]
theorem pairsFrom_drop : ∀ (n : Nat) (p : Option ByteArray) (l : List S29), pairsFrom p l = true → pairsFrom none (l.drop n) = true
  | 0, p, l, h => by simpa using pairsFrom_weak h
  | n + 1, p, [], _ => by simp [pairsFrom]
  | n + 1, p, y :: ys, h => by
    obtain ⟨h1, h2, h3⟩ := pairsFrom_cons h
    simpa using pairsFrom_drop n _ ys h3
theorem pairsFrom_set (v : Int) (v0 : 0 ≤ v) (v1 : v ≤ 999) : ∀ (n : Nat) (p : Option ByteArray) (l : List S29), pairsFrom p l = true → pairsFrom p (l.set n ⟨(l.getD n z29).f0, v⟩) = true
  | n, p, [], _ => by simp [pairsFrom]
  | 0, p, y :: ys, h => by
    obtain ⟨h1, h2, h3⟩ := pairsFrom_cons h
    have hi : pairItem ⟨y.f0, v⟩ = true := by
      simp only [pairItem, Bool.and_eq_true, decide_eq_true_eq] at h1 ⊢
      exact ⟨h1.1, v0, v1⟩
    show pairsFrom p (⟨y.f0, v⟩ :: ys) = true
    simp only [pairsFrom, hi, h2, h3, Bool.and_true]
  | n + 1, p, y :: ys, h => by
    obtain ⟨h1, h2, h3⟩ := pairsFrom_cons h
    have := pairsFrom_set v v0 v1 n _ ys h3
    show pairsFrom p (y :: ys.set n ⟨(ys.getD n z29).f0, v⟩) = true
    simp only [pairsFrom, h1, h2, this, Bool.and_true]
theorem pairsOk_take {l : List S29} (h : pairsOk l = true) (n : Nat) : pairsOk (l.take n) = true := by
  have h1 := pairsOk_le h
  have h2 := pairsFrom_take n _ _ (pairsOk_from h)
  simp only [pairsOk, Bool.and_eq_true, decide_eq_true_eq]
  exact ⟨by rw [List.length_take]; omega, h2⟩
theorem pairsOk_drop {l : List S29} (h : pairsOk l = true) (n : Nat) : pairsOk (l.drop n) = true := by
  have h1 := pairsOk_le h
  have h2 := pairsFrom_drop n _ _ (pairsOk_from h)
  simp only [pairsOk, Bool.and_eq_true, decide_eq_true_eq]
  exact ⟨by rw [List.length_drop]; omega, h2⟩
theorem pairsOk_set {l : List S29} (h : pairsOk l = true) (n : Nat) (v : Int) (v0 : 0 ≤ v) (v1 : v ≤ 999) : pairsOk (l.set n ⟨(l.getD n z29).f0, v⟩) = true := by
  have h1 := pairsOk_le h
  have h2 := pairsFrom_set v v0 v1 n _ _ (pairsOk_from h)
  simp only [pairsOk, Bool.and_eq_true, decide_eq_true_eq]
  exact ⟨by rw [List.length_set]; omega, h2⟩
theorem dsum_append : ∀ a b : List S29, dsum (a ++ b) = dsum a + dsum b
  | [], b => by simp [dsum]
  | y :: ys, b => by simp only [List.cons_append, dsum, dsum_append ys b]; omega
theorem pairsFrom_mem : ∀ (p : Option ByteArray) (l : List S29), pairsFrom p l = true → ∀ y ∈ l, pairItem y = true
  | p, [], _, y, hy => by cases hy
  | p, x :: xs, h, y, hy => by
    obtain ⟨h1, h2, h3⟩ := pairsFrom_cons h
    rcases List.mem_cons.1 hy with rfl | hy
    · exact h1
    · exact pairsFrom_mem _ xs h3 y hy
theorem dsum_set : ∀ (l : List S29) (n : Nat) (y : S29), n < l.length → dsum (l.set n y) = dsum l - digest (bs (l.getD n z29).f0) (l.getD n z29).f1 + digest (bs y.f0) y.f1
  | [], n, y, h => by simp at h
  | x :: xs, 0, y, h => by
    show dsum (y :: xs) = dsum (x :: xs) - digest (bs x.f0) x.f1 + _
    simp only [dsum]; omega
  | x :: xs, n + 1, y, h => by
    have := dsum_set xs n y (by simpa using h)
    show dsum (x :: xs.set n y) = dsum (x :: xs) - digest (bs (xs.getD n z29).f0) (xs.getD n z29).f1 + _
    simp only [dsum]; omega

/-! #### Interval -/
theorem toList_eq_iff (a b : ByteArray) : a.toList = b.toList ↔ a = b := by
  rw [toList_data, toList_data]
  constructor
  · intro h
    cases a; cases b
    simp only [ByteArray.mk.injEq]
    exact Array.ext' h
  · intro h; rw [h]
/-- The least key of an interval with this lower bound. -/
def low (lo : ByteArray) : ByteArray := if lo.toList = [] then (⟨#[97]⟩ : ByteArray) else lo
def ivOk (lo hi : ByteArray) : Bool :=
  (decide (lo.toList = []) || keyOk (bs lo)) && (decide (hi.toList = []) || keyOk (bs hi)) && (decide (hi.toList = []) || Op.bytesLess (low lo).toList hi.toList)
theorem impl_lowestKey_f (lo hi : ByteArray) : impl_lowestKey.f lo hi = some (low lo) := by
  unfold impl_lowestKey.f low
  split <;> rfl
theorem impl_IntervalValid_f (lo hi : ByteArray) : impl_IntervalValid.fL lo hi = some (ivOk lo hi) := by
  rw [impl_IntervalValid.fL_eq, impl_KeyValid_f, impl_KeyValid_f, impl_lowestKey_f]
  simp only [Option.bind_some]
  unfold ivOk
  by_cases h1 : lo.toList = []
  · rw [if_pos h1, decide_eq_true h1]
    by_cases h2 : hi.toList = []
    · rw [if_pos h2, decide_eq_true h2]; rfl
    · rw [if_neg h2, decide_eq_false h2]
      cases keyOk (bs hi) <;> simp
  · rw [if_neg h1, decide_eq_false h1]
    by_cases h2 : hi.toList = []
    · rw [if_pos h2, decide_eq_true h2]
      cases keyOk (bs lo) <;> simp
    · rw [if_neg h2, decide_eq_false h2]
      cases keyOk (bs lo) <;> cases keyOk (bs hi) <;> simp
def joinOk (a b c d : ByteArray) : Bool := ivOk a b && ivOk c d && !decide (b.toList = []) && decide (b.toList = c.toList)
theorem impl_IntervalJoin_f (a b c d : ByteArray) : impl_IntervalJoin.fL a b c d = some (if joinOk a b c d = true then (a, d, true) else ((⟨#[]⟩ : ByteArray), (⟨#[]⟩ : ByteArray), false)) := by
  rw [impl_IntervalJoin.fL_eq, impl_IntervalValid_f, impl_IntervalValid_f]
  simp only [Option.bind_some]
  unfold joinOk
  cases ivOk a b with
  | false => simp
  | true =>
    cases ivOk c d with
    | false => simp
    | true =>
      by_cases h1 : b.toList = []
      · rw [decide_eq_true h1]; simp [h1]
      · rw [decide_eq_false h1]
        by_cases h2 : b.toList = c.toList
        · rw [decide_eq_true h2]
          rw [if_pos rfl, if_pos rfl, if_neg h1, if_pos h2]; simp
        · rw [decide_eq_false h2]
          rw [if_pos rfl, if_pos rfl, if_neg h1, if_neg h2]; simp

/-! #### bless -/
theorem bless_irrefl : ∀ x : List UInt8, Op.bytesLess x x = false
  | [] => by simp [Op.bytesLess]
  | a :: x => by simp [Op.bytesLess, bless_irrefl x, UInt8.lt_irrefl]
theorem bless_total : ∀ x y : List UInt8, Op.bytesLess x y = false → Op.bytesLess y x = false → x = y
  | [], [], _, _ => rfl
  | [], b :: y, h, _ => by simp [Op.bytesLess] at h
  | a :: x, [], _, h => by simp [Op.bytesLess] at h
  | a :: x, b :: y, h, h2 => by
    simp only [Op.bytesLess, Bool.or_eq_false_iff, decide_eq_false_iff_not, Bool.and_eq_false_iff] at h h2
    have e : a = b := by
      apply UInt8.toNat_inj.1
      have h1 : ¬ a.toNat < b.toNat := fun c => h.1 (UInt8.lt_iff_toNat_lt.2 c)
      have h3 : ¬ b.toNat < a.toNat := fun c => h2.1 (UInt8.lt_iff_toNat_lt.2 c)
      omega
    subst e
    have hx : Op.bytesLess x y = false := by rcases h.2 with h | h; · simp at h
                                             · exact h
    have hy : Op.bytesLess y x = false := by rcases h2.2 with h | h; · simp at h
                                             · exact h
    rw [bless_total x y hx hy]
theorem bless_trans : ∀ x y z : List UInt8, Op.bytesLess x y = true → Op.bytesLess y z = true → Op.bytesLess x z = true
  | [], _, [], h, h2 => by cases h2' : Op.bytesLess ([] : List UInt8) [] <;> simp_all [Op.bytesLess]
  | [], _, c :: z, _, _ => by simp [Op.bytesLess]
  | a :: x, [], _, h, _ => by simp [Op.bytesLess] at h
  | a :: x, b :: y, [], _, h => by simp [Op.bytesLess] at h
  | a :: x, b :: y, c :: z, h, h2 => by
    simp only [Op.bytesLess, Bool.or_eq_true, decide_eq_true_eq, Bool.and_eq_true, beq_iff_eq] at h h2 ⊢
    simp only [UInt8.lt_iff_toNat_lt] at h h2 ⊢
    rcases h with h | ⟨e, h⟩
    · rcases h2 with h2 | ⟨e2, h2⟩
      · left; omega
      · left; subst e2; exact h
    · rcases h2 with h2 | ⟨e2, h2⟩
      · left; subst e; exact h2
      · right; exact ⟨e.trans e2, bless_trans x y z h h2⟩

/-! #### PairsIn -/
theorem klt_tr {a b c : ByteArray} (h : klt a b = true) (h2 : klt b c = true) : klt a c = true := bless_trans _ _ _ h h2
/-- All keys of a list that ascend from p on are greater than p's. -/
theorem from_all : ∀ (l : List S29) (p : ByteArray), pairsFrom (some p) l = true → ∀ y ∈ l, klt p y.f0 = true
  | [], p, _, y, hy => by cases hy
  | x :: xs, p, h, y, hy => by
    simp only [pairsFrom, Bool.and_eq_true] at h
    have hx : klt p x.f0 = true := h.1.2
    rcases List.mem_cons.1 hy with rfl | hy
    · exact hx
    · exact klt_tr hx (from_all xs x.f0 h.2 y hy)
/-- Is a key between the bounds? -/
def inIv (lo hi k : ByteArray) : Bool := !klt k lo && (decide (hi.toList = []) || klt k hi)
def pairsIn (l : List S29) (lo hi : ByteArray) : List S29 := if pairsOk l = true ∧ ivOk lo hi = true then l.filter (fun y => inIv lo hi y.f0) else []
theorem filter_none {l : List S29} {f : S29 → Bool} (h : ∀ y ∈ l, f y = false) : l.filter f = [] := by
  rw [List.filter_eq_nil_iff]; intro y hy; rw [h y hy]; simp
theorem filter_klt (k : ByteArray) : ∀ (l : List S29) (p : Option ByteArray), pairsFrom p l = true → l.filter (fun y => klt y.f0 k) = l.take (place k l) ∧ l.filter (fun y => !klt y.f0 k) = l.drop (place k l)
  | [], p, _ => by simp
  | x :: xs, p, h => by
    simp only [pairsFrom, Bool.and_eq_true] at h
    have ha := from_all xs x.f0 h.2
    cases e : klt x.f0 k with
    | true =>
      obtain ⟨h1, h2⟩ := filter_klt k xs _ h.2
      simp only [place, if_pos e, List.filter_cons, e, Bool.not_true, if_true, List.take_succ_cons, List.drop_succ_cons, h1, h2]
      simp
    | false =>
      have hall : ∀ y ∈ xs, klt y.f0 k = false := by
        intro y hy
        cases hb : klt y.f0 k with
        | false => rfl
        | true => rw [klt_tr (ha y hy) hb] at e; cases e
      have hp : place k (x :: xs) = 0 := by simp only [place]; rw [if_neg (by rw [e]; simp)]
      rw [hp]
      constructor
      · exact filter_none (fun y hy => by rcases List.mem_cons.1 hy with rfl | hy; · exact e
                                          · exact hall y hy)
      · show _ = x :: xs
        rw [List.filter_eq_self]
        intro y hy
        rcases List.mem_cons.1 hy with rfl | hy
        · rw [e]; rfl
        · rw [hall y hy]; rfl
theorem place_take (k : ByteArray) : ∀ (l : List S29) (n : Nat), place k (l.take n) = min (place k l) n
  | [], n => by simp [place]
  | x :: xs, 0 => by simp [place]
  | x :: xs, n + 1 => by
    simp only [List.take_succ_cons, place]
    split
    · rw [place_take k xs n]; omega
    · simp
theorem place_mono {a b : ByteArray} (h : klt a b = true ∨ a = b) : ∀ l : List S29, place a l ≤ place b l
  | [] => Nat.le_refl _
  | x :: xs => by
    have ih := place_mono h xs
    simp only [place]
    by_cases e : klt x.f0 a = true
    · have : klt x.f0 b = true := by
        rcases h with h | rfl
        · exact klt_tr e h
        · exact e
      rw [if_pos e, if_pos this]; omega
    · rw [if_neg e]; omega
theorem klt_nil {a lo : ByteArray} (h : lo.toList = []) : klt a lo = false := by
  unfold klt; rw [h]; cases a.toList <;> simp [Op.bytesLess]
theorem place_nil {lo : ByteArray} (h : lo.toList = []) (l : List S29) : place lo l = 0 := by
  cases l with
  | nil => rfl
  | cons x xs => simp only [place]; rw [if_neg (by rw [klt_nil h]; simp)]
theorem place_le_iv {lo hi : ByteArray} (h : ivOk lo hi = true) (hh : ¬ hi.toList = []) (l : List S29) : place lo l ≤ place hi l := by
  by_cases e : lo.toList = []
  · rw [place_nil e]; omega
  · simp only [ivOk, low, Bool.and_eq_true, Bool.or_eq_true, decide_eq_true_eq] at h
    rw [if_neg e] at h
    rcases h.2 with h | h
    · exact absurd h hh
    · exact place_mono (.inl h) l
/-- The pairs in an interval stand side by side. -/
theorem pairsIn_cut {l : List S29} {lo hi : ByteArray} (h1 : pairsOk l = true) (h2 : ivOk lo hi = true) : pairsIn l lo hi = (l.take (if hi.toList = [] then l.length else place hi l)).drop (place lo l) := by
  have hf : pairsFrom none l = true := by simp only [pairsOk, Bool.and_eq_true, decide_eq_true_eq] at h1; exact h1.2
  unfold pairsIn
  rw [if_pos ⟨h1, h2⟩]
  by_cases e : hi.toList = []
  · rw [if_pos e, List.take_length, ← (filter_klt lo l none hf).2]
    congr 1; funext y
    unfold inIv
    rw [decide_eq_true e]; simp
  · have hm := place_le_iv h2 e l
    have htf : pairsFrom none (l.take (place hi l)) = true := by
      have : ∀ (n : Nat) (p : Option ByteArray) (l : List S29), pairsFrom p l = true → pairsFrom p (l.take n) = true := by
        intro n
        induction n with
        | zero => intro p l _; simp [pairsFrom]
        | succ n ih =>
          intro p l hl
          cases l with
          | nil => simp [pairsFrom]
          | cons y ys =>
            simp only [pairsFrom, Bool.and_eq_true] at hl
            simp only [List.take_succ_cons, pairsFrom, hl.1.1, hl.1.2, ih _ ys hl.2, Bool.and_true]
      exact this _ _ _ hf
    have h3 := (filter_klt lo _ none htf).2
    rw [place_take, Nat.min_eq_left hm] at h3
    rw [if_neg e, ← h3, ← (filter_klt hi l none hf).1, List.filter_filter]
    congr 1; funext y
    unfold inIv
    rw [decide_eq_false e]; simp
theorem pairsIn_length (l : List S29) (lo hi : ByteArray) : (pairsIn l lo hi).length ≤ 48 := by
  unfold pairsIn
  split
  · rename_i h
    have := pairsOk_le h.1
    have h2 := List.length_filter_le (fun y : S29 => inIv lo hi y.f0) l
    omega
  · simp

/-! #### Partition -/
/-- Each one begins where the one before it ends. -/
def chainFrom : S83 → List S83 → Bool
  | _, [] => true
  | p, y :: ys => joinOk p.f0 p.f1 y.f0 y.f1 && chainFrom y ys
def partOk (l : List S83) : Bool :=
  match l with
  | [] => false
  | v :: vs => decide (l.length ≤ 6) && ivOk v.f0 v.f1 && decide (v.f0.toList = []) && decide ((rd_T83 l ((l.length : Int) - 1)).f1.toList = []) && chainFrom v vs
theorem getD_iv {α : Type} {xs : List α} {d : α} {i : Int} {y : α} {ys : List α} (h0 : 0 ≤ i) (h : xs.drop i.toNat = y :: ys) : xs.getD i.toNat d = y ∧ i < xs.length ∧ xs.drop (i + 1).toNat = ys := by
  have h1 : i.toNat < xs.length := by
    by_cases e : i.toNat < xs.length
    · exact e
    · rw [List.drop_eq_nil_of_le (by omega)] at h; cases h
  rw [List.drop_eq_getElem_cons h1] at h
  injection h with ha hb
  refine ⟨?_, by omega, ?_⟩
  · rw [List.getD_eq_getElem?_getD, List.getElem?_eq_getElem h1]; exact ha
  · rw [show (i + 1).toNat = i.toNat + 1 by omega]; exact hb
theorem bne_nilB (l : List UInt8) : (l != []) = !decide (l = []) := by cases l <;> simp
theorem joinOk_right {a b c d : ByteArray} (h : ivOk c d = false) : joinOk a b c d = false := by
  unfold joinOk; rw [h]; simp
theorem impl_PartitionValid_l0 (xs : List S83) (hx : xs.length ≤ 6) : ∀ (ys : List S83) (i : Int), 1 ≤ i → i ≤ xs.length → xs.drop i.toNat = ys → impl_PartitionValid.l0L xs xs (xs.length : Int) i = some (chainFrom (rd_T83 xs (i - 1)) ys)
  | [], i, h0, h1, hd => by
    have := drop_nil (by omega) h1 hd
    rw [impl_PartitionValid.l0L_eq, if_neg (by omega)]; rfl
  | y :: ys, i, h0, h1, hd => by
    obtain ⟨hr0, hl, hd'⟩ := getD_iv (d := z83) (by omega) hd
    have hr : rd_T83 xs i = y := hr0
    have ih := impl_PartitionValid_l0 xs hx ys (i + 1) (by omega) (by omega) hd'
    rw [show i + 1 - 1 = i by omega, hr] at ih
    rw [impl_PartitionValid.l0L_eq, if_pos hl, if_pos (by omega), if_pos hl, hr, impl_IntervalValid_f, Option.bind_some, w64 (n := i - 1) (by omega) (by omega), w64 (n := i + 1) (by omega) (by omega), if_pos (show i > 0 by omega), if_pos (show 0 ≤ i - 1 by omega), if_pos (show i - 1 < (xs.length : Int) by omega), impl_IntervalJoin_f, Option.bind_some, ih]
    simp only [chainFrom]
    cases hv : ivOk y.f0 y.f1 with
    | false => rw [joinOk_right hv]; simp
    | true => cases joinOk (rd_T83 xs (i - 1)).f0 (rd_T83 xs (i - 1)).f1 y.f0 y.f1 <;> simp
theorem impl_PartitionValid_f (xs : List S83) : impl_PartitionValid.fL xs = some (partOk xs) := by
  have jt : impl_PartitionValid.j0L xs true = some false := by rw [impl_PartitionValid.j0L_eq, if_pos rfl]
  rw [impl_PartitionValid.fL_eq, jt]
  unfold partOk
  cases xs with
  | nil => rfl
  | cons v vs =>
    have hlen : ((v :: vs).length : Int) = (vs.length : Int) + 1 := by simp
    have hv : rd_T83 (v :: vs) 0 = v := rfl
    rw [if_neg (by omega)]
    by_cases h6 : ((v :: vs).length : Int) > 6
    · rw [if_pos h6]
      dsimp only
      rw [decide_eq_false (by omega)]; simp
    · rw [if_neg h6, if_pos (by omega), hv]
      dsimp only
      rw [decide_eq_true (p := (v :: vs).length ≤ 6) (by omega)]
      by_cases h1 : v.f0.toList = []
      · rw [if_pos h1, decide_eq_true h1, w64 (by omega) (by omega), if_pos (by omega), if_pos (by omega), bne_nilB]
        by_cases h2 : (rd_T83 (v :: vs) (((v :: vs).length : Int) - 1)).f1.toList = []
        · rw [decide_eq_true h2, Bool.not_true, impl_PartitionValid.j0L_eq, if_neg (by simp), impl_PartitionValid.l0L_eq, if_pos (by omega), if_pos (by omega), if_pos (by omega), hv, impl_IntervalValid_f, Option.bind_some, if_neg (show ¬ ((0 : Int) > 0) by omega), w64 (n := 0 + 1) (by omega) (by omega),
            impl_PartitionValid_l0 (v :: vs) (by omega) vs (0 + 1) (by omega) (by omega) (by simp)]
          rw [show (0 : Int) + 1 - 1 = 0 by omega, hv]
          cases ivOk v.f0 v.f1 <;> simp
        · rw [decide_eq_false h2, Bool.not_false, jt]; simp
      · rw [if_neg h1, decide_eq_false h1]; simp

/-! #### PartDigests -/
/-- The digests of the pairs in each interval. -/
def pdigs (l : List S29) (ps : List S83) : List Int := ps.map fun v => pairsDigest (pairsIn l v.f0 v.f1)
def partDigests (l : List S29) (ps : List S83) : List Int := if pairsOk l = true ∧ partOk ps = true then pdigs l ps else []
theorem partOk_len {ps : List S83} (h : partOk ps = true) : 1 ≤ ps.length ∧ ps.length ≤ 6 := by
  cases ps with
  | nil => cases h
  | cons v vs =>
    simp only [partOk, Bool.and_eq_true, decide_eq_true_eq] at h
    exact ⟨by simp, h.1.1.1.1⟩
theorem partDigests_length (l : List S29) (ps : List S83) : (partDigests l ps).length ≤ 6 := by
  unfold partDigests
  split
  · rename_i h
    have := partOk_len h.2
    simp only [pdigs, List.length_map]; omega
  · simp
/-- Where two lists of numbers differ. -/
def diffAt : Int → List Int → List Int → List Int
  | i, x :: xs, y :: ys => if x = y then diffAt (i + 1) xs ys else i :: diffAt (i + 1) xs ys
  | _, _, _ => []
def diffParts (a b : List S29) (ps : List S83) : List Int := diffAt 0 (partDigests a ps) (partDigests b ps)
theorem diffAt_length : ∀ (xs ys : List Int) (i : Int), (diffAt i xs ys).length ≤ xs.length
  | [], ys, i => by cases ys <;> simp [diffAt]
  | x :: xs, [], i => by simp [diffAt]
  | x :: xs, y :: ys, i => by
    have := diffAt_length xs ys (i + 1)
    simp only [diffAt]
    split <;> simp <;> omega
theorem diffParts_length (a b : List S29) (ps : List S83) : (diffParts a b ps).length ≤ 6 := by
  have := diffAt_length (partDigests a ps) (partDigests b ps) 0
  have h2 := partDigests_length a ps
  unfold diffParts; omega

/-! #### partsum -/
def sumI : List Int → Int
  | [] => 0
  | y :: ys => y + sumI ys
def lastIv : S83 → List S83 → S83
  | v, [] => v
  | _, w :: ws => lastIv w ws
theorem rd_lastIv : ∀ (vs : List S83) (v : S83) (pre : List S83), rd_T83 (pre ++ v :: vs) (((pre ++ v :: vs).length : Int) - 1) = lastIv v vs
  | [], v, pre => by
    unfold rd_T83
    rw [List.getD_eq_getElem?_getD, List.getElem?_append_right (by simp)]
    simp [lastIv]
  | w :: ws, v, pre => by
    have := rd_lastIv ws w (pre ++ [v])
    simp only [List.append_assoc, List.singleton_append] at this
    exact this
theorem pairsDigest_ok {l : List S29} (h : pairsOk l = true) : pairsDigest l = dsum l % 99991 := by unfold pairsDigest; rw [if_pos h]
theorem pairsIn_ok {l : List S29} {lo hi : ByteArray} (h1 : pairsOk l = true) (h2 : ivOk lo hi = true) : pairsOk (pairsIn l lo hi) = true := by
  rw [pairsIn_cut h1 h2]; exact pairsOk_drop (pairsOk_take h1 _) _
theorem digest_cut {l : List S29} {lo hi : ByteArray} (h1 : pairsOk l = true) (h2 : ivOk lo hi = true) : pairsDigest (pairsIn l lo hi) = (dsum (l.drop (place lo l)) - (if hi.toList = [] then 0 else dsum (l.drop (place hi l)))) % 99991 := by
  rw [pairsDigest_ok (pairsIn_ok h1 h2), pairsIn_cut h1 h2]
  by_cases e : hi.toList = []
  · rw [if_pos e, if_pos e, List.take_length]; congr 1; omega
  · have hm := place_le_iv h2 e l
    have hs : l.drop (place lo l) = (l.take (place hi l)).drop (place lo l) ++ l.drop (place hi l) := by
      have h3 := List.take_append_drop (place hi l) l
      have h4 : (l.take (place hi l) ++ l.drop (place hi l)).drop (place lo l) = (l.take (place hi l)).drop (place lo l) ++ l.drop (place hi l) := by
        rw [List.drop_append_of_le_length (by rw [List.length_take]; have := place_le hi l; omega)]
      rw [h3] at h4; exact h4
    rw [if_neg e, if_neg e, hs, dsum_append]; congr 1; omega
theorem sum_chain (l : List S29) (h1 : pairsOk l = true) : ∀ (vs : List S83) (v : S83), ivOk v.f0 v.f1 = true → chainFrom v vs = true → (lastIv v vs).f1.toList = [] → sumI (pdigs l (v :: vs)) % 99991 = dsum (l.drop (place v.f0 l)) % 99991
  | [], v, hi, hc, hl => by
    have hl : v.f1.toList = [] := hl
    have := digest_cut h1 hi
    rw [if_pos hl] at this
    simp only [pdigs, List.map_cons, List.map_nil, sumI, this]
    omega
  | w :: ws, v, hi, hc, hl => by
    simp only [chainFrom, Bool.and_eq_true] at hc
    have hj := hc.1
    simp only [joinOk, Bool.and_eq_true, Bool.not_eq_true', decide_eq_true_eq, decide_eq_false_iff_not] at hj
    have ih := sum_chain l h1 ws w hj.1.1.2 hc.2 hl
    have := digest_cut h1 hi
    rw [if_neg hj.1.2, (toList_eq.1 hj.2 : v.f1 = w.f0)] at this
    have e : sumI (pdigs l (v :: w :: ws)) = pairsDigest (pairsIn l v.f0 v.f1) + sumI (pdigs l (w :: ws)) := rfl
    rw [e, (toList_eq.1 hj.2 : v.f1 = w.f0), this]
    omega
theorem sum_parts (l : List S29) (ps : List S83) (h1 : pairsOk l = true) (h2 : partOk ps = true) : sumI (pdigs l ps) % 99991 = dsum l % 99991 := by
  cases ps with
  | nil => cases h2
  | cons v vs =>
    have hr := rd_lastIv vs v []
    simp only [List.nil_append] at hr
    simp only [partOk, Bool.and_eq_true, decide_eq_true_eq, hr] at h2
    rw [sum_chain l h1 vs v h2.1.1.1.2 h2.2 h2.1.2, place_nil h2.1.1.2, List.drop_zero]
theorem pdigs_range (l : List S29) (h1 : pairsOk l = true) (ps : List S83) : ∀ y ∈ pdigs l ps, -1 ≤ y ∧ y ≤ 99990 := by
  intro y hy
  simp only [pdigs, List.mem_map] at hy
  obtain ⟨v, _, rfl⟩ := hy
  unfold pairsDigest
  split <;> omega
theorem chain_mem : ∀ (vs : List S83) (v : S83), chainFrom v vs = true → ∀ w ∈ vs, ivOk w.f0 w.f1 = true
  | [], v, _, w, hw => by cases hw
  | x :: xs, v, h, w, hw => by
    simp only [chainFrom, joinOk, Bool.and_eq_true] at h
    rcases List.mem_cons.1 hw with rfl | hw
    · exact h.1.1.1.2
    · exact chain_mem xs x h.2 w hw
theorem partOk_mem {ps : List S83} (h : partOk ps = true) : ∀ w ∈ ps, ivOk w.f0 w.f1 = true := by
  cases ps with
  | nil => cases h
  | cons v vs =>
    simp only [partOk, Bool.and_eq_true, decide_eq_true_eq] at h
    intro w hw
    rcases List.mem_cons.1 hw with rfl | hw
    · exact h.1.1.1.2
    · exact chain_mem vs v h.2 w hw

/-! #### impl_pairmap -/
theorem cmp_Compare_f (a b : ByteArray) : cmp_Compare_string.f a b = some (if klt a b = true then -1 else if klt b a = true then 1 else 0) := by
  have h : ∀ s : ByteArray, cmp_isNaN_string.f s = some false := fun s => by unfold cmp_isNaN_string.f; simp
  unfold cmp_Compare_string.f klt
  rw [h, h]
  simp only [Option.bind_some, Bool.false_eq_true, if_false]
  split
  · rfl
  · split <;> rfl
theorem impl_pairPlace1_f (a : ByteArray) (v : Int) (b : ByteArray) : impl_pairPlace_1.f a v b = some (if klt a b = true then -1 else if klt b a = true then 1 else 0) := by
  unfold impl_pairPlace_1.f
  rw [cmp_Compare_f]; rfl
theorem klt_trans {a b c : ByteArray} (h : klt a b = true) (h2 : klt b c = true) : klt a c = true := bless_trans _ _ _ h h2
theorem klt_irrefl (a : ByteArray) : klt a a = false := bless_irrefl _
theorem klt_total {a b : ByteArray} (h : klt a b = false) (h2 : klt b a = false) : a = b := toList_eq.1 (bless_total _ _ h h2)
/-- All keys of a list that ascend from p on are greater than p's. -/
theorem pairsFrom_all : ∀ (l : List S29) (p : ByteArray), pairsFrom (some p) l = true → ∀ y ∈ l, klt p y.f0 = true
  | [], p, _, y, hy => by cases hy
  | x :: xs, p, h, y, hy => by
    simp only [pairsFrom, Bool.and_eq_true] at h
    have hx : klt p x.f0 = true := h.1.2
    rcases List.mem_cons.1 hy with rfl | hy
    · exact hx
    · exact klt_trans hx (pairsFrom_all xs x.f0 h.2 y hy)
/-- In a list that ascends: before the place keys are less, behind it they are not. -/
theorem place_split (k : ByteArray) : ∀ (l : List S29) (p : Option ByteArray), pairsFrom p l = true → ∀ (i : Nat) (h : i < l.length), klt (l[i]).f0 k = decide (i < place k l)
  | [], p, _, i, h => by simp at h
  | x :: xs, p, hp, i, h => by
    simp only [pairsFrom, Bool.and_eq_true] at hp
    have ha := pairsFrom_all xs x.f0 hp.2
    by_cases e : klt x.f0 k = true
    · simp only [place, if_pos e]
      cases i with
      | zero => simpa using e
      | succ i =>
        have := place_split k xs _ hp.2 i (by simpa using h)
        simp only [List.getElem_cons_succ, this, decide_eq_decide]
        omega
    · simp only [place, if_neg e]
      cases i with
      | zero => simpa using e
      | succ i =>
        simp only [List.getElem_cons_succ, Nat.not_lt_zero, decide_false]
        cases hb : klt (xs[i]'(by simpa using h)).f0 k with
        | false => rfl
        | true => exact absurd (klt_trans (ha _ (List.getElem_mem _)) hb) e
theorem rd_getElem (l : List S29) (i : Int) (h : i.toNat < l.length) : rd_T29 l i = l[i.toNat] := by
  unfold rd_T29
  rw [List.getD_eq_getElem?_getD, List.getElem?_eq_getElem h]; rfl
theorem half_ (a b : Int) (ha : 0 ≤ a) (hb : 0 ≤ b) (ha2 : a ≤ 1000000) (hb2 : b ≤ 1000000) : wrap64 (IntKind.u64.wrap (wrap64 (a + b)) / 2) = (a + b) / 2 := by
  have e : IntKind.u64.wrap (a + b) = a + b := by
    simp only [IntKind.wrap, IntKind.signed, IntKind.bits, Bool.false_and, Bool.false_eq_true, if_false]
    omega
  rw [w64 (n := a + b) (by omega) (by omega), e, w64 (by omega) (by omega)]
theorem impl_search_l0 (xs : List S29) (k : ByteArray) (hok : pairsOk xs = true) : ∀ (n : Nat) (i j : Int), j - i ≤ n → 0 ≤ i → i ≤ (place k xs : Int) → (place k xs : Int) ≤ j → j ≤ xs.length →
    impl_Pair_string.l0L xs k (xs.length : Int) i j = some ((place k xs : Int), hit k xs)
  | n, i, j, hn, h0, hi, hj, hl => by
    have h48 := pairsOk_le hok
    have hp := place_le k xs
    rw [impl_Pair_string.l0L_eq]
    by_cases e : i < j
    · match n with
      | 0 => omega
      | n + 1 =>
        have hr := rd_getElem xs ((i + j) / 2) (by omega)
        have hs := place_split k xs none (by simp only [pairsOk, Bool.and_eq_true, decide_eq_true_eq] at hok; exact hok.2) ((i + j) / 2).toNat (by omega)
        rw [if_pos e, half_ i j (by omega) (by omega) (by omega) (by omega), if_pos (by omega), if_pos (by omega), impl_pairPlace1_f, Option.bind_some, hr, hs]
        by_cases c : ((i + j) / 2).toNat < place k xs
        · rw [decide_eq_true c, if_pos rfl, if_pos (by omega), w64 (by omega) (by omega)]
          exact impl_search_l0 xs k hok n _ j (by omega) (by omega) (by omega) hj hl
        · rw [decide_eq_false c, if_neg (show ¬ (false = true) by simp)]
          have c2 : ¬ (if klt k (xs[((i + j) / 2).toNat]'(by omega)).f0 = true then (1 : Int) else 0) < 0 := by split <;> omega
          rw [if_neg c2]
          exact impl_search_l0 xs k hok n i _ (by omega) h0 hi (by omega) (by omega)
    · have hij : i = (place k xs : Int) := by omega
      rw [if_neg e, hij]
      by_cases c : (place k xs : Int) < (xs.length : Int)
      · have hr := rd_getElem xs (place k xs : Int) (by omega)
        have hs := place_split k xs none (by simp only [pairsOk, Bool.and_eq_true, decide_eq_true_eq] at hok; exact hok.2) (place k xs) (by omega)
        rw [if_pos c, if_pos (by omega), if_pos c, impl_pairPlace1_f, Option.bind_some]
        have hrd : rd_T29 xs (place k xs : Int) = xs[place k xs]'(by omega) := by rw [hr]; rfl
        rw [hrd, hs, decide_eq_false (by omega), if_neg (show ¬ (false = true) by simp)]
        have : hit k xs = ((if klt k (xs[place k xs]'(by omega)).f0 = true then (1 : Int) else 0) == 0) := by
          unfold hit
          rw [hrd]
          cases hb : klt k (xs[place k xs]'(by omega)).f0 with
          | true =>
            rw [if_pos rfl, decide_eq_false]
            · rfl
            · rintro ⟨_, he⟩; rw [he, klt_irrefl] at hb; cases hb
          | false =>
            rw [if_neg (by simp), decide_eq_true ⟨by omega, klt_total (by rw [hs]; simp) hb⟩]; rfl
        rw [this]
      · rw [if_neg c]
        have : hit k xs = false := by unfold hit; rw [decide_eq_false (fun h => c (by omega))]
        rw [this]
theorem impl_pairPlace_f (xs : List S29) (k : ByteArray) (hok : pairsOk xs = true) : impl_pairPlace.fL xs k = some ((place k xs : Int), hit k xs) := by
  have hp := place_le k xs
  rw [impl_pairPlace.fL_eq, impl_Pair_string.fL_eq, impl_search_l0 xs k hok xs.length 0 (xs.length : Int) (by omega) (by omega) (by omega) (by omega) (by omega), Option.bind_some]

/-! #### impl_copyPairs -/
theorem impl_copyOf_f (xs : List S29) (hx : xs.length ≤ 1000000000000) : impl_Pair.f xs = some xs := by
  unfold impl_Pair.f
  rw [if_pos (by simp; omega)]; simp

/-! #### impl_PairsIn -/
theorem impl_PairsIn_f (xs : List S29) (lo hi : ByteArray) : impl_PairsIn.fL xs lo hi = some (pairsIn xs lo hi) := by
  have hj : impl_PairsIn.j0L xs true lo hi = some [] := by rw [impl_PairsIn.j0L_eq, if_pos rfl]
  rw [impl_PairsIn.fL_eq, impl_PairsValid_f, Option.bind_some]
  by_cases h1 : pairsOk xs = true
  · have h48 := pairsOk_le h1
    have p1 := place_le lo xs
    have p2 := place_le hi xs
    rw [if_pos h1, impl_IntervalValid_f, Option.bind_some]
    by_cases h2 : ivOk lo hi = true
    · rw [pairsIn_cut h1 h2, h2, Bool.not_true, impl_PairsIn.j0L_eq, if_neg (by simp), impl_pairPlace_f xs lo h1, Option.bind_some]
      dsimp only
      by_cases e : hi.toList = []
      · rw [if_pos e, if_pos e, if_pos (by omega), if_pos (by omega), if_pos (by omega), Int.toNat_natCast, Int.toNat_natCast, impl_copyOf_f _ (by simp; omega), Option.bind_some]
      · have hm := place_le_iv h2 e xs
        rw [if_neg e, if_neg e, impl_pairPlace_f xs hi h1, Option.bind_some]
        dsimp only
        rw [if_pos (by omega), if_pos (by omega), if_pos (by omega), Int.toNat_natCast, Int.toNat_natCast, impl_copyOf_f _ (by simp; omega), Option.bind_some]
    · rw [show ivOk lo hi = false by simpa using h2, Bool.not_false, hj]; unfold pairsIn; rw [if_neg (fun h => h2 h.2)]
  · rw [if_neg h1, hj]; unfold pairsIn; rw [if_neg (fun h => h1 h.1)]

/-! #### impl_PartDigests -/
theorem impl_PartDigests_l0 (l : List S29) (ps : List S83) (hx : ps.length ≤ 6) : ∀ (ys : List S83) (out : List Int) (i : Int), 0 ≤ i → i ≤ ps.length → (out.length : Int) ≤ i → ps.drop i.toNat = ys → impl_PartDigests.l0L l out ps (ps.length : Int) i = some (out ++ pdigs l ys)
  | [], out, i, h0, h1, ho, hd => by
    have := drop_nil h0 h1 hd
    rw [impl_PartDigests.l0L_eq, if_neg (by omega)]; simp [pdigs]
  | y :: ys, out, i, h0, h1, ho, hd => by
    obtain ⟨hr0, hl, hd'⟩ := getD_iv (d := z83) h0 hd
    have hr : rd_T83 ps i = y := hr0
    rw [impl_PartDigests.l0L_eq, if_pos hl, if_pos h0, if_pos hl, hr, impl_PairsIn_f, Option.bind_some, impl_PairsDigest_f, Option.bind_some, if_pos (by omega), w64 (by omega) (by omega), impl_PartDigests_l0 l ps hx ys _ (i + 1) (by omega) (by omega) (by simp; omega) hd']
    simp [pdigs]
theorem impl_PartDigests_f (l : List S29) (ps : List S83) : impl_PartDigests.fL l ps = some (partDigests l ps) := by
  have hj : impl_PartDigests.j0L l ps true = some [] := by rw [impl_PartDigests.j0L_eq, if_pos rfl]
  rw [impl_PartDigests.fL_eq, impl_PairsValid_f, Option.bind_some]
  unfold partDigests
  by_cases h1 : pairsOk l = true
  · rw [if_pos h1, impl_PartitionValid_f, Option.bind_some]
    by_cases h2 : partOk ps = true
    · rw [if_pos ⟨h1, h2⟩, h2, Bool.not_true, impl_PartDigests.j0L_eq, if_neg (by simp), impl_PartDigests_l0 l ps (partOk_len h2).2 ps [] 0 (by omega) (by omega) (by simp) (by simp), List.nil_append]
    · rw [show partOk ps = false by simpa using h2, Bool.not_false, hj, if_neg (fun h => by simp at h)]
  · rw [if_neg h1, hj, if_neg (fun h => h1 h.1)]

/-! #### impl_DiffParts -/
theorem impl_DiffParts_l0 (xs ys : List Int) (n : Nat) (hx : xs.length = n) (hy : ys.length = n) (hn : n ≤ 6) : ∀ (cs bs' out : List Int) (i : Int), 0 ≤ i → i ≤ n → (out.length : Int) ≤ i → xs.drop i.toNat = cs → ys.drop i.toNat = bs' → impl_DiffParts.l0L xs ys out (n : Int) i = some (out ++ diffAt i cs bs')
  | [], bs', out, i, h0, h1, ho, hd, hd2 => by
    have := drop_nil h0 (by omega) hd
    rw [impl_DiffParts.l0L_eq, if_neg (by omega)]; simp [diffAt]
  | a :: cs, [], out, i, h0, h1, ho, hd, hd2 => by
    have := drop_nil h0 (by omega) hd2
    obtain ⟨_, hl, _⟩ := rd_drop h0 hd
    omega
  | a :: cs, b :: bs', out, i, h0, h1, ho, hd, hd2 => by
    obtain ⟨ha, hl, hd'⟩ := rd_drop h0 hd
    obtain ⟨hb, hl2, hd2'⟩ := rd_drop h0 hd2
    rw [impl_DiffParts.l0L_eq, if_pos (by omega), if_pos h0, if_pos hl, if_pos hl2, ha, hb, w64 (by omega) (by omega)]
    simp only [diffAt]
    by_cases e : a = b
    · rw [if_pos e, if_pos e, impl_DiffParts_l0 xs ys n hx hy hn cs bs' out (i + 1) (by omega) (by omega) (by omega) hd' hd2']
    · rw [if_neg e, if_neg e, if_pos (by omega), impl_DiffParts_l0 xs ys n hx hy hn cs bs' _ (i + 1) (by omega) (by omega) (by simp; omega) hd' hd2']; simp
theorem diffAt_nil (xs : List Int) (i : Int) : diffAt i xs [] = [] := by cases xs <;> rfl
theorem diffAt_nil' (xs : List Int) (i : Int) : diffAt i [] xs = [] := by cases xs <;> rfl
theorem impl_DiffParts_f (a b : List S29) (ps : List S83) : impl_DiffParts.fL a b ps = some (diffParts a b ps) := by
  have hj : impl_DiffParts.j0L a b ps true = some [] := by rw [impl_DiffParts.j0L_eq, if_pos rfl]
  rw [impl_DiffParts.fL_eq, impl_PairsValid_f, Option.bind_some]
  unfold diffParts
  by_cases h1 : pairsOk a = true
  · rw [if_pos h1, impl_PairsValid_f, Option.bind_some]
    by_cases h2 : pairsOk b = true
    · rw [if_pos h2, impl_PartitionValid_f, Option.bind_some]
      by_cases h3 : partOk ps = true
      · have e1 : (partDigests a ps).length = ps.length := by unfold partDigests; rw [if_pos ⟨h1, h3⟩]; simp [pdigs]
        have e2 : (partDigests b ps).length = ps.length := by unfold partDigests; rw [if_pos ⟨h2, h3⟩]; simp [pdigs]
        rw [h3, Bool.not_true, impl_DiffParts.j0L_eq, if_neg (by simp), impl_PartDigests_f, Option.bind_some, impl_PartDigests_f, Option.bind_some, impl_DiffParts_l0 _ _ ps.length e1 e2 (partOk_len h3).2 _ _ [] 0 (by omega) (by omega) (by simp) rfl rfl]; simp
      · have : partDigests a ps = [] := by unfold partDigests; rw [if_neg (fun h => h3 h.2)]
        rw [show partOk ps = false by simpa using h3, Bool.not_false, hj, this, diffAt_nil']
    · have : partDigests b ps = [] := by unfold partDigests; rw [if_neg (fun h => h2 h.1)]
      rw [if_neg h2, hj, this, diffAt_nil]
  · have : partDigests a ps = [] := by unfold partDigests; rw [if_neg (fun h => h1 h.1)]
    rw [if_neg h1, hj, this, diffAt_nil']

/-! #### spec_Interval -/
theorem less_a (hi : ByteArray) (h : keyOk (bs hi) = true) : (Op.bytesLess [] hi.toList && (hi.toList != [97])) = Op.bytesLess [97] hi.toList := by
  have hl : letters (bs hi) = true := keyOk_letters h
  have hn := (keyOk_len h).1
  have hb : bs hi = hi.toList.map fun b => (b.toNat : Int) := by rw [toList_data]; rfl
  rw [hb] at hl hn
  cases e : hi.toList with
  | nil => rw [e] at hn; simp at hn
  | cons b l =>
    rw [e] at hl
    obtain ⟨h1, _⟩ := letters_cons hl
    have h1 : 97 ≤ (b.toNat : Int) ∧ (b.toNat : Int) ≤ 122 := h1
    simp only [Op.bytesLess]
    by_cases hb97 : b = 97
    · subst hb97
      cases l with
      | nil => simp [Op.bytesLess]
      | cons c l => simp [Op.bytesLess]
    · have hlt : (97 : UInt8) < b := by
        rw [UInt8.lt_iff_toNat_lt]
        have : b.toNat ≠ (97 : UInt8).toNat := fun e => hb97 (UInt8.toNat_inj.1 e)
        have e97 : (97 : UInt8).toNat = 97 := rfl
        omega
      simp [hlt, hb97]
theorem spec_IntervalValid_f (lo hi : ByteArray) : spec_IntervalValid.fL lo hi = some (ivOk lo hi) := by
  rw [spec_IntervalValid.fL_eq, spec_KeyValid_f, spec_KeyValid_f]
  simp only [Option.bind_some]
  unfold ivOk low
  by_cases h1 : lo.toList = []
  · rw [if_pos h1, if_pos h1, decide_eq_true h1]
    by_cases h2 : hi.toList = []
    · rw [if_pos h2, decide_eq_true h2]; rfl
    · rw [if_neg h2, decide_eq_false h2]
      cases hk : keyOk (bs hi) with
      | false => simp
      | true =>
        have e97 : (⟨#[97]⟩ : ByteArray).toList = [97] := by rw [toList_data]
        rw [h1, e97, ← less_a hi hk]
        cases Op.bytesLess [] hi.toList <;> simp
  · rw [if_neg h1, if_neg h1, decide_eq_false h1]
    by_cases h2 : hi.toList = []
    · rw [if_pos h2, decide_eq_true h2]
      cases keyOk (bs lo) <;> simp
    · rw [if_neg h2, decide_eq_false h2]
      cases keyOk (bs lo) <;> cases keyOk (bs hi) <;> cases Op.bytesLess lo.toList hi.toList <;> simp
theorem spec_IntervalJoin_f (a b c d : ByteArray) : spec_IntervalJoin.fL a b c d = some (if joinOk a b c d = true then (a, d, true) else ((⟨#[]⟩ : ByteArray), (⟨#[]⟩ : ByteArray), false)) := by
  rw [spec_IntervalJoin.fL_eq, spec_IntervalValid_f, spec_IntervalValid_f]
  simp only [Option.bind_some]
  unfold joinOk
  cases ivOk a b with
  | false => simp
  | true =>
    cases ivOk c d with
    | false => simp
    | true =>
      by_cases h1 : b.toList = []
      · rw [decide_eq_true h1]; simp [h1]
      · rw [decide_eq_false h1]
        by_cases h2 : b.toList = c.toList
        · rw [decide_eq_true h2]
          rw [if_pos rfl, if_pos rfl, if_neg h1, if_pos h2]; simp
        · rw [decide_eq_false h2]
          rw [if_pos rfl, if_pos rfl, if_neg h1, if_neg h2]; simp

/-! #### spec_PairsIn -/
theorem eta_pair (y : S29) : (⟨y.f0, y.f1⟩ : S29) = y := rfl
theorem spec_IntervalHas_f (lo hi k : ByteArray) (h1 : ivOk lo hi = true) (h2 : keyOk (bs k) = true) : spec_IntervalHas.fL lo hi k = some (inIv lo hi k) := by
  rw [spec_IntervalHas.fL_eq, spec_IntervalValid_f, Option.bind_some, if_pos h1, spec_KeyValid_f, Option.bind_some, if_pos h2]
  unfold inIv klt
  cases Op.bytesLess k.toList lo.toList with
  | true => simp
  | false =>
    rw [if_neg (by simp)]
    by_cases e : hi.toList = []
    · rw [if_pos e, decide_eq_true e]; rfl
    · rw [if_neg e, decide_eq_false e]; simp
theorem spec_PairScan_l0 (xs : List S29) (lo hi : ByteArray) (hx : xs.length ≤ 48) (h1 : ivOk lo hi = true) : ∀ (ys : List S29) (out : List S29) (i : Int) (p : Option ByteArray), 0 ≤ i → i ≤ xs.length → (out.length : Int) ≤ i → xs.drop i.toNat = ys → pairsFrom p ys = true → spec_PairScan.l0L xs 48 out i lo hi = some (out ++ ys.filter (fun y => inIv lo hi y.f0))
  | [], out, i, p, h0, hi1, ho, hd, hp => by
    have := drop_nil h0 hi1 hd
    rw [spec_PairScan.l0L_eq, if_neg (by omega), spec_PairScan.j2L_eq, if_neg (by simp)]; simp
  | y :: ys, out, i, p, h0, hi1, ho, hd, hp => by
    obtain ⟨hr0, hl, hd'⟩ := getD_cons (d := z29) h0 hd
    have hr : rd_T29 xs i = y := hr0
    simp only [pairsFrom, Bool.and_eq_true] at hp
    have hk : keyOk (bs y.f0) = true := by
      have := hp.1.1; simp only [pairItem, Bool.and_eq_true] at this; exact this.1
    rw [spec_PairScan.l0L_eq, if_pos hl, decide_eq_true (by omega), spec_PairScan.j2L_eq, if_pos rfl, if_pos h0, if_pos hl, hr, spec_IntervalHas_f lo hi y.f0 h1 hk, Option.bind_some, w64 (by omega) (by omega), List.filter_cons, eta_pair]
    cases e : inIv lo hi y.f0 with
    | true =>
      rw [if_pos rfl, if_pos (by omega), if_pos (by rfl), spec_PairScan_l0 xs lo hi hx h1 ys (out ++ [y]) (i + 1) _ (by omega) (by omega) (by simp; omega) hd' hp.2]; simp
    | false =>
      rw [if_neg (by simp), if_neg (by simp), spec_PairScan_l0 xs lo hi hx h1 ys out (i + 1) _ (by omega) (by omega) (by omega) hd' hp.2]
theorem spec_PairsIn_f (xs : List S29) (lo hi : ByteArray) : spec_PairsIn.fL xs lo hi = some (pairsIn xs lo hi) := by
  have hj : spec_PairScan.j0L xs 48 [] true lo hi = some [] := by rw [spec_PairScan.j0L_eq, if_pos rfl]
  rw [spec_PairsIn.fL_eq, spec_PairScan.fL_eq, Option.bind_some, spec_PairsValid_f, Option.bind_some]
  unfold pairsIn
  by_cases h1 : pairsOk xs = true
  · have h48 := pairsOk_le h1
    have hf : pairsFrom none xs = true := by simp only [pairsOk, Bool.and_eq_true, decide_eq_true_eq] at h1; exact h1.2
    rw [if_pos h1, spec_IntervalValid_f, Option.bind_some]
    by_cases h2 : ivOk lo hi = true
    · rw [if_pos h2, if_pos ⟨h1, h2⟩, spec_l1In_f, Option.bind_some, decide_eq_true (by omega), Bool.not_true, spec_PairScan.j0L_eq, if_neg (by simp), spec_PairScan_l0 xs lo hi h48 h2 xs [] 0 none (by omega) (by omega) (by simp) (by simp) hf, Option.bind_some, List.nil_append]
    · rw [if_neg h2, hj, if_neg (fun h => h2 h.2)]; rfl
  · rw [if_neg h1, hj, if_neg (fun h => h1 h.1)]; rfl

/-! #### spec_Partition -/
theorem spec_PartitionValid_l0 (xs : List S83) (hx : xs.length ≤ 6) : ∀ (ys : List S83) (i : Int), 1 ≤ i → i ≤ xs.length → xs.drop i.toNat = ys → spec_PartitionValid.l0L xs i = some (chainFrom (rd_T83 xs (i - 1)) ys)
  | [], i, h0, h1, hd => by
    have := drop_nil (by omega) h1 hd
    rw [spec_PartitionValid.l0L_eq, if_neg (by omega)]; rfl
  | y :: ys, i, h0, h1, hd => by
    obtain ⟨hr0, hl, hd'⟩ := getD_iv (d := z83) (by omega) hd
    have hr : rd_T83 xs i = y := hr0
    have ih := spec_PartitionValid_l0 xs hx ys (i + 1) (by omega) (by omega) hd'
    rw [show i + 1 - 1 = i by omega, hr] at ih
    rw [spec_PartitionValid.l0L_eq, if_pos hl, w64 (n := i - 1) (by omega) (by omega), w64 (n := i + 1) (by omega) (by omega), if_pos (by omega), if_pos (by omega), if_pos (by omega), hr, spec_IntervalJoin_f, Option.bind_some, ih]
    simp only [chainFrom]
    cases joinOk (rd_T83 xs (i - 1)).f0 (rd_T83 xs (i - 1)).f1 y.f0 y.f1 <;> simp
theorem spec_PartitionValid_f (xs : List S83) : spec_PartitionValid.fL xs = some (partOk xs) := by
  have jt : spec_PartitionValid.j0L xs true = some false := by rw [spec_PartitionValid.j0L_eq, if_pos rfl]
  rw [spec_PartitionValid.fL_eq, jt, spec_l1In_f, Option.bind_some]
  unfold partOk
  cases xs with
  | nil => rfl
  | cons v vs =>
    have hlen : ((v :: vs).length : Int) = (vs.length : Int) + 1 := by simp
    have hv : rd_T83 (v :: vs) 0 = v := rfl
    by_cases h6 : ((v :: vs).length : Int) > 6
    · rw [if_neg (by simp only [decide_eq_true_eq]; omega)]
      dsimp only
      rw [decide_eq_false (by omega)]; simp
    · rw [if_pos (by simp only [decide_eq_true_eq]; omega), if_pos (by omega), hv, spec_IntervalValid_f, Option.bind_some]
      dsimp only
      rw [decide_eq_true (p := (v :: vs).length ≤ 6) (by omega)]
      cases hi : ivOk v.f0 v.f1 with
      | false => simp
      | true =>
        by_cases h1 : v.f0.toList = []
        · rw [if_pos rfl, if_pos h1, decide_eq_true h1, w64 (by omega) (by omega), if_pos (by omega), if_pos (by omega), bne_nilB]
          by_cases h2 : (rd_T83 (v :: vs) (((v :: vs).length : Int) - 1)).f1.toList = []
          · rw [decide_eq_true h2, Bool.not_true, spec_PartitionValid.j0L_eq, if_neg (by simp), spec_PartitionValid_l0 (v :: vs) (by omega) vs 1 (by omega) (by omega) (by simp)]
            rw [show (1 : Int) - 1 = 0 by omega, hv]; simp
          · rw [decide_eq_false h2, Bool.not_false, jt]; simp
        · rw [if_pos rfl, if_neg h1, decide_eq_false h1]; simp

/-! #### spec_PartDigests -/
theorem spec_PartDigests_l0 (l : List S29) (ps : List S83) (hx : ps.length ≤ 6) : ∀ (ys : List S83) (out : List Int) (i : Int), 0 ≤ i → i ≤ ps.length → (out.length : Int) ≤ i → ps.drop i.toNat = ys → spec_PartDigests.l0L l ps out i = some (out ++ pdigs l ys)
  | [], out, i, h0, h1, ho, hd => by
    have := drop_nil h0 h1 hd
    rw [spec_PartDigests.l0L_eq, if_neg (by omega)]; simp [pdigs]
  | y :: ys, out, i, h0, h1, ho, hd => by
    obtain ⟨hr0, hl, hd'⟩ := getD_iv (d := z83) h0 hd
    have hr : rd_T83 ps i = y := hr0
    rw [spec_PartDigests.l0L_eq, if_pos hl, if_pos h0, hr, spec_PairsIn_f, Option.bind_some, spec_PairsDigest_f, Option.bind_some, if_pos (by omega), w64 (by omega) (by omega), spec_PartDigests_l0 l ps hx ys _ (i + 1) (by omega) (by omega) (by simp; omega) hd']
    simp [pdigs]
theorem spec_PartDigests_f (l : List S29) (ps : List S83) : spec_PartDigests.fL l ps = some (partDigests l ps) := by
  have hj : spec_PartDigests.j0L l ps [] true = some [] := by rw [spec_PartDigests.j0L_eq, if_pos rfl]
  rw [spec_PartDigests.fL_eq, Option.bind_some, spec_PairsValid_f, Option.bind_some]
  unfold partDigests
  by_cases h1 : pairsOk l = true
  · rw [if_pos h1, spec_PartitionValid_f, Option.bind_some]
    by_cases h2 : partOk ps = true
    · rw [if_pos ⟨h1, h2⟩, h2, Bool.not_true, spec_PartDigests.j0L_eq, if_neg (by simp), spec_PartDigests_l0 l ps (partOk_len h2).2 ps [] 0 (by omega) (by omega) (by simp) (by simp), List.nil_append]
    · rw [show partOk ps = false by simpa using h2, Bool.not_false, hj, if_neg (fun h => by simp at h)]
  · rw [if_neg h1, hj, if_neg (fun h => h1 h.1)]

/-! #### spec_DiffParts -/
theorem spec_DiffParts_l0 (xs ys : List Int) (hx : xs.length ≤ 6) : ∀ (cs bs' out : List Int) (i : Int), 0 ≤ i → i ≤ xs.length → i ≤ ys.length → (out.length : Int) ≤ i → xs.drop i.toNat = cs → ys.drop i.toNat = bs' → spec_DiffParts.l0L out xs ys i = some (out ++ diffAt i cs bs')
  | [], bs', out, i, h0, h1, h2, ho, hd, hd2 => by
    have := drop_nil h0 h1 hd
    rw [spec_DiffParts.l0L_eq, if_neg (by omega), spec_DiffParts.j1L_eq, if_neg (by simp)]; simp [diffAt]
  | a :: cs, [], out, i, h0, h1, h2, ho, hd, hd2 => by
    have := drop_nil h0 h2 hd2
    obtain ⟨_, hl, _⟩ := rd_drop h0 hd
    rw [spec_DiffParts.l0L_eq, if_pos (by omega), decide_eq_false (by omega), spec_DiffParts.j1L_eq, if_neg (by simp)]; simp [diffAt]
  | a :: cs, b :: bs', out, i, h0, h1, h2, ho, hd, hd2 => by
    obtain ⟨ha, hl, hd'⟩ := rd_drop h0 hd
    obtain ⟨hb, hl2, hd2'⟩ := rd_drop h0 hd2
    rw [spec_DiffParts.l0L_eq, if_pos hl, decide_eq_true hl2, spec_DiffParts.j1L_eq, if_pos rfl, if_pos h0, if_pos hl, if_pos hl2, ha, hb, w64 (by omega) (by omega)]
    simp only [diffAt]
    by_cases e : a = b
    · rw [if_pos e, if_pos e, spec_DiffParts_l0 xs ys hx cs bs' out (i + 1) (by omega) (by omega) (by omega) (by omega) hd' hd2']
    · rw [if_neg e, if_neg e, if_pos (by omega), spec_DiffParts_l0 xs ys hx cs bs' _ (i + 1) (by omega) (by omega) (by omega) (by simp; omega) hd' hd2']; simp
theorem spec_DiffParts_f (a b : List S29) (ps : List S83) : spec_DiffParts.fL a b ps = some (diffParts a b ps) := by
  rw [spec_DiffParts.fL_eq, spec_PartDigests_f, Option.bind_some, spec_PartDigests_f, Option.bind_some, spec_DiffParts_l0 _ _ (partDigests_length a ps) _ _ [] 0 (by omega) (by omega) (by omega) (by simp) rfl rfl]; simp [diffParts]

/-! #### reader -/
theorem spec_l20Open_f (l : List Int) : spec_l20Open.f l = some (l.take 2000, 0) := by
  unfold spec_l20Open.f
  by_cases h : (l.length : Int) > 2000
  · rw [if_pos h, if_pos (by omega)]
  · rw [if_neg h, List.take_of_length_le (by omega)]
/-- The bytes of a code. -/
def Code (b : List Int) : Prop := b.length ≤ 2000 ∧ ∀ x ∈ b, 0 ≤ x ∧ x ≤ 255
theorem Code.take {l : List Int} (h : ∀ x ∈ l, (Lit.int .u8 x).wf = true) : Code (l.take 2000) :=
  ⟨by rw [List.length_take]; omega, fun x hx => wf8 (h x (List.mem_of_mem_take hx))⟩
theorem Code.get {b : List Int} (h : Code b) (i : Int) (hi : i.toNat < b.length) : 0 ≤ rd b i ∧ rd b i ≤ 255 := by
  unfold rd
  rw [List.getD_eq_getElem?_getD, List.getElem?_eq_getElem hi]
  exact h.2 _ (List.getElem_mem hi)
theorem xor_range (a b : Int) (h0 : 0 ≤ a) (h1 : a ≤ 4611686018427387903) (h2 : 0 ≤ b) (h3 : b ≤ 4611686018427387903) : 0 ≤ Go.bits .xor .i64 a b ∧ Go.bits .xor .i64 a b ≤ 4611686018427387903 := by
  obtain ⟨x, rfl⟩ := Int.eq_ofNat_of_zero_le h0
  obtain ⟨y, rfl⟩ := Int.eq_ofNat_of_zero_le h2
  have hx : x ^^^ y < 2 ^ 62 := Nat.xor_lt_two_pow (by omega) (by omega)
  have g1 : (BitVec.ofInt 64 (x : Int)).toNat = x := by
    rw [BitVec.ofInt_natCast, BitVec.toNat_ofNat]; exact Nat.mod_eq_of_lt (by omega)
  have g2 : (BitVec.ofInt 64 (y : Int)).toNat = y := by
    rw [BitVec.ofInt_natCast, BitVec.toNat_ofNat]; exact Nat.mod_eq_of_lt (by omega)
  have e : Go.bits .xor .i64 (x : Int) (y : Int) = ((x ^^^ y : Nat) : Int) := by
    show IntKind.i64.wrap ((BitVec.ofInt 64 (x : Int) ^^^ BitVec.ofInt 64 (y : Int)).toNat : Int) = _
    rw [BitVec.toNat_xor, g1, g2, IntKind.wrap_i64]
    omega
  rw [e]
  omega
theorem tmod_range {a n : Int} (h0 : 0 ≤ a) (hn : 1 ≤ n) : 0 ≤ Int.tmod a n ∧ Int.tmod a n < n := by
  rw [Int.tmod_eq_emod_of_nonneg h0]
  exact ⟨Int.emod_nonneg _ (by omega), Int.emod_lt_of_pos _ (by omega)⟩
theorem pick_ok {b : List Int} (hb : Code b) (p n : Int) (h0 : 0 ≤ p) (h1 : p ≤ 1000000000000) (hn : n ≤ 1000000) :
    ∃ v, spec_l20Rd_pick.fL b p n = some (v, p + 1) ∧ 0 ≤ v ∧ (1 ≤ n → v < n) ∧ (n < 1 → v = 0) := by
  rw [spec_l20Rd_pick.fL_eq, spec_l20Rd_pick.j0L_eq, spec_l20Rd_pick.j0L_eq, w64 (n := p + 1) (by omega) (by omega), w64 (n := p + 1 - 1) (by omega) (by omega), show p + 1 - 1 = p by omega]
  by_cases e : n < 1
  · rw [if_pos e, if_pos rfl]; exact ⟨0, rfl, by omega, fun h => by omega, fun _ => rfl⟩
  · rw [if_neg e]
    by_cases e0 : (b.length : Int) = 0
    · rw [if_pos (by simpa using e0)]; exact ⟨0, rfl, by omega, fun h => by omega, fun _ => rfl⟩
    · rw [if_neg (by simpa using e0)]
      by_cases e1 : p < b.length
      · have hr := hb.get p (by omega)
        rw [if_pos e1, if_pos h0, if_neg (by omega), w64 (n := rd b p) (by omega) (by omega)]
        have := tmod_range hr.1 (n := n) (by omega)
        exact ⟨_, rfl, this.1, fun _ => this.2, fun h => by omega⟩
      · have hl := hb.1
        have t1 := tmod_range h0 (n := (b.length : Int)) (by omega)
        have t2 := tmod_range (a := p * 7 + 3) (by omega) (n := (b.length : Int)) (by omega)
        have r1 := hb.get (Int.tmod p b.length) (by omega)
        have r2 := hb.get (Int.tmod (p * 7 + 3) b.length) (by omega)
        have td : Int.tdiv p b.length = p / b.length := Int.tdiv_eq_ediv_of_nonneg h0
        have d0 : 0 ≤ p / (b.length : Int) := Int.ediv_nonneg h0 (by omega)
        have d1 : p / (b.length : Int) ≤ p := Int.ediv_le_self _ h0
        rw [if_neg e1, if_neg e0, w64 (n := p * 7) (by omega) (by omega), w64 (n := p * 7 + 3) (by omega) (by omega), if_pos t1.1, if_pos t1.2, if_pos t2.1, if_pos t2.2, if_neg (by omega)]
        generalize rd b (Int.tmod p b.length) = A at *
        generalize rd b (Int.tmod (p * 7 + 3) b.length) = B at *
        rw [td]
        generalize p / (b.length : Int) = D at *
        rw [w64 (n := A) (by omega) (by omega), w64 (n := B) (by omega) (by omega), w64 (n := D) (by omega) (by omega), w64 (n := A * 131) (by omega) (by omega), w64 (n := B * 1117) (by omega) (by omega), w64 (n := p * 29) (by omega) (by omega), w64 (n := D * 53) (by omega) (by omega),
          w64 (n := A * 131 + B * 1117) (by omega) (by omega), w64 (n := A * 131 + B * 1117 + p * 29) (by omega) (by omega), w64 (n := A * 131 + B * 1117 + p * 29 + D * 53) (by omega) (by omega)]
        generalize hX : A * 131 + B * 1117 + p * 29 + D * 53 = X
        have q0 : 0 ≤ X := by omega
        have q1 : X ≤ 1000000000000000 := by omega
        have e64 : Int.tdiv X 64 = X / 64 := Int.tdiv_eq_ediv_of_nonneg q0
        rw [e64, w64 (n := X / 64) (by omega) (by omega)]
        have hx := xor_range X (X / 64) q0 (by omega) (by omega) (by omega)
        have := tmod_range hx.1 (n := n) (by omega)
        exact ⟨_, rfl, this.1, fun _ => this.2, fun h => by omega⟩

/-! #### odd -/
theorem odd_ok {b : List Int} (hb : Code b) (p n : Int) (h0 : 0 ≤ p) (h1 : p ≤ 1000000000000) (hn : n ≤ 1000000) :
    ∃ v q, spec_l20Rd_odd.fL b p n = some (v, q) ∧ p ≤ q ∧ q ≤ p + 1 := by
  rw [spec_l20Rd_odd.fL_eq]
  by_cases e : n > 0
  · obtain ⟨v, hv, _⟩ := pick_ok hb p n h0 h1 hn
    rw [if_pos e, hv]
    exact ⟨_, _, rfl, by dsimp only; omega, by dsimp only; omega⟩
  · rw [if_neg e]
    exact ⟨_, _, rfl, by omega, by omega⟩

/-! #### lits -/
theorem rd_mem {xs : List Int} {i : Int} (h0 : 0 ≤ i) (h1 : i < xs.length) : rd xs i ∈ xs := by
  unfold rd
  rw [List.getD_eq_getElem?_getD, List.getElem?_eq_getElem (show i.toNat < xs.length by omega)]
  exact List.getElem_mem _
theorem rdOf_mem {α : Type} {d : α} {xs : List α} {i : Int} (h0 : 0 ≤ i) (h1 : i < xs.length) : rdOf d xs i ∈ xs := by
  unfold rdOf
  rw [List.getD_eq_getElem?_getD, List.getElem?_eq_getElem (show i.toNat < xs.length by omega)]
  exact List.getElem_mem _
theorem strOfNums_len (xs : List Int) : (strOfNums xs).size = xs.length := by simp [strOfNums, ByteArray.size]

/-! #### l20Key -/
theorem l20Key_l0 {b : List Int} (hb : Code b) : ∀ (m : Nat) (s : ByteArray) (n p : Int), n = m → s.size + m ≤ 1000 → 0 ≤ p → p + m ≤ 1000000000 → ∃ r q, spec_l20Key.l0L s n b p = some (r, q) ∧ p ≤ q ∧ q ≤ p + m ∧ r.size ≤ s.size + m
  | 0, s, n, p, h, hs, hp, hp2 => by rw [spec_l20Key.l0L_eq, if_neg (by omega)]; exact ⟨_, _, rfl, by omega, by omega, by omega⟩
  | m + 1, s, n, p, h, hs, hp, hp2 => by
    obtain ⟨v, hv, v0, v1, _⟩ := pick_ok hb p 4 hp (by omega) (by omega)
    rw [spec_l20Key.l0L_eq, if_pos (by omega), hv, Option.bind_some, Option.bind_some, if_pos (by rw [strOfNums_len]; simp; omega), w64 (n := n - 1) (by omega) (by omega)]
    obtain ⟨r, q, hr, q0, q1, hrs⟩ := l20Key_l0 hb m (s ++ strOfNums [(wrap64 (97 + v)) % 256]) (n - 1) (p + 1) (by omega) (by rw [ByteArray.size_append, strOfNums_len]; simp; omega) (by omega) (by omega)
    refine ⟨r, q, hr, by omega, by omega, ?_⟩
    rw [ByteArray.size_append, strOfNums_len] at hrs
    simp at hrs
    omega
theorem l20Key_ok {b : List Int} (hb : Code b) (p n : Int) (hp : 0 ≤ p) (hp2 : p ≤ 100000000) (hn : n ≤ 1000000) : ∃ r q, spec_l20Key.fL b p n = some (r, q) ∧ p ≤ q ∧ q ≤ p + 5 ∧ r.size ≤ 5 := by
  obtain ⟨o, q1, ho, o0, o1⟩ := odd_ok hb p n hp (by omega) hn
  rw [spec_l20Key.fL_eq, ho, Option.bind_some]
  dsimp only
  cases o with
  | true =>
    obtain ⟨v, hv, v0, v1, _⟩ := pick_ok hb q1 6 (by omega) (by omega) (by omega)
    have v1 := v1 (by omega)
    rw [if_pos rfl, Option.bind_some, hv, Option.bind_some]
    dsimp only
    rw [if_pos v0, if_pos (by simp; omega)]
    refine ⟨_, _, rfl, by omega, by omega, ?_⟩
    exact (show ∀ s ∈ ([(⟨#[]⟩ : ByteArray), (⟨#[65]⟩ : ByteArray), (⟨#[97, 49]⟩ : ByteArray), (⟨#[97, 98, 99, 100, 101]⟩ : ByteArray), (⟨#[98, 123]⟩ : ByteArray), (⟨#[97, 32, 98]⟩ : ByteArray)] : List ByteArray), s.size ≤ 5 by decide) _ (rdOf_mem v0 (by simp; omega))
  | false =>
    obtain ⟨v, hv, v0, v1, _⟩ := pick_ok hb q1 12 (by omega) (by omega) (by omega)
    rw [if_neg (by simp), hv, Option.bind_some]
    dsimp only
    by_cases e : v = 11
    · obtain ⟨u, hu, u0, u1, _⟩ := pick_ok hb (q1 + 1) 5 (by omega) (by omega) (by omega)
      have u1 := u1 (by omega)
      rw [if_pos e, Option.bind_some, hu, Option.bind_some]
      dsimp only
      rw [if_pos u0, if_pos (by simp; omega)]
      refine ⟨_, _, rfl, by omega, by omega, ?_⟩
      exact (show ∀ s ∈ ([(⟨#[122, 122, 122, 122]⟩ : ByteArray), (⟨#[122, 122, 122]⟩ : ByteArray), (⟨#[97, 122, 122, 122]⟩ : ByteArray), (⟨#[122]⟩ : ByteArray), (⟨#[97, 97, 97, 97]⟩ : ByteArray)] : List ByteArray), s.size ≤ 5 by decide) _ (rdOf_mem u0 (by simp; omega))
    · obtain ⟨u, hu, u0, u1, _⟩ := pick_ok hb (q1 + 1) 2 (by omega) (by omega) (by omega)
      have u1 := u1 (by omega)
      rw [if_neg e, hu, Option.bind_some]
      dsimp only
      rw [w64 (by omega) (by omega)]
      obtain ⟨r, q, hr, r0, r1, rs⟩ := l20Key_l0 hb (1 + u).toNat (⟨#[]⟩ : ByteArray) (1 + u) (q1 + 1 + 1) (by omega) (by show 0 + _ ≤ 1000; omega) (by omega) (by omega)
      refine ⟨r, q, hr, by omega, by omega, ?_⟩
      have : (⟨#[]⟩ : ByteArray).size = 0 := rfl
      omega

/-! #### l20Value -/
theorem l20Value_ok {b : List Int} (hb : Code b) (p n : Int) (hp : 0 ≤ p) (hp2 : p ≤ 100000000) (hn : n ≤ 1000000) : ∃ r q, spec_l20Value.fL b p n = some (r, q) ∧ p ≤ q ∧ q ≤ p + 3 ∧ -1 ≤ r ∧ r ≤ 1000 := by
  obtain ⟨o, q1, ho, o0, o1⟩ := odd_ok hb p n hp (by omega) hn
  rw [spec_l20Value.fL_eq, ho, Option.bind_some]
  dsimp only
  cases o with
  | true =>
    obtain ⟨v, hv, v0, v1, _⟩ := pick_ok hb q1 2 (by omega) (by omega) (by omega)
    have v1 := v1 (by omega)
    rw [if_pos rfl, Option.bind_some, hv, Option.bind_some]
    dsimp only
    rw [if_pos v0, if_pos (by simp; omega)]
    have := (show ∀ s ∈ ([(-1), 1000] : List Int), -1 ≤ s ∧ s ≤ 1000 by decide) _ (rd_mem v0 (by simp; omega))
    exact ⟨_, _, rfl, by omega, by omega, this.1, this.2⟩
  | false =>
    obtain ⟨v, hv, v0, v1, _⟩ := pick_ok hb q1 20 (by omega) (by omega) (by omega)
    have v1 := v1 (by omega)
    obtain ⟨u, hu, u0, u1, _⟩ := pick_ok hb (q1 + 1) 9 (by omega) (by omega) (by omega)
    have u1 := u1 (by omega)
    have hd : Int.tdiv u 8 = u / 8 := Int.tdiv_eq_ediv_of_nonneg u0
    rw [if_neg (by simp), hv, Option.bind_some]
    dsimp only
    rw [Option.bind_some, hu, Option.bind_some]
    dsimp only
    rw [hd, w64 (n := u / 8) (by omega) (by omega), if_pos (by omega), if_pos (by simp; omega)]
    have hm : rd [v, 999] (u / 8) ∈ [v, 999] := rd_mem (by omega) (by simp; omega)
    have : -1 ≤ rd [v, 999] (u / 8) ∧ rd [v, 999] (u / 8) ≤ 1000 := by
      simp only [List.mem_cons, List.not_mem_nil, or_false] at hm
      rcases hm with e | e <;> rw [e] <;> omega
    exact ⟨_, _, rfl, by omega, by omega, this.1, this.2⟩

/-! #### spec_KeyAt -/
theorem KeyAt_l0 : ∀ (n : Nat) (a : Int) (s : ByteArray) (i : Int), i + n = 4 → 0 ≤ i → 0 ≤ a → a ≤ 1000000 → s.size ≤ i → ∃ r, spec_KeyAt.l0L a s i = some r ∧ r.size ≤ 4
  | 0, a, s, i, hi, h0, ha, ha2, hs => by rw [spec_KeyAt.l0L_eq, if_neg (by omega)]; exact ⟨_, rfl, by omega⟩
  | n + 1, a, s, i, hi, h0, ha, ha2, hs => by
    have hk := kfrom_range (i + 1)
    have hl : ∀ x : Int, (strOfNums [x]).size = 1 := fun x => by rw [strOfNums_len]; rfl
    have ht := tmod_range ha (n := kfrom (i + 1)) (by omega)
    have hle : Int.tmod a (kfrom (i + 1)) ≤ a := by
      rw [Int.tmod_eq_emod_of_nonneg ha] at ht ⊢
      by_cases hlt : a < kfrom (i + 1)
      · rw [Int.emod_eq_of_lt ha hlt]; omega
      · omega
    rw [spec_KeyAt.l0L_eq, if_pos (by omega)]
    simp only [spec_l1Weight_f i h0, Option.bind_some]
    rw [if_neg (by omega), if_pos (by rw [hl]; omega), if_neg (by omega)]
    by_cases e : Int.tmod a (kfrom (i + 1)) = 0
    · rw [if_pos e]; exact ⟨_, rfl, by rw [ByteArray.size_append, hl]; omega⟩
    · rw [if_neg e, w64 (n := i + 1) (by omega) (by omega), w64 (n := Int.tmod a (kfrom (i + 1)) - 1) (by omega) (by omega)]
      exact KeyAt_l0 n _ _ (i + 1) (by omega) (by omega) (by omega) (by omega) (by rw [ByteArray.size_append, hl]; omega)
theorem KeyAt_ok (a : Int) (h1 : a ≤ 1000000) : ∃ s, spec_KeyAt.fL a = some s ∧ s.size ≤ 4 := by
  rw [spec_KeyAt.fL_eq, spec_l1In_f, Option.bind_some]
  by_cases h : 0 ≤ a ∧ a ≤ 475253
  · rw [decide_eq_true h, if_pos rfl]
    exact KeyAt_l0 4 a _ 0 (by omega) (by omega) (by omega) (by omega) (by decide)
  · rw [decide_eq_false h, if_neg (by simp)]
    exact ⟨_, rfl, by decide⟩

/-! #### spec_pairmap -/
theorem spec_l4Place_l0 (xs : List S29) (k : ByteArray) (hx : xs.length ≤ 1000000000000) : ∀ (ys : List S29) (i : Int), 0 ≤ i → i ≤ xs.length → xs.drop i.toNat = ys → spec_l4Place.l0L xs k i = some (i + (place k ys : Int))
  | [], i, h0, h1, hd => by
    have := drop_nil h0 h1 hd
    rw [spec_l4Place.l0L_eq, if_neg (by omega)]; simp [place]
  | y :: ys, i, h0, h1, hd => by
    obtain ⟨hr0, hl, hd'⟩ := getD_cons (d := z29) h0 hd
    have hr : rd_T29 xs i = y := hr0
    rw [spec_l4Place.l0L_eq, if_pos hl, if_pos h0, hr]
    by_cases h : klt y.f0 k = true
    · rw [if_pos (show Op.bytesLess y.f0.toList k.toList = true from h), w64 (by omega) (by omega), spec_l4Place_l0 xs k hx ys (i + 1) (by omega) (by omega) hd']
      simp only [place, if_pos h]
      congr 1; omega
    · rw [if_neg (show ¬ Op.bytesLess y.f0.toList k.toList = true from h)]
      simp only [place, if_neg h]
      congr 1; omega
theorem spec_l4Place_f (xs : List S29) (k : ByteArray) (hx : xs.length ≤ 1000000000000) : spec_l4Place.fL xs k = some (place k xs : Int) := by
  rw [spec_l4Place.fL_eq, spec_l4Place_l0 xs k hx xs 0 (by omega) (by omega) (by simp)]
  congr 1; omega

/-! #### spec_PairPut -/
theorem spec_PairPut_f (xs : List S29) (k : ByteArray) (v : Int) (hx : xs.length ≤ 1000000000000) : spec_PairPut.fL xs k v = some (pairPut xs k v) := by
  have hj : ∀ y : List S29, spec_PairPut.j0L xs k v y true = some (y, false) := fun y => by rw [spec_PairPut.j0L_eq, if_pos rfl]
  rw [spec_PairPut.fL_eq, Option.bind_some, spec_PairsValid_f, Option.bind_some]
  unfold pairPut
  by_cases h1 : pairsOk xs = true
  · rw [if_pos h1, spec_KeyValid_f, Option.bind_some]
    by_cases h2 : keyOk (bs k) = true
    · rw [if_pos h2, spec_l1In_f, Option.bind_some]
      by_cases h3 : 0 ≤ v ∧ v ≤ 999
      · have hp := place_le k xs
        rw [if_pos ⟨h1, h2, h3⟩, decide_eq_true h3, Bool.not_true, spec_PairPut.j0L_eq, if_neg (by simp), spec_l4Place_f xs k hx, Option.bind_some]
        have hj1 : ∀ b : Bool, (hit k xs = b) → spec_PairPut.j1L xs k v [] (place k xs : Int) b = some (if hit k xs = true then (xs.take (place k xs) ++ ⟨k, v⟩ :: xs.drop (place k xs + 1), true) else if 48 ≤ xs.length then (xs, false) else (xs.take (place k xs) ++ ⟨k, v⟩ :: xs.drop (place k xs), true)) := by
          intro b hb
          rw [spec_PairPut.j1L_eq, hb]
          cases b with
          | true =>
            have hl := hit_lt hb
            have hk := hit_key hb
            rw [if_pos rfl, if_pos (by simp; omega), Option.bind_some, if_pos (by omega), if_pos (by simp; omega), if_pos rfl]
            rw [List.nil_append, hk, Int.toNat_natCast, set_split _ _ _ hl]
          | false =>
            rw [if_neg (by simp), if_neg (show ¬ (false = true) by simp)]
            by_cases h4 : 48 ≤ xs.length
            · rw [if_pos (by omega), if_pos (by simp; omega), if_pos h4]; simp
            · have e1 : (([] : List S29) ++ xs.take (place k xs)).length ≤ 1000000000000 := by simp; omega
              have e2 : (([] : List S29) ++ xs.take (place k xs) ++ [(⟨k, v⟩ : S29)]).length ≤ 1000000000000 := by simp; omega
              rw [if_neg (by omega), if_neg h4, if_pos (by omega), if_pos (by omega), Int.toNat_natCast, Option.bind_some, if_pos (by simp; omega), Option.bind_some, if_pos (by omega), Option.bind_some, Option.bind_some, if_pos (by simp; omega)]
              simp
        by_cases e : (place k xs : Int) < (xs.length : Int)
        · rw [if_pos e, if_pos (by omega)]
          refine hj1 _ ?_
          unfold hit
          by_cases e2 : (rd_T29 xs (place k xs : Int)).f0 = k
          · rw [decide_eq_true ⟨by omega, e2⟩, e2]; simp
          · rw [decide_eq_false (fun h => e2 h.2)]
            symm; rw [beq_eq_false_iff_ne]; intro h; exact e2 (toList_eq.1 h)
        · rw [if_neg e]
          refine hj1 _ ?_
          unfold hit
          rw [decide_eq_false (fun h => e (by omega))]
      · rw [decide_eq_false h3, Bool.not_false, hj, if_neg (fun h => h3 h.2.2)]
    · rw [if_neg h2, hj, if_neg (fun h => h2 h.2.1)]
  · rw [if_neg h1, hj, if_neg (fun h => h1 h.1)]

/-! #### l20Pairs -/
theorem l20Pairs_j3 {b : List Int} (hb : Code b) (n : Int) (out : List S29) (p : Int) (hp : 0 ≤ p) (hp2 : p ≤ 200000000) (hn : n ≤ 1000000) (ho : out.length ≤ 48) : ∃ r q, spec_l20Pairs.j3L n out b p = some (r, q) ∧ p ≤ q ∧ q ≤ p + 2 ∧ r.length ≤ 49 := by
  obtain ⟨o, q1, ho1, o0, o1⟩ := odd_ok hb p n hp (by omega) hn
  rw [spec_l20Pairs.j3L_eq, ho1, Option.bind_some]
  dsimp only
  cases o with
  | true =>
    obtain ⟨v, hv, v0, v1, _⟩ := pick_ok hb q1 5 (by omega) (by omega) (by omega)
    have v1 := v1 (by omega)
    rw [if_pos rfl, Option.bind_some, hv, Option.bind_some]
    dsimp only
    rw [if_pos v0, if_pos (by simp; omega), if_pos (by omega)]
    exact ⟨_, _, rfl, by omega, by omega, by simp; omega⟩
  | false =>
    rw [if_neg (by simp)]
    exact ⟨_, _, rfl, by omega, by omega, by omega⟩
theorem l20Pairs_l1 {b : List Int} (hb : Code b) (n : Int) (hn : n ≤ 1000000) (p : Int) (hp : 0 ≤ p) (hp2 : p ≤ 200000000) : ∀ (m : Nat) (out : List S29) (i : Int), i + m = 200 → 0 ≤ i → out.length ≤ 48 → ∃ r q, spec_l20Pairs.l1L n out i b p = some (r, q) ∧ p ≤ q ∧ q ≤ p + 2 ∧ r.length ≤ 49
  | m, out, i, hi, h0, ho => by
    obtain ⟨r, q, hr, h⟩ := l20Pairs_j3 hb n out p hp hp2 hn ho
    have hj : spec_l20Pairs.j2L n out i false b p = some (r, q) := by rw [spec_l20Pairs.j2L_eq, if_neg (by simp)]; exact hr
    rw [spec_l20Pairs.l1L_eq]
    by_cases e : (out.length : Int) < 48
    · rw [if_pos e]
      match m with
      | 0 => rw [decide_eq_false (by omega)]; exact ⟨r, q, hj, h⟩
      | m + 1 =>
        obtain ⟨s, hs, _⟩ := KeyAt_ok (i * 9) (by omega)
        rw [decide_eq_true (by omega), spec_l20Pairs.j2L_eq, if_pos rfl, w64 (n := i * 9) (by omega) (by omega), hs, Option.bind_some, spec_PairPut_f out s i (by omega), Option.bind_some, w64 (by omega) (by omega)]
        exact l20Pairs_l1 hb n hn p hp hp2 m _ (i + 1) (by omega) (by omega) (pairPut_length _ _ _)
    · rw [if_neg e]; exact ⟨r, q, hj, h⟩
theorem l20Pairs_l0 {b : List Int} (hb : Code b) (n : Int) (hn : n ≤ 1000000) : ∀ (m : Nat) (out : List S29) (i p : Int), i = m → m ≤ 100 → 0 ≤ p → p + 8 * m ≤ 90001000 → out.length ≤ 48 → ∃ r q, spec_l20Pairs.l0L n out i b p = some (r, q) ∧ p ≤ q ∧ q ≤ p + 8 * m + 3 ∧ r.length ≤ 49
  | 0, out, i, p, hi, hm, hp, hp2, ho => by
    obtain ⟨v, hv, v0, v1, _⟩ := pick_ok hb p 16 hp (by omega) (by omega)
    rw [spec_l20Pairs.l0L_eq, if_neg (by omega), hv, Option.bind_some]
    dsimp only
    by_cases e : v = 15
    · rw [if_pos e]
      obtain ⟨r, q, hr, h1, h2, h3⟩ := l20Pairs_l1 hb n hn (p + 1) (by omega) (by omega) 200 out 0 (by omega) (by omega) ho
      exact ⟨r, q, hr, by omega, by omega, h3⟩
    · rw [if_neg e]
      obtain ⟨r, q, hr, h1, h2, h3⟩ := l20Pairs_j3 hb n out (p + 1) (by omega) (by omega) hn ho
      exact ⟨r, q, hr, by omega, by omega, h3⟩
  | m + 1, out, i, p, hi, hm, hp, hp2, ho => by
    obtain ⟨s, q1, hs, s0, s1, _⟩ := l20Key_ok hb p 0 hp (by omega) (by omega)
    obtain ⟨v, q2, hv, v0, v1, _, _⟩ := l20Value_ok hb q1 0 (by omega) (by omega) (by omega)
    rw [spec_l20Pairs.l0L_eq, if_pos (by omega), hs, Option.bind_some]
    dsimp only
    rw [hv, Option.bind_some]
    dsimp only
    rw [spec_PairPut_f out s v (by omega), Option.bind_some, w64 (by omega) (by omega)]
    obtain ⟨r, q, hr, h1, h2, h3⟩ := l20Pairs_l0 hb n hn m (pairPut out s v).1 (i - 1) q2 (by omega) (by omega) (by omega) (by omega) (pairPut_length _ _ _)
    exact ⟨r, q, hr, by omega, by omega, h3⟩
theorem l20Pairs_ok {b : List Int} (hb : Code b) (p n : Int) (hp : 0 ≤ p) (hp2 : p ≤ 90000000) (hn : n ≤ 1000000) : ∃ r q, spec_l20Pairs.fL b p n = some (r, q) ∧ p ≤ q ∧ q ≤ p + 100 ∧ r.length ≤ 49 := by
  obtain ⟨v, hv, v0, v1, _⟩ := pick_ok hb p 9 hp (by omega) (by omega)
  have v1 := v1 (by omega)
  rw [spec_l20Pairs.fL_eq, hv, Option.bind_some]
  dsimp only
  obtain ⟨r, q, hr, h1, h2, h3⟩ := l20Pairs_l0 hb n hn v.toNat [] v (p + 1) (by omega) (by omega) (by omega) (by omega) (by simp)
  exact ⟨r, q, hr, by omega, by omega, h3⟩

/-! #### l20Near -/
theorem l20Near_j0 {b : List Int} (hb : Code b) (l : List S29) (hl : l.length ≤ 1000000) (n : Int) (c : Bool) (p : Int) (hp : 0 ≤ p) (hp2 : p ≤ 90000000) (hn : n ≤ 1000000) (hc : c = true → 1 ≤ l.length) : ∃ s q, spec_l20Near.j0L l n c b p = some (s, q) ∧ p ≤ q ∧ q ≤ p + 5 := by
  rw [spec_l20Near.j0L_eq]
  cases c with
  | true =>
    have hc := hc rfl
    obtain ⟨v, hv, v0, v1, _⟩ := pick_ok hb p (l.length : Int) hp (by omega) (by omega)
    have v1 := v1 (by omega)
    rw [if_pos rfl, hv, Option.bind_some]
    dsimp only
    rw [if_pos v0, if_pos v1]
    exact ⟨_, _, rfl, by omega, by omega⟩
  | false =>
    obtain ⟨s, q, hs, s0, s1, _⟩ := l20Key_ok hb p n hp (by omega) hn
    rw [if_neg (by simp), hs, Option.bind_some]
    exact ⟨_, _, rfl, s0, s1⟩
theorem l20Near_ok {b : List Int} (hb : Code b) (l : List S29) (hl : l.length ≤ 1000000) (p n : Int) (hp : 0 ≤ p) (hp2 : p ≤ 80000000) (hn : n ≤ 1000000) : ∃ s q, spec_l20Near.fL b p l n = some (s, q) ∧ p ≤ q ∧ q ≤ p + 6 := by
  rw [spec_l20Near.fL_eq]
  by_cases h : (l.length : Int) > 0
  · obtain ⟨v, hv, v0, v1, _⟩ := pick_ok hb p 2 hp (by omega) (by omega)
    rw [if_pos h, hv, Option.bind_some]
    dsimp only
    obtain ⟨s, q, hs, s0, s1⟩ := l20Near_j0 hb l hl n (v == 0) (p + 1) (by omega) (by omega) hn (fun _ => by omega)
    exact ⟨s, q, hs, by omega, by omega⟩
  · rw [if_neg h]
    obtain ⟨s, q, hs, s0, s1⟩ := l20Near_j0 hb l hl n false p hp (by omega) hn (fun h => by cases h)
    exact ⟨s, q, hs, by omega, by omega⟩

/-! #### spec_PairDrop -/
theorem spec_PairDrop_f (xs : List S29) (k : ByteArray) (hx : xs.length ≤ 1000000000000) : spec_PairDrop.fL xs k = some (pairDrop xs k) := by
  have hp := place_le k xs
  rw [spec_PairDrop.fL_eq, Option.bind_some, spec_PairsValid_f, Option.bind_some]
  unfold pairDrop
  by_cases h1 : pairsOk xs = true
  · have h48 := pairsOk_le h1
    rw [if_pos h1, if_pos h1, spec_l4Place_f xs k hx, Option.bind_some]
    by_cases e : (place k xs : Int) = (xs.length : Int)
    · have : ¬ hit k xs = true := fun h => by have := hit_lt h; omega
      rw [if_pos e, if_pos (by simp; omega), if_neg this, List.nil_append]
    · rw [if_neg e, if_pos (by omega), if_pos (by omega)]
      by_cases e2 : (rd_T29 xs (place k xs : Int)).f0 = k
      · have hh : hit k xs = true := decide_eq_true ⟨by omega, e2⟩
        rw [if_pos (by rw [e2]), if_pos (by omega), Option.bind_some, if_pos (by simp; omega), Option.bind_some, w64 (by omega) (by omega), if_pos (by omega), if_pos (by omega), Option.bind_some, if_pos (by simp; omega), if_pos hh]
        rw [Int.toNat_natCast, show ((place k xs : Int) + 1).toNat = place k xs + 1 by omega, List.nil_append]
      · have hh : ¬ hit k xs = true := fun h => e2 (hit_key h)
        rw [if_neg (fun h => e2 (toList_eq.1 h)), if_pos (by simp; omega), if_neg hh, List.nil_append]
  · rw [if_neg h1, if_neg h1]

/-! #### DrawPairChanges -/
theorem drawPairChanges_l0 {b : List Int} (hb : Code b) (a : List S29) : ∀ (m : Nat) (l : List S29) (i p : Int), i = m → l.length ≤ 49 → 0 ≤ p → p + 20 * m ≤ 70000000 → ∃ r, spec_DrawPairChanges.l0L a l i b p = some (a, r) ∧ r.length ≤ 49
  | m, l, i, p, hi, hl, hp, hp2 => by
    have hj : ∃ r, spec_DrawPairChanges.j1L a l i false b p = some (a, r) ∧ r.length ≤ 49 := by
      rw [spec_DrawPairChanges.j1L_eq, if_neg (by simp)]; exact ⟨_, rfl, hl⟩
    rw [spec_DrawPairChanges.l0L_eq]
    by_cases h : i > 0
    · rw [if_pos h, spec_PairsValid_f, Option.bind_some]
      cases hok : pairsOk l with
      | false => exact hj
      | true =>
        match m with
        | 0 => omega
        | m + 1 =>
          obtain ⟨s, q, hs, s0, s1⟩ := l20Near_ok hb l (by omega) p 0 hp (by omega) (by omega)
          obtain ⟨v, q2, hv, v0, v1, _⟩ := l20Value_ok hb q 0 (by omega) (by omega) (by omega)
          rw [spec_DrawPairChanges.j1L_eq, if_pos rfl, hs, Option.bind_some]
          dsimp only
          rw [spec_PairDrop_f l s (by omega), Option.bind_some, hv, Option.bind_some]
          dsimp only
          rw [spec_PairPut_f l s v (by omega), Option.bind_some]
          have h1 := pairDrop_length l s
          have h2 := pairPut_length l s v
          have hj2 : ∀ (c : Bool) (p' : Int), 0 ≤ p' → p' + 20 * m ≤ 70000000 → ∃ r, spec_DrawPairChanges.j2L a l i (pairDrop l s).1 (pairPut l s v).1 (pairPut l s v).2 c b p' = some (a, r) ∧ r.length ≤ 49 := by
            intro c p' hp0 hp1
            rw [spec_DrawPairChanges.j2L_eq, w64 (by omega) (by omega)]
            split
            · exact drawPairChanges_l0 hb a m _ (i - 1) p' (by omega) (by omega) hp0 hp1
            · split
              · exact drawPairChanges_l0 hb a m _ (i - 1) p' (by omega) (by omega) hp0 hp1
              · exact drawPairChanges_l0 hb a m _ (i - 1) p' (by omega) hl hp0 hp1
          by_cases hd : (pairDrop l s).2 = true
          · obtain ⟨u, hu, _⟩ := pick_ok hb q2 2 (by omega) (by omega) (by omega)
            rw [if_pos hd, hu, Option.bind_some]
            exact hj2 _ _ (by dsimp only; omega) (by dsimp only; omega)
          · rw [if_neg hd]
            exact hj2 _ _ (by omega) (by omega)
    · rw [if_neg h]; exact hj
theorem drawPairChanges {l : List Int} (hw : ∀ x ∈ l, (Lit.int .u8 x).wf = true) : ∃ a c, spec_DrawPairChanges.fL l = some (a, c) ∧ a.length ≤ 49 ∧ c.length ≤ 49 := by
  have hc := Code.take hw
  obtain ⟨a, q, ha, q0, q1, hal⟩ := l20Pairs_ok hc 0 12 (by omega) (by omega) (by omega)
  obtain ⟨v, hv, v0, v1, _⟩ := pick_ok hc q 4 (by omega) (by omega) (by omega)
  rw [spec_DrawPairChanges.fL_eq, spec_l20Open_f, Option.bind_some]
  dsimp only
  rw [ha, Option.bind_some]
  dsimp only
  rw [hv, Option.bind_some]
  dsimp only
  by_cases e : v = 0
  · obtain ⟨c, q2, hc2, _, _, hcl⟩ := l20Pairs_ok hc (q + 1) 12 (by omega) (by omega) (by omega)
    rw [if_pos e, hc2, Option.bind_some]
    exact ⟨_, _, rfl, hal, hcl⟩
  · obtain ⟨u, hu, u0, u1, _⟩ := pick_ok hc (q + 1) 3 (by omega) (by omega) (by omega)
    have u1 := u1 (by omega)
    rw [if_neg e, hu, Option.bind_some]
    dsimp only
    obtain ⟨r, hr, hrl⟩ := drawPairChanges_l0 hc a u.toNat a u (q + 1 + 1) (by omega) hal (by omega) (by omega)
    exact ⟨a, r, hr, hal, hrl⟩

/-! #### keyAt -/
theorem bs_append (s t : ByteArray) : bs (s ++ t) = bs s ++ bs t := by
  unfold bs; rw [ByteArray.data_append, Array.toList_append, List.map_append]
theorem bs_one (v : Int) (h0 : 0 ≤ v) (h1 : v ≤ 255) : bs (strOfNums [v]) = [v] := by
  unfold bs strOfNums
  simp
  omega
/-- The order of bytes, over the numbers. -/
def ltB : List Int → List Int → Bool
  | [], [] => false
  | [], _ :: _ => true
  | _ :: _, [] => false
  | a :: x, b :: y => decide (a < b) || (decide (a = b) && ltB x y)
theorem bytesLess_ltB : ∀ x y : List UInt8, Op.bytesLess x y = ltB (x.map fun b => (b.toNat : Int)) (y.map fun b => (b.toNat : Int))
  | [], [] => by simp [Op.bytesLess, ltB]
  | [], b :: y => by simp [Op.bytesLess, ltB]
  | a :: x, [] => by simp [Op.bytesLess, ltB]
  | a :: x, b :: y => by
    simp only [Op.bytesLess, ltB, List.map_cons, bytesLess_ltB x y]
    congr 1
    · rw [decide_eq_decide, UInt8.lt_iff_toNat_lt]; omega
    · congr 1
      by_cases e : a = b
      · subst e; simp
      · have : ¬ (a.toNat : Int) = (b.toNat : Int) := fun h => e (UInt8.toNat_inj.1 (by omega))
        rw [decide_eq_false this]; simpa using e
theorem klt_ltB (a b : ByteArray) : klt a b = ltB (bs a) (bs b) := by
  unfold klt; rw [bytesLess_ltB, toList_data, toList_data]; rfl
/-- The bytes of the key of a rank, from a depth on. -/
def keyAtB : Nat → Int → List Int
  | 0, _ => []
  | n + 1, a => (97 + a / kfrom (4 - (n : Int))) :: (if a % kfrom (4 - (n : Int)) = 0 then [] else keyAtB n (a % kfrom (4 - (n : Int)) - 1))
theorem keyAtB_lt : ∀ (n : Nat) (a b : Int), n < 4 → 0 ≤ a → a < b → ltB (keyAtB (n + 1) a) (keyAtB (n + 1) b) = true
  | n, a, b, hn, h0, h => by
    have hk := kfrom_range (4 - (n : Int))
    generalize hw : kfrom (4 - (n : Int)) = w at hk
    have hq : a / w ≤ b / w := Int.ediv_le_ediv (by omega) (by omega)
    have ea := Int.emod_add_mul_ediv a w
    have eb := Int.emod_add_mul_ediv b w
    have ra := Int.emod_nonneg a (show w ≠ 0 by omega)
    have rb := Int.emod_nonneg b (show w ≠ 0 by omega)
    simp only [keyAtB, hw, ltB, Bool.or_eq_true, decide_eq_true_eq, Bool.and_eq_true]
    by_cases e : a / w < b / w
    · left; omega
    · right
      have e' : a / w = b / w := by omega
      refine ⟨by omega, ?_⟩
      rw [e'] at ea
      have hr : a % w < b % w := by omega
      rw [if_neg (show ¬ b % w = 0 by omega)]
      match n with
      | 0 =>
        have : w = 1 := by rw [← hw]; rfl
        have := Int.emod_lt_of_pos b (show 0 < w by omega)
        omega
      | n + 1 =>
        by_cases e0 : a % w = 0
        · rw [if_pos e0]
          show ltB [] (_ :: _) = true
          rfl
        · rw [if_neg e0]
          exact keyAtB_lt n _ _ (by omega) (by omega) (by omega)
theorem keyAtB_ok : ∀ (n : Nat) (a : Int), n < 4 → 0 ≤ a → a < 26 * kfrom (4 - (n : Int)) → letters (keyAtB (n + 1) a) = true ∧ 1 ≤ (keyAtB (n + 1) a).length ∧ (keyAtB (n + 1) a).length ≤ n + 1
  | n, a, hn, h0, h => by
    have hk := kfrom_range (4 - (n : Int))
    generalize hw : kfrom (4 - (n : Int)) = w at hk h
    have hq : a / w < 26 := Int.ediv_lt_of_lt_mul (by omega) h
    have hq0 : 0 ≤ a / w := Int.ediv_nonneg h0 (by omega)
    have ra := Int.emod_nonneg a (show w ≠ 0 by omega)
    have rl := Int.emod_lt_of_pos a (show 0 < w by omega)
    simp only [keyAtB, hw, letters, List.all_cons, List.length_cons]
    rw [decide_eq_true (by omega), Bool.true_and]
    by_cases e0 : a % w = 0
    · rw [if_pos e0]; simp
    · rw [if_neg e0]
      match n with
      | 0 =>
        have : w = 1 := by rw [← hw]; rfl
        omega
      | n + 1 =>
        have hnext : w ≤ 26 * kfrom (4 - (n : Int)) + 1 := by
          rw [← hw]
          have : n = 0 ∨ n = 1 ∨ n = 2 := by omega
          rcases this with rfl | rfl | rfl <;> simp [kfrom]
        have ih := keyAtB_ok n (a % w - 1) (by omega) (by omega) (by omega)
        exact ⟨ih.1, by omega, by omega⟩
theorem spec_KeyAt_l0 : ∀ (n : Nat) (a : Int) (s : ByteArray) (i : Int), n ≤ 4 → i + n = 4 → 0 ≤ a → a ≤ 1000000 → (n = 0 ∨ a < 26 * kfrom (i + 1)) → s.size ≤ i → ∃ r, spec_KeyAt.l0L a s i = some r ∧ bs r = bs s ++ keyAtB n a
  | 0, a, s, i, hn, hi, ha, ha2, hw, hs => by rw [spec_KeyAt.l0L_eq, if_neg (by omega)]; exact ⟨_, rfl, by simp [keyAtB]⟩
  | n + 1, a, s, i, hn, hi, ha, ha2, hw, hs => by
    have hk := kfrom_range (i + 1)
    have hl : ∀ x : Int, (strOfNums [x]).size = 1 := fun x => by rw [strOfNums_len]; rfl
    have hi2 : i + 1 = 4 - (n : Int) := by omega
    have hw : a < 26 * kfrom (i + 1) := by omega
    rw [spec_KeyAt.l0L_eq, if_pos (by omega)]
    simp only [spec_l1Weight_f i (by omega), Option.bind_some]
    rw [if_neg (by omega), if_pos (by rw [hl]; omega), if_neg (by omega), Int.tmod_eq_emod_of_nonneg ha, Int.tdiv_eq_ediv_of_nonneg ha]
    simp only [keyAtB, ← hi2]
    generalize hwk : kfrom (i + 1) = w at *
    have hq : a / w < 26 := Int.ediv_lt_of_lt_mul (by omega) hw
    have hq0 : 0 ≤ a / w := Int.ediv_nonneg ha (by omega)
    have ra := Int.emod_nonneg a (show w ≠ 0 by omega)
    have rl := Int.emod_lt_of_pos a (show 0 < w by omega)
    rw [w64 (n := a / w) (by omega) (by omega), w64 (n := 97 + a / w) (by omega) (by omega), Int.emod_eq_of_lt (a := 97 + a / w) (by omega) (by omega)]
    by_cases e : a % w = 0
    · rw [if_pos e, if_pos e]; exact ⟨_, rfl, by rw [bs_append, bs_one _ (by omega) (by omega)]⟩
    · rw [if_neg e, if_neg e, w64 (n := i + 1) (by omega) (by omega), w64 (n := a % w - 1) (by omega) (by omega)]
      have hnext : n = 0 ∨ a % w - 1 < 26 * kfrom (i + 1 + 1) := by
        by_cases h0 : n = 0
        · exact .inl h0
        · right
          have : i = 0 ∨ i = 1 ∨ i = 2 := by omega
          rcases this with rfl | rfl | rfl <;> simp [kfrom] at hwk ⊢ <;> omega
      obtain ⟨r, hr, hb⟩ := spec_KeyAt_l0 n (a % w - 1) (s ++ strOfNums [97 + a / w]) (i + 1) (by omega) (by omega) (by omega) (by omega) hnext (by rw [ByteArray.size_append, hl]; omega)
      exact ⟨r, hr, by rw [hb, bs_append, bs_one _ (by omega) (by omega)]; simp⟩
/-- The key of a rank. -/
noncomputable def keyAt (a : Int) : ByteArray := (spec_KeyAt.fL a).getD (⟨#[]⟩ : ByteArray)
theorem spec_KeyAt_in (a : Int) (h0 : 0 ≤ a) (h1 : a ≤ 475253) : spec_KeyAt.fL a = some (keyAt a) ∧ bs (keyAt a) = keyAtB 4 a := by
  have h : ∃ r, spec_KeyAt.fL a = some r ∧ bs r = keyAtB 4 a := by
    rw [spec_KeyAt.fL_eq, spec_l1In_f, Option.bind_some, decide_eq_true ⟨h0, h1⟩, if_pos rfl]
    obtain ⟨r, hr, hb⟩ := spec_KeyAt_l0 4 a (⟨#[]⟩ : ByteArray) 0 (by omega) (by omega) h0 (by omega) (.inr (by simp [kfrom]; omega)) (by decide)
    exact ⟨r, hr, by rw [hb]; rfl⟩
  obtain ⟨r, hr, hb⟩ := h
  unfold keyAt
  rw [hr]; exact ⟨rfl, hb⟩
theorem keyAt_ok (a : Int) (h0 : 0 ≤ a) (h1 : a ≤ 475253) : keyOk (bs (keyAt a)) = true := by
  have h := keyAtB_ok 3 a (by omega) h0 (by simp [kfrom]; omega)
  rw [(spec_KeyAt_in a h0 h1).2]
  unfold keyOk
  rw [h.1, decide_eq_true ⟨h.2.1, h.2.2⟩]; rfl
theorem keyAt_lt (a b : Int) (h0 : 0 ≤ a) (h : a < b) (h1 : b ≤ 475253) : klt (keyAt a) (keyAt b) = true := by
  rw [klt_ltB, (spec_KeyAt_in a h0 (by omega)).2, (spec_KeyAt_in b (by omega) h1).2]
  exact keyAtB_lt 3 a b (by omega) h0 h
theorem keyAt_a : bs (keyAt 0) = [97] := by
  rw [(spec_KeyAt_in 0 (by omega) (by omega)).2]; decide

/-! #### l20Parts -/
def mkParts (lo : ByteArray) : List ByteArray → List S83
  | [] => [⟨lo, (⟨#[]⟩ : ByteArray)⟩]
  | b :: r => ⟨lo, b⟩ :: mkParts b r
theorem mkParts_length : ∀ (ys : List ByteArray) (lo : ByteArray), (mkParts lo ys).length = ys.length + 1
  | [], lo => rfl
  | y :: ys, lo => by simp [mkParts, mkParts_length ys y]
theorem spec_PartitionOf_l0 (xs : List ByteArray) (hx : xs.length ≤ 5) : ∀ (ys : List ByteArray) (pre : List S83) (lo : ByteArray) (i : Int), 0 ≤ i → i ≤ xs.length → (pre.length : Int) = i → xs.drop i.toNat = ys →
    spec_PartitionOf.l0L xs (pre ++ [⟨lo, (⟨#[]⟩ : ByteArray)⟩]) i = if partOk (pre ++ mkParts lo ys) = true then some (pre ++ mkParts lo ys, true) else some ([], false)
  | [], pre, lo, i, h0, h1, hp, hd => by
    have := drop_nil h0 h1 hd
    rw [spec_PartitionOf.l0L_eq, if_neg (by omega), spec_PartitionValid_f, Option.bind_some]; rfl
  | y :: ys, pre, lo, i, h0, h1, hp, hd => by
    obtain ⟨hr, hl, hd'⟩ := rdOf_drop (d := ByteArray.empty) h0 hd
    have hlen : ((pre ++ [(⟨lo, (⟨#[]⟩ : ByteArray)⟩ : S83)]).length : Int) = i + 1 := by simp; omega
    have hrd : rd_T83 (pre ++ [(⟨lo, (⟨#[]⟩ : ByteArray)⟩ : S83)]) i = ⟨lo, (⟨#[]⟩ : ByteArray)⟩ := by
      unfold rd_T83
      rw [List.getD_eq_getElem?_getD, List.getElem?_append_right (by omega), show i.toNat - pre.length = 0 by omega]; rfl
    have hset : (pre ++ [(⟨lo, (⟨#[]⟩ : ByteArray)⟩ : S83)]).set i.toNat ⟨lo, y⟩ = pre ++ [⟨lo, y⟩] := by
      rw [List.set_append_right _ _ (by omega), show i.toNat - pre.length = 0 by omega]; rfl
    rw [spec_PartitionOf.l0L_eq, if_pos hl, if_pos (by omega), if_pos h0, hlen, w64 (n := i + 1 - 1) (by omega) (by omega), show i + 1 - 1 = i by omega, if_pos h0, if_pos (by omega), hr, hrd, hset, Option.bind_some, if_pos (by simp; omega), w64 (by omega) (by omega)]
    have := spec_PartitionOf_l0 xs hx ys (pre ++ [⟨lo, y⟩]) y (i + 1) (by omega) (by omega) (by simp; omega) hd'
    have e : pre ++ [(⟨lo, y⟩ : S83)] ++ mkParts y ys = pre ++ mkParts lo (y :: ys) := by simp [mkParts]
    rw [this, e]
theorem partOk_intro {v : S83} {vs : List S83} (h1 : (v :: vs).length ≤ 6) (h2 : ivOk v.f0 v.f1 = true) (h3 : v.f0.toList = []) (h4 : (rd_T83 (v :: vs) (((v :: vs).length : Int) - 1)).f1.toList = []) (h5 : chainFrom v vs = true) : partOk (v :: vs) = true := by
  simp only [partOk, Bool.and_eq_true, decide_eq_true_eq]
  exact ⟨⟨⟨⟨h1, h2⟩, h3⟩, h4⟩, h5⟩
theorem spec_PartitionOf_f (xs : List ByteArray) (hx : xs.length ≤ 5) : spec_PartitionOf.fL xs = if partOk (mkParts (⟨#[]⟩ : ByteArray) xs) = true then some (mkParts (⟨#[]⟩ : ByteArray) xs, true) else some ([], false) := by
  rw [spec_PartitionOf.fL_eq]
  exact spec_PartitionOf_l0 xs hx xs [] (⟨#[]⟩ : ByteArray) 0 (by omega) (by omega) (by simp) (by simp)
/-- Valid keys that ascend, all greater than one. -/
def ascK : ByteArray → List ByteArray → Prop
  | _, [] => True
  | p, y :: ys => keyOk (bs y) = true ∧ klt p y = true ∧ ascK y ys
theorem keyOk_ne {s : ByteArray} (h : keyOk (bs s) = true) : ¬ s.toList = [] := by
  rw [toList_nil]; intro e
  have := keyOk_len h
  rw [e] at this; simp at this
theorem nil_toList : (⟨#[]⟩ : ByteArray).toList = [] := by rw [toList_nil]; rfl
theorem ivOk_keys {a b : ByteArray} (h1 : keyOk (bs a) = true) (h2 : keyOk (bs b) = true) (h3 : klt a b = true) : ivOk a b = true := by
  unfold ivOk low
  rw [if_neg (keyOk_ne h1), h1, h2]
  unfold klt at h3; rw [h3]; simp
theorem ivOk_up {a : ByteArray} (h1 : keyOk (bs a) = true) : ivOk a (⟨#[]⟩ : ByteArray) = true := by
  unfold ivOk
  rw [h1, nil_toList]; simp
theorem mkParts_chain : ∀ (ys : List ByteArray) (p : S83) (lo : ByteArray), keyOk (bs lo) = true → ascK lo ys → ivOk p.f0 p.f1 = true → p.f1 = lo → chainFrom p (mkParts lo ys) = true
  | [], p, lo, hk, ha, hi, he => by
    have hn := keyOk_ne hk
    simp only [mkParts, chainFrom, joinOk, Bool.and_true]
    rw [hi, ivOk_up hk, he, decide_eq_false hn]; simp
  | y :: ys, p, lo, hk, ha, hi, he => by
    have hn := keyOk_ne hk
    have hy := ivOk_keys hk ha.1 ha.2.1
    simp only [mkParts, chainFrom, joinOk]
    rw [hi, hy, he, decide_eq_false hn, mkParts_chain ys ⟨lo, y⟩ y ha.1 ha.2.2 hy rfl]; simp
theorem mkParts_last : ∀ (ys : List ByteArray) (lo : ByteArray) (pre : List S83), (rd_T83 (pre ++ mkParts lo ys) (((pre ++ mkParts lo ys).length : Int) - 1)).f1 = (⟨#[]⟩ : ByteArray)
  | [], lo, pre => by
    unfold rd_T83
    rw [List.getD_eq_getElem?_getD, List.getElem?_append_right (by simp [mkParts])]
    simp [mkParts]
  | y :: ys, lo, pre => by
    have := mkParts_last ys y (pre ++ [⟨lo, y⟩])
    simp only [List.append_assoc, List.singleton_append] at this
    exact this
theorem mkParts_ok (ys : List ByteArray) (hl : ys.length ≤ 5) (ha : ascK (keyAt 0) ys) : partOk (mkParts (⟨#[]⟩ : ByteArray) ys) = true := by
  have hlast := mkParts_last ys (⟨#[]⟩ : ByteArray) []
  simp only [List.nil_append] at hlast
  have hlen := mkParts_length ys (⟨#[]⟩ : ByteArray)
  have hlast : (rd_T83 (mkParts (⟨#[]⟩ : ByteArray) ys) (((mkParts (⟨#[]⟩ : ByteArray) ys).length : Int) - 1)).f1.toList = [] := by rw [hlast]; exact nil_toList
  cases ys with
  | nil =>
    exact partOk_intro (v := ⟨(⟨#[]⟩ : ByteArray), (⟨#[]⟩ : ByteArray)⟩) (by simp) (by unfold ivOk; rw [nil_toList]; simp) nil_toList hlast rfl
  | cons y ys =>
    have e97 : keyAt 0 = (⟨#[97]⟩ : ByteArray) := bs_inj keyAt_a
    have hi : ivOk (⟨#[]⟩ : ByteArray) y = true := by
      have h2 := ha.2.1
      rw [e97] at h2
      unfold klt at h2
      unfold ivOk low
      rw [if_pos nil_toList, ha.1, h2, nil_toList]; simp
    have hlen : ((⟨(⟨#[]⟩ : ByteArray), y⟩ : S83) :: mkParts y ys).length = (y :: ys).length + 1 := hlen
    exact partOk_intro (v := ⟨(⟨#[]⟩ : ByteArray), y⟩) (by omega) hi nil_toList hlast (mkParts_chain ys _ y ha.1 ha.2.2 hi rfl)
theorem l20Bounds_l0 {b : List Int} (hb : Code b) : ∀ (m : Nat) (out : List ByteArray) (a c n p : Int), n = m → m ≤ 5 → (out.length : Int) + m ≤ 5 → 0 ≤ p → p + 2 * m ≤ 100000000 → 0 ≤ c → c < a → a + 65026 * m ≤ 475000 → ∃ ys q, spec_l20Bounds.l0L 0 out a n b p = some (out ++ ys, q) ∧ p ≤ q ∧ q ≤ p + 2 * m ∧ ys.length = m ∧ ascK (keyAt c) ys
  | 0, out, a, c, n, p, hn, hm, ho, hp, hp2, hc, ha, ha2 => by
    rw [spec_l20Bounds.l0L_eq, if_neg (by omega), spec_l20Rd_odd.fL_eq, if_neg (by omega), Option.bind_some]
    dsimp only
    rw [if_neg (by simp)]
    exact ⟨[], p, by simp, by omega, by omega, rfl, trivial⟩
  | m + 1, out, a, c, n, p, hn, hm, ho, hp, hp2, hc, ha, ha2 => by
    obtain ⟨v, hv, v0, v1, _⟩ := pick_ok hb p 256 hp (by omega) (by omega)
    obtain ⟨u, hu, u0, u1, _⟩ := pick_ok hb (p + 1) 256 (by omega) (by omega) (by omega)
    have v1 := v1 (by omega)
    have u1 := u1 (by omega)
    have m0 : 0 ≤ v * u := Int.mul_nonneg v0 u0
    have m1 : v * u ≤ 255 * 255 := Int.mul_le_mul (by omega) (by omega) u0 (by omega)
    rw [spec_l20Bounds.l0L_eq, if_pos (by omega), (spec_KeyAt_in a (by omega) (by omega)).1, Option.bind_some, if_pos (by omega), hv, Option.bind_some]
    dsimp only
    rw [hu, Option.bind_some]
    dsimp only
    rw [w64 (n := a + 1) (by omega) (by omega), w64 (n := v * u) (by omega) (by omega), w64 (n := a + 1 + v * u) (by omega) (by omega), w64 (n := n - 1) (by omega) (by omega)]
    obtain ⟨ys, q, hq, q0, q1, hl, hasc⟩ := l20Bounds_l0 hb m (out ++ [keyAt a]) (a + 1 + v * u) a (n - 1) (p + 1 + 1) (by omega) (by omega) (by simp; omega) (by omega) (by omega) (by omega) (by omega) (by omega)
    refine ⟨keyAt a :: ys, q, by rw [hq]; simp, by omega, by omega, by simp [hl], keyAt_ok a (by omega) (by omega), keyAt_lt c a hc ha (by omega), hasc⟩
theorem l20Parts_ok {b : List Int} (hb : Code b) (p n : Int) (hp : 0 ≤ p) (hp2 : p ≤ 90000000) (hn : n ≤ 1000000) : ∃ r q, spec_l20Parts.fL b p n = some (r, q) ∧ p ≤ q ∧ q ≤ p + 20 ∧ r.length ≤ 12 := by
  obtain ⟨v, hv, v0, v1, _⟩ := pick_ok hb p 200 hp (by omega) (by omega)
  obtain ⟨u, hu, u0, u1, _⟩ := pick_ok hb (p + 1) 6 (by omega) (by omega) (by omega)
  have v1 := v1 (by omega)
  have u1 := u1 (by omega)
  obtain ⟨ys, q, hq, q0, q1, hl, hasc⟩ := l20Bounds_l0 hb u.toNat [] (1 + v) 0 u (p + 1 + 1) (by omega) (by omega) (by simp; omega) (by omega) (by omega) (by omega) (by omega) (by omega)
  have hok := mkParts_ok ys (by omega) hasc
  have hlen := mkParts_length ys (⟨#[]⟩ : ByteArray)
  obtain ⟨o, q2, ho, o0, o1⟩ := odd_ok hb q n (by omega) (by omega) hn
  rw [spec_l20Parts.fL_eq, spec_l20Bounds.fL_eq, hv, Option.bind_some]
  dsimp only
  rw [hu, Option.bind_some]
  dsimp only
  rw [w64 (by omega) (by omega), hq, Option.bind_some]
  dsimp only
  rw [List.nil_append, spec_PartitionOf_f ys (by omega), if_pos hok, Option.bind_some]
  dsimp only
  rw [ho, Option.bind_some]
  dsimp only
  cases o with
  | false => rw [if_neg (by simp)]; exact ⟨_, _, rfl, by omega, by omega, by omega⟩
  | true =>
    obtain ⟨w, hw, w0, w1, _⟩ := pick_ok hb q2 5 (by omega) (by omega) (by omega)
    rw [if_pos rfl, hw, Option.bind_some]
    dsimp only
    by_cases e0 : w = 0
    · rw [if_pos e0, if_pos (by omega)]; exact ⟨_, _, rfl, by omega, by omega, by simp; omega⟩
    · rw [if_neg e0]
      by_cases e1 : w = 1
      · rw [if_pos e1, if_pos (by omega)]; exact ⟨_, _, rfl, by omega, by omega, by simp; omega⟩
      · rw [if_neg e1]
        by_cases e2 : w = 2
        · rw [if_pos e2, w64 (by omega) (by omega), if_pos (by omega), if_pos (by omega)]; exact ⟨_, _, rfl, by omega, by omega, by simp; omega⟩
        · rw [if_neg e2]
          by_cases e3 : w = 3
          · rw [if_pos e3, if_pos (by omega)]; exact ⟨_, _, rfl, by omega, by omega, by simp; omega⟩
          · rw [if_neg e3, if_pos (by omega)]; exact ⟨_, _, rfl, by omega, by omega, by simp; omega⟩

/-! #### samePairs -/
theorem laws_samePairs_l0 (xs zs : List S29) (hx : xs.length ≤ 1000000000000) (hl : xs.length = zs.length) : ∀ (ys ws : List S29) (i : Int), 0 ≤ i → i ≤ xs.length → xs.drop i.toNat = ys → zs.drop i.toNat = ws → ∃ b, laws_samePairs.l0L xs zs i = some b ∧ (b = true ↔ ys = ws)
  | [], ws, i, h0, h1, hd, hw => by
    have := drop_nil h0 h1 hd
    rw [List.drop_eq_nil_of_le (by omega)] at hw
    rw [laws_samePairs.l0L_eq, if_neg (by omega)]; exact ⟨true, rfl, by simp [hw]⟩
  | y :: ys, [], i, h0, h1, hd, hw => by
    have := drop_nil h0 (by omega) hw
    obtain ⟨_, hlt, _⟩ := getD_cons (d := z29) h0 hd
    omega
  | y :: ys, w :: ws, i, h0, h1, hd, hw => by
    obtain ⟨hr0, hlt, hd'⟩ := getD_cons (d := z29) h0 hd
    obtain ⟨hr1, hlt2, hw'⟩ := getD_cons (d := z29) h0 hw
    have e0 : rd_T29 xs i = y := hr0
    have e1 : rd_T29 zs i = w := hr1
    rw [laws_samePairs.l0L_eq, if_pos hlt, if_pos h0, if_pos hlt2, e0, e1, w64 (by omega) (by omega)]
    by_cases e : y = w
    · subst e
      rw [if_neg (by simp)]
      obtain ⟨b, hb, hb2⟩ := laws_samePairs_l0 xs zs hx hl ys ws (i + 1) (by omega) (by omega) hd' hw'
      exact ⟨b, hb, by simp [hb2]⟩
    · have : (!(y.f0.toList == w.f0.toList) || !(y.f1 == w.f1)) = true := by
        by_cases c0 : y.f0 = w.f0
        · by_cases c1 : y.f1 = w.f1
          · exact absurd (by cases y; cases w; simp only at c0 c1; rw [c0, c1]) e
          · simp [c1]
        · have : ¬ y.f0.toList = w.f0.toList := fun h => c0 (toList_eq.1 h)
          simp [this]
      rw [if_pos this]
      exact ⟨false, rfl, by simp [e]⟩
theorem laws_samePairs_f (xs zs : List S29) (hx : xs.length ≤ 1000000000000) : ∃ b, laws_samePairs.fL xs zs = some b ∧ (b = true ↔ xs = zs) := by
  rw [laws_samePairs.fL_eq]
  by_cases h : (xs.length : Int) = (zs.length : Int)
  · rw [if_pos h]
    exact laws_samePairs_l0 xs zs hx (by omega) xs zs 0 (by omega) (by omega) (by simp) (by simp)
  · rw [if_neg h]
    exact ⟨false, rfl, by simp; intro e; rw [e] at h; exact h rfl⟩

/-! #### sameInts -/
theorem laws_sameInts_l0 (xs zs : List Int) (hx : xs.length ≤ 1000000000000000) (hl : xs.length = zs.length) : ∀ (ys ws : List Int) (i : Int), 0 ≤ i → i ≤ xs.length → xs.drop i.toNat = ys → zs.drop i.toNat = ws → laws_sameInts.l0L xs zs i = some (decide (ys = ws))
  | [], ws, i, h0, h1, hd, hw => by
    have := drop_nil h0 h1 hd
    rw [laws_sameInts.l0L_eq, if_neg (by omega)]
    rw [List.drop_eq_nil_of_le (by omega)] at hw
    rw [← hw]; rfl
  | y :: ys, [], i, h0, h1, hd, hw => by
    have := drop_nil h0 (by omega) hw
    obtain ⟨hr, hlt, hd'⟩ := rd_drop h0 hd
    omega
  | y :: ys, w :: ws, i, h0, h1, hd, hw => by
    obtain ⟨hr, hlt, hd'⟩ := rd_drop h0 hd
    obtain ⟨hr2, hlt2, hw'⟩ := rd_drop h0 hw
    rw [laws_sameInts.l0L_eq, if_pos hlt, if_pos h0, if_pos hlt2, hr, hr2, w64 (by omega) (by omega)]
    by_cases e : y = w
    · rw [if_pos e, laws_sameInts_l0 xs zs hx hl ys ws (i + 1) (by omega) (by omega) hd' hw']
      simp [e]
    · rw [if_neg e]; simp [e]
theorem laws_sameInts_f (xs zs : List Int) (hx : xs.length ≤ 1000000000000000) : laws_sameInts.fL xs zs = some (decide (xs = zs)) := by
  rw [laws_sameInts.fL_eq]
  by_cases h : (xs.length : Int) = (zs.length : Int)
  · rw [if_pos h]; exact laws_sameInts_l0 xs zs hx (by omega) xs zs 0 (by omega) (by omega) (by simp) (by simp)
  · rw [if_neg h, decide_eq_false (fun e => h (by rw [e]))]

/-! #### PartitionFind -/
def findFrom (k : ByteArray) : Int → List S83 → Int
  | _, [] => -1
  | i, v :: vs => if inIv v.f0 v.f1 k = true then i else findFrom k (i + 1) vs
def partFind (ps : List S83) (k : ByteArray) : Int := if partOk ps = true ∧ keyOk (bs k) = true then findFrom k 0 ps else -1
theorem impl_inside_f (lo hi k : ByteArray) : impl_inside.f lo hi k = some (inIv lo hi k) := by
  unfold impl_inside.f inIv klt
  cases Op.bytesLess k.toList lo.toList with
  | true => simp
  | false =>
    rw [if_neg (by simp)]
    by_cases e : hi.toList = []
    · rw [if_pos e, decide_eq_true e]; rfl
    · rw [if_neg e, decide_eq_false e]; simp
theorem impl_PartitionFind_l0 (k : ByteArray) (ps : List S83) (hx : ps.length ≤ 6) : ∀ (ys : List S83) (i : Int), 0 ≤ i → i ≤ ps.length → ps.drop i.toNat = ys → impl_PartitionFind.l0L k ps (ps.length : Int) i = some (findFrom k i ys)
  | [], i, h0, h1, hd => by
    have := drop_nil h0 h1 hd
    rw [impl_PartitionFind.l0L_eq, if_neg (by omega)]; rfl
  | y :: ys, i, h0, h1, hd => by
    obtain ⟨hr0, hl, hd'⟩ := getD_iv (d := z83) h0 hd
    have hr : rd_T83 ps i = y := hr0
    rw [impl_PartitionFind.l0L_eq, if_pos hl, if_pos h0, if_pos hl, hr, impl_inside_f, Option.bind_some, w64 (by omega) (by omega), impl_PartitionFind_l0 k ps hx ys (i + 1) (by omega) (by omega) hd']
    simp only [findFrom]
    cases inIv y.f0 y.f1 k <;> simp
theorem partOk_six {ps : List S83} (h : partOk ps = true) : ps.length ≤ 6 := by
  cases ps with
  | nil => simp
  | cons v vs => simp only [partOk, Bool.and_eq_true, decide_eq_true_eq] at h; exact h.1.1.1.1
theorem impl_PartitionFind_f (ps : List S83) (k : ByteArray) : impl_PartitionFind.fL ps k = some (partFind ps k) := by
  have hj : impl_PartitionFind.j0L ps k true = some (-1) := by rw [impl_PartitionFind.j0L_eq, if_pos rfl]
  rw [impl_PartitionFind.fL_eq, impl_PartitionValid_f, Option.bind_some]
  unfold partFind
  by_cases h1 : partOk ps = true
  · rw [if_pos h1, impl_KeyValid_f, Option.bind_some]
    by_cases h2 : keyOk (bs k) = true
    · rw [if_pos ⟨h1, h2⟩, h2, Bool.not_true, impl_PartitionFind.j0L_eq, if_neg (by simp), impl_PartitionFind_l0 k ps (partOk_six h1) ps 0 (by omega) (by omega) (by simp)]
    · rw [show keyOk (bs k) = false by simpa using h2, Bool.not_false, hj, if_neg (fun h => by simp at h)]
  · rw [if_neg h1, hj, if_neg (fun h => h1 h.1)]

/-! #### alive -/
theorem laws_alive_f : laws_alive.fL = some true := by
  rw [laws_alive.fL_eq, impl_KeyRank_f, impl_KeyRank_f]
  rfl

end Go.Proofs.Ytfeeifefmenlmaa.Pure
