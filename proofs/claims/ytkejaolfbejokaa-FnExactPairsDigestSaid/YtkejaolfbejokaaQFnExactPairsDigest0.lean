/- Lemmas for FnExactPairsDigest: what each function comes to. No condition. -/
import Derived.Test.YtkejaolfbejokaaLFnExactPairsDigest
namespace Go.Proofs.Ytkejaolfbejokaa.Pure
open Go.RowKit Go.Proofs.Ytkejaolfbejokaa.PFnExactPairsDigest Go.Proofs.YtkejaolfbejokaaW.PrintWords Go.Proofs.YtkejaolfbejokaaW.PrintLast Go.Proofs.YtkejaolfbejokaaW.PrintMore Go.Proofs.Ytkejaolfbejokaa.Lim
set_option linter.unusedVariables false
set_option linter.unusedSimpArgs false

/-! #### basic -/
theorem w64 {n : Int} (h1 : -9223372036854775808 ≤ n) (h2 : n ≤ 9223372036854775807) : wrap64 n = n := by unfold wrap64; omega
theorem wf64 {n : Int} (h : (Lit.int .i64 n).wf = true) : -9223372036854775808 ≤ n ∧ n ≤ 9223372036854775807 := by
  simp only [Lit.wf, IntKind.min, IntKind.max, IntKind.signed, IntKind.bits, Bool.and_eq_true, decide_eq_true_eq, if_true] at h
  omega
theorem wf8 {n : Int} (h : (Lit.int .u8 n).wf = true) : 0 ≤ n ∧ n ≤ 255 := by
  simp only [Lit.wf, IntKind.min, IntKind.max, IntKind.signed, IntKind.bits, Bool.and_eq_true, decide_eq_true_eq] at h
  simp at h
  omega
theorem mn_eq (a b : Int) : mn a b = if a ≤ b then a else b := by unfold mn; split <;> split <;> omega
theorem mx_eq (a b : Int) : mx a b = if a ≤ b then b else a := by unfold mx; split <;> split <;> omega
theorem rd_drop {xs : List Int} {i : Int} {y : Int} {ys : List Int} (h0 : 0 ≤ i) (h : xs.drop i.toNat = y :: ys) : rd xs i = y ∧ i < xs.length ∧ xs.drop (i + 1).toNat = ys := by
  have h1 : i.toNat < xs.length := by
    by_cases e : i.toNat < xs.length
    · exact e
    · rw [List.drop_eq_nil_of_le (by omega)] at h; cases h
  rw [List.drop_eq_getElem_cons h1] at h
  injection h with ha hb
  refine ⟨?_, by omega, ?_⟩
  · unfold rd; rw [List.getD_eq_getElem?_getD, List.getElem?_eq_getElem h1]; exact ha
  · rw [show (i + 1).toNat = i.toNat + 1 by omega]; exact hb
theorem drop_nil {α : Type} {xs : List α} {i : Int} (h0 : 0 ≤ i) (hi : i ≤ xs.length) (h : xs.drop i.toNat = []) : i = xs.length := by
  have := congrArg List.length h
  simp at this
  omega
theorem rdOf_drop {α : Type} {d : α} {xs : List α} {i : Int} {y : α} {ys : List α} (h0 : 0 ≤ i) (h : xs.drop i.toNat = y :: ys) : rdOf d xs i = y ∧ i < xs.length ∧ xs.drop (i + 1).toNat = ys := by
  have h1 : i.toNat < xs.length := by
    by_cases e : i.toNat < xs.length
    · exact e
    · rw [List.drop_eq_nil_of_le (by omega)] at h; cases h
  rw [List.drop_eq_getElem_cons h1] at h
  injection h with ha hb
  refine ⟨?_, by omega, ?_⟩
  · unfold rdOf; rw [List.getD_eq_getElem?_getD, List.getElem?_eq_getElem h1]; exact ha
  · rw [show (i + 1).toNat = i.toNat + 1 by omega]; exact hb

/-! #### bytes -/
/-- A string's bytes as numbers. -/
def bs (s : ByteArray) : List Int := s.data.toList.map fun b => (b.toNat : Int)
theorem bs_length (s : ByteArray) : (bs s).length = s.size := by simp [bs]
theorem bt_bs (s : ByteArray) (i : Int) : bt s i = rd (bs s) i := by
  unfold bt rd bs
  rw [List.getD_eq_getElem?_getD, List.getElem?_map]
  by_cases h : i.toNat < s.size
  · rw [dif_pos h, List.getElem?_eq_getElem (by simpa using h)]; simp; rfl
  · rw [dif_neg h, List.getElem?_eq_none (by simpa using h)]; rfl
theorem bs_range (s : ByteArray) : ∀ b ∈ bs s, 0 ≤ b ∧ b ≤ 255 := by
  intro b hb
  simp only [bs, List.mem_map] at hb
  obtain ⟨c, _, rfl⟩ := hb
  have := c.toNat_lt
  omega
theorem bs_inj {s t : ByteArray} (h : bs s = bs t) : s = t := by
  have h1 : s.data.toList = t.data.toList := by
    refine List.map_inj_right (f := fun b : UInt8 => (b.toNat : Int)) ?_ |>.1 h
    intro x y hxy
    exact UInt8.toNat_inj.1 (by omega)
  cases s; cases t
  simp only [ByteArray.mk.injEq]
  exact Array.ext' h1
theorem toList_loop (s : ByteArray) (i : Nat) (r : List UInt8) : ByteArray.toList.loop s i r = r.reverse ++ s.data.toList.drop i := by
  unfold ByteArray.toList.loop
  split
  next h =>
    rw [toList_loop s (i + 1) (s.get! i :: r)]
    have h' : i < s.data.toList.length := by simpa using h
    rw [List.drop_eq_getElem_cons h']
    have : s.get! i = s.data.toList[i] := by
      show s.data[i]! = _
      rw [getElem!_pos s.data i (by simpa using h)]; simp
    rw [this]; simp
  next h =>
    rw [List.drop_eq_nil_of_le (by simpa using h)]; simp
  termination_by s.size - i
theorem toList_data (s : ByteArray) : s.toList = s.data.toList := by
  unfold ByteArray.toList; rw [toList_loop]; simp
theorem toList_nil (s : ByteArray) : s.toList = [] ↔ bs s = [] := by rw [toList_data]; simp [bs]
theorem bs_drop (s : ByteArray) (i j : Nat) (hj : s.size ≤ j) : bs (s.extract i j) = (bs s).drop i := by
  unfold bs
  rw [ByteArray.data_extract, ← List.map_drop]
  congr 1
  rw [Array.toList_extract]
  have : s.data.toList.length = s.size := by simp
  simp only [List.extract]
  rw [List.take_of_length_le (by rw [List.length_drop]; omega)]
theorem bs_take (s : ByteArray) (j : Nat) : bs (s.extract 0 j) = (bs s).take j := by
  unfold bs
  rw [ByteArray.data_extract, ← List.map_take]
  congr 1
  rw [Array.toList_extract]
  simp [List.extract]

/-! #### keys -/
def letters (l : List Int) : Bool := l.all fun b => decide (97 ≤ b ∧ b ≤ 122)
/-- KeyValid, over the bytes. -/
def keyOk (l : List Int) : Bool := decide (1 ≤ l.length ∧ l.length ≤ 4) && letters l
theorem rd_zero {l : List Int} {b : Int} {t : List Int} (h : l = b :: t) : rd l 0 = b := by subst h; rfl
theorem impl_lettersOnly_f : ∀ (l : List Int) (s : ByteArray), bs s = l → impl_lettersOnly.fL s = some (letters l)
  | [], s, h => by rw [impl_lettersOnly.fL_eq, if_pos ((toList_nil s).2 h)]; rfl
  | b :: l, s, h => by
    have hs : s.size = l.length + 1 := by rw [← bs_length, h]; rfl
    have hn : ¬ s.toList = [] := by rw [toList_nil, h]; simp
    have hd : bs (s.extract 1 s.size) = l := by rw [bs_drop s 1 s.size (Nat.le_refl _), h]; rfl
    rw [impl_lettersOnly.fL_eq, if_neg hn, if_pos (by omega), bt_bs, rd_zero h, if_pos (by omega : (1 : Int) ≤ (s.size : Int)), impl_lettersOnly_f l _ hd, Option.bind_some]
    unfold letters
    rw [List.all_cons]
    by_cases h1 : b ≥ 97
    · rw [if_pos h1]
      by_cases h2 : b ≤ 122
      · rw [if_pos h2, show decide (97 ≤ b ∧ b ≤ 122) = true from decide_eq_true ⟨h1, h2⟩]; rfl
      · rw [if_neg h2, show decide (97 ≤ b ∧ b ≤ 122) = false from decide_eq_false (by omega)]; rfl
    · rw [if_neg h1, show decide (97 ≤ b ∧ b ≤ 122) = false from decide_eq_false (by omega)]; rfl
theorem impl_KeyValid_f (s : ByteArray) : impl_KeyValid.fL s = some (keyOk (bs s)) := by
  rw [impl_KeyValid.fL_eq, impl_lettersOnly_f _ s rfl, Option.bind_some]
  unfold keyOk
  rw [bs_length]
  by_cases h1 : (s.size : Int) < 1
  · rw [if_pos h1, decide_eq_false (by omega)]; rfl
  · rw [if_neg h1]
    by_cases h2 : (s.size : Int) > 4
    · rw [if_pos h2, decide_eq_false (by omega)]; rfl
    · rw [if_neg h2, decide_eq_true (by omega)]; rfl
theorem keyOk_len {l : List Int} (h : keyOk l = true) : 1 ≤ l.length ∧ l.length ≤ 4 := by
  simp only [keyOk, Bool.and_eq_true, decide_eq_true_eq] at h; exact h.1
theorem keyOk_letters {l : List Int} (h : keyOk l = true) : letters l = true := by
  simp only [keyOk, Bool.and_eq_true, decide_eq_true_eq] at h; exact h.2
theorem letters_cons {b : Int} {l : List Int} (h : letters (b :: l) = true) : (97 ≤ b ∧ b ≤ 122) ∧ letters l = true := by
  simp only [letters, List.all_cons, Bool.and_eq_true, decide_eq_true_eq] at h
  exact ⟨h.1, by simp only [letters]; exact h.2⟩

/-! #### keyrank -/
/-- How many keys begin with the letters of a place, from a depth on. -/
def kfrom (d : Int) : Int := if d ≥ 4 then 1 else if d = 3 then 27 else if d = 2 then 703 else 18279
def rankBelow : List Int → Int → Int
  | [], _ => 0
  | b :: l, d => 1 + (b - 97) * kfrom d + rankBelow l (d + 1)
def keyRank (l : List Int) : Int := if keyOk l = true then rankBelow l 1 - 1 else -1
theorem impl_keysFrom_f (d : Int) (h1 : 1 ≤ d) (h2 : d ≤ 10) : impl_keysFrom.fL d = some (kfrom d) := by
  have h4 : ∀ e : Int, e ≥ 4 → impl_keysFrom.fL e = some 1 := fun e he => by rw [impl_keysFrom.fL_eq, if_pos he]
  have h3 : impl_keysFrom.fL 3 = some 27 := by
    rw [impl_keysFrom.fL_eq, if_neg (by omega), w64 (by omega) (by omega), show (3 : Int) + 1 = 4 from rfl, h4 4 (by omega)]; simp [wrap64]
  have h2' : impl_keysFrom.fL 2 = some 703 := by
    rw [impl_keysFrom.fL_eq, if_neg (by omega), w64 (by omega) (by omega), show (2 : Int) + 1 = 3 from rfl, h3]; simp [wrap64]
  have h1' : impl_keysFrom.fL 1 = some 18279 := by
    rw [impl_keysFrom.fL_eq, if_neg (by omega), w64 (by omega) (by omega), show (1 : Int) + 1 = 2 from rfl, h2']; simp [wrap64]
  unfold kfrom
  by_cases e : d ≥ 4
  · rw [h4 d e, if_pos e]
  · rw [if_neg e]
    by_cases e3 : d = 3
    · rw [if_pos e3, e3, h3]
    · rw [if_neg e3]
      by_cases e2 : d = 2
      · rw [if_pos e2, e2, h2']
      · rw [if_neg e2, show d = 1 by omega, h1']
theorem kfrom_range (d : Int) : 1 ≤ kfrom d ∧ kfrom d ≤ 18279 := by unfold kfrom; split <;> (try split) <;> (try split) <;> omega
theorem rankBelow_range : ∀ (l : List Int) (d : Int), letters l = true → 0 ≤ rankBelow l d ∧ rankBelow l d ≤ 500000 * l.length
  | [], d, _ => by simp [rankBelow]
  | b :: l, d, h => by
    obtain ⟨hb, hl⟩ := letters_cons h
    have hr := rankBelow_range l (d + 1) hl
    have hk := kfrom_range d
    have m1 : 0 ≤ (b - 97) * kfrom d := Int.mul_nonneg (by omega) (by omega)
    have m2 : (b - 97) * kfrom d ≤ 25 * 18279 := Int.mul_le_mul (by omega) hk.2 (by omega) (by omega)
    simp only [rankBelow, List.length_cons]
    omega
theorem impl_rankBelow_f : ∀ (l : List Int) (s : ByteArray) (d : Int), bs s = l → letters l = true → l.length ≤ 4 → 1 ≤ d → d + l.length ≤ 6 → impl_rankBelow.fL s d = some (rankBelow l d)
  | [], s, d, h, _, _, _, _ => by rw [impl_rankBelow.fL_eq, if_pos ((toList_nil s).2 h)]; rfl
  | b :: l, s, d, h, hl, hn, hd, hd2 => by
    simp only [List.length_cons] at hn hd2
    obtain ⟨hb, hl'⟩ := letters_cons hl
    have hs : s.size = l.length + 1 := by rw [← bs_length, h]; rfl
    have hnn : ¬ s.toList = [] := by rw [toList_nil, h]; simp
    have hdr : bs (s.extract 1 s.size) = l := by rw [bs_drop s 1 s.size (Nat.le_refl _), h]; rfl
    have hk := kfrom_range d
    have hr := rankBelow_range l (d + 1) hl'
    have m1 : 0 ≤ (b - 97) * kfrom d := Int.mul_nonneg (by omega) (by omega)
    have m2 : (b - 97) * kfrom d ≤ 25 * 18279 := Int.mul_le_mul (by omega) hk.2 (by omega) (by omega)
    rw [impl_rankBelow.fL_eq, if_neg hnn, if_pos (by omega), impl_keysFrom_f d hd (by omega), Option.bind_some, if_pos (by omega), w64 (n := d + 1) (by omega) (by omega),
      impl_rankBelow_f l _ (d + 1) hdr hl' (by omega) (by omega) (by omega), Option.bind_some, bt_bs, rd_zero h, Int.emod_eq_of_lt (a := b - 97) (by omega) (by omega),
      w64 (n := (b - 97) * kfrom d) (by omega) (by omega), w64 (n := 1 + (b - 97) * kfrom d) (by omega) (by omega), w64 (by omega) (by omega)]
    rfl
theorem impl_KeyRank_f (s : ByteArray) : impl_KeyRank.fL s = some (keyRank (bs s)) := by
  rw [impl_KeyRank.fL_eq, impl_KeyValid_f, Option.bind_some]
  unfold keyRank
  by_cases h : keyOk (bs s) = true
  · have hn := keyOk_len h
    have hr := rankBelow_range (bs s) 1 (keyOk_letters h)
    rw [if_pos h, if_pos h, impl_rankBelow_f _ s 1 rfl (keyOk_letters h) hn.2 (by omega) (by omega), Option.bind_some, w64 (by omega) (by omega)]
  · rw [if_neg h, if_neg h]

/-! #### spec_l1In -/
theorem spec_l1In_f (a lo hi : Int) : spec_l1In.f a lo hi = some (decide (lo ≤ a ∧ a ≤ hi)) := by
  unfold spec_l1In.f
  by_cases h : a ≥ lo
  · rw [if_pos h]; congr 1; rw [decide_eq_decide]; omega
  · rw [if_neg h]; congr 1; rw [eq_comm, decide_eq_false_iff_not]; omega

/-! #### spec_KeyValid -/
theorem spec_KeyValid_l0 (s : ByteArray) (hs : s.size ≤ 1000) : ∀ (ys : List Int) (i : Int), 0 ≤ i → i ≤ s.size → (bs s).drop i.toNat = ys → spec_KeyValid.l0L s i = some (letters ys)
  | [], i, h0, h1, hd => by
    have := drop_nil h0 (by rw [bs_length]; exact h1) hd
    rw [bs_length] at this
    rw [spec_KeyValid.l0L_eq, if_neg (by omega)]; rfl
  | y :: ys, i, h0, h1, hd => by
    obtain ⟨hr, hl, hd'⟩ := rd_drop h0 hd
    rw [bs_length] at hl
    rw [spec_KeyValid.l0L_eq, if_pos hl, if_pos h0, bt_bs, hr, w64 (by omega) (by omega)]
    unfold letters
    rw [List.all_cons]
    by_cases e1 : y < 97
    · rw [if_pos e1, decide_eq_false (by omega)]; rfl
    · rw [if_neg e1]
      by_cases e2 : y > 122
      · rw [if_pos e2, decide_eq_false (by omega)]; rfl
      · rw [if_neg e2, decide_eq_true (by omega), spec_KeyValid_l0 s hs ys (i + 1) (by omega) (by omega) hd']; rfl
theorem spec_KeyValid_f (s : ByteArray) : spec_KeyValid.fL s = some (keyOk (bs s)) := by
  rw [spec_KeyValid.fL_eq, spec_l1In_f, Option.bind_some]
  unfold keyOk
  rw [bs_length]
  by_cases h : 1 ≤ (s.size : Int) ∧ (s.size : Int) ≤ 4
  · rw [if_pos (by simpa using h), decide_eq_true (by omega), spec_KeyValid_l0 s (by omega) (bs s) 0 (by omega) (by omega) (by simp)]; rfl
  · rw [if_neg (by simpa using h), decide_eq_false (by omega)]; rfl

/-! #### valueValid -/
theorem impl_valueValid_f (v : Int) : impl_valueValid.f v = some (decide (0 ≤ v ∧ v ≤ 999)) := by
  unfold impl_valueValid.f
  by_cases h : v ≥ 0
  · rw [if_pos h]; congr 1; rw [decide_eq_decide]; omega
  · rw [if_neg h]; congr 1; rw [eq_comm, decide_eq_false_iff_not]; omega

/-! #### PairDigest -/
def digest (k : List Int) (v : Int) : Int := if keyOk k = true ∧ 0 ≤ v ∧ v ≤ 999 then (1009 * keyRank k + 7 * v + 3) % 99991 else -1
theorem keyRank_range (l : List Int) : -1 ≤ keyRank l ∧ keyRank l ≤ 2000000 := by
  unfold keyRank
  by_cases h : keyOk l = true
  · have hn := keyOk_len h
    have hr := rankBelow_range l 1 (keyOk_letters h)
    rw [if_pos h]; omega
  · rw [if_neg h]; omega
theorem keyRank_nonneg {l : List Int} (h : keyOk l = true) : 0 ≤ keyRank l := by
  have hn := keyOk_len h
  unfold keyRank
  rw [if_pos h]
  cases l with
  | nil => simp at hn
  | cons b l =>
    obtain ⟨hb, hl⟩ := letters_cons (keyOk_letters h)
    have hr := rankBelow_range l (1 + 1) hl
    have hk := kfrom_range 1
    have m1 : 0 ≤ (b - 97) * kfrom 1 := Int.mul_nonneg (by omega) (by omega)
    simp only [rankBelow]
    omega
theorem digest_range (k : List Int) (v : Int) : -1 ≤ digest k v ∧ digest k v < 99991 := by
  unfold digest
  split <;> omega
theorem impl_PairDigest_f (s : ByteArray) (v : Int) : impl_PairDigest.fL s v = some (digest (bs s) v) := by
  rw [impl_PairDigest.fL_eq, impl_KeyValid_f, Option.bind_some, impl_valueValid_f, Option.bind_some, impl_KeyRank_f, Option.bind_some]
  unfold digest
  by_cases h : keyOk (bs s) = true
  · have h0 := keyRank_nonneg h
    have h1 := keyRank_range (bs s)
    rw [if_pos h]
    by_cases hv : 0 ≤ v ∧ v ≤ 999
    · rw [if_pos (by simpa using hv), if_pos ⟨h, hv⟩, w64 (n := 1009 * keyRank (bs s)) (by omega) (by omega), w64 (n := 7 * v) (by omega) (by omega), w64 (n := 1009 * keyRank (bs s) + 7 * v) (by omega) (by omega), w64 (by omega) (by omega), Int.tmod_eq_emod_of_nonneg (by omega)]
    · rw [if_neg (by simpa using hv), if_neg (fun e => hv e.2)]
  · rw [if_neg h, if_neg (fun e => h e.1)]
theorem spec_l1Weight_f (d : Int) (h0 : 0 ≤ d) : spec_l1Weight.f d = some (kfrom (d + 1)) := by
  unfold spec_l1Weight.f kfrom
  by_cases h1 : d = 0
  · subst h1; rfl
  · by_cases h2 : d = 1
    · subst h2; rfl
    · by_cases h3 : d = 2
      · subst h3; rfl
      · rw [if_neg h1, if_neg h2, if_neg h3, if_pos (by omega)]
theorem spec_KeyRank_l0 (s : ByteArray) (hs : s.size ≤ 4) : ∀ (ys : List Int) (i n : Int), 0 ≤ i → i ≤ s.size → (bs s).drop i.toNat = ys → letters ys = true → -1 ≤ n → n ≤ 500000 * i → spec_KeyRank.l0L s n i = some (n + rankBelow ys (i + 1))
  | [], i, n, h0, h1, hd, hl, hn, hn2 => by
    have := drop_nil h0 (by rw [bs_length]; exact h1) hd
    rw [bs_length] at this
    rw [spec_KeyRank.l0L_eq, if_neg (by omega)]; simp [rankBelow]
  | y :: ys, i, n, h0, h1, hd, hl, hn, hn2 => by
    obtain ⟨hr, hlt, hd'⟩ := rd_drop h0 hd
    rw [bs_length] at hlt
    obtain ⟨hy, hl'⟩ := letters_cons hl
    have hk := kfrom_range (i + 1)
    have m1 : 0 ≤ (y - 97) * kfrom (i + 1) := Int.mul_nonneg (by omega) (by omega)
    have m2 : (y - 97) * kfrom (i + 1) ≤ 25 * 18279 := Int.mul_le_mul (by omega) hk.2 (by omega) (by omega)
    rw [spec_KeyRank.l0L_eq, if_pos hlt, if_pos h0, spec_l1Weight_f i h0, Option.bind_some, bt_bs, hr, Int.emod_eq_of_lt (a := y - 97) (by omega) (by omega), w64 (n := n + 1) (by omega) (by omega), w64 (n := (y - 97) * kfrom (i + 1)) (by omega) (by omega),
      w64 (n := n + 1 + (y - 97) * kfrom (i + 1)) (by omega) (by omega), w64 (n := i + 1) (by omega) (by omega), spec_KeyRank_l0 s hs ys (i + 1) _ (by omega) (by omega) hd' hl' (by omega) (by omega)]
    simp only [rankBelow]
    congr 1
    omega
theorem spec_KeyRank_f (s : ByteArray) : spec_KeyRank.fL s = some (keyRank (bs s)) := by
  rw [spec_KeyRank.fL_eq, spec_KeyValid_f, Option.bind_some]
  unfold keyRank
  by_cases h : keyOk (bs s) = true
  · have hn := keyOk_len h
    rw [bs_length] at hn
    rw [if_pos h, if_pos h, spec_KeyRank_l0 s (by omega) (bs s) 0 (-1) (by omega) (by omega) (by simp) (keyOk_letters h) (by omega) (by omega)]
    congr 1
    rw [show (0 : Int) + 1 = 1 from rfl]
    omega
  · rw [if_neg h, if_neg h]
theorem spec_PairDigest_f (s : ByteArray) (v : Int) : spec_PairDigest.fL s v = some (digest (bs s) v) := by
  rw [spec_PairDigest.fL_eq, spec_KeyValid_f, Option.bind_some, spec_l1In_f, Option.bind_some, spec_KeyRank_f, Option.bind_some]
  unfold digest
  by_cases h : keyOk (bs s) = true
  · have h0 := keyRank_nonneg h
    have h1 := keyRank_range (bs s)
    rw [if_pos h]
    by_cases hv : 0 ≤ v ∧ v ≤ 999
    · rw [if_pos (by simpa using hv), if_pos ⟨h, hv⟩, w64 (n := 1009 * keyRank (bs s)) (by omega) (by omega), w64 (n := 7 * v) (by omega) (by omega), w64 (n := 1009 * keyRank (bs s) + 7 * v) (by omega) (by omega), w64 (by omega) (by omega), Int.tmod_eq_emod_of_nonneg (by omega)]
    · rw [if_neg (by simpa using hv), if_neg (fun e => hv e.2)]
  · rw [if_neg h, if_neg (fun e => h e.1)]

/-! #### pairs -/
def klt (a b : ByteArray) : Bool := Op.bytesLess a.toList b.toList
/-- A pair alone is valid. -/
def pairItem (y : S24) : Bool := keyOk (bs y.f0) && decide (0 ≤ y.f1 ∧ y.f1 ≤ 999)
/-- The key is greater than the one before, if there is one. -/
def above : Option ByteArray → ByteArray → Bool
  | none, _ => true
  | some q, k => klt q k
def pairsFrom : Option ByteArray → List S24 → Bool
  | _, [] => true
  | p, y :: ys => pairItem y && above p y.f0 && pairsFrom (some y.f0) ys
def pairsOk (l : List S24) : Bool := decide (l.length ≤ 48) && pairsFrom none l
theorem getD_cons {α : Type} {xs : List α} {d : α} {i : Int} {y : α} {ys : List α} (h0 : 0 ≤ i) (h : xs.drop i.toNat = y :: ys) : xs.getD i.toNat d = y ∧ i < xs.length ∧ xs.drop (i + 1).toNat = ys := by
  have h1 : i.toNat < xs.length := by
    by_cases e : i.toNat < xs.length
    · exact e
    · rw [List.drop_eq_nil_of_le (by omega)] at h; cases h
  rw [List.drop_eq_getElem_cons h1] at h
  injection h with ha hb
  refine ⟨?_, by omega, ?_⟩
  · rw [List.getD_eq_getElem?_getD, List.getElem?_eq_getElem h1]; exact ha
  · rw [show (i + 1).toNat = i.toNat + 1 by omega]; exact hb
theorem impl_PairsValid_l0 (xs : List S24) (hx : xs.length ≤ 48) : ∀ (ys : List S24) (i : Int) (p : Option ByteArray), 0 ≤ i → i ≤ xs.length → xs.drop i.toNat = ys → (i = 0 → p = none) → (0 < i → p = some (rd_T24 xs (i - 1)).f0) → impl_PairsValid.l0L xs xs (xs.length : Int) i = some (pairsFrom p ys)
  | [], i, p, h0, h1, hd, hp0, hp1 => by
    have := drop_nil h0 h1 hd
    rw [impl_PairsValid.l0L_eq, if_neg (by omega)]; rfl
  | y :: ys, i, p, h0, h1, hd, hp0, hp1 => by
    obtain ⟨hr0, hl, hd'⟩ := getD_cons (d := z24) h0 hd
    have hr : rd_T24 xs i = y := hr0
    have hnext := impl_PairsValid_l0 xs hx ys (i + 1) (some y.f0) (by omega) (by omega) hd' (fun h => by omega) (fun _ => by rw [show i + 1 - 1 = i by omega, hr])
    rw [impl_PairsValid.l0L_eq, if_pos hl, if_pos h0, if_pos hl, hr, impl_KeyValid_f, Option.bind_some, impl_valueValid_f, Option.bind_some]
    simp only [impl_PairsValid.j1L_eq, w64 (n := i - 1) (by omega) (by omega), w64 (n := i + 1) (by omega) (by omega), if_true, pairsFrom, pairItem]
    cases hk : keyOk (bs y.f0) with
    | false => simp
    | true =>
      by_cases hv : 0 ≤ y.f1 ∧ y.f1 ≤ 999
      · rw [decide_eq_true hv]
        by_cases hi : i > 0
        · rw [if_pos rfl, if_neg (by simp), if_pos hi, if_pos (by omega), if_pos (by omega), hp1 hi, hnext]
          simp only [above, klt]
          cases Op.bytesLess (rd_T24 xs (i - 1)).f0.toList y.f0.toList <;> simp
        · rw [if_pos rfl, if_neg (by simp), if_neg hi, hp0 (by omega), hnext]
          simp [above]
      · rw [decide_eq_false hv]; simp
theorem impl_PairsValid_f (xs : List S24) : impl_PairsValid.fL xs = some (pairsOk xs) := by
  rw [impl_PairsValid.fL_eq]
  unfold pairsOk
  by_cases h : (xs.length : Int) > 48
  · rw [if_pos h, decide_eq_false (by omega)]; rfl
  · rw [if_neg h, decide_eq_true (by omega), impl_PairsValid_l0 xs (by omega) xs 0 none (by omega) (by omega) (by simp) (fun _ => rfl) (fun h => by omega)]; rfl

/-! #### spec_pairs -/
theorem spec_PairsValid_l0 (xs : List S24) (hx : xs.length ≤ 48) : ∀ (ys : List S24) (i : Int) (p : Option ByteArray), 0 ≤ i → i ≤ xs.length → xs.drop i.toNat = ys → (i = 0 → p = none) → (0 < i → p = some (rd_T24 xs (i - 1)).f0) → spec_PairsValid.l0L xs i = some (pairsFrom p ys)
  | [], i, p, h0, h1, hd, hp0, hp1 => by
    have := drop_nil h0 h1 hd
    rw [spec_PairsValid.l0L_eq, if_neg (by omega)]; rfl
  | y :: ys, i, p, h0, h1, hd, hp0, hp1 => by
    obtain ⟨hr0, hl, hd'⟩ := getD_cons (d := z24) h0 hd
    have hr : rd_T24 xs i = y := hr0
    have hnext := spec_PairsValid_l0 xs hx ys (i + 1) (some y.f0) (by omega) (by omega) hd' (fun h => by omega) (fun _ => by rw [show i + 1 - 1 = i by omega, hr])
    rw [spec_PairsValid.l0L_eq, if_pos hl, if_pos h0, hr, spec_KeyValid_f, Option.bind_some, spec_l1In_f, Option.bind_some]
    simp only [w64 (n := i - 1) (by omega) (by omega), w64 (n := i + 1) (by omega) (by omega), pairsFrom, pairItem]
    cases hk : keyOk (bs y.f0) with
    | false => simp
    | true =>
      by_cases hv : 0 ≤ y.f1 ∧ y.f1 ≤ 999
      · rw [decide_eq_true hv]
        by_cases hi : i > 0
        · rw [if_pos rfl, if_pos rfl, if_pos hi, if_pos (by omega), if_pos (by omega), hp1 hi, hnext]
          simp only [above, klt]
          cases Op.bytesLess (rd_T24 xs (i - 1)).f0.toList y.f0.toList <;> simp
        · rw [if_pos rfl, if_pos rfl, if_neg hi, hp0 (by omega), hnext]
          simp [above]
      · rw [decide_eq_false hv]; simp
theorem spec_PairsValid_f (xs : List S24) : spec_PairsValid.fL xs = some (pairsOk xs) := by
  rw [spec_PairsValid.fL_eq]
  unfold pairsOk
  by_cases h : (xs.length : Int) > 48
  · rw [if_pos h, decide_eq_false (by omega)]; rfl
  · rw [if_neg h, decide_eq_true (by omega), spec_PairsValid_l0 xs (by omega) xs 0 none (by omega) (by omega) (by simp) (fun _ => rfl) (fun h => by omega)]; rfl

/-! #### PairsDigest -/
def dsum : List S24 → Int
  | [] => 0
  | y :: ys => digest (bs y.f0) y.f1 + dsum ys
def pairsDigest (l : List S24) : Int := if pairsOk l = true then dsum l % 99991 else -1
theorem pairsOk_len {l : List S24} (h : pairsOk l = true) : l.length ≤ 48 := by
  simp only [pairsOk, Bool.and_eq_true, decide_eq_true_eq] at h; exact h.1
theorem pairsOk_from {l : List S24} (h : pairsOk l = true) : pairsFrom none l = true := by
  simp only [pairsOk, Bool.and_eq_true, decide_eq_true_eq] at h; exact h.2
theorem pairsFrom_cons {p : Option ByteArray} {y : S24} {ys : List S24} (h : pairsFrom p (y :: ys) = true) : pairItem y = true ∧ above p y.f0 = true ∧ pairsFrom (some y.f0) ys = true := by
  simp only [pairsFrom, Bool.and_eq_true] at h; exact ⟨h.1.1, h.1.2, h.2⟩
theorem digest_item {y : S24} (h : pairItem y = true) : digest (bs y.f0) y.f1 = (1009 * keyRank (bs y.f0) + 7 * y.f1 + 3) % 99991 ∧ 0 ≤ y.f1 ∧ y.f1 ≤ 999 := by
  simp only [pairItem, Bool.and_eq_true, decide_eq_true_eq] at h
  exact ⟨by unfold digest; rw [if_pos ⟨h.1, h.2⟩], h.2.1, h.2.2⟩
theorem digest_item_range {y : S24} (h : pairItem y = true) : 0 ≤ digest (bs y.f0) y.f1 ∧ digest (bs y.f0) y.f1 ≤ 99990 := by
  rw [(digest_item h).1]; omega
theorem impl_PairsDigest_l0 (xs : List S24) (hx : xs.length ≤ 48) : ∀ (ys : List S24) (i n : Int) (p : Option ByteArray), 0 ≤ i → i ≤ xs.length → xs.drop i.toNat = ys → pairsFrom p ys = true → 0 ≤ n → n ≤ 99990 * i → impl_PairsDigest.l0L n xs (xs.length : Int) i = some ((n + dsum ys) % 99991)
  | [], i, n, p, h0, h1, hd, hp, hn, hn2 => by
    have := drop_nil h0 h1 hd
    rw [impl_PairsDigest.l0L_eq, if_neg (by omega), Int.tmod_eq_emod_of_nonneg hn]; simp [dsum]
  | y :: ys, i, n, p, h0, h1, hd, hp, hn, hn2 => by
    obtain ⟨hr0, hl, hd'⟩ := getD_cons (d := z24) h0 hd
    have hr : rd_T24 xs i = y := hr0
    obtain ⟨hy, _, hys⟩ := pairsFrom_cons hp
    have hg := digest_item_range hy
    rw [impl_PairsDigest.l0L_eq, if_pos hl, if_pos h0, if_pos hl, hr, impl_PairDigest_f, Option.bind_some, w64 (by omega) (by omega), w64 (n := i + 1) (by omega) (by omega),
      impl_PairsDigest_l0 xs hx ys (i + 1) _ _ (by omega) (by omega) hd' hys (by omega) (by omega)]
    simp only [dsum]
    congr 2
    omega
theorem impl_PairsDigest_f (xs : List S24) : impl_PairsDigest.fL xs = some (pairsDigest xs) := by
  rw [impl_PairsDigest.fL_eq, impl_PairsValid_f, Option.bind_some]
  unfold pairsDigest
  by_cases h : pairsOk xs = true
  · rw [if_pos h, if_pos h, impl_PairsDigest_l0 xs (pairsOk_len h) xs 0 0 none (by omega) (by omega) (by simp) (pairsOk_from h) (by omega) (by omega)]; simp
  · rw [if_neg h, if_neg h]
theorem spec_PairsDigest_l0 (xs : List S24) (hx : xs.length ≤ 48) : ∀ (ys : List S24) (i n : Int) (p : Option ByteArray), 0 ≤ i → i ≤ xs.length → xs.drop i.toNat = ys → pairsFrom p ys = true → 0 ≤ n → n ≤ 99990 → spec_PairsDigest.l0L xs n i = some ((n + dsum ys) % 99991)
  | [], i, n, p, h0, h1, hd, hp, hn, hn2 => by
    have := drop_nil h0 h1 hd
    rw [spec_PairsDigest.l0L_eq, if_neg (by omega)]; simp [dsum]; omega
  | y :: ys, i, n, p, h0, h1, hd, hp, hn, hn2 => by
    obtain ⟨hr0, hl, hd'⟩ := getD_cons (d := z24) h0 hd
    have hr : rd_T24 xs i = y := hr0
    obtain ⟨hy, _, hys⟩ := pairsFrom_cons hp
    have hg := digest_item_range hy
    rw [spec_PairsDigest.l0L_eq, if_pos hl, if_pos h0, hr, spec_PairDigest_f, Option.bind_some, w64 (n := n + _) (by omega) (by omega), w64 (n := i + 1) (by omega) (by omega), Int.tmod_eq_emod_of_nonneg (by omega),
      spec_PairsDigest_l0 xs hx ys (i + 1) _ _ (by omega) (by omega) hd' hys (by omega) (by omega)]
    simp only [dsum]
    congr 1
    omega
theorem spec_PairsDigest_f (xs : List S24) : spec_PairsDigest.fL xs = some (pairsDigest xs) := by
  rw [spec_PairsDigest.fL_eq, spec_PairsValid_f, Option.bind_some]
  unfold pairsDigest
  by_cases h : pairsOk xs = true
  · rw [if_pos h, if_pos h, spec_PairsDigest_l0 xs (pairsOk_len h) xs 0 0 none (by omega) (by omega) (by simp) (pairsOk_from h) (by omega) (by omega)]; simp
  · rw [if_neg h, if_neg h]

/-! #### intS -/
theorem set_at {α : Type} {xs : List α} {i : Nat} {y z : α} {ys : List α} (h : xs.drop i = y :: ys) : (xs.set i z).take (i + 1) = xs.take i ++ [z] ∧ (xs.set i z).drop (i + 1) = ys ∧ (xs.set i z).length = xs.length := by
  have h1 : i < xs.length := by
    by_cases e : i < xs.length
    · exact e
    · rw [List.drop_eq_nil_of_le (by omega)] at h; cases h
  rw [List.drop_eq_getElem_cons h1] at h
  injection h with ha hb
  refine ⟨?_, ?_, by simp⟩
  · rw [List.take_succ_eq_append_getElem (by simpa using h1), List.take_set_of_le (by omega)]; simp
  · rw [List.drop_set_of_lt (by omega)]; exact hb
theorem drop_take_cons {α : Type} {xs pre : List α} {i : Nat} {y : α} {ys : List α} (h : xs.drop i = y :: ys) : xs.take (i + 1) = xs.take i ++ [y] ∧ i < xs.length ∧ xs.drop (i + 1) = ys := by
  have h1 : i < xs.length := by
    by_cases e : i < xs.length
    · exact e
    · rw [List.drop_eq_nil_of_le (by omega)] at h; cases h
  rw [List.drop_eq_getElem_cons h1] at h
  injection h with ha hb
  exact ⟨by rw [List.take_succ_eq_append_getElem h1, ha], h1, hb⟩

/-! #### loops -/
theorem getD_drop {α : Type} {xs : List α} {d : α} {i : Int} {y : α} {ys : List α} (h0 : 0 ≤ i) (h : xs.drop i.toNat = y :: ys) : xs.getD i.toNat d = y ∧ i < xs.length ∧ xs.drop (i + 1).toNat = ys := by
  have h1 : i.toNat < xs.length := by
    by_cases e : i.toNat < xs.length
    · exact e
    · rw [List.drop_eq_nil_of_le (by omega)] at h; cases h
  rw [List.drop_eq_getElem_cons h1] at h
  injection h with ha hb
  refine ⟨?_, by omega, ?_⟩
  · rw [List.getD_eq_getElem?_getD, List.getElem?_eq_getElem h1]; exact ha
  · rw [show (i + 1).toNat = i.toNat + 1 by omega]; exact hb
/-- A copy, element by element, into a list of the same length. -/
theorem copy_loop {α : Type} (ys : List α) (d : α) (n : Nat) (hn : n = ys.length) (L : List α → Int → Option (List α))
    (hL : ∀ (zs : List α) (i : Int), 0 ≤ i → i ≤ n → zs.length = n → L zs i = if i < (n : Int) then L (zs.set i.toNat (ys.getD i.toNat d)) (i + 1) else some zs) :
    ∀ (ws zs : List α) (i : Int), 0 ≤ i → i ≤ n → ys.drop i.toNat = ws → zs.length = n → zs.take i.toNat = ys.take i.toNat → L zs i = some ys
  | [], zs, i, h0, h1, hd, hl, ht => by
    have := drop_nil h0 (by omega) hd
    rw [hL zs i h0 h1 hl, if_neg (by omega)]
    rw [List.take_of_length_le (by omega), List.take_of_length_le (by omega)] at ht
    rw [ht]
  | w :: ws, zs, i, h0, h1, hd, hl, ht => by
    obtain ⟨hr, hlt, hd'⟩ := getD_drop (d := d) h0 hd
    obtain ⟨t1, _, _⟩ := drop_take_cons (pre := ys) hd
    have hz : zs.drop i.toNat = zs[i.toNat]'(by omega) :: zs.drop (i.toNat + 1) := List.drop_eq_getElem_cons (by omega)
    obtain ⟨s1, s2, s3⟩ := set_at (z := w) hz
    rw [hL zs i h0 h1 hl, if_pos (by omega), hr]
    exact copy_loop ys d n hn L hL ws _ (i + 1) (by omega) (by omega) hd' (by omega) (by rw [show (i + 1).toNat = i.toNat + 1 by omega, s1, t1, ht])
/-- A comparison, element by element, of lists of the same length. -/
theorem eq_loop {α : Type} [DecidableEq α] (xs zs : List α) (d : α) (hl : xs.length = zs.length) (L : Int → Option Bool)
    (hL : ∀ i : Int, 0 ≤ i → i ≤ xs.length → L i = if i < (xs.length : Int) then (if xs.getD i.toNat d = zs.getD i.toNat d then L (i + 1) else some false) else some true) :
    ∀ (ys ws : List α) (i : Int), 0 ≤ i → i ≤ xs.length → xs.drop i.toNat = ys → zs.drop i.toNat = ws → L i = some (decide (ys = ws))
  | [], ws, i, h0, h1, hd, hw => by
    have := drop_nil h0 h1 hd
    rw [hL i h0 h1, if_neg (by omega)]
    rw [List.drop_eq_nil_of_le (by omega)] at hw
    rw [← hw]; rfl
  | y :: ys, [], i, h0, h1, hd, hw => by
    have := drop_nil h0 (by omega) hw
    obtain ⟨hr, hlt, hd'⟩ := getD_drop (d := d) h0 hd
    omega
  | y :: ys, w :: ws, i, h0, h1, hd, hw => by
    obtain ⟨hr, hlt, hd'⟩ := getD_drop (d := d) h0 hd
    obtain ⟨hr2, hlt2, hw'⟩ := getD_drop (d := d) h0 hw
    rw [hL i h0 h1, if_pos hlt, hr, hr2]
    by_cases e : y = w
    · rw [if_pos e, eq_loop xs zs d hl L hL ys ws (i + 1) (by omega) (by omega) hd' hw']
      simp [e]
    · rw [if_neg e]; simp [e]
theorem eq_loop0 {α : Type} [DecidableEq α] (xs zs : List α) (d : α) (hl : xs.length = zs.length) (L : Int → Option Bool)
    (hL : ∀ i : Int, 0 ≤ i → i ≤ xs.length → L i = if i < (xs.length : Int) then (if xs.getD i.toNat d = zs.getD i.toNat d then L (i + 1) else some false) else some true) : L 0 = some (decide (xs = zs)) :=
  eq_loop xs zs d hl L hL xs zs 0 (by omega) (by omega) (by simp) (by simp)
theorem copy_loop0 {α : Type} (ys zs : List α) (d : α) (n : Nat) (hn : n = ys.length) (hz : zs.length = n) (L : List α → Int → Option (List α))
    (hL : ∀ (zs : List α) (i : Int), 0 ≤ i → i ≤ n → zs.length = n → L zs i = if i < (n : Int) then L (zs.set i.toNat (ys.getD i.toNat d)) (i + 1) else some zs) : L zs 0 = some ys :=
  copy_loop ys d n hn L hL ys zs 0 (by omega) (by omega) (by simp) hz (by simp)
/-- Marks: an element for each number, c numbers an element. -/
def marks {α : Type} (el : Int → α) (c : Int) : Nat → Int → List α
  | 0, _ => []
  | n + 1, k => el k :: marks el c n (k + c)
theorem marks_length {α : Type} (el : Int → α) (c : Int) : ∀ (n : Nat) (k : Int), (marks el c n k).length = n
  | 0, _ => rfl
  | n + 1, k => by simp [marks, marks_length el c n]
theorem mark_loop {α : Type} (el : Int → α) (c : Int) (hc : 0 ≤ c) (hc2 : c ≤ 1000) (n : Nat) (hn : n ≤ 1000000000) (L : List α → Int → Int → Option (Int × List α))
    (hL : ∀ (zs : List α) (k i : Int), 0 ≤ i → i ≤ n → zs.length = n → 0 ≤ k → k ≤ 100000000000 + 1000 * n → L zs k i = if i < (n : Int) then L (zs.set i.toNat (el k)) (k + c) (i + 1) else some (k, zs)) :
    ∀ (ys zs : List α) (k i : Int), 0 ≤ i → i ≤ n → zs.length = n → zs.drop i.toNat = ys → 0 ≤ k → k ≤ 100000000000 + 1000 * i → L zs k i = some (k + c * ys.length, zs.take i.toNat ++ marks el c ys.length k)
  | [], zs, k, i, h0, h1, hl, hd, hk, hk2 => by
    have := drop_nil h0 (by omega) hd
    rw [hL zs k i h0 h1 hl hk (by omega), if_neg (by omega), List.take_of_length_le (by omega)]; simp [marks]
  | y :: ys, zs, k, i, h0, h1, hl, hd, hk, hk2 => by
    obtain ⟨hr, hlt, hd'⟩ := getD_drop (d := y) h0 hd
    obtain ⟨s1, s2, s3⟩ := set_at (z := el k) hd
    rw [hL zs k i h0 h1 hl hk (by omega), if_pos (by omega),
      mark_loop el c hc hc2 n hn L hL ys _ (k + c) (i + 1) (by omega) (by omega) (by omega) (by rw [show (i + 1).toNat = i.toNat + 1 by omega]; exact s2) (by omega) (by omega),
      show (i + 1).toNat = i.toNat + 1 by omega, s1]
    simp only [List.length_cons, marks, List.append_assoc, List.singleton_append]
    congr 2
    rw [show ((ys.length + 1 : Nat) : Int) = (ys.length : Int) + 1 by omega, Int.mul_add]
    omega
theorem mark_loop0 {α : Type} (el : Int → α) (c : Int) (hc : 0 ≤ c) (hc2 : c ≤ 1000) (zs : List α) (hn : zs.length ≤ 1000000000) (k : Int) (hk : 0 ≤ k) (hk2 : k ≤ 100000000000) (L : List α → Int → Int → Option (Int × List α))
    (hL : ∀ (ws : List α) (k i : Int), 0 ≤ i → i ≤ zs.length → ws.length = zs.length → 0 ≤ k → k ≤ 100000000000 + 1000 * zs.length → L ws k i = if i < (zs.length : Int) then L (ws.set i.toNat (el k)) (k + c) (i + 1) else some (k, ws)) :
    L zs k 0 = some (k + c * zs.length, marks el c zs.length k) := by
  have := mark_loop el c hc hc2 zs.length hn L hL zs zs k 0 (by omega) (by omega) rfl (by simp) hk (by omega)
  simpa using this
theorem held_loop {α : Type} (el : Int → α) (d : α) (c : Int) (hc : 0 ≤ c) (hc2 : c ≤ 1000) (zs : List α) (hn : zs.length ≤ 1000000000) (L : Int → Int → Option Int)
    (hL : ∀ k i : Int, 0 ≤ i → i ≤ zs.length → 0 ≤ k → k ≤ 100000000000 + 1000 * zs.length → (i < zs.length → zs.getD i.toNat d = el k) → L k i = if i < (zs.length : Int) then L (k + c) (i + 1) else some k) :
    ∀ (n : Nat) (k i : Int), 0 ≤ i → i ≤ zs.length → zs.drop i.toNat = marks el c n k → 0 ≤ k → k ≤ 100000000000 + 1000 * i → L k i = some (k + c * n)
  | 0, k, i, h0, h1, hd, hk, hk2 => by
    have := drop_nil h0 h1 hd
    rw [hL k i h0 h1 hk (by omega) (fun h => by omega), if_neg (by omega)]; simp
  | n + 1, k, i, h0, h1, hd, hk, hk2 => by
    obtain ⟨hr, hlt, hd'⟩ := getD_drop (d := d) h0 hd
    rw [hL k i h0 h1 hk (by omega) (fun _ => hr), if_pos hlt, held_loop el d c hc hc2 zs hn L hL n (k + c) (i + 1) (by omega) (by omega) hd' (by omega) (by omega)]
    congr 1
    rw [show ((n + 1 : Nat) : Int) = (n : Int) + 1 by omega, Int.mul_add]
    omega
theorem held_loop0 {α : Type} (el : Int → α) (d : α) (c : Int) (hc : 0 ≤ c) (hc2 : c ≤ 1000) (n : Nat) (hn : n ≤ 1000000000) (k : Int) (hk : 0 ≤ k) (hk2 : k ≤ 100000000000) (L : Int → Int → Option Int)
    (hL : ∀ k' i : Int, 0 ≤ i → i ≤ n → 0 ≤ k' → k' ≤ 100000000000 + 1000 * n → (i < n → (marks el c n k).getD i.toNat d = el k') → L k' i = if i < (n : Int) then L (k' + c) (i + 1) else some k') :
    L k 0 = some (k + c * n) := by
  have hm := marks_length el c n k
  refine held_loop el d c hc hc2 (marks el c n k) (by omega) L (fun k' i => ?_) n k 0 (by omega) (by omega) (by simp) hk (by omega)
  rw [hm]
  exact hL k' i

/-! #### refl_loop -/
theorem refl_loop (n : Nat) (L : Int → Option Bool) (hL : ∀ i : Int, 0 ≤ i → i ≤ n → L i = if i < (n : Int) then L (i + 1) else some true) : ∀ (m : Nat) (i : Int), i + m = n → 0 ≤ i → L i = some true
  | 0, i, h, h0 => by rw [hL i h0 (by omega), if_neg (by omega)]
  | m + 1, i, h, h0 => by rw [hL i h0 (by omega), if_pos (by omega)]; exact refl_loop n L hL m (i + 1) (by omega) (by omega)
theorem refl_loop0 (n : Nat) (L : Int → Option Bool) (hL : ∀ i : Int, 0 ≤ i → i ≤ n → L i = if i < (n : Int) then L (i + 1) else some true) : L 0 = some true := refl_loop n L hL n 0 (by omega) (by omega)

/-! #### pairS -/
/-- A pair of the law's own, as the program's. -/
def cvPair (x : S103) : S24 := ⟨x.f0, x.f1⟩
theorem getD_map' {α β : Type} (f : α → β) (xs : List α) (i : Nat) (d : α) (e : β) (h : i < xs.length) : (xs.map f).getD i e = f (xs.getD i d) := by
  simp [List.getD_eq_getElem?_getD, List.getElem?_eq_getElem h]
theorem toPairS_f (xs : List S103) (hx : xs.length ≤ 1048576) : laws_toPairS.fL xs = some (xs.map cvPair) := by
  rw [laws_toPairS.fL_eq, if_pos (by omega), if_pos (by omega)]
  refine copy_loop0 (xs.map cvPair) _ z24 xs.length (by simp) (by simp) (fun zs i => laws_toPairS.l0L xs zs i) (fun zs i h0 h1 hl => ?_)
  rw [laws_toPairS.l0L_eq]
  unfold laws_toPair.f
  by_cases h : i < (xs.length : Int)
  · rw [if_pos h, if_pos h0, Option.bind_some, if_pos (by omega), w64 (by omega) (by omega), if_pos h, getD_map' cvPair xs i.toNat z103 _ (by omega)]; rfl
  · rw [if_neg h, if_neg h]
theorem eqPair_refl (a : ByteArray) (b : Int) : laws_eqPair.f a b a b = some true := by unfold laws_eqPair.f; simp
theorem eqPairS_refl (xs : List S24) (hx : xs.length ≤ 1000000000000) : laws_eqPairS.fL xs xs = some true := by
  rw [laws_eqPairS.fL_eq, if_pos rfl]
  refine refl_loop0 xs.length (fun i => laws_eqPairS.l0L xs xs i) (fun i h0 h1 => ?_)
  rw [laws_eqPairS.l0L_eq]
  by_cases h : i < (xs.length : Int)
  · rw [if_pos h, if_pos h0, if_pos h, eqPair_refl, Option.bind_some, if_pos rfl, w64 (by omega) (by omega), if_pos h]
  · rw [if_neg h, if_neg h]
theorem szPair_f (s : ByteArray) (b k : Int) (hs : s.size ≤ 9223372036854775807) (h0 : 0 ≤ k) (h1 : k ≤ 1048576) : ∃ r, laws_szPair.f s b k = some r ∧ -1 ≤ r ∧ r ≤ k := by
  unfold laws_szPair.f
  rw [w64 (by omega) (by omega)]
  by_cases h : k - (s.size : Int) < 0
  · rw [if_pos h]; exact ⟨_, rfl, by omega, by omega⟩
  · rw [if_neg h]; exact ⟨_, rfl, by omega, by omega⟩
theorem szPairS_l0 (xs : List S103) (hx : xs.length ≤ 1048576) (hB : ∀ x ∈ xs, x.f0.size ≤ 9223372036854775807) : ∀ (n : Nat) (i k : Int), i + n = xs.length → 0 ≤ i → 0 ≤ k → k ≤ 1048576 → ∃ r, laws_szPairS.l0L xs k i = some r ∧ r ≤ k
  | 0, i, k, hi, h0, h1, h2 => by rw [laws_szPairS.l0L_eq, if_neg (by omega)]; exact ⟨_, rfl, by omega⟩
  | n + 1, i, k, hi, h0, h1, h2 => by
    have hm : rd_T103 xs i ∈ xs := by
      unfold rd_T103
      rw [List.getD_eq_getElem?_getD, List.getElem?_eq_getElem (show i.toNat < xs.length by omega)]
      exact List.getElem_mem _
    obtain ⟨r, hr, r0, r1⟩ := szPair_f (rd_T103 xs i).f0 (rd_T103 xs i).f1 k (hB _ hm) h1 h2
    rw [laws_szPairS.l0L_eq, if_pos (by omega), if_pos h0, hr, Option.bind_some, w64 (by omega) (by omega)]
    by_cases h : r < 0
    · rw [if_pos h]; exact ⟨_, rfl, by omega⟩
    · rw [if_neg h]
      obtain ⟨q, hq, hq2⟩ := szPairS_l0 xs hx hB n (i + 1) r (by omega) (by omega) (by omega) (by omega)
      exact ⟨q, hq, by omega⟩
/-- The size is told; if there is room, the list is short. -/
theorem szPairS_f (xs : List S103) (k : Int) (h0 : 0 ≤ k) (h1 : k ≤ 1048576) (hl : xs.length ≤ 9223372036854775807) (hB : ∀ x ∈ xs, x.f0.size ≤ 9223372036854775807) : ∃ r, laws_szPairS.fL xs k = some r ∧ (r < 0 ∨ xs.length ≤ 1048576) := by
  rw [laws_szPairS.fL_eq, w64 (by omega) (by omega)]
  by_cases h : k - (xs.length : Int) < 0
  · rw [if_pos h]; exact ⟨_, rfl, .inl (by omega)⟩
  · rw [if_neg h]
    obtain ⟨r, hr, _⟩ := szPairS_l0 xs (by omega) hB xs.length 0 (k - xs.length) (by omega) (by omega) (by omega) (by omega)
    exact ⟨r, hr, .inr (by omega)⟩

end Go.Proofs.Ytkejaolfbejokaa.Pure
