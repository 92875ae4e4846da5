/- Lemmas for FnExactPairsText: what each function comes to. No condition. -/
import Derived.Test.YtfeeifefmenlmaaDoorLFnExactPairsText
namespace Go.Proofs.YtfeeifefmenlmaaDoor.Pure
open Go.RowKit Go.Proofs.YtfeeifefmenlmaaDoor.PFnExactPairsText Go.Proofs.YtfeeifefmenlmaaDoorW.PrintWords Go.Proofs.YtfeeifefmenlmaaDoorW.PrintLast Go.Proofs.YtfeeifefmenlmaaDoorW.PrintMore Go.Proofs.YtfeeifefmenlmaaDoor.Lim
set_option linter.unusedVariables false
set_option linter.unusedSimpArgs false

/-! #### basic -/
theorem w64 {n : Int} (h1 : -9223372036854775808 ≤ n) (h2 : n ≤ 9223372036854775807) : wrap64 n = n := by unfold wrap64; omega
theorem wf64 {n : Int} (h : (Lit.int .i64 n).wf = true) : -9223372036854775808 ≤ n ∧ n ≤ 9223372036854775807 := by
  simp only [Lit.wf, IntKind.min, IntKind.max, IntKind.signed, IntKind.bits, Bool.and_eq_true, decide_eq_true_eq, if_true] at h
  omega
theorem wf8 {n : Int} (h : (Lit.int .u8 n).wf = true) : 0 ≤ n ∧ n ≤ 255 := by
  simp only [Lit.wf, IntKind.min, IntKind.max, IntKind.signed, IntKind.bits, Bool.and_eq_true, decide_eq_true_eq] at h
  simp at h
  omega
theorem mn_eq (a b : Int) : mn a b = if a ≤ b then a else b := by unfold mn; split <;> split <;> omega
theorem mx_eq (a b : Int) : mx a b = if a ≤ b then b else a := by unfold mx; split <;> split <;> omega
theorem rd_drop {xs : List Int} {i : Int} {y : Int} {ys : List Int} (h0 : 0 ≤ i) (h : xs.drop i.toNat = y :: ys) : rd xs i = y ∧ i < xs.length ∧ xs.drop (i + 1).toNat = ys := by
  have h1 : i.toNat < xs.length := by
    by_cases e : i.toNat < xs.length
    · exact e
    · rw [List.drop_eq_nil_of_le (by omega)] at h; cases h
  rw [List.drop_eq_getElem_cons h1] at h
  injection h with ha hb
  refine ⟨?_, by omega, ?_⟩
  · unfold rd; rw [List.getD_eq_getElem?_getD, List.getElem?_eq_getElem h1]; exact ha
  · rw [show (i + 1).toNat = i.toNat + 1 by omega]; exact hb
theorem drop_nil {α : Type} {xs : List α} {i : Int} (h0 : 0 ≤ i) (hi : i ≤ xs.length) (h : xs.drop i.toNat = []) : i = xs.length := by
  have := congrArg List.length h
  simp at this
  omega
theorem rdOf_drop {α : Type} {d : α} {xs : List α} {i : Int} {y : α} {ys : List α} (h0 : 0 ≤ i) (h : xs.drop i.toNat = y :: ys) : rdOf d xs i = y ∧ i < xs.length ∧ xs.drop (i + 1).toNat = ys := by
  have h1 : i.toNat < xs.length := by
    by_cases e : i.toNat < xs.length
    · exact e
    · rw [List.drop_eq_nil_of_le (by omega)] at h; cases h
  rw [List.drop_eq_getElem_cons h1] at h
  injection h with ha hb
  refine ⟨?_, by omega, ?_⟩
  · unfold rdOf; rw [List.getD_eq_getElem?_getD, List.getElem?_eq_getElem h1]; exact ha
  · rw [show (i + 1).toNat = i.toNat + 1 by omega]; exact hb

/-! #### bytes -/
/-- A string's bytes as numbers. -/
def bs (s : ByteArray) : List Int := s.data.toList.map fun b => (b.toNat : Int)
theorem bs_length (s : ByteArray) : (bs s).length = s.size := by simp [bs]
theorem bt_bs (s : ByteArray) (i : Int) : bt s i = rd (bs s) i := by
  unfold bt rd bs
  rw [List.getD_eq_getElem?_getD, List.getElem?_map]
  by_cases h : i.toNat < s.size
  · rw [dif_pos h, List.getElem?_eq_getElem (by simpa using h)]; simp; rfl
  · rw [dif_neg h, List.getElem?_eq_none (by simpa using h)]; rfl
theorem bs_range (s : ByteArray) : ∀ b ∈ bs s, 0 ≤ b ∧ b ≤ 255 := by
  intro b hb
  simp only [bs, List.mem_map] at hb
  obtain ⟨c, _, rfl⟩ := hb
  have := c.toNat_lt
  omega
theorem bs_inj {s t : ByteArray} (h : bs s = bs t) : s = t := by
  have h1 : s.data.toList = t.data.toList := by
    refine List.map_inj_right (f := fun b : UInt8 => (b.toNat : Int)) ?_ |>.1 h
    intro x y hxy
    exact UInt8.toNat_inj.1 (by omega)
  cases s; cases t
  simp only [ByteArray.mk.injEq]
  exact Array.ext' h1
theorem toList_loop (s : ByteArray) (i : Nat) (r : List UInt8) : ByteArray.toList.loop s i r = r.reverse ++ s.data.toList.drop i := by
  unfold ByteArray.toList.loop
  split
  next h =>
    rw [toList_loop s (i + 1) (s.get! i :: r)]
    have h' : i < s.data.toList.length := by simpa using h
    rw [List.drop_eq_getElem_cons h']
    have : s.get! i = s.data.toList[i] := by
      show s.data[i]! = _
      rw [getElem!_pos s.data i (by simpa using h)]; simp
    rw [this]; simp
  next h =>
    rw [List.drop_eq_nil_of_le (by simpa using h)]; simp
  termination_by s.size - i
theorem toList_data (s : ByteArray) : s.toList = s.data.toList := by
  unfold ByteArray.toList; rw [toList_loop]; simp
theorem toList_nil (s : ByteArray) : s.toList = [] ↔ bs s = [] := by rw [toList_data]; simp [bs]
theorem bs_drop (s : ByteArray) (i j : Nat) (hj : s.size ≤ j) : bs (s.extract i j) = (bs s).drop i := by
  unfold bs
  rw [ByteArray.data_extract, ← List.map_drop]
  congr 1
  rw [Array.toList_extract]
  have : s.data.toList.length = s.size := by simp
  simp only [List.extract]
  rw [List.take_of_length_le (by rw [List.length_drop]; omega)]
theorem bs_take (s : ByteArray) (j : Nat) : bs (s.extract 0 j) = (bs s).take j := by
  unfold bs
  rw [ByteArray.data_extract, ← List.map_take]
  congr 1
  rw [Array.toList_extract]
  simp [List.extract]

/-! #### l7Text -/
theorem dig_of (a : Nat) (h1 : a ≤ 1000000) : strOfNums ([(wrap64 (48 + (Int.tmod (a : Int) 10))) % 256] : List Int) = ⟨#[UInt8.ofNat (48 + a % 10)]⟩ := by
  have : ((wrap64 (48 + Int.tmod (a : Int) 10)) % 256).toNat = 48 + a % 10 := by
    rw [Int.tmod_eq_emod_of_nonneg (by omega), w64 (by omega) (by omega)]; omega
  unfold strOfNums
  rw [List.map_cons, List.map_nil, this]
theorem l7_loop (a : Nat) : ∀ (b : ByteArray), a + b.size ≤ 1000000 → spec_l7Text.l0L (a : Int) b = some ⟨((if a < 10 then [] else Lib.decDigits (a / 10)) ++ b.data.toList).toArray⟩ := by
  induction a using Nat.strongRecOn with
  | _ a ih =>
    intro b h
    rw [spec_l7Text.l0L_eq]
    by_cases h9 : a < 10
    · rw [if_neg (by omega), if_pos h9, List.nil_append]
    · have e1 : wrap64 (Int.tdiv (a : Int) 10) = ((a / 10 : Nat) : Int) := by
        rw [Int.tdiv_eq_ediv_of_nonneg (by omega), w64 (by omega) (by omega)]; omega
      have hs : ((⟨#[UInt8.ofNat (48 + a / 10 % 10)]⟩ : ByteArray) ++ b).size = b.size + 1 := by rw [ByteArray.size_append]; show 1 + b.size = _; omega
      have hd : ((⟨#[UInt8.ofNat (48 + a / 10 % 10)]⟩ : ByteArray) ++ b).data.toList = UInt8.ofNat (48 + a / 10 % 10) :: b.data.toList := by simp
      rw [if_pos (by omega), e1, Option.bind_some, dig_of _ (by omega), if_pos (show (⟨#[UInt8.ofNat (48 + a / 10 % 10)]⟩ : ByteArray).size + b.size ≤ 9223372036854775807 by show 1 + b.size ≤ _; omega), ih (a / 10) (by omega) _ (by omega), if_neg h9, hd]
      by_cases h2 : a / 10 < 10
      · rw [if_pos h2, Lib.decDigits, dif_pos h2, Nat.mod_eq_of_lt h2]; rfl
      · rw [if_neg h2, Lib.decDigits.eq_1 (a / 10), dif_neg h2, List.append_assoc]; rfl
theorem spec_l7Text_f (n : Int) (h0 : 0 ≤ n) (h1 : n ≤ 100000) : spec_l7Text.fL n = some ⟨(Lib.itoa n).toArray⟩ := by
  obtain ⟨a, rfl⟩ := Int.eq_ofNat_of_zero_le h0
  have hs : (⟨#[UInt8.ofNat (48 + a % 10)]⟩ : ByteArray).size = 1 := rfl
  have e : Lib.itoa (a : Int) = Lib.decDigits a := by unfold Lib.itoa; rw [if_neg (by omega)]; simp
  rw [spec_l7Text.fL_eq, if_neg (by omega), dig_of _ (by omega), l7_loop a _ (by omega), e, Lib.decDigits.eq_1 a]
  by_cases h2 : a < 10
  · rw [if_pos h2, dif_pos h2, Nat.mod_eq_of_lt h2]; rfl
  · rw [if_neg h2, dif_neg h2]
theorem decDigits_len (u : Nat) : (Lib.decDigits u).length ≤ u + 1 := by
  induction u using Nat.strongRecOn with
  | _ u ih =>
    rw [Lib.decDigits]
    by_cases h : u < 10
    · rw [dif_pos h]; simp
    · have := ih (u / 10) (by omega)
      rw [dif_neg h, List.length_append]
      simp only [List.length_cons, List.length_nil]
      omega
theorem itoa_len {n : Int} (h0 : 0 ≤ n) (h1 : n ≤ 999) : (Lib.itoa n).length ≤ 1000 := by
  unfold Lib.itoa
  rw [if_neg (by omega)]
  have := decDigits_len n.toNat
  omega
theorem strconv_Itoa_e {n : Int} (h0 : 0 ≤ n) (h1 : n ≤ 100000) : strconv_Itoa.f n = some ⟨(Lib.itoa n).toArray⟩ := by
  unfold strconv_Itoa.f
  rw [if_pos ⟨by omega, by omega⟩]
theorem joinTail_len : ∀ (l : List (List UInt8)) (m : Nat), (∀ x ∈ l, x.length ≤ m) → (Lib.joinTail [32] l).length ≤ (m + 1) * l.length
  | [], m, _ => by simp [Lib.joinTail]
  | x :: l, m, h => by
    have h1 := h x List.mem_cons_self
    have h2 := joinTail_len l m (fun y hy => h y (List.mem_cons_of_mem _ hy))
    have e : Lib.joinTail [32] (x :: l) = 32 :: x ++ Lib.joinTail [32] l := by simp [Lib.joinTail]
    rw [e, List.length_append, List.length_cons, List.length_cons, Nat.mul_add, Nat.mul_one]
    omega
theorem join_len (l : List (List UInt8)) (m : Nat) (h : ∀ x ∈ l, x.length ≤ m) : (Lib.join l [32]).length ≤ (m + 1) * l.length := by
  cases l with
  | nil => simp [Lib.join_nil]
  | cons x l =>
    have h1 := h x List.mem_cons_self
    have h2 := joinTail_len l m (fun y hy => h y (List.mem_cons_of_mem _ hy))
    rw [Lib.join_cons, List.length_append, List.length_cons, Nat.mul_add, Nat.mul_one]
    omega
theorem strings_Join_e (l : List ByteArray) (m : Nat) (hl : l.length ≤ 1000000) (hm : m ≤ 1000000) (h : ∀ x ∈ l, x.size ≤ m) : strings_Join.f l (⟨#[32]⟩ : ByteArray) = some ⟨(Lib.join (l.map (·.data.toList)) [32]).toArray⟩ := by
  have hj := join_len (l.map (·.data.toList)) m (fun x hx => by
    obtain ⟨y, hy, rfl⟩ := List.mem_map.1 hx
    have := h y hy
    simpa using this)
  rw [List.length_map] at hj
  have hb : (m + 1) * l.length ≤ 1000001 * 1000000 := Nat.mul_le_mul (by omega) hl
  unfold strings_Join.f
  rw [if_pos ⟨by omega, by show (Lib.join (l.map (·.data.toList)) [32]).length ≤ _; omega⟩]

/-! #### keys -/
def letters (l : List Int) : Bool := l.all fun b => decide (97 ≤ b ∧ b ≤ 122)
/-- KeyValid, over the bytes. -/
def keyOk (l : List Int) : Bool := decide (1 ≤ l.length ∧ l.length ≤ 4) && letters l
theorem rd_zero {l : List Int} {b : Int} {t : List Int} (h : l = b :: t) : rd l 0 = b := by subst h; rfl
theorem impl_lettersOnly_f : ∀ (l : List Int) (s : ByteArray), bs s = l → impl_lettersOnly.fL s = some (letters l)
  | [], s, h => by rw [impl_lettersOnly.fL_eq, if_pos ((toList_nil s).2 h)]; rfl
  | b :: l, s, h => by
    have hs : s.size = l.length + 1 := by rw [← bs_length, h]; rfl
    have hn : ¬ s.toList = [] := by rw [toList_nil, h]; simp
    have hd : bs (s.extract 1 s.size) = l := by rw [bs_drop s 1 s.size (Nat.le_refl _), h]; rfl
    rw [impl_lettersOnly.fL_eq, if_neg hn, if_pos (by omega), bt_bs, rd_zero h, if_pos (by omega : (1 : Int) ≤ (s.size : Int)), impl_lettersOnly_f l _ hd, Option.bind_some]
    unfold letters
    rw [List.all_cons]
    by_cases h1 : b ≥ 97
    · rw [if_pos h1]
      by_cases h2 : b ≤ 122
      · rw [if_pos h2, show decide (97 ≤ b ∧ b ≤ 122) = true from decide_eq_true ⟨h1, h2⟩]; rfl
      · rw [if_neg h2, show decide (97 ≤ b ∧ b ≤ 122) = false from decide_eq_false (by omega)]; rfl
    · rw [if_neg h1, show decide (97 ≤ b ∧ b ≤ 122) = false from decide_eq_false (by omega)]; rfl
theorem impl_KeyValid_f (s : ByteArray) : impl_KeyValid.fL s = some (keyOk (bs s)) := by
  rw [impl_KeyValid.fL_eq, impl_lettersOnly_f _ s rfl, Option.bind_some]
  unfold keyOk
  rw [bs_length]
  by_cases h1 : (s.size : Int) < 1
  · rw [if_pos h1, decide_eq_false (by omega)]; rfl
  · rw [if_neg h1]
    by_cases h2 : (s.size : Int) > 4
    · rw [if_pos h2, decide_eq_false (by omega)]; rfl
    · rw [if_neg h2, decide_eq_true (by omega)]; rfl
theorem keyOk_len {l : List Int} (h : keyOk l = true) : 1 ≤ l.length ∧ l.length ≤ 4 := by
  simp only [keyOk, Bool.and_eq_true, decide_eq_true_eq] at h; exact h.1
theorem keyOk_letters {l : List Int} (h : keyOk l = true) : letters l = true := by
  simp only [keyOk, Bool.and_eq_true, decide_eq_true_eq] at h; exact h.2
theorem letters_cons {b : Int} {l : List Int} (h : letters (b :: l) = true) : (97 ≤ b ∧ b ≤ 122) ∧ letters l = true := by
  simp only [letters, List.all_cons, Bool.and_eq_true, decide_eq_true_eq] at h
  exact ⟨h.1, by simp only [letters]; exact h.2⟩

/-! #### spec_l1In -/
theorem spec_l1In_f (a lo hi : Int) : spec_l1In.f a lo hi = some (decide (lo ≤ a ∧ a ≤ hi)) := by
  unfold spec_l1In.f
  by_cases h : a ≥ lo
  · rw [if_pos h]; congr 1; rw [decide_eq_decide]; omega
  · rw [if_neg h]; congr 1; rw [eq_comm, decide_eq_false_iff_not]; omega

/-! #### valueValid -/
theorem impl_valueValid_f (v : Int) : impl_valueValid.f v = some (decide (0 ≤ v ∧ v ≤ 999)) := by
  unfold impl_valueValid.f
  by_cases h : v ≥ 0
  · rw [if_pos h]; congr 1; rw [decide_eq_decide]; omega
  · rw [if_neg h]; congr 1; rw [eq_comm, decide_eq_false_iff_not]; omega

/-! #### spec_KeyValid -/
theorem spec_KeyValid_l0 (s : ByteArray) (hs : s.size ≤ 1000) : ∀ (ys : List Int) (i : Int), 0 ≤ i → i ≤ s.size → (bs s).drop i.toNat = ys → spec_KeyValid.l0L s i = some (letters ys)
  | [], i, h0, h1, hd => by
    have := drop_nil h0 (by rw [bs_length]; exact h1) hd
    rw [bs_length] at this
    rw [spec_KeyValid.l0L_eq, if_neg (by omega)]; rfl
  | y :: ys, i, h0, h1, hd => by
    obtain ⟨hr, hl, hd'⟩ := rd_drop h0 hd
    rw [bs_length] at hl
    rw [spec_KeyValid.l0L_eq, if_pos hl, if_pos h0, bt_bs, hr, w64 (by omega) (by omega)]
    unfold letters
    rw [List.all_cons]
    by_cases e1 : y < 97
    · rw [if_pos e1, decide_eq_false (by omega)]; rfl
    · rw [if_neg e1]
      by_cases e2 : y > 122
      · rw [if_pos e2, decide_eq_false (by omega)]; rfl
      · rw [if_neg e2, decide_eq_true (by omega), spec_KeyValid_l0 s hs ys (i + 1) (by omega) (by omega) hd']; rfl
theorem spec_KeyValid_f (s : ByteArray) : spec_KeyValid.fL s = some (keyOk (bs s)) := by
  rw [spec_KeyValid.fL_eq, spec_l1In_f, Option.bind_some]
  unfold keyOk
  rw [bs_length]
  by_cases h : 1 ≤ (s.size : Int) ∧ (s.size : Int) ≤ 4
  · rw [if_pos (by simpa using h), decide_eq_true (by omega), spec_KeyValid_l0 s (by omega) (bs s) 0 (by omega) (by omega) (by simp)]; rfl
  · rw [if_neg (by simpa using h), decide_eq_false (by omega)]; rfl

/-! #### pairs -/
def klt (a b : ByteArray) : Bool := Op.bytesLess a.toList b.toList
/-- A pair alone is valid. -/
def pairItem (y : S33) : Bool := keyOk (bs y.f0) && decide (0 ≤ y.f1 ∧ y.f1 ≤ 999)
/-- The key is greater than the one before, if there is one. -/
def above : Option ByteArray → ByteArray → Bool
  | none, _ => true
  | some q, k => klt q k
def pairsFrom : Option ByteArray → List S33 → Bool
  | _, [] => true
  | p, y :: ys => pairItem y && above p y.f0 && pairsFrom (some y.f0) ys
def pairsOk (l : List S33) : Bool := decide (l.length ≤ 48) && pairsFrom none l
theorem getD_cons {α : Type} {xs : List α} {d : α} {i : Int} {y : α} {ys : List α} (h0 : 0 ≤ i) (h : xs.drop i.toNat = y :: ys) : xs.getD i.toNat d = y ∧ i < xs.length ∧ xs.drop (i + 1).toNat = ys := by
  have h1 : i.toNat < xs.length := by
    by_cases e : i.toNat < xs.length
    · exact e
    · rw [List.drop_eq_nil_of_le (by omega)] at h; cases h
  rw [List.drop_eq_getElem_cons h1] at h
  injection h with ha hb
  refine ⟨?_, by omega, ?_⟩
  · rw [List.getD_eq_getElem?_getD, List.getElem?_eq_getElem h1]; exact ha
  · rw [show (i + 1).toNat = i.toNat + 1 by omega]; exact hb

/-! #### spec_pairs -/
theorem spec_PairsValid_l0 (xs : List S33) (hx : xs.length ≤ 48) : ∀ (ys : List S33) (i : Int) (p : Option ByteArray), 0 ≤ i → i ≤ xs.length → xs.drop i.toNat = ys → (i = 0 → p = none) → (0 < i → p = some (rd_T33 xs (i - 1)).f0) → spec_PairsValid.l0L xs i = some (pairsFrom p ys)
  | [], i, p, h0, h1, hd, hp0, hp1 => by
    have := drop_nil h0 h1 hd
    rw [spec_PairsValid.l0L_eq, if_neg (by omega)]; rfl
  | y :: ys, i, p, h0, h1, hd, hp0, hp1 => by
    obtain ⟨hr0, hl, hd'⟩ := getD_cons (d := z33) h0 hd
    have hr : rd_T33 xs i = y := hr0
    have hnext := spec_PairsValid_l0 xs hx ys (i + 1) (some y.f0) (by omega) (by omega) hd' (fun h => by omega) (fun _ => by rw [show i + 1 - 1 = i by omega, hr])
    rw [spec_PairsValid.l0L_eq, if_pos hl, if_pos h0, hr, spec_KeyValid_f, Option.bind_some, spec_l1In_f, Option.bind_some]
    simp only [w64 (n := i - 1) (by omega) (by omega), w64 (n := i + 1) (by omega) (by omega), pairsFrom, pairItem]
    cases hk : keyOk (bs y.f0) with
    | false => simp
    | true =>
      by_cases hv : 0 ≤ y.f1 ∧ y.f1 ≤ 999
      · rw [decide_eq_true hv]
        by_cases hi : i > 0
        · rw [if_pos rfl, if_pos rfl, if_pos hi, if_pos (by omega), if_pos (by omega), hp1 hi, hnext]
          simp only [above, klt]
          cases Op.bytesLess (rd_T33 xs (i - 1)).f0.toList y.f0.toList <;> simp
        · rw [if_pos rfl, if_pos rfl, if_neg hi, hp0 (by omega), hnext]
          simp [above]
      · rw [decide_eq_false hv]; simp
theorem spec_PairsValid_f (xs : List S33) : spec_PairsValid.fL xs = some (pairsOk xs) := by
  rw [spec_PairsValid.fL_eq]
  unfold pairsOk
  by_cases h : (xs.length : Int) > 48
  · rw [if_pos h, decide_eq_false (by omega)]; rfl
  · rw [if_neg h, decide_eq_true (by omega), spec_PairsValid_l0 xs (by omega) xs 0 none (by omega) (by omega) (by simp) (fun _ => rfl) (fun h => by omega)]; rfl

/-! #### impl_PairsValid -/
theorem impl_PairsValid_l0 (xs : List S33) (hx : xs.length ≤ 48) : ∀ (ys : List S33) (i : Int) (p : Option ByteArray), 0 ≤ i → i ≤ xs.length → xs.drop i.toNat = ys → (i = 0 → p = none) → (0 < i → p = some (rd_T33 xs (i - 1)).f0) → impl_PairsValid.l0L xs xs (xs.length : Int) i = some (pairsFrom p ys)
  | [], i, p, h0, h1, hd, hp0, hp1 => by
    have := drop_nil h0 h1 hd
    rw [impl_PairsValid.l0L_eq, if_neg (by omega)]; rfl
  | y :: ys, i, p, h0, h1, hd, hp0, hp1 => by
    obtain ⟨hr0, hl, hd'⟩ := getD_cons (d := z33) h0 hd
    have hr : rd_T33 xs i = y := hr0
    have hnext := impl_PairsValid_l0 xs hx ys (i + 1) (some y.f0) (by omega) (by omega) hd' (fun h => by omega) (fun _ => by rw [show i + 1 - 1 = i by omega, hr])
    rw [impl_PairsValid.l0L_eq, if_pos hl, if_pos h0, if_pos hl, hr, impl_KeyValid_f, Option.bind_some, impl_valueValid_f, Option.bind_some]
    simp only [impl_PairsValid.j1L_eq, w64 (n := i - 1) (by omega) (by omega), w64 (n := i + 1) (by omega) (by omega), if_true, pairsFrom, pairItem]
    cases hk : keyOk (bs y.f0) with
    | false => simp
    | true =>
      by_cases hv : 0 ≤ y.f1 ∧ y.f1 ≤ 999
      · rw [decide_eq_true hv]
        by_cases hi : i > 0
        · rw [if_pos rfl, if_neg (by simp), if_pos hi, if_pos (by omega), if_pos (by omega), hp1 hi, hnext]
          simp only [above, klt]
          cases Op.bytesLess (rd_T33 xs (i - 1)).f0.toList y.f0.toList <;> simp
        · rw [if_pos rfl, if_neg (by simp), if_neg hi, hp0 (by omega), hnext]
          simp [above]
      · rw [decide_eq_false hv]; simp
theorem impl_PairsValid_f (xs : List S33) : impl_PairsValid.fL xs = some (pairsOk xs) := by
  rw [impl_PairsValid.fL_eq]
  unfold pairsOk
  by_cases h : (xs.length : Int) > 48
  · rw [if_pos h, decide_eq_false (by omega)]; rfl
  · rw [if_neg h, decide_eq_true (by omega), impl_PairsValid_l0 xs (by omega) xs 0 none (by omega) (by omega) (by simp) (fun _ => rfl) (fun h => by omega)]; rfl

/-! #### PairsText -/
def pword (p : S33) : List UInt8 := p.f0.data.toList ++ 61 :: Lib.itoa p.f1
def ptext (l : List S33) : ByteArray := if pairsOk l = true then ⟨(Lib.join (l.map pword) [32]).toArray⟩ else ⟨#[]⟩
theorem pairsFrom_item : ∀ (l : List S33) (p : Option ByteArray), pairsFrom p l = true → ∀ y ∈ l, pairItem y = true
  | [], _, _, y, hy => by cases hy
  | x :: l, p, h, y, hy => by
    simp only [pairsFrom, Bool.and_eq_true] at h
    cases hy with
    | head => exact h.1.1
    | tail _ hy => exact pairsFrom_item l _ h.2 y hy
theorem pair_small {l : List S33} (h : pairsOk l = true) : l.length ≤ 48 ∧ ∀ y ∈ l, y.f0.size ≤ 4 ∧ 0 ≤ y.f1 ∧ y.f1 ≤ 999 := by
  simp only [pairsOk, Bool.and_eq_true, decide_eq_true_eq] at h
  refine ⟨h.1, fun y hy => ?_⟩
  have := pairsFrom_item l _ h.2 y hy
  unfold pairItem keyOk at this
  rw [Bool.and_eq_true, Bool.and_eq_true, decide_eq_true_eq, decide_eq_true_eq, bs_length] at this
  exact ⟨this.1.1.2, this.2⟩
theorem size_arr (l : List UInt8) : (⟨l.toArray⟩ : ByteArray).size = l.length := by simp [ByteArray.size]
theorem spec_PairsText_l0 (xs : List S33) (hok : pairsOk xs = true) : ∀ (ys : List S33) (i : Int) (out : ByteArray), 0 ≤ i → i ≤ xs.length → (out.size : Int) ≤ 2000 * i → xs.drop i.toNat = ys →
    spec_PairsText.l0L xs out i = some ⟨(out.data.toList ++ (if i = 0 then Lib.join (ys.map pword) [32] else Lib.joinTail [32] (ys.map pword))).toArray⟩
  | [], i, out, h0, h1, ho, hd => by
    have := drop_nil h0 h1 hd
    rw [spec_PairsText.l0L_eq, if_neg (by omega), spec_PairsText.j1L_eq, if_neg Bool.false_ne_true]
    have : (if i = 0 then Lib.join (([] : List S33).map pword) [32] else Lib.joinTail [32] (([] : List S33).map pword)) = [] := by split <;> rfl
    rw [this, List.append_nil]
  | y :: ys, i, out, h0, h1, ho, hd => by
    obtain ⟨h48, hsm⟩ := pair_small hok
    obtain ⟨hr0, hl, hd'⟩ := getD_cons (d := z33) h0 hd
    have hr : rd_T33 xs i = y := hr0
    have hy := hsm y (List.mem_of_mem_drop (i := i.toNat) (by rw [hd]; exact List.mem_cons_self))
    have hi := itoa_len hy.2.1 hy.2.2
    have ih := fun (o : ByteArray) (h : (o.size : Int) ≤ 2000 * (i + 1)) => spec_PairsText_l0 xs hok ys (i + 1) o (by omega) (by omega) h hd'
    have z : ∀ (a b : ByteArray), (a ++ b).size = a.size + b.size := fun a b => ByteArray.size_append
    have s32 : (⟨#[32]⟩ : ByteArray).size = 1 := rfl
    have s61 : (⟨#[61]⟩ : ByteArray).size = 1 := rfl
    have sI := size_arr (Lib.itoa y.f1)
    rw [spec_PairsText.l0L_eq, if_pos hl, spec_PairsValid_f, Option.bind_some, hok, spec_PairsText.j1L_eq, if_pos rfl, hr, spec_l7Text_f y.f1 hy.2.1 (by omega), w64 (by omega) (by omega)]
    by_cases c : i > 0
    · rw [if_pos c, if_pos (by omega), if_pos h0, if_pos hl, if_pos (by simp only [z, s32]; omega), if_pos (by simp only [z, s32]; omega), Option.bind_some, if_pos (by simp only [z, s32, s61, sI]; omega), ih _ (by simp only [z, s32, s61, sI]; omega), if_neg (by omega), if_neg (by omega)]
      simp [Lib.joinTail, pword]
    · rw [if_neg c, if_pos h0, if_pos hl, if_pos (by omega), if_pos (by simp only [z]; omega), Option.bind_some, if_pos (by simp only [z, s61, sI]; omega), ih _ (by simp only [z, s61, sI]; omega), if_neg (by omega), if_pos (by omega), List.map_cons, Lib.join_cons]
      simp [pword]
theorem spec_PairsText_f (xs : List S33) : spec_PairsText.fL xs = some (ptext xs) := by
  rw [spec_PairsText.fL_eq]
  unfold ptext
  by_cases h : pairsOk xs = true
  · rw [if_pos h, spec_PairsText_l0 xs h xs 0 _ (by omega) (by omega) (by show ((0 : Nat) : Int) ≤ _; omega) (by simp), if_pos rfl]; rfl
  · rw [if_neg h, spec_PairsText.l0L_eq]
    by_cases c : (0 : Int) < xs.length
    · rw [if_pos c, spec_PairsValid_f, Option.bind_some, spec_PairsText.j1L_eq, if_neg h]
    · rw [if_neg c, spec_PairsText.j1L_eq, if_neg Bool.false_ne_true]
theorem impl_PairsText_l0 (xs : List S33) (hok : pairsOk xs = true) : ∀ (ys : List S33) (i : Int) (a : List ByteArray), 0 ≤ i → i ≤ xs.length → (a.length : Int) ≤ i → (∀ x ∈ a, x.size ≤ 2000) → xs.drop i.toNat = ys →
    impl_PairsText.l0L a xs (xs.length : Int) i = some ⟨(Lib.join (a.map (·.data.toList) ++ ys.map pword) [32]).toArray⟩
  | [], i, a, h0, h1, ha, hs, hd => by
    have := drop_nil h0 h1 hd
    obtain ⟨h48, hsm⟩ := pair_small hok
    rw [impl_PairsText.l0L_eq, if_neg (by omega), strings_Join_e a 2000 (by omega) (by omega) hs, Option.bind_some, List.map_nil, List.append_nil]
  | y :: ys, i, a, h0, h1, ha, hs, hd => by
    obtain ⟨h48, hsm⟩ := pair_small hok
    obtain ⟨hr0, hl, hd'⟩ := getD_cons (d := z33) h0 hd
    have hr : rd_T33 xs i = y := hr0
    have hy := hsm y (List.mem_of_mem_drop (i := i.toNat) (by rw [hd]; exact List.mem_cons_self))
    have hi := itoa_len hy.2.1 hy.2.2
    have z : ∀ (a b : ByteArray), (a ++ b).size = a.size + b.size := fun a b => ByteArray.size_append
    have s61 : (⟨#[61]⟩ : ByteArray).size = 1 := rfl
    have sI := size_arr (Lib.itoa y.f1)
    have ih := impl_PairsText_l0 xs hok ys (i + 1) (a ++ [(y.f0 ++ (⟨#[61]⟩ : ByteArray)) ++ ⟨(Lib.itoa y.f1).toArray⟩]) (by omega) (by omega) (by simp; omega) (fun x hx => by
      rcases List.mem_append.1 hx with hx | hx
      · exact hs x hx
      · rw [List.mem_singleton.1 hx]; simp only [z, s61, sI]; omega) hd'
    rw [impl_PairsText.l0L_eq, if_pos hl, if_pos h0, if_pos hl, hr, if_pos (by omega), strconv_Itoa_e hy.2.1 (by omega), Option.bind_some, if_pos (by simp only [z, s61, sI]; omega), if_pos (by omega), w64 (by omega) (by omega), ih]
    simp [pword]
theorem impl_PairsText_f (xs : List S33) : impl_PairsText.fL xs = some (ptext xs) := by
  rw [impl_PairsText.fL_eq, impl_PairsValid_f, Option.bind_some]
  unfold ptext
  by_cases h : pairsOk xs = true
  · rw [if_pos h, if_pos h, impl_PairsText_l0 xs h xs 0 [] (by omega) (by omega) (by simp) (by simp) (by simp)]; rfl
  · rw [if_neg h, if_neg h]

/-! #### intS -/
theorem set_at {α : Type} {xs : List α} {i : Nat} {y z : α} {ys : List α} (h : xs.drop i = y :: ys) : (xs.set i z).take (i + 1) = xs.take i ++ [z] ∧ (xs.set i z).drop (i + 1) = ys ∧ (xs.set i z).length = xs.length := by
  have h1 : i < xs.length := by
    by_cases e : i < xs.length
    · exact e
    · rw [List.drop_eq_nil_of_le (by omega)] at h; cases h
  rw [List.drop_eq_getElem_cons h1] at h
  injection h with ha hb
  refine ⟨?_, ?_, by simp⟩
  · rw [List.take_succ_eq_append_getElem (by simpa using h1), List.take_set_of_le (by omega)]; simp
  · rw [List.drop_set_of_lt (by omega)]; exact hb
theorem drop_take_cons {α : Type} {xs pre : List α} {i : Nat} {y : α} {ys : List α} (h : xs.drop i = y :: ys) : xs.take (i + 1) = xs.take i ++ [y] ∧ i < xs.length ∧ xs.drop (i + 1) = ys := by
  have h1 : i < xs.length := by
    by_cases e : i < xs.length
    · exact e
    · rw [List.drop_eq_nil_of_le (by omega)] at h; cases h
  rw [List.drop_eq_getElem_cons h1] at h
  injection h with ha hb
  exact ⟨by rw [List.take_succ_eq_append_getElem h1, ha], h1, hb⟩

/-! #### loops -/
theorem getD_drop {α : Type} {xs : List α} {d : α} {i : Int} {y : α} {ys : List α} (h0 : 0 ≤ i) (h : xs.drop i.toNat = y :: ys) : xs.getD i.toNat d = y ∧ i < xs.length ∧ xs.drop (i + 1).toNat = ys := by
  have h1 : i.toNat < xs.length := by
    by_cases e : i.toNat < xs.length
    · exact e
    · rw [List.drop_eq_nil_of_le (by omega)] at h; cases h
  rw [List.drop_eq_getElem_cons h1] at h
  injection h with ha hb
  refine ⟨?_, by omega, ?_⟩
  · rw [List.getD_eq_getElem?_getD, List.getElem?_eq_getElem h1]; exact ha
  · rw [show (i + 1).toNat = i.toNat + 1 by omega]; exact hb
/-- A copy, element by element, into a list of the same length. -/
theorem copy_loop {α : Type} (ys : List α) (d : α) (n : Nat) (hn : n = ys.length) (L : List α → Int → Option (List α))
    (hL : ∀ (zs : List α) (i : Int), 0 ≤ i → i ≤ n → zs.length = n → L zs i = if i < (n : Int) then L (zs.set i.toNat (ys.getD i.toNat d)) (i + 1) else some zs) :
    ∀ (ws zs : List α) (i : Int), 0 ≤ i → i ≤ n → ys.drop i.toNat = ws → zs.length = n → zs.take i.toNat = ys.take i.toNat → L zs i = some ys
  | [], zs, i, h0, h1, hd, hl, ht => by
    have := drop_nil h0 (by omega) hd
    rw [hL zs i h0 h1 hl, if_neg (by omega)]
    rw [List.take_of_length_le (by omega), List.take_of_length_le (by omega)] at ht
    rw [ht]
  | w :: ws, zs, i, h0, h1, hd, hl, ht => by
    obtain ⟨hr, hlt, hd'⟩ := getD_drop (d := d) h0 hd
    obtain ⟨t1, _, _⟩ := drop_take_cons (pre := ys) hd
    have hz : zs.drop i.toNat = zs[i.toNat]'(by omega) :: zs.drop (i.toNat + 1) := List.drop_eq_getElem_cons (by omega)
    obtain ⟨s1, s2, s3⟩ := set_at (z := w) hz
    rw [hL zs i h0 h1 hl, if_pos (by omega), hr]
    exact copy_loop ys d n hn L hL ws _ (i + 1) (by omega) (by omega) hd' (by omega) (by rw [show (i + 1).toNat = i.toNat + 1 by omega, s1, t1, ht])
/-- A comparison, element by element, of lists of the same length. -/
theorem eq_loop {α : Type} [DecidableEq α] (xs zs : List α) (d : α) (hl : xs.length = zs.length) (L : Int → Option Bool)
    (hL : ∀ i : Int, 0 ≤ i → i ≤ xs.length → L i = if i < (xs.length : Int) then (if xs.getD i.toNat d = zs.getD i.toNat d then L (i + 1) else some false) else some true) :
    ∀ (ys ws : List α) (i : Int), 0 ≤ i → i ≤ xs.length → xs.drop i.toNat = ys → zs.drop i.toNat = ws → L i = some (decide (ys = ws))
  | [], ws, i, h0, h1, hd, hw => by
    have := drop_nil h0 h1 hd
    rw [hL i h0 h1, if_neg (by omega)]
    rw [List.drop_eq_nil_of_le (by omega)] at hw
    rw [← hw]; rfl
  | y :: ys, [], i, h0, h1, hd, hw => by
    have := drop_nil h0 (by omega) hw
    obtain ⟨hr, hlt, hd'⟩ := getD_drop (d := d) h0 hd
    omega
  | y :: ys, w :: ws, i, h0, h1, hd, hw => by
    obtain ⟨hr, hlt, hd'⟩ := getD_drop (d := d) h0 hd
    obtain ⟨hr2, hlt2, hw'⟩ := getD_drop (d := d) h0 hw
    rw [hL i h0 h1, if_pos hlt, hr, hr2]
    by_cases e : y = w
    · rw [if_pos e, eq_loop xs zs d hl L hL ys ws (i + 1) (by omega) (by omega) hd' hw']
      simp [e]
    · rw [if_neg e]; simp [e]
theorem eq_loop0 {α : Type} [DecidableEq α] (xs zs : List α) (d : α) (hl : xs.length = zs.length) (L : Int → Option Bool)
    (hL : ∀ i : Int, 0 ≤ i → i ≤ xs.length → L i = if i < (xs.length : Int) then (if xs.getD i.toNat d = zs.getD i.toNat d then L (i + 1) else some false) else some true) : L 0 = some (decide (xs = zs)) :=
  eq_loop xs zs d hl L hL xs zs 0 (by omega) (by omega) (by simp) (by simp)
theorem copy_loop0 {α : Type} (ys zs : List α) (d : α) (n : Nat) (hn : n = ys.length) (hz : zs.length = n) (L : List α → Int → Option (List α))
    (hL : ∀ (zs : List α) (i : Int), 0 ≤ i → i ≤ n → zs.length = n → L zs i = if i < (n : Int) then L (zs.set i.toNat (ys.getD i.toNat d)) (i + 1) else some zs) : L zs 0 = some ys :=
  copy_loop ys d n hn L hL ys zs 0 (by omega) (by omega) (by simp) hz (by simp)
/-- Marks: an element for each number, c numbers an element. -/
def marks {α : Type} (el : Int → α) (c : Int) : Nat → Int → List α
  | 0, _ => []
  | n + 1, k => el k :: marks el c n (k + c)
theorem marks_length {α : Type} (el : Int → α) (c : Int) : ∀ (n : Nat) (k : Int), (marks el c n k).length = n
  | 0, _ => rfl
  | n + 1, k => by simp [marks, marks_length el c n]
theorem mark_loop {α : Type} (el : Int → α) (c : Int) (hc : 0 ≤ c) (hc2 : c ≤ 1000) (n : Nat) (hn : n ≤ 1000000000) (L : List α → Int → Int → Option (Int × List α))
    (hL : ∀ (zs : List α) (k i : Int), 0 ≤ i → i ≤ n → zs.length = n → 0 ≤ k → k ≤ 100000000000 + 1000 * n → L zs k i = if i < (n : Int) then L (zs.set i.toNat (el k)) (k + c) (i + 1) else some (k, zs)) :
    ∀ (ys zs : List α) (k i : Int), 0 ≤ i → i ≤ n → zs.length = n → zs.drop i.toNat = ys → 0 ≤ k → k ≤ 100000000000 + 1000 * i → L zs k i = some (k + c * ys.length, zs.take i.toNat ++ marks el c ys.length k)
  | [], zs, k, i, h0, h1, hl, hd, hk, hk2 => by
    have := drop_nil h0 (by omega) hd
    rw [hL zs k i h0 h1 hl hk (by omega), if_neg (by omega), List.take_of_length_le (by omega)]; simp [marks]
  | y :: ys, zs, k, i, h0, h1, hl, hd, hk, hk2 => by
    obtain ⟨hr, hlt, hd'⟩ := getD_drop (d := y) h0 hd
    obtain ⟨s1, s2, s3⟩ := set_at (z := el k) hd
    rw [hL zs k i h0 h1 hl hk (by omega), if_pos (by omega),
      mark_loop el c hc hc2 n hn L hL ys _ (k + c) (i + 1) (by omega) (by omega) (by omega) (by rw [show (i + 1).toNat = i.toNat + 1 by omega]; exact s2) (by omega) (by omega),
      show (i + 1).toNat = i.toNat + 1 by omega, s1]
    simp only [List.length_cons, marks, List.append_assoc, List.singleton_append]
    congr 2
    rw [show ((ys.length + 1 : Nat) : Int) = (ys.length : Int) + 1 by omega, Int.mul_add]
    omega
theorem mark_loop0 {α : Type} (el : Int → α) (c : Int) (hc : 0 ≤ c) (hc2 : c ≤ 1000) (zs : List α) (hn : zs.length ≤ 1000000000) (k : Int) (hk : 0 ≤ k) (hk2 : k ≤ 100000000000) (L : List α → Int → Int → Option (Int × List α))
    (hL : ∀ (ws : List α) (k i : Int), 0 ≤ i → i ≤ zs.length → ws.length = zs.length → 0 ≤ k → k ≤ 100000000000 + 1000 * zs.length → L ws k i = if i < (zs.length : Int) then L (ws.set i.toNat (el k)) (k + c) (i + 1) else some (k, ws)) :
    L zs k 0 = some (k + c * zs.length, marks el c zs.length k) := by
  have := mark_loop el c hc hc2 zs.length hn L hL zs zs k 0 (by omega) (by omega) rfl (by simp) hk (by omega)
  simpa using this
theorem held_loop {α : Type} (el : Int → α) (d : α) (c : Int) (hc : 0 ≤ c) (hc2 : c ≤ 1000) (zs : List α) (hn : zs.length ≤ 1000000000) (L : Int → Int → Option Int)
    (hL : ∀ k i : Int, 0 ≤ i → i ≤ zs.length → 0 ≤ k → k ≤ 100000000000 + 1000 * zs.length → (i < zs.length → zs.getD i.toNat d = el k) → L k i = if i < (zs.length : Int) then L (k + c) (i + 1) else some k) :
    ∀ (n : Nat) (k i : Int), 0 ≤ i → i ≤ zs.length → zs.drop i.toNat = marks el c n k → 0 ≤ k → k ≤ 100000000000 + 1000 * i → L k i = some (k + c * n)
  | 0, k, i, h0, h1, hd, hk, hk2 => by
    have := drop_nil h0 h1 hd
    rw [hL k i h0 h1 hk (by omega) (fun h => by omega), if_neg (by omega)]; simp
  | n + 1, k, i, h0, h1, hd, hk, hk2 => by
    obtain ⟨hr, hlt, hd'⟩ := getD_drop (d := d) h0 hd
    rw [hL k i h0 h1 hk (by omega) (fun _ => hr), if_pos hlt, held_loop el d c hc hc2 zs hn L hL n (k + c) (i + 1) (by omega) (by omega) hd' (by omega) (by omega)]
    congr 1
    rw [show ((n + 1 : Nat) : Int) = (n : Int) + 1 by omega, Int.mul_add]
    omega
theorem held_loop0 {α : Type} (el : Int → α) (d : α) (c : Int) (hc : 0 ≤ c) (hc2 : c ≤ 1000) (n : Nat) (hn : n ≤ 1000000000) (k : Int) (hk : 0 ≤ k) (hk2 : k ≤ 100000000000) (L : Int → Int → Option Int)
    (hL : ∀ k' i : Int, 0 ≤ i → i ≤ n → 0 ≤ k' → k' ≤ 100000000000 + 1000 * n → (i < n → (marks el c n k).getD i.toNat d = el k') → L k' i = if i < (n : Int) then L (k' + c) (i + 1) else some k') :
    L k 0 = some (k + c * n) := by
  have hm := marks_length el c n k
  refine held_loop el d c hc hc2 (marks el c n k) (by omega) L (fun k' i => ?_) n k 0 (by omega) (by omega) (by simp) hk (by omega)
  rw [hm]
  exact hL k' i
theorem getD_map' {α β : Type} (f : α → β) (xs : List α) (i : Nat) (d : α) (e : β) (h : i < xs.length) : (xs.map f).getD i e = f (xs.getD i d) := by
  simp [List.getD_eq_getElem?_getD, List.getElem?_eq_getElem h]

/-! #### refl_loop -/
theorem refl_loop (n : Nat) (L : Int → Option Bool) (hL : ∀ i : Int, 0 ≤ i → i ≤ n → L i = if i < (n : Int) then L (i + 1) else some true) : ∀ (m : Nat) (i : Int), i + m = n → 0 ≤ i → L i = some true
  | 0, i, h, h0 => by rw [hL i h0 (by omega), if_neg (by omega)]
  | m + 1, i, h, h0 => by rw [hL i h0 (by omega), if_pos (by omega)]; exact refl_loop n L hL m (i + 1) (by omega) (by omega)
theorem refl_loop0 (n : Nat) (L : Int → Option Bool) (hL : ∀ i : Int, 0 ≤ i → i ≤ n → L i = if i < (n : Int) then L (i + 1) else some true) : L 0 = some true := refl_loop n L hL n 0 (by omega) (by omega)

/-! #### pairS -/
/-- A pair of the law's own, as the program's. -/
def cvPair (x : S31) : S33 := ⟨x.f0, x.f1⟩
theorem toPairS_f (xs : List S31) (hx : xs.length ≤ 1048576) : laws_toPairS.fL xs = some (xs.map cvPair) := by
  rw [laws_toPairS.fL_eq, if_pos (by omega), if_pos (by omega)]
  refine copy_loop0 (xs.map cvPair) _ z33 xs.length (by simp) (by simp) (fun zs i => laws_toPairS.l0L xs zs i) (fun zs i h0 h1 hl => ?_)
  rw [laws_toPairS.l0L_eq]
  unfold laws_toPair.f
  by_cases h : i < (xs.length : Int)
  · rw [if_pos h, if_pos h0, Option.bind_some, if_pos (by omega), w64 (by omega) (by omega), if_pos h, getD_map' cvPair xs i.toNat z31 _ (by omega)]; rfl
  · rw [if_neg h, if_neg h]
theorem eqPair_refl (a : ByteArray) (b : Int) : laws_eqPair.f a b a b = some true := by unfold laws_eqPair.f; simp
theorem eqPairS_refl (xs : List S33) (hx : xs.length ≤ 1000000000000) : laws_eqPairS.fL xs xs = some true := by
  rw [laws_eqPairS.fL_eq, if_pos rfl]
  refine refl_loop0 xs.length (fun i => laws_eqPairS.l0L xs xs i) (fun i h0 h1 => ?_)
  rw [laws_eqPairS.l0L_eq]
  by_cases h : i < (xs.length : Int)
  · rw [if_pos h, if_pos h0, if_pos h, eqPair_refl, Option.bind_some, if_pos rfl, w64 (by omega) (by omega), if_pos h]
  · rw [if_neg h, if_neg h]
theorem szPair_f (s : ByteArray) (b k : Int) (hs : s.size ≤ 9223372036854775807) (h0 : 0 ≤ k) (h1 : k ≤ 1048576) : ∃ r, laws_szPair.f s b k = some r ∧ -1 ≤ r ∧ r ≤ k := by
  unfold laws_szPair.f
  rw [w64 (by omega) (by omega)]
  by_cases h : k - (s.size : Int) < 0
  · rw [if_pos h]; exact ⟨_, rfl, by omega, by omega⟩
  · rw [if_neg h]; exact ⟨_, rfl, by omega, by omega⟩
theorem szPairS_l0 (xs : List S31) (hx : xs.length ≤ 1048576) (hB : ∀ x ∈ xs, x.f0.size ≤ 9223372036854775807) : ∀ (n : Nat) (i k : Int), i + n = xs.length → 0 ≤ i → 0 ≤ k → k ≤ 1048576 → ∃ r, laws_szPairS.l0L xs k i = some r ∧ r ≤ k
  | 0, i, k, hi, h0, h1, h2 => by rw [laws_szPairS.l0L_eq, if_neg (by omega)]; exact ⟨_, rfl, by omega⟩
  | n + 1, i, k, hi, h0, h1, h2 => by
    have hm : rd_T31 xs i ∈ xs := by
      unfold rd_T31
      rw [List.getD_eq_getElem?_getD, List.getElem?_eq_getElem (show i.toNat < xs.length by omega)]
      exact List.getElem_mem _
    obtain ⟨r, hr, r0, r1⟩ := szPair_f (rd_T31 xs i).f0 (rd_T31 xs i).f1 k (hB _ hm) h1 h2
    rw [laws_szPairS.l0L_eq, if_pos (by omega), if_pos h0, hr, Option.bind_some, w64 (by omega) (by omega)]
    by_cases h : r < 0
    · rw [if_pos h]; exact ⟨_, rfl, by omega⟩
    · rw [if_neg h]
      obtain ⟨q, hq, hq2⟩ := szPairS_l0 xs hx hB n (i + 1) r (by omega) (by omega) (by omega) (by omega)
      exact ⟨q, hq, by omega⟩
/-- The size is told; if there is room, the list is short. -/
theorem szPairS_f (xs : List S31) (k : Int) (h0 : 0 ≤ k) (h1 : k ≤ 1048576) (hl : xs.length ≤ 9223372036854775807) (hB : ∀ x ∈ xs, x.f0.size ≤ 9223372036854775807) : ∃ r, laws_szPairS.fL xs k = some r ∧ r ≤ k ∧ (r < 0 ∨ xs.length ≤ 1048576) := by
  rw [laws_szPairS.fL_eq, w64 (by omega) (by omega)]
  by_cases h : k - (xs.length : Int) < 0
  · rw [if_pos h]; exact ⟨_, rfl, by omega, .inl (by omega)⟩
  · rw [if_neg h]
    obtain ⟨r, hr, hle⟩ := szPairS_l0 xs (by omega) hB xs.length 0 (k - xs.length) (by omega) (by omega) (by omega) (by omega)
    exact ⟨r, hr, by omega, .inr (by omega)⟩

end Go.Proofs.YtfeeifefmenlmaaDoor.Pure
