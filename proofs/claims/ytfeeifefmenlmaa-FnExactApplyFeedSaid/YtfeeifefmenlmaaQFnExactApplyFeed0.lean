/- Lemmas for FnExactApplyFeed: what each function comes to. No condition. -/
import Derived.Test.YtfeeifefmenlmaaLFnExactApplyFeed
namespace Go.Proofs.Ytfeeifefmenlmaa.Pure
open Go.RowKit Go.Proofs.Ytfeeifefmenlmaa.PFnExactApplyFeed Go.Proofs.YtfeeifefmenlmaaW.PrintWords Go.Proofs.YtfeeifefmenlmaaW.PrintLast Go.Proofs.YtfeeifefmenlmaaW.PrintMore Go.Proofs.Ytfeeifefmenlmaa.Lim
set_option linter.unusedVariables false
set_option linter.unusedSimpArgs false

/-! #### basic -/
theorem w64 {n : Int} (h1 : -9223372036854775808 ≤ n) (h2 : n ≤ 9223372036854775807) : wrap64 n = n := by unfold wrap64; omega
theorem wf64 {n : Int} (h : (Lit.int .i64 n).wf = true) : -9223372036854775808 ≤ n ∧ n ≤ 9223372036854775807 := by
  simp only [Lit.wf, IntKind.min, IntKind.max, IntKind.signed, IntKind.bits, Bool.and_eq_true, decide_eq_true_eq, if_true] at h
  omega
theorem wf8 {n : Int} (h : (Lit.int .u8 n).wf = true) : 0 ≤ n ∧ n ≤ 255 := by
  simp only [Lit.wf, IntKind.min, IntKind.max, IntKind.signed, IntKind.bits, Bool.and_eq_true, decide_eq_true_eq] at h
  simp at h
  omega
theorem mn_eq (a b : Int) : mn a b = if a ≤ b then a else b := by unfold mn; split <;> split <;> omega
theorem mx_eq (a b : Int) : mx a b = if a ≤ b then b else a := by unfold mx; split <;> split <;> omega
theorem rd_drop {xs : List Int} {i : Int} {y : Int} {ys : List Int} (h0 : 0 ≤ i) (h : xs.drop i.toNat = y :: ys) : rd xs i = y ∧ i < xs.length ∧ xs.drop (i + 1).toNat = ys := by
  have h1 : i.toNat < xs.length := by
    by_cases e : i.toNat < xs.length
    · exact e
    · rw [List.drop_eq_nil_of_le (by omega)] at h; cases h
  rw [List.drop_eq_getElem_cons h1] at h
  injection h with ha hb
  refine ⟨?_, by omega, ?_⟩
  · unfold rd; rw [List.getD_eq_getElem?_getD, List.getElem?_eq_getElem h1]; exact ha
  · rw [show (i + 1).toNat = i.toNat + 1 by omega]; exact hb
theorem drop_nil {α : Type} {xs : List α} {i : Int} (h0 : 0 ≤ i) (hi : i ≤ xs.length) (h : xs.drop i.toNat = []) : i = xs.length := by
  have := congrArg List.length h
  simp at this
  omega
theorem rdOf_drop {α : Type} {d : α} {xs : List α} {i : Int} {y : α} {ys : List α} (h0 : 0 ≤ i) (h : xs.drop i.toNat = y :: ys) : rdOf d xs i = y ∧ i < xs.length ∧ xs.drop (i + 1).toNat = ys := by
  have h1 : i.toNat < xs.length := by
    by_cases e : i.toNat < xs.length
    · exact e
    · rw [List.drop_eq_nil_of_le (by omega)] at h; cases h
  rw [List.drop_eq_getElem_cons h1] at h
  injection h with ha hb
  refine ⟨?_, by omega, ?_⟩
  · unfold rdOf; rw [List.getD_eq_getElem?_getD, List.getElem?_eq_getElem h1]; exact ha
  · rw [show (i + 1).toNat = i.toNat + 1 by omega]; exact hb

/-! #### bytes -/
/-- A string's bytes as numbers. -/
def bs (s : ByteArray) : List Int := s.data.toList.map fun b => (b.toNat : Int)
theorem bs_length (s : ByteArray) : (bs s).length = s.size := by simp [bs]
theorem bt_bs (s : ByteArray) (i : Int) : bt s i = rd (bs s) i := by
  unfold bt rd bs
  rw [List.getD_eq_getElem?_getD, List.getElem?_map]
  by_cases h : i.toNat < s.size
  · rw [dif_pos h, List.getElem?_eq_getElem (by simpa using h)]; simp; rfl
  · rw [dif_neg h, List.getElem?_eq_none (by simpa using h)]; rfl
theorem bs_range (s : ByteArray) : ∀ b ∈ bs s, 0 ≤ b ∧ b ≤ 255 := by
  intro b hb
  simp only [bs, List.mem_map] at hb
  obtain ⟨c, _, rfl⟩ := hb
  have := c.toNat_lt
  omega
theorem bs_inj {s t : ByteArray} (h : bs s = bs t) : s = t := by
  have h1 : s.data.toList = t.data.toList := by
    refine List.map_inj_right (f := fun b : UInt8 => (b.toNat : Int)) ?_ |>.1 h
    intro x y hxy
    exact UInt8.toNat_inj.1 (by omega)
  cases s; cases t
  simp only [ByteArray.mk.injEq]
  exact Array.ext' h1
theorem toList_loop (s : ByteArray) (i : Nat) (r : List UInt8) : ByteArray.toList.loop s i r = r.reverse ++ s.data.toList.drop i := by
  unfold ByteArray.toList.loop
  split
  next h =>
    rw [toList_loop s (i + 1) (s.get! i :: r)]
    have h' : i < s.data.toList.length := by simpa using h
    rw [List.drop_eq_getElem_cons h']
    have : s.get! i = s.data.toList[i] := by
      show s.data[i]! = _
      rw [getElem!_pos s.data i (by simpa using h)]; simp
    rw [this]; simp
  next h =>
    rw [List.drop_eq_nil_of_le (by simpa using h)]; simp
  termination_by s.size - i
theorem toList_data (s : ByteArray) : s.toList = s.data.toList := by
  unfold ByteArray.toList; rw [toList_loop]; simp
theorem toList_nil (s : ByteArray) : s.toList = [] ↔ bs s = [] := by rw [toList_data]; simp [bs]
theorem bs_drop (s : ByteArray) (i j : Nat) (hj : s.size ≤ j) : bs (s.extract i j) = (bs s).drop i := by
  unfold bs
  rw [ByteArray.data_extract, ← List.map_drop]
  congr 1
  rw [Array.toList_extract]
  have : s.data.toList.length = s.size := by simp
  simp only [List.extract]
  rw [List.take_of_length_le (by rw [List.length_drop]; omega)]
theorem bs_take (s : ByteArray) (j : Nat) : bs (s.extract 0 j) = (bs s).take j := by
  unfold bs
  rw [ByteArray.data_extract, ← List.map_take]
  congr 1
  rw [Array.toList_extract]
  simp [List.extract]

/-! #### keys -/
def letters (l : List Int) : Bool := l.all fun b => decide (97 ≤ b ∧ b ≤ 122)
/-- KeyValid, over the bytes. -/
def keyOk (l : List Int) : Bool := decide (1 ≤ l.length ∧ l.length ≤ 4) && letters l
theorem rd_zero {l : List Int} {b : Int} {t : List Int} (h : l = b :: t) : rd l 0 = b := by subst h; rfl
theorem impl_lettersOnly_f : ∀ (l : List Int) (s : ByteArray), bs s = l → impl_lettersOnly.fL s = some (letters l)
  | [], s, h => by rw [impl_lettersOnly.fL_eq, if_pos ((toList_nil s).2 h)]; rfl
  | b :: l, s, h => by
    have hs : s.size = l.length + 1 := by rw [← bs_length, h]; rfl
    have hn : ¬ s.toList = [] := by rw [toList_nil, h]; simp
    have hd : bs (s.extract 1 s.size) = l := by rw [bs_drop s 1 s.size (Nat.le_refl _), h]; rfl
    rw [impl_lettersOnly.fL_eq, if_neg hn, if_pos (by omega), bt_bs, rd_zero h, if_pos (by omega : (1 : Int) ≤ (s.size : Int)), impl_lettersOnly_f l _ hd, Option.bind_some]
    unfold letters
    rw [List.all_cons]
    by_cases h1 : b ≥ 97
    · rw [if_pos h1]
      by_cases h2 : b ≤ 122
      · rw [if_pos h2, show decide (97 ≤ b ∧ b ≤ 122) = true from decide_eq_true ⟨h1, h2⟩]; rfl
      · rw [if_neg h2, show decide (97 ≤ b ∧ b ≤ 122) = false from decide_eq_false (by omega)]; rfl
    · rw [if_neg h1, show decide (97 ≤ b ∧ b ≤ 122) = false from decide_eq_false (by omega)]; rfl
theorem impl_KeyValid_f (s : ByteArray) : impl_KeyValid.fL s = some (keyOk (bs s)) := by
  rw [impl_KeyValid.fL_eq, impl_lettersOnly_f _ s rfl, Option.bind_some]
  unfold keyOk
  rw [bs_length]
  by_cases h1 : (s.size : Int) < 1
  · rw [if_pos h1, decide_eq_false (by omega)]; rfl
  · rw [if_neg h1]
    by_cases h2 : (s.size : Int) > 4
    · rw [if_pos h2, decide_eq_false (by omega)]; rfl
    · rw [if_neg h2, decide_eq_true (by omega)]; rfl
theorem keyOk_len {l : List Int} (h : keyOk l = true) : 1 ≤ l.length ∧ l.length ≤ 4 := by
  simp only [keyOk, Bool.and_eq_true, decide_eq_true_eq] at h; exact h.1
theorem keyOk_letters {l : List Int} (h : keyOk l = true) : letters l = true := by
  simp only [keyOk, Bool.and_eq_true, decide_eq_true_eq] at h; exact h.2
theorem letters_cons {b : Int} {l : List Int} (h : letters (b :: l) = true) : (97 ≤ b ∧ b ≤ 122) ∧ letters l = true := by
  simp only [letters, List.all_cons, Bool.and_eq_true, decide_eq_true_eq] at h
  exact ⟨h.1, by simp only [letters]; exact h.2⟩

/-! #### spec_l1In -/
theorem spec_l1In_f (a lo hi : Int) : spec_l1In.f a lo hi = some (decide (lo ≤ a ∧ a ≤ hi)) := by
  unfold spec_l1In.f
  by_cases h : a ≥ lo
  · rw [if_pos h]; congr 1; rw [decide_eq_decide]; omega
  · rw [if_neg h]; congr 1; rw [eq_comm, decide_eq_false_iff_not]; omega

/-! #### valueValid -/
theorem impl_valueValid_f (v : Int) : impl_valueValid.f v = some (decide (0 ≤ v ∧ v ≤ 999)) := by
  unfold impl_valueValid.f
  by_cases h : v ≥ 0
  · rw [if_pos h]; congr 1; rw [decide_eq_decide]; omega
  · rw [if_neg h]; congr 1; rw [eq_comm, decide_eq_false_iff_not]; omega

/-! #### spec_KeyValid -/
theorem spec_KeyValid_l0 (s : ByteArray) (hs : s.size ≤ 1000) : ∀ (ys : List Int) (i : Int), 0 ≤ i → i ≤ s.size → (bs s).drop i.toNat = ys → spec_KeyValid.l0L s i = some (letters ys)
  | [], i, h0, h1, hd => by
    have := drop_nil h0 (by rw [bs_length]; exact h1) hd
    rw [bs_length] at this
    rw [spec_KeyValid.l0L_eq, if_neg (by omega)]; rfl
  | y :: ys, i, h0, h1, hd => by
    obtain ⟨hr, hl, hd'⟩ := rd_drop h0 hd
    rw [bs_length] at hl
    rw [spec_KeyValid.l0L_eq, if_pos hl, if_pos h0, bt_bs, hr, w64 (by omega) (by omega)]
    unfold letters
    rw [List.all_cons]
    by_cases e1 : y < 97
    · rw [if_pos e1, decide_eq_false (by omega)]; rfl
    · rw [if_neg e1]
      by_cases e2 : y > 122
      · rw [if_pos e2, decide_eq_false (by omega)]; rfl
      · rw [if_neg e2, decide_eq_true (by omega), spec_KeyValid_l0 s hs ys (i + 1) (by omega) (by omega) hd']; rfl
theorem spec_KeyValid_f (s : ByteArray) : spec_KeyValid.fL s = some (keyOk (bs s)) := by
  rw [spec_KeyValid.fL_eq, spec_l1In_f, Option.bind_some]
  unfold keyOk
  rw [bs_length]
  by_cases h : 1 ≤ (s.size : Int) ∧ (s.size : Int) ≤ 4
  · rw [if_pos (by simpa using h), decide_eq_true (by omega), spec_KeyValid_l0 s (by omega) (bs s) 0 (by omega) (by omega) (by simp)]; rfl
  · rw [if_neg (by simpa using h), decide_eq_false (by omega)]; rfl

/-! #### pairs -/
def klt (a b : ByteArray) : Bool := Op.bytesLess a.toList b.toList
/-- A pair alone is valid. -/
def pairItem (y : S29) : Bool := keyOk (bs y.f0) && decide (0 ≤ y.f1 ∧ y.f1 ≤ 999)
/-- The key is greater than the one before, if there is one. -/
def above : Option ByteArray → ByteArray → Bool
  | none, _ => true
  | some q, k => klt q k
def pairsFrom : Option ByteArray → List S29 → Bool
  | _, [] => true
  | p, y :: ys => pairItem y && above p y.f0 && pairsFrom (some y.f0) ys
def pairsOk (l : List S29) : Bool := decide (l.length ≤ 48) && pairsFrom none l
theorem getD_cons {α : Type} {xs : List α} {d : α} {i : Int} {y : α} {ys : List α} (h0 : 0 ≤ i) (h : xs.drop i.toNat = y :: ys) : xs.getD i.toNat d = y ∧ i < xs.length ∧ xs.drop (i + 1).toNat = ys := by
  have h1 : i.toNat < xs.length := by
    by_cases e : i.toNat < xs.length
    · exact e
    · rw [List.drop_eq_nil_of_le (by omega)] at h; cases h
  rw [List.drop_eq_getElem_cons h1] at h
  injection h with ha hb
  refine ⟨?_, by omega, ?_⟩
  · rw [List.getD_eq_getElem?_getD, List.getElem?_eq_getElem h1]; exact ha
  · rw [show (i + 1).toNat = i.toNat + 1 by omega]; exact hb
theorem impl_PairsValid_l0 (xs : List S29) (hx : xs.length ≤ 48) : ∀ (ys : List S29) (i : Int) (p : Option ByteArray), 0 ≤ i → i ≤ xs.length → xs.drop i.toNat = ys → (i = 0 → p = none) → (0 < i → p = some (rd_T29 xs (i - 1)).f0) → impl_PairsValid.l0L xs xs (xs.length : Int) i = some (pairsFrom p ys)
  | [], i, p, h0, h1, hd, hp0, hp1 => by
    have := drop_nil h0 h1 hd
    rw [impl_PairsValid.l0L_eq, if_neg (by omega)]; rfl
  | y :: ys, i, p, h0, h1, hd, hp0, hp1 => by
    obtain ⟨hr0, hl, hd'⟩ := getD_cons (d := z29) h0 hd
    have hr : rd_T29 xs i = y := hr0
    have hnext := impl_PairsValid_l0 xs hx ys (i + 1) (some y.f0) (by omega) (by omega) hd' (fun h => by omega) (fun _ => by rw [show i + 1 - 1 = i by omega, hr])
    rw [impl_PairsValid.l0L_eq, if_pos hl, if_pos h0, if_pos hl, hr, impl_KeyValid_f, Option.bind_some, impl_valueValid_f, Option.bind_some]
    simp only [impl_PairsValid.j1L_eq, w64 (n := i - 1) (by omega) (by omega), w64 (n := i + 1) (by omega) (by omega), if_true, pairsFrom, pairItem]
    cases hk : keyOk (bs y.f0) with
    | false => simp
    | true =>
      by_cases hv : 0 ≤ y.f1 ∧ y.f1 ≤ 999
      · rw [decide_eq_true hv]
        by_cases hi : i > 0
        · rw [if_pos rfl, if_neg (by simp), if_pos hi, if_pos (by omega), if_pos (by omega), hp1 hi, hnext]
          simp only [above, klt]
          cases Op.bytesLess (rd_T29 xs (i - 1)).f0.toList y.f0.toList <;> simp
        · rw [if_pos rfl, if_neg (by simp), if_neg hi, hp0 (by omega), hnext]
          simp [above]
      · rw [decide_eq_false hv]; simp
theorem impl_PairsValid_f (xs : List S29) : impl_PairsValid.fL xs = some (pairsOk xs) := by
  rw [impl_PairsValid.fL_eq]
  unfold pairsOk
  by_cases h : (xs.length : Int) > 48
  · rw [if_pos h, decide_eq_false (by omega)]; rfl
  · rw [if_neg h, decide_eq_true (by omega), impl_PairsValid_l0 xs (by omega) xs 0 none (by omega) (by omega) (by simp) (fun _ => rfl) (fun h => by omega)]; rfl

/-! #### pairmap -/
theorem toList_eq {a b : ByteArray} : a.toList = b.toList ↔ a = b := by
  rw [toList_data, toList_data]
  exact ⟨fun h => ByteArray.ext (Array.toList_inj.mp h), fun h => by rw [h]⟩
/-- Where a key is or belongs: how many pairs stand before it. -/
def place (k : ByteArray) : List S29 → Nat
  | [] => 0
  | y :: ys => if klt y.f0 k = true then place k ys + 1 else 0
theorem place_le (k : ByteArray) : ∀ l, place k l ≤ l.length
  | [] => Nat.le_refl _
  | y :: ys => by
    have := place_le k ys
    simp only [place, List.length_cons]
    split <;> omega
/-- Is the key there? -/
def hit (k : ByteArray) (l : List S29) : Bool := decide (place k l < l.length ∧ (rd_T29 l (place k l : Int)).f0 = k)
theorem hit_lt {k : ByteArray} {l : List S29} (h : hit k l = true) : place k l < l.length := (of_decide_eq_true h).1
theorem hit_key {k : ByteArray} {l : List S29} (h : hit k l = true) : (rd_T29 l (place k l : Int)).f0 = k := (of_decide_eq_true h).2
def pairGet (l : List S29) (k : ByteArray) : Int := if pairsOk l = true then (if hit k l = true then (rd_T29 l (place k l : Int)).f1 else -1) else -1
def pairDrop (l : List S29) (k : ByteArray) : List S29 × Bool := if pairsOk l = true then (if hit k l = true then (l.take (place k l) ++ l.drop (place k l + 1), true) else (l, false)) else ([], false)
def pairPut (l : List S29) (k : ByteArray) (v : Int) : List S29 × Bool :=
  if pairsOk l = true ∧ keyOk (bs k) = true ∧ 0 ≤ v ∧ v ≤ 999 then
    (if hit k l = true then (l.take (place k l) ++ ⟨k, v⟩ :: l.drop (place k l + 1), true) else if 48 ≤ l.length then (l, false) else (l.take (place k l) ++ ⟨k, v⟩ :: l.drop (place k l), true))
  else ([], false)
theorem pairsOk_le {l : List S29} (h : pairsOk l = true) : l.length ≤ 48 := by
  simp only [pairsOk, Bool.and_eq_true, decide_eq_true_eq] at h; exact h.1
theorem pairPut_length (l : List S29) (k : ByteArray) (v : Int) : (pairPut l k v).1.length ≤ 48 := by
  unfold pairPut
  split
  · rename_i h
    have h1 := pairsOk_le h.1
    have h2 := place_le k l
    split
    · rename_i h3
      have := hit_lt h3
      simp; omega
    · split
      · exact h1
      · simp; omega
  · simp
theorem pairDrop_length (l : List S29) (k : ByteArray) : (pairDrop l k).1.length ≤ 48 := by
  unfold pairDrop
  split
  · rename_i h
    have h1 := pairsOk_le h
    split
    · simp; omega
    · exact h1
  · simp
theorem set_split {α : Type} (y : α) : ∀ (l : List α) (n : Nat), n < l.length → l.set n y = l.take n ++ y :: l.drop (n + 1)
  | [], n, h => by simp at h
  | x :: l, 0, h => by simp
  | x :: l, n + 1, h => by simp at h; simp [set_split y l n h]

/-! #### FeedValid -/
theorem some_false {b : Bool} (h : b = true → False) : some false = some b := by
  cases b with
  | false => rfl
  | true => exact (h rfl).elim
theorem getD_at {α : Type} {xs : List α} {d : α} {i : Int} {y : α} {ys : List α} (h0 : 0 ≤ i) (h : xs.drop i.toNat = y :: ys) : xs.getD i.toNat d = y ∧ i < xs.length ∧ xs.drop (i + 1).toNat = ys := by
  have h1 : i.toNat < xs.length := by
    by_cases e : i.toNat < xs.length
    · exact e
    · rw [List.drop_eq_nil_of_le (by omega)] at h; cases h
  rw [List.drop_eq_getElem_cons h1] at h
  injection h with ha hb
  refine ⟨?_, by omega, ?_⟩
  · rw [List.getD_eq_getElem?_getD, List.getElem?_eq_getElem h1]; exact ha
  · rw [show (i + 1).toNat = i.toNat + 1 by omega]; exact hb
/-- A change alone is valid. -/
def feedItem (y : S75) : Bool := decide (0 ≤ y.f0 ∧ y.f0 ≤ 23 ∧ -1 ≤ y.f2 ∧ y.f2 ≤ 999 ∧ -1 ≤ y.f3 ∧ y.f3 ≤ 999 ∧ ¬ y.f2 = y.f3) && keyOk (bs y.f1)
/-- Changes are valid, and ascend from an index on. -/
def feedFrom : Int → List S75 → Bool
  | _, [] => true
  | p, y :: ys => feedItem y && decide (p < y.f0) && feedFrom y.f0 ys
def feedOk (l : List S75) : Bool := decide (l.length ≤ 24) && feedFrom (-1) l
theorem impl_FeedValid_l0 (xs : List S75) (hx : xs.length ≤ 24) : ∀ (ys : List S75) (i p : Int), 0 ≤ i → i ≤ xs.length → xs.drop i.toNat = ys → (i = 0 → p = -1) → (0 < i → p = (rd_T75 xs (i - 1)).f0) → impl_FeedValid.l0L xs xs (xs.length : Int) i = some (feedFrom p ys)
  | [], i, p, h0, h1, hd, hp0, hp1 => by
    have := drop_nil h0 h1 hd
    rw [impl_FeedValid.l0L_eq, if_neg (by omega)]; rfl
  | y :: ys, i, p, h0, h1, hd, hp0, hp1 => by
    obtain ⟨hr0, hl, hd'⟩ := getD_at (d := z75) h0 hd
    have hr : rd_T75 xs i = y := hr0
    have hnext : feedItem y = true → impl_FeedValid.l0L xs xs (xs.length : Int) (i + 1) = some (feedFrom y.f0 ys) := fun _ =>
      impl_FeedValid_l0 xs hx ys (i + 1) y.f0 (by omega) (by omega) hd' (fun h => by omega) (fun _ => by rw [show i + 1 - 1 = i by omega, hr])
    rw [impl_FeedValid.l0L_eq, if_pos hl, if_pos h0, if_pos hl, hr, impl_KeyValid_f, Option.bind_some]
    simp only [impl_FeedValid.j1L_eq, impl_FeedValid.j2L_eq, impl_valueValid_f, Option.bind_some, if_true, w64 (n := i - 1) (by omega) (by omega), w64 (n := i + 1) (by omega) (by omega)]
    by_cases c1 : y.f0 < 0
    · rw [if_pos c1]; exact some_false (fun e => by simp only [feedFrom, feedItem, Bool.and_eq_true, decide_eq_true_eq] at e; omega)
    · rw [if_neg c1]
      by_cases c2 : y.f0 ≥ 24
      · rw [if_pos c2]; exact some_false (fun e => by simp only [feedFrom, feedItem, Bool.and_eq_true, decide_eq_true_eq] at e; omega)
      · rw [if_neg c2]
        by_cases c3 : keyOk (bs y.f1) = true
        · rw [if_pos c3]
          by_cases c4 : y.f2 = y.f3
          · rw [if_pos (by simpa using c4)]; exact some_false (fun e => by simp only [feedFrom, feedItem, Bool.and_eq_true, decide_eq_true_eq] at e; omega)
          · rw [if_neg (by simpa using c4)]
            have last : ∀ b : Bool, (feedItem y = true ↔ b = false) → (if b = true then some false else if i > 0 then (if 0 ≤ i - 1 then (if i - 1 < (xs.length : Int) then (if (rd_T75 xs (i - 1)).f0 ≥ y.f0 then some false else impl_FeedValid.l0L xs xs (xs.length : Int) (i + 1)) else none) else none) else impl_FeedValid.l0L xs xs (xs.length : Int) (i + 1)) = some (feedFrom p (y :: ys)) := by
              intro b hb
              simp only [feedFrom]
              cases b with
              | true =>
                rw [if_pos rfl]
                have : feedItem y = false := by
                  cases hf : feedItem y with
                  | false => rfl
                  | true => have := hb.1 hf; cases this
                rw [this]; rfl
              | false =>
                have hi := hb.2 rfl
                rw [if_neg (by simp), hi]
                by_cases c5 : i > 0
                · rw [if_pos c5, if_pos (by omega), if_pos (by omega), ← hp1 c5]
                  by_cases c6 : p ≥ y.f0
                  · rw [if_pos c6, decide_eq_false (by omega)]; rfl
                  · rw [if_neg c6, decide_eq_true (by omega), hnext hi]; rfl
                · have := hp0 (by omega)
                  rw [if_neg c5, decide_eq_true (by omega), hnext hi]; rfl
            have hitem : feedItem y = true ↔ (-1 ≤ y.f2 ∧ y.f2 ≤ 999 ∧ -1 ≤ y.f3 ∧ y.f3 ≤ 999) := by
              simp only [feedItem, Bool.and_eq_true, decide_eq_true_eq]
              constructor
              · rintro ⟨h, _⟩; omega
              · intro h; exact ⟨by omega, c3⟩
            by_cases d1 : y.f2 = -1
            · rw [if_pos d1]
              by_cases d2 : y.f3 = -1
              · omega
              · rw [if_neg d2]
                exact last _ (by rw [hitem]; simp; omega)
            · rw [if_neg d1]
              by_cases d3 : 0 ≤ y.f2 ∧ y.f2 ≤ 999
              · rw [if_pos (by simpa using d3)]
                by_cases d2 : y.f3 = -1
                · rw [if_pos d2]
                  exact last false (by rw [hitem]; simp; omega)
                · rw [if_neg d2]
                  exact last _ (by rw [hitem]; simp; omega)
              · rw [if_neg (by simpa using d3)]
                exact some_false (fun e => by simp only [feedFrom, feedItem, Bool.and_eq_true, decide_eq_true_eq] at e; omega)
        · rw [if_neg c3]; exact some_false (fun e => by simp only [feedFrom, feedItem, Bool.and_eq_true, decide_eq_true_eq] at e; exact c3 e.1.1.2)
theorem impl_FeedValid_f (xs : List S75) : impl_FeedValid.fL xs = some (feedOk xs) := by
  rw [impl_FeedValid.fL_eq]
  unfold feedOk
  by_cases h : (xs.length : Int) > 24
  · rw [if_pos h, decide_eq_false (by omega)]; rfl
  · rw [if_neg h, decide_eq_true (by omega), impl_FeedValid_l0 xs (by omega) xs 0 (-1) (by omega) (by omega) (by simp) (fun _ => rfl) (fun h => by omega)]; rfl

/-! #### feedlen -/
theorem eta_change (y : S75) : (⟨y.f0, y.f1, y.f2, y.f3⟩ : S75) = y := rfl
theorem feedOk_len {l : List S75} (h : feedOk l = true) : l.length ≤ 24 := by
  simp only [feedOk, Bool.and_eq_true, decide_eq_true_eq] at h; exact h.1

/-! #### ApplyFeed -/
/-- The pairs after changes; nothing if one does not fit. -/
def applyFrom : List S29 → List S75 → List S29 × Bool
  | l, [] => (l, true)
  | l, c :: cs => if pairGet l c.f1 = c.f2 then (if (if c.f3 = -1 then pairDrop l c.f1 else pairPut l c.f1 c.f3).2 = true then applyFrom (if c.f3 = -1 then pairDrop l c.f1 else pairPut l c.f1 c.f3).1 cs else ([], false)) else ([], false)
def applyFeed (l : List S29) (cs : List S75) : List S29 × Bool := if pairsOk l = true ∧ feedOk cs = true then applyFrom l cs else ([], false)
theorem applyFrom_length : ∀ (cs : List S75) (l : List S29), l.length ≤ 48 → (applyFrom l cs).1.length ≤ 48
  | [], l, h => h
  | c :: cs, l, h => by
    have hr : (if c.f3 = -1 then pairDrop l c.f1 else pairPut l c.f1 c.f3).1.length ≤ 48 := by
      by_cases e : c.f3 = -1
      · rw [if_pos e]; exact pairDrop_length _ _
      · rw [if_neg e]; exact pairPut_length _ _ _
    simp only [applyFrom]
    generalize (if c.f3 = -1 then pairDrop l c.f1 else pairPut l c.f1 c.f3) = r at hr
    by_cases e1 : pairGet l c.f1 = c.f2
    · rw [if_pos e1]
      by_cases e2 : r.2 = true
      · rw [if_pos e2]; exact applyFrom_length cs r.1 hr
      · rw [if_neg e2]; simp
    · rw [if_neg e1]; simp
theorem applyFeed_length (l : List S29) (cs : List S75) : (applyFeed l cs).1.length ≤ 48 := by
  unfold applyFeed
  split
  · rename_i h; exact applyFrom_length cs l (pairsOk_le h.1)
  · simp

/-! #### bless -/
theorem bless_irrefl : ∀ x : List UInt8, Op.bytesLess x x = false
  | [] => by simp [Op.bytesLess]
  | a :: x => by simp [Op.bytesLess, bless_irrefl x, UInt8.lt_irrefl]
theorem bless_total : ∀ x y : List UInt8, Op.bytesLess x y = false → Op.bytesLess y x = false → x = y
  | [], [], _, _ => rfl
  | [], b :: y, h, _ => by simp [Op.bytesLess] at h
  | a :: x, [], _, h => by simp [Op.bytesLess] at h
  | a :: x, b :: y, h, h2 => by
    simp only [Op.bytesLess, Bool.or_eq_false_iff, decide_eq_false_iff_not, Bool.and_eq_false_iff] at h h2
    have e : a = b := by
      apply UInt8.toNat_inj.1
      have h1 : ¬ a.toNat < b.toNat := fun c => h.1 (UInt8.lt_iff_toNat_lt.2 c)
      have h3 : ¬ b.toNat < a.toNat := fun c => h2.1 (UInt8.lt_iff_toNat_lt.2 c)
      omega
    subst e
    have hx : Op.bytesLess x y = false := by rcases h.2 with h | h; · simp at h
                                             · exact h
    have hy : Op.bytesLess y x = false := by rcases h2.2 with h | h; · simp at h
                                             · exact h
    rw [bless_total x y hx hy]
theorem bless_trans : ∀ x y z : List UInt8, Op.bytesLess x y = true → Op.bytesLess y z = true → Op.bytesLess x z = true
  | [], _, [], h, h2 => by cases h2' : Op.bytesLess ([] : List UInt8) [] <;> simp_all [Op.bytesLess]
  | [], _, c :: z, _, _ => by simp [Op.bytesLess]
  | a :: x, [], _, h, _ => by simp [Op.bytesLess] at h
  | a :: x, b :: y, [], _, h => by simp [Op.bytesLess] at h
  | a :: x, b :: y, c :: z, h, h2 => by
    simp only [Op.bytesLess, Bool.or_eq_true, decide_eq_true_eq, Bool.and_eq_true, beq_iff_eq] at h h2 ⊢
    simp only [UInt8.lt_iff_toNat_lt] at h h2 ⊢
    rcases h with h | ⟨e, h⟩
    · rcases h2 with h2 | ⟨e2, h2⟩
      · left; omega
      · left; subst e2; exact h
    · rcases h2 with h2 | ⟨e2, h2⟩
      · left; subst e; exact h2
      · right; exact ⟨e.trans e2, bless_trans x y z h h2⟩

/-! #### impl_pairmap -/
theorem cmp_Compare_f (a b : ByteArray) : cmp_Compare_string.f a b = some (if klt a b = true then -1 else if klt b a = true then 1 else 0) := by
  have h : ∀ s : ByteArray, cmp_isNaN_string.f s = some false := fun s => by unfold cmp_isNaN_string.f; simp
  unfold cmp_Compare_string.f klt
  rw [h, h]
  simp only [Option.bind_some, Bool.false_eq_true, if_false]
  split
  · rfl
  · split <;> rfl
theorem impl_pairPlace1_f (a : ByteArray) (v : Int) (b : ByteArray) : impl_pairPlace_1.f a v b = some (if klt a b = true then -1 else if klt b a = true then 1 else 0) := by
  unfold impl_pairPlace_1.f
  rw [cmp_Compare_f]; rfl
theorem klt_trans {a b c : ByteArray} (h : klt a b = true) (h2 : klt b c = true) : klt a c = true := bless_trans _ _ _ h h2
theorem klt_irrefl (a : ByteArray) : klt a a = false := bless_irrefl _
theorem klt_total {a b : ByteArray} (h : klt a b = false) (h2 : klt b a = false) : a = b := toList_eq.1 (bless_total _ _ h h2)
/-- All keys of a list that ascend from p on are greater than p's. -/
theorem pairsFrom_all : ∀ (l : List S29) (p : ByteArray), pairsFrom (some p) l = true → ∀ y ∈ l, klt p y.f0 = true
  | [], p, _, y, hy => by cases hy
  | x :: xs, p, h, y, hy => by
    simp only [pairsFrom, Bool.and_eq_true] at h
    have hx : klt p x.f0 = true := h.1.2
    rcases List.mem_cons.1 hy with rfl | hy
    · exact hx
    · exact klt_trans hx (pairsFrom_all xs x.f0 h.2 y hy)
/-- In a list that ascends: before the place keys are less, behind it they are not. -/
theorem place_split (k : ByteArray) : ∀ (l : List S29) (p : Option ByteArray), pairsFrom p l = true → ∀ (i : Nat) (h : i < l.length), klt (l[i]).f0 k = decide (i < place k l)
  | [], p, _, i, h => by simp at h
  | x :: xs, p, hp, i, h => by
    simp only [pairsFrom, Bool.and_eq_true] at hp
    have ha := pairsFrom_all xs x.f0 hp.2
    by_cases e : klt x.f0 k = true
    · simp only [place, if_pos e]
      cases i with
      | zero => simpa using e
      | succ i =>
        have := place_split k xs _ hp.2 i (by simpa using h)
        simp only [List.getElem_cons_succ, this, decide_eq_decide]
        omega
    · simp only [place, if_neg e]
      cases i with
      | zero => simpa using e
      | succ i =>
        simp only [List.getElem_cons_succ, Nat.not_lt_zero, decide_false]
        cases hb : klt (xs[i]'(by simpa using h)).f0 k with
        | false => rfl
        | true => exact absurd (klt_trans (ha _ (List.getElem_mem _)) hb) e
theorem rd_getElem (l : List S29) (i : Int) (h : i.toNat < l.length) : rd_T29 l i = l[i.toNat] := by
  unfold rd_T29
  rw [List.getD_eq_getElem?_getD, List.getElem?_eq_getElem h]; rfl
theorem half_ (a b : Int) (ha : 0 ≤ a) (hb : 0 ≤ b) (ha2 : a ≤ 1000000) (hb2 : b ≤ 1000000) : wrap64 (IntKind.u64.wrap (wrap64 (a + b)) / 2) = (a + b) / 2 := by
  have e : IntKind.u64.wrap (a + b) = a + b := by
    simp only [IntKind.wrap, IntKind.signed, IntKind.bits, Bool.false_and, Bool.false_eq_true, if_false]
    omega
  rw [w64 (n := a + b) (by omega) (by omega), e, w64 (by omega) (by omega)]
theorem impl_search_l0 (xs : List S29) (k : ByteArray) (hok : pairsOk xs = true) : ∀ (n : Nat) (i j : Int), j - i ≤ n → 0 ≤ i → i ≤ (place k xs : Int) → (place k xs : Int) ≤ j → j ≤ xs.length →
    impl_Pair_string.l0L xs k (xs.length : Int) i j = some ((place k xs : Int), hit k xs)
  | n, i, j, hn, h0, hi, hj, hl => by
    have h48 := pairsOk_le hok
    have hp := place_le k xs
    rw [impl_Pair_string.l0L_eq]
    by_cases e : i < j
    · match n with
      | 0 => omega
      | n + 1 =>
        have hr := rd_getElem xs ((i + j) / 2) (by omega)
        have hs := place_split k xs none (by simp only [pairsOk, Bool.and_eq_true, decide_eq_true_eq] at hok; exact hok.2) ((i + j) / 2).toNat (by omega)
        rw [if_pos e, half_ i j (by omega) (by omega) (by omega) (by omega), if_pos (by omega), if_pos (by omega), impl_pairPlace1_f, Option.bind_some, hr, hs]
        by_cases c : ((i + j) / 2).toNat < place k xs
        · rw [decide_eq_true c, if_pos rfl, if_pos (by omega), w64 (by omega) (by omega)]
          exact impl_search_l0 xs k hok n _ j (by omega) (by omega) (by omega) hj hl
        · rw [decide_eq_false c, if_neg (show ¬ (false = true) by simp)]
          have c2 : ¬ (if klt k (xs[((i + j) / 2).toNat]'(by omega)).f0 = true then (1 : Int) else 0) < 0 := by split <;> omega
          rw [if_neg c2]
          exact impl_search_l0 xs k hok n i _ (by omega) h0 hi (by omega) (by omega)
    · have hij : i = (place k xs : Int) := by omega
      rw [if_neg e, hij]
      by_cases c : (place k xs : Int) < (xs.length : Int)
      · have hr := rd_getElem xs (place k xs : Int) (by omega)
        have hs := place_split k xs none (by simp only [pairsOk, Bool.and_eq_true, decide_eq_true_eq] at hok; exact hok.2) (place k xs) (by omega)
        rw [if_pos c, if_pos (by omega), if_pos c, impl_pairPlace1_f, Option.bind_some]
        have hrd : rd_T29 xs (place k xs : Int) = xs[place k xs]'(by omega) := by rw [hr]; rfl
        rw [hrd, hs, decide_eq_false (by omega), if_neg (show ¬ (false = true) by simp)]
        have : hit k xs = ((if klt k (xs[place k xs]'(by omega)).f0 = true then (1 : Int) else 0) == 0) := by
          unfold hit
          rw [hrd]
          cases hb : klt k (xs[place k xs]'(by omega)).f0 with
          | true =>
            rw [if_pos rfl, decide_eq_false]
            · rfl
            · rintro ⟨_, he⟩; rw [he, klt_irrefl] at hb; cases hb
          | false =>
            rw [if_neg (by simp), decide_eq_true ⟨by omega, klt_total (by rw [hs]; simp) hb⟩]; rfl
        rw [this]
      · rw [if_neg c]
        have : hit k xs = false := by unfold hit; rw [decide_eq_false (fun h => c (by omega))]
        rw [this]
theorem impl_pairPlace_f (xs : List S29) (k : ByteArray) (hok : pairsOk xs = true) : impl_pairPlace.fL xs k = some ((place k xs : Int), hit k xs) := by
  have hp := place_le k xs
  rw [impl_pairPlace.fL_eq, impl_Pair_string.fL_eq, impl_search_l0 xs k hok xs.length 0 (xs.length : Int) (by omega) (by omega) (by omega) (by omega) (by omega), Option.bind_some]

/-! #### impl_PairGet -/
theorem impl_PairGet_f (xs : List S29) (k : ByteArray) : impl_PairGet.fL xs k = some (pairGet xs k) := by
  rw [impl_PairGet.fL_eq, impl_PairsValid_f, Option.bind_some]
  unfold pairGet
  by_cases h1 : pairsOk xs = true
  · rw [if_pos h1, if_pos h1, impl_pairPlace_f xs k h1, Option.bind_some]
    dsimp only
    by_cases h : hit k xs = true
    · have := hit_lt h
      rw [if_pos h, if_pos (by omega), if_pos (by omega), if_pos h]
    · rw [if_neg h, if_neg h]
  · rw [if_neg h1, if_neg h1]

/-! #### impl_copyPairs -/
theorem impl_copyOf_f (xs : List S29) (hx : xs.length ≤ 1000000000000) : impl_Pair_96.f xs = some xs := by
  unfold impl_Pair_96.f
  rw [if_pos (by simp; omega)]; simp

/-! #### impl_replacedPairs -/
theorem impl_replaced_f (xs ys : List S29) (i m : Nat) (hi : i + m ≤ xs.length) (hx : xs.length ≤ 1000000) (hy : ys.length ≤ 1000000) : impl_Pair_137.f xs (i : Int) (m : Int) ys = some (xs.take i ++ ys ++ xs.drop (i + m)) := by
  unfold impl_Pair_137.f
  have e1 : (([] : List S29) ++ xs.take i).length ≤ 1000000 := by simp; omega
  have e2 : (([] : List S29) ++ xs.take i ++ ys).length ≤ 2000000 := by simp; omega
  rw [w64 (n := (xs.length : Int) - m) (by omega) (by omega), w64 (n := (xs.length : Int) - m + ys.length) (by omega) (by omega), w64 (n := (i : Int) + m) (by omega) (by omega), if_pos (by omega), if_pos (by omega), Option.bind_some, if_pos (by omega), if_pos (by omega), Option.bind_some,
    Int.toNat_natCast, if_pos (by simp; omega), Option.bind_some, if_pos (by omega), Option.bind_some, if_pos (by omega), if_pos (by omega), Option.bind_some, if_pos (by simp; omega), show ((i : Int) + m).toNat = i + m by omega, List.nil_append]

/-! #### impl_PairPut -/
theorem impl_PairPut_f (xs : List S29) (k : ByteArray) (v : Int) : impl_PairPut.fL xs k v = some (pairPut xs k v) := by
  have hj : impl_PairPut.j0L xs k v true = some ([], false) := by rw [impl_PairPut.j0L_eq, if_pos rfl]
  rw [impl_PairPut.fL_eq, impl_PairsValid_f, Option.bind_some]
  unfold pairPut
  by_cases h1 : pairsOk xs = true
  · have h48 := pairsOk_le h1
    have hp := place_le k xs
    rw [if_pos h1, impl_KeyValid_f, Option.bind_some]
    by_cases h2 : keyOk (bs k) = true
    · rw [if_pos h2, impl_valueValid_f, Option.bind_some]
      by_cases h3 : 0 ≤ v ∧ v ≤ 999
      · rw [if_pos ⟨h1, h2, h3⟩, decide_eq_true h3, Bool.not_true, impl_PairPut.j0L_eq, if_neg (by simp), impl_pairPlace_f xs k h1, Option.bind_some]
        dsimp only
        by_cases h : hit k xs = true
        · have := hit_lt h
          have hr := impl_replaced_f xs [⟨k, v⟩] (place k xs) 1 (by omega) (by omega) (by simp)
          rw [if_pos h, if_pos h, show (1 : Int) = ((1 : Nat) : Int) from rfl, hr, Option.bind_some]; simp
        · rw [if_neg h, if_neg h]
          by_cases h4 : 48 ≤ xs.length
          · rw [if_pos (by omega), if_pos h4, impl_copyOf_f xs (by omega), Option.bind_some]
          · have hr := impl_replaced_f xs [⟨k, v⟩] (place k xs) 0 (by omega) (by omega) (by simp)
            rw [if_neg (by omega), if_neg h4, show (0 : Int) = ((0 : Nat) : Int) from rfl, hr, Option.bind_some]; simp
      · rw [decide_eq_false h3, Bool.not_false, hj, if_neg (fun h => h3 h.2.2)]
    · rw [if_neg h2, hj, if_neg (fun h => h2 h.2.1)]
  · rw [if_neg h1, hj, if_neg (fun h => h1 h.1)]

/-! #### impl_PairDrop -/
theorem impl_PairDrop_f (xs : List S29) (k : ByteArray) : impl_PairDrop.fL xs k = some (pairDrop xs k) := by
  rw [impl_PairDrop.fL_eq, impl_PairsValid_f, Option.bind_some]
  unfold pairDrop
  by_cases h1 : pairsOk xs = true
  · have h48 := pairsOk_le h1
    rw [if_pos h1, if_pos h1, impl_pairPlace_f xs k h1, Option.bind_some]
    dsimp only
    by_cases h : hit k xs = true
    · have := hit_lt h
      have hr := impl_replaced_f xs [] (place k xs) 1 (by omega) (by omega) (by simp)
      rw [if_pos h, if_pos h, show (1 : Int) = ((1 : Nat) : Int) from rfl, hr, Option.bind_some]; simp
    · rw [if_neg h, if_neg h, impl_copyOf_f xs (by omega), Option.bind_some]
  · rw [if_neg h1, if_neg h1]

/-! #### impl_ApplyFeed -/
theorem impl_ApplyFeed_l0 (xs : List S75) (hx : xs.length ≤ 24) : ∀ (ys : List S75) (l : List S29) (i : Int), 0 ≤ i → i ≤ xs.length → xs.drop i.toNat = ys → impl_ApplyFeed.l0L l xs (xs.length : Int) i = some (applyFrom l ys)
  | [], l, i, h0, h1, hd => by
    have := drop_nil h0 h1 hd
    rw [impl_ApplyFeed.l0L_eq, if_neg (by omega)]; rfl
  | y :: ys, l, i, h0, h1, hd => by
    obtain ⟨hr0, hl, hd'⟩ := getD_at (d := z75) h0 hd
    have hr : rd_T75 xs i = y := hr0
    rw [impl_ApplyFeed.l0L_eq, if_pos hl, if_pos h0, if_pos hl, hr, impl_PairGet_f, Option.bind_some, w64 (by omega) (by omega)]
    simp only [applyFrom]
    by_cases e : pairGet l y.f1 = y.f2
    · rw [if_pos e, if_pos e]
      by_cases e2 : y.f3 = -1
      · rw [if_pos e2, if_pos e2, impl_PairDrop_f, Option.bind_some]
        by_cases e3 : (pairDrop l y.f1).2 = true
        · rw [if_pos e3, if_pos e3]; exact impl_ApplyFeed_l0 xs hx ys _ (i + 1) (by omega) (by omega) hd'
        · rw [if_neg e3, if_neg e3]
      · rw [if_neg e2, if_neg e2, impl_PairPut_f, Option.bind_some]
        by_cases e3 : (pairPut l y.f1 y.f3).2 = true
        · rw [if_pos e3, if_pos e3]; exact impl_ApplyFeed_l0 xs hx ys _ (i + 1) (by omega) (by omega) hd'
        · rw [if_neg e3, if_neg e3]
    · rw [if_neg e, if_neg e]
theorem impl_ApplyFeed_f (l : List S29) (xs : List S75) : impl_ApplyFeed.fL l xs = some (applyFeed l xs) := by
  have hj : impl_ApplyFeed.j0L l xs true = some ([], false) := by rw [impl_ApplyFeed.j0L_eq, if_pos rfl]
  rw [impl_ApplyFeed.fL_eq, impl_PairsValid_f, Option.bind_some]
  unfold applyFeed
  by_cases h1 : pairsOk l = true
  · have h48 := pairsOk_le h1
    rw [if_pos h1, impl_FeedValid_f, Option.bind_some]
    by_cases h2 : feedOk xs = true
    · rw [if_pos ⟨h1, h2⟩, h2, Bool.not_true, impl_ApplyFeed.j0L_eq, if_neg (by simp), impl_copyOf_f l (by omega), Option.bind_some, impl_ApplyFeed_l0 xs (feedOk_len h2) xs l 0 (by omega) (by omega) (by simp)]
    · rw [show feedOk xs = false by simpa using h2, Bool.not_false, hj, if_neg (fun h => by simp at h)]
  · rw [if_neg h1, hj, if_neg (fun h => h1 h.1)]

/-! #### spec_pairs -/
theorem spec_PairsValid_l0 (xs : List S29) (hx : xs.length ≤ 48) : ∀ (ys : List S29) (i : Int) (p : Option ByteArray), 0 ≤ i → i ≤ xs.length → xs.drop i.toNat = ys → (i = 0 → p = none) → (0 < i → p = some (rd_T29 xs (i - 1)).f0) → spec_PairsValid.l0L xs i = some (pairsFrom p ys)
  | [], i, p, h0, h1, hd, hp0, hp1 => by
    have := drop_nil h0 h1 hd
    rw [spec_PairsValid.l0L_eq, if_neg (by omega)]; rfl
  | y :: ys, i, p, h0, h1, hd, hp0, hp1 => by
    obtain ⟨hr0, hl, hd'⟩ := getD_cons (d := z29) h0 hd
    have hr : rd_T29 xs i = y := hr0
    have hnext := spec_PairsValid_l0 xs hx ys (i + 1) (some y.f0) (by omega) (by omega) hd' (fun h => by omega) (fun _ => by rw [show i + 1 - 1 = i by omega, hr])
    rw [spec_PairsValid.l0L_eq, if_pos hl, if_pos h0, hr, spec_KeyValid_f, Option.bind_some, spec_l1In_f, Option.bind_some]
    simp only [w64 (n := i - 1) (by omega) (by omega), w64 (n := i + 1) (by omega) (by omega), pairsFrom, pairItem]
    cases hk : keyOk (bs y.f0) with
    | false => simp
    | true =>
      by_cases hv : 0 ≤ y.f1 ∧ y.f1 ≤ 999
      · rw [decide_eq_true hv]
        by_cases hi : i > 0
        · rw [if_pos rfl, if_pos rfl, if_pos hi, if_pos (by omega), if_pos (by omega), hp1 hi, hnext]
          simp only [above, klt]
          cases Op.bytesLess (rd_T29 xs (i - 1)).f0.toList y.f0.toList <;> simp
        · rw [if_pos rfl, if_pos rfl, if_neg hi, hp0 (by omega), hnext]
          simp [above]
      · rw [decide_eq_false hv]; simp
theorem spec_PairsValid_f (xs : List S29) : spec_PairsValid.fL xs = some (pairsOk xs) := by
  rw [spec_PairsValid.fL_eq]
  unfold pairsOk
  by_cases h : (xs.length : Int) > 48
  · rw [if_pos h, decide_eq_false (by omega)]; rfl
  · rw [if_neg h, decide_eq_true (by omega), spec_PairsValid_l0 xs (by omega) xs 0 none (by omega) (by omega) (by simp) (fun _ => rfl) (fun h => by omega)]; rfl

/-! #### spec_pairmap -/
theorem spec_l4Place_l0 (xs : List S29) (k : ByteArray) (hx : xs.length ≤ 1000000000000) : ∀ (ys : List S29) (i : Int), 0 ≤ i → i ≤ xs.length → xs.drop i.toNat = ys → spec_l4Place.l0L xs k i = some (i + (place k ys : Int))
  | [], i, h0, h1, hd => by
    have := drop_nil h0 h1 hd
    rw [spec_l4Place.l0L_eq, if_neg (by omega)]; simp [place]
  | y :: ys, i, h0, h1, hd => by
    obtain ⟨hr0, hl, hd'⟩ := getD_cons (d := z29) h0 hd
    have hr : rd_T29 xs i = y := hr0
    rw [spec_l4Place.l0L_eq, if_pos hl, if_pos h0, hr]
    by_cases h : klt y.f0 k = true
    · rw [if_pos (show Op.bytesLess y.f0.toList k.toList = true from h), w64 (by omega) (by omega), spec_l4Place_l0 xs k hx ys (i + 1) (by omega) (by omega) hd']
      simp only [place, if_pos h]
      congr 1; omega
    · rw [if_neg (show ¬ Op.bytesLess y.f0.toList k.toList = true from h)]
      simp only [place, if_neg h]
      congr 1; omega
theorem spec_l4Place_f (xs : List S29) (k : ByteArray) (hx : xs.length ≤ 1000000000000) : spec_l4Place.fL xs k = some (place k xs : Int) := by
  rw [spec_l4Place.fL_eq, spec_l4Place_l0 xs k hx xs 0 (by omega) (by omega) (by simp)]
  congr 1; omega

/-! #### spec_PairGet -/
theorem spec_PairGet_f (xs : List S29) (k : ByteArray) (hx : xs.length ≤ 1000000000000) : spec_PairGet.fL xs k = some (pairGet xs k) := by
  have hp := place_le k xs
  rw [spec_PairGet.fL_eq, spec_l4Place_f xs k hx, Option.bind_some, spec_PairsValid_f, Option.bind_some]
  unfold pairGet
  by_cases h1 : pairsOk xs = true
  · rw [if_pos h1, if_pos h1]
    by_cases e : (place k xs : Int) = (xs.length : Int)
    · have : ¬ hit k xs = true := fun h => by have := hit_lt h; omega
      rw [if_pos e, if_neg this]
    · rw [if_neg e, if_pos (by omega), if_pos (by omega)]
      by_cases e2 : (rd_T29 xs (place k xs : Int)).f0 = k
      · have hh : hit k xs = true := decide_eq_true ⟨by omega, e2⟩
        rw [if_pos (by rw [e2]), if_pos hh]
      · have hh : ¬ hit k xs = true := fun h => e2 (hit_key h)
        rw [if_neg (fun h => e2 (toList_eq.1 h)), if_neg hh]
  · rw [if_neg h1, if_neg h1]

/-! #### spec_PairPut -/
theorem spec_PairPut_f (xs : List S29) (k : ByteArray) (v : Int) (hx : xs.length ≤ 1000000000000) : spec_PairPut.fL xs k v = some (pairPut xs k v) := by
  have hj : ∀ y : List S29, spec_PairPut.j0L xs k v y true = some (y, false) := fun y => by rw [spec_PairPut.j0L_eq, if_pos rfl]
  rw [spec_PairPut.fL_eq, Option.bind_some, spec_PairsValid_f, Option.bind_some]
  unfold pairPut
  by_cases h1 : pairsOk xs = true
  · rw [if_pos h1, spec_KeyValid_f, Option.bind_some]
    by_cases h2 : keyOk (bs k) = true
    · rw [if_pos h2, spec_l1In_f, Option.bind_some]
      by_cases h3 : 0 ≤ v ∧ v ≤ 999
      · have hp := place_le k xs
        rw [if_pos ⟨h1, h2, h3⟩, decide_eq_true h3, Bool.not_true, spec_PairPut.j0L_eq, if_neg (by simp), spec_l4Place_f xs k hx, Option.bind_some]
        have hj1 : ∀ b : Bool, (hit k xs = b) → spec_PairPut.j1L xs k v [] (place k xs : Int) b = some (if hit k xs = true then (xs.take (place k xs) ++ ⟨k, v⟩ :: xs.drop (place k xs + 1), true) else if 48 ≤ xs.length then (xs, false) else (xs.take (place k xs) ++ ⟨k, v⟩ :: xs.drop (place k xs), true)) := by
          intro b hb
          rw [spec_PairPut.j1L_eq, hb]
          cases b with
          | true =>
            have hl := hit_lt hb
            have hk := hit_key hb
            rw [if_pos rfl, if_pos (by simp; omega), Option.bind_some, if_pos (by omega), if_pos (by simp; omega), if_pos rfl]
            rw [List.nil_append, hk, Int.toNat_natCast, set_split _ _ _ hl]
          | false =>
            rw [if_neg (by simp), if_neg (show ¬ (false = true) by simp)]
            by_cases h4 : 48 ≤ xs.length
            · rw [if_pos (by omega), if_pos (by simp; omega), if_pos h4]; simp
            · have e1 : (([] : List S29) ++ xs.take (place k xs)).length ≤ 1000000000000 := by simp; omega
              have e2 : (([] : List S29) ++ xs.take (place k xs) ++ [(⟨k, v⟩ : S29)]).length ≤ 1000000000000 := by simp; omega
              rw [if_neg (by omega), if_neg h4, if_pos (by omega), if_pos (by omega), Int.toNat_natCast, Option.bind_some, if_pos (by simp; omega), Option.bind_some, if_pos (by omega), Option.bind_some, Option.bind_some, if_pos (by simp; omega)]
              simp
        by_cases e : (place k xs : Int) < (xs.length : Int)
        · rw [if_pos e, if_pos (by omega)]
          refine hj1 _ ?_
          unfold hit
          by_cases e2 : (rd_T29 xs (place k xs : Int)).f0 = k
          · rw [decide_eq_true ⟨by omega, e2⟩, e2]; simp
          · rw [decide_eq_false (fun h => e2 h.2)]
            symm; rw [beq_eq_false_iff_ne]; intro h; exact e2 (toList_eq.1 h)
        · rw [if_neg e]
          refine hj1 _ ?_
          unfold hit
          rw [decide_eq_false (fun h => e (by omega))]
      · rw [decide_eq_false h3, Bool.not_false, hj, if_neg (fun h => h3 h.2.2)]
    · rw [if_neg h2, hj, if_neg (fun h => h2 h.2.1)]
  · rw [if_neg h1, hj, if_neg (fun h => h1 h.1)]

/-! #### spec_PairDrop -/
theorem spec_PairDrop_f (xs : List S29) (k : ByteArray) (hx : xs.length ≤ 1000000000000) : spec_PairDrop.fL xs k = some (pairDrop xs k) := by
  have hp := place_le k xs
  rw [spec_PairDrop.fL_eq, Option.bind_some, spec_PairsValid_f, Option.bind_some]
  unfold pairDrop
  by_cases h1 : pairsOk xs = true
  · have h48 := pairsOk_le h1
    rw [if_pos h1, if_pos h1, spec_l4Place_f xs k hx, Option.bind_some]
    by_cases e : (place k xs : Int) = (xs.length : Int)
    · have : ¬ hit k xs = true := fun h => by have := hit_lt h; omega
      rw [if_pos e, if_pos (by simp; omega), if_neg this, List.nil_append]
    · rw [if_neg e, if_pos (by omega), if_pos (by omega)]
      by_cases e2 : (rd_T29 xs (place k xs : Int)).f0 = k
      · have hh : hit k xs = true := decide_eq_true ⟨by omega, e2⟩
        rw [if_pos (by rw [e2]), if_pos (by omega), Option.bind_some, if_pos (by simp; omega), Option.bind_some, w64 (by omega) (by omega), if_pos (by omega), if_pos (by omega), Option.bind_some, if_pos (by simp; omega), if_pos hh]
        rw [Int.toNat_natCast, show ((place k xs : Int) + 1).toNat = place k xs + 1 by omega, List.nil_append]
      · have hh : ¬ hit k xs = true := fun h => e2 (hit_key h)
        rw [if_neg (fun h => e2 (toList_eq.1 h)), if_pos (by simp; omega), if_neg hh, List.nil_append]
  · rw [if_neg h1, if_neg h1]

/-! #### spec_FeedValid -/
theorem spec_FeedValid_l0 (xs : List S75) (hx : xs.length ≤ 1000000000000) : ∀ (ys : List S75) (i p : Int), 0 ≤ i → i ≤ 24 → i ≤ xs.length → xs.drop i.toNat = ys → (i = 0 → p = -1) → (0 < i → p = (rd_T75 xs (i - 1)).f0) → spec_FeedValid.l0L xs i = some (decide (xs.length ≤ 24) && feedFrom p ys)
  | [], i, p, h0, h24, h1, hd, hp0, hp1 => by
    have := drop_nil h0 h1 hd
    rw [spec_FeedValid.l0L_eq, if_neg (by omega), decide_eq_true (by omega)]; rfl
  | y :: ys, i, p, h0, h24, h1, hd, hp0, hp1 => by
    obtain ⟨hr0, hl, hd'⟩ := getD_at (d := z75) h0 hd
    have hr : rd_T75 xs i = y := hr0
    rw [spec_FeedValid.l0L_eq, if_pos hl, if_pos h0]
    by_cases c0 : i ≥ 24
    · rw [if_pos c0, decide_eq_false (by omega)]; rfl
    · have hnext : spec_FeedValid.l0L xs (i + 1) = some (decide (xs.length ≤ 24) && feedFrom y.f0 ys) :=
        spec_FeedValid_l0 xs hx ys (i + 1) y.f0 (by omega) (by omega) (by omega) hd' (fun h => by omega) (fun _ => by rw [show i + 1 - 1 = i by omega, hr])
      rw [if_neg c0, hr, w64 (n := i + 1) (by omega) (by omega), w64 (n := i - 1) (by omega) (by omega)]
      simp only [spec_l1In_f, spec_KeyValid_f, Option.bind_some, decide_eq_true_eq]
      have no : ∀ Q : Prop, ¬ Q → (feedFrom p (y :: ys) = true → Q) → some false = some (decide (xs.length ≤ 24) && feedFrom p (y :: ys)) := fun Q hq h => some_false (fun e => by
        simp only [Bool.and_eq_true] at e
        exact hq (h e.2))
      by_cases c1 : 0 ≤ y.f0 ∧ y.f0 ≤ 23
      · rw [if_pos c1]
        by_cases c2 : keyOk (bs y.f1) = true
        · rw [if_pos c2]
          by_cases c3 : -1 ≤ y.f2 ∧ y.f2 ≤ 999
          · rw [if_pos c3]
            by_cases c4 : -1 ≤ y.f3 ∧ y.f3 ≤ 999
            · rw [if_pos c4]
              by_cases c5 : y.f2 = y.f3
              · rw [if_pos c5]; exact no (¬ y.f2 = y.f3) (fun h => h c5) (fun e => by simp only [feedFrom, feedItem, Bool.and_eq_true, decide_eq_true_eq] at e; omega)
              · have hitem : feedItem y = true := by
                  simp only [feedItem, Bool.and_eq_true, decide_eq_true_eq]
                  exact ⟨by omega, c2⟩
                rw [if_neg c5]
                simp only [feedFrom]
                rw [hitem]
                by_cases c6 : i > 0
                · rw [if_pos c6, if_pos (by omega), if_pos (by omega), ← hp1 c6]
                  by_cases c7 : y.f0 ≤ p
                  · rw [if_pos c7, decide_eq_false (p := p < y.f0) (by omega)]; simp
                  · rw [if_neg c7, decide_eq_true (p := p < y.f0) (by omega), hnext]; rfl
                · have := hp0 (by omega)
                  rw [if_neg c6, decide_eq_true (p := p < y.f0) (by omega), hnext]; rfl
            · rw [if_neg c4]; exact no _ c4 (fun e => by simp only [feedFrom, feedItem, Bool.and_eq_true, decide_eq_true_eq] at e; omega)
          · rw [if_neg c3]; exact no _ c3 (fun e => by simp only [feedFrom, feedItem, Bool.and_eq_true, decide_eq_true_eq] at e; omega)
        · rw [if_neg c2]; exact no _ c2 (fun e => by simp only [feedFrom, feedItem, Bool.and_eq_true, decide_eq_true_eq] at e; exact e.1.1.2)
      · rw [if_neg c1]; exact no _ c1 (fun e => by simp only [feedFrom, feedItem, Bool.and_eq_true, decide_eq_true_eq] at e; omega)
theorem spec_FeedValid_f (xs : List S75) (hx : xs.length ≤ 1000000000000) : spec_FeedValid.fL xs = some (feedOk xs) := by
  rw [spec_FeedValid.fL_eq, spec_FeedValid_l0 xs hx xs 0 (-1) (by omega) (by omega) (by omega) (by simp) (fun _ => rfl) (fun h => by omega)]; rfl

/-! #### spec_ApplyFeed -/
theorem feedFrom_item : ∀ (l : List S75) (p : Int), feedFrom p l = true → ∀ y ∈ l, feedItem y = true
  | [], p, _, y, hy => by cases hy
  | x :: xs, p, h, y, hy => by
    simp only [feedFrom, Bool.and_eq_true] at h
    rcases List.mem_cons.1 hy with rfl | hy
    · exact h.1.1
    · exact feedFrom_item xs _ h.2 y hy
theorem spec_ApplyFeed_l0 (xs : List S75) (hx : xs.length ≤ 24) (hi : ∀ y ∈ xs, feedItem y = true) : ∀ (ys : List S75) (l : List S29) (i : Int), l.length ≤ 48 → 0 ≤ i → i ≤ xs.length → xs.drop i.toNat = ys → spec_ApplyFeed.l0L xs l i = some (applyFrom l ys)
  | [], l, i, hl0, h0, h1, hd => by
    have := drop_nil h0 h1 hd
    rw [spec_ApplyFeed.l0L_eq, if_neg (by omega)]; rfl
  | y :: ys, l, i, hl0, h0, h1, hd => by
    obtain ⟨hr0, hl, hd'⟩ := getD_at (d := z75) h0 hd
    have hr : rd_T75 xs i = y := hr0
    have hy : y ∈ xs := by
      have : y ∈ xs.drop i.toNat := by rw [hd]; exact List.mem_cons_self
      exact List.mem_of_mem_drop this
    have hf := hi y hy
    simp only [feedItem, Bool.and_eq_true, decide_eq_true_eq] at hf
    rw [spec_ApplyFeed.l0L_eq, if_pos hl, if_pos h0, hr, spec_PairGet_f l y.f1 (by omega), Option.bind_some, w64 (by omega) (by omega)]
    simp only [applyFrom]
    by_cases e : pairGet l y.f1 = y.f2
    · rw [if_pos e, if_pos e, spec_PairDrop_f l y.f1 (by omega), Option.bind_some]
      by_cases e2 : y.f3 = -1
      · rw [if_neg (by omega), if_pos e2]
        by_cases e3 : (pairDrop l y.f1).2 = true
        · rw [if_pos e3, if_pos e3]; exact spec_ApplyFeed_l0 xs hx hi ys _ (i + 1) (pairDrop_length _ _) (by omega) (by omega) hd'
        · rw [if_neg e3, if_neg e3]
      · rw [if_pos (by omega), if_neg e2, spec_PairPut_f l y.f1 y.f3 (by omega), Option.bind_some]
        by_cases e3 : (pairPut l y.f1 y.f3).2 = true
        · rw [if_pos e3, if_pos e3]; exact spec_ApplyFeed_l0 xs hx hi ys _ (i + 1) (pairPut_length _ _ _) (by omega) (by omega) hd'
        · rw [if_neg e3, if_neg e3]
    · rw [if_neg e, if_neg e]
theorem spec_ApplyFeed_f (l : List S29) (xs : List S75) (hx : xs.length ≤ 1048576) : spec_ApplyFeed.fL l xs = some (applyFeed l xs) := by
  have hj : spec_ApplyFeed.j0L l xs true = some ([], false) := by rw [spec_ApplyFeed.j0L_eq, if_pos rfl]
  rw [spec_ApplyFeed.fL_eq, spec_PairsValid_f, Option.bind_some]
  unfold applyFeed
  by_cases h1 : pairsOk l = true
  · have h48 := pairsOk_le h1
    rw [if_pos h1, spec_FeedValid_f xs (by omega), Option.bind_some]
    by_cases h2 : feedOk xs = true
    · have hf : ∀ y ∈ xs, feedItem y = true := by
        simp only [feedOk, Bool.and_eq_true] at h2
        exact feedFrom_item xs _ h2.2
      rw [if_pos ⟨h1, h2⟩, h2, Bool.not_true, spec_ApplyFeed.j0L_eq, if_neg (by simp), Option.bind_some, if_pos (by simp; omega), List.nil_append, spec_ApplyFeed_l0 xs (feedOk_len h2) hf xs l 0 h48 (by omega) (by omega) (by simp)]
    · rw [show feedOk xs = false by simpa using h2, Bool.not_false, hj, if_neg (fun h => by simp at h)]
  · rw [if_neg h1, hj, if_neg (fun h => h1 h.1)]

/-! #### intS -/
theorem set_at {α : Type} {xs : List α} {i : Nat} {y z : α} {ys : List α} (h : xs.drop i = y :: ys) : (xs.set i z).take (i + 1) = xs.take i ++ [z] ∧ (xs.set i z).drop (i + 1) = ys ∧ (xs.set i z).length = xs.length := by
  have h1 : i < xs.length := by
    by_cases e : i < xs.length
    · exact e
    · rw [List.drop_eq_nil_of_le (by omega)] at h; cases h
  rw [List.drop_eq_getElem_cons h1] at h
  injection h with ha hb
  refine ⟨?_, ?_, by simp⟩
  · rw [List.take_succ_eq_append_getElem (by simpa using h1), List.take_set_of_le (by omega)]; simp
  · rw [List.drop_set_of_lt (by omega)]; exact hb
theorem drop_take_cons {α : Type} {xs pre : List α} {i : Nat} {y : α} {ys : List α} (h : xs.drop i = y :: ys) : xs.take (i + 1) = xs.take i ++ [y] ∧ i < xs.length ∧ xs.drop (i + 1) = ys := by
  have h1 : i < xs.length := by
    by_cases e : i < xs.length
    · exact e
    · rw [List.drop_eq_nil_of_le (by omega)] at h; cases h
  rw [List.drop_eq_getElem_cons h1] at h
  injection h with ha hb
  exact ⟨by rw [List.take_succ_eq_append_getElem h1, ha], h1, hb⟩

/-! #### loops -/
theorem getD_drop {α : Type} {xs : List α} {d : α} {i : Int} {y : α} {ys : List α} (h0 : 0 ≤ i) (h : xs.drop i.toNat = y :: ys) : xs.getD i.toNat d = y ∧ i < xs.length ∧ xs.drop (i + 1).toNat = ys := by
  have h1 : i.toNat < xs.length := by
    by_cases e : i.toNat < xs.length
    · exact e
    · rw [List.drop_eq_nil_of_le (by omega)] at h; cases h
  rw [List.drop_eq_getElem_cons h1] at h
  injection h with ha hb
  refine ⟨?_, by omega, ?_⟩
  · rw [List.getD_eq_getElem?_getD, List.getElem?_eq_getElem h1]; exact ha
  · rw [show (i + 1).toNat = i.toNat + 1 by omega]; exact hb
/-- A copy, element by element, into a list of the same length. -/
theorem copy_loop {α : Type} (ys : List α) (d : α) (n : Nat) (hn : n = ys.length) (L : List α → Int → Option (List α))
    (hL : ∀ (zs : List α) (i : Int), 0 ≤ i → i ≤ n → zs.length = n → L zs i = if i < (n : Int) then L (zs.set i.toNat (ys.getD i.toNat d)) (i + 1) else some zs) :
    ∀ (ws zs : List α) (i : Int), 0 ≤ i → i ≤ n → ys.drop i.toNat = ws → zs.length = n → zs.take i.toNat = ys.take i.toNat → L zs i = some ys
  | [], zs, i, h0, h1, hd, hl, ht => by
    have := drop_nil h0 (by omega) hd
    rw [hL zs i h0 h1 hl, if_neg (by omega)]
    rw [List.take_of_length_le (by omega), List.take_of_length_le (by omega)] at ht
    rw [ht]
  | w :: ws, zs, i, h0, h1, hd, hl, ht => by
    obtain ⟨hr, hlt, hd'⟩ := getD_drop (d := d) h0 hd
    obtain ⟨t1, _, _⟩ := drop_take_cons (pre := ys) hd
    have hz : zs.drop i.toNat = zs[i.toNat]'(by omega) :: zs.drop (i.toNat + 1) := List.drop_eq_getElem_cons (by omega)
    obtain ⟨s1, s2, s3⟩ := set_at (z := w) hz
    rw [hL zs i h0 h1 hl, if_pos (by omega), hr]
    exact copy_loop ys d n hn L hL ws _ (i + 1) (by omega) (by omega) hd' (by omega) (by rw [show (i + 1).toNat = i.toNat + 1 by omega, s1, t1, ht])
/-- A comparison, element by element, of lists of the same length. -/
theorem eq_loop {α : Type} [DecidableEq α] (xs zs : List α) (d : α) (hl : xs.length = zs.length) (L : Int → Option Bool)
    (hL : ∀ i : Int, 0 ≤ i → i ≤ xs.length → L i = if i < (xs.length : Int) then (if xs.getD i.toNat d = zs.getD i.toNat d then L (i + 1) else some false) else some true) :
    ∀ (ys ws : List α) (i : Int), 0 ≤ i → i ≤ xs.length → xs.drop i.toNat = ys → zs.drop i.toNat = ws → L i = some (decide (ys = ws))
  | [], ws, i, h0, h1, hd, hw => by
    have := drop_nil h0 h1 hd
    rw [hL i h0 h1, if_neg (by omega)]
    rw [List.drop_eq_nil_of_le (by omega)] at hw
    rw [← hw]; rfl
  | y :: ys, [], i, h0, h1, hd, hw => by
    have := drop_nil h0 (by omega) hw
    obtain ⟨hr, hlt, hd'⟩ := getD_drop (d := d) h0 hd
    omega
  | y :: ys, w :: ws, i, h0, h1, hd, hw => by
    obtain ⟨hr, hlt, hd'⟩ := getD_drop (d := d) h0 hd
    obtain ⟨hr2, hlt2, hw'⟩ := getD_drop (d := d) h0 hw
    rw [hL i h0 h1, if_pos hlt, hr, hr2]
    by_cases e : y = w
    · rw [if_pos e, eq_loop xs zs d hl L hL ys ws (i + 1) (by omega) (by omega) hd' hw']
      simp [e]
    · rw [if_neg e]; simp [e]
theorem eq_loop0 {α : Type} [DecidableEq α] (xs zs : List α) (d : α) (hl : xs.length = zs.length) (L : Int → Option Bool)
    (hL : ∀ i : Int, 0 ≤ i → i ≤ xs.length → L i = if i < (xs.length : Int) then (if xs.getD i.toNat d = zs.getD i.toNat d then L (i + 1) else some false) else some true) : L 0 = some (decide (xs = zs)) :=
  eq_loop xs zs d hl L hL xs zs 0 (by omega) (by omega) (by simp) (by simp)
theorem copy_loop0 {α : Type} (ys zs : List α) (d : α) (n : Nat) (hn : n = ys.length) (hz : zs.length = n) (L : List α → Int → Option (List α))
    (hL : ∀ (zs : List α) (i : Int), 0 ≤ i → i ≤ n → zs.length = n → L zs i = if i < (n : Int) then L (zs.set i.toNat (ys.getD i.toNat d)) (i + 1) else some zs) : L zs 0 = some ys :=
  copy_loop ys d n hn L hL ys zs 0 (by omega) (by omega) (by simp) hz (by simp)
/-- Marks: an element for each number, c numbers an element. -/
def marks {α : Type} (el : Int → α) (c : Int) : Nat → Int → List α
  | 0, _ => []
  | n + 1, k => el k :: marks el c n (k + c)
theorem marks_length {α : Type} (el : Int → α) (c : Int) : ∀ (n : Nat) (k : Int), (marks el c n k).length = n
  | 0, _ => rfl
  | n + 1, k => by simp [marks, marks_length el c n]
theorem mark_loop {α : Type} (el : Int → α) (c : Int) (hc : 0 ≤ c) (hc2 : c ≤ 1000) (n : Nat) (hn : n ≤ 1000000000) (L : List α → Int → Int → Option (Int × List α))
    (hL : ∀ (zs : List α) (k i : Int), 0 ≤ i → i ≤ n → zs.length = n → 0 ≤ k → k ≤ 100000000000 + 1000 * n → L zs k i = if i < (n : Int) then L (zs.set i.toNat (el k)) (k + c) (i + 1) else some (k, zs)) :
    ∀ (ys zs : List α) (k i : Int), 0 ≤ i → i ≤ n → zs.length = n → zs.drop i.toNat = ys → 0 ≤ k → k ≤ 100000000000 + 1000 * i → L zs k i = some (k + c * ys.length, zs.take i.toNat ++ marks el c ys.length k)
  | [], zs, k, i, h0, h1, hl, hd, hk, hk2 => by
    have := drop_nil h0 (by omega) hd
    rw [hL zs k i h0 h1 hl hk (by omega), if_neg (by omega), List.take_of_length_le (by omega)]; simp [marks]
  | y :: ys, zs, k, i, h0, h1, hl, hd, hk, hk2 => by
    obtain ⟨hr, hlt, hd'⟩ := getD_drop (d := y) h0 hd
    obtain ⟨s1, s2, s3⟩ := set_at (z := el k) hd
    rw [hL zs k i h0 h1 hl hk (by omega), if_pos (by omega),
      mark_loop el c hc hc2 n hn L hL ys _ (k + c) (i + 1) (by omega) (by omega) (by omega) (by rw [show (i + 1).toNat = i.toNat + 1 by omega]; exact s2) (by omega) (by omega),
      show (i + 1).toNat = i.toNat + 1 by omega, s1]
    simp only [List.length_cons, marks, List.append_assoc, List.singleton_append]
    congr 2
    rw [show ((ys.length + 1 : Nat) : Int) = (ys.length : Int) + 1 by omega, Int.mul_add]
    omega
theorem mark_loop0 {α : Type} (el : Int → α) (c : Int) (hc : 0 ≤ c) (hc2 : c ≤ 1000) (zs : List α) (hn : zs.length ≤ 1000000000) (k : Int) (hk : 0 ≤ k) (hk2 : k ≤ 100000000000) (L : List α → Int → Int → Option (Int × List α))
    (hL : ∀ (ws : List α) (k i : Int), 0 ≤ i → i ≤ zs.length → ws.length = zs.length → 0 ≤ k → k ≤ 100000000000 + 1000 * zs.length → L ws k i = if i < (zs.length : Int) then L (ws.set i.toNat (el k)) (k + c) (i + 1) else some (k, ws)) :
    L zs k 0 = some (k + c * zs.length, marks el c zs.length k) := by
  have := mark_loop el c hc hc2 zs.length hn L hL zs zs k 0 (by omega) (by omega) rfl (by simp) hk (by omega)
  simpa using this
theorem held_loop {α : Type} (el : Int → α) (d : α) (c : Int) (hc : 0 ≤ c) (hc2 : c ≤ 1000) (zs : List α) (hn : zs.length ≤ 1000000000) (L : Int → Int → Option Int)
    (hL : ∀ k i : Int, 0 ≤ i → i ≤ zs.length → 0 ≤ k → k ≤ 100000000000 + 1000 * zs.length → (i < zs.length → zs.getD i.toNat d = el k) → L k i = if i < (zs.length : Int) then L (k + c) (i + 1) else some k) :
    ∀ (n : Nat) (k i : Int), 0 ≤ i → i ≤ zs.length → zs.drop i.toNat = marks el c n k → 0 ≤ k → k ≤ 100000000000 + 1000 * i → L k i = some (k + c * n)
  | 0, k, i, h0, h1, hd, hk, hk2 => by
    have := drop_nil h0 h1 hd
    rw [hL k i h0 h1 hk (by omega) (fun h => by omega), if_neg (by omega)]; simp
  | n + 1, k, i, h0, h1, hd, hk, hk2 => by
    obtain ⟨hr, hlt, hd'⟩ := getD_drop (d := d) h0 hd
    rw [hL k i h0 h1 hk (by omega) (fun _ => hr), if_pos hlt, held_loop el d c hc hc2 zs hn L hL n (k + c) (i + 1) (by omega) (by omega) hd' (by omega) (by omega)]
    congr 1
    rw [show ((n + 1 : Nat) : Int) = (n : Int) + 1 by omega, Int.mul_add]
    omega
theorem held_loop0 {α : Type} (el : Int → α) (d : α) (c : Int) (hc : 0 ≤ c) (hc2 : c ≤ 1000) (n : Nat) (hn : n ≤ 1000000000) (k : Int) (hk : 0 ≤ k) (hk2 : k ≤ 100000000000) (L : Int → Int → Option Int)
    (hL : ∀ k' i : Int, 0 ≤ i → i ≤ n → 0 ≤ k' → k' ≤ 100000000000 + 1000 * n → (i < n → (marks el c n k).getD i.toNat d = el k') → L k' i = if i < (n : Int) then L (k' + c) (i + 1) else some k') :
    L k 0 = some (k + c * n) := by
  have hm := marks_length el c n k
  refine held_loop el d c hc hc2 (marks el c n k) (by omega) L (fun k' i => ?_) n k 0 (by omega) (by omega) (by simp) hk (by omega)
  rw [hm]
  exact hL k' i
theorem getD_map' {α β : Type} (f : α → β) (xs : List α) (i : Nat) (d : α) (e : β) (h : i < xs.length) : (xs.map f).getD i e = f (xs.getD i d) := by
  simp [List.getD_eq_getElem?_getD, List.getElem?_eq_getElem h]

/-! #### refl_loop -/
theorem refl_loop (n : Nat) (L : Int → Option Bool) (hL : ∀ i : Int, 0 ≤ i → i ≤ n → L i = if i < (n : Int) then L (i + 1) else some true) : ∀ (m : Nat) (i : Int), i + m = n → 0 ≤ i → L i = some true
  | 0, i, h, h0 => by rw [hL i h0 (by omega), if_neg (by omega)]
  | m + 1, i, h, h0 => by rw [hL i h0 (by omega), if_pos (by omega)]; exact refl_loop n L hL m (i + 1) (by omega) (by omega)
theorem refl_loop0 (n : Nat) (L : Int → Option Bool) (hL : ∀ i : Int, 0 ≤ i → i ≤ n → L i = if i < (n : Int) then L (i + 1) else some true) : L 0 = some true := refl_loop n L hL n 0 (by omega) (by omega)

/-! #### pairS -/
/-- A pair of the law's own, as the program's. -/
def cvPair (x : S104) : S29 := ⟨x.f0, x.f1⟩
theorem toPairS_f (xs : List S104) (hx : xs.length ≤ 1048576) : laws_toPairS.fL xs = some (xs.map cvPair) := by
  rw [laws_toPairS.fL_eq, if_pos (by omega), if_pos (by omega)]
  refine copy_loop0 (xs.map cvPair) _ z29 xs.length (by simp) (by simp) (fun zs i => laws_toPairS.l0L xs zs i) (fun zs i h0 h1 hl => ?_)
  rw [laws_toPairS.l0L_eq]
  unfold laws_toPair.f
  by_cases h : i < (xs.length : Int)
  · rw [if_pos h, if_pos h0, Option.bind_some, if_pos (by omega), w64 (by omega) (by omega), if_pos h, getD_map' cvPair xs i.toNat z104 _ (by omega)]; rfl
  · rw [if_neg h, if_neg h]
theorem eqPair_refl (a : ByteArray) (b : Int) : laws_eqPair.f a b a b = some true := by unfold laws_eqPair.f; simp
theorem eqPairS_refl (xs : List S29) (hx : xs.length ≤ 1000000000000) : laws_eqPairS.fL xs xs = some true := by
  rw [laws_eqPairS.fL_eq, if_pos rfl]
  refine refl_loop0 xs.length (fun i => laws_eqPairS.l0L xs xs i) (fun i h0 h1 => ?_)
  rw [laws_eqPairS.l0L_eq]
  by_cases h : i < (xs.length : Int)
  · rw [if_pos h, if_pos h0, if_pos h, eqPair_refl, Option.bind_some, if_pos rfl, w64 (by omega) (by omega), if_pos h]
  · rw [if_neg h, if_neg h]
theorem szPair_f (s : ByteArray) (b k : Int) (hs : s.size ≤ 9223372036854775807) (h0 : 0 ≤ k) (h1 : k ≤ 1048576) : ∃ r, laws_szPair.f s b k = some r ∧ -1 ≤ r ∧ r ≤ k := by
  unfold laws_szPair.f
  rw [w64 (by omega) (by omega)]
  by_cases h : k - (s.size : Int) < 0
  · rw [if_pos h]; exact ⟨_, rfl, by omega, by omega⟩
  · rw [if_neg h]; exact ⟨_, rfl, by omega, by omega⟩
theorem szPairS_l0 (xs : List S104) (hx : xs.length ≤ 1048576) (hB : ∀ x ∈ xs, x.f0.size ≤ 9223372036854775807) : ∀ (n : Nat) (i k : Int), i + n = xs.length → 0 ≤ i → 0 ≤ k → k ≤ 1048576 → ∃ r, laws_szPairS.l0L xs k i = some r ∧ r ≤ k
  | 0, i, k, hi, h0, h1, h2 => by rw [laws_szPairS.l0L_eq, if_neg (by omega)]; exact ⟨_, rfl, by omega⟩
  | n + 1, i, k, hi, h0, h1, h2 => by
    have hm : rd_T104 xs i ∈ xs := by
      unfold rd_T104
      rw [List.getD_eq_getElem?_getD, List.getElem?_eq_getElem (show i.toNat < xs.length by omega)]
      exact List.getElem_mem _
    obtain ⟨r, hr, r0, r1⟩ := szPair_f (rd_T104 xs i).f0 (rd_T104 xs i).f1 k (hB _ hm) h1 h2
    rw [laws_szPairS.l0L_eq, if_pos (by omega), if_pos h0, hr, Option.bind_some, w64 (by omega) (by omega)]
    by_cases h : r < 0
    · rw [if_pos h]; exact ⟨_, rfl, by omega⟩
    · rw [if_neg h]
      obtain ⟨q, hq, hq2⟩ := szPairS_l0 xs hx hB n (i + 1) r (by omega) (by omega) (by omega) (by omega)
      exact ⟨q, hq, by omega⟩
/-- The size is told; if there is room, the list is short. -/
theorem szPairS_f (xs : List S104) (k : Int) (h0 : 0 ≤ k) (h1 : k ≤ 1048576) (hl : xs.length ≤ 9223372036854775807) (hB : ∀ x ∈ xs, x.f0.size ≤ 9223372036854775807) : ∃ r, laws_szPairS.fL xs k = some r ∧ r ≤ k ∧ (r < 0 ∨ xs.length ≤ 1048576) := by
  rw [laws_szPairS.fL_eq, w64 (by omega) (by omega)]
  by_cases h : k - (xs.length : Int) < 0
  · rw [if_pos h]; exact ⟨_, rfl, by omega, .inl (by omega)⟩
  · rw [if_neg h]
    obtain ⟨r, hr, hle⟩ := szPairS_l0 xs (by omega) hB xs.length 0 (k - xs.length) (by omega) (by omega) (by omega) (by omega)
    exact ⟨r, hr, by omega, .inr (by omega)⟩

/-! #### changeS -/
/-- A change of the law's own, as the program's. -/
def cvChange (x : S106) : S75 := ⟨x.f0, x.f1, x.f2, x.f3⟩
theorem toChangeS_f (xs : List S106) (hx : xs.length ≤ 1048576) : laws_toChangeS.fL xs = some (xs.map cvChange) := by
  rw [laws_toChangeS.fL_eq, if_pos (by omega), if_pos (by omega)]
  refine copy_loop0 (xs.map cvChange) _ z75 xs.length (by simp) (by simp) (fun zs i => laws_toChangeS.l0L xs zs i) (fun zs i h0 h1 hl => ?_)
  rw [laws_toChangeS.l0L_eq]
  unfold laws_toChange.f
  by_cases h : i < (xs.length : Int)
  · rw [if_pos h, if_pos h0, Option.bind_some, if_pos (by omega), w64 (by omega) (by omega), if_pos h, getD_map' cvChange xs i.toNat z106 _ (by omega)]; rfl
  · rw [if_neg h, if_neg h]
theorem eqChange_refl (a : Int) (b : ByteArray) (c d : Int) : laws_eqChange.f a b c d a b c d = some true := by unfold laws_eqChange.f; simp
theorem eqChangeS_refl (xs : List S75) (hx : xs.length ≤ 1000000000000) : laws_eqChangeS.fL xs xs = some true := by
  rw [laws_eqChangeS.fL_eq, if_pos rfl]
  refine refl_loop0 xs.length (fun i => laws_eqChangeS.l0L xs xs i) (fun i h0 h1 => ?_)
  rw [laws_eqChangeS.l0L_eq]
  by_cases h : i < (xs.length : Int)
  · rw [if_pos h, if_pos h0, if_pos h, eqChange_refl, Option.bind_some, if_pos rfl, w64 (by omega) (by omega), if_pos h]
  · rw [if_neg h, if_neg h]
theorem szChange_f (a : Int) (s : ByteArray) (b c k : Int) (hs : s.size ≤ 9223372036854775807) (h0 : 0 ≤ k) (h1 : k ≤ 1048576) : ∃ r, laws_szChange.f a s b c k = some r ∧ -1 ≤ r ∧ r ≤ k := by
  unfold laws_szChange.f
  rw [w64 (by omega) (by omega)]
  by_cases h : k - (s.size : Int) < 0
  · rw [if_pos h]; exact ⟨_, rfl, by omega, by omega⟩
  · rw [if_neg h]; exact ⟨_, rfl, by omega, by omega⟩
theorem szChangeS_l0 (xs : List S106) (hx : xs.length ≤ 1048576) (hB : ∀ x ∈ xs, x.f1.size ≤ 9223372036854775807) : ∀ (n : Nat) (i k : Int), i + n = xs.length → 0 ≤ i → 0 ≤ k → k ≤ 1048576 → ∃ r, laws_szChangeS.l0L xs k i = some r ∧ r ≤ k
  | 0, i, k, hi, h0, h1, h2 => by rw [laws_szChangeS.l0L_eq, if_neg (by omega)]; exact ⟨_, rfl, by omega⟩
  | n + 1, i, k, hi, h0, h1, h2 => by
    have hm : rd_T106 xs i ∈ xs := by
      unfold rd_T106
      rw [List.getD_eq_getElem?_getD, List.getElem?_eq_getElem (show i.toNat < xs.length by omega)]
      exact List.getElem_mem _
    obtain ⟨r, hr, r0, r1⟩ := szChange_f (rd_T106 xs i).f0 (rd_T106 xs i).f1 (rd_T106 xs i).f2 (rd_T106 xs i).f3 k (hB _ hm) h1 h2
    rw [laws_szChangeS.l0L_eq, if_pos (by omega), if_pos h0, hr, Option.bind_some, w64 (by omega) (by omega)]
    by_cases h : r < 0
    · rw [if_pos h]; exact ⟨_, rfl, by omega⟩
    · rw [if_neg h]
      obtain ⟨q, hq, hq2⟩ := szChangeS_l0 xs hx hB n (i + 1) r (by omega) (by omega) (by omega) (by omega)
      exact ⟨q, hq, by omega⟩
/-- The size is told; if there is room, the list is short. -/
theorem szChangeS_f (xs : List S106) (k : Int) (h0 : 0 ≤ k) (h1 : k ≤ 1048576) (hl : xs.length ≤ 9223372036854775807) (hB : ∀ x ∈ xs, x.f1.size ≤ 9223372036854775807) : ∃ r, laws_szChangeS.fL xs k = some r ∧ r ≤ k ∧ (r < 0 ∨ xs.length ≤ 1048576) := by
  rw [laws_szChangeS.fL_eq, w64 (by omega) (by omega)]
  by_cases h : k - (xs.length : Int) < 0
  · rw [if_pos h]; exact ⟨_, rfl, by omega, .inl (by omega)⟩
  · rw [if_neg h]
    obtain ⟨r, hr, hle⟩ := szChangeS_l0 xs (by omega) hB xs.length 0 (k - xs.length) (by omega) (by omega) (by omega) (by omega)
    exact ⟨r, hr, by omega, .inr (by omega)⟩

/-! #### markText -/
theorem son_size (xs : List Int) : (strOfNums xs).size = xs.length := by simp [strOfNums, ByteArray.size]
theorem markText_l0 : ∀ (n : Nat) (k : Int) (s : ByteArray), 0 ≤ k → k < 10 ^ n → k ≤ 9223372036854775807 → s.size + n ≤ 1000 → ∃ r, laws_markText.l0L k s = some r
  | 0, k, s, h0, h1, h2, hs => by
    rw [laws_markText.l0L_eq, if_neg (by simp at h1; omega), if_pos (by omega)]; exact ⟨_, rfl⟩
  | n + 1, k, s, h0, h1, h2, hs => by
    by_cases e : k > 0
    · have hd : Int.tdiv k 10 = k / 10 := Int.tdiv_eq_ediv_of_nonneg h0
      have hp : (10 : Int) ^ (n + 1) = 10 ^ n * 10 := Int.pow_succ 10 n
      have h3 : k / 10 < 10 ^ n := by omega
      rw [laws_markText.l0L_eq, if_pos e, Option.bind_some, if_pos (by rw [son_size]; simp; omega), hd, w64 (n := k / 10) (by omega) (by omega)]
      exact markText_l0 n (k / 10) _ (by omega) h3 (by omega) (by rw [ByteArray.size_append, son_size]; simp; omega)
    · rw [laws_markText.l0L_eq, if_neg e, if_pos (by omega)]; exact ⟨_, rfl⟩
theorem markText_ok (k : Int) (h0 : 0 ≤ k) (h1 : k ≤ 9223372036854775807) : ∃ r, laws_markText.fL k = some r := by
  rw [laws_markText.fL_eq]
  by_cases e : k ≤ 0
  · rw [if_pos e]; exact ⟨_, rfl⟩
  · rw [if_neg e]; exact markText_l0 30 k _ h0 (by omega) h1 (show 0 + 30 ≤ 1000 by omega)
/-- The text of a mark. -/
noncomputable def mt (k : Int) : ByteArray := (laws_markText.fL k).getD (⟨#[]⟩ : ByteArray)
theorem mt_eq (k : Int) (h0 : 0 ≤ k) (h1 : k ≤ 9223372036854775807) : laws_markText.fL k = some (mt k) := by
  obtain ⟨r, hr⟩ := markText_ok k h0 h1
  unfold mt
  rw [hr]; rfl

/-! #### markChange -/
noncomputable def elChange (k : Int) : S75 := ⟨k, mt (k + 1), k + 1 + 1, k + 1 + 1 + 1⟩
theorem rd_set_change (xs : List S75) (i : Int) (y : S75) (h0 : 0 ≤ i) (h : i < xs.length) : rd_T75 (xs.set i.toNat y) i = y := by
  unfold rd_T75
  rw [List.getD_eq_getElem?_getD, List.getElem?_set_self (by omega)]; rfl
theorem markChangeS_f (xs : List S75) (k : Int) (hx : xs.length ≤ 1000000000) (hk : 0 ≤ k) (hk2 : k ≤ 100000000000) : laws_markChangeS.fL xs k = some (k + 4 * xs.length, marks elChange 4 xs.length k) := by
  rw [laws_markChangeS.fL_eq]
  refine mark_loop0 elChange 4 (by omega) (by omega) xs hx k hk hk2 (fun zs k i => laws_markChangeS.l0L zs k i) (fun zs k i h0 h1 hl hk hk2 => ?_)
  rw [laws_markChangeS.l0L_eq]
  by_cases h : i < (xs.length : Int)
  · have hz : i < (zs.length : Int) := by omega
    have hz2 : ∀ y, i < ((zs.set i.toNat y).length : Int) := fun y => by rw [List.length_set]; exact hz
    have hz3 : ∀ y z, i < (((zs.set i.toNat y).set i.toNat z).length : Int) := fun y z => by rw [List.length_set]; exact hz2 y
    rw [if_pos hz, if_pos h0, Option.bind_some, w64 (n := k + 1) (by omega) (by omega), mt_eq (k + 1) (by omega) (by omega), Option.bind_some, Option.bind_some, Option.bind_some, w64 (n := k + 1 + 1) (by omega) (by omega),
      w64 (n := k + 1 + 1 + 1) (by omega) (by omega), w64 (n := k + 1 + 1 + 1 + 1) (by omega) (by omega), w64 (n := i + 1) (by omega) (by omega), if_pos h]
    rw [rd_set_change ((zs.set i.toNat _).set i.toNat _) i _ h0 (hz3 _ _), rd_set_change (zs.set i.toNat _) i _ h0 (hz2 _), rd_set_change zs i _ h0 hz, List.set_set, List.set_set, List.set_set, show k + 1 + 1 + 1 + 1 = k + 4 by omega]
    rfl
  · rw [if_neg (by omega), if_neg h]

/-! #### markPair -/
noncomputable def elPair (k : Int) : S29 := ⟨mt k, k + 1⟩
theorem rd_set_pair (xs : List S29) (i : Int) (y : S29) (h0 : 0 ≤ i) (h : i < xs.length) : rd_T29 (xs.set i.toNat y) i = y := by
  unfold rd_T29
  rw [List.getD_eq_getElem?_getD, List.getElem?_set_self (by omega)]; rfl
theorem markPairS_f (xs : List S29) (k : Int) (hx : xs.length ≤ 1000000000) (hk : 0 ≤ k) (hk2 : k ≤ 100000000000) : laws_markPairS.fL xs k = some (k + 2 * xs.length, marks elPair 2 xs.length k) := by
  rw [laws_markPairS.fL_eq]
  refine mark_loop0 elPair 2 (by omega) (by omega) xs hx k hk hk2 (fun zs k i => laws_markPairS.l0L zs k i) (fun zs k i h0 h1 hl hk hk2 => ?_)
  rw [laws_markPairS.l0L_eq]
  by_cases h : i < (xs.length : Int)
  · have hz : i < (zs.length : Int) := by omega
    rw [if_pos hz, mt_eq k (by omega) (by omega), Option.bind_some, if_pos h0, Option.bind_some, w64 (n := k + 1) (by omega) (by omega), w64 (n := k + 1 + 1) (by omega) (by omega), w64 (n := i + 1) (by omega) (by omega), if_pos h]
    rw [rd_set_pair zs i _ h0 hz, List.set_set, show k + 1 + 1 = k + 2 by omega]
    rfl
  · rw [if_neg (by omega), if_neg h]

/-! #### heldPair -/
theorem heldPairS_f (n : Nat) (k : Int) (hn : n ≤ 1000000000) (hk : 0 ≤ k) (hk2 : k ≤ 100000000000) : laws_heldPairS.fL (marks elPair 2 n k) k = some (k + 2 * n) := by
  have hm := marks_length elPair 2 n k
  rw [laws_heldPairS.fL_eq]
  refine held_loop0 elPair z29 2 (by omega) (by omega) n hn k hk hk2 (fun k' i => laws_heldPairS.l0L (marks elPair 2 n k) k' i) (fun k' i h0 h1 hk hk2 he => ?_)
  rw [laws_heldPairS.l0L_eq, hm]
  by_cases h : i < (n : Int)
  · have he := he h
    have hr : rd_T29 (marks elPair 2 n k) i = elPair k' := he
    rw [if_pos h, if_pos h0, hr, if_pos h]
    rw [mt_eq k' (by omega) (by omega), Option.bind_some, if_pos (show (elPair k').f0.toList = (mt k').toList from rfl), w64 (n := k' + 1) (by omega) (by omega), if_pos (show (elPair k').f1 = k' + 1 from rfl),
      w64 (n := k' + 1 + 1) (by omega) (by omega), w64 (n := i + 1) (by omega) (by omega), show k' + 1 + 1 = k' + 2 by omega]
  · rw [if_neg h, if_neg h]

end Go.Proofs.Ytfeeifefmenlmaa.Pure
