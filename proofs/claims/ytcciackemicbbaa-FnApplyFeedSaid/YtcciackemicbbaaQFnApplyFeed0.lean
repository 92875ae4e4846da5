/- Lemmas for FnApplyFeed: what each function comes to. No condition. -/
import Derived.Test.YtcciackemicbbaaLFnApplyFeed
namespace Go.Proofs.Ytcciackemicbbaa.Pure
open Go.RowKit Go.Proofs.Ytcciackemicbbaa.PFnApplyFeed Go.Proofs.YtcciackemicbbaaW.PrintWords Go.Proofs.YtcciackemicbbaaW.PrintLast Go.Proofs.YtcciackemicbbaaW.PrintMore Go.Proofs.Ytcciackemicbbaa.Lim
set_option linter.unusedVariables false
set_option linter.unusedSimpArgs false

/-! #### basic -/
theorem w64 {n : Int} (h1 : -9223372036854775808 ≤ n) (h2 : n ≤ 9223372036854775807) : wrap64 n = n := by unfold wrap64; omega
theorem wf64 {n : Int} (h : (Lit.int .i64 n).wf = true) : -9223372036854775808 ≤ n ∧ n ≤ 9223372036854775807 := by
  simp only [Lit.wf, IntKind.min, IntKind.max, IntKind.signed, IntKind.bits, Bool.and_eq_true, decide_eq_true_eq, if_true] at h
  omega
theorem wf8 {n : Int} (h : (Lit.int .u8 n).wf = true) : 0 ≤ n ∧ n ≤ 255 := by
  simp only [Lit.wf, IntKind.min, IntKind.max, IntKind.signed, IntKind.bits, Bool.and_eq_true, decide_eq_true_eq] at h
  simp at h
  omega
theorem mn_eq (a b : Int) : mn a b = if a ≤ b then a else b := by unfold mn; split <;> split <;> omega
theorem mx_eq (a b : Int) : mx a b = if a ≤ b then b else a := by unfold mx; split <;> split <;> omega
theorem rd_drop {xs : List Int} {i : Int} {y : Int} {ys : List Int} (h0 : 0 ≤ i) (h : xs.drop i.toNat = y :: ys) : rd xs i = y ∧ i < xs.length ∧ xs.drop (i + 1).toNat = ys := by
  have h1 : i.toNat < xs.length := by
    by_cases e : i.toNat < xs.length
    · exact e
    · rw [List.drop_eq_nil_of_le (by omega)] at h; cases h
  rw [List.drop_eq_getElem_cons h1] at h
  injection h with ha hb
  refine ⟨?_, by omega, ?_⟩
  · unfold rd; rw [List.getD_eq_getElem?_getD, List.getElem?_eq_getElem h1]; exact ha
  · rw [show (i + 1).toNat = i.toNat + 1 by omega]; exact hb
theorem drop_nil {α : Type} {xs : List α} {i : Int} (h0 : 0 ≤ i) (hi : i ≤ xs.length) (h : xs.drop i.toNat = []) : i = xs.length := by
  have := congrArg List.length h
  simp at this
  omega
theorem rdOf_drop {α : Type} {d : α} {xs : List α} {i : Int} {y : α} {ys : List α} (h0 : 0 ≤ i) (h : xs.drop i.toNat = y :: ys) : rdOf d xs i = y ∧ i < xs.length ∧ xs.drop (i + 1).toNat = ys := by
  have h1 : i.toNat < xs.length := by
    by_cases e : i.toNat < xs.length
    · exact e
    · rw [List.drop_eq_nil_of_le (by omega)] at h; cases h
  rw [List.drop_eq_getElem_cons h1] at h
  injection h with ha hb
  refine ⟨?_, by omega, ?_⟩
  · unfold rdOf; rw [List.getD_eq_getElem?_getD, List.getElem?_eq_getElem h1]; exact ha
  · rw [show (i + 1).toNat = i.toNat + 1 by omega]; exact hb

/-! #### spec_l1In -/
theorem spec_l1In_f (a lo hi : Int) : spec_l1In.f a lo hi = some (decide (lo ≤ a ∧ a ≤ hi)) := by
  unfold spec_l1In.f
  by_cases h : a ≥ lo
  · rw [if_pos h]; congr 1; rw [decide_eq_decide]; omega
  · rw [if_neg h]; congr 1; rw [eq_comm, decide_eq_false_iff_not]; omega

/-! #### spec_Sessions -/
theorem spec_SessionsValid_l0 (xs : List S217) (hx : xs.length ≤ 1000000) : ∀ (n : Nat) (i : Int), i + n = xs.length → 0 ≤ i → ∃ b, spec_SessionsValid.l0L xs i = some b
  | 0, i, h, h0 => ⟨true, by rw [spec_SessionsValid.l0L_eq, if_neg (by omega)]⟩
  | n + 1, i, h, h0 => by
    have ih := spec_SessionsValid_l0 xs hx n (i + 1) (by omega) (by omega)
    rw [spec_SessionsValid.l0L_eq, if_pos (by omega), if_pos h0, w64 (n := i - 1) (by omega) (by omega), w64 (n := i + 1) (by omega) (by omega)]
    simp only [spec_l1In_f, Option.bind_some]
    repeat' split
    all_goals first | exact ih | exact ⟨_, rfl⟩ | (exfalso; omega)
theorem spec_SessionsValid_ok (xs : List S217) (hx : xs.length ≤ 1000000) : ∃ b, spec_SessionsValid.fL xs = some b := by
  rw [spec_SessionsValid.fL_eq]; exact spec_SessionsValid_l0 xs hx xs.length 0 (by omega) (by omega)
theorem spec_l9Find_l0 (xs : List S217) (hx : xs.length ≤ 1000000) (c : Int) : ∀ (n : Nat) (i : Int), i + n = xs.length → 0 ≤ i → ∃ r, spec_l9Find.l0L xs c i = some r
  | 0, i, h, h0 => by rw [spec_l9Find.l0L_eq, if_neg (by omega)]; exact ⟨_, rfl⟩
  | n + 1, i, h, h0 => by
    have ih := spec_l9Find_l0 xs hx c n (i + 1) (by omega) (by omega)
    rw [spec_l9Find.l0L_eq, if_pos (by omega), if_pos h0, w64 (by omega) (by omega)]
    split
    · exact ⟨_, rfl⟩
    · exact ih
theorem spec_l9Find_ok (xs : List S217) (hx : xs.length ≤ 1000000) (c : Int) : ∃ r, spec_l9Find.fL xs c = some r := by
  rw [spec_l9Find.fL_eq]; exact spec_l9Find_l0 xs hx c xs.length 0 (by omega) (by omega)
theorem spec_SessionSeq_ok (xs : List S217) (hx : xs.length ≤ 1000000) (c : Int) : ∃ r, spec_SessionSeq.fL xs c = some r := by
  obtain ⟨b, hb⟩ := spec_SessionsValid_ok xs hx
  obtain ⟨r, hr⟩ := spec_l9Find_ok xs hx c
  rw [spec_SessionSeq.fL_eq, hb, Option.bind_some, spec_l1In_f, Option.bind_some, hr, Option.bind_some]
  repeat' split
  all_goals exact ⟨_, rfl⟩
theorem spec_SessionPut_l0 (a : List S217) (ha : a.length ≤ 1000000) (e f g : Int) : ∀ (n : Nat) (b : List S217) (c : Bool) (d : Int), d + n = a.length → 0 ≤ d → (b.length : Int) ≤ d + (if c then 1 else 0) → ∃ r t, spec_SessionPut.l0L a b c d e f g = some (r, t) ∧ r.length ≤ a.length + 1
  | 0, b, c, d, h, h0, hb => by
    rw [spec_SessionPut.l0L_eq, if_neg (by omega)]
    cases c with
    | true => exact ⟨_, _, if_pos rfl, by simp at hb; omega⟩
    | false => rw [if_neg (by simp), if_pos (by simp at hb; omega)]; exact ⟨_, _, rfl, by simp at hb ⊢; omega⟩
  | n + 1, b, c, d, h, h0, hb => by
    have j3 : ∀ (b : List S217) (c : Bool), (b.length : Int) ≤ d + (if c then 1 else 0) → ∃ r t, (if (rd_T217 a d).f0 = e then spec_SessionPut.l0L a b c (d + 1) e f g else if b.length < 5864062014805 then spec_SessionPut.l0L a (b ++ [(⟨(rd_T217 a d).f0, (rd_T217 a d).f1, (rd_T217 a d).f2⟩ : S217)]) c (d + 1) e f g else none) = some (r, t) ∧ r.length ≤ a.length + 1 := by
      intro b c hb
      have hb2 : (b.length : Int) ≤ d + 1 := by cases c <;> simp at hb <;> omega
      split
      · exact spec_SessionPut_l0 a ha e f g n b c (d + 1) (by omega) (by omega) (by cases c <;> simp at hb ⊢ <;> omega)
      · rw [if_pos (by omega)]
        exact spec_SessionPut_l0 a ha e f g n _ c (d + 1) (by omega) (by omega) (by cases c <;> simp at hb ⊢ <;> omega)
    have j2 : ∀ q : Bool, (q = true → c = false) → ∃ r t, spec_SessionPut.j2L a b c d q e f g = some (r, t) ∧ r.length ≤ a.length + 1 := by
      intro q hq
      rw [spec_SessionPut.j2L_eq, w64 (n := d + 1) (by omega) (by omega)]
      cases q with
      | false => rw [if_neg (by simp), if_pos h0, if_pos (by omega)]; exact j3 b c hb
      | true =>
        have hc := hq rfl
        subst hc
        simp at hb
        rw [if_pos rfl, if_pos (by omega), Option.bind_some, if_pos h0, if_pos (by omega)]
        exact j3 _ true (by simp; omega)
    rw [spec_SessionPut.l0L_eq, if_pos (by omega)]
    cases c with
    | true => rw [if_pos rfl]; exact j2 false (by simp)
    | false => rw [if_neg (by simp), if_pos h0]; exact j2 _ (fun _ => rfl)
theorem spec_SessionPut_j0 (a : List S217) (ha : a.length ≤ 1000000) (c : Bool) (e f g : Int) : ∃ r t, spec_SessionPut.j0L a [] c e f g = some (r, t) ∧ r.length ≤ a.length + 1 := by
  rw [spec_SessionPut.j0L_eq]
  cases c with
  | true => exact ⟨_, _, if_pos rfl, by simp⟩
  | false =>
    obtain ⟨q, hq⟩ := spec_SessionSeq_ok a ha e
    rw [if_neg (by simp), hq, Option.bind_some]
    split
    · rw [if_pos (by simp; omega)]; exact ⟨_, _, rfl, by simp⟩
    · exact spec_SessionPut_l0 a ha e f g a.length [] false 0 (by omega) (by omega) (by simp)
theorem spec_SessionPut_ok (a : List S217) (ha : a.length ≤ 1000000) (e f g : Int) : ∃ r t, spec_SessionPut.fL a e f g = some (r, t) ∧ r.length ≤ a.length + 1 := by
  obtain ⟨b, hb⟩ := spec_SessionsValid_ok a ha
  obtain ⟨b2, hb2⟩ := spec_SessionsValid_ok [(⟨e, f, g⟩ : S217)] (by simp)
  rw [spec_SessionPut.fL_eq, Option.bind_some, hb, Option.bind_some, hb2, Option.bind_some]
  split
  · exact spec_SessionPut_j0 a ha _ e f g
  · exact spec_SessionPut_j0 a ha _ e f g

/-! #### bytes -/
/-- A string's bytes as numbers. -/
def bs (s : ByteArray) : List Int := s.data.toList.map fun b => (b.toNat : Int)
theorem bs_length (s : ByteArray) : (bs s).length = s.size := by simp [bs]
theorem bt_bs (s : ByteArray) (i : Int) : bt s i = rd (bs s) i := by
  unfold bt rd bs
  rw [List.getD_eq_getElem?_getD, List.getElem?_map]
  by_cases h : i.toNat < s.size
  · rw [dif_pos h, List.getElem?_eq_getElem (by simpa using h)]; simp; rfl
  · rw [dif_neg h, List.getElem?_eq_none (by simpa using h)]; rfl
theorem bs_range (s : ByteArray) : ∀ b ∈ bs s, 0 ≤ b ∧ b ≤ 255 := by
  intro b hb
  simp only [bs, List.mem_map] at hb
  obtain ⟨c, _, rfl⟩ := hb
  have := c.toNat_lt
  omega
theorem bs_inj {s t : ByteArray} (h : bs s = bs t) : s = t := by
  have h1 : s.data.toList = t.data.toList := by
    refine List.map_inj_right (f := fun b : UInt8 => (b.toNat : Int)) ?_ |>.1 h
    intro x y hxy
    exact UInt8.toNat_inj.1 (by omega)
  cases s; cases t
  simp only [ByteArray.mk.injEq]
  exact Array.ext' h1
theorem toList_loop (s : ByteArray) (i : Nat) (r : List UInt8) : ByteArray.toList.loop s i r = r.reverse ++ s.data.toList.drop i := by
  unfold ByteArray.toList.loop
  split
  next h =>
    rw [toList_loop s (i + 1) (s.get! i :: r)]
    have h' : i < s.data.toList.length := by simpa using h
    rw [List.drop_eq_getElem_cons h']
    have : s.get! i = s.data.toList[i] := by
      show s.data[i]! = _
      rw [getElem!_pos s.data i (by simpa using h)]; simp
    rw [this]; simp
  next h =>
    rw [List.drop_eq_nil_of_le (by simpa using h)]; simp
  termination_by s.size - i
theorem toList_data (s : ByteArray) : s.toList = s.data.toList := by
  unfold ByteArray.toList; rw [toList_loop]; simp
theorem toList_nil (s : ByteArray) : s.toList = [] ↔ bs s = [] := by rw [toList_data]; simp [bs]
theorem bs_drop (s : ByteArray) (i j : Nat) (hj : s.size ≤ j) : bs (s.extract i j) = (bs s).drop i := by
  unfold bs
  rw [ByteArray.data_extract, ← List.map_drop]
  congr 1
  rw [Array.toList_extract]
  have : s.data.toList.length = s.size := by simp
  simp only [List.extract]
  rw [List.take_of_length_le (by rw [List.length_drop]; omega)]
theorem bs_take (s : ByteArray) (j : Nat) : bs (s.extract 0 j) = (bs s).take j := by
  unfold bs
  rw [ByteArray.data_extract, ← List.map_take]
  congr 1
  rw [Array.toList_extract]
  simp [List.extract]

/-! #### keys -/
def letters (l : List Int) : Bool := l.all fun b => decide (97 ≤ b ∧ b ≤ 122)
/-- KeyValid, over the bytes. -/
def keyOk (l : List Int) : Bool := decide (1 ≤ l.length ∧ l.length ≤ 4) && letters l
theorem rd_zero {l : List Int} {b : Int} {t : List Int} (h : l = b :: t) : rd l 0 = b := by subst h; rfl
theorem impl_lettersOnly_f : ∀ (l : List Int) (s : ByteArray), bs s = l → impl_lettersOnly.fL s = some (letters l)
  | [], s, h => by rw [impl_lettersOnly.fL_eq, if_pos ((toList_nil s).2 h)]; rfl
  | b :: l, s, h => by
    have hs : s.size = l.length + 1 := by rw [← bs_length, h]; rfl
    have hn : ¬ s.toList = [] := by rw [toList_nil, h]; simp
    have hd : bs (s.extract 1 s.size) = l := by rw [bs_drop s 1 s.size (Nat.le_refl _), h]; rfl
    rw [impl_lettersOnly.fL_eq, if_neg hn, if_pos (by omega), bt_bs, rd_zero h, if_pos (by omega : (1 : Int) ≤ (s.size : Int)), impl_lettersOnly_f l _ hd, Option.bind_some]
    unfold letters
    rw [List.all_cons]
    by_cases h1 : b ≥ 97
    · rw [if_pos h1]
      by_cases h2 : b ≤ 122
      · rw [if_pos h2, show decide (97 ≤ b ∧ b ≤ 122) = true from decide_eq_true ⟨h1, h2⟩]; rfl
      · rw [if_neg h2, show decide (97 ≤ b ∧ b ≤ 122) = false from decide_eq_false (by omega)]; rfl
    · rw [if_neg h1, show decide (97 ≤ b ∧ b ≤ 122) = false from decide_eq_false (by omega)]; rfl
theorem impl_KeyValid_f (s : ByteArray) : impl_KeyValid.fL s = some (keyOk (bs s)) := by
  rw [impl_KeyValid.fL_eq, impl_lettersOnly_f _ s rfl, Option.bind_some]
  unfold keyOk
  rw [bs_length]
  by_cases h1 : (s.size : Int) < 1
  · rw [if_pos h1, decide_eq_false (by omega)]; rfl
  · rw [if_neg h1]
    by_cases h2 : (s.size : Int) > 4
    · rw [if_pos h2, decide_eq_false (by omega)]; rfl
    · rw [if_neg h2, decide_eq_true (by omega)]; rfl
theorem keyOk_len {l : List Int} (h : keyOk l = true) : 1 ≤ l.length ∧ l.length ≤ 4 := by
  simp only [keyOk, Bool.and_eq_true, decide_eq_true_eq] at h; exact h.1
theorem keyOk_letters {l : List Int} (h : keyOk l = true) : letters l = true := by
  simp only [keyOk, Bool.and_eq_true, decide_eq_true_eq] at h; exact h.2
theorem letters_cons {b : Int} {l : List Int} (h : letters (b :: l) = true) : (97 ≤ b ∧ b ≤ 122) ∧ letters l = true := by
  simp only [letters, List.all_cons, Bool.and_eq_true, decide_eq_true_eq] at h
  exact ⟨h.1, by simp only [letters]; exact h.2⟩

/-! #### valueValid -/
theorem impl_valueValid_f (v : Int) : impl_valueValid.f v = some (decide (0 ≤ v ∧ v ≤ 999)) := by
  unfold impl_valueValid.f
  by_cases h : v ≥ 0
  · rw [if_pos h]; congr 1; rw [decide_eq_decide]; omega
  · rw [if_neg h]; congr 1; rw [eq_comm, decide_eq_false_iff_not]; omega

/-! #### spec_KeyValid -/
theorem spec_KeyValid_l0 (s : ByteArray) (hs : s.size ≤ 1000) : ∀ (ys : List Int) (i : Int), 0 ≤ i → i ≤ s.size → (bs s).drop i.toNat = ys → spec_KeyValid.l0L s i = some (letters ys)
  | [], i, h0, h1, hd => by
    have := drop_nil h0 (by rw [bs_length]; exact h1) hd
    rw [bs_length] at this
    rw [spec_KeyValid.l0L_eq, if_neg (by omega)]; rfl
  | y :: ys, i, h0, h1, hd => by
    obtain ⟨hr, hl, hd'⟩ := rd_drop h0 hd
    rw [bs_length] at hl
    rw [spec_KeyValid.l0L_eq, if_pos hl, if_pos h0, bt_bs, hr, w64 (by omega) (by omega)]
    unfold letters
    rw [List.all_cons]
    by_cases e1 : y < 97
    · rw [if_pos e1, decide_eq_false (by omega)]; rfl
    · rw [if_neg e1]
      by_cases e2 : y > 122
      · rw [if_pos e2, decide_eq_false (by omega)]; rfl
      · rw [if_neg e2, decide_eq_true (by omega), spec_KeyValid_l0 s hs ys (i + 1) (by omega) (by omega) hd']; rfl
theorem spec_KeyValid_f (s : ByteArray) : spec_KeyValid.fL s = some (keyOk (bs s)) := by
  rw [spec_KeyValid.fL_eq, spec_l1In_f, Option.bind_some]
  unfold keyOk
  rw [bs_length]
  by_cases h : 1 ≤ (s.size : Int) ∧ (s.size : Int) ≤ 4
  · rw [if_pos (by simpa using h), decide_eq_true (by omega), spec_KeyValid_l0 s (by omega) (bs s) 0 (by omega) (by omega) (by simp)]; rfl
  · rw [if_neg (by simpa using h), decide_eq_false (by omega)]; rfl

/-! #### pairs -/
def klt (a b : ByteArray) : Bool := Op.bytesLess a.toList b.toList
/-- A pair alone is valid. -/
def pairItem (y : S181) : Bool := keyOk (bs y.f0) && decide (0 ≤ y.f1 ∧ y.f1 ≤ 999)
/-- The key is greater than the one before, if there is one. -/
def above : Option ByteArray → ByteArray → Bool
  | none, _ => true
  | some q, k => klt q k
def pairsFrom : Option ByteArray → List S181 → Bool
  | _, [] => true
  | p, y :: ys => pairItem y && above p y.f0 && pairsFrom (some y.f0) ys
def pairsOk (l : List S181) : Bool := decide (l.length ≤ 48) && pairsFrom none l
theorem getD_cons {α : Type} {xs : List α} {d : α} {i : Int} {y : α} {ys : List α} (h0 : 0 ≤ i) (h : xs.drop i.toNat = y :: ys) : xs.getD i.toNat d = y ∧ i < xs.length ∧ xs.drop (i + 1).toNat = ys := by
  have h1 : i.toNat < xs.length := by
    by_cases e : i.toNat < xs.length
    · exact e
    · rw [List.drop_eq_nil_of_le (by omega)] at h; cases h
  rw [List.drop_eq_getElem_cons h1] at h
  injection h with ha hb
  refine ⟨?_, by omega, ?_⟩
  · rw [List.getD_eq_getElem?_getD, List.getElem?_eq_getElem h1]; exact ha
  · rw [show (i + 1).toNat = i.toNat + 1 by omega]; exact hb

/-! #### pairmap -/
theorem toList_eq {a b : ByteArray} : a.toList = b.toList ↔ a = b := by
  rw [toList_data, toList_data]
  exact ⟨fun h => ByteArray.ext (Array.toList_inj.mp h), fun h => by rw [h]⟩
/-- Where a key is or belongs: how many pairs stand before it. -/
def place (k : ByteArray) : List S181 → Nat
  | [] => 0
  | y :: ys => if klt y.f0 k = true then place k ys + 1 else 0
theorem place_le (k : ByteArray) : ∀ l, place k l ≤ l.length
  | [] => Nat.le_refl _
  | y :: ys => by
    have := place_le k ys
    simp only [place, List.length_cons]
    split <;> omega
/-- Is the key there? -/
def hit (k : ByteArray) (l : List S181) : Bool := decide (place k l < l.length ∧ (rd_T181 l (place k l : Int)).f0 = k)
theorem hit_lt {k : ByteArray} {l : List S181} (h : hit k l = true) : place k l < l.length := (of_decide_eq_true h).1
theorem hit_key {k : ByteArray} {l : List S181} (h : hit k l = true) : (rd_T181 l (place k l : Int)).f0 = k := (of_decide_eq_true h).2
def pairGet (l : List S181) (k : ByteArray) : Int := if pairsOk l = true then (if hit k l = true then (rd_T181 l (place k l : Int)).f1 else -1) else -1
def pairDrop (l : List S181) (k : ByteArray) : List S181 × Bool := if pairsOk l = true then (if hit k l = true then (l.take (place k l) ++ l.drop (place k l + 1), true) else (l, false)) else ([], false)
def pairPut (l : List S181) (k : ByteArray) (v : Int) : List S181 × Bool :=
  if pairsOk l = true ∧ keyOk (bs k) = true ∧ 0 ≤ v ∧ v ≤ 999 then
    (if hit k l = true then (l.take (place k l) ++ ⟨k, v⟩ :: l.drop (place k l + 1), true) else if 48 ≤ l.length then (l, false) else (l.take (place k l) ++ ⟨k, v⟩ :: l.drop (place k l), true))
  else ([], false)
theorem pairsOk_le {l : List S181} (h : pairsOk l = true) : l.length ≤ 48 := by
  simp only [pairsOk, Bool.and_eq_true, decide_eq_true_eq] at h; exact h.1
theorem pairPut_length (l : List S181) (k : ByteArray) (v : Int) : (pairPut l k v).1.length ≤ 48 := by
  unfold pairPut
  split
  · rename_i h
    have h1 := pairsOk_le h.1
    have h2 := place_le k l
    split
    · rename_i h3
      have := hit_lt h3
      simp; omega
    · split
      · exact h1
      · simp; omega
  · simp
theorem pairDrop_length (l : List S181) (k : ByteArray) : (pairDrop l k).1.length ≤ 48 := by
  unfold pairDrop
  split
  · rename_i h
    have h1 := pairsOk_le h
    split
    · simp; omega
    · exact h1
  · simp
theorem set_split {α : Type} (y : α) : ∀ (l : List α) (n : Nat), n < l.length → l.set n y = l.take n ++ y :: l.drop (n + 1)
  | [], n, h => by simp at h
  | x :: l, 0, h => by simp
  | x :: l, n + 1, h => by simp at h; simp [set_split y l n h]

/-! #### spec_pairs -/
theorem spec_PairsValid_l0 (xs : List S181) (hx : xs.length ≤ 48) : ∀ (ys : List S181) (i : Int) (p : Option ByteArray), 0 ≤ i → i ≤ xs.length → xs.drop i.toNat = ys → (i = 0 → p = none) → (0 < i → p = some (rd_T181 xs (i - 1)).f0) → spec_PairsValid.l0L xs i = some (pairsFrom p ys)
  | [], i, p, h0, h1, hd, hp0, hp1 => by
    have := drop_nil h0 h1 hd
    rw [spec_PairsValid.l0L_eq, if_neg (by omega)]; rfl
  | y :: ys, i, p, h0, h1, hd, hp0, hp1 => by
    obtain ⟨hr0, hl, hd'⟩ := getD_cons (d := z181) h0 hd
    have hr : rd_T181 xs i = y := hr0
    have hnext := spec_PairsValid_l0 xs hx ys (i + 1) (some y.f0) (by omega) (by omega) hd' (fun h => by omega) (fun _ => by rw [show i + 1 - 1 = i by omega, hr])
    rw [spec_PairsValid.l0L_eq, if_pos hl, if_pos h0, hr, spec_KeyValid_f, Option.bind_some, spec_l1In_f, Option.bind_some]
    simp only [w64 (n := i - 1) (by omega) (by omega), w64 (n := i + 1) (by omega) (by omega), pairsFrom, pairItem]
    cases hk : keyOk (bs y.f0) with
    | false => simp
    | true =>
      by_cases hv : 0 ≤ y.f1 ∧ y.f1 ≤ 999
      · rw [decide_eq_true hv]
        by_cases hi : i > 0
        · rw [if_pos rfl, if_pos rfl, if_pos hi, if_pos (by omega), if_pos (by omega), hp1 hi, hnext]
          simp only [above, klt]
          cases Op.bytesLess (rd_T181 xs (i - 1)).f0.toList y.f0.toList <;> simp
        · rw [if_pos rfl, if_pos rfl, if_neg hi, hp0 (by omega), hnext]
          simp [above]
      · rw [decide_eq_false hv]; simp
theorem spec_PairsValid_f (xs : List S181) : spec_PairsValid.fL xs = some (pairsOk xs) := by
  rw [spec_PairsValid.fL_eq]
  unfold pairsOk
  by_cases h : (xs.length : Int) > 48
  · rw [if_pos h, decide_eq_false (by omega)]; rfl
  · rw [if_neg h, decide_eq_true (by omega), spec_PairsValid_l0 xs (by omega) xs 0 none (by omega) (by omega) (by simp) (fun _ => rfl) (fun h => by omega)]; rfl

/-! #### spec_pairmap -/
theorem spec_l4Place_l0 (xs : List S181) (k : ByteArray) (hx : xs.length ≤ 1000000000000) : ∀ (ys : List S181) (i : Int), 0 ≤ i → i ≤ xs.length → xs.drop i.toNat = ys → spec_l4Place.l0L xs k i = some (i + (place k ys : Int))
  | [], i, h0, h1, hd => by
    have := drop_nil h0 h1 hd
    rw [spec_l4Place.l0L_eq, if_neg (by omega)]; simp [place]
  | y :: ys, i, h0, h1, hd => by
    obtain ⟨hr0, hl, hd'⟩ := getD_cons (d := z181) h0 hd
    have hr : rd_T181 xs i = y := hr0
    rw [spec_l4Place.l0L_eq, if_pos hl, if_pos h0, hr]
    by_cases h : klt y.f0 k = true
    · rw [if_pos (show Op.bytesLess y.f0.toList k.toList = true from h), w64 (by omega) (by omega), spec_l4Place_l0 xs k hx ys (i + 1) (by omega) (by omega) hd']
      simp only [place, if_pos h]
      congr 1; omega
    · rw [if_neg (show ¬ Op.bytesLess y.f0.toList k.toList = true from h)]
      simp only [place, if_neg h]
      congr 1; omega
theorem spec_l4Place_f (xs : List S181) (k : ByteArray) (hx : xs.length ≤ 1000000000000) : spec_l4Place.fL xs k = some (place k xs : Int) := by
  rw [spec_l4Place.fL_eq, spec_l4Place_l0 xs k hx xs 0 (by omega) (by omega) (by simp)]
  congr 1; omega

/-! #### spec_PairGet -/
theorem spec_PairGet_f (xs : List S181) (k : ByteArray) (hx : xs.length ≤ 1000000000000) : spec_PairGet.fL xs k = some (pairGet xs k) := by
  have hp := place_le k xs
  rw [spec_PairGet.fL_eq, spec_l4Place_f xs k hx, Option.bind_some, spec_PairsValid_f, Option.bind_some]
  unfold pairGet
  by_cases h1 : pairsOk xs = true
  · rw [if_pos h1, if_pos h1]
    by_cases e : (place k xs : Int) = (xs.length : Int)
    · have : ¬ hit k xs = true := fun h => by have := hit_lt h; omega
      rw [if_pos e, if_neg this]
    · rw [if_neg e, if_pos (by omega), if_pos (by omega)]
      by_cases e2 : (rd_T181 xs (place k xs : Int)).f0 = k
      · have hh : hit k xs = true := decide_eq_true ⟨by omega, e2⟩
        rw [if_pos (by rw [e2]), if_pos hh]
      · have hh : ¬ hit k xs = true := fun h => e2 (hit_key h)
        rw [if_neg (fun h => e2 (toList_eq.1 h)), if_neg hh]
  · rw [if_neg h1, if_neg h1]

/-! #### spec_PairPut -/
theorem spec_PairPut_f (xs : List S181) (k : ByteArray) (v : Int) (hx : xs.length ≤ 1000000000000) : spec_PairPut.fL xs k v = some (pairPut xs k v) := by
  have hj : ∀ y : List S181, spec_PairPut.j0L xs k v y true = some (y, false) := fun y => by rw [spec_PairPut.j0L_eq, if_pos rfl]
  rw [spec_PairPut.fL_eq, Option.bind_some, spec_PairsValid_f, Option.bind_some]
  unfold pairPut
  by_cases h1 : pairsOk xs = true
  · rw [if_pos h1, spec_KeyValid_f, Option.bind_some]
    by_cases h2 : keyOk (bs k) = true
    · rw [if_pos h2, spec_l1In_f, Option.bind_some]
      by_cases h3 : 0 ≤ v ∧ v ≤ 999
      · have hp := place_le k xs
        rw [if_pos ⟨h1, h2, h3⟩, decide_eq_true h3, Bool.not_true, spec_PairPut.j0L_eq, if_neg (by simp), spec_l4Place_f xs k hx, Option.bind_some]
        have hj1 : ∀ b : Bool, (hit k xs = b) → spec_PairPut.j1L xs k v [] (place k xs : Int) b = some (if hit k xs = true then (xs.take (place k xs) ++ ⟨k, v⟩ :: xs.drop (place k xs + 1), true) else if 48 ≤ xs.length then (xs, false) else (xs.take (place k xs) ++ ⟨k, v⟩ :: xs.drop (place k xs), true)) := by
          intro b hb
          rw [spec_PairPut.j1L_eq, hb]
          cases b with
          | true =>
            have hl := hit_lt hb
            have hk := hit_key hb
            rw [if_pos rfl, if_pos (by simp; omega), Option.bind_some, if_pos (by omega), if_pos (by simp; omega), if_pos rfl]
            rw [List.nil_append, hk, Int.toNat_natCast, set_split _ _ _ hl]
          | false =>
            rw [if_neg (by simp), if_neg (show ¬ (false = true) by simp)]
            by_cases h4 : 48 ≤ xs.length
            · rw [if_pos (by omega), if_pos (by simp; omega), if_pos h4]; simp
            · have e1 : (([] : List S181) ++ xs.take (place k xs)).length ≤ 1000000000000 := by simp; omega
              have e2 : (([] : List S181) ++ xs.take (place k xs) ++ [(⟨k, v⟩ : S181)]).length ≤ 1000000000000 := by simp; omega
              rw [if_neg (by omega), if_neg h4, if_pos (by omega), if_pos (by omega), Int.toNat_natCast, Option.bind_some, if_pos (by simp; omega), Option.bind_some, if_pos (by omega), Option.bind_some, Option.bind_some, if_pos (by simp; omega)]
              simp
        by_cases e : (place k xs : Int) < (xs.length : Int)
        · rw [if_pos e, if_pos (by omega)]
          refine hj1 _ ?_
          unfold hit
          by_cases e2 : (rd_T181 xs (place k xs : Int)).f0 = k
          · rw [decide_eq_true ⟨by omega, e2⟩, e2]; simp
          · rw [decide_eq_false (fun h => e2 h.2)]
            symm; rw [beq_eq_false_iff_ne]; intro h; exact e2 (toList_eq.1 h)
        · rw [if_neg e]
          refine hj1 _ ?_
          unfold hit
          rw [decide_eq_false (fun h => e (by omega))]
      · rw [decide_eq_false h3, Bool.not_false, hj, if_neg (fun h => h3 h.2.2)]
    · rw [if_neg h2, hj, if_neg (fun h => h2 h.2.1)]
  · rw [if_neg h1, hj, if_neg (fun h => h1 h.1)]

/-! #### spec_PairDrop -/
theorem spec_PairDrop_f (xs : List S181) (k : ByteArray) (hx : xs.length ≤ 1000000000000) : spec_PairDrop.fL xs k = some (pairDrop xs k) := by
  have hp := place_le k xs
  rw [spec_PairDrop.fL_eq, Option.bind_some, spec_PairsValid_f, Option.bind_some]
  unfold pairDrop
  by_cases h1 : pairsOk xs = true
  · have h48 := pairsOk_le h1
    rw [if_pos h1, if_pos h1, spec_l4Place_f xs k hx, Option.bind_some]
    by_cases e : (place k xs : Int) = (xs.length : Int)
    · have : ¬ hit k xs = true := fun h => by have := hit_lt h; omega
      rw [if_pos e, if_pos (by simp; omega), if_neg this, List.nil_append]
    · rw [if_neg e, if_pos (by omega), if_pos (by omega)]
      by_cases e2 : (rd_T181 xs (place k xs : Int)).f0 = k
      · have hh : hit k xs = true := decide_eq_true ⟨by omega, e2⟩
        rw [if_pos (by rw [e2]), if_pos (by omega), Option.bind_some, if_pos (by simp; omega), Option.bind_some, w64 (by omega) (by omega), if_pos (by omega), if_pos (by omega), Option.bind_some, if_pos (by simp; omega), if_pos hh]
        rw [Int.toNat_natCast, show ((place k xs : Int) + 1).toNat = place k xs + 1 by omega, List.nil_append]
      · have hh : ¬ hit k xs = true := fun h => e2 (hit_key h)
        rw [if_neg (fun h => e2 (toList_eq.1 h)), if_pos (by simp; omega), if_neg hh, List.nil_append]
  · rw [if_neg h1, if_neg h1]

/-! #### cmdOk -/
/-- A command is valid. -/
def cmdOk (k : Int) (s : ByteArray) (v o : Int) : Bool :=
  decide (1 ≤ k ∧ k ≤ 5) && (keyOk (bs s) || (decide (k = 5) && decide (s.toList = []))) &&
    (if k = 2 then decide (0 ≤ v ∧ v ≤ 999) && decide (o = 0) else if k = 4 then decide (0 ≤ v ∧ v ≤ 999) && decide (-1 ≤ o ∧ o ≤ 999) else decide (v = 0) && decide (o = 0))
theorem beq_dec (a b : Int) : (a == b) = decide (a = b) := by
  rw [Bool.eq_iff_iff]; simp
theorem bne_dec (l : List UInt8) : (l != []) = !decide (l = []) := by cases l <;> simp

/-! #### spec_CommandValid -/
theorem spec_CommandValid_f (k : Int) (s : ByteArray) (v o : Int) : spec_CommandValid.fL k s v o = some (cmdOk k s v o) := by
  have hz : spec_CommandValid.j1L k true k s v o = some (decide (v = 0) && decide (o = 0)) := by
    rw [spec_CommandValid.j1L_eq, if_pos rfl, beq_dec]
    by_cases hv : v = 0
    · rw [if_pos hv, decide_eq_true hv]; rfl
    · rw [if_neg hv, decide_eq_false hv]; rfl
  have hn : spec_CommandValid.j1L k false k s v o = some (if k = 2 then decide (0 ≤ v ∧ v ≤ 999) && decide (o = 0) else if k = 4 then decide (0 ≤ v ∧ v ≤ 999) && decide (-1 ≤ o ∧ o ≤ 999) else false) := by
    rw [spec_CommandValid.j1L_eq, if_neg (by simp), spec_l1In_f, Option.bind_some, spec_l1In_f, Option.bind_some]
    by_cases h2 : k = 2
    · rw [if_pos h2, if_pos h2, beq_dec]
      by_cases hv : 0 ≤ v ∧ v ≤ 999
      · rw [if_pos (by simpa using hv), decide_eq_true hv]; rfl
      · rw [if_neg (by simpa using hv), decide_eq_false hv]; rfl
    · rw [if_neg h2, if_neg h2]
      by_cases h4 : k = 4
      · rw [if_pos h4, if_pos h4, Option.bind_some]
        by_cases hv : 0 ≤ v ∧ v ≤ 999
        · rw [if_pos (by simpa using hv), decide_eq_true hv]; rfl
        · rw [if_neg (by simpa using hv), decide_eq_false hv]; rfl
      · rw [if_neg h4, if_neg h4]
  have hj : spec_CommandValid.j0L false k s v o = some (decide (1 ≤ k ∧ k ≤ 5) && (if k = 2 then decide (0 ≤ v ∧ v ≤ 999) && decide (o = 0) else if k = 4 then decide (0 ≤ v ∧ v ≤ 999) && decide (-1 ≤ o ∧ o ≤ 999) else decide (v = 0) && decide (o = 0))) := by
    rw [spec_CommandValid.j0L_eq, if_neg (by simp), beq_dec, beq_dec, beq_dec]
    by_cases h1 : k = 1
    · rw [if_pos h1, decide_eq_true h1, hz, decide_eq_true (p := 1 ≤ k ∧ k ≤ 5) (by omega), if_neg (by omega), if_neg (by omega)]; rfl
    · rw [if_neg h1]
      by_cases h3 : k = 3
      · rw [if_pos h3, decide_eq_true h3, hz, decide_eq_true (p := 1 ≤ k ∧ k ≤ 5) (by omega), if_neg (by omega), if_neg (by omega)]; rfl
      · rw [if_neg h3]
        by_cases h5 : k = 5
        · rw [decide_eq_true h5, hz, decide_eq_true (p := 1 ≤ k ∧ k ≤ 5) (by omega), if_neg (by omega), if_neg (by omega)]; rfl
        · rw [decide_eq_false h5, hn]
          by_cases h2 : k = 2
          · rw [decide_eq_true (p := 1 ≤ k ∧ k ≤ 5) (by omega), if_pos h2, if_pos h2]; rfl
          · by_cases h4 : k = 4
            · rw [decide_eq_true (p := 1 ≤ k ∧ k ≤ 5) (by omega), if_neg h2, if_neg h2, if_pos h4, if_pos h4]; rfl
            · rw [decide_eq_false (p := 1 ≤ k ∧ k ≤ 5) (by omega), if_neg h2, if_neg h4]; rfl
  have ht : spec_CommandValid.j0L true k s v o = some false := by rw [spec_CommandValid.j0L_eq, if_pos rfl]
  rw [spec_CommandValid.fL_eq, spec_KeyValid_f, Option.bind_some, hj, ht, bne_dec]
  unfold cmdOk
  cases hk : keyOk (bs s) with
  | true => rw [if_pos rfl]; simp
  | false =>
    rw [if_neg (by simp)]
    by_cases h : k = 5
    · rw [if_pos h]
      by_cases hs : s.toList = []
      · rw [decide_eq_true hs, decide_eq_true h, Bool.not_true, hj]; simp
      · rw [decide_eq_false hs, Bool.not_false, ht]; simp
    · rw [if_neg h, decide_eq_false h]; simp

/-! #### spec_ApplyCommand -/
theorem spec_ApplyCommand_j1 (l y : List S181) (g : Int) (b : Bool) (k : Int) (s : ByteArray) (v o : Int) (hl : l.length ≤ 1000000) (hy : y.length ≤ 48) : ∃ r x, spec_ApplyCommand.j1L l y g b k s v o = some (r, x) ∧ r.length ≤ 48 := by
  rw [spec_ApplyCommand.j1L_eq, spec_PairDrop_f l s (by omega), spec_PairPut_f l s v (by omega)]
  cases b with
  | true => exact ⟨_, _, if_pos rfl, hy⟩
  | false =>
    rw [if_neg (by simp)]
    by_cases h3 : k = 3
    · rw [if_pos h3]; exact ⟨_, _, rfl, pairDrop_length _ _⟩
    · rw [if_neg h3]
      by_cases h4 : g < 0
      · rw [if_pos h4]
        by_cases h5 : (l.length : Int) ≥ 8
        · rw [if_pos h5]; exact ⟨_, _, rfl, hy⟩
        · rw [if_neg h5]; exact ⟨_, _, rfl, pairPut_length _ _ _⟩
      · rw [if_neg h4]; exact ⟨_, _, rfl, pairPut_length _ _ _⟩
theorem spec_ApplyCommand_j0 (l : List S181) (b : Bool) (k : Int) (s : ByteArray) (v o : Int) (hl : l.length ≤ 48) : ∃ r x, spec_ApplyCommand.j0L l b k s v o = some (r, x) ∧ r.length ≤ 48 := by
  rw [spec_ApplyCommand.j0L_eq]
  cases b with
  | true => exact ⟨_, _, if_pos rfl, by simp⟩
  | false =>
    rw [if_neg (by simp), Option.bind_some, if_pos (by simp; omega), Option.bind_some, spec_PairGet_f l s (by omega), Option.bind_some]
    split
    · exact spec_ApplyCommand_j1 _ _ _ _ _ _ _ _ (by omega) (by simpa using hl)
    · split
      · exact spec_ApplyCommand_j1 _ _ _ _ _ _ _ _ (by omega) (by simpa using hl)
      · exact spec_ApplyCommand_j1 _ _ _ _ _ _ _ _ (by omega) (by simpa using hl)
theorem spec_ApplyCommand_ok (l : List S181) (k : Int) (s : ByteArray) (v o : Int) (hl : l.length ≤ 48) : ∃ r x, spec_ApplyCommand.fL l k s v o = some (r, x) ∧ r.length ≤ 48 := by
  rw [spec_ApplyCommand.fL_eq, spec_PairsValid_f, Option.bind_some, spec_CommandValid_f, Option.bind_some]
  split
  · split
    · exact spec_ApplyCommand_j0 _ _ _ _ _ _ hl
    · exact spec_ApplyCommand_j0 _ _ _ _ _ _ hl
  · exact spec_ApplyCommand_j0 _ _ _ _ _ _ hl

/-! #### ivOk -/
theorem toList_eq_iff (a b : ByteArray) : a.toList = b.toList ↔ a = b := by
  rw [toList_data, toList_data]
  constructor
  · intro h
    cases a; cases b
    simp only [ByteArray.mk.injEq]
    exact Array.ext' h
  · intro h; rw [h]
/-- The least key of an interval with this lower bound. -/
def low (lo : ByteArray) : ByteArray := if lo.toList = [] then (⟨#[97]⟩ : ByteArray) else lo
def ivOk (lo hi : ByteArray) : Bool :=
  (decide (lo.toList = []) || keyOk (bs lo)) && (decide (hi.toList = []) || keyOk (bs hi)) && (decide (hi.toList = []) || Op.bytesLess (low lo).toList hi.toList)
def joinOk (a b c d : ByteArray) : Bool := ivOk a b && ivOk c d && !decide (b.toList = []) && decide (b.toList = c.toList)

/-! #### spec_Interval -/
theorem less_a (hi : ByteArray) (h : keyOk (bs hi) = true) : (Op.bytesLess [] hi.toList && (hi.toList != [97])) = Op.bytesLess [97] hi.toList := by
  have hl : letters (bs hi) = true := keyOk_letters h
  have hn := (keyOk_len h).1
  have hb : bs hi = hi.toList.map fun b => (b.toNat : Int) := by rw [toList_data]; rfl
  rw [hb] at hl hn
  cases e : hi.toList with
  | nil => rw [e] at hn; simp at hn
  | cons b l =>
    rw [e] at hl
    obtain ⟨h1, _⟩ := letters_cons hl
    have h1 : 97 ≤ (b.toNat : Int) ∧ (b.toNat : Int) ≤ 122 := h1
    simp only [Op.bytesLess]
    by_cases hb97 : b = 97
    · subst hb97
      cases l with
      | nil => simp [Op.bytesLess]
      | cons c l => simp [Op.bytesLess]
    · have hlt : (97 : UInt8) < b := by
        rw [UInt8.lt_iff_toNat_lt]
        have : b.toNat ≠ (97 : UInt8).toNat := fun e => hb97 (UInt8.toNat_inj.1 e)
        have e97 : (97 : UInt8).toNat = 97 := rfl
        omega
      simp [hlt, hb97]
theorem spec_IntervalValid_f (lo hi : ByteArray) : spec_IntervalValid.fL lo hi = some (ivOk lo hi) := by
  rw [spec_IntervalValid.fL_eq, spec_KeyValid_f, spec_KeyValid_f]
  simp only [Option.bind_some]
  unfold ivOk low
  by_cases h1 : lo.toList = []
  · rw [if_pos h1, if_pos h1, decide_eq_true h1]
    by_cases h2 : hi.toList = []
    · rw [if_pos h2, decide_eq_true h2]; rfl
    · rw [if_neg h2, decide_eq_false h2]
      cases hk : keyOk (bs hi) with
      | false => simp
      | true =>
        have e97 : (⟨#[97]⟩ : ByteArray).toList = [97] := by rw [toList_data]
        rw [h1, e97, ← less_a hi hk]
        cases Op.bytesLess [] hi.toList <;> simp
  · rw [if_neg h1, if_neg h1, decide_eq_false h1]
    by_cases h2 : hi.toList = []
    · rw [if_pos h2, decide_eq_true h2]
      cases keyOk (bs lo) <;> simp
    · rw [if_neg h2, decide_eq_false h2]
      cases keyOk (bs lo) <;> cases keyOk (bs hi) <;> cases Op.bytesLess lo.toList hi.toList <;> simp

/-! #### spec_ApplyEntry -/
theorem spec_IntervalHas_ok (a b c : ByteArray) : ∃ r, spec_IntervalHas.fL a b c = some r := by
  rw [spec_IntervalHas.fL_eq, spec_IntervalValid_f, Option.bind_some, spec_KeyValid_f, Option.bind_some]
  repeat' split
  all_goals exact ⟨_, rfl⟩
theorem spec_IntervalCut_ok (a b c : ByteArray) : ∃ r, spec_IntervalCut.fL a b c = some r := by
  rw [spec_IntervalCut.fL_eq]
  simp only [spec_IntervalValid_f, Option.bind_some, spec_KeyValid_f]
  repeat' split
  all_goals exact ⟨_, rfl⟩
theorem spec_StateValid_l0 (a b : ByteArray) (xs : List S181) (ys : List S217) (g : Bool) (s : ByteArray) (hx : xs.length ≤ 1000000) : ∀ (n : Nat) (i : Int), i + n = xs.length → 0 ≤ i → ∃ r, spec_StateValid.l0L i a b xs ys g s = some r
  | 0, i, h, h0 => by
    obtain ⟨r, hr⟩ := spec_IntervalCut_ok a b s
    rw [spec_StateValid.l0L_eq, if_neg (by omega), hr, Option.bind_some]
    repeat' split
    all_goals exact ⟨_, rfl⟩
  | n + 1, i, h, h0 => by
    obtain ⟨r, hr⟩ := spec_IntervalHas_ok a b (rd_T181 xs i).f0
    rw [spec_StateValid.l0L_eq, if_pos (by omega), if_pos h0, hr, Option.bind_some, w64 (by omega) (by omega)]
    split
    · exact spec_StateValid_l0 a b xs ys g s hx n (i + 1) (by omega) (by omega)
    · exact ⟨_, rfl⟩
theorem spec_StateValid_ok (a b : ByteArray) (xs : List S181) (ys : List S217) (g : Bool) (s : ByteArray) (hx : xs.length ≤ 1000000) (hy : ys.length ≤ 1000000) : ∃ r, spec_StateValid.fL a b xs ys g s = some r ∧ (r = true → xs.length ≤ 48) := by
  obtain ⟨v, hv⟩ := spec_SessionsValid_ok ys hy
  have j : ∀ q : Bool, pairsOk xs = true ∨ q = true → ∃ r, spec_StateValid.j0L q a b xs ys g s = some r ∧ (r = true → xs.length ≤ 48) := by
    intro q hq
    rw [spec_StateValid.j0L_eq]
    cases q with
    | true => exact ⟨_, if_pos rfl, by simp⟩
    | false =>
      obtain ⟨r, hr⟩ := spec_StateValid_l0 a b xs ys g s hx xs.length 0 (by omega) (by omega)
      rw [if_neg (by simp)]
      exact ⟨r, hr, fun _ => pairsOk_le (by simpa using hq)⟩
  rw [spec_StateValid.fL_eq, spec_IntervalValid_f, Option.bind_some, spec_PairsValid_f, Option.bind_some, hv, Option.bind_some]
  split
  · split
    · rename_i h; exact j _ (Or.inl h)
    · exact j _ (Or.inr rfl)
  · exact j _ (Or.inr rfl)
theorem spec_EntryValid_ok (a b c : Int) (s : ByteArray) (v o : Int) : ∃ r, spec_EntryValid.fL a b c s v o = some r := by
  rw [spec_EntryValid.fL_eq, spec_l1In_f, Option.bind_some, spec_l1In_f, Option.bind_some, spec_CommandValid_f, Option.bind_some]
  repeat' split
  all_goals exact ⟨_, rfl⟩
theorem spec_l10Log_l0 (xs : List S118) (hx : xs.length ≤ 1000000) : ∀ (n : Nat) (i : Int), i + n = xs.length → 0 ≤ i → ∃ r, spec_l10Log.l0L xs i = some r
  | 0, i, h, h0 => by rw [spec_l10Log.l0L_eq, if_neg (by omega)]; exact ⟨_, rfl⟩
  | n + 1, i, h, h0 => by
    obtain ⟨r, hr⟩ := spec_EntryValid_ok (rd_T118 xs i).f0 (rd_T118 xs i).f1 (rd_T118 xs i).f2.f0 (rd_T118 xs i).f2.f1 (rd_T118 xs i).f2.f2 (rd_T118 xs i).f2.f3
    rw [spec_l10Log.l0L_eq, if_pos (by omega), hr, Option.bind_some, w64 (by omega) (by omega), if_pos h0]
    split
    · exact ⟨_, rfl⟩
    · split
      · exact spec_l10Log_l0 xs hx n (i + 1) (by omega) (by omega)
      · exact ⟨_, rfl⟩
theorem spec_l10Log_ok (xs : List S118) (hx : xs.length ≤ 1000000) : ∃ r, spec_l10Log.fL xs = some r := by
  rw [spec_l10Log.fL_eq]; exact spec_l10Log_l0 xs hx xs.length 0 (by omega) (by omega)
theorem spec_l10Copy_f (a b : ByteArray) (xs : List S181) (ys : List S217) (g : Bool) (s : ByteArray) (hx : xs.length ≤ 1000000) (hy : ys.length ≤ 1000000) : spec_l10Copy.f a b xs ys g s = some (a, b, xs, ys, g, s) := by
  unfold spec_l10Copy.f
  rw [Option.bind_some, if_pos (by simp; omega), Option.bind_some, if_pos (by simp; omega)]
  simp
theorem spec_ApplyEntry_j1 (m5 q : Bool) (a b : ByteArray) (xs : List S181) (ys : List S217) (g : Bool) (s : ByteArray) (c n k : Int) (key : ByteArray) (v o : Int) (hx : xs.length ≤ 48) (hy : ys.length ≤ 900000) :
    ∃ a' b' xs' ys' g' s' r, spec_ApplyEntry.j1L m5 q a b xs ys g s c n k key v o a b xs ys g s = some (a', b', xs', ys', g', s', r) ∧ xs'.length ≤ 48 ∧ ys'.length ≤ ys.length + 1 := by
  rw [spec_ApplyEntry.j1L_eq]
  split
  · exact ⟨_, _, _, _, _, _, _, rfl, hx, by omega⟩
  · split
    · obtain ⟨r, t, hr, hl⟩ := spec_SessionPut_ok ys (by omega) c n 0
      rw [hr, Option.bind_some]
      exact ⟨_, _, _, _, _, _, _, rfl, hx, hl⟩
    · obtain ⟨r, x, hr, hl⟩ := spec_ApplyCommand_ok xs k key v o hx
      obtain ⟨r2, t, hr2, hl2⟩ := spec_SessionPut_ok ys (by omega) c n x
      rw [hr, Option.bind_some]
      dsimp only
      rw [hr2, Option.bind_some]
      exact ⟨_, _, _, _, _, _, _, rfl, hl, hl2⟩
theorem spec_ApplyEntry_j0 (q : Bool) (a b : ByteArray) (xs : List S181) (ys : List S217) (g : Bool) (s : ByteArray) (c n k : Int) (key : ByteArray) (v o : Int) (hx : q = false → xs.length ≤ 48) (hy : ys.length ≤ 900000) :
    ∃ a' b' xs' ys' g' s' r, spec_ApplyEntry.j0L q a b xs ys g s c n k key v o = some (a', b', xs', ys', g', s', r) ∧ xs'.length ≤ 48 ∧ ys'.length ≤ ys.length + 1 := by
  rw [spec_ApplyEntry.j0L_eq]
  cases q with
  | true => exact ⟨_, _, _, _, _, _, _, if_pos rfl, by simp, by simp⟩
  | false =>
    have hx := hx rfl
    obtain ⟨f, hf⟩ := spec_l9Find_ok ys (by omega) c
    obtain ⟨f2, hf2⟩ := spec_IntervalCut_ok a b key
    obtain ⟨f3, hf3⟩ := spec_IntervalHas_ok a b key
    rw [if_neg (by simp), spec_l10Copy_f a b xs ys g s (by omega) (by omega), Option.bind_some, hf, Option.bind_some, hf2, Option.bind_some, hf3, Option.bind_some]
    dsimp only
    repeat' split
    all_goals first | exact ⟨_, _, _, _, _, _, _, rfl, hx, by omega⟩ | exact spec_ApplyEntry_j1 _ _ _ _ _ _ _ _ _ _ _ _ _ _ hx hy
theorem spec_ApplyEntry_ok (a b : ByteArray) (xs : List S181) (ys : List S217) (g : Bool) (s : ByteArray) (c n k : Int) (key : ByteArray) (v o : Int) (hx : xs.length ≤ 1000000) (hy : ys.length ≤ 900000) :
    ∃ a' b' xs' ys' g' s' r, spec_ApplyEntry.fL a b xs ys g s c n k key v o = some (a', b', xs', ys', g', s', r) ∧ xs'.length ≤ 48 ∧ ys'.length ≤ ys.length + 1 := by
  obtain ⟨q, hq, hl⟩ := spec_StateValid_ok a b xs ys g s hx (by omega)
  obtain ⟨e, he⟩ := spec_EntryValid_ok c n k key v o
  rw [spec_ApplyEntry.fL_eq, hq, Option.bind_some, he, Option.bind_some]
  split
  · rename_i h; exact spec_ApplyEntry_j0 _ _ _ _ _ _ _ _ _ _ _ _ _ (fun _ => hl h) hy
  · exact spec_ApplyEntry_j0 _ _ _ _ _ _ _ _ _ _ _ _ _ (by simp) hy
theorem spec_ChangesOf_l0 (es : List S118) (he : es.length ≤ 100000) : ∀ (n : Nat) (i : Int) (out : List S106) (a b : ByteArray) (xs : List S181) (ys : List S217) (g : Bool) (s : ByteArray), i + n = es.length → 0 ≤ i → (out.length : Int) ≤ i → xs.length ≤ 48 → (ys.length : Int) ≤ 500000 + i → ∃ r, spec_ChangesOf.l0L es out i a b xs ys g s = some r ∧ r.length ≤ es.length
  | 0, i, out, a, b, xs, ys, g, s, h, h0, ho, hx, hy => by
    rw [spec_ChangesOf.l0L_eq, if_neg (by omega)]; exact ⟨_, rfl, by omega⟩
  | n + 1, i, out, a, b, xs, ys, g, s, h, h0, ho, hx, hy => by
    obtain ⟨a', b', xs', ys', g', s', r, hr, hx', hy'⟩ := spec_ApplyEntry_ok a b xs ys g s (rd_T118 es i).f0 (rd_T118 es i).f1 (rd_T118 es i).f2.f0 (rd_T118 es i).f2.f1 (rd_T118 es i).f2.f2 (rd_T118 es i).f2.f3 (by omega) (by omega)
    rw [spec_ChangesOf.l0L_eq, if_pos (by omega), if_pos h0, hr, Option.bind_some]
    dsimp only
    rw [spec_PairGet_f xs _ (by omega), Option.bind_some, spec_PairGet_f xs' _ (by omega), Option.bind_some, w64 (by omega) (by omega)]
    split
    · exact spec_ChangesOf_l0 es he n (i + 1) out a' b' xs' ys' g' s' (by omega) (by omega) (by omega) hx' (by omega)
    · rw [if_pos (by omega)]
      exact spec_ChangesOf_l0 es he n (i + 1) _ a' b' xs' ys' g' s' (by omega) (by omega) (by simp; omega) hx' (by omega)
theorem spec_ChangesOf_ok (a b : ByteArray) (xs : List S181) (ys : List S217) (g : Bool) (s : ByteArray) (es : List S118) (hx : xs.length ≤ 1000000) (hy : ys.length ≤ 500000) (he : es.length ≤ 100000) : ∃ r, spec_ChangesOf.fL a b xs ys g s es = some r ∧ r.length ≤ es.length := by
  obtain ⟨q, hq, hl⟩ := spec_StateValid_ok a b xs ys g s hx (by omega)
  obtain ⟨e, hee⟩ := spec_l10Log_ok es (by omega)
  have j : ∀ c : Bool, (c = false → xs.length ≤ 48) → ∃ r, spec_ChangesOf.j0L es [] c a b xs ys g s = some r ∧ r.length ≤ es.length := by
    intro c hc
    rw [spec_ChangesOf.j0L_eq]
    cases c with
    | true => exact ⟨_, if_pos rfl, by simp⟩
    | false =>
      rw [if_neg (by simp), spec_l10Copy_f a b xs ys g s (by omega) (by omega), Option.bind_some]
      exact spec_ChangesOf_l0 es he es.length 0 [] a b xs ys g s (by omega) (by omega) (by simp) (hc rfl) (by omega)
  rw [spec_ChangesOf.fL_eq, Option.bind_some, hq, Option.bind_some, hee, Option.bind_some]
  split
  · rename_i h; exact j _ (fun _ => hl h)
  · exact j _ (by simp)

/-! #### reader -/
theorem spec_l20Open_f (l : List Int) : spec_l20Open.f l = some (l.take 2000, 0) := by
  unfold spec_l20Open.f
  by_cases h : (l.length : Int) > 2000
  · rw [if_pos h, if_pos (by omega)]
  · rw [if_neg h, List.take_of_length_le (by omega)]
/-- The bytes of a code. -/
def Code (b : List Int) : Prop := b.length ≤ 2000 ∧ ∀ x ∈ b, 0 ≤ x ∧ x ≤ 255
theorem Code.take {l : List Int} (h : ∀ x ∈ l, (Lit.int .u8 x).wf = true) : Code (l.take 2000) :=
  ⟨by rw [List.length_take]; omega, fun x hx => wf8 (h x (List.mem_of_mem_take hx))⟩
theorem Code.get {b : List Int} (h : Code b) (i : Int) (hi : i.toNat < b.length) : 0 ≤ rd b i ∧ rd b i ≤ 255 := by
  unfold rd
  rw [List.getD_eq_getElem?_getD, List.getElem?_eq_getElem hi]
  exact h.2 _ (List.getElem_mem hi)
theorem xor_range (a b : Int) (h0 : 0 ≤ a) (h1 : a ≤ 4611686018427387903) (h2 : 0 ≤ b) (h3 : b ≤ 4611686018427387903) : 0 ≤ Go.bits .xor .i64 a b ∧ Go.bits .xor .i64 a b ≤ 4611686018427387903 := by
  obtain ⟨x, rfl⟩ := Int.eq_ofNat_of_zero_le h0
  obtain ⟨y, rfl⟩ := Int.eq_ofNat_of_zero_le h2
  have hx : x ^^^ y < 2 ^ 62 := Nat.xor_lt_two_pow (by omega) (by omega)
  have g1 : (BitVec.ofInt 64 (x : Int)).toNat = x := by
    rw [BitVec.ofInt_natCast, BitVec.toNat_ofNat]; exact Nat.mod_eq_of_lt (by omega)
  have g2 : (BitVec.ofInt 64 (y : Int)).toNat = y := by
    rw [BitVec.ofInt_natCast, BitVec.toNat_ofNat]; exact Nat.mod_eq_of_lt (by omega)
  have e : Go.bits .xor .i64 (x : Int) (y : Int) = ((x ^^^ y : Nat) : Int) := by
    show IntKind.i64.wrap ((BitVec.ofInt 64 (x : Int) ^^^ BitVec.ofInt 64 (y : Int)).toNat : Int) = _
    rw [BitVec.toNat_xor, g1, g2, IntKind.wrap_i64]
    omega
  rw [e]
  omega
theorem tmod_range {a n : Int} (h0 : 0 ≤ a) (hn : 1 ≤ n) : 0 ≤ Int.tmod a n ∧ Int.tmod a n < n := by
  rw [Int.tmod_eq_emod_of_nonneg h0]
  exact ⟨Int.emod_nonneg _ (by omega), Int.emod_lt_of_pos _ (by omega)⟩
theorem pick_ok {b : List Int} (hb : Code b) (p n : Int) (h0 : 0 ≤ p) (h1 : p ≤ 1000000000000) (hn : n ≤ 1000000) :
    ∃ v, spec_l20Rd_pick.fL b p n = some (v, p + 1) ∧ 0 ≤ v ∧ (1 ≤ n → v < n) ∧ (n < 1 → v = 0) := by
  rw [spec_l20Rd_pick.fL_eq, spec_l20Rd_pick.j0L_eq, spec_l20Rd_pick.j0L_eq, w64 (n := p + 1) (by omega) (by omega), w64 (n := p + 1 - 1) (by omega) (by omega), show p + 1 - 1 = p by omega]
  by_cases e : n < 1
  · rw [if_pos e, if_pos rfl]; exact ⟨0, rfl, by omega, fun h => by omega, fun _ => rfl⟩
  · rw [if_neg e]
    by_cases e0 : (b.length : Int) = 0
    · rw [if_pos (by simpa using e0)]; exact ⟨0, rfl, by omega, fun h => by omega, fun _ => rfl⟩
    · rw [if_neg (by simpa using e0)]
      by_cases e1 : p < b.length
      · have hr := hb.get p (by omega)
        rw [if_pos e1, if_pos h0, if_neg (by omega), w64 (n := rd b p) (by omega) (by omega)]
        have := tmod_range hr.1 (n := n) (by omega)
        exact ⟨_, rfl, this.1, fun _ => this.2, fun h => by omega⟩
      · have hl := hb.1
        have t1 := tmod_range h0 (n := (b.length : Int)) (by omega)
        have t2 := tmod_range (a := p * 7 + 3) (by omega) (n := (b.length : Int)) (by omega)
        have r1 := hb.get (Int.tmod p b.length) (by omega)
        have r2 := hb.get (Int.tmod (p * 7 + 3) b.length) (by omega)
        have td : Int.tdiv p b.length = p / b.length := Int.tdiv_eq_ediv_of_nonneg h0
        have d0 : 0 ≤ p / (b.length : Int) := Int.ediv_nonneg h0 (by omega)
        have d1 : p / (b.length : Int) ≤ p := Int.ediv_le_self _ h0
        rw [if_neg e1, if_neg e0, w64 (n := p * 7) (by omega) (by omega), w64 (n := p * 7 + 3) (by omega) (by omega), if_pos t1.1, if_pos t1.2, if_pos t2.1, if_pos t2.2, if_neg (by omega)]
        generalize rd b (Int.tmod p b.length) = A at *
        generalize rd b (Int.tmod (p * 7 + 3) b.length) = B at *
        rw [td]
        generalize p / (b.length : Int) = D at *
        rw [w64 (n := A) (by omega) (by omega), w64 (n := B) (by omega) (by omega), w64 (n := D) (by omega) (by omega), w64 (n := A * 131) (by omega) (by omega), w64 (n := B * 1117) (by omega) (by omega), w64 (n := p * 29) (by omega) (by omega), w64 (n := D * 53) (by omega) (by omega),
          w64 (n := A * 131 + B * 1117) (by omega) (by omega), w64 (n := A * 131 + B * 1117 + p * 29) (by omega) (by omega), w64 (n := A * 131 + B * 1117 + p * 29 + D * 53) (by omega) (by omega)]
        generalize hX : A * 131 + B * 1117 + p * 29 + D * 53 = X
        have q0 : 0 ≤ X := by omega
        have q1 : X ≤ 1000000000000000 := by omega
        have e64 : Int.tdiv X 64 = X / 64 := Int.tdiv_eq_ediv_of_nonneg q0
        rw [e64, w64 (n := X / 64) (by omega) (by omega)]
        have hx := xor_range X (X / 64) q0 (by omega) (by omega) (by omega)
        have := tmod_range hx.1 (n := n) (by omega)
        exact ⟨_, rfl, this.1, fun _ => this.2, fun h => by omega⟩

/-! #### odd -/
theorem odd_ok {b : List Int} (hb : Code b) (p n : Int) (h0 : 0 ≤ p) (h1 : p ≤ 1000000000000) (hn : n ≤ 1000000) :
    ∃ v q, spec_l20Rd_odd.fL b p n = some (v, q) ∧ p ≤ q ∧ q ≤ p + 1 := by
  rw [spec_l20Rd_odd.fL_eq]
  by_cases e : n > 0
  · obtain ⟨v, hv, _⟩ := pick_ok hb p n h0 h1 hn
    rw [if_pos e, hv]
    exact ⟨_, _, rfl, by dsimp only; omega, by dsimp only; omega⟩
  · rw [if_neg e]
    exact ⟨_, _, rfl, by omega, by omega⟩

/-! #### lits -/
theorem rd_mem {xs : List Int} {i : Int} (h0 : 0 ≤ i) (h1 : i < xs.length) : rd xs i ∈ xs := by
  unfold rd
  rw [List.getD_eq_getElem?_getD, List.getElem?_eq_getElem (show i.toNat < xs.length by omega)]
  exact List.getElem_mem _
theorem rdOf_mem {α : Type} {d : α} {xs : List α} {i : Int} (h0 : 0 ≤ i) (h1 : i < xs.length) : rdOf d xs i ∈ xs := by
  unfold rdOf
  rw [List.getD_eq_getElem?_getD, List.getElem?_eq_getElem (show i.toNat < xs.length by omega)]
  exact List.getElem_mem _
theorem strOfNums_len (xs : List Int) : (strOfNums xs).size = xs.length := by simp [strOfNums, ByteArray.size]

/-! #### l20Key -/
theorem l20Key_l0 {b : List Int} (hb : Code b) : ∀ (m : Nat) (s : ByteArray) (n p : Int), n = m → s.size + m ≤ 1000 → 0 ≤ p → p + m ≤ 1000000000 → ∃ r q, spec_l20Key.l0L s n b p = some (r, q) ∧ p ≤ q ∧ q ≤ p + m ∧ r.size ≤ s.size + m
  | 0, s, n, p, h, hs, hp, hp2 => by rw [spec_l20Key.l0L_eq, if_neg (by omega)]; exact ⟨_, _, rfl, by omega, by omega, by omega⟩
  | m + 1, s, n, p, h, hs, hp, hp2 => by
    obtain ⟨v, hv, v0, v1, _⟩ := pick_ok hb p 4 hp (by omega) (by omega)
    rw [spec_l20Key.l0L_eq, if_pos (by omega), hv, Option.bind_some, Option.bind_some, if_pos (by rw [strOfNums_len]; simp; omega), w64 (n := n - 1) (by omega) (by omega)]
    obtain ⟨r, q, hr, q0, q1, hrs⟩ := l20Key_l0 hb m (s ++ strOfNums [(wrap64 (97 + v)) % 256]) (n - 1) (p + 1) (by omega) (by rw [ByteArray.size_append, strOfNums_len]; simp; omega) (by omega) (by omega)
    refine ⟨r, q, hr, by omega, by omega, ?_⟩
    rw [ByteArray.size_append, strOfNums_len] at hrs
    simp at hrs
    omega
theorem l20Key_ok {b : List Int} (hb : Code b) (p n : Int) (hp : 0 ≤ p) (hp2 : p ≤ 100000000) (hn : n ≤ 1000000) : ∃ r q, spec_l20Key.fL b p n = some (r, q) ∧ p ≤ q ∧ q ≤ p + 5 ∧ r.size ≤ 5 := by
  obtain ⟨o, q1, ho, o0, o1⟩ := odd_ok hb p n hp (by omega) hn
  rw [spec_l20Key.fL_eq, ho, Option.bind_some]
  dsimp only
  cases o with
  | true =>
    obtain ⟨v, hv, v0, v1, _⟩ := pick_ok hb q1 6 (by omega) (by omega) (by omega)
    have v1 := v1 (by omega)
    rw [if_pos rfl, Option.bind_some, hv, Option.bind_some]
    dsimp only
    rw [if_pos v0, if_pos (by simp; omega)]
    refine ⟨_, _, rfl, by omega, by omega, ?_⟩
    exact (show ∀ s ∈ ([(⟨#[]⟩ : ByteArray), (⟨#[65]⟩ : ByteArray), (⟨#[97, 49]⟩ : ByteArray), (⟨#[97, 98, 99, 100, 101]⟩ : ByteArray), (⟨#[98, 123]⟩ : ByteArray), (⟨#[97, 32, 98]⟩ : ByteArray)] : List ByteArray), s.size ≤ 5 by decide) _ (rdOf_mem v0 (by simp; omega))
  | false =>
    obtain ⟨v, hv, v0, v1, _⟩ := pick_ok hb q1 12 (by omega) (by omega) (by omega)
    rw [if_neg (by simp), hv, Option.bind_some]
    dsimp only
    by_cases e : v = 11
    · obtain ⟨u, hu, u0, u1, _⟩ := pick_ok hb (q1 + 1) 5 (by omega) (by omega) (by omega)
      have u1 := u1 (by omega)
      rw [if_pos e, Option.bind_some, hu, Option.bind_some]
      dsimp only
      rw [if_pos u0, if_pos (by simp; omega)]
      refine ⟨_, _, rfl, by omega, by omega, ?_⟩
      exact (show ∀ s ∈ ([(⟨#[122, 122, 122, 122]⟩ : ByteArray), (⟨#[122, 122, 122]⟩ : ByteArray), (⟨#[97, 122, 122, 122]⟩ : ByteArray), (⟨#[122]⟩ : ByteArray), (⟨#[97, 97, 97, 97]⟩ : ByteArray)] : List ByteArray), s.size ≤ 5 by decide) _ (rdOf_mem u0 (by simp; omega))
    · obtain ⟨u, hu, u0, u1, _⟩ := pick_ok hb (q1 + 1) 2 (by omega) (by omega) (by omega)
      have u1 := u1 (by omega)
      rw [if_neg e, hu, Option.bind_some]
      dsimp only
      rw [w64 (by omega) (by omega)]
      obtain ⟨r, q, hr, r0, r1, rs⟩ := l20Key_l0 hb (1 + u).toNat (⟨#[]⟩ : ByteArray) (1 + u) (q1 + 1 + 1) (by omega) (by show 0 + _ ≤ 1000; omega) (by omega) (by omega)
      refine ⟨r, q, hr, by omega, by omega, ?_⟩
      have : (⟨#[]⟩ : ByteArray).size = 0 := rfl
      omega

/-! #### l20Value -/
theorem l20Value_ok {b : List Int} (hb : Code b) (p n : Int) (hp : 0 ≤ p) (hp2 : p ≤ 100000000) (hn : n ≤ 1000000) : ∃ r q, spec_l20Value.fL b p n = some (r, q) ∧ p ≤ q ∧ q ≤ p + 3 ∧ -1 ≤ r ∧ r ≤ 1000 := by
  obtain ⟨o, q1, ho, o0, o1⟩ := odd_ok hb p n hp (by omega) hn
  rw [spec_l20Value.fL_eq, ho, Option.bind_some]
  dsimp only
  cases o with
  | true =>
    obtain ⟨v, hv, v0, v1, _⟩ := pick_ok hb q1 2 (by omega) (by omega) (by omega)
    have v1 := v1 (by omega)
    rw [if_pos rfl, Option.bind_some, hv, Option.bind_some]
    dsimp only
    rw [if_pos v0, if_pos (by simp; omega)]
    have := (show ∀ s ∈ ([(-1), 1000] : List Int), -1 ≤ s ∧ s ≤ 1000 by decide) _ (rd_mem v0 (by simp; omega))
    exact ⟨_, _, rfl, by omega, by omega, this.1, this.2⟩
  | false =>
    obtain ⟨v, hv, v0, v1, _⟩ := pick_ok hb q1 20 (by omega) (by omega) (by omega)
    have v1 := v1 (by omega)
    obtain ⟨u, hu, u0, u1, _⟩ := pick_ok hb (q1 + 1) 9 (by omega) (by omega) (by omega)
    have u1 := u1 (by omega)
    have hd : Int.tdiv u 8 = u / 8 := Int.tdiv_eq_ediv_of_nonneg u0
    rw [if_neg (by simp), hv, Option.bind_some]
    dsimp only
    rw [Option.bind_some, hu, Option.bind_some]
    dsimp only
    rw [hd, w64 (n := u / 8) (by omega) (by omega), if_pos (by omega), if_pos (by simp; omega)]
    have hm : rd [v, 999] (u / 8) ∈ [v, 999] := rd_mem (by omega) (by simp; omega)
    have : -1 ≤ rd [v, 999] (u / 8) ∧ rd [v, 999] (u / 8) ≤ 1000 := by
      simp only [List.mem_cons, List.not_mem_nil, or_false] at hm
      rcases hm with e | e <;> rw [e] <;> omega
    exact ⟨_, _, rfl, by omega, by omega, this.1, this.2⟩

/-! #### kfrom -/
/-- How many keys begin with the letters of a place, from a depth on. -/
def kfrom (d : Int) : Int := if d ≥ 4 then 1 else if d = 3 then 27 else if d = 2 then 703 else 18279
theorem kfrom_range (d : Int) : 1 ≤ kfrom d ∧ kfrom d ≤ 18279 := by unfold kfrom; split <;> (try split) <;> (try split) <;> omega

/-! #### spec_l1Weight -/
theorem spec_l1Weight_f (d : Int) (h0 : 0 ≤ d) : spec_l1Weight.f d = some (kfrom (d + 1)) := by
  unfold spec_l1Weight.f kfrom
  by_cases h1 : d = 0
  · subst h1; rfl
  · by_cases h2 : d = 1
    · subst h2; rfl
    · by_cases h3 : d = 2
      · subst h3; rfl
      · rw [if_neg h1, if_neg h2, if_neg h3, if_pos (by omega)]

/-! #### spec_KeyAt -/
theorem KeyAt_l0 : ∀ (n : Nat) (a : Int) (s : ByteArray) (i : Int), i + n = 4 → 0 ≤ i → 0 ≤ a → a ≤ 1000000 → s.size ≤ i → ∃ r, spec_KeyAt.l0L a s i = some r ∧ r.size ≤ 4
  | 0, a, s, i, hi, h0, ha, ha2, hs => by rw [spec_KeyAt.l0L_eq, if_neg (by omega)]; exact ⟨_, rfl, by omega⟩
  | n + 1, a, s, i, hi, h0, ha, ha2, hs => by
    have hk := kfrom_range (i + 1)
    have hl : ∀ x : Int, (strOfNums [x]).size = 1 := fun x => by rw [strOfNums_len]; rfl
    have ht := tmod_range ha (n := kfrom (i + 1)) (by omega)
    have hle : Int.tmod a (kfrom (i + 1)) ≤ a := by
      rw [Int.tmod_eq_emod_of_nonneg ha] at ht ⊢
      by_cases hlt : a < kfrom (i + 1)
      · rw [Int.emod_eq_of_lt ha hlt]; omega
      · omega
    rw [spec_KeyAt.l0L_eq, if_pos (by omega)]
    simp only [spec_l1Weight_f i h0, Option.bind_some]
    rw [if_neg (by omega), if_pos (by rw [hl]; omega), if_neg (by omega)]
    by_cases e : Int.tmod a (kfrom (i + 1)) = 0
    · rw [if_pos e]; exact ⟨_, rfl, by rw [ByteArray.size_append, hl]; omega⟩
    · rw [if_neg e, w64 (n := i + 1) (by omega) (by omega), w64 (n := Int.tmod a (kfrom (i + 1)) - 1) (by omega) (by omega)]
      exact KeyAt_l0 n _ _ (i + 1) (by omega) (by omega) (by omega) (by omega) (by rw [ByteArray.size_append, hl]; omega)
theorem KeyAt_ok (a : Int) (h1 : a ≤ 1000000) : ∃ s, spec_KeyAt.fL a = some s ∧ s.size ≤ 4 := by
  rw [spec_KeyAt.fL_eq, spec_l1In_f, Option.bind_some]
  by_cases h : 0 ≤ a ∧ a ≤ 475253
  · rw [decide_eq_true h, if_pos rfl]
    exact KeyAt_l0 4 a _ 0 (by omega) (by omega) (by omega) (by omega) (by decide)
  · rw [decide_eq_false h, if_neg (by simp)]
    exact ⟨_, rfl, by decide⟩

/-! #### l20Pairs -/
theorem l20Pairs_j3 {b : List Int} (hb : Code b) (n : Int) (out : List S181) (p : Int) (hp : 0 ≤ p) (hp2 : p ≤ 200000000) (hn : n ≤ 1000000) (ho : out.length ≤ 48) : ∃ r q, spec_l20Pairs.j3L n out b p = some (r, q) ∧ p ≤ q ∧ q ≤ p + 2 ∧ r.length ≤ 49 := by
  obtain ⟨o, q1, ho1, o0, o1⟩ := odd_ok hb p n hp (by omega) hn
  rw [spec_l20Pairs.j3L_eq, ho1, Option.bind_some]
  dsimp only
  cases o with
  | true =>
    obtain ⟨v, hv, v0, v1, _⟩ := pick_ok hb q1 5 (by omega) (by omega) (by omega)
    have v1 := v1 (by omega)
    rw [if_pos rfl, Option.bind_some, hv, Option.bind_some]
    dsimp only
    rw [if_pos v0, if_pos (by simp; omega), if_pos (by omega)]
    exact ⟨_, _, rfl, by omega, by omega, by simp; omega⟩
  | false =>
    rw [if_neg (by simp)]
    exact ⟨_, _, rfl, by omega, by omega, by omega⟩
theorem l20Pairs_l1 {b : List Int} (hb : Code b) (n : Int) (hn : n ≤ 1000000) (p : Int) (hp : 0 ≤ p) (hp2 : p ≤ 200000000) : ∀ (m : Nat) (out : List S181) (i : Int), i + m = 200 → 0 ≤ i → out.length ≤ 48 → ∃ r q, spec_l20Pairs.l1L n out i b p = some (r, q) ∧ p ≤ q ∧ q ≤ p + 2 ∧ r.length ≤ 49
  | m, out, i, hi, h0, ho => by
    obtain ⟨r, q, hr, h⟩ := l20Pairs_j3 hb n out p hp hp2 hn ho
    have hj : spec_l20Pairs.j2L n out i false b p = some (r, q) := by rw [spec_l20Pairs.j2L_eq, if_neg (by simp)]; exact hr
    rw [spec_l20Pairs.l1L_eq]
    by_cases e : (out.length : Int) < 48
    · rw [if_pos e]
      match m with
      | 0 => rw [decide_eq_false (by omega)]; exact ⟨r, q, hj, h⟩
      | m + 1 =>
        obtain ⟨s, hs, _⟩ := KeyAt_ok (i * 9) (by omega)
        rw [decide_eq_true (by omega), spec_l20Pairs.j2L_eq, if_pos rfl, w64 (n := i * 9) (by omega) (by omega), hs, Option.bind_some, spec_PairPut_f out s i (by omega), Option.bind_some, w64 (by omega) (by omega)]
        exact l20Pairs_l1 hb n hn p hp hp2 m _ (i + 1) (by omega) (by omega) (pairPut_length _ _ _)
    · rw [if_neg e]; exact ⟨r, q, hj, h⟩
theorem l20Pairs_l0 {b : List Int} (hb : Code b) (n : Int) (hn : n ≤ 1000000) : ∀ (m : Nat) (out : List S181) (i p : Int), i = m → m ≤ 100 → 0 ≤ p → p + 8 * m ≤ 90001000 → out.length ≤ 48 → ∃ r q, spec_l20Pairs.l0L n out i b p = some (r, q) ∧ p ≤ q ∧ q ≤ p + 8 * m + 3 ∧ r.length ≤ 49
  | 0, out, i, p, hi, hm, hp, hp2, ho => by
    obtain ⟨v, hv, v0, v1, _⟩ := pick_ok hb p 16 hp (by omega) (by omega)
    rw [spec_l20Pairs.l0L_eq, if_neg (by omega), hv, Option.bind_some]
    dsimp only
    by_cases e : v = 15
    · rw [if_pos e]
      obtain ⟨r, q, hr, h1, h2, h3⟩ := l20Pairs_l1 hb n hn (p + 1) (by omega) (by omega) 200 out 0 (by omega) (by omega) ho
      exact ⟨r, q, hr, by omega, by omega, h3⟩
    · rw [if_neg e]
      obtain ⟨r, q, hr, h1, h2, h3⟩ := l20Pairs_j3 hb n out (p + 1) (by omega) (by omega) hn ho
      exact ⟨r, q, hr, by omega, by omega, h3⟩
  | m + 1, out, i, p, hi, hm, hp, hp2, ho => by
    obtain ⟨s, q1, hs, s0, s1, _⟩ := l20Key_ok hb p 0 hp (by omega) (by omega)
    obtain ⟨v, q2, hv, v0, v1, _, _⟩ := l20Value_ok hb q1 0 (by omega) (by omega) (by omega)
    rw [spec_l20Pairs.l0L_eq, if_pos (by omega), hs, Option.bind_some]
    dsimp only
    rw [hv, Option.bind_some]
    dsimp only
    rw [spec_PairPut_f out s v (by omega), Option.bind_some, w64 (by omega) (by omega)]
    obtain ⟨r, q, hr, h1, h2, h3⟩ := l20Pairs_l0 hb n hn m (pairPut out s v).1 (i - 1) q2 (by omega) (by omega) (by omega) (by omega) (pairPut_length _ _ _)
    exact ⟨r, q, hr, by omega, by omega, h3⟩
theorem l20Pairs_ok {b : List Int} (hb : Code b) (p n : Int) (hp : 0 ≤ p) (hp2 : p ≤ 90000000) (hn : n ≤ 1000000) : ∃ r q, spec_l20Pairs.fL b p n = some (r, q) ∧ p ≤ q ∧ q ≤ p + 100 ∧ r.length ≤ 49 := by
  obtain ⟨v, hv, v0, v1, _⟩ := pick_ok hb p 9 hp (by omega) (by omega)
  have v1 := v1 (by omega)
  rw [spec_l20Pairs.fL_eq, hv, Option.bind_some]
  dsimp only
  obtain ⟨r, q, hr, h1, h2, h3⟩ := l20Pairs_l0 hb n hn v.toNat [] v (p + 1) (by omega) (by omega) (by omega) (by omega) (by simp)
  exact ⟨r, q, hr, by omega, by omega, h3⟩

/-! #### l20Cmd -/
theorem rdCmd_mem {xs : List S30} {i : Int} (h0 : 0 ≤ i) (h1 : i < xs.length) : rd_T30 xs i ∈ xs := by
  unfold rd_T30
  rw [List.getD_eq_getElem?_getD, List.getElem?_eq_getElem (show i.toNat < xs.length by omega)]
  exact List.getElem_mem _
theorem l20Cmd_j0 {b : List Int} (hb : Code b) (s : ByteArray) (hs : s.size ≤ 10) (p : Int) (hp : 0 ≤ p) (hp2 : p ≤ 99000000) : ∃ k s' v o q, spec_l20Cmd.j0L s b p = some (k, s', v, o, q) ∧ p ≤ q ∧ q ≤ p + 6 ∧ s'.size ≤ 10 ∧ 0 ≤ k ∧ k ≤ 6 ∧ -10 ≤ v ∧ v ≤ 1000 ∧ -10 ≤ o ∧ o ≤ 1000 := by
  obtain ⟨c, hc, c0, c1, _⟩ := pick_ok hb p 8 hp (by omega) (by omega)
  rw [spec_l20Cmd.j0L_eq, hc, Option.bind_some]
  dsimp only
  by_cases e0 : c = 0
  · rw [if_pos e0]; exact ⟨_, _, _, _, _, rfl, by omega, by omega, hs, by omega, by omega, by omega, by omega, by omega, by omega⟩
  · rw [if_neg e0]
    by_cases e1 : c = 1
    · rw [if_pos e1]; exact ⟨_, _, _, _, _, rfl, by omega, by omega, hs, by omega, by omega, by omega, by omega, by omega, by omega⟩
    · rw [if_neg e1]
      by_cases e2 : c = 2
      · obtain ⟨v, hv, v0, v1, _⟩ := pick_ok hb (p + 1) 5 (by omega) (by omega) (by omega)
        obtain ⟨u, hu, u0, u1, _⟩ := pick_ok hb (p + 1 + 1) 5 (by omega) (by omega) (by omega)
        have v1 := v1 (by omega)
        have u1 := u1 (by omega)
        rw [if_pos e2, hv, Option.bind_some]
        dsimp only
        rw [hu, Option.bind_some]
        dsimp only
        rw [w64 (by omega) (by omega)]
        exact ⟨_, _, _, _, _, rfl, by omega, by omega, hs, by omega, by omega, by omega, by omega, by omega, by omega⟩
      · obtain ⟨v, q, hv, q0, q1, v0, v1⟩ := l20Value_ok hb (p + 1) 0 (by omega) (by omega) (by omega)
        rw [if_neg e2, hv, Option.bind_some]
        have t := Int.tmod_add_mul_tdiv v 1000
        have t1 : -1000 < Int.tmod v 1000 := Int.lt_tmod_of_pos v (by omega)
        have t2 : Int.tmod v 1000 < 1000 := Int.tmod_lt_of_pos v (by omega)
        have t3 : -10 ≤ Int.tmod v 1000 := by
          by_cases hv0 : 0 ≤ v
          · have := Int.tmod_nonneg 1000 hv0; omega
          · have : v = -1 := by omega
            subst this; decide
        exact ⟨_, _, _, _, _, rfl, by dsimp only; omega, by dsimp only; omega, hs, by omega, by omega, by dsimp only; omega, by dsimp only; omega, by omega, by omega⟩
theorem l20Cmd_ok {b : List Int} (hb : Code b) (p n : Int) (hp : 0 ≤ p) (hp2 : p ≤ 90000000) (hn : n ≤ 1000000) : ∃ k s v o q, spec_l20Cmd.fL b p n = some (k, s, v, o, q) ∧ p ≤ q ∧ q ≤ p + 14 ∧ s.size ≤ 10 ∧ 0 ≤ k ∧ k ≤ 6 ∧ -10 ≤ v ∧ v ≤ 1000 ∧ -10 ≤ o ∧ o ≤ 1000 := by
  obtain ⟨o, q1, ho, o0, o1⟩ := odd_ok hb p n hp (by omega) hn
  rw [spec_l20Cmd.fL_eq, ho, Option.bind_some]
  dsimp only
  cases o with
  | true =>
    obtain ⟨v, hv, v0, v1, _⟩ := pick_ok hb q1 10 (by omega) (by omega) (by omega)
    have v1 := v1 (by omega)
    rw [if_pos rfl, Option.bind_some, hv, Option.bind_some]
    dsimp only
    rw [if_pos v0, if_pos (by simp; omega)]
    have hm : ∀ x ∈ ([(⟨0, (⟨#[]⟩ : ByteArray), 0, 0⟩ : S30), (⟨1, (⟨#[]⟩ : ByteArray), 0, 0⟩ : S30), (⟨1, (⟨#[98]⟩ : ByteArray), 1, 0⟩ : S30), (⟨2, (⟨#[98]⟩ : ByteArray), 1000, 0⟩ : S30), (⟨2, (⟨#[98]⟩ : ByteArray), 0, 1⟩ : S30), (⟨4, (⟨#[98]⟩ : ByteArray), 0, (-2)⟩ : S30), (⟨4, (⟨#[98]⟩ : ByteArray), (-1), 0⟩ : S30), (⟨6, (⟨#[98]⟩ : ByteArray), 0, 0⟩ : S30), (⟨3, (⟨#[65]⟩ : ByteArray), 0, 0⟩ : S30), (⟨5, (⟨#[98, 49]⟩ : ByteArray), 0, 0⟩ : S30)] : List S30), x.f1.size ≤ 10 ∧ 0 ≤ x.f0 ∧ x.f0 ≤ 6 ∧ -10 ≤ x.f2 ∧ x.f2 ≤ 1000 ∧ -10 ≤ x.f3 ∧ x.f3 ≤ 1000 := by
      intro x hx
      simp only [List.mem_cons, List.not_mem_nil, or_false] at hx
      rcases hx with rfl | rfl | rfl | rfl | rfl | rfl | rfl | rfl | rfl | rfl <;> decide
    have := hm _ (rdCmd_mem v0 (by simp; omega))
    exact ⟨_, _, _, _, _, rfl, by omega, by omega, this⟩
  | false =>
    obtain ⟨s, q2, hs, s0, s1, sl⟩ := l20Key_ok hb q1 0 (by omega) (by omega) (by omega)
    obtain ⟨v, hv, v0, v1, _⟩ := pick_ok hb q2 2 (by omega) (by omega) (by omega)
    have v1 := v1 (by omega)
    rw [if_neg (by simp), hs, Option.bind_some]
    dsimp only
    rw [hv, Option.bind_some]
    dsimp only
    by_cases e : v = 0
    · obtain ⟨u, hu, u0, u1, _⟩ := pick_ok hb (q2 + 1) 4 (by omega) (by omega) (by omega)
      have u1 := u1 (by omega)
      rw [if_pos e, Option.bind_some, hu, Option.bind_some]
      dsimp only
      rw [if_pos u0, if_pos (by simp; omega)]
      have hsz := (show ∀ s ∈ ([(⟨#[98]⟩ : ByteArray), (⟨#[99]⟩ : ByteArray), (⟨#[100]⟩ : ByteArray), (⟨#[109]⟩ : ByteArray)] : List ByteArray), s.size ≤ 10 by decide) _ (rdOf_mem (d := ByteArray.empty) u0 (by simp; omega))
      obtain ⟨k, s', v', o', q, hq, h1, h2, h3⟩ := l20Cmd_j0 hb _ hsz (q2 + 1 + 1) (by omega) (by omega)
      exact ⟨k, s', v', o', q, hq, by omega, by omega, h3⟩
    · rw [if_neg e]
      obtain ⟨k, s', v', o', q, hq, h1, h2, h3⟩ := l20Cmd_j0 hb s (by omega) (q2 + 1) (by omega) (by omega)
      exact ⟨k, s', v', o', q, hq, by omega, by omega, h3⟩

/-! #### l20Any -/
theorem l20Any_ok {b : List Int} (hb : Code b) (p n : Int) (hp : 0 ≤ p) (hp2 : p ≤ 80000000) (hn : n ≤ 1000000) : ∃ k s v o q, spec_l20Any.fL b p n = some (k, s, v, o, q) ∧ p ≤ q ∧ q ≤ p + 24 ∧ s.size ≤ 10 ∧ 0 ≤ k ∧ k ≤ 6 ∧ -10 ≤ v ∧ v ≤ 1000 ∧ -10 ≤ o ∧ o ≤ 1000 := by
  obtain ⟨k, s, v, o, q, hq, q0, q1, hs, hk⟩ := l20Cmd_ok hb p n hp (by omega) hn
  obtain ⟨c, hc, c0, c1, _⟩ := pick_ok hb q 5 (by omega) (by omega) (by omega)
  rw [spec_l20Any.fL_eq, hq, Option.bind_some]
  dsimp only
  rw [hc, Option.bind_some]
  dsimp only
  by_cases e : c = 0
  · obtain ⟨t, q2, ht, t0, t1, tl⟩ := l20Key_ok hb (q + 1) 0 (by omega) (by omega) (by omega)
    obtain ⟨u, hu, u0, u1, _⟩ := pick_ok hb q2 4 (by omega) (by omega) (by omega)
    have u1 := u1 (by omega)
    rw [if_pos e, ht, Option.bind_some]
    dsimp only
    rw [Option.bind_some, hu, Option.bind_some]
    dsimp only
    rw [if_pos u0, if_pos (by simp; omega)]
    have hm : rdOf ByteArray.empty [(⟨#[]⟩ : ByteArray), (⟨#[98]⟩ : ByteArray), (⟨#[99]⟩ : ByteArray), t] u ∈ [(⟨#[]⟩ : ByteArray), (⟨#[98]⟩ : ByteArray), (⟨#[99]⟩ : ByteArray), t] := rdOf_mem u0 (by simp; omega)
    have hsz : (rdOf ByteArray.empty [(⟨#[]⟩ : ByteArray), (⟨#[98]⟩ : ByteArray), (⟨#[99]⟩ : ByteArray), t] u).size ≤ 10 := by
      simp only [List.mem_cons, List.not_mem_nil, or_false] at hm
      rcases hm with e | e | e | e
      · rw [e]; decide
      · rw [e]; decide
      · rw [e]; decide
      · rw [e]; omega
    exact ⟨_, _, _, _, _, rfl, by omega, by omega, hsz, by omega, by omega, by omega, by omega, by omega, by omega⟩
  · rw [if_neg e]; exact ⟨_, _, _, _, _, rfl, by omega, by omega, hs, hk⟩

/-! #### l20Feed -/
theorem l20Session_ok {b : List Int} (hb : Code b) (p n : Int) (hp : 0 ≤ p) (hp2 : p ≤ 90000000) (hn : n ≤ 1000000) : ∃ c s v q, spec_l20Session.fL b p n = some (c, s, v, q) ∧ p ≤ q ∧ q ≤ p + 4 := by
  obtain ⟨o, q1, ho, o0, o1⟩ := odd_ok hb p n hp (by omega) hn
  rw [spec_l20Session.fL_eq, ho, Option.bind_some]
  dsimp only
  cases o with
  | true =>
    obtain ⟨v, hv, v0, v1, _⟩ := pick_ok hb q1 6 (by omega) (by omega) (by omega)
    have v1 := v1 (by omega)
    rw [if_pos rfl, Option.bind_some, hv, Option.bind_some]
    dsimp only
    rw [if_pos v0, if_pos (by simp; omega)]
    exact ⟨_, _, _, _, rfl, by omega, by omega⟩
  | false =>
    obtain ⟨v, hv, v0, v1, _⟩ := pick_ok hb q1 4 (by omega) (by omega) (by omega)
    obtain ⟨v2, hv2, _⟩ := pick_ok hb (q1 + 1) 6 (by omega) (by omega) (by omega)
    obtain ⟨v3, hv3, _⟩ := pick_ok hb (q1 + 1 + 1) 9 (by omega) (by omega) (by omega)
    rw [if_neg (by simp), hv, Option.bind_some]
    dsimp only
    rw [hv2, Option.bind_some]
    dsimp only
    rw [hv3, Option.bind_some]
    exact ⟨_, _, _, _, rfl, by omega, by omega⟩
theorem l20Sessions_l0 {b : List Int} (hb : Code b) (n : Int) (hn : n ≤ 1000000) : ∀ (m : Nat) (out : List S217) (i p : Int), i = m → m ≤ 100 → 0 ≤ p → p + 4 * m ≤ 80001000 → out.length + m ≤ 200 → ∃ r q, spec_l20Sessions.l0L n out i b p = some (r, q) ∧ p ≤ q ∧ q ≤ p + 4 * m + 6 ∧ r.length ≤ 400
  | 0, out, i, p, hi, hm, hp, hp2, ho => by
    obtain ⟨o, q1, ho1, o0, o1⟩ := odd_ok hb p n hp (by omega) hn
    rw [spec_l20Sessions.l0L_eq, if_neg (by omega), ho1, Option.bind_some]
    dsimp only
    cases o with
    | false => rw [if_neg (by simp)]; exact ⟨_, _, rfl, by omega, by omega, by omega⟩
    | true =>
      obtain ⟨v, hv, v0, v1, _⟩ := pick_ok hb q1 2 (by omega) (by omega) (by omega)
      obtain ⟨c, s, x, q, hq, q0, q2⟩ := l20Session_ok hb (q1 + 1) 1 (by omega) (by omega) (by omega)
      rw [if_pos rfl, hv, Option.bind_some]
      dsimp only
      split
      · rw [if_pos (by omega)]; exact ⟨_, _, rfl, by omega, by omega, by simp; omega⟩
      · rw [hq, Option.bind_some]
        dsimp only
        rw [if_pos (by omega)]
        exact ⟨_, _, rfl, by omega, by omega, by simp; omega⟩
  | m + 1, out, i, p, hi, hm, hp, hp2, ho => by
    obtain ⟨c, s, x, q, hq, q0, q2⟩ := l20Session_ok hb p 0 (by omega) (by omega) (by omega)
    obtain ⟨r1, t1, hr1, hl1⟩ := spec_SessionPut_ok out (by omega) c s x
    obtain ⟨r, q', hr, h1, h2, h3⟩ := l20Sessions_l0 hb n hn m r1 (i - 1) q (by omega) (by omega) (by omega) (by omega) (by omega)
    rw [spec_l20Sessions.l0L_eq, if_pos (by omega), hq, Option.bind_some]
    dsimp only
    rw [hr1, Option.bind_some, w64 (by omega) (by omega)]
    exact ⟨r, q', hr, by omega, by omega, h3⟩
theorem l20Sessions_ok {b : List Int} (hb : Code b) (p n : Int) (hp : 0 ≤ p) (hp2 : p ≤ 80000000) (hn : n ≤ 1000000) : ∃ r q, spec_l20Sessions.fL b p n = some (r, q) ∧ p ≤ q ∧ q ≤ p + 40 ∧ r.length ≤ 400 := by
  obtain ⟨v, hv, v0, v1, _⟩ := pick_ok hb p 5 hp (by omega) (by omega)
  have v1 := v1 (by omega)
  rw [spec_l20Sessions.fL_eq, hv, Option.bind_some]
  obtain ⟨r, q, hr, h1, h2, h3⟩ := l20Sessions_l0 hb n hn v.toNat [] v (p + 1) (by omega) (by omega) (by omega) (by omega) (by simp; omega)
  exact ⟨r, q, hr, by omega, by omega, h3⟩
theorem l20Entry_ok {b : List Int} (hb : Code b) (p n : Int) (hp : 0 ≤ p) (hp2 : p ≤ 70000000) (hn : n ≤ 1000000) : ∃ c s k key v o q, spec_l20Entry.fL b p n = some (c, s, k, key, v, o, q) ∧ p ≤ q ∧ q ≤ p + 30 := by
  obtain ⟨v, hv, v0, v1, _⟩ := pick_ok hb p 4 hp (by omega) (by omega)
  obtain ⟨v2, hv2, _⟩ := pick_ok hb (p + 1) 6 (by omega) (by omega) (by omega)
  obtain ⟨k, s, x, o, q, hq, q0, q1, _⟩ := l20Any_ok hb (p + 1 + 1) 0 (by omega) (by omega) (by omega)
  obtain ⟨d, q3, hd, d0, d1⟩ := odd_ok hb q n (by omega) (by omega) hn
  rw [spec_l20Entry.fL_eq, hv, Option.bind_some]
  dsimp only
  rw [hv2, Option.bind_some]
  dsimp only
  rw [hq, Option.bind_some]
  dsimp only
  rw [hd, Option.bind_some]
  dsimp only
  cases d with
  | false => rw [if_neg (by simp)]; exact ⟨_, _, _, _, _, _, _, rfl, by omega, by omega⟩
  | true =>
    obtain ⟨w, hw, w0, w1, _⟩ := pick_ok hb q3 6 (by omega) (by omega) (by omega)
    have w1 := w1 (by omega)
    rw [if_pos rfl, Option.bind_some, hw, Option.bind_some]
    dsimp only
    rw [if_pos w0, if_pos (by simp; omega)]
    exact ⟨_, _, _, _, _, _, _, rfl, by omega, by omega⟩
theorem l20Log_l1 {b : List Int} (hb : Code b) : ∀ (m : Nat) (out : List S118) (p : Int), out.length + m = 25 → 0 ≤ p → p + 30 * m ≤ 60001000 → ∃ r q, spec_l20Log.l1L out b p = some (r, q) ∧ p ≤ q ∧ q ≤ p + 30 * m ∧ r.length ≤ 200
  | 0, out, p, hm, hp, hp2 => by
    rw [spec_l20Log.l1L_eq, if_neg (by omega)]; exact ⟨_, _, rfl, by omega, by omega, by omega⟩
  | m + 1, out, p, hm, hp, hp2 => by
    obtain ⟨c, s, k, key, v, o, q, hq, q0, q1⟩ := l20Entry_ok hb p 0 hp (by omega) (by omega)
    obtain ⟨r, q', hr, h1, h2, h3⟩ := l20Log_l1 hb m (out ++ [(⟨c, s, ⟨k, key, v, o⟩⟩ : S118)]) q (by simp; omega) (by omega) (by omega)
    rw [spec_l20Log.l1L_eq, if_pos (by omega), hq, Option.bind_some]
    dsimp only
    rw [if_pos (by omega)]
    exact ⟨r, q', hr, by omega, by omega, h3⟩
theorem l20Log_l0 {b : List Int} (hb : Code b) (n : Int) (hn : n ≤ 1000000) : ∀ (m : Nat) (out : List S118) (i p : Int), i = m → m ≤ 100 → out.length + m ≤ 20 → 0 ≤ p → p + 60 * m ≤ 50001000 → ∃ r q, spec_l20Log.l0L n out i b p = some (r, q) ∧ p ≤ q ∧ q ≤ p + 60 * m + 1000 ∧ r.length ≤ 200
  | 0, out, i, p, hi, hm, ho, hp, hp2 => by
    obtain ⟨o, q1, ho1, o0, o1⟩ := odd_ok hb p n hp (by omega) hn
    rw [spec_l20Log.l0L_eq, if_neg (by omega), ho1, Option.bind_some]
    dsimp only
    cases o with
    | false => rw [if_neg (by simp)]; exact ⟨_, _, rfl, by omega, by omega, by omega⟩
    | true =>
      obtain ⟨v, hv, v0, v1, _⟩ := pick_ok hb q1 2 (by omega) (by omega) (by omega)
      rw [if_pos rfl, hv, Option.bind_some]
      dsimp only
      split
      · obtain ⟨c, s, k, key, x, o, q, hq, q0, q2⟩ := l20Entry_ok hb (q1 + 1) 1 (by omega) (by omega) (by omega)
        rw [hq, Option.bind_some]
        dsimp only
        rw [if_pos (by omega)]
        exact ⟨_, _, rfl, by omega, by omega, by simp; omega⟩
      · obtain ⟨r, q, hr, h1, h2, h3⟩ := l20Log_l1 hb (25 - out.length) out (q1 + 1) (by omega) (by omega) (by omega)
        exact ⟨r, q, hr, by omega, by omega, h3⟩
  | m + 1, out, i, p, hi, hm, ho, hp, hp2 => by
    have st : ∀ (x : S118) (q : Int), p ≤ q → q ≤ p + 60 → ∃ r q', spec_l20Log.l0L n (out ++ [x]) (wrap64 (i - 1)) b q = some (r, q') ∧ p ≤ q' ∧ q' ≤ p + 60 * ((m + 1 : Nat) : Int) + 1000 ∧ r.length ≤ 200 := by
      intro x q h0 h1
      obtain ⟨r, q', hr, k1, k2, k3⟩ := l20Log_l0 hb n hn m (out ++ [x]) (i - 1) q (by omega) (by omega) (by simp; omega) (by omega) (by omega)
      rw [w64 (by omega) (by omega)]
      exact ⟨r, q', hr, by omega, by omega, k3⟩
    have j2 : ∀ (q g c : Int) (k : Int) (key : ByteArray) (v o : Int), p ≤ q → q ≤ p + 50 → ∃ r q', spec_l20Log.j2L n out i b q g c k key v o = some (r, q') ∧ p ≤ q' ∧ q' ≤ p + 60 * ((m + 1 : Nat) : Int) + 1000 ∧ r.length ≤ 200 := by
      intro q g c k key v o h0 h1
      obtain ⟨a, ha, _⟩ := pick_ok hb q 8 (by omega) (by omega) (by omega)
      obtain ⟨a2, ha2, _⟩ := pick_ok hb (q + 1) 6 (by omega) (by omega) (by omega)
      obtain ⟨a3, ha3, a30, a31, _⟩ := pick_ok hb (q + 1 + 1) out.length (by omega) (by omega) (by omega)
      rw [spec_l20Log.j2L_eq, ha, Option.bind_some]
      dsimp only
      split
      · have a31 := a31 (by omega)
        rw [ha2, Option.bind_some]
        dsimp only
        split
        · rw [ha3, Option.bind_some]
          dsimp only
          rw [if_pos a30, if_pos a31, if_pos (by omega)]
          exact st _ _ (by omega) (by omega)
        · rw [if_pos (by omega)]
          exact st _ _ (by omega) (by omega)
      · rw [if_pos (by omega)]
        exact st _ _ (by omega) (by omega)
    have j1 : ∀ (d : Bool) (q g c : Int) (k : Int) (key : ByteArray) (v o : Int), p ≤ q → q ≤ p + 32 → ∃ r q', spec_l20Log.j1L n out i d b q g c k key v o = some (r, q') ∧ p ≤ q' ∧ q' ≤ p + 60 * ((m + 1 : Nat) : Int) + 1000 ∧ r.length ≤ 200 := by
      intro d q g c k key v o h0 h1
      rw [spec_l20Log.j1L_eq]
      split
      · obtain ⟨k', s', v', o', q', hq, q0, q1, _⟩ := l20Cmd_ok hb q 0 (by omega) (by omega) (by omega)
        rw [hq, Option.bind_some]
        dsimp only
        exact j2 _ _ _ _ _ _ _ (by omega) (by omega)
      · exact j2 _ _ _ _ _ _ _ (by omega) (by omega)
    obtain ⟨c, s, k, key, v, o, q, hq, q0, q1⟩ := l20Entry_ok hb p 0 hp (by omega) (by omega)
    obtain ⟨a, ha, _⟩ := pick_ok hb q 3 (by omega) (by omega) (by omega)
    rw [spec_l20Log.l0L_eq, if_pos (by omega), hq, Option.bind_some]
    dsimp only
    split
    · rw [ha, Option.bind_some]
      exact j1 _ _ _ _ _ _ _ _ (by omega) (by omega)
    · exact j1 _ _ _ _ _ _ _ _ (by omega) (by omega)
theorem l20Log_ok {b : List Int} (hb : Code b) (p n : Int) (hp : 0 ≤ p) (hp2 : p ≤ 40000000) (hn : n ≤ 1000000) : ∃ r q, spec_l20Log.fL b p n = some (r, q) ∧ p ≤ q ∧ q ≤ p + 2000 ∧ r.length ≤ 200 := by
  obtain ⟨v, hv, v0, v1, _⟩ := pick_ok hb p 9 hp (by omega) (by omega)
  have v1 := v1 (by omega)
  rw [spec_l20Log.fL_eq, hv, Option.bind_some]
  obtain ⟨r, q, hr, h1, h2, h3⟩ := l20Log_l0 hb n hn v.toNat [] v (p + 1) (by omega) (by omega) (by simp; omega) (by omega) (by omega)
  exact ⟨r, q, hr, by omega, by omega, h3⟩
theorem l20Feed_ok {b : List Int} (hb : Code b) (p n : Int) (hp : 0 ≤ p) (hp2 : p ≤ 30000000) (hn : n ≤ 1000000) : ∃ xs cs q, spec_l20Feed.fL b p n = some (xs, cs, q) ∧ p ≤ q ∧ q ≤ p + 5000 ∧ cs.length ≤ 400 ∧ xs.length ≤ 49 := by
  obtain ⟨xs, q1, h1, a1, b1, c1⟩ := l20Pairs_ok hb p 0 hp (by omega) (by omega)
  obtain ⟨ys, q2, h2, a2, b2, c2⟩ := l20Sessions_ok hb q1 0 (by omega) (by omega) (by omega)
  obtain ⟨es, q3, h3, a3, b3, c3⟩ := l20Log_ok hb q2 0 (by omega) (by omega) (by omega)
  obtain ⟨t, ht, tl⟩ := spec_ChangesOf_ok (⟨#[]⟩ : ByteArray) (⟨#[]⟩ : ByteArray) xs ys false (⟨#[]⟩ : ByteArray) es (by omega) (by omega) (by omega)
  obtain ⟨d, q4, h4, a4, b4⟩ := odd_ok hb q3 n (by omega) (by omega) hn
  rw [spec_l20Feed.fL_eq, h1, Option.bind_some]
  dsimp only
  rw [h2, Option.bind_some]
  dsimp only
  rw [h3, Option.bind_some]
  dsimp only
  rw [ht, Option.bind_some, h4, Option.bind_some]
  dsimp only
  cases d with
  | false => rw [if_neg (by simp)]; exact ⟨_, _, _, rfl, by omega, by omega, by omega, by omega⟩
  | true =>
    obtain ⟨v, hv, _⟩ := pick_ok hb q4 4 (by omega) (by omega) (by omega)
    rw [if_pos rfl, hv, Option.bind_some]
    dsimp only
    split
    · obtain ⟨w, hw, w0, w1, _⟩ := pick_ok hb (q4 + 1) 5 (by omega) (by omega) (by omega)
      have w1 := w1 (by omega)
      rw [Option.bind_some, hw, Option.bind_some]
      dsimp only
      rw [if_pos w0, if_pos (by simp; omega), if_pos (by omega)]
      exact ⟨_, _, _, rfl, by omega, by omega, by simp; omega, by omega⟩
    · split
      · rw [if_pos (by omega)]
        exact ⟨_, _, _, rfl, by omega, by omega, by simp; omega, by omega⟩
      · split
        · obtain ⟨xs', q5, h5, a5, b5, c5⟩ := l20Pairs_ok hb (q4 + 1) 2 (by omega) (by omega) (by omega)
          rw [h5, Option.bind_some]
          exact ⟨_, _, _, rfl, by omega, by omega, by omega, by omega⟩
        · rw [if_pos (by omega)]
          exact ⟨_, _, _, rfl, by omega, by omega, by simp; omega, by omega⟩

/-! #### FeedValid -/
theorem some_false {b : Bool} (h : b = true → False) : some false = some b := by
  cases b with
  | false => rfl
  | true => exact (h rfl).elim
theorem getD_at {α : Type} {xs : List α} {d : α} {i : Int} {y : α} {ys : List α} (h0 : 0 ≤ i) (h : xs.drop i.toNat = y :: ys) : xs.getD i.toNat d = y ∧ i < xs.length ∧ xs.drop (i + 1).toNat = ys := by
  have h1 : i.toNat < xs.length := by
    by_cases e : i.toNat < xs.length
    · exact e
    · rw [List.drop_eq_nil_of_le (by omega)] at h; cases h
  rw [List.drop_eq_getElem_cons h1] at h
  injection h with ha hb
  refine ⟨?_, by omega, ?_⟩
  · rw [List.getD_eq_getElem?_getD, List.getElem?_eq_getElem h1]; exact ha
  · rw [show (i + 1).toNat = i.toNat + 1 by omega]; exact hb
/-- A change alone is valid. -/
def feedItem (y : S106) : Bool := decide (0 ≤ y.f0 ∧ y.f0 ≤ 23 ∧ -1 ≤ y.f2 ∧ y.f2 ≤ 999 ∧ -1 ≤ y.f3 ∧ y.f3 ≤ 999 ∧ ¬ y.f2 = y.f3) && keyOk (bs y.f1)
/-- Changes are valid, and ascend from an index on. -/
def feedFrom : Int → List S106 → Bool
  | _, [] => true
  | p, y :: ys => feedItem y && decide (p < y.f0) && feedFrom y.f0 ys
def feedOk (l : List S106) : Bool := decide (l.length ≤ 24) && feedFrom (-1) l
theorem impl_FeedValid_l0 (xs : List S106) (hx : xs.length ≤ 24) : ∀ (ys : List S106) (i p : Int), 0 ≤ i → i ≤ xs.length → xs.drop i.toNat = ys → (i = 0 → p = -1) → (0 < i → p = (rd_T106 xs (i - 1)).f0) → impl_FeedValid.l0L xs xs (xs.length : Int) i = some (feedFrom p ys)
  | [], i, p, h0, h1, hd, hp0, hp1 => by
    have := drop_nil h0 h1 hd
    rw [impl_FeedValid.l0L_eq, if_neg (by omega)]; rfl
  | y :: ys, i, p, h0, h1, hd, hp0, hp1 => by
    obtain ⟨hr0, hl, hd'⟩ := getD_at (d := z106) h0 hd
    have hr : rd_T106 xs i = y := hr0
    have hnext : feedItem y = true → impl_FeedValid.l0L xs xs (xs.length : Int) (i + 1) = some (feedFrom y.f0 ys) := fun _ =>
      impl_FeedValid_l0 xs hx ys (i + 1) y.f0 (by omega) (by omega) hd' (fun h => by omega) (fun _ => by rw [show i + 1 - 1 = i by omega, hr])
    rw [impl_FeedValid.l0L_eq, if_pos hl, if_pos h0, if_pos hl, hr, impl_KeyValid_f, Option.bind_some]
    simp only [impl_FeedValid.j1L_eq, impl_FeedValid.j2L_eq, impl_valueValid_f, Option.bind_some, if_true, w64 (n := i - 1) (by omega) (by omega), w64 (n := i + 1) (by omega) (by omega)]
    by_cases c1 : y.f0 < 0
    · rw [if_pos c1]; exact some_false (fun e => by simp only [feedFrom, feedItem, Bool.and_eq_true, decide_eq_true_eq] at e; omega)
    · rw [if_neg c1]
      by_cases c2 : y.f0 ≥ 24
      · rw [if_pos c2]; exact some_false (fun e => by simp only [feedFrom, feedItem, Bool.and_eq_true, decide_eq_true_eq] at e; omega)
      · rw [if_neg c2]
        by_cases c3 : keyOk (bs y.f1) = true
        · rw [if_pos c3]
          by_cases c4 : y.f2 = y.f3
          · rw [if_pos (by simpa using c4)]; exact some_false (fun e => by simp only [feedFrom, feedItem, Bool.and_eq_true, decide_eq_true_eq] at e; omega)
          · rw [if_neg (by simpa using c4)]
            have last : ∀ b : Bool, (feedItem y = true ↔ b = false) → (if b = true then some false else if i > 0 then (if 0 ≤ i - 1 then (if i - 1 < (xs.length : Int) then (if (rd_T106 xs (i - 1)).f0 ≥ y.f0 then some false else impl_FeedValid.l0L xs xs (xs.length : Int) (i + 1)) else none) else none) else impl_FeedValid.l0L xs xs (xs.length : Int) (i + 1)) = some (feedFrom p (y :: ys)) := by
              intro b hb
              simp only [feedFrom]
              cases b with
              | true =>
                rw [if_pos rfl]
                have : feedItem y = false := by
                  cases hf : feedItem y with
                  | false => rfl
                  | true => have := hb.1 hf; cases this
                rw [this]; rfl
              | false =>
                have hi := hb.2 rfl
                rw [if_neg (by simp), hi]
                by_cases c5 : i > 0
                · rw [if_pos c5, if_pos (by omega), if_pos (by omega), ← hp1 c5]
                  by_cases c6 : p ≥ y.f0
                  · rw [if_pos c6, decide_eq_false (by omega)]; rfl
                  · rw [if_neg c6, decide_eq_true (by omega), hnext hi]; rfl
                · have := hp0 (by omega)
                  rw [if_neg c5, decide_eq_true (by omega), hnext hi]; rfl
            have hitem : feedItem y = true ↔ (-1 ≤ y.f2 ∧ y.f2 ≤ 999 ∧ -1 ≤ y.f3 ∧ y.f3 ≤ 999) := by
              simp only [feedItem, Bool.and_eq_true, decide_eq_true_eq]
              constructor
              · rintro ⟨h, _⟩; omega
              · intro h; exact ⟨by omega, c3⟩
            by_cases d1 : y.f2 = -1
            · rw [if_pos d1]
              by_cases d2 : y.f3 = -1
              · omega
              · rw [if_neg d2]
                exact last _ (by rw [hitem]; simp; omega)
            · rw [if_neg d1]
              by_cases d3 : 0 ≤ y.f2 ∧ y.f2 ≤ 999
              · rw [if_pos (by simpa using d3)]
                by_cases d2 : y.f3 = -1
                · rw [if_pos d2]
                  exact last false (by rw [hitem]; simp; omega)
                · rw [if_neg d2]
                  exact last _ (by rw [hitem]; simp; omega)
              · rw [if_neg (by simpa using d3)]
                exact some_false (fun e => by simp only [feedFrom, feedItem, Bool.and_eq_true, decide_eq_true_eq] at e; omega)
        · rw [if_neg c3]; exact some_false (fun e => by simp only [feedFrom, feedItem, Bool.and_eq_true, decide_eq_true_eq] at e; exact c3 e.1.1.2)
theorem impl_FeedValid_f (xs : List S106) : impl_FeedValid.fL xs = some (feedOk xs) := by
  rw [impl_FeedValid.fL_eq]
  unfold feedOk
  by_cases h : (xs.length : Int) > 24
  · rw [if_pos h, decide_eq_false (by omega)]; rfl
  · rw [if_neg h, decide_eq_true (by omega), impl_FeedValid_l0 xs (by omega) xs 0 (-1) (by omega) (by omega) (by simp) (fun _ => rfl) (fun h => by omega)]; rfl

/-! #### feedlen -/
theorem eta_change (y : S106) : (⟨y.f0, y.f1, y.f2, y.f3⟩ : S106) = y := rfl
theorem feedOk_len {l : List S106} (h : feedOk l = true) : l.length ≤ 24 := by
  simp only [feedOk, Bool.and_eq_true, decide_eq_true_eq] at h; exact h.1

/-! #### ApplyFeed -/
/-- The pairs after changes; nothing if one does not fit. -/
def applyFrom : List S181 → List S106 → List S181 × Bool
  | l, [] => (l, true)
  | l, c :: cs => if pairGet l c.f1 = c.f2 then (if (if c.f3 = -1 then pairDrop l c.f1 else pairPut l c.f1 c.f3).2 = true then applyFrom (if c.f3 = -1 then pairDrop l c.f1 else pairPut l c.f1 c.f3).1 cs else ([], false)) else ([], false)
def applyFeed (l : List S181) (cs : List S106) : List S181 × Bool := if pairsOk l = true ∧ feedOk cs = true then applyFrom l cs else ([], false)
theorem applyFrom_length : ∀ (cs : List S106) (l : List S181), l.length ≤ 48 → (applyFrom l cs).1.length ≤ 48
  | [], l, h => h
  | c :: cs, l, h => by
    have hr : (if c.f3 = -1 then pairDrop l c.f1 else pairPut l c.f1 c.f3).1.length ≤ 48 := by
      by_cases e : c.f3 = -1
      · rw [if_pos e]; exact pairDrop_length _ _
      · rw [if_neg e]; exact pairPut_length _ _ _
    simp only [applyFrom]
    generalize (if c.f3 = -1 then pairDrop l c.f1 else pairPut l c.f1 c.f3) = r at hr
    by_cases e1 : pairGet l c.f1 = c.f2
    · rw [if_pos e1]
      by_cases e2 : r.2 = true
      · rw [if_pos e2]; exact applyFrom_length cs r.1 hr
      · rw [if_neg e2]; simp
    · rw [if_neg e1]; simp
theorem applyFeed_length (l : List S181) (cs : List S106) : (applyFeed l cs).1.length ≤ 48 := by
  unfold applyFeed
  split
  · rename_i h; exact applyFrom_length cs l (pairsOk_le h.1)
  · simp

/-! #### bless -/
theorem bless_irrefl : ∀ x : List UInt8, Op.bytesLess x x = false
  | [] => by simp [Op.bytesLess]
  | a :: x => by simp [Op.bytesLess, bless_irrefl x, UInt8.lt_irrefl]
theorem bless_total : ∀ x y : List UInt8, Op.bytesLess x y = false → Op.bytesLess y x = false → x = y
  | [], [], _, _ => rfl
  | [], b :: y, h, _ => by simp [Op.bytesLess] at h
  | a :: x, [], _, h => by simp [Op.bytesLess] at h
  | a :: x, b :: y, h, h2 => by
    simp only [Op.bytesLess, Bool.or_eq_false_iff, decide_eq_false_iff_not, Bool.and_eq_false_iff] at h h2
    have e : a = b := by
      apply UInt8.toNat_inj.1
      have h1 : ¬ a.toNat < b.toNat := fun c => h.1 (UInt8.lt_iff_toNat_lt.2 c)
      have h3 : ¬ b.toNat < a.toNat := fun c => h2.1 (UInt8.lt_iff_toNat_lt.2 c)
      omega
    subst e
    have hx : Op.bytesLess x y = false := by rcases h.2 with h | h; · simp at h
                                             · exact h
    have hy : Op.bytesLess y x = false := by rcases h2.2 with h | h; · simp at h
                                             · exact h
    rw [bless_total x y hx hy]
theorem bless_trans : ∀ x y z : List UInt8, Op.bytesLess x y = true → Op.bytesLess y z = true → Op.bytesLess x z = true
  | [], _, [], h, h2 => by cases h2' : Op.bytesLess ([] : List UInt8) [] <;> simp_all [Op.bytesLess]
  | [], _, c :: z, _, _ => by simp [Op.bytesLess]
  | a :: x, [], _, h, _ => by simp [Op.bytesLess] at h
  | a :: x, b :: y, [], _, h => by simp [Op.bytesLess] at h
  | a :: x, b :: y, c :: z, h, h2 => by
    simp only [Op.bytesLess, Bool.or_eq_true, decide_eq_true_eq, Bool.and_eq_true, beq_iff_eq] at h h2 ⊢
    simp only [UInt8.lt_iff_toNat_lt] at h h2 ⊢
    rcases h with h | ⟨e, h⟩
    · rcases h2 with h2 | ⟨e2, h2⟩
      · left; omega
      · left; subst e2; exact h
    · rcases h2 with h2 | ⟨e2, h2⟩
      · left; subst e; exact h2
      · right; exact ⟨e.trans e2, bless_trans x y z h h2⟩

/-! #### impl_pairmap -/
theorem cmp_Compare_f (a b : ByteArray) : cmp_Compare_string.f a b = some (if klt a b = true then -1 else if klt b a = true then 1 else 0) := by
  have h : ∀ s : ByteArray, cmp_isNaN_string.f s = some false := fun s => by unfold cmp_isNaN_string.f; simp
  unfold cmp_Compare_string.f klt
  rw [h, h]
  simp only [Option.bind_some, Bool.false_eq_true, if_false]
  split
  · rfl
  · split <;> rfl
theorem impl_pairPlace1_f (a : ByteArray) (v : Int) (b : ByteArray) : impl_pairPlace_1.f a v b = some (if klt a b = true then -1 else if klt b a = true then 1 else 0) := by
  unfold impl_pairPlace_1.f
  rw [cmp_Compare_f]; rfl
theorem klt_trans {a b c : ByteArray} (h : klt a b = true) (h2 : klt b c = true) : klt a c = true := bless_trans _ _ _ h h2
theorem klt_irrefl (a : ByteArray) : klt a a = false := bless_irrefl _
theorem klt_total {a b : ByteArray} (h : klt a b = false) (h2 : klt b a = false) : a = b := toList_eq.1 (bless_total _ _ h h2)
/-- All keys of a list that ascend from p on are greater than p's. -/
theorem pairsFrom_all : ∀ (l : List S181) (p : ByteArray), pairsFrom (some p) l = true → ∀ y ∈ l, klt p y.f0 = true
  | [], p, _, y, hy => by cases hy
  | x :: xs, p, h, y, hy => by
    simp only [pairsFrom, Bool.and_eq_true] at h
    have hx : klt p x.f0 = true := h.1.2
    rcases List.mem_cons.1 hy with rfl | hy
    · exact hx
    · exact klt_trans hx (pairsFrom_all xs x.f0 h.2 y hy)
/-- In a list that ascends: before the place keys are less, behind it they are not. -/
theorem place_split (k : ByteArray) : ∀ (l : List S181) (p : Option ByteArray), pairsFrom p l = true → ∀ (i : Nat) (h : i < l.length), klt (l[i]).f0 k = decide (i < place k l)
  | [], p, _, i, h => by simp at h
  | x :: xs, p, hp, i, h => by
    simp only [pairsFrom, Bool.and_eq_true] at hp
    have ha := pairsFrom_all xs x.f0 hp.2
    by_cases e : klt x.f0 k = true
    · simp only [place, if_pos e]
      cases i with
      | zero => simpa using e
      | succ i =>
        have := place_split k xs _ hp.2 i (by simpa using h)
        simp only [List.getElem_cons_succ, this, decide_eq_decide]
        omega
    · simp only [place, if_neg e]
      cases i with
      | zero => simpa using e
      | succ i =>
        simp only [List.getElem_cons_succ, Nat.not_lt_zero, decide_false]
        cases hb : klt (xs[i]'(by simpa using h)).f0 k with
        | false => rfl
        | true => exact absurd (klt_trans (ha _ (List.getElem_mem _)) hb) e
theorem rd_getElem (l : List S181) (i : Int) (h : i.toNat < l.length) : rd_T181 l i = l[i.toNat] := by
  unfold rd_T181
  rw [List.getD_eq_getElem?_getD, List.getElem?_eq_getElem h]; rfl
theorem half_ (a b : Int) (ha : 0 ≤ a) (hb : 0 ≤ b) (ha2 : a ≤ 1000000) (hb2 : b ≤ 1000000) : wrap64 (IntKind.u64.wrap (wrap64 (a + b)) / 2) = (a + b) / 2 := by
  have e : IntKind.u64.wrap (a + b) = a + b := by
    simp only [IntKind.wrap, IntKind.signed, IntKind.bits, Bool.false_and, Bool.false_eq_true, if_false]
    omega
  rw [w64 (n := a + b) (by omega) (by omega), e, w64 (by omega) (by omega)]
theorem impl_search_l0 (xs : List S181) (k : ByteArray) (hok : pairsOk xs = true) : ∀ (n : Nat) (i j : Int), j - i ≤ n → 0 ≤ i → i ≤ (place k xs : Int) → (place k xs : Int) ≤ j → j ≤ xs.length →
    impl_Pair_string.l0L xs k (xs.length : Int) i j = some ((place k xs : Int), hit k xs)
  | n, i, j, hn, h0, hi, hj, hl => by
    have h48 := pairsOk_le hok
    have hp := place_le k xs
    rw [impl_Pair_string.l0L_eq]
    by_cases e : i < j
    · match n with
      | 0 => omega
      | n + 1 =>
        have hr := rd_getElem xs ((i + j) / 2) (by omega)
        have hs := place_split k xs none (by simp only [pairsOk, Bool.and_eq_true, decide_eq_true_eq] at hok; exact hok.2) ((i + j) / 2).toNat (by omega)
        rw [if_pos e, half_ i j (by omega) (by omega) (by omega) (by omega), if_pos (by omega), if_pos (by omega), impl_pairPlace1_f, Option.bind_some, hr, hs]
        by_cases c : ((i + j) / 2).toNat < place k xs
        · rw [decide_eq_true c, if_pos rfl, if_pos (by omega), w64 (by omega) (by omega)]
          exact impl_search_l0 xs k hok n _ j (by omega) (by omega) (by omega) hj hl
        · rw [decide_eq_false c, if_neg (show ¬ (false = true) by simp)]
          have c2 : ¬ (if klt k (xs[((i + j) / 2).toNat]'(by omega)).f0 = true then (1 : Int) else 0) < 0 := by split <;> omega
          rw [if_neg c2]
          exact impl_search_l0 xs k hok n i _ (by omega) h0 hi (by omega) (by omega)
    · have hij : i = (place k xs : Int) := by omega
      rw [if_neg e, hij]
      by_cases c : (place k xs : Int) < (xs.length : Int)
      · have hr := rd_getElem xs (place k xs : Int) (by omega)
        have hs := place_split k xs none (by simp only [pairsOk, Bool.and_eq_true, decide_eq_true_eq] at hok; exact hok.2) (place k xs) (by omega)
        rw [if_pos c, if_pos (by omega), if_pos c, impl_pairPlace1_f, Option.bind_some]
        have hrd : rd_T181 xs (place k xs : Int) = xs[place k xs]'(by omega) := by rw [hr]; rfl
        rw [hrd, hs, decide_eq_false (by omega), if_neg (show ¬ (false = true) by simp)]
        have : hit k xs = ((if klt k (xs[place k xs]'(by omega)).f0 = true then (1 : Int) else 0) == 0) := by
          unfold hit
          rw [hrd]
          cases hb : klt k (xs[place k xs]'(by omega)).f0 with
          | true =>
            rw [if_pos rfl, decide_eq_false]
            · rfl
            · rintro ⟨_, he⟩; rw [he, klt_irrefl] at hb; cases hb
          | false =>
            rw [if_neg (by simp), decide_eq_true ⟨by omega, klt_total (by rw [hs]; simp) hb⟩]; rfl
        rw [this]
      · rw [if_neg c]
        have : hit k xs = false := by unfold hit; rw [decide_eq_false (fun h => c (by omega))]
        rw [this]
theorem impl_pairPlace_f (xs : List S181) (k : ByteArray) (hok : pairsOk xs = true) : impl_pairPlace.fL xs k = some ((place k xs : Int), hit k xs) := by
  have hp := place_le k xs
  rw [impl_pairPlace.fL_eq, impl_Pair_string.fL_eq, impl_search_l0 xs k hok xs.length 0 (xs.length : Int) (by omega) (by omega) (by omega) (by omega) (by omega), Option.bind_some]

/-! #### impl_PairsValid -/
theorem impl_PairsValid_l0 (xs : List S181) (hx : xs.length ≤ 48) : ∀ (ys : List S181) (i : Int) (p : Option ByteArray), 0 ≤ i → i ≤ xs.length → xs.drop i.toNat = ys → (i = 0 → p = none) → (0 < i → p = some (rd_T181 xs (i - 1)).f0) → impl_PairsValid.l0L xs xs (xs.length : Int) i = some (pairsFrom p ys)
  | [], i, p, h0, h1, hd, hp0, hp1 => by
    have := drop_nil h0 h1 hd
    rw [impl_PairsValid.l0L_eq, if_neg (by omega)]; rfl
  | y :: ys, i, p, h0, h1, hd, hp0, hp1 => by
    obtain ⟨hr0, hl, hd'⟩ := getD_cons (d := z181) h0 hd
    have hr : rd_T181 xs i = y := hr0
    have hnext := impl_PairsValid_l0 xs hx ys (i + 1) (some y.f0) (by omega) (by omega) hd' (fun h => by omega) (fun _ => by rw [show i + 1 - 1 = i by omega, hr])
    rw [impl_PairsValid.l0L_eq, if_pos hl, if_pos h0, if_pos hl, hr, impl_KeyValid_f, Option.bind_some, impl_valueValid_f, Option.bind_some]
    simp only [impl_PairsValid.j1L_eq, w64 (n := i - 1) (by omega) (by omega), w64 (n := i + 1) (by omega) (by omega), if_true, pairsFrom, pairItem]
    cases hk : keyOk (bs y.f0) with
    | false => simp
    | true =>
      by_cases hv : 0 ≤ y.f1 ∧ y.f1 ≤ 999
      · rw [decide_eq_true hv]
        by_cases hi : i > 0
        · rw [if_pos rfl, if_neg (by simp), if_pos hi, if_pos (by omega), if_pos (by omega), hp1 hi, hnext]
          simp only [above, klt]
          cases Op.bytesLess (rd_T181 xs (i - 1)).f0.toList y.f0.toList <;> simp
        · rw [if_pos rfl, if_neg (by simp), if_neg hi, hp0 (by omega), hnext]
          simp [above]
      · rw [decide_eq_false hv]; simp
theorem impl_PairsValid_f (xs : List S181) : impl_PairsValid.fL xs = some (pairsOk xs) := by
  rw [impl_PairsValid.fL_eq]
  unfold pairsOk
  by_cases h : (xs.length : Int) > 48
  · rw [if_pos h, decide_eq_false (by omega)]; rfl
  · rw [if_neg h, decide_eq_true (by omega), impl_PairsValid_l0 xs (by omega) xs 0 none (by omega) (by omega) (by simp) (fun _ => rfl) (fun h => by omega)]; rfl

/-! #### impl_PairGet -/
theorem impl_PairGet_f (xs : List S181) (k : ByteArray) : impl_PairGet.fL xs k = some (pairGet xs k) := by
  rw [impl_PairGet.fL_eq, impl_PairsValid_f, Option.bind_some]
  unfold pairGet
  by_cases h1 : pairsOk xs = true
  · rw [if_pos h1, if_pos h1, impl_pairPlace_f xs k h1, Option.bind_some]
    dsimp only
    by_cases h : hit k xs = true
    · have := hit_lt h
      rw [if_pos h, if_pos (by omega), if_pos (by omega), if_pos h]
    · rw [if_neg h, if_neg h]
  · rw [if_neg h1, if_neg h1]

/-! #### impl_copyPairs -/
theorem impl_copyOf_f (xs : List S181) (hx : xs.length ≤ 1000000000000) : impl_Pair_126.f xs = some xs := by
  unfold impl_Pair_126.f
  rw [if_pos (by simp; omega)]; simp

/-! #### impl_replacedPairs -/
theorem impl_replaced_f (xs ys : List S181) (i m : Nat) (hi : i + m ≤ xs.length) (hx : xs.length ≤ 1000000) (hy : ys.length ≤ 1000000) : impl_Pair_192.f xs (i : Int) (m : Int) ys = some (xs.take i ++ ys ++ xs.drop (i + m)) := by
  unfold impl_Pair_192.f
  have e1 : (([] : List S181) ++ xs.take i).length ≤ 1000000 := by simp; omega
  have e2 : (([] : List S181) ++ xs.take i ++ ys).length ≤ 2000000 := by simp; omega
  rw [w64 (n := (xs.length : Int) - m) (by omega) (by omega), w64 (n := (xs.length : Int) - m + ys.length) (by omega) (by omega), w64 (n := (i : Int) + m) (by omega) (by omega), if_pos (by omega), if_pos (by omega), Option.bind_some, if_pos (by omega), if_pos (by omega), Option.bind_some,
    Int.toNat_natCast, if_pos (by simp; omega), Option.bind_some, if_pos (by omega), Option.bind_some, if_pos (by omega), if_pos (by omega), Option.bind_some, if_pos (by simp; omega), show ((i : Int) + m).toNat = i + m by omega, List.nil_append]

/-! #### impl_PairPut -/
theorem impl_PairPut_f (xs : List S181) (k : ByteArray) (v : Int) : impl_PairPut.fL xs k v = some (pairPut xs k v) := by
  have hj : impl_PairPut.j0L xs k v true = some ([], false) := by rw [impl_PairPut.j0L_eq, if_pos rfl]
  rw [impl_PairPut.fL_eq, impl_PairsValid_f, Option.bind_some]
  unfold pairPut
  by_cases h1 : pairsOk xs = true
  · have h48 := pairsOk_le h1
    have hp := place_le k xs
    rw [if_pos h1, impl_KeyValid_f, Option.bind_some]
    by_cases h2 : keyOk (bs k) = true
    · rw [if_pos h2, impl_valueValid_f, Option.bind_some]
      by_cases h3 : 0 ≤ v ∧ v ≤ 999
      · rw [if_pos ⟨h1, h2, h3⟩, decide_eq_true h3, Bool.not_true, impl_PairPut.j0L_eq, if_neg (by simp), impl_pairPlace_f xs k h1, Option.bind_some]
        dsimp only
        by_cases h : hit k xs = true
        · have := hit_lt h
          have hr := impl_replaced_f xs [⟨k, v⟩] (place k xs) 1 (by omega) (by omega) (by simp)
          rw [if_pos h, if_pos h, show (1 : Int) = ((1 : Nat) : Int) from rfl, hr, Option.bind_some]; simp
        · rw [if_neg h, if_neg h]
          by_cases h4 : 48 ≤ xs.length
          · rw [if_pos (by omega), if_pos h4, impl_copyOf_f xs (by omega), Option.bind_some]
          · have hr := impl_replaced_f xs [⟨k, v⟩] (place k xs) 0 (by omega) (by omega) (by simp)
            rw [if_neg (by omega), if_neg h4, show (0 : Int) = ((0 : Nat) : Int) from rfl, hr, Option.bind_some]; simp
      · rw [decide_eq_false h3, Bool.not_false, hj, if_neg (fun h => h3 h.2.2)]
    · rw [if_neg h2, hj, if_neg (fun h => h2 h.2.1)]
  · rw [if_neg h1, hj, if_neg (fun h => h1 h.1)]

/-! #### impl_PairDrop -/
theorem impl_PairDrop_f (xs : List S181) (k : ByteArray) : impl_PairDrop.fL xs k = some (pairDrop xs k) := by
  rw [impl_PairDrop.fL_eq, impl_PairsValid_f, Option.bind_some]
  unfold pairDrop
  by_cases h1 : pairsOk xs = true
  · have h48 := pairsOk_le h1
    rw [if_pos h1, if_pos h1, impl_pairPlace_f xs k h1, Option.bind_some]
    dsimp only
    by_cases h : hit k xs = true
    · have := hit_lt h
      have hr := impl_replaced_f xs [] (place k xs) 1 (by omega) (by omega) (by simp)
      rw [if_pos h, if_pos h, show (1 : Int) = ((1 : Nat) : Int) from rfl, hr, Option.bind_some]; simp
    · rw [if_neg h, if_neg h, impl_copyOf_f xs (by omega), Option.bind_some]
  · rw [if_neg h1, if_neg h1]

/-! #### impl_ApplyFeed -/
theorem impl_ApplyFeed_l0 (xs : List S106) (hx : xs.length ≤ 24) : ∀ (ys : List S106) (l : List S181) (i : Int), 0 ≤ i → i ≤ xs.length → xs.drop i.toNat = ys → impl_ApplyFeed.l0L l xs (xs.length : Int) i = some (applyFrom l ys)
  | [], l, i, h0, h1, hd => by
    have := drop_nil h0 h1 hd
    rw [impl_ApplyFeed.l0L_eq, if_neg (by omega)]; rfl
  | y :: ys, l, i, h0, h1, hd => by
    obtain ⟨hr0, hl, hd'⟩ := getD_at (d := z106) h0 hd
    have hr : rd_T106 xs i = y := hr0
    rw [impl_ApplyFeed.l0L_eq, if_pos hl, if_pos h0, if_pos hl, hr, impl_PairGet_f, Option.bind_some, w64 (by omega) (by omega)]
    simp only [applyFrom]
    by_cases e : pairGet l y.f1 = y.f2
    · rw [if_pos e, if_pos e]
      by_cases e2 : y.f3 = -1
      · rw [if_pos e2, if_pos e2, impl_PairDrop_f, Option.bind_some]
        by_cases e3 : (pairDrop l y.f1).2 = true
        · rw [if_pos e3, if_pos e3]; exact impl_ApplyFeed_l0 xs hx ys _ (i + 1) (by omega) (by omega) hd'
        · rw [if_neg e3, if_neg e3]
      · rw [if_neg e2, if_neg e2, impl_PairPut_f, Option.bind_some]
        by_cases e3 : (pairPut l y.f1 y.f3).2 = true
        · rw [if_pos e3, if_pos e3]; exact impl_ApplyFeed_l0 xs hx ys _ (i + 1) (by omega) (by omega) hd'
        · rw [if_neg e3, if_neg e3]
    · rw [if_neg e, if_neg e]
theorem impl_ApplyFeed_f (l : List S181) (xs : List S106) : impl_ApplyFeed.fL l xs = some (applyFeed l xs) := by
  have hj : impl_ApplyFeed.j0L l xs true = some ([], false) := by rw [impl_ApplyFeed.j0L_eq, if_pos rfl]
  rw [impl_ApplyFeed.fL_eq, impl_PairsValid_f, Option.bind_some]
  unfold applyFeed
  by_cases h1 : pairsOk l = true
  · have h48 := pairsOk_le h1
    rw [if_pos h1, impl_FeedValid_f, Option.bind_some]
    by_cases h2 : feedOk xs = true
    · rw [if_pos ⟨h1, h2⟩, h2, Bool.not_true, impl_ApplyFeed.j0L_eq, if_neg (by simp), impl_copyOf_f l (by omega), Option.bind_some, impl_ApplyFeed_l0 xs (feedOk_len h2) xs l 0 (by omega) (by omega) (by simp)]
    · rw [show feedOk xs = false by simpa using h2, Bool.not_false, hj, if_neg (fun h => by simp at h)]
  · rw [if_neg h1, hj, if_neg (fun h => h1 h.1)]

/-! #### spec_FeedValid -/
theorem spec_FeedValid_l0 (xs : List S106) (hx : xs.length ≤ 1000000000000) : ∀ (ys : List S106) (i p : Int), 0 ≤ i → i ≤ 24 → i ≤ xs.length → xs.drop i.toNat = ys → (i = 0 → p = -1) → (0 < i → p = (rd_T106 xs (i - 1)).f0) → spec_FeedValid.l0L xs i = some (decide (xs.length ≤ 24) && feedFrom p ys)
  | [], i, p, h0, h24, h1, hd, hp0, hp1 => by
    have := drop_nil h0 h1 hd
    rw [spec_FeedValid.l0L_eq, if_neg (by omega), decide_eq_true (by omega)]; rfl
  | y :: ys, i, p, h0, h24, h1, hd, hp0, hp1 => by
    obtain ⟨hr0, hl, hd'⟩ := getD_at (d := z106) h0 hd
    have hr : rd_T106 xs i = y := hr0
    rw [spec_FeedValid.l0L_eq, if_pos hl, if_pos h0]
    by_cases c0 : i ≥ 24
    · rw [if_pos c0, decide_eq_false (by omega)]; rfl
    · have hnext : spec_FeedValid.l0L xs (i + 1) = some (decide (xs.length ≤ 24) && feedFrom y.f0 ys) :=
        spec_FeedValid_l0 xs hx ys (i + 1) y.f0 (by omega) (by omega) (by omega) hd' (fun h => by omega) (fun _ => by rw [show i + 1 - 1 = i by omega, hr])
      rw [if_neg c0, hr, w64 (n := i + 1) (by omega) (by omega), w64 (n := i - 1) (by omega) (by omega)]
      simp only [spec_l1In_f, spec_KeyValid_f, Option.bind_some, decide_eq_true_eq]
      have no : ∀ Q : Prop, ¬ Q → (feedFrom p (y :: ys) = true → Q) → some false = some (decide (xs.length ≤ 24) && feedFrom p (y :: ys)) := fun Q hq h => some_false (fun e => by
        simp only [Bool.and_eq_true] at e
        exact hq (h e.2))
      by_cases c1 : 0 ≤ y.f0 ∧ y.f0 ≤ 23
      · rw [if_pos c1]
        by_cases c2 : keyOk (bs y.f1) = true
        · rw [if_pos c2]
          by_cases c3 : -1 ≤ y.f2 ∧ y.f2 ≤ 999
          · rw [if_pos c3]
            by_cases c4 : -1 ≤ y.f3 ∧ y.f3 ≤ 999
            · rw [if_pos c4]
              by_cases c5 : y.f2 = y.f3
              · rw [if_pos c5]; exact no (¬ y.f2 = y.f3) (fun h => h c5) (fun e => by simp only [feedFrom, feedItem, Bool.and_eq_true, decide_eq_true_eq] at e; omega)
              · have hitem : feedItem y = true := by
                  simp only [feedItem, Bool.and_eq_true, decide_eq_true_eq]
                  exact ⟨by omega, c2⟩
                rw [if_neg c5]
                simp only [feedFrom]
                rw [hitem]
                by_cases c6 : i > 0
                · rw [if_pos c6, if_pos (by omega), if_pos (by omega), ← hp1 c6]
                  by_cases c7 : y.f0 ≤ p
                  · rw [if_pos c7, decide_eq_false (p := p < y.f0) (by omega)]; simp
                  · rw [if_neg c7, decide_eq_true (p := p < y.f0) (by omega), hnext]; rfl
                · have := hp0 (by omega)
                  rw [if_neg c6, decide_eq_true (p := p < y.f0) (by omega), hnext]; rfl
            · rw [if_neg c4]; exact no _ c4 (fun e => by simp only [feedFrom, feedItem, Bool.and_eq_true, decide_eq_true_eq] at e; omega)
          · rw [if_neg c3]; exact no _ c3 (fun e => by simp only [feedFrom, feedItem, Bool.and_eq_true, decide_eq_true_eq] at e; omega)
        · rw [if_neg c2]; exact no _ c2 (fun e => by simp only [feedFrom, feedItem, Bool.and_eq_true, decide_eq_true_eq] at e; exact e.1.1.2)
      · rw [if_neg c1]; exact no _ c1 (fun e => by simp only [feedFrom, feedItem, Bool.and_eq_true, decide_eq_true_eq] at e; omega)
theorem spec_FeedValid_f (xs : List S106) (hx : xs.length ≤ 1000000000000) : spec_FeedValid.fL xs = some (feedOk xs) := by
  rw [spec_FeedValid.fL_eq, spec_FeedValid_l0 xs hx xs 0 (-1) (by omega) (by omega) (by omega) (by simp) (fun _ => rfl) (fun h => by omega)]; rfl

/-! #### spec_ApplyFeed -/
theorem feedFrom_item : ∀ (l : List S106) (p : Int), feedFrom p l = true → ∀ y ∈ l, feedItem y = true
  | [], p, _, y, hy => by cases hy
  | x :: xs, p, h, y, hy => by
    simp only [feedFrom, Bool.and_eq_true] at h
    rcases List.mem_cons.1 hy with rfl | hy
    · exact h.1.1
    · exact feedFrom_item xs _ h.2 y hy
theorem spec_ApplyFeed_l0 (xs : List S106) (hx : xs.length ≤ 24) (hi : ∀ y ∈ xs, feedItem y = true) : ∀ (ys : List S106) (l : List S181) (i : Int), l.length ≤ 48 → 0 ≤ i → i ≤ xs.length → xs.drop i.toNat = ys → spec_ApplyFeed.l0L xs l i = some (applyFrom l ys)
  | [], l, i, hl0, h0, h1, hd => by
    have := drop_nil h0 h1 hd
    rw [spec_ApplyFeed.l0L_eq, if_neg (by omega)]; rfl
  | y :: ys, l, i, hl0, h0, h1, hd => by
    obtain ⟨hr0, hl, hd'⟩ := getD_at (d := z106) h0 hd
    have hr : rd_T106 xs i = y := hr0
    have hy : y ∈ xs := by
      have : y ∈ xs.drop i.toNat := by rw [hd]; exact List.mem_cons_self
      exact List.mem_of_mem_drop this
    have hf := hi y hy
    simp only [feedItem, Bool.and_eq_true, decide_eq_true_eq] at hf
    rw [spec_ApplyFeed.l0L_eq, if_pos hl, if_pos h0, hr, spec_PairGet_f l y.f1 (by omega), Option.bind_some, w64 (by omega) (by omega)]
    simp only [applyFrom]
    by_cases e : pairGet l y.f1 = y.f2
    · rw [if_pos e, if_pos e, spec_PairDrop_f l y.f1 (by omega), Option.bind_some]
      by_cases e2 : y.f3 = -1
      · rw [if_neg (by omega), if_pos e2]
        by_cases e3 : (pairDrop l y.f1).2 = true
        · rw [if_pos e3, if_pos e3]; exact spec_ApplyFeed_l0 xs hx hi ys _ (i + 1) (pairDrop_length _ _) (by omega) (by omega) hd'
        · rw [if_neg e3, if_neg e3]
      · rw [if_pos (by omega), if_neg e2, spec_PairPut_f l y.f1 y.f3 (by omega), Option.bind_some]
        by_cases e3 : (pairPut l y.f1 y.f3).2 = true
        · rw [if_pos e3, if_pos e3]; exact spec_ApplyFeed_l0 xs hx hi ys _ (i + 1) (pairPut_length _ _ _) (by omega) (by omega) hd'
        · rw [if_neg e3, if_neg e3]
    · rw [if_neg e, if_neg e]
theorem spec_ApplyFeed_f (l : List S181) (xs : List S106) (hx : xs.length ≤ 1048576) : spec_ApplyFeed.fL l xs = some (applyFeed l xs) := by
  have hj : spec_ApplyFeed.j0L l xs true = some ([], false) := by rw [spec_ApplyFeed.j0L_eq, if_pos rfl]
  rw [spec_ApplyFeed.fL_eq, spec_PairsValid_f, Option.bind_some]
  unfold applyFeed
  by_cases h1 : pairsOk l = true
  · have h48 := pairsOk_le h1
    rw [if_pos h1, spec_FeedValid_f xs (by omega), Option.bind_some]
    by_cases h2 : feedOk xs = true
    · have hf : ∀ y ∈ xs, feedItem y = true := by
        simp only [feedOk, Bool.and_eq_true] at h2
        exact feedFrom_item xs _ h2.2
      rw [if_pos ⟨h1, h2⟩, h2, Bool.not_true, spec_ApplyFeed.j0L_eq, if_neg (by simp), Option.bind_some, if_pos (by simp; omega), List.nil_append, spec_ApplyFeed_l0 xs (feedOk_len h2) hf xs l 0 h48 (by omega) (by omega) (by simp)]
    · rw [show feedOk xs = false by simpa using h2, Bool.not_false, hj, if_neg (fun h => by simp at h)]
  · rw [if_neg h1, hj, if_neg (fun h => h1 h.1)]

/-! #### FeedFrom -/
def later (n : Int) (l : List S106) : List S106 := l.filter fun c => decide (c.f0 ≥ n)
def feedLater (l : List S106) (n : Int) : List S106 := if feedOk l = true then later n l else []
theorem feedLater_length (l : List S106) (n : Int) : (feedLater l n).length ≤ 24 := by
  unfold feedLater
  split
  · rename_i h
    have := feedOk_len h
    have h2 := List.length_filter_le (fun c : S106 => decide (c.f0 ≥ n)) l
    unfold later; omega
  · simp
theorem impl_FeedFrom_l0 (xs : List S106) (n : Int) (hx : xs.length ≤ 24) : ∀ (ys : List S106) (i : Int) (out : List S106), 0 ≤ i → i ≤ xs.length → (out.length : Int) ≤ i → xs.drop i.toNat = ys → impl_FeedFrom.l0L n out xs (xs.length : Int) i = some (out ++ later n ys)
  | [], i, out, h0, h1, ho, hd => by
    have := drop_nil h0 h1 hd
    rw [impl_FeedFrom.l0L_eq, if_neg (by omega)]; simp [later]
  | y :: ys, i, out, h0, h1, ho, hd => by
    obtain ⟨hr0, hl, hd'⟩ := getD_at (d := z106) h0 hd
    have hr : rd_T106 xs i = y := hr0
    rw [impl_FeedFrom.l0L_eq, if_pos hl, if_pos h0, if_pos hl, hr, if_pos (show out.length < 3518437208883 by omega), w64 (n := i + 1) (by omega) (by omega), eta_change]
    unfold later
    rw [List.filter_cons]
    by_cases e : y.f0 ≥ n
    · rw [if_pos e, if_pos (by simpa using e), impl_FeedFrom_l0 xs n hx ys (i + 1) _ (by omega) (by omega) (by simp; omega) hd']; simp [later]
    · rw [if_neg e, if_neg (by simpa using e), impl_FeedFrom_l0 xs n hx ys (i + 1) _ (by omega) (by omega) (by omega) hd']; rfl
theorem impl_FeedFrom_f (xs : List S106) (n : Int) : impl_FeedFrom.fL xs n = some (feedLater xs n) := by
  rw [impl_FeedFrom.fL_eq, impl_FeedValid_f, Option.bind_some]
  unfold feedLater
  by_cases h : feedOk xs = true
  · rw [if_pos h, if_pos h, impl_FeedFrom_l0 xs n (feedOk_len h) xs 0 [] (by omega) (by omega) (by simp) (by simp)]; simp
  · rw [if_neg h, if_neg h]

/-! #### UndoFeed -/
def undo (n : Int) (c : S106) : S106 := ⟨n - 1 - c.f0, c.f1, c.f3, c.f2⟩
def lastIdx (l : List S106) : Int := (rd_T106 l ((l.length : Int) - 1)).f0
def undoFeed (l : List S106) (n : Int) : List S106 := if feedOk l = true ∧ 0 < l.length ∧ lastIdx l < n ∧ n ≤ 24 then (l.reverse.map (undo n)) else []
theorem undoFeed_length (l : List S106) (n : Int) : (undoFeed l n).length ≤ 24 := by
  unfold undoFeed
  split
  · rename_i h
    have := feedOk_len h.1
    simp; omega
  · simp
theorem feedFrom_mem : ∀ (l : List S106) (p : Int), feedFrom p l = true → ∀ c ∈ l, feedItem c = true ∧ p < c.f0
  | [], _, _, c, hc => by cases hc
  | y :: ys, p, h, c, hc => by
    simp only [feedFrom, Bool.and_eq_true, decide_eq_true_eq] at h
    rcases List.mem_cons.1 hc with rfl | hc
    · exact ⟨h.1.1, h.1.2⟩
    · have := feedFrom_mem ys y.f0 h.2 c hc
      exact ⟨this.1, by omega⟩
theorem feedOk_item {l : List S106} (h : feedOk l = true) (c : S106) (hc : c ∈ l) : 0 ≤ c.f0 ∧ c.f0 ≤ 23 := by
  simp only [feedOk, Bool.and_eq_true, decide_eq_true_eq] at h
  have := (feedFrom_mem l _ h.2 c hc).1
  simp only [feedItem, Bool.and_eq_true, decide_eq_true_eq] at this
  omega
theorem rd_change_mem {l : List S106} {i : Int} (h0 : 0 ≤ i) (h1 : i < l.length) : rd_T106 l i ∈ l := by
  unfold rd_T106
  rw [List.getD_eq_getElem?_getD, List.getElem?_eq_getElem (show i.toNat < l.length by omega)]
  exact List.getElem_mem _
theorem take_rev {l : List S106} {i : Int} (h0 : 0 ≤ i) (h1 : i < l.length) : (l.take (i.toNat + 1)).reverse = rd_T106 l i :: (l.take i.toNat).reverse := by
  unfold rd_T106
  rw [List.take_succ_eq_append_getElem (show i.toNat < l.length by omega), List.getD_eq_getElem?_getD, List.getElem?_eq_getElem (show i.toNat < l.length by omega)]
  simp
theorem impl_UndoFeed_l0 (xs : List S106) (n : Int) (hx : xs.length ≤ 24) (hok : feedOk xs = true) (hn : 0 ≤ n) (hn2 : n ≤ 24) : ∀ (m : Nat) (i : Int) (out : List S106), i + 1 = m → m ≤ xs.length → (out.length : Int) + m ≤ 24 → impl_UndoFeed.l0L xs n out i = some (out ++ (xs.take m).reverse.map (undo n))
  | 0, i, out, h, h1, ho => by rw [impl_UndoFeed.l0L_eq, if_neg (by omega)]; simp
  | m + 1, i, out, h, h1, ho => by
    have hi := feedOk_item hok _ (rd_change_mem (l := xs) (i := i) (by omega) (by omega))
    have ht := take_rev (l := xs) (i := i) (by omega) (by omega)
    rw [show i.toNat = m by omega] at ht
    rw [impl_UndoFeed.l0L_eq, if_pos (by omega), if_pos (by omega), if_pos (by omega), if_pos (by omega), w64 (n := n - 1) (by omega) (by omega), w64 (n := n - 1 - _) (by omega) (by omega), w64 (n := i - 1) (by omega) (by omega),
      impl_UndoFeed_l0 xs n hx hok hn hn2 m (i - 1) _ (by omega) (by omega) (by simp; omega), ht]
    simp [undo]
theorem impl_UndoFeed_f (xs : List S106) (n : Int) (hx : xs.length ≤ 1000000000000) (hn : -9223372036854775808 ≤ n) : impl_UndoFeed.fL xs n = some (undoFeed xs n) := by
  have jt : impl_UndoFeed.j0L xs n ((xs.length : Int) - 1) true = some [] := by rw [impl_UndoFeed.j0L_eq, if_pos rfl]
  rw [impl_UndoFeed.fL_eq, impl_FeedValid_f, Option.bind_some, w64 (by omega) (by omega), jt]
  unfold undoFeed
  by_cases h : feedOk xs = true
  · rw [if_pos h]
    by_cases h1 : (xs.length : Int) - 1 < 0
    · rw [if_pos h1, if_neg (by omega)]
    · have hi := feedOk_item h _ (rd_change_mem (l := xs) (i := (xs.length : Int) - 1) (by omega) (by omega))
      rw [if_neg h1, if_pos (by omega), if_pos (by omega)]
      by_cases h2 : n ≤ (rd_T106 xs ((xs.length : Int) - 1)).f0
      · rw [if_pos h2, if_neg (by unfold lastIdx; omega)]
      · rw [if_neg h2]
        by_cases h3 : n > 24
        · rw [decide_eq_true h3, jt, if_neg (by omega)]
        · have hlen := feedOk_len h
          rw [decide_eq_false h3, impl_UndoFeed.j0L_eq, if_neg (by simp), impl_UndoFeed_l0 xs n hlen h (by omega) (by omega) xs.length _ [] (by omega) (by omega) (by simp; omega), if_pos ⟨h, by omega, by unfold lastIdx; omega, by omega⟩]
          simp
  · rw [if_neg h, if_neg (fun e => h e.1)]

/-! #### undone -/
theorem feedFrom_iff : ∀ (l : List S106) (p : Int), feedFrom p l = true ↔ (∀ c ∈ l, feedItem c = true ∧ p < c.f0) ∧ l.Pairwise (fun a b => a.f0 < b.f0)
  | [], p => by simp [feedFrom]
  | x :: l, p => by
    have ih := feedFrom_iff l x.f0
    simp only [feedFrom, Bool.and_eq_true, decide_eq_true_eq, List.pairwise_cons, List.mem_cons]
    constructor
    · intro h
      obtain ⟨h1, h2⟩ := ih.1 h.2
      refine ⟨fun c hc => ?_, fun c hc => (h1 c hc).2, h2⟩
      rcases hc with rfl | hc
      · exact h.1
      · exact ⟨(h1 c hc).1, by have := (h1 c hc).2; omega⟩
    · intro h
      exact ⟨h.1 x (Or.inl rfl), ih.2 ⟨fun c hc => ⟨(h.1 c (Or.inr hc)).1, h.2.1 c hc⟩, h.2.2⟩⟩
theorem lastIdx_snoc (a : List S106) (b : S106) : lastIdx (a ++ [b]) = b.f0 := by
  unfold lastIdx rd_T106
  have : ((((a ++ [b]).length : Int) - 1)).toNat = a.length := by simp
  rw [this, List.getD_eq_getElem?_getD, List.getElem?_append_right (by omega)]
  simp
theorem lastIdx_ge (l : List S106) (h : l.Pairwise (fun a b => a.f0 < b.f0)) (c : S106) (hc : c ∈ l) : c.f0 ≤ lastIdx l := by
  rcases List.eq_nil_or_concat l with rfl | ⟨a, b, rfl⟩
  · cases hc
  · rw [List.concat_eq_append] at *
    rw [lastIdx_snoc]
    rw [List.pairwise_append] at h
    rcases List.mem_append.1 hc with k | k
    · have := h.2.2 c k b (by simp); omega
    · simp at k; rw [k]; omega
theorem undo_undo (n : Int) (c : S106) : undo n (undo n c) = c := by
  unfold undo
  cases c
  simp only
  congr 1
  omega
theorem undone (l : List S106) (n : Int) (h : 0 < (undoFeed l n).length) : feedOk (undoFeed l n) = true ∧ (undoFeed l n).length = l.length ∧ undoFeed (undoFeed l n) n = l := by
  by_cases e : feedOk l = true ∧ 0 < l.length ∧ lastIdx l < n ∧ n ≤ 24
  · have hu : undoFeed l n = l.reverse.map (undo n) := by unfold undoFeed; rw [if_pos e]
    obtain ⟨e1, e2, e3, e4⟩ := e
    have hf : feedFrom (-1) l = true := by simp only [feedOk, Bool.and_eq_true] at e1; exact e1.2
    have hlen : l.length ≤ 24 := by simp only [feedOk, Bool.and_eq_true, decide_eq_true_eq] at e1; exact e1.1
    obtain ⟨hm, hp⟩ := (feedFrom_iff l (-1)).1 hf
    have hok : feedOk (l.reverse.map (undo n)) = true := by
      simp only [feedOk, Bool.and_eq_true, decide_eq_true_eq, List.length_map, List.length_reverse]
      refine ⟨hlen, (feedFrom_iff _ _).2 ⟨fun c hc => ?_, ?_⟩⟩
      · obtain ⟨d, hd, rfl⟩ := List.mem_map.1 hc
        have hd := List.mem_reverse.1 hd
        have k := hm d hd
        have k2 := lastIdx_ge l hp d hd
        have k1 := k.1
        unfold feedItem at k1
        rw [Bool.and_eq_true, decide_eq_true_eq] at k1
        have e0 : (undo n d).f0 = n - 1 - d.f0 := rfl
        have e1 : (undo n d).f1 = d.f1 := rfl
        have e2 : (undo n d).f2 = d.f3 := rfl
        have e3 : (undo n d).f3 = d.f2 := rfl
        constructor
        · unfold feedItem
          rw [Bool.and_eq_true, decide_eq_true_eq, e0, e1, e2, e3]
          exact ⟨by omega, k1.2⟩
        · omega
      · rw [List.pairwise_map, List.pairwise_reverse]
        exact hp.imp (fun {a b} q => by simp only [undo]; omega)
    have hlast : lastIdx (l.reverse.map (undo n)) < n := by
      cases l with
      | nil => simp at e2
      | cons x t =>
        rw [List.reverse_cons, List.map_append, List.map_cons, List.map_nil, lastIdx_snoc]
        have := (hm x List.mem_cons_self).2
        have k1 := (hm x List.mem_cons_self).1
        unfold feedItem at k1
        rw [Bool.and_eq_true, decide_eq_true_eq] at k1
        have e0 : (undo n x).f0 = n - 1 - x.f0 := rfl
        omega
    rw [hu]
    refine ⟨hok, by simp, ?_⟩
    unfold undoFeed
    rw [if_pos ⟨hok, by simpa using e2, hlast, e4⟩, ← List.map_reverse, List.reverse_reverse, List.map_map]
    have : undo n ∘ undo n = id := funext (fun c => undo_undo n c)
    rw [this, List.map_id]
  · have : undoFeed l n = [] := by unfold undoFeed; rw [if_neg e]
    rw [this] at h; simp at h

/-! #### laterdrop -/
/-- What is later stands at the end. -/
theorem later_split (n : Int) (a b : List S106) (h1 : ∀ c ∈ a, c.f0 < n) (h2 : ∀ c ∈ b, n ≤ c.f0) : later n (a ++ b) = b := by
  unfold later
  rw [List.filter_append, List.filter_eq_nil_iff.2 (fun c hc => by have := h1 c hc; simp; omega), List.filter_eq_self.2 (fun c hc => by have := h2 c hc; simp; omega), List.nil_append]
theorem feedOk_iff (l : List S106) : feedOk l = true ↔ l.length ≤ 24 ∧ (∀ c ∈ l, feedItem c = true) ∧ l.Pairwise (fun a b => a.f0 < b.f0) := by
  unfold feedOk
  rw [Bool.and_eq_true, decide_eq_true_eq, feedFrom_iff]
  constructor
  · rintro ⟨h1, h2, h3⟩; exact ⟨h1, fun c hc => (h2 c hc).1, h3⟩
  · rintro ⟨h1, h2, h3⟩
    refine ⟨h1, fun c hc => ⟨h2 c hc, ?_⟩, h3⟩
    have := h2 c hc
    simp only [feedItem, Bool.and_eq_true, decide_eq_true_eq] at this
    omega
theorem feedOk_take {l : List S106} (h : feedOk l = true) (d : Nat) : feedOk (l.take d) = true := by
  rw [feedOk_iff] at h ⊢
  exact ⟨by rw [List.length_take]; omega, fun c hc => h.2.1 c (List.mem_of_mem_take hc), h.2.2.sublist (List.take_sublist d l)⟩
theorem feedOk_dropn {l : List S106} (h : feedOk l = true) (d : Nat) : feedOk (l.drop d) = true := by
  rw [feedOk_iff] at h ⊢
  exact ⟨by rw [List.length_drop]; omega, fun c hc => h.2.1 c (List.mem_of_mem_drop hc), h.2.2.sublist (List.drop_sublist d l)⟩
theorem later_at {l : List S106} (h : feedOk l = true) (d : Nat) (hd : d < l.length) : later (rd_T106 l (d : Int)).f0 l = l.drop d := by
  have hp := ((feedOk_iff l).1 h).2.2
  have hr : rd_T106 l (d : Int) = l[d] := by
    unfold rd_T106
    rw [Int.toNat_natCast, List.getD_eq_getElem?_getD, List.getElem?_eq_getElem hd]; rfl
  have e : l = l.take d ++ l.drop d := (List.take_append_drop d l).symm
  have ec : l.drop d = l[d] :: l.drop (d + 1) := List.drop_eq_getElem_cons hd
  rw [hr]
  have hp2 := hp
  rw [e, List.pairwise_append, ec, List.pairwise_cons] at hp2
  have h1 : ∀ c ∈ l.take d, c.f0 < (l[d]).f0 := fun c hc => hp2.2.2 c hc _ List.mem_cons_self
  have h2 : ∀ c ∈ l.drop d, (l[d]).f0 ≤ c.f0 := fun c hc => by
    rw [ec] at hc
    rcases List.mem_cons.1 hc with rfl | hc
    · omega
    · have := hp2.2.1.1 c hc; omega
  have := later_split (l[d]).f0 (l.take d) (l.drop d) h1 h2
  rwa [← e] at this
theorem later_end {l : List S106} (h : feedOk l = true) : later 24 l = l.drop l.length := by
  have h2 := ((feedOk_iff l).1 h).2.1
  have := later_split 24 l [] (fun c hc => by have := h2 c hc; simp only [feedItem, Bool.and_eq_true, decide_eq_true_eq] at this; omega) (fun c hc => by cases hc)
  rw [List.append_nil] at this
  rw [this, List.drop_length]

/-! #### pairins -/
/-- All keys of a list are less than k; all are greater. -/
def allLt (A : List S181) (k : ByteArray) : Prop := ∀ y ∈ A, klt y.f0 k = true
def allGt (B : List S181) (k : ByteArray) : Prop := ∀ y ∈ B, klt k y.f0 = true
theorem klt_asym {a b : ByteArray} (h : klt a b = true) : klt b a = false := by
  cases e : klt b a with
  | false => rfl
  | true => have := klt_trans h e; rw [klt_irrefl] at this; cases this
theorem pairsFrom_iff : ∀ (l : List S181) (p : Option ByteArray), pairsFrom p l = true ↔ (∀ y ∈ l, pairItem y = true ∧ above p y.f0 = true) ∧ l.Pairwise (fun a b => klt a.f0 b.f0 = true)
  | [], p => by simp [pairsFrom]
  | x :: l, p => by
    have ih := pairsFrom_iff l (some x.f0)
    rw [pairsFrom, Bool.and_eq_true, Bool.and_eq_true, ih, List.pairwise_cons]
    constructor
    · rintro ⟨⟨h1, h2⟩, h3, h4⟩
      refine ⟨fun y hy => ?_, fun y hy => (h3 y hy).2, h4⟩
      rcases List.mem_cons.1 hy with rfl | hy
      · exact ⟨h1, h2⟩
      · refine ⟨(h3 y hy).1, ?_⟩
        cases p with
        | none => rfl
        | some q => exact klt_trans h2 (h3 y hy).2
    · rintro ⟨h1, h2, h3⟩
      have hx := h1 x List.mem_cons_self
      exact ⟨⟨hx.1, hx.2⟩, fun y hy => ⟨(h1 y (List.mem_cons_of_mem _ hy)).1, h2 y hy⟩, h3⟩
theorem pairsOk_iff (l : List S181) : pairsOk l = true ↔ l.length ≤ 48 ∧ (∀ y ∈ l, pairItem y = true) ∧ l.Pairwise (fun a b => klt a.f0 b.f0 = true) := by
  unfold pairsOk
  rw [Bool.and_eq_true, decide_eq_true_eq, pairsFrom_iff]
  constructor
  · rintro ⟨h1, h2, h3⟩; exact ⟨h1, fun y hy => (h2 y hy).1, h3⟩
  · rintro ⟨h1, h2, h3⟩; exact ⟨h1, fun y hy => ⟨h2 y hy, rfl⟩, h3⟩
theorem place_app {k : ByteArray} {B : List S181} (h2 : ∀ y ∈ B, klt y.f0 k = false) : ∀ {A : List S181}, allLt A k → place k (A ++ B) = A.length
  | [], _ => by
    cases B with
    | nil => rfl
    | cons y B => simp only [List.nil_append, place]; rw [if_neg (by rw [h2 y List.mem_cons_self]; simp)]; rfl
  | x :: A, h1 => by
    simp only [List.cons_append, place]
    rw [if_pos (h1 x List.mem_cons_self), place_app h2 (fun y hy => h1 y (List.mem_cons_of_mem _ hy))]; rfl
theorem place_hit {A B : List S181} {k : ByteArray} {v : Int} (h1 : allLt A k) (h2 : allGt B k) : place k (A ++ ⟨k, v⟩ :: B) = A.length :=
  place_app (fun y hy => by
    rcases List.mem_cons.1 hy with rfl | hy
    · exact klt_irrefl _
    · exact klt_asym (h2 y hy)) h1
theorem place_no {A B : List S181} {k : ByteArray} (h1 : allLt A k) (h2 : allGt B k) : place k (A ++ B) = A.length := place_app (fun y hy => klt_asym (h2 y hy)) h1
theorem rd_app (A B : List S181) (y : S181) : rd_T181 (A ++ y :: B) (A.length : Int) = y := by
  unfold rd_T181
  rw [Int.toNat_natCast, List.getD_eq_getElem?_getD, List.getElem?_append_right (Nat.le_refl _)]; simp
theorem hit_app {A B : List S181} {k : ByteArray} {v : Int} (h1 : allLt A k) (h2 : allGt B k) : hit k (A ++ ⟨k, v⟩ :: B) = true := by
  unfold hit; rw [place_hit h1 h2, rd_app]; simp
theorem nohit_app {A B : List S181} {k : ByteArray} (h1 : allLt A k) (h2 : allGt B k) : hit k (A ++ B) = false := by
  unfold hit; rw [place_no h1 h2]
  cases B with
  | nil => simp
  | cons y B =>
    rw [rd_app, decide_eq_false]
    rintro ⟨_, e⟩
    have := h2 y List.mem_cons_self
    rw [e, klt_irrefl] at this; cases this
theorem pairs_split (k : ByteArray) : ∀ l : List S181, l.Pairwise (fun a b => klt a.f0 b.f0 = true) → (∃ A B v, l = A ++ ⟨k, v⟩ :: B ∧ allLt A k ∧ allGt B k) ∨ (∃ A B, l = A ++ B ∧ allLt A k ∧ allGt B k)
  | [], _ => .inr ⟨[], [], rfl, (fun y hy => by cases hy), (fun y hy => by cases hy)⟩
  | x :: l, h => by
    rw [List.pairwise_cons] at h
    by_cases e : klt x.f0 k = true
    · have hA : ∀ A : List S181, allLt A k → allLt (x :: A) k := fun A hA y hy => by
        rcases List.mem_cons.1 hy with rfl | hy
        · exact e
        · exact hA y hy
      rcases pairs_split k l h.2 with ⟨A, B, v, rfl, h1, h2⟩ | ⟨A, B, rfl, h1, h2⟩
      · exact .inl ⟨x :: A, B, v, rfl, hA A h1, h2⟩
      · exact .inr ⟨x :: A, B, rfl, hA A h1, h2⟩
    · by_cases e2 : klt k x.f0 = true
      · refine .inr ⟨[], x :: l, rfl, (fun y hy => by cases hy), fun y hy => ?_⟩
        rcases List.mem_cons.1 hy with rfl | hy
        · exact e2
        · exact klt_trans e2 (h.1 y hy)
      · have ek := klt_total (Bool.eq_false_iff.2 e) (Bool.eq_false_iff.2 e2)
        subst ek
        exact .inl ⟨[], l, x.f1, rfl, (fun y hy => by cases hy), h.1⟩
theorem pairGet_hit {A B : List S181} {k : ByteArray} {v : Int} (h : pairsOk (A ++ ⟨k, v⟩ :: B) = true) (h1 : allLt A k) (h2 : allGt B k) : pairGet (A ++ ⟨k, v⟩ :: B) k = v := by
  unfold pairGet; rw [if_pos h, if_pos (hit_app h1 h2), place_hit h1 h2, rd_app]
theorem pairGet_no {A B : List S181} {k : ByteArray} (h1 : allLt A k) (h2 : allGt B k) : pairGet (A ++ B) k = -1 := by
  unfold pairGet
  rw [nohit_app h1 h2]; split <;> simp
theorem pairDrop_hit {A B : List S181} {k : ByteArray} {v : Int} (h : pairsOk (A ++ ⟨k, v⟩ :: B) = true) (h1 : allLt A k) (h2 : allGt B k) : pairDrop (A ++ ⟨k, v⟩ :: B) k = (A ++ B, true) := by
  unfold pairDrop; rw [if_pos h, if_pos (hit_app h1 h2), place_hit h1 h2]; simp
theorem pairDrop_no {A B : List S181} {k : ByteArray} (h : pairsOk (A ++ B) = true) (h1 : allLt A k) (h2 : allGt B k) : pairDrop (A ++ B) k = (A ++ B, false) := by
  unfold pairDrop; rw [if_pos h, if_neg (by rw [nohit_app h1 h2]; simp)]
theorem pairPut_hit {A B : List S181} {k : ByteArray} {v u : Int} (h : pairsOk (A ++ ⟨k, v⟩ :: B) = true) (hk : keyOk (bs k) = true) (hu : 0 ≤ u ∧ u ≤ 999) (h1 : allLt A k) (h2 : allGt B k) : pairPut (A ++ ⟨k, v⟩ :: B) k u = (A ++ ⟨k, u⟩ :: B, true) := by
  unfold pairPut; rw [if_pos ⟨h, hk, hu⟩, if_pos (hit_app h1 h2), place_hit h1 h2]; simp
theorem pairPut_no {A B : List S181} {k : ByteArray} {u : Int} (h : pairsOk (A ++ B) = true) (hk : keyOk (bs k) = true) (hu : 0 ≤ u ∧ u ≤ 999) (h1 : allLt A k) (h2 : allGt B k) : pairPut (A ++ B) k u = if 48 ≤ (A ++ B).length then (A ++ B, false) else (A ++ ⟨k, u⟩ :: B, true) := by
  unfold pairPut; rw [if_pos ⟨h, hk, hu⟩, if_neg (by rw [nohit_app h1 h2]; simp), place_no h1 h2]; simp
theorem pairItem_mk {k : ByteArray} {v : Int} (hk : keyOk (bs k) = true) (hv : 0 ≤ v ∧ v ≤ 999) : pairItem ⟨k, v⟩ = true := by
  unfold pairItem; rw [Bool.and_eq_true, decide_eq_true_eq]; exact ⟨hk, hv⟩
theorem pairItem_of {A B : List S181} {k : ByteArray} {v : Int} (h : pairsOk (A ++ ⟨k, v⟩ :: B) = true) : keyOk (bs k) = true ∧ 0 ≤ v ∧ v ≤ 999 := by
  have := ((pairsOk_iff _).1 h).2.1 ⟨k, v⟩ (by simp)
  unfold pairItem at this; rw [Bool.and_eq_true, decide_eq_true_eq] at this; exact this
theorem pairsOk_ins {A B : List S181} {k : ByteArray} {v : Int} (h : pairsOk (A ++ B) = true) (hk : keyOk (bs k) = true) (hv : 0 ≤ v ∧ v ≤ 999) (h1 : allLt A k) (h2 : allGt B k) (hl : (A ++ B).length < 48) : pairsOk (A ++ ⟨k, v⟩ :: B) = true := by
  rw [pairsOk_iff] at h ⊢
  obtain ⟨_, b, c⟩ := h
  rw [List.pairwise_append] at c ⊢
  refine ⟨by simp at hl ⊢; omega, fun y hy => ?_, c.1, List.pairwise_cons.2 ⟨h2, c.2.1⟩, fun x hx y hy => ?_⟩
  · rcases List.mem_append.1 hy with hy | hy
    · exact b y (List.mem_append_left _ hy)
    · rcases List.mem_cons.1 hy with rfl | hy
      · exact pairItem_mk hk hv
      · exact b y (List.mem_append_right _ hy)
  · rcases List.mem_cons.1 hy with rfl | hy
    · exact h1 x hx
    · exact c.2.2 x hx y hy
theorem pairsOk_del {A B : List S181} {y : S181} (h : pairsOk (A ++ y :: B) = true) : pairsOk (A ++ B) = true := by
  rw [pairsOk_iff] at h ⊢
  obtain ⟨a, b, c⟩ := h
  rw [List.pairwise_append, List.pairwise_cons] at c
  refine ⟨by simp at a ⊢; omega, fun x hx => b x ?_, List.pairwise_append.2 ⟨c.1, c.2.1.2, fun x hx z hz => c.2.2 x hx z (List.mem_cons_of_mem _ hz)⟩⟩
  rcases List.mem_append.1 hx with hx | hx
  · exact List.mem_append_left _ hx
  · exact List.mem_append_right _ (List.mem_cons_of_mem _ hx)
theorem pairsOk_set {A B : List S181} {k : ByteArray} {v u : Int} (h : pairsOk (A ++ ⟨k, v⟩ :: B) = true) (hu : 0 ≤ u ∧ u ≤ 999) (h1 : allLt A k) (h2 : allGt B k) : pairsOk (A ++ ⟨k, u⟩ :: B) = true :=
  pairsOk_ins (pairsOk_del h) (pairItem_of h).1 hu h1 h2 (by have := pairsOk_le h; simp at this ⊢; omega)
/-- One change of a key's value, and back. -/
theorem step_back {l r : List S181} {k : ByteArray} {old next : Int} (hl : pairsOk l = true) (hk : keyOk (bs k) = true) (ho : -1 ≤ old ∧ old ≤ 999) (hn : -1 ≤ next ∧ next ≤ 999) (hne : old ≠ next) (hg : pairGet l k = old)
    (hr : (if next = -1 then pairDrop l k else pairPut l k next) = (r, true)) : pairsOk r = true ∧ pairGet r k = next ∧ (if old = -1 then pairDrop r k else pairPut r k old) = (l, true) := by
  rcases pairs_split k l ((pairsOk_iff _).1 hl).2.2 with ⟨A, B, v, rfl, h1, h2⟩ | ⟨A, B, rfl, h1, h2⟩
  · have hv := (pairItem_of hl).2
    rw [pairGet_hit hl h1 h2] at hg
    subst hg
    by_cases e : next = -1
    · rw [if_pos e, pairDrop_hit hl h1 h2] at hr
      injection hr with hr _
      subst hr
      have hd := pairsOk_del hl
      have hlen := pairsOk_le hl
      rw [if_neg (by omega), pairPut_no hd hk hv h1 h2, if_neg (by simp at hlen ⊢; omega), pairGet_no h1 h2]
      exact ⟨hd, e.symm, rfl⟩
    · rw [if_neg e, pairPut_hit hl hk (by omega) h1 h2] at hr
      injection hr with hr _
      subst hr
      have hs := pairsOk_set (u := next) hl (by omega) h1 h2
      rw [if_neg (by omega), pairPut_hit hs hk hv h1 h2, pairGet_hit hs h1 h2]
      exact ⟨hs, rfl, rfl⟩
  · rw [pairGet_no h1 h2] at hg
    rw [if_neg (by omega), pairPut_no hl hk (by omega) h1 h2] at hr
    by_cases e : 48 ≤ (A ++ B).length
    · rw [if_pos e] at hr; injection hr with _ hr; cases hr
    · rw [if_neg e] at hr
      injection hr with hr _
      subst hr
      have hs := pairsOk_ins (v := next) hl hk (by omega) h1 h2 (by omega)
      rw [if_pos hg.symm, pairDrop_hit hs h1 h2, pairGet_hit hs h1 h2]
      exact ⟨hs, rfl, rfl⟩

/-! #### applied -/
theorem applyFrom_app : ∀ (a b : List S106) (l : List S181), (applyFrom l a).2 = true → applyFrom l (a ++ b) = applyFrom (applyFrom l a).1 b
  | [], b, l, _ => rfl
  | c :: a, b, l, h => by
    simp only [List.cons_append, applyFrom] at h ⊢
    by_cases e1 : pairGet l c.f1 = c.f2
    · rw [if_pos e1] at h ⊢
      rw [if_pos e1]
      by_cases e2 : (if c.f3 = -1 then pairDrop l c.f1 else pairPut l c.f1 c.f3).2 = true
      · rw [if_pos e2] at h ⊢
        rw [if_pos e2]
        exact applyFrom_app a b _ h
      · rw [if_neg e2] at h; cases h
    · rw [if_neg e1] at h; cases h
theorem applyFrom_take (a b : List S106) : ∀ (l : List S181), (applyFrom l (a ++ b)).2 = true → (applyFrom l a).2 = true := by
  induction a with
  | nil => intro l _; rfl
  | cons c a ih =>
    intro l h
    simp only [List.cons_append, applyFrom] at h ⊢
    by_cases e1 : pairGet l c.f1 = c.f2
    · rw [if_pos e1] at h ⊢
      by_cases e2 : (if c.f3 = -1 then pairDrop l c.f1 else pairPut l c.f1 c.f3).2 = true
      · rw [if_pos e2] at h ⊢
        exact ih _ h
      · rw [if_neg e2] at h; cases h
    · rw [if_neg e1] at h; cases h
theorem feedItem_says {c : S106} (h : feedItem c = true) : (0 ≤ c.f0 ∧ c.f0 ≤ 23) ∧ (-1 ≤ c.f2 ∧ c.f2 ≤ 999) ∧ (-1 ≤ c.f3 ∧ c.f3 ≤ 999) ∧ c.f2 ≠ c.f3 ∧ keyOk (bs c.f1) = true := by
  simp only [feedItem, Bool.and_eq_true, decide_eq_true_eq] at h
  exact ⟨by omega, by omega, by omega, by omega, h.2⟩
theorem applyFrom_back (n : Int) : ∀ (cs : List S106) (l r : List S181), pairsOk l = true → (∀ c ∈ cs, feedItem c = true) → applyFrom l cs = (r, true) → pairsOk r = true ∧ applyFrom r (cs.reverse.map (undo n)) = (l, true)
  | [], l, r, hl, _, h => by
    simp only [applyFrom] at h
    injection h with h _
    subst h
    exact ⟨hl, rfl⟩
  | c :: cs, l, r, hl, hc, h => by
    obtain ⟨_, c1, c2, c3, c4⟩ := feedItem_says (hc c List.mem_cons_self)
    simp only [applyFrom] at h
    by_cases e1 : pairGet l c.f1 = c.f2
    · rw [if_pos e1] at h
      by_cases e2 : (if c.f3 = -1 then pairDrop l c.f1 else pairPut l c.f1 c.f3).2 = true
      · rw [if_pos e2] at h
        obtain ⟨s1, s2, s3⟩ := step_back (r := (if c.f3 = -1 then pairDrop l c.f1 else pairPut l c.f1 c.f3).1) hl c4 c1 c2 c3 e1 (by rw [← e2])
        obtain ⟨t1, t2⟩ := applyFrom_back n cs _ r s1 (fun d hd => hc d (List.mem_cons_of_mem _ hd)) h
        refine ⟨t1, ?_⟩
        rw [List.reverse_cons, List.map_append, applyFrom_app _ _ _ (by rw [t2]), t2]
        simp only [List.map_cons, List.map_nil, applyFrom, undo]
        rw [if_pos s2, s3, if_pos rfl]
      · rw [if_neg e2] at h; injection h with _ h; cases h
    · rw [if_neg e1] at h; injection h with _ h; cases h
theorem applyFrom_none : ∀ (cs : List S106) (l : List S181), (applyFrom l cs).2 = false → (applyFrom l cs).1 = []
  | [], l, h => by simp [applyFrom] at h
  | c :: cs, l, h => by
    simp only [applyFrom] at h ⊢
    by_cases e1 : pairGet l c.f1 = c.f2
    · rw [if_pos e1] at h ⊢
      by_cases e2 : (if c.f3 = -1 then pairDrop l c.f1 else pairPut l c.f1 c.f3).2 = true
      · rw [if_pos e2] at h ⊢
        exact applyFrom_none cs _ h
      · rw [if_neg e2]
    · rw [if_neg e1]
theorem applyFeed_none (l : List S181) (cs : List S106) (h : (applyFeed l cs).2 = false) : (applyFeed l cs).1 = [] := by
  unfold applyFeed at h ⊢
  by_cases q : pairsOk l = true ∧ feedOk cs = true
  · rw [if_pos q] at h ⊢; exact applyFrom_none cs l h
  · rw [if_neg q]

/-! #### samePairs -/
theorem laws_samePairs_l0 (xs zs : List S181) (hx : xs.length ≤ 1000000000000) (hl : xs.length = zs.length) : ∀ (ys ws : List S181) (i : Int), 0 ≤ i → i ≤ xs.length → xs.drop i.toNat = ys → zs.drop i.toNat = ws → ∃ b, laws_samePairs.l0L xs zs i = some b ∧ (b = true ↔ ys = ws)
  | [], ws, i, h0, h1, hd, hw => by
    have := drop_nil h0 h1 hd
    rw [List.drop_eq_nil_of_le (by omega)] at hw
    rw [laws_samePairs.l0L_eq, if_neg (by omega)]; exact ⟨true, rfl, by simp [hw]⟩
  | y :: ys, [], i, h0, h1, hd, hw => by
    have := drop_nil h0 (by omega) hw
    obtain ⟨_, hlt, _⟩ := getD_cons (d := z181) h0 hd
    omega
  | y :: ys, w :: ws, i, h0, h1, hd, hw => by
    obtain ⟨hr0, hlt, hd'⟩ := getD_cons (d := z181) h0 hd
    obtain ⟨hr1, hlt2, hw'⟩ := getD_cons (d := z181) h0 hw
    have e0 : rd_T181 xs i = y := hr0
    have e1 : rd_T181 zs i = w := hr1
    rw [laws_samePairs.l0L_eq, if_pos hlt, if_pos h0, if_pos hlt2, e0, e1, w64 (by omega) (by omega)]
    by_cases e : y = w
    · subst e
      rw [if_neg (by simp)]
      obtain ⟨b, hb, hb2⟩ := laws_samePairs_l0 xs zs hx hl ys ws (i + 1) (by omega) (by omega) hd' hw'
      exact ⟨b, hb, by simp [hb2]⟩
    · have : (!(y.f0.toList == w.f0.toList) || !(y.f1 == w.f1)) = true := by
        by_cases c0 : y.f0 = w.f0
        · by_cases c1 : y.f1 = w.f1
          · exact absurd (by cases y; cases w; simp only at c0 c1; rw [c0, c1]) e
          · simp [c1]
        · have : ¬ y.f0.toList = w.f0.toList := fun h => c0 (toList_eq.1 h)
          simp [this]
      rw [if_pos this]
      exact ⟨false, rfl, by simp [e]⟩
theorem laws_samePairs_f (xs zs : List S181) (hx : xs.length ≤ 1000000000000) : ∃ b, laws_samePairs.fL xs zs = some b ∧ (b = true ↔ xs = zs) := by
  rw [laws_samePairs.fL_eq]
  by_cases h : (xs.length : Int) = (zs.length : Int)
  · rw [if_pos h]
    exact laws_samePairs_l0 xs zs hx (by omega) xs zs 0 (by omega) (by omega) (by simp) (by simp)
  · rw [if_neg h]
    exact ⟨false, rfl, by simp; intro e; rw [e] at h; exact h rfl⟩

/-! #### keyrank -/
def rankBelow : List Int → Int → Int
  | [], _ => 0
  | b :: l, d => 1 + (b - 97) * kfrom d + rankBelow l (d + 1)
def keyRank (l : List Int) : Int := if keyOk l = true then rankBelow l 1 - 1 else -1
theorem impl_keysFrom_f (d : Int) (h1 : 1 ≤ d) (h2 : d ≤ 10) : impl_keysFrom.fL d = some (kfrom d) := by
  have h4 : ∀ e : Int, e ≥ 4 → impl_keysFrom.fL e = some 1 := fun e he => by rw [impl_keysFrom.fL_eq, if_pos he]
  have h3 : impl_keysFrom.fL 3 = some 27 := by
    rw [impl_keysFrom.fL_eq, if_neg (by omega), w64 (by omega) (by omega), show (3 : Int) + 1 = 4 from rfl, h4 4 (by omega)]; simp [wrap64]
  have h2' : impl_keysFrom.fL 2 = some 703 := by
    rw [impl_keysFrom.fL_eq, if_neg (by omega), w64 (by omega) (by omega), show (2 : Int) + 1 = 3 from rfl, h3]; simp [wrap64]
  have h1' : impl_keysFrom.fL 1 = some 18279 := by
    rw [impl_keysFrom.fL_eq, if_neg (by omega), w64 (by omega) (by omega), show (1 : Int) + 1 = 2 from rfl, h2']; simp [wrap64]
  unfold kfrom
  by_cases e : d ≥ 4
  · rw [h4 d e, if_pos e]
  · rw [if_neg e]
    by_cases e3 : d = 3
    · rw [if_pos e3, e3, h3]
    · rw [if_neg e3]
      by_cases e2 : d = 2
      · rw [if_pos e2, e2, h2']
      · rw [if_neg e2, show d = 1 by omega, h1']
theorem rankBelow_range : ∀ (l : List Int) (d : Int), letters l = true → 0 ≤ rankBelow l d ∧ rankBelow l d ≤ 500000 * l.length
  | [], d, _ => by simp [rankBelow]
  | b :: l, d, h => by
    obtain ⟨hb, hl⟩ := letters_cons h
    have hr := rankBelow_range l (d + 1) hl
    have hk := kfrom_range d
    have m1 : 0 ≤ (b - 97) * kfrom d := Int.mul_nonneg (by omega) (by omega)
    have m2 : (b - 97) * kfrom d ≤ 25 * 18279 := Int.mul_le_mul (by omega) hk.2 (by omega) (by omega)
    simp only [rankBelow, List.length_cons]
    omega
theorem impl_rankBelow_f : ∀ (l : List Int) (s : ByteArray) (d : Int), bs s = l → letters l = true → l.length ≤ 4 → 1 ≤ d → d + l.length ≤ 6 → impl_rankBelow.fL s d = some (rankBelow l d)
  | [], s, d, h, _, _, _, _ => by rw [impl_rankBelow.fL_eq, if_pos ((toList_nil s).2 h)]; rfl
  | b :: l, s, d, h, hl, hn, hd, hd2 => by
    simp only [List.length_cons] at hn hd2
    obtain ⟨hb, hl'⟩ := letters_cons hl
    have hs : s.size = l.length + 1 := by rw [← bs_length, h]; rfl
    have hnn : ¬ s.toList = [] := by rw [toList_nil, h]; simp
    have hdr : bs (s.extract 1 s.size) = l := by rw [bs_drop s 1 s.size (Nat.le_refl _), h]; rfl
    have hk := kfrom_range d
    have hr := rankBelow_range l (d + 1) hl'
    have m1 : 0 ≤ (b - 97) * kfrom d := Int.mul_nonneg (by omega) (by omega)
    have m2 : (b - 97) * kfrom d ≤ 25 * 18279 := Int.mul_le_mul (by omega) hk.2 (by omega) (by omega)
    rw [impl_rankBelow.fL_eq, if_neg hnn, if_pos (by omega), impl_keysFrom_f d hd (by omega), Option.bind_some, if_pos (by omega), w64 (n := d + 1) (by omega) (by omega),
      impl_rankBelow_f l _ (d + 1) hdr hl' (by omega) (by omega) (by omega), Option.bind_some, bt_bs, rd_zero h, Int.emod_eq_of_lt (a := b - 97) (by omega) (by omega),
      w64 (n := (b - 97) * kfrom d) (by omega) (by omega), w64 (n := 1 + (b - 97) * kfrom d) (by omega) (by omega), w64 (by omega) (by omega)]
    rfl
theorem impl_KeyRank_f (s : ByteArray) : impl_KeyRank.fL s = some (keyRank (bs s)) := by
  rw [impl_KeyRank.fL_eq, impl_KeyValid_f, Option.bind_some]
  unfold keyRank
  by_cases h : keyOk (bs s) = true
  · have hn := keyOk_len h
    have hr := rankBelow_range (bs s) 1 (keyOk_letters h)
    rw [if_pos h, if_pos h, impl_rankBelow_f _ s 1 rfl (keyOk_letters h) hn.2 (by omega) (by omega), Option.bind_some, w64 (by omega) (by omega)]
  · rw [if_neg h, if_neg h]

/-! #### alive -/
theorem laws_alive_f : laws_alive.fL = some true := by
  rw [laws_alive.fL_eq, impl_KeyRank_f, impl_KeyRank_f]
  rfl

end Go.Proofs.Ytcciackemicbbaa.Pure
